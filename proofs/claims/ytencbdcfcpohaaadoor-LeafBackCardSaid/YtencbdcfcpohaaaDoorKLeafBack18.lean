/- tierceref05: Read. -/
import Derived.Test.YtencbdcfcpohaaaDoorKLeafBack17
namespace Go.Proofs.YtencbdcfcpohaaaDoor
set_option linter.unusedVariables false
set_option linter.unusedSimpArgs false
open Go.RowKit

theorem num_at (s : ByteArray) (bs : List UInt8) (hbs : s.data.toList = bs) (i j : Nat) (hij : j = i + 8) (X : Nat) (hX : numL ((bs.drop i).take 8) = X) (w : World) :
    Calls Tryd.prog 19 #[.string (s.extract i j)] w fun e w' => e = .returned (.int .u64 X) ∧ Ext w w' := by
  refine (number_any (s.extract i j) w (by rw [ByteArray.size_extract]; omega)).mono ?_
  rintro e w' ⟨rfl, rfl⟩
  refine ⟨?_, Ext.refl _⟩
  rw [Lib.extract_data, hbs, hij, show i + 8 - i = 8 by omega, hX]

theorem rlread_post {R : Ending → World → Prop} {ac : Act} {w : World} {X : Nat} {lv : Int} {v : Value} {x : Bool} (h2 : ac.tmps[2]?.getD undef = .pointer (some ⟨X, 0, none⟩)) (h3 : ac.tmps[3]?.getD undef = .bool x) (hd : ac.defers = [])
    (hF : Blk w X 60 #[.int .i64 lv, v]) (hR : R (.returned (.tuple #[.agg #[.int .i64 lv, v], .bool x])) w) : bodyPost Tryd.prog Tryd.f31 R .ret ac w := by
  obtain ⟨tm, df⟩ := ac
  simp only at h2 h3 hd
  have p0 := hF.cell 0
  have p1 := hF.cell 1
  exact bodyPost_ret (v := .tuple #[.agg #[.int .i64 lv, v], .bool x]) (by simp [results, Tryd.results31, go_sem, h2, h3, p0, p1]) hd hR

theorem rlread_short (s : ByteArray) (w : World) (hs : s.size ≠ 256) :
    Calls Tryd.prog 31 #[.string s] w fun e w' => e = .returned (.tuple #[.agg #[.int .i64 0, .slice none 0 0], .bool false]) ∧ Ext w w' := by
  have h1 : ((s.size : Int) != 256) = true := by simp; omega
  go_enter Tryd.func31, Tryd.ntmps31
  go_wp2_with fail
  exact rlread_post (X := w.heap.size) (lv := 0) (v := .slice none 0 0) (x := false) rfl rfl rfl (Blk.new w _ _) ⟨rfl, by (repeat (first | with_reducible exact Below.refl _ _ | with_reducible assumption | with_reducible apply Below.drew | with_reducible apply below_drewN | (with_reducible refine below_set ?_ ?_; focus ((try simp); (try omega); done)) | (with_reducible refine below_new ?_ ?_; focus ((try simp); (try omega); done))))⟩

set_option maxRecDepth 100000 in
set_option maxHeartbeats 8000000 in
theorem rlread_256 (s : ByteArray) (wa : World) (hs : s.size = 256) (bs : List UInt8) (hbs : s.data.toList = bs) :
    Calls Tryd.prog 31 #[.string s] wa fun e w' => Ext wa w' ∧ (readB bs = false → e = .returned (.tuple #[.agg #[.int .i64 0, .slice none 0 0], .bool false])) ∧
      (readB bs = true → ∃ B cap, e = .returned (.tuple #[.agg #[.int .i64 (lvAt bs : Nat), .slice B (cntAt bs) cap], .bool true]) ∧ cntAt bs ≤ cap ∧ cap ≤ maxLen ∧ Row w' B 2 pairC (pairsAt bs (cntAt bs))) := by
  have hl : bs.length = 256 := by rw [← hbs]; exact (show s.data.toList.length = s.size by simp).trans hs
  obtain ⟨lv, hlv⟩ : ∃ k, (bs.getD 1 0).toNat = k := ⟨_, rfl⟩
  obtain ⟨n2, hn2⟩ : ∃ k, (bs.getD 2 0).toNat = k := ⟨_, rfl⟩
  obtain ⟨N, hN⟩ : ∃ N, cntAt bs = N := ⟨_, rfl⟩
  have hNn : N = min n2 15 := by rw [← hN, ← hn2]; rfl
  have b1 : lv < 256 := by rw [← hlv]; exact UInt8.toNat_lt _
  have b2 : n2 < 256 := by rw [← hn2]; exact UInt8.toNat_lt _
  have x1 := index_byte s 1 (by omega)
  have x2 := index_byte s 2 (by omega)
  rw [hbs, ← UInt8.toNat_inj, hlv] at x1
  rw [hbs, ← UInt8.toNat_inj, hn2] at x2
  obtain ⟨C, hC⟩ : ∃ C, readB bs = C := ⟨_, rfl⟩
  have hlvv : lvAt bs = lv := hlv
  have hCC : C = (goodB (lv : Nat) (pairsAt bs N) && decide (sealL (leafL lv (pairsAt bs N)) = bs)) := by
    rw [← hC]
    unfold readB
    rw [decide_eq_true hl, Bool.true_and, hlvv, hN]
  rw [hC, hN, hlvv]
  have HC := Lib.hid hCC
  have HN := Lib.hid hNn
  have h1 : ((s.size : Int) != 256) = false := by simp; omega
  have hw1 : IntKind.i64.wrap (lv : Int) = (lv : Int) := IntWalk.i64_in _ (by omega)
  have hw2 : IntKind.i64.wrap (n2 : Int) = (n2 : Int) := IntWalk.i64_in _ (by omega)
  obtain ⟨i0, hi, hz0, hz1, hz2⟩ := info_parts infoPair
  clear hC hCC hlvv hlv hn2 hN hNn
  have O0 := (Own.start wa).new 60 #[.int .i64 0, .slice none 0 0]
  have O1 : Own wa.heap.size wa [lfB (wa.heap.size + 1) lv (.slice none 0 0), lfB wa.heap.size 0 (.slice none 0 0)] ((wa.alloc (.cells #[.int .i64 0, .slice none 0 0] 60)).alloc (.cells #[.int .i64 lv, .slice none 0 0] 60)) := by
    have := O0.new 60 #[.int .i64 lv, .slice none 0 0]
    simpa using this
  have OR : ORow wa.heap.size wa [lfB (wa.heap.size + 1) lv (.slice none 0 0), lfB wa.heap.size 0 (.slice none 0 0)] 72 2 (.slice none 0 0) 0 ((pairsAt bs 0).flatMap pairC) _ := ORow.start O1 _ _
  clear O0 O1
  go_enter Tryd.func31, Tryd.ntmps31
  go_upto_region 5 with fail
  go_loopw [5, 6] (fun i _ wr => ∃ (j : Nat) (v : Value), j ≤ N ∧ i = .int .i64 j ∧ ORow wa.heap.size wa [lfB (wa.heap.size + 1) lv v, lfB wa.heap.size 0 (.slice none 0 0)] 72 2 v j ((pairsAt bs j).flatMap pairC) wr) (fun i _ _ => N - (intOf i).toNat)
  case atStart => exact ⟨0, _, by omega, rfl, OR⟩
  case round =>
    clear OR
    obtain ⟨j, v, hj, rfl, OR⟩ := hrel
    have hj15 : j ≤ 15 := by have := HN.out; omega
    by_cases hlt : j < N
    · have d1 : decide ((j : Int) < (n2 : Int)) = true := by have := HN.out; rw [decide_eq_true_iff]; omega
      have d1n : decide (j < n2) = true := by have := HN.out; rw [decide_eq_true_iff]; omega
      have d2 : decide ((j : Int) < 15) = true := by have := HN.out; rw [decide_eq_true_iff]; omega
      obtain ⟨K1, hK1⟩ : ∃ K, (pairAt bs j).1 = K := ⟨_, rfl⟩
      obtain ⟨K2, hK2⟩ : ∃ K, (pairAt bs j).2 = K := ⟨_, rfl⟩
      have hfl := pairs_flat bs j
      rw [hK1, hK2] at hfl
      obtain ⟨a, ha⟩ : ∃ a : Nat, 4 + 16 * j = a := ⟨_, rfl⟩
      have haj : j < 15 := by have := HN.out; omega
      have ha244 : a + 16 ≤ 252 := by omega
      have hA1 := Lib.hid (num_at s bs hbs a (a + 8) rfl K1 (by rw [← hK1, ← ha]; rfl))
      have hA2 := Lib.hid (num_at s bs hbs (a + 8) (a + 16) (by omega) K2 (by rw [← hK2, ← ha, show 4 + 16 * j + 8 = 12 + 16 * j by omega]; rfl))
      have hwa : IntKind.i64.wrap (4 + IntKind.i64.wrap (16 * (j : Int))) = (a : Int) := by rw [IntWalk.i64_in (16 * (j : Int)) (by omega), IntWalk.i64_in _ (by omega)]; omega
      have hae : (4 : Int) + 16 * (j : Int) = (a : Int) := by omega
      have hp8 : IntKind.i64.wrap ((a : Int) + 8) = (a : Int) + 8 := IntWalk.i64_in _ (by omega)
      have hp16 : IntKind.i64.wrap ((a : Int) + 16) = (a : Int) + 16 := IntWalk.i64_in _ (by omega)
      have ht8 : ((a : Int) + 8).toNat = a + 8 := by omega
      have ht16 : ((a : Int) + 16).toNat = a + 16 := by omega
      have hjb : (j + 1) * 16 ≤ 140737488355328 := by omega
      have hjm : j + 1 ≤ maxLen := by unfold maxLen; omega
      clear hK1 hK2 ha
      generalize hXS : (pairsAt bs j).flatMap pairC = XS at hfl OR
      clear hXS
      go_upto_region 8 with fail
      clear hae d1 d1n d2
      refine wp_phasedR (Ext) (fun l w => ORow wa.heap.size wa [lfB (wa.heap.size + 1) lv v, lfB wa.heap.size 0 (.slice none 0 0)] 72 2 v j XS w) [[], [0], [], [], [], [4], [2, 3, 4, 5], [2, 3, 4, 5, 6], [], [], [9], [], [11], [8, 9, 10, 11, 12], [2, 3, 4, 5, 6, 7, 8, 9, 10, 11, 12, 13], [2, 3, 4, 5, 6, 7, 8, 9, 10, 11, 12, 13, 14], [2, 3, 4, 5, 6, 7, 8, 9, 10, 11, 12, 13, 14, 15], [0, 1, 2, 3, 4, 5, 6, 7, 8, 9, 10, 11, 12, 13, 14, 15, 16], [0, 1, 2, 3, 4, 5, 6, 7, 8, 9, 10, 11, 12, 13, 14, 15, 16, 17], [0, 1, 2, 3, 4, 5, 6, 7, 8, 9, 10, 11, 12, 13, 14, 15, 16, 17, 18]] [29, 30, 31, 32, 33, 34, 35, 36, 37, 38, 39, 40, 41, 42, 43, 44, 45] (Ext.refl) (OR.ext (Ext.drew _)) (by kernel_rfl) ?_
      apply BuildR.det 29 (Ext.refl) (fun l w h => h) (by rfl) (by rfl) rfl
      case h =>   -- 0: t29 := Op.fieldAddr 60 (tmp 4) 1
        intro lx ax wx hE hR hF
        have e4 : ax.eval (.tmp 4) = .pointer (some ⟨wa.heap.size + 1, 0, none⟩) := hE.eval 4 (by rfl) rfl
        simp [go_sem, BigFrame.eval_const, BigFrame.eval_global, BigFrame.eval_func, ↓IntWalk.iteOmega, ev e4, hp8, hp16]
        with_reducible rfl
      apply BuildR.det 30 (Ext.refl) (fun l w h => h) (by rfl) (by rfl) rfl
      case h =>   -- 1: t30 := Op.load 58 (tmp 29)
        intro lx ax wx hE hR hF
        have e29 : ax.eval (.tmp 29) = _ := hF 0 (det 29 _) (by decide) (.head _)
        have q1 : wx.cell? ⟨wa.heap.size + 1, 1, none⟩ = some v := (ORow.own hR).all.1.cell 1
        simp [go_sem, BigFrame.eval_const, BigFrame.eval_global, BigFrame.eval_func, ↓IntWalk.iteOmega, ev e29, hp8, hp16, q1]
        with_reducible rfl
      apply BuildR.det 31 (Ext.refl) (fun l w h => h) (by rfl) (by rfl) rfl
      case h =>   -- 2: t31 := Op.move (tmp 0)
        intro lx ax wx hE hR hF
        have e0 : ax.eval (.tmp 0) = .string s := hE.eval 0 (by rfl) rfl
        simp [go_sem, BigFrame.eval_const, BigFrame.eval_global, BigFrame.eval_func, ↓IntWalk.iteOmega, ev e0, hp8, hp16]
        with_reducible rfl
      apply BuildR.det 32 (Ext.refl) (fun l w h => h) (by rfl) (by rfl) rfl
      case h =>   -- 3: t32 := Op.move (tmp 6)
        intro lx ax wx hE hR hF
        have e6 : ax.eval (.tmp 6) = .int .i64 a := hE.eval 6 (by rfl) rfl
        simp [go_sem, BigFrame.eval_const, BigFrame.eval_global, BigFrame.eval_func, ↓IntWalk.iteOmega, ev e6, hp8, hp16]
        with_reducible rfl
      apply BuildR.det 33 (Ext.refl) (fun l w h => h) (by rfl) (by rfl) rfl
      case h =>   -- 4: t33 := Op.move (tmp 6)
        intro lx ax wx hE hR hF
        have e6 : ax.eval (.tmp 6) = .int .i64 a := hE.eval 6 (by rfl) rfl
        simp [go_sem, BigFrame.eval_const, BigFrame.eval_global, BigFrame.eval_func, ↓IntWalk.iteOmega, ev e6, hp8, hp16]
        with_reducible rfl
      apply BuildR.det 34 (Ext.refl) (fun l w h => h) (by rfl) (by rfl) rfl
      case h =>   -- 5: t34 := Op.binOp BinOp.add 3 (tmp 33) (const (Value.int IntKind.i64 8)) 3
        intro lx ax wx hE hR hF
        have e33 : ax.eval (.tmp 33) = _ := hF 4 (det 33 _) (by decide) (.head _)
        simp [go_sem, BigFrame.eval_const, BigFrame.eval_global, BigFrame.eval_func, ↓IntWalk.iteOmega, ev e33, hp8, hp16]
        with_reducible rfl
      apply BuildR.det 35 (Ext.refl) (fun l w h => h) (by rfl) (by rfl) rfl
      case h =>   -- 6: t35 := Op.slice 9 (tmp 31) (some (tmp 32)) (some (tmp 34)) none
        intro lx ax wx hE hR hF
        have e31 : ax.eval (.tmp 31) = _ := hF 2 (det 31 _) (by decide) (.tail _ (.tail _ (.tail _ (.head _))))
        have e32 : ax.eval (.tmp 32) = _ := hF 3 (det 32 _) (by decide) (.tail _ (.tail _ (.head _)))
        have e34 : ax.eval (.tmp 34) = _ := hF 5 (det 34 _) (by decide) (.head _)
        simp [go_sem, BigFrame.eval_const, BigFrame.eval_global, BigFrame.eval_func, ↓IntWalk.iteOmega, ev e31, ev e32, ev e34, hp8, hp16, hs, ht8]
        with_reducible rfl
      apply BuildR.call 36 (by rfl) (by rfl) rfl
      case h =>   -- 7: t36 := Op.call {callee := Callee.value (func 19), args := #[tmp 35], argTypes
        intro lx ax wx hE hR hF
        have e35 : ax.eval (.tmp 35) = _ := hF 6 (det 35 _) (by decide) (.head _)
        simp [go_sem, BigFrame.eval_const, BigFrame.eval_global, BigFrame.eval_func, ↓IntWalk.iteOmega, ev e35, hp8, hp16]
        with_reducible exact ⟨rfl, rfl⟩
      case hc => intro lx wx hR hl hA; exact (hA1.out wx).mono (fun e w' h => ⟨h.1, h.2, ORow.ext hR h.2⟩)
      apply BuildR.det 37 (Ext.refl) (fun l w h => h) (by rfl) (by rfl) rfl
      case h =>   -- 8: t37 := Op.move (tmp 0)
        intro lx ax wx hE hR hF
        have e0 : ax.eval (.tmp 0) = .string s := hE.eval 0 (by rfl) rfl
        simp [go_sem, BigFrame.eval_const, BigFrame.eval_global, BigFrame.eval_func, ↓IntWalk.iteOmega, ev e0, hp8, hp16]
        with_reducible rfl
      apply BuildR.det 38 (Ext.refl) (fun l w h => h) (by rfl) (by rfl) rfl
      case h =>   -- 9: t38 := Op.move (tmp 6)
        intro lx ax wx hE hR hF
        have e6 : ax.eval (.tmp 6) = .int .i64 a := hE.eval 6 (by rfl) rfl
        simp [go_sem, BigFrame.eval_const, BigFrame.eval_global, BigFrame.eval_func, ↓IntWalk.iteOmega, ev e6, hp8, hp16]
        with_reducible rfl
      apply BuildR.det 39 (Ext.refl) (fun l w h => h) (by rfl) (by rfl) rfl
      case h =>   -- 10: t39 := Op.binOp BinOp.add 3 (tmp 38) (const (Value.int IntKind.i64 8)) 3
        intro lx ax wx hE hR hF
        have e38 : ax.eval (.tmp 38) = _ := hF 9 (det 38 _) (by decide) (.head _)
        simp [go_sem, BigFrame.eval_const, BigFrame.eval_global, BigFrame.eval_func, ↓IntWalk.iteOmega, ev e38, hp8, hp16]
        with_reducible rfl
      apply BuildR.det 40 (Ext.refl) (fun l w h => h) (by rfl) (by rfl) rfl
      case h =>   -- 11: t40 := Op.move (tmp 6)
        intro lx ax wx hE hR hF
        have e6 : ax.eval (.tmp 6) = .int .i64 a := hE.eval 6 (by rfl) rfl
        simp [go_sem, BigFrame.eval_const, BigFrame.eval_global, BigFrame.eval_func, ↓IntWalk.iteOmega, ev e6, hp8, hp16]
        with_reducible rfl
      apply BuildR.det 41 (Ext.refl) (fun l w h => h) (by rfl) (by rfl) rfl
      case h =>   -- 12: t41 := Op.binOp BinOp.add 3 (tmp 40) (const (Value.int IntKind.i64 16)) 3
        intro lx ax wx hE hR hF
        have e40 : ax.eval (.tmp 40) = _ := hF 11 (det 40 _) (by decide) (.head _)
        simp [go_sem, BigFrame.eval_const, BigFrame.eval_global, BigFrame.eval_func, ↓IntWalk.iteOmega, ev e40, hp8, hp16]
        with_reducible rfl
      apply BuildR.det 42 (Ext.refl) (fun l w h => h) (by rfl) (by rfl) rfl
      case h =>   -- 13: t42 := Op.slice 9 (tmp 37) (some (tmp 39)) (some (tmp 41)) none
        intro lx ax wx hE hR hF
        have e37 : ax.eval (.tmp 37) = _ := hF 8 (det 37 _) (by decide) (.tail _ (.tail _ (.tail _ (.tail _ (.head _)))))
        have e39 : ax.eval (.tmp 39) = _ := hF 10 (det 39 _) (by decide) (.tail _ (.tail _ (.head _)))
        have e41 : ax.eval (.tmp 41) = _ := hF 12 (det 41 _) (by decide) (.head _)
        simp [go_sem, BigFrame.eval_const, BigFrame.eval_global, BigFrame.eval_func, ↓IntWalk.iteOmega, ev e37, ev e39, ev e41, hp8, hp16, hs, ht8, ht16]
        with_reducible rfl
      apply BuildR.call 43 (by rfl) (by rfl) rfl
      case h =>   -- 14: t43 := Op.call {callee := Callee.value (func 19), args := #[tmp 42], argTypes
        intro lx ax wx hE hR hF
        have e42 : ax.eval (.tmp 42) = _ := hF 13 (det 42 _) (by decide) (.head _)
        simp [go_sem, BigFrame.eval_const, BigFrame.eval_global, BigFrame.eval_func, ↓IntWalk.iteOmega, ev e42, hp8, hp16]
        with_reducible exact ⟨rfl, rfl⟩
      case hc => intro lx wx hR hl hA; exact (hA2.out wx).mono (fun e w' h => ⟨h.1, h.2, ORow.ext hR h.2⟩)
      apply BuildR.det 44 (Ext.refl) (fun l w h => h) (by rfl) (by rfl) rfl
      case h =>   -- 15: t44 := Op.build 72 #[(0, tmp 36), (1, tmp 43)]
        intro lx ax wx hE hR hF
        have e36 : ax.eval (.tmp 36) = _ := hF 7 (det 36 _) (by decide) (.tail _ (.tail _ (.tail _ (.tail _ (.tail _ (.tail _ (.tail _ (.head _))))))))
        have e43 : ax.eval (.tmp 43) = _ := hF 14 (det 43 _) (by decide) (.head _)
        simp [go_sem, BigFrame.eval_const, BigFrame.eval_global, BigFrame.eval_func, ↓IntWalk.iteOmega, ev e36, ev e43, hp8, hp16]
        with_reducible rfl
      refine BuildR.new 45 (fun v w => ∃ g, v = .slice (some ⟨g, 0, none⟩) 1 1 ∧ Blk w g 72 #[.int .u64 K1, .int .u64 K2]) (fun v w w' hR ⟨g, h1, h2⟩ => ⟨g, h1, h2.ext hR⟩) (by rfl) (by rfl) rfl ?_ ?_
      · intro lx ax wx hE hR hl hA hF
        have e44 : ax.eval (.tmp 44) = _ := hF 15 (det 44 _) (by decide) (.head _)
        exact ⟨_, _, by simp [go_sem, ev e44], Ext.alloc _ _, ORow.ext hR (Ext.alloc _ _), _, rfl, Blk.new _ _ _⟩
      apply BuildR.stop
      refine ⟨by kernel_rfl, ?_⟩
      intro lx ax w8 hE OR8 hL hF
      have e29 : ax.eval (.tmp 29) = _ := hF 0 (det 29 _) (.tail _ (.tail _ (.tail _ (.tail _ (.tail _ (.tail _ (.tail _ (.tail _ (.tail _ (.tail _ (.tail _ (.tail _ (.tail _ (.tail _ (.tail _ (.tail _ (.head _)))))))))))))))))
      have e30 : ax.eval (.tmp 30) = _ := hF 1 (det 30 _) (.tail _ (.tail _ (.tail _ (.tail _ (.tail _ (.tail _ (.tail _ (.tail _ (.tail _ (.tail _ (.tail _ (.tail _ (.tail _ (.tail _ (.tail _ (.head _))))))))))))))))
      have e31 : ax.eval (.tmp 31) = _ := hF 2 (det 31 _) (.tail _ (.tail _ (.tail _ (.tail _ (.tail _ (.tail _ (.tail _ (.tail _ (.tail _ (.tail _ (.tail _ (.tail _ (.tail _ (.tail _ (.head _)))))))))))))))
      have e32 : ax.eval (.tmp 32) = _ := hF 3 (det 32 _) (.tail _ (.tail _ (.tail _ (.tail _ (.tail _ (.tail _ (.tail _ (.tail _ (.tail _ (.tail _ (.tail _ (.tail _ (.tail _ (.head _))))))))))))))
      have e33 : ax.eval (.tmp 33) = _ := hF 4 (det 33 _) (.tail _ (.tail _ (.tail _ (.tail _ (.tail _ (.tail _ (.tail _ (.tail _ (.tail _ (.tail _ (.tail _ (.tail _ (.head _)))))))))))))
      have e34 : ax.eval (.tmp 34) = _ := hF 5 (det 34 _) (.tail _ (.tail _ (.tail _ (.tail _ (.tail _ (.tail _ (.tail _ (.tail _ (.tail _ (.tail _ (.tail _ (.head _))))))))))))
      have e35 : ax.eval (.tmp 35) = _ := hF 6 (det 35 _) (.tail _ (.tail _ (.tail _ (.tail _ (.tail _ (.tail _ (.tail _ (.tail _ (.tail _ (.tail _ (.head _)))))))))))
      have e36 : ax.eval (.tmp 36) = _ := hF 7 (det 36 _) (.tail _ (.tail _ (.tail _ (.tail _ (.tail _ (.tail _ (.tail _ (.tail _ (.tail _ (.head _))))))))))
      have e37 : ax.eval (.tmp 37) = _ := hF 8 (det 37 _) (.tail _ (.tail _ (.tail _ (.tail _ (.tail _ (.tail _ (.tail _ (.tail _ (.head _)))))))))
      have e38 : ax.eval (.tmp 38) = _ := hF 9 (det 38 _) (.tail _ (.tail _ (.tail _ (.tail _ (.tail _ (.tail _ (.tail _ (.head _))))))))
      have e39 : ax.eval (.tmp 39) = _ := hF 10 (det 39 _) (.tail _ (.tail _ (.tail _ (.tail _ (.tail _ (.tail _ (.head _)))))))
      have e40 : ax.eval (.tmp 40) = _ := hF 11 (det 40 _) (.tail _ (.tail _ (.tail _ (.tail _ (.tail _ (.head _))))))
      have e41 : ax.eval (.tmp 41) = _ := hF 12 (det 41 _) (.tail _ (.tail _ (.tail _ (.tail _ (.head _)))))
      have e42 : ax.eval (.tmp 42) = _ := hF 13 (det 42 _) (.tail _ (.tail _ (.tail _ (.head _))))
      have e43 : ax.eval (.tmp 43) = _ := hF 14 (det 43 _) (.tail _ (.tail _ (.head _)))
      have e44 : ax.eval (.tmp 44) = _ := hF 15 (det 44 _) (.tail _ (.head _))
      have f45 := hF 16 _ (.head _)
      obtain ⟨g, e45, hg⟩ := f45
      rw [AllEq.frame (D := [29, 30, 31, 32, 33, 34, 35, 36, 37, 38, 39, 40, 41, 42, 43, 44, 45]) (AllEq.cons e29 (AllEq.cons e30 (AllEq.cons e31 (AllEq.cons e32 (AllEq.cons e33 (AllEq.cons e34 (AllEq.cons e35 (AllEq.cons e36 (AllEq.cons e37 (AllEq.cons e38 (AllEq.cons e39 (AllEq.cons e40 (AllEq.cons e41 (AllEq.cons e42 (AllEq.cons e43 (AllEq.cons e44 (AllEq.cons e45 (AllEq.nil)))))))))))))))))) hE rfl]
      clear hF hE e29 e30 e31 e32 e33 e34 e35 e36 e37 e38 e39 e40 e41 e42 e43 e44 e45
      simp only [List.foldl_cons, List.foldl_nil, Act.put, List.setIfInBounds_toArray, List.set_cons_succ, List.set_cons_zero]
      simp only [List.length_cons, List.length_nil, Nat.zero_add, Nat.reduceAdd, List.drop_succ_cons, List.drop_zero, List.drop_nil, tailOps]
      clear hL OR
      refine ORow.append OR8 _ _ 58 rfl i0 _ 16 Tryd.underlying58 hi hz0 hz1 hz2 rfl (by decide) rfl g 1 1 [.int .u64 K1, .int .u64 K2] rfl 72 hg rfl (by simp [Value.oneCell']) hjm hjb (fun v' w9 OR9 _ => ?_)
      rw [hfl] at OR9
      obtain ⟨B', cap', rfl⟩ := OR9.slice
      clear OR8 hg
      have q1 := OR9.own.all.1.cell 1
      have f1 := OR9.own.all.1.frozen 1
      refine wp_of_value (by simp [go_sem]; exact ⟨rfl, rfl⟩) ?_
      refine wp_of_skip (by simp [go_sem, q1, f1]; rfl) ?_
      have OR10 := OR9.set (L1 := []) rfl 1 (.slice B' (j + 1) cap')
      clear OR9 q1 f1
      go_wp2_with fail
      go_roundw
      case rel => exact ⟨j + 1, _, by omega, by go_num, OR10⟩
      case measure => simp [intOf]; omega
    · obtain rfl : j = N := by omega
      obtain ⟨Bp, cap, rfl, hcap1, hcap2, hrow⟩ := OR.rows (fun _ => rfl) (pairsAt_length bs j)
      have hlt2 := pairsAt_lt bs j
      have CG := rgood_any lv Bp j cap (pairsAt bs j) wr (pairsAt_length bs j) (by omega) hrow (fun x hx => (hlt2 x hx).1)
      obtain ⟨G, hG⟩ : ∃ G, goodB (lv : Nat) (pairsAt bs j) = G := ⟨_, rfl⟩
      rw [hG] at CG
      have HHG := Lib.hid CG
      have HOR := Lib.hid OR
      have q0 := OR.own.all.1.cell 0
      have q1 := OR.own.all.1.cell 1
      clear CG
      have dn : (decide ((j : Int) < (n2 : Int)) && decide ((j : Int) < 15)) = false := by have := HN.out; rw [Bool.and_eq_false_iff, decide_eq_false_iff_not, decide_eq_false_iff_not]; omega
      by_cases hj15 : j < 15
      · have d2 : decide ((j : Int) < 15) = true := by rw [decide_eq_true_iff]; omega
        have d1 : decide ((j : Int) < (n2 : Int)) = false := by have := HN.out; rw [decide_eq_false_iff_not]; omega
        have d1n : decide (j < n2) = false := by have := HN.out; rw [decide_eq_false_iff_not]; omega
        clear OR hrow dn
        cases G
        · have HC3 : Hid (C = false) := by
            have := HC.out
            rw [hG, Bool.false_and] at this
            exact this
          clear hG hlt2 hcap1 hcap2
          go_wp2_with fail
          refine HHG.out.mono ?_
          rintro e w7 ⟨rfl, R7⟩
          have OR2 := HOR.out.ext R7
          clear q0 q1 d1 d1n d2 HHG R7
          have hR0 := OR2.own.all.2.1
          have p0 := hR0.cell 0
          have p1 := hR0.cell 1
          have fr0 := hR0.frozen 0
          have fr1 := hR0.frozen 1
          go_wp2_with fail
          have O3 := (OR2.own.set (L1 := [_]) rfl 0 (.int .i64 0)).set (L1 := [_]) rfl 1 (.slice none 0 0)
          exact rlread_post (lv := 0) (v := .slice none 0 0) (x := false) rfl rfl rfl O3.all.2.1 ⟨O3.below, fun _ => rfl, fun h => by rw [HC3.out] at h; cases h⟩
        · have hlv8 : lv < 8 := by
            have := (goodB_iff lv (pairsAt bs j)).1 hG
            omega
          have hj15' : j ≤ 15 := by have := HN.out; omega
          obtain ⟨q, hq⟩ : ∃ q : ByteArray, (⟨(sealL (leafL lv (pairsAt bs j))).toArray⟩ : ByteArray) = q := ⟨_, rfl⟩
          have CB := fun (W : World) (h : Ext wr W) => rlbytes_any lv Bp j cap (pairsAt bs j) W (pairsAt_length bs j) hlv8 hj15' (((HOR.out.rows (fun _ => rfl) (pairsAt_length bs j)).elim fun B2 h => h.elim fun cap2 h => by obtain ⟨he, -, -, h⟩ := h; cases he; exact h : Row wr Bp 2 pairC (pairsAt bs j)).ext h) hlt2
          rw [hq] at CB
          have HB := Lib.hid CB
          have HQ := Lib.hid hq
          have HCG : Hid (C = decide (sealL (leafL lv (pairsAt bs j)) = bs)) := by
            have := HC.out
            rw [hG, Bool.true_and] at this
            exact this
          clear hG CB hq hlt2
          by_cases hqs : q = s
          · have HC1 : Hid (C = true) := by
              show C = true
              rw [HCG.out, decide_eq_true_iff]
              have h : s.data.toList = sealL (leafL lv (pairsAt bs j)) := by rw [← hqs, ← HQ.out]
              exact h.symm.trans hbs
            have heq : (q.toList == s.toList) = true := by rw [hqs]; simp
            clear hqs
            go_wp2_with fail
            refine HHG.out.mono ?_
            rintro e w7 ⟨rfl, R7⟩
            have OR2 := HOR.out.ext R7
            clear q0 q1 d1 d1n d2 HHG
            have q0 := OR2.own.all.1.cell 0
            have q1 := OR2.own.all.1.cell 1
            have HOR2 := Lib.hid OR2
            clear OR2
            go_wp2_with fail
            refine (HB.out _ R7).mono ?_
            rintro e w8 ⟨rfl, R8⟩
            have OR2 := HOR2.out.ext R8
            clear q0 q1 HB R7 R8
            have q0 := OR2.own.all.1.cell 0
            have q1 := OR2.own.all.1.cell 1
            have hR0 := OR2.own.all.2.1
            have p0 := hR0.cell 0
            have p1 := hR0.cell 1
            have fr0 := hR0.frozen 0
            have fr1 := hR0.frozen 1
            go_wp2_with fail
            have ORS := (OR2.set (L1 := [_]) rfl 0 (.int .i64 lv)).set (L1 := [_]) rfl 1 (.slice Bp j cap)
            obtain ⟨B2, cap2, he, -, -, hrow2⟩ := ORS.rows (fun _ => rfl) (pairsAt_length bs j)
            cases he
            exact rlread_post (lv := lv) (v := .slice Bp j cap) (x := true) rfl rfl rfl ORS.own.all.2.1 ⟨ORS.own.below, fun h => (by rw [HC1.out] at h; cases h), fun _ => ⟨Bp, cap, rfl, hcap1, hcap2, hrow2⟩⟩
          · have HC3 : Hid (C = false) := by
              show C = false
              rw [HCG.out, decide_eq_false_iff_not]
              intro e
              apply hqs
              apply str_ext
              rw [← HQ.out, hbs]
              exact e
            have heq : (q.toList == s.toList) = false := str_ne hqs
            clear hqs
            go_wp2_with fail
            refine HHG.out.mono ?_
            rintro e w7 ⟨rfl, R7⟩
            have OR2 := HOR.out.ext R7
            clear q0 q1 d1 d1n d2 HHG
            have q0 := OR2.own.all.1.cell 0
            have q1 := OR2.own.all.1.cell 1
            have HOR2 := Lib.hid OR2
            clear OR2
            go_wp2_with fail
            refine (HB.out _ R7).mono ?_
            rintro e w8 ⟨rfl, R8⟩
            have OR2 := HOR2.out.ext R8
            clear q0 q1 HB R7 R8
            have hR0 := OR2.own.all.2.1
            have p0 := hR0.cell 0
            have p1 := hR0.cell 1
            have fr0 := hR0.frozen 0
            have fr1 := hR0.frozen 1
            go_wp2_with fail
            have O3 := (OR2.own.set (L1 := [_]) rfl 0 (.int .i64 0)).set (L1 := [_]) rfl 1 (.slice none 0 0)
            exact rlread_post (lv := 0) (v := .slice none 0 0) (x := false) rfl rfl rfl O3.all.2.1 ⟨O3.below, fun _ => rfl, fun h => by rw [HC3.out] at h; cases h⟩
      · have d2 : decide ((j : Int) < 15) = false := by rw [decide_eq_false_iff_not]; omega
        by_cases hjn : j < n2
        · have d1 : decide ((j : Int) < (n2 : Int)) = true := by rw [decide_eq_true_iff]; omega
          have d1n : decide (j < n2) = true := by rw [decide_eq_true_iff]; omega
          clear OR hrow dn
          cases G
          · have HC3 : Hid (C = false) := by
              have := HC.out
              rw [hG, Bool.false_and] at this
              exact this
            clear hG hlt2 hcap1 hcap2
            go_wp2_with fail
            refine HHG.out.mono ?_
            rintro e w7 ⟨rfl, R7⟩
            have OR2 := HOR.out.ext R7
            clear q0 q1 d1 d1n d2 HHG R7
            have hR0 := OR2.own.all.2.1
            have p0 := hR0.cell 0
            have p1 := hR0.cell 1
            have fr0 := hR0.frozen 0
            have fr1 := hR0.frozen 1
            go_wp2_with fail
            have O3 := (OR2.own.set (L1 := [_]) rfl 0 (.int .i64 0)).set (L1 := [_]) rfl 1 (.slice none 0 0)
            exact rlread_post (lv := 0) (v := .slice none 0 0) (x := false) rfl rfl rfl O3.all.2.1 ⟨O3.below, fun _ => rfl, fun h => by rw [HC3.out] at h; cases h⟩
          · have hlv8 : lv < 8 := by
              have := (goodB_iff lv (pairsAt bs j)).1 hG
              omega
            have hj15' : j ≤ 15 := by have := HN.out; omega
            obtain ⟨q, hq⟩ : ∃ q : ByteArray, (⟨(sealL (leafL lv (pairsAt bs j))).toArray⟩ : ByteArray) = q := ⟨_, rfl⟩
            have CB := fun (W : World) (h : Ext wr W) => rlbytes_any lv Bp j cap (pairsAt bs j) W (pairsAt_length bs j) hlv8 hj15' (((HOR.out.rows (fun _ => rfl) (pairsAt_length bs j)).elim fun B2 h => h.elim fun cap2 h => by obtain ⟨he, -, -, h⟩ := h; cases he; exact h : Row wr Bp 2 pairC (pairsAt bs j)).ext h) hlt2
            rw [hq] at CB
            have HB := Lib.hid CB
            have HQ := Lib.hid hq
            have HCG : Hid (C = decide (sealL (leafL lv (pairsAt bs j)) = bs)) := by
              have := HC.out
              rw [hG, Bool.true_and] at this
              exact this
            clear hG CB hq hlt2
            by_cases hqs : q = s
            · have HC1 : Hid (C = true) := by
                show C = true
                rw [HCG.out, decide_eq_true_iff]
                have h : s.data.toList = sealL (leafL lv (pairsAt bs j)) := by rw [← hqs, ← HQ.out]
                exact h.symm.trans hbs
              have heq : (q.toList == s.toList) = true := by rw [hqs]; simp
              clear hqs
              go_wp2_with fail
              refine HHG.out.mono ?_
              rintro e w7 ⟨rfl, R7⟩
              have OR2 := HOR.out.ext R7
              clear q0 q1 d1 d1n d2 HHG
              have q0 := OR2.own.all.1.cell 0
              have q1 := OR2.own.all.1.cell 1
              have HOR2 := Lib.hid OR2
              clear OR2
              go_wp2_with fail
              refine (HB.out _ R7).mono ?_
              rintro e w8 ⟨rfl, R8⟩
              have OR2 := HOR2.out.ext R8
              clear q0 q1 HB R7 R8
              have q0 := OR2.own.all.1.cell 0
              have q1 := OR2.own.all.1.cell 1
              have hR0 := OR2.own.all.2.1
              have p0 := hR0.cell 0
              have p1 := hR0.cell 1
              have fr0 := hR0.frozen 0
              have fr1 := hR0.frozen 1
              go_wp2_with fail
              have ORS := (OR2.set (L1 := [_]) rfl 0 (.int .i64 lv)).set (L1 := [_]) rfl 1 (.slice Bp j cap)
              obtain ⟨B2, cap2, he, -, -, hrow2⟩ := ORS.rows (fun _ => rfl) (pairsAt_length bs j)
              cases he
              exact rlread_post (lv := lv) (v := .slice Bp j cap) (x := true) rfl rfl rfl ORS.own.all.2.1 ⟨ORS.own.below, fun h => (by rw [HC1.out] at h; cases h), fun _ => ⟨Bp, cap, rfl, hcap1, hcap2, hrow2⟩⟩
            · have HC3 : Hid (C = false) := by
                show C = false
                rw [HCG.out, decide_eq_false_iff_not]
                intro e
                apply hqs
                apply str_ext
                rw [← HQ.out, hbs]
                exact e
              have heq : (q.toList == s.toList) = false := str_ne hqs
              clear hqs
              go_wp2_with fail
              refine HHG.out.mono ?_
              rintro e w7 ⟨rfl, R7⟩
              have OR2 := HOR.out.ext R7
              clear q0 q1 d1 d1n d2 HHG
              have q0 := OR2.own.all.1.cell 0
              have q1 := OR2.own.all.1.cell 1
              have HOR2 := Lib.hid OR2
              clear OR2
              go_wp2_with fail
              refine (HB.out _ R7).mono ?_
              rintro e w8 ⟨rfl, R8⟩
              have OR2 := HOR2.out.ext R8
              clear q0 q1 HB R7 R8
              have hR0 := OR2.own.all.2.1
              have p0 := hR0.cell 0
              have p1 := hR0.cell 1
              have fr0 := hR0.frozen 0
              have fr1 := hR0.frozen 1
              go_wp2_with fail
              have O3 := (OR2.own.set (L1 := [_]) rfl 0 (.int .i64 0)).set (L1 := [_]) rfl 1 (.slice none 0 0)
              exact rlread_post (lv := 0) (v := .slice none 0 0) (x := false) rfl rfl rfl O3.all.2.1 ⟨O3.below, fun _ => rfl, fun h => by rw [HC3.out] at h; cases h⟩
        · have d1 : decide ((j : Int) < (n2 : Int)) = false := by rw [decide_eq_false_iff_not]; omega
          have d1n : decide (j < n2) = false := by rw [decide_eq_false_iff_not]; omega
          clear OR hrow dn
          cases G
          · have HC3 : Hid (C = false) := by
              have := HC.out
              rw [hG, Bool.false_and] at this
              exact this
            clear hG hlt2 hcap1 hcap2
            go_wp2_with fail
            refine HHG.out.mono ?_
            rintro e w7 ⟨rfl, R7⟩
            have OR2 := HOR.out.ext R7
            clear q0 q1 d1 d1n d2 HHG R7
            have hR0 := OR2.own.all.2.1
            have p0 := hR0.cell 0
            have p1 := hR0.cell 1
            have fr0 := hR0.frozen 0
            have fr1 := hR0.frozen 1
            go_wp2_with fail
            have O3 := (OR2.own.set (L1 := [_]) rfl 0 (.int .i64 0)).set (L1 := [_]) rfl 1 (.slice none 0 0)
            exact rlread_post (lv := 0) (v := .slice none 0 0) (x := false) rfl rfl rfl O3.all.2.1 ⟨O3.below, fun _ => rfl, fun h => by rw [HC3.out] at h; cases h⟩
          · have hlv8 : lv < 8 := by
              have := (goodB_iff lv (pairsAt bs j)).1 hG
              omega
            have hj15' : j ≤ 15 := by have := HN.out; omega
            obtain ⟨q, hq⟩ : ∃ q : ByteArray, (⟨(sealL (leafL lv (pairsAt bs j))).toArray⟩ : ByteArray) = q := ⟨_, rfl⟩
            have CB := fun (W : World) (h : Ext wr W) => rlbytes_any lv Bp j cap (pairsAt bs j) W (pairsAt_length bs j) hlv8 hj15' (((HOR.out.rows (fun _ => rfl) (pairsAt_length bs j)).elim fun B2 h => h.elim fun cap2 h => by obtain ⟨he, -, -, h⟩ := h; cases he; exact h : Row wr Bp 2 pairC (pairsAt bs j)).ext h) hlt2
            rw [hq] at CB
            have HB := Lib.hid CB
            have HQ := Lib.hid hq
            have HCG : Hid (C = decide (sealL (leafL lv (pairsAt bs j)) = bs)) := by
              have := HC.out
              rw [hG, Bool.true_and] at this
              exact this
            clear hG CB hq hlt2
            by_cases hqs : q = s
            · have HC1 : Hid (C = true) := by
                show C = true
                rw [HCG.out, decide_eq_true_iff]
                have h : s.data.toList = sealL (leafL lv (pairsAt bs j)) := by rw [← hqs, ← HQ.out]
                exact h.symm.trans hbs
              have heq : (q.toList == s.toList) = true := by rw [hqs]; simp
              clear hqs
              go_wp2_with fail
              refine HHG.out.mono ?_
              rintro e w7 ⟨rfl, R7⟩
              have OR2 := HOR.out.ext R7
              clear q0 q1 d1 d1n d2 HHG
              have q0 := OR2.own.all.1.cell 0
              have q1 := OR2.own.all.1.cell 1
              have HOR2 := Lib.hid OR2
              clear OR2
              go_wp2_with fail
              refine (HB.out _ R7).mono ?_
              rintro e w8 ⟨rfl, R8⟩
              have OR2 := HOR2.out.ext R8
              clear q0 q1 HB R7 R8
              have q0 := OR2.own.all.1.cell 0
              have q1 := OR2.own.all.1.cell 1
              have hR0 := OR2.own.all.2.1
              have p0 := hR0.cell 0
              have p1 := hR0.cell 1
              have fr0 := hR0.frozen 0
              have fr1 := hR0.frozen 1
              go_wp2_with fail
              have ORS := (OR2.set (L1 := [_]) rfl 0 (.int .i64 lv)).set (L1 := [_]) rfl 1 (.slice Bp j cap)
              obtain ⟨B2, cap2, he, -, -, hrow2⟩ := ORS.rows (fun _ => rfl) (pairsAt_length bs j)
              cases he
              exact rlread_post (lv := lv) (v := .slice Bp j cap) (x := true) rfl rfl rfl ORS.own.all.2.1 ⟨ORS.own.below, fun h => (by rw [HC1.out] at h; cases h), fun _ => ⟨Bp, cap, rfl, hcap1, hcap2, hrow2⟩⟩
            · have HC3 : Hid (C = false) := by
                show C = false
                rw [HCG.out, decide_eq_false_iff_not]
                intro e
                apply hqs
                apply str_ext
                rw [← HQ.out, hbs]
                exact e
              have heq : (q.toList == s.toList) = false := str_ne hqs
              clear hqs
              go_wp2_with fail
              refine HHG.out.mono ?_
              rintro e w7 ⟨rfl, R7⟩
              have OR2 := HOR.out.ext R7
              clear q0 q1 d1 d1n d2 HHG
              have q0 := OR2.own.all.1.cell 0
              have q1 := OR2.own.all.1.cell 1
              have HOR2 := Lib.hid OR2
              clear OR2
              go_wp2_with fail
              refine (HB.out _ R7).mono ?_
              rintro e w8 ⟨rfl, R8⟩
              have OR2 := HOR2.out.ext R8
              clear q0 q1 HB R7 R8
              have hR0 := OR2.own.all.2.1
              have p0 := hR0.cell 0
              have p1 := hR0.cell 1
              have fr0 := hR0.frozen 0
              have fr1 := hR0.frozen 1
              go_wp2_with fail
              have O3 := (OR2.own.set (L1 := [_]) rfl 0 (.int .i64 0)).set (L1 := [_]) rfl 1 (.slice none 0 0)
              exact rlread_post (lv := 0) (v := .slice none 0 0) (x := false) rfl rfl rfl O3.all.2.1 ⟨O3.below, fun _ => rfl, fun h => by rw [HC3.out] at h; cases h⟩
end Go.Proofs.YtencbdcfcpohaaaDoor
