/- OctetBack: what was put is got. -/
import Derived.Test.YtencbdcfcpohaaaDoorKLeafBack06
namespace Go.Proofs.YtencbdcfcpohaaaDoor
set_option linter.unusedVariables false
set_option linter.unusedSimpArgs false
open Go.RowKit

/-- The bytes of numbers with a text behind each. -/
def bks (s : List UInt8) (P : List (Nat × Nat)) : List UInt8 := P.flatMap fun p => le p.1 p.2 ++ s
theorem bks_take (s : List UInt8) (P : List (Nat × Nat)) (j : Nat) (h : j < P.length) : bks s (P.take (j + 1)) = bks s (P.take j) ++ le P[j].1 P[j].2 ++ s := by
  unfold bks
  rw [List.take_succ_eq_append_getElem h, List.flatMap_append]
  simp
theorem bks_drop (s : List UInt8) (P : List (Nat × Nat)) (j : Nat) (h : j < P.length) : bks s (P.drop j) = le P[j].1 P[j].2 ++ (s ++ bks s (P.drop (j + 1))) := by
  unfold bks
  rw [List.drop_eq_getElem_cons h, List.flatMap_cons, List.append_assoc]
theorem bks_length (s : List UInt8) (P : List (Nat × Nat)) (h : ∀ p ∈ P, p.2 ≤ 8) : (bks s P).length ≤ P.length * (8 + s.length) := by
  unfold bks
  induction P with
  | nil => simp
  | cons p P ih =>
    have h1 := ih fun q hq => h q (List.mem_cons_of_mem _ hq)
    have h2 := h p (List.mem_cons_self ..)
    simp only [List.flatMap_cons, List.length_append, le_length, List.length_cons, Nat.add_mul, Nat.one_mul] at h1 ⊢
    omega
theorem getN_le (X k : Nat) (R : List UInt8) (sh : Bool) : getN (le X k ++ R, sh) k = (X % 256 ^ k, (R, sh)) := by
  unfold getN
  rw [if_pos (by simp [le_length])]
  simp only [List.take_left' (le_length X k), List.drop_left' (le_length X k)]
  rw [le_mod, numL_le _ _ (Nat.mod_lt _ (Nat.pow_pos (by decide)))]
theorem takeN_app (s R : List UInt8) (sh : Bool) : takeN (s ++ R, sh) s.length = (s, (R, sh)) := by
  unfold takeN
  rw [if_neg (by omega), if_pos (by simp)]
  simp
theorem rs_get_le {A : World} {b : Nat} {X k : Nat} {R : List UInt8} {sh : Bool} {w : World} (h : Rs A b (le X k ++ R, sh) w) (h1 : 1 ≤ k) (h8 : k ≤ 8) (hs : (le X k ++ R).length ≤ 1000000) (G : Nat) (hG : X % 256 ^ k = G) :
    Calls Tryd.prog 18 #[.pointer (some ⟨b, 0, none⟩), .int .i64 k] w fun e w' => e = .returned (.int .u64 G) ∧ Rs A b (R, sh) w' := by
  refine (rs_get h k h1 h8 hs).mono ?_
  rw [getN_le, hG]
  exact fun e w' h => ⟨h.1, h.2.1⟩
theorem rs_take_app {A : World} {b : Nat} {s : ByteArray} {R : List UInt8} {sh : Bool} {w : World} (h : Rs A b (s.data.toList ++ R, sh) w) (hs : (s.data.toList ++ R).length ≤ 1000000) :
    Calls Tryd.prog 22 #[.pointer (some ⟨b, 0, none⟩), .int .i64 s.size] w fun e w' => e = .returned (.string s) ∧ Rs A b (R, sh) w' := by
  have hl : s.data.toList.length = s.size := Array.length_toList
  refine (rs_take h s.size (by rw [List.length_append] at hs; omega) hs).mono ?_
  rw [← hl, takeN_app]
  exact fun e w' h => ⟨h.1.trans (by simp), h.2.1⟩
theorem backs_of (xs ys : List Int) (n : Nat) (hn : n ≤ xs.length) (hn' : n ≤ ys.length) (hx : ∀ x ∈ xs, 0 ≤ x ∧ x ≤ 18446744073709551615) :
    ∃ P : List (Nat × Nat), P.length = n ∧ ∀ j (h : j < P.length) (h1 : j < xs.length) (h2 : j < ys.length), xs[j] = ((P[j].1 : Nat) : Int) ∧ P[j].1 < 18446744073709551616 ∧ 1 ≤ P[j].2 ∧ P[j].2 ≤ 8 ∧ ∃ kk : Nat, wrap64 ((IntKind.u64.wrap ys[j]).tmod 8) = (kk : Int) ∧ 1 + (kk : Int) = (P[j].2 : Nat) := by
  refine ⟨(List.range n).map fun j => ((xs.getD j 0).toNat, 1 + (wrap64 ((IntKind.u64.wrap (ys.getD j 0)).tmod 8)).toNat), by simp, ?_⟩
  intro j h h1 h2
  simp only [List.getElem_map, List.getElem_range]
  have e1 : xs.getD j 0 = xs[j] := by simp [List.getD, List.getElem?_eq_getElem h1]
  have e2 : ys.getD j 0 = ys[j] := by simp [List.getD, List.getElem?_eq_getElem h2]
  rw [e1, e2]
  have hb := hx _ (List.getElem_mem h1)
  obtain ⟨kk, hk, hk1⟩ := modU ys[j] 8 (by omega) (by omega)
  rw [hk]
  exact ⟨by omega, by omega, by omega, by omega, kk, rfl, by omega⟩

set_option maxHeartbeats 4000000 in
theorem octetBack_core (A A' : Option Addr) (len cap len' cap' : Nat) (xs ys : List Int) (s : ByteArray) (w : World) (hlen : xs.length = len) (hlen' : ys.length = len') (hm : len ≤ maxLen) (hm' : len' ≤ maxLen) (hs0 : s.size ≤ maxLen) (hx : ∀ x ∈ xs, 0 ≤ x ∧ x ≤ 18446744073709551615)
    (hrow : Row1 w A (Value.int .u64) xs) (hrow' : Row1 w A' (Value.int .i64) ys) :
    Calls Tryd.prog 5 #[.slice A len cap, .slice A' len' cap', .string s] w fun e w' => e = .returned (.bool true) ∧ Below w.heap.size w w' := by
  unfold maxLen at hm hm' hs0
  have AW := Lib.hid awake1
  by_cases hs : s.size ≤ 100
  · have hs' : decide ((100 : Int) < s.size) = false := by rw [decide_eq_false_iff_not]; omega
    go_enter Tryd.func5, Tryd.ntmps5
    go_wp2_with fail
    refine (AW.out _).mono ?_
    rintro e w1 ⟨rfl, hb1⟩
    have W0 : Ws w1 w1.heap.size [] (w1.alloc (.cells #[.pointer none, .slice none 0 0] 30)) := Ws.new_ rfl
    go_upto_region 7 with fail
    generalize hN : (if (60 : Int) < (if len' < len then (len' : Int) else len) then (60 : Int) else (if len' < len then (len' : Int) else len)) = N
    obtain ⟨n, rfl, hn1, hn2, hn3⟩ : ∃ n : Nat, N = n ∧ n ≤ len ∧ n ≤ len' ∧ n ≤ 60 := by
      refine ⟨N.toNat, ?_, ?_, ?_, ?_⟩ <;> (rw [← hN]; (repeat' split) <;> omega)
    obtain ⟨P, hPn, hP⟩ := backs_of xs ys n (by omega) (by omega) hx
    have HP := Lib.hid hP
    have hsl : s.data.toList.length = s.size := Array.length_toList
    have HSL := Lib.hid hsl
    have hlenP : ∀ Q : List (Nat × Nat), Q.length ≤ 60 → (∀ p ∈ Q, p.2 ≤ 8) → (bks s.data.toList Q).length ≤ 6480 := by
      intro Q h1 h2
      have := bks_length s.data.toList Q h2
      have h3 : Q.length * (8 + s.data.toList.length) ≤ 60 * 108 := Nat.mul_le_mul h1 (by omega)
      omega
    have hP8 : ∀ p ∈ P, p.2 ≤ 8 := by
      intro p hp
      obtain ⟨j, hj, rfl⟩ := List.getElem_of_mem hp
      exact (hP j hj (by omega) (by omega)).2.2.2.1
    have HLP := Lib.hid hlenP
    have HP8 := Lib.hid hP8
    clear hN hx hP hlenP hP8 hsl
    go_wp2_with fail
    go_loopw [9] (fun i wr => ∃ (j : Nat), j ≤ n ∧ i = .int .i64 j ∧ Ws w1 w1.heap.size (bks s.data.toList (P.take j)) wr) (fun i _ => n - (intOf i).toNat)
    case atStart => exact ⟨0, by omega, rfl, by simpa [bks] using W0⟩
    case round =>
      obtain ⟨j, hj, rfl, hW⟩ := hrel
      clear W0
      have hB := below_then hb1 hW.below_
      by_cases hlt : j < n
      · have hjx : j < xs.length := by omega
        have hjy : j < ys.length := by omega
        have hjP : j < P.length := by omega
        obtain ⟨b0, o0, rfl, hlt0, q0⟩ := hrow.in_ hB hjx
        obtain ⟨b1, o1, rfl, hlt1, q1⟩ := hrow'.in_ hB hjy
        obtain ⟨hX, hX1, hk2, hk3, kk, hk, hkk⟩ := HP.out j hjP hjx hjy
        have htk := bks_take s.data.toList P j hjP
        generalize P[j].2 = k at hk2 hk3 hkk htk
        generalize P[j].1 = X at hX hX1 htk
        have HQ0 := Lib.hid (fun (W : World) (hb : Below w.heap.size w W) => (hrow.cell_at hb hjx).trans (by rw [hX]) : ∀ W : World, Below w.heap.size w W → W.cell? ⟨b0, o0 + j, none⟩ = some (.int .u64 X))
        have HQ1 := Lib.hid (fun (W : World) (hb : Below w.heap.size w W) => (hrow'.cell_at hb hjy) : ∀ W : World, Below w.heap.size w W → W.cell? ⟨b1, o1 + j, none⟩ = some (.int .i64 ys[j]))
        have HTK := Lib.hid htk
        have hcl : clampSize k = k := getN_clamp k hk2 hk3
        have Hcl := Lib.hid hcl
        have lx := HLP.out (P.take j) (by rw [List.length_take]; omega) (fun p hp => HP8.out p (List.mem_of_mem_take hp))
        have LX := Lib.hid lx
        have HKI := Lib.hid ((IntWalk.i64_left _).trans hk)
        have HKW := Lib.hid (IntWalk.i64_in (k : Int) (by omega))
        clear hcl htk q0 q1 lx hX hk
        go_wp2_with fail
        refine wp_typed (R := Ext) (w0 := _) [[], [], [], [1, 2], [1, 2, 3], [], [], [5, 6], [5, 6, 7], [5, 6, 7, 8], [5, 6, 7, 8, 9], [5, 6, 7, 8, 9, 10], [5, 6, 7, 8, 9, 10, 11], [0, 1, 2, 3, 4, 5, 6, 7, 8, 9, 10, 11, 12]] [31, 32, 33, 34, 35, 36, 37, 38, 39, 40, 41, 42, 43] Ext.refl (fun _ _ _ => Ext.trans) (Ext.drew _) (by kernel_rfl) ?_
        apply Build.det 31 Ext.refl (by rfl) (by rfl) rfl
        case h =>   -- 0: t31 := Op.move (tmp 7)
          intro ax wx hE hR hF
          have e7 : ax.eval (.tmp 7) = .pointer (some ⟨w1.heap.size, 0, none⟩) := hE.eval 7 (by rfl) rfl
          simp [go_sem, BigFrame.eval_const, BigFrame.eval_global, BigFrame.eval_func, ↓IntWalk.iteOmega, ev e7, HKI.out, hkk, HKW.out, hlt0, hlt1]
          with_reducible rfl
        apply Build.det 32 Ext.refl (by rfl) (by rfl) rfl
        case h =>   -- 1: t32 := Op.move (tmp 0)
          intro ax wx hE hR hF
          have e0 : ax.eval (.tmp 0) = .slice (some ⟨b0, o0, none⟩) len cap := hE.eval 0 (by rfl) rfl
          simp [go_sem, BigFrame.eval_const, BigFrame.eval_global, BigFrame.eval_func, ↓IntWalk.iteOmega, ev e0, HKI.out, hkk, HKW.out, hlt0, hlt1]
          with_reducible rfl
        apply Build.det 33 Ext.refl (by rfl) (by rfl) rfl
        case h =>   -- 2: t33 := Op.move (tmp 9)
          intro ax wx hE hR hF
          have e9 : ax.eval (.tmp 9) = .int .i64 j := hE.eval 9 (by rfl) rfl
          simp [go_sem, BigFrame.eval_const, BigFrame.eval_global, BigFrame.eval_func, ↓IntWalk.iteOmega, ev e9, HKI.out, hkk, HKW.out, hlt0, hlt1]
          with_reducible rfl
        apply Build.det 34 Ext.refl (by rfl) (by rfl) rfl
        case h =>   -- 3: t34 := Op.indexAddr 53 (tmp 32) (tmp 33)
          intro ax wx hE hR hF
          have e32 : ax.eval (.tmp 32) = _ := hF 1 (det 32 _) (by decide) (.tail _ (.head _))
          have e33 : ax.eval (.tmp 33) = _ := hF 2 (det 33 _) (by decide) (.head _)
          simp [go_sem, BigFrame.eval_const, BigFrame.eval_global, BigFrame.eval_func, ↓IntWalk.iteOmega, ev e32, ev e33, HKI.out, hkk, HKW.out, hlt0, hlt1]
          with_reducible rfl
        apply Build.det 35 Ext.refl (by rfl) (by rfl) rfl
        case h =>   -- 4: t35 := Op.load 31 (tmp 34)
          intro ax wx hE hR hF
          have e34 : ax.eval (.tmp 34) = _ := hF 3 (det 34 _) (by decide) (.head _)
          have B := hB.trans (hR.mono hB.size); have q0 := HQ0.out _ B; have q1 := HQ1.out _ B
          simp [go_sem, BigFrame.eval_const, BigFrame.eval_global, BigFrame.eval_func, ↓IntWalk.iteOmega, ev e34, HKI.out, hkk, HKW.out, hlt0, hlt1, q0, q1]
          with_reducible rfl
        apply Build.det 36 Ext.refl (by rfl) (by rfl) rfl
        case h =>   -- 5: t36 := Op.move (tmp 1)
          intro ax wx hE hR hF
          have e1 : ax.eval (.tmp 1) = .slice (some ⟨b1, o1, none⟩) len' cap' := hE.eval 1 (by rfl) rfl
          simp [go_sem, BigFrame.eval_const, BigFrame.eval_global, BigFrame.eval_func, ↓IntWalk.iteOmega, ev e1, HKI.out, hkk, HKW.out, hlt0, hlt1]
          with_reducible rfl
        apply Build.det 37 Ext.refl (by rfl) (by rfl) rfl
        case h =>   -- 6: t37 := Op.move (tmp 9)
          intro ax wx hE hR hF
          have e9 : ax.eval (.tmp 9) = .int .i64 j := hE.eval 9 (by rfl) rfl
          simp [go_sem, BigFrame.eval_const, BigFrame.eval_global, BigFrame.eval_func, ↓IntWalk.iteOmega, ev e9, HKI.out, hkk, HKW.out, hlt0, hlt1]
          with_reducible rfl
        apply Build.det 38 Ext.refl (by rfl) (by rfl) rfl
        case h =>   -- 7: t38 := Op.indexAddr 54 (tmp 36) (tmp 37)
          intro ax wx hE hR hF
          have e36 : ax.eval (.tmp 36) = _ := hF 5 (det 36 _) (by decide) (.tail _ (.head _))
          have e37 : ax.eval (.tmp 37) = _ := hF 6 (det 37 _) (by decide) (.head _)
          simp [go_sem, BigFrame.eval_const, BigFrame.eval_global, BigFrame.eval_func, ↓IntWalk.iteOmega, ev e36, ev e37, HKI.out, hkk, HKW.out, hlt0, hlt1]
          with_reducible rfl
        apply Build.det 39 Ext.refl (by rfl) (by rfl) rfl
        case h =>   -- 8: t39 := Op.load 3 (tmp 38)
          intro ax wx hE hR hF
          have e38 : ax.eval (.tmp 38) = _ := hF 7 (det 38 _) (by decide) (.head _)
          have B := hB.trans (hR.mono hB.size); have q0 := HQ0.out _ B; have q1 := HQ1.out _ B
          simp [go_sem, BigFrame.eval_const, BigFrame.eval_global, BigFrame.eval_func, ↓IntWalk.iteOmega, ev e38, HKI.out, hkk, HKW.out, hlt0, hlt1, q0, q1]
          with_reducible rfl
        apply Build.det 40 Ext.refl (by rfl) (by rfl) rfl
        case h =>   -- 9: t40 := Op.convert 3 55 (tmp 39)
          intro ax wx hE hR hF
          have e39 : ax.eval (.tmp 39) = _ := hF 8 (det 39 _) (by decide) (.head _)
          simp [go_sem, BigFrame.eval_const, BigFrame.eval_global, BigFrame.eval_func, ↓IntWalk.iteOmega, ev e39, HKI.out, hkk, HKW.out, hlt0, hlt1]
          with_reducible rfl
        apply Build.det 41 Ext.refl (by rfl) (by rfl) rfl
        case h =>   -- 10: t41 := Op.binOp BinOp.rem 55 (tmp 40) (const (Value.int IntKind.u64 8)) 55
          intro ax wx hE hR hF
          have e40 : ax.eval (.tmp 40) = _ := hF 9 (det 40 _) (by decide) (.head _)
          simp [go_sem, BigFrame.eval_const, BigFrame.eval_global, BigFrame.eval_func, ↓IntWalk.iteOmega, ev e40, HKI.out, hkk, HKW.out, hlt0, hlt1]
          with_reducible rfl
        apply Build.det 42 Ext.refl (by rfl) (by rfl) rfl
        case h =>   -- 11: t42 := Op.convert 55 3 (tmp 41)
          intro ax wx hE hR hF
          have e41 : ax.eval (.tmp 41) = _ := hF 10 (det 41 _) (by decide) (.head _)
          simp [go_sem, BigFrame.eval_const, BigFrame.eval_global, BigFrame.eval_func, ↓IntWalk.iteOmega, ev e41, HKI.out, hkk, HKW.out, hlt0, hlt1]
          with_reducible rfl
        apply Build.det 43 Ext.refl (by rfl) (by rfl) rfl
        case h =>   -- 12: t43 := Op.binOp BinOp.add 3 (const (Value.int IntKind.i64 1)) (tmp 42) 3
          intro ax wx hE hR hF
          have e42 : ax.eval (.tmp 42) = _ := hF 11 (det 42 _) (by decide) (.head _)
          simp [go_sem, BigFrame.eval_const, BigFrame.eval_global, BigFrame.eval_func, ↓IntWalk.iteOmega, ev e42, HKI.out, hkk, HKW.out, hlt0, hlt1]
          with_reducible rfl
        apply Build.stop
        refine ⟨by kernel_rfl, .inr ⟨by kernel_rfl, _, rfl, rfl, ?_⟩⟩
        intro ax w2 hE R2 hF
        have e31 : ax.eval (.tmp 31) = _ := hF 0 (det 31 _) (.tail _ (.tail _ (.tail _ (.tail _ (.tail _ (.tail _ (.tail _ (.tail _ (.tail _ (.tail _ (.tail _ (.tail _ (.head _)))))))))))))
        have e32 : ax.eval (.tmp 32) = _ := hF 1 (det 32 _) (.tail _ (.tail _ (.tail _ (.tail _ (.tail _ (.tail _ (.tail _ (.tail _ (.tail _ (.tail _ (.tail _ (.head _))))))))))))
        have e33 : ax.eval (.tmp 33) = _ := hF 2 (det 33 _) (.tail _ (.tail _ (.tail _ (.tail _ (.tail _ (.tail _ (.tail _ (.tail _ (.tail _ (.tail _ (.head _)))))))))))
        have e34 : ax.eval (.tmp 34) = _ := hF 3 (det 34 _) (.tail _ (.tail _ (.tail _ (.tail _ (.tail _ (.tail _ (.tail _ (.tail _ (.tail _ (.head _))))))))))
        have e35 : ax.eval (.tmp 35) = _ := hF 4 (det 35 _) (.tail _ (.tail _ (.tail _ (.tail _ (.tail _ (.tail _ (.tail _ (.tail _ (.head _)))))))))
        have e36 : ax.eval (.tmp 36) = _ := hF 5 (det 36 _) (.tail _ (.tail _ (.tail _ (.tail _ (.tail _ (.tail _ (.tail _ (.head _))))))))
        have e37 : ax.eval (.tmp 37) = _ := hF 6 (det 37 _) (.tail _ (.tail _ (.tail _ (.tail _ (.tail _ (.tail _ (.head _)))))))
        have e38 : ax.eval (.tmp 38) = _ := hF 7 (det 38 _) (.tail _ (.tail _ (.tail _ (.tail _ (.tail _ (.head _))))))
        have e39 : ax.eval (.tmp 39) = _ := hF 8 (det 39 _) (.tail _ (.tail _ (.tail _ (.tail _ (.head _)))))
        have e40 : ax.eval (.tmp 40) = _ := hF 9 (det 40 _) (.tail _ (.tail _ (.tail _ (.head _))))
        have e41 : ax.eval (.tmp 41) = _ := hF 10 (det 41 _) (.tail _ (.tail _ (.head _)))
        have e42 : ax.eval (.tmp 42) = _ := hF 11 (det 42 _) (.tail _ (.head _))
        have e43 : ax.eval (.tmp 43) = _ := hF 12 (det 43 _) (.head _)
        rw [AllEq.frame (D := [31, 32, 33, 34, 35, 36, 37, 38, 39, 40, 41, 42, 43]) (AllEq.cons e31 (AllEq.cons e32 (AllEq.cons e33 (AllEq.cons e34 (AllEq.cons e35 (AllEq.cons e36 (AllEq.cons e37 (AllEq.cons e38 (AllEq.cons e39 (AllEq.cons e40 (AllEq.cons e41 (AllEq.cons e42 (AllEq.cons e43 (AllEq.nil)))))))))))))) hE rfl]
        clear hF hE e31 e32 e33 e34 e35 e36 e37 e38 e39 e40 e41 e42 e43
        simp only [List.foldl_cons, List.foldl_nil, Act.put, List.setIfInBounds_toArray, List.set_cons_succ, List.set_cons_zero]
        refine wp_of_enter (by simp [go_sem]) (ws_put (hW.call R2) X k k Hcl.out hX1 (by have := LX.out; omega)) ?_
        rintro e w3 ⟨rfl, hW⟩
        refine ⟨_, rfl, ?_⟩
        clear hB
        go_wp2_with fail
        refine (ws_text hW s (by have := LX.out; simp [le_length]; omega)).mono ?_
        rintro e w4 ⟨rfl, hW⟩
        go_wp2_with fail
        go_roundw
        case rel => exact ⟨j + 1, by omega, by go_num, by rw [HTK.out]; exact hW⟩
        case measure => simp [intOf]; omega
      · obtain rfl : n = j := by omega
        rw [List.take_of_length_le (by omega)] at hW
        have lx := HLP.out P (by omega) HP8.out
        clear hlt hj
        go_wp2_with fail
        refine (ws_str hW).mono ?_
        rintro e w2 ⟨rfl, hW⟩
        go_wp2_with fail
        refine (rs_of ⟨(bks s.data.toList P).toArray⟩ w2).mono ?_
        rintro e w3 ⟨rfl, R0⟩
        have hb2 : w1.heap.size ≤ w2.heap.size := Nat.le_of_lt hW.size
        have hB2 := below_then hb1 hW.below_
        have lB : ∀ Q : List (Nat × Nat), Q.length ≤ 60 → (∀ p ∈ Q, p.2 ≤ 8) → (bks s.data.toList Q).length ≤ 6480 := HLP.out
        clear hW hB lB
        have hb2' : w.heap.size ≤ w2.heap.size := Nat.le_trans hb1.size hb2
        generalize w2.heap.size = b2 at R0 hb2 hb2'
        have R0' : Rs w2 b2 (bks s.data.toList P, false) w3 := by simpa using R0
        clear R0
        go_wp2_with fail
        go_loopw [11] (fun i wr => ∃ (j : Nat), j ≤ n ∧ i = .int .i64 j ∧ Rs w2 b2 (bks s.data.toList (P.drop j), false) wr) (fun i _ => n - (intOf i).toNat)
        case atStart => exact ⟨0, by omega, rfl, by simpa using R0'⟩
        case round =>
          obtain ⟨j, hj, rfl, hR⟩ := hrel
          clear R0'
          have hB := hB2.trans (hR.below.mono hb2')
          by_cases hlt : j < n
          · have hjx : j < xs.length := by omega
            have hjy : j < ys.length := by omega
            have hjP : j < P.length := by omega
            obtain ⟨b0, o0, rfl, hlt0, q0⟩ := hrow.in_ hB hjx
            obtain ⟨b1, o1, rfl, hlt1, q1⟩ := hrow'.in_ hB hjy
            obtain ⟨hX, hX1, hk2, hk3, kk, hk, hkk⟩ := HP.out j hjP hjx hjy
            have htk := bks_drop s.data.toList P j hjP
            have l1 := HLP.out (P.drop j) (by rw [List.length_drop]; omega) (fun p hp => HP8.out p (List.mem_of_mem_drop hp))
            rw [htk] at l1 hR
            generalize P[j].2 = k at hk2 hk3 hkk htk hR l1
            generalize P[j].1 = X at hX hX1 htk hR l1
            rw [hX] at q0
            have l2 : (s.data.toList ++ bks s.data.toList (P.drop (j + 1))).length ≤ 6480 := by
              rw [List.length_append] at l1
              omega
            have L1 := Lib.hid l1
            have L2 := Lib.hid l2
            clear htk l1 l2 hX
            obtain ⟨G, hG⟩ : ∃ G : Nat, X % 256 ^ k = G := ⟨_, rfl⟩
            by_cases h8 : k < 8
            · have h8' : (k : Int) < 8 := by omega
              have h8d : decide ((k : Int) < 8) = true := by simpa using h8'
              obtain ⟨M, hM⟩ : ∃ M : Nat, 256 ^ k = M := ⟨_, rfl⟩
              have hM1 : 0 < M := by rw [← hM]; exact Nat.pow_pos (by decide)
              have hM2 : M < 18446744073709551616 := by rw [← hM]; have := Nat.pow_le_pow_right (show 0 < 256 by decide) (show k ≤ 7 by omega); omega
              have hsh : IntKind.u64.wrap (2 ^ (8 * k)) = (M : Int) := by
                have e : (2 : Int) ^ (8 * k) = ((256 ^ k : Nat) : Int) := by rw [show (256 : Nat) = 2 ^ 8 by decide, ← Nat.pow_mul]; simp
                rw [e, hM]
                exact IntWalk.u64_in _ (by omega)
              have hMz : ¬ ((M : Int) = 0) := by omega
              have hMn : ¬ M = 0 := by omega
              have hE : (X : Int) % (M : Int) = (G : Int) := by rw [← hG, hM]; omega
              have HG := Lib.hid hG
              clear hM hM1 hM2 hG
              go_wp2_with fail
              refine (rs_get_le hR hk2 hk3 (by have := L1.out; omega) G HG.out).mono ?_
              rintro e w4 ⟨rfl, hR⟩
              go_wp2_with fail
              refine (rs_take_app hR (by have := L2.out; omega)).mono ?_
              rintro e w5 ⟨rfl, hR⟩
              go_wp2_with fail
              go_roundw
              case rel => exact ⟨j + 1, by omega, by go_num, hR⟩
              case measure => simp [intOf]; omega
            · have h8' : ¬ (k : Int) < 8 := by omega
              have h8d : decide ((k : Int) < 8) = false := by simp; omega
              have hE : G = X := by rw [← hG, show k = 8 by omega]; exact Nat.mod_eq_of_lt hX1
              have HG := Lib.hid hG
              clear hG
              subst hE
              go_wp2_with fail
              refine (rs_get_le hR hk2 hk3 (by have := L1.out; omega) G HG.out).mono ?_
              rintro e w4 ⟨rfl, hR⟩
              go_wp2_with fail
              refine (rs_take_app hR (by have := L2.out; omega)).mono ?_
              rintro e w5 ⟨rfl, hR⟩
              go_wp2_with fail
              go_roundw
              case rel => exact ⟨j + 1, by omega, by go_num, hR⟩
              case measure => simp [intOf]; omega
          · obtain rfl : n = j := by omega
            rw [List.drop_of_length_le (by omega)] at hR
            clear hlt hj hrow hrow' HP HLP HP8
            go_wp2_with fail
            refine (rs_end_yes hR).mono ?_
            rintro e w4 ⟨rfl, rfl⟩
            go_wp2_with fail
            go_ret
            exact ⟨rfl, hB⟩
  · have hs' : decide ((100 : Int) < s.size) = true := by rw [decide_eq_true_iff]; omega
    go_enter Tryd.func5, Tryd.ntmps5
    go_wp2_with fail
    refine (AW.out _).mono ?_
    rintro e w1 ⟨rfl, hb1⟩
    go_wp2_with fail
    go_ret
    exact ⟨rfl, hb1⟩
theorem octetBack_walk (w : World) (v0 v1 v2 : Value) (h0 : Arg Tryd.prog w 53 v0) (h1 : Arg Tryd.prog w 54 v1) (h2 : Arg Tryd.prog w 9 v2) :
    Calls Tryd.prog 5 #[v0, v1, v2] w fun e w' => e = .returned (.bool true) ∧ Below w.heap.size w w' := by
  obtain ⟨A, len, cap, xs, rfl, hc, hm, h3, h5, h4⟩ := arg_ints Tryd.underlying53 Tryd.underlying31 (by kernel_rfl) h0
  obtain ⟨A', len', cap', ys, rfl, hc', hm', h3', h5', h4'⟩ := arg_ints Tryd.underlying54 Tryd.underlying3 (by kernel_rfl) h1
  obtain ⟨s, rfl, hs⟩ := arg_string Tryd.underlying9 h2
  exact octetBack_core A A' len cap len' cap' xs ys s w h3 h3' (by omega) (by omega) hs (fun x hx => bounds_u64 (h5 x hx)) h4 h4'
end Go.Proofs.YtencbdcfcpohaaaDoor

/- OctetWrites: what was written. -/
namespace Go.Proofs.YtencbdcfcpohaaaDoor
set_option linter.unusedVariables false
set_option linter.unusedSimpArgs false
open Go.RowKit

/-- A deed of a writer; another block stays. -/
theorem Ws.deed {A w : World} {b b2 : Nat} {L L1 : List UInt8} {t : TypeId} {cs : Array Value} (h : Ws A b L w) (h2 : Blk w b2 t cs) (ht : t ≠ 5) (hb : b2 ≠ b) {f : FuncId} {args : Array Value} {v : Value}
    (hc : ∀ g, Wr w b g L → Calls Tryd.prog f args w fun e w' => e = .returned v ∧ ∃ g1, Wr w' b g1 L1 ∧ Wrote w b g g1 w') : Calls Tryd.prog f args w fun e w' => e = .returned v ∧ Ws A b L1 w' ∧ Blk w' b2 t cs := by
  obtain ⟨g, hW, hg, hA, hs⟩ := h
  have hne := hW.apart h2 ht
  refine (hc g hW).mono ?_
  rintro e w' ⟨rfl, g', hW', hK⟩
  exact ⟨rfl, ⟨g', hW', hK.own_from hs hg, hK.below hA hs (Nat.le_refl _) hg, Nat.le_trans hs hK.size⟩, (hK.block b2 h2.lt hb (fun e => hne e.symm)).trans h2⟩

structure ActD where
  kind : Int
  n : Nat
  size : Int
  s : ByteArray
def actC (x : ActD) : List Value := [.int .i64 x.kind, .int .u64 x.n, .int .i64 x.size, .string x.s]
theorem cells_act : Tryd.prog.cellsOf 33 = 4 := by kernel_rfl
theorem cells_ai : Tryd.prog.cellsOf 3 = 1 := by kernel_rfl
theorem cells_au : Tryd.prog.cellsOf 31 = 1 := by kernel_rfl
theorem cells_as : Tryd.prog.cellsOf 9 = 1 := by kernel_rfl
def ActD.good (x : ActD) : Prop := x.n < 18446744073709551616 ∧ (-9223372036854775808 ≤ x.size ∧ x.size ≤ 9223372036854775807) ∧ x.s.size ≤ maxLen
theorem fit_act {w : World} {cs : List Value} (hf : Fit Tryd.prog w 33 cs) : ∃ x : ActD, cs = actC x ∧ x.good := by
  obtain ⟨hl, hx⟩ := fit_fields 4 Tryd.underlying33 cells_act hf
  obtain ⟨k, e0, _⟩ := cell_int Tryd.underlying3 (hx 0 0 3 1 rfl cells_ai)
  obtain ⟨n, e1, wn⟩ := cell_int Tryd.underlying31 (hx 1 1 31 1 rfl cells_au)
  obtain ⟨z, e2, wz⟩ := cell_int Tryd.underlying3 (hx 2 2 3 1 rfl cells_ai)
  obtain ⟨s, e3, ws⟩ := cell_string Tryd.underlying9 (hx 3 3 9 1 rfl cells_as)
  have hb := bounds_u64 wn
  have hz := bounds_i64 wz
  obtain ⟨m, rfl⟩ : ∃ m : Nat, n = m := ⟨n.toNat, by omega⟩
  exact ⟨⟨k, m, z, s⟩, list4_of hl e0 e1 e2 e3, by show m < _; omega, hz, ws⟩
theorem arg_acts {w : World} {v : Value} (h : Arg Tryd.prog w 22 v) :
    ∃ A len cap, ∃ xs : List ActD, v = .slice A len cap ∧ len ≤ cap ∧ cap ≤ maxLen ∧ xs.length = len ∧ (∀ x ∈ xs, x.good) ∧ Row w A 4 actC xs :=
  fit_row actC ActD.good Tryd.underlying22 cells_act (by decide) (fun _ _ hf => fit_act hf) (arg_slice Tryd.underlying22 h)
theorem Row.act_in {w w' : World} {A : Option Addr} {xs : List ActD} (h : Row w A 4 actC xs) (hb : Below w.heap.size w w') {j : Nat} (hj : j < xs.length) :
    ∃ b o, A = some ⟨b, o, none⟩ ∧ b < w.heap.size ∧ w'.cell? ⟨b, o + j * 4, none⟩ = some (.int .i64 xs[j].kind) ∧ w'.cell? ⟨b, o + j * 4 + 1, none⟩ = some (.int .u64 xs[j].n) ∧ w'.cell? ⟨b, o + j * 4 + 2, none⟩ = some (.int .i64 xs[j].size) ∧ w'.cell? ⟨b, o + j * 4 + 3, none⟩ = some (.string xs[j].s) := by
  obtain ⟨b, o, hA, hlt, hc⟩ := h.in_ hb hj
  exact ⟨b, o, hA, hlt, hc 0 _ rfl, hc 1 _ rfl, hc 2 _ rfl, hc 3 _ rfl⟩

theorem app_str (L : List UInt8) (S : ByteArray) : (⟨L.toArray⟩ : ByteArray) ++ S = ⟨(L ++ S.data.toList).toArray⟩ := by
  have : S = ⟨S.data.toList.toArray⟩ := by simp
  rw [this, mk_append]
def strOf : Value → Nat
  | .string s => s.size
  | _ => 0
theorem app_zero (L : List UInt8) (m : Nat) : (⟨(L ++ List.replicate m 0).toArray⟩ : ByteArray) ++ ⟨#[0]⟩ = ⟨(L ++ List.replicate (m + 1) 0).toArray⟩ := by
  rw [app_str]
  show (⟨((L ++ List.replicate m 0) ++ [0]).toArray⟩ : ByteArray) = _
  rw [List.append_assoc, ← List.replicate_succ']
theorem size_fill (L : List UInt8) (m : Nat) : (⟨(L ++ List.replicate m 0).toArray⟩ : ByteArray).size = L.length + m := by
  show (L ++ List.replicate m 0).toArray.size = _
  simp
theorem clear_size (L : List UInt8) : (⟨L.toArray⟩ : ByteArray).size = L.length := List.size_toArray
set_option maxHeartbeats 4000000 in
theorem octetWrites_core (A : Option Addr) (len cap : Nat) (xs : List ActD) (w : World) (hlen : xs.length = len) (hm : len ≤ maxLen) (hx : ∀ x ∈ xs, x.good) (hrow : Row w A 4 actC xs) :
    Calls Tryd.prog 3 #[.slice A len cap] w fun e w' => e = .returned (.bool true) ∧ Below w.heap.size w w' := by
  unfold maxLen at hm
  have AW := Lib.hid awake1
  go_enter Tryd.func3, Tryd.ntmps3
  go_wp2_with fail
  refine (AW.out _).mono ?_
  rintro e w1 ⟨rfl, hb1⟩
  have W0 : Ws w1 w1.heap.size [] (w1.alloc (.cells #[.pointer none, .slice none 0 0] 30)) := Ws.new_ rfl
  go_wp2_with fail
  go_loopw [4, 5] (fun s i wr => ∃ (j : Nat) (L : List UInt8) (Q : ByteArray), j ≤ len ∧ j ≤ 60 ∧ i = .int .i64 j ∧ s = .string Q ∧ Hid (Q = ⟨L.toArray⟩) ∧ Ws w1 w1.heap.size L wr ∧ L.length ≤ 4096 + 100 * j) (fun _ i _ => 60 - (intOf i).toNat)
  case atStart => exact ⟨0, [], ⟨#[]⟩, by omega, by omega, rfl, rfl, rfl, W0, by simp⟩
  case round =>
    obtain ⟨j, L, Q, hj, hj2, rfl, rfl, HQ, hW, hL⟩ := hrel
    have hQs : Q.size = L.length := by rw [HQ.out]; exact List.size_toArray
    clear W0
    have hB := below_then hb1 hW.below_
    by_cases hlt : j < len ∧ j < 60
    · obtain ⟨hlt, hlt2⟩ := hlt
      have hjx : j < xs.length := by omega
      obtain ⟨b0, o0, rfl, hlt0, q0, q1, q2, q3⟩ := hrow.act_in hB hjx
      obtain ⟨gn, gz, gs⟩ := hx _ (List.getElem_mem hjx)
      generalize xs[j].kind = k at q0
      generalize xs[j].n = N at q1 gn
      generalize xs[j].size = Z at q2 gz
      generalize xs[j].s = S at q3 gs
      unfold maxLen at gs
      have hX : Blk (wr.alloc (.cells #[.int .i64 k, .int .u64 N, .int .i64 Z, .string S] 33)) wr.heap.size 33 #[.int .i64 k, .int .u64 N, .int .i64 Z, .string S] := Blk.new _ _ _
      have hW := hW.alloc (.cells #[.int .i64 k, .int .u64 N, .int .i64 Z, .string S] 33)
      have hne : wr.heap.size ≠ w1.heap.size := by have := (‹Ws w1 w1.heap.size L wr›).size; omega
      have hclear : True := trivial
      by_cases hS : S.size ≤ 100
      · have hSd : decide ((100 : Int) < S.size) = false := by rw [decide_eq_false_iff_not]; omega
        by_cases hk1 : k = 1
        · subst hk1
          obtain ⟨K, hK⟩ : ∃ K : Nat, clampSize Z = K := ⟨_, rfl⟩
          have hK8 : K ≤ 8 := by rw [← hK]; unfold clampSize; omega
          have hd := hW.deed (L1 := L ++ le N K) hX (by decide) hne (fun g h => hK ▸ put_any _ g L N Z _ gn h (by omega))
          have HD := Lib.hid hd
          have hr : ∀ W : World, Calls Tryd.prog 12 #[.int .u64 N, .int .i64 Z] W fun e w' => e = .returned (.string ⟨(le N K).toArray⟩) ∧ Below W.heap.size W w' := fun W => hK ▸ rbytes_any N Z W gn
          obtain ⟨T, hT⟩ : ∃ T : ByteArray, (⟨(le N K).toArray⟩ : ByteArray) = T := ⟨_, rfl⟩
          rw [hT] at hr
          have HR := Lib.hid hr
          have hTs : T.size = K := by rw [← hT, clear_size, le_length]
          obtain ⟨L', hL'⟩ : ∃ L' : List UInt8, L ++ le N K = L' := ⟨_, rfl⟩
          obtain ⟨Q', hcat⟩ : ∃ Q', Q ++ T = Q' := ⟨_, rfl⟩
          have HQ' : Hid (Q' = ⟨L'.toArray⟩) := by show Q' = _; rw [← hcat, HQ.out, ← hT, mk_append, hL']
          have HL : Hid (L'.length ≤ 4096 + 100 * (j + 1)) := by rw [← hL']; simp [Hid, le_length]; omega
          rw [hL'] at HD
          clear hd hr hX hW hK hL' hT
          go_wp2_with fail
          refine HD.out.mono ?_
          rintro e w2 ⟨rfl, hW, hX⟩
          clear q0 q1 q2 q3
          have q0 := hX.cell 0
          have q1 := hX.cell 1
          have q2 := hX.cell 2
          have q3 := hX.cell 3
          go_wp2_with fail
          refine (HR.out _).mono ?_
          rintro e w3 ⟨rfl, hb⟩
          have hW := hW.call hb
          clear q0 q1 q2 q3 hX hb
          have hLs : (L'.length : Int) = (Q'.size : Int) := by rw [HQ'.out, clear_size]
          have C5 := ws_str hW
          rw [← HQ'.out] at C5
          go_wp2_with fail
          refine C5.mono ?_
          rintro e w5 ⟨rfl, hW⟩
          have C6 := ws_len hW
          rw [hLs] at C6
          clear C5 hLs
          go_wp2_with fail
          refine C6.mono ?_
          rintro e w6 ⟨rfl, rfl⟩
          clear C6
          go_wp2_with fail
          go_roundw
          case rel => exact ⟨j + 1, L', Q', by omega, by omega, by go_num, rfl, HQ', hW, HL.out⟩
          case measure => simp [intOf]; omega
        · by_cases hk2 : k = 2
          · subst hk2
            have hd := hW.deed (L1 := L ++ S.data.toList) hX (by decide) hne (fun g h => text_any _ g L S _ h (by omega))
            have HD := Lib.hid hd
            have hSl : S.data.toList.length = S.size := Array.length_toList
            obtain ⟨L', hL'⟩ : ∃ L' : List UInt8, L ++ S.data.toList = L' := ⟨_, rfl⟩
            obtain ⟨Q', hcat⟩ : ∃ Q', Q ++ S = Q' := ⟨_, rfl⟩
            have HQ' : Hid (Q' = ⟨L'.toArray⟩) := by show Q' = _; rw [← hcat, HQ.out, app_str, hL']
            have HL : Hid (L'.length ≤ 4096 + 100 * (j + 1)) := by rw [← hL']; simp only [Hid, List.length_append]; omega
            rw [hL'] at HD
            clear hd hX hW hL' hSl
            go_wp2_with fail
            refine HD.out.mono ?_
            rintro e w2 ⟨rfl, hW, hX⟩
            clear q0 q1 q2 q3
            have q3 := hX.cell 3
            go_wp2_with fail
            clear q3 hX
            have hLs : (L'.length : Int) = (Q'.size : Int) := by rw [HQ'.out, clear_size]
            have C5 := ws_str hW
            rw [← HQ'.out] at C5
            go_wp2_with fail
            refine C5.mono ?_
            rintro e w5 ⟨rfl, hW⟩
            have C6 := ws_len hW
            rw [hLs] at C6
            clear C5 hLs
            go_wp2_with fail
            refine C6.mono ?_
            rintro e w6 ⟨rfl, rfl⟩
            clear C6
            go_wp2_with fail
            go_roundw
            case rel => exact ⟨j + 1, L', Q', by omega, by omega, by go_num, rfl, HQ', hW, HL.out⟩
            case measure => simp [intOf]; omega
          · have hz1 : (k == 1) = false := by simpa using hk1
            have hz2 : (k == 2) = false := by simpa using hk2
            have hz3 : decide (k = 1) = false := by simpa using hk1
            have hz4 : decide (k = 2) = false := by simpa using hk2
            by_cases hZ : Z ≤ 4096
            · have hd := hW.deed (L1 := fillL L Z) hX (by decide) hne (fun g h => fill_any _ g L Z _ h (by omega) (by omega))
              have HD := Lib.hid hd
              clear hd hX hW
              go_wp2_with fail
              refine HD.out.mono ?_
              rintro e w2 ⟨rfl, hW, hX⟩
              clear q0 q1 q2 q3
              have q2 := hX.cell 2
              go_wp2_with fail
              obtain ⟨L', hL'⟩ : ∃ L' : List UInt8, fillL L Z = L' := ⟨_, rfl⟩
              rw [hL'] at hW
              have HL' := Lib.hid hL'
              clear hL'
              go_loop [4] (fun s => ∃ (m : Nat) (R : ByteArray), s = .string R ∧ Hid (R = ⟨(L ++ List.replicate m 0).toArray⟩) ∧ (m = 0 ∨ (L.length : Int) + m ≤ Z)) (fun s => Z.toNat - strOf s)
              case atStart => exact ⟨0, Q, rfl, by simpa [Hid] using HQ.out, .inl rfl⟩
              case round =>
                obtain ⟨m, R, rfl, HRR, hmz⟩ := hrel
                have hRs : R.size = L.length + m := by rw [HRR.out, size_fill]
                clear hQs HQ
                by_cases hlz : (R.size : Int) < Z
                · have hlzd : decide ((R.size : Int) < Z) = true := by rw [decide_eq_true_iff]; omega
                  obtain ⟨R', hR'⟩ : ∃ R', R ++ (⟨#[0]⟩ : ByteArray) = R' := ⟨_, rfl⟩
                  have HR' : Hid (R' = ⟨(L ++ List.replicate (m + 1) 0).toArray⟩) := by show R' = _; rw [← hR', HRR.out, app_zero]
                  have hs' : R'.size = R.size + 1 := by rw [HR'.out, size_fill, hRs]; omega
                  have HS' := Lib.hid hs'
                  clear hs'
                  go_wp2_with fail
                  go_round
                  case rel => exact ⟨m + 1, R', rfl, HR', .inr (by omega)⟩
                  case measure => have := HS'.out; simp [strOf]; omega
                · have hlzd : decide ((R.size : Int) < Z) = false := by rw [decide_eq_false_iff_not]; omega
                  obtain ⟨Q', rfl⟩ : ∃ Q', Q' = R := ⟨_, rfl⟩
                  have HQ' : Hid (Q' = ⟨L'.toArray⟩) := by
                    show Q' = _
                    rw [HRR.out, ← HL'.out]
                    unfold fillL
                    rw [show (Z - L.length).toNat = m by omega]
                  have HL : Hid (L'.length ≤ 4096 + 100 * (j + 1)) := by
                    show L'.length ≤ _
                    rw [← HL'.out]
                    unfold fillL
                    rw [List.length_append, List.length_replicate]
                    omega
                  have hLs : (L'.length : Int) = (Q'.size : Int) := by rw [HQ'.out, clear_size]
                  have C5 := ws_str hW
                  rw [← HQ'.out] at C5
                  go_wp2_with fail
                  refine C5.mono ?_
                  rintro e w5 ⟨rfl, hW⟩
                  have C6 := ws_len hW
                  rw [hLs] at C6
                  clear C5 hLs
                  go_wp2_with fail
                  refine C6.mono ?_
                  rintro e w6 ⟨rfl, rfl⟩
                  clear C6
                  go_wp2_with fail
                  go_roundw
                  case rel => exact ⟨j + 1, L', Q', by omega, by omega, by go_num, rfl, HQ', hW, HL.out⟩
                  case measure => simp [intOf]; omega
            · have hZd : decide ((4096 : Int) < Z) = true := by rw [decide_eq_true_iff]; omega
              have hf : Below w.heap.size w (wr.alloc (.cells #[.int .i64 k, .int .u64 N, .int .i64 Z, .string S] 33)) := hB.alloc hB.size _
              have HF := Lib.hid hf
              clear hf hX hW
              go_wp2_with fail
              go_ret
              exact ⟨rfl, HF.out⟩
      · have hSd : decide ((100 : Int) < S.size) = true := by rw [decide_eq_true_iff]; omega
        have hf : Below w.heap.size w (wr.alloc (.cells #[.int .i64 k, .int .u64 N, .int .i64 Z, .string S] 33)) := hB.alloc hB.size _
        have HF := Lib.hid hf
        clear hf hX hW
        go_wp2_with fail
        go_ret
        exact ⟨rfl, HF.out⟩
    · have hlt' : len ≤ j ∨ j = 60 := by omega
      rcases hlt' with hlt' | hlt'
      · obtain rfl : len = j := by omega
        go_wp2_with fail
        go_ret
        exact ⟨rfl, hB⟩
      · subst hlt'
        by_cases h6 : 60 < len
        · go_wp2_with fail
          go_ret
          exact ⟨rfl, hB⟩
        · go_wp2_with fail
          go_ret
          exact ⟨rfl, hB⟩
theorem octetWrites_walk (w : World) (v0 : Value) (h0 : Arg Tryd.prog w 22 v0) :
    Calls Tryd.prog 3 #[v0] w fun e w' => e = .returned (.bool true) ∧ Below w.heap.size w w' := by
  obtain ⟨A, len, cap, xs, rfl, hc, hm, h3, h5, h4⟩ := arg_acts h0
  exact octetWrites_core A len cap xs w h3 (by omega) h5 h4
end Go.Proofs.YtencbdcfcpohaaaDoor
