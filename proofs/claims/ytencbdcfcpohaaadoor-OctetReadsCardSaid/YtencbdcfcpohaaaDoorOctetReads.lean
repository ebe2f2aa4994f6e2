/- OctetReads: what was read. -/
import Derived.Test.YtencbdcfcpohaaaDoorOctetE
import Derived.Test.YtencbdcfcpohaaaDoorNumber
namespace Go.Proofs.YtencbdcfcpohaaaDoor
set_option linter.unusedVariables false
set_option linter.unusedSimpArgs false
open Go.RowKit

theorem takeN_short (st : List UInt8 × Bool) (k : Nat) : (takeN st k).1.length ≤ k := by
  unfold takeN
  rw [if_neg (by omega)]
  split
  · simp; omega
  · simp
theorem rnumber_of (T : List UInt8) (h : T.length ≤ 8) (w : World) : Calls Tryd.prog 19 #[.string ⟨T.toArray⟩] w fun e w' => e = .returned (.int .u64 (numL T)) ∧ w = w' := by
  have := number_any ⟨T.toArray⟩ w (by rw [clear_size]; exact h)
  simpa using this
/-- The reader and its reference's, no third block. -/
structure Duo0 (A : World) (n b bu : Nat) (st : List UInt8 × Bool) (w : World) : Prop where
  r : Blk w b 86 (rdr ⟨st.1.toArray⟩ st.2)
  u : Blk w bu 45 (rdrR st)
  below : Below n A w
  nb : n ≤ b
  nu : n ≤ bu
  ne : b ≠ bu
  nw : n ≤ w.heap.size
theorem Duo0.with {A w : World} {n b bu : Nat} {st : List UInt8 × Bool} (h : Duo0 A n b bu st w) (t : TypeId) (X : Array Value) : Duo A n b bu w.heap.size t X st st (w.alloc (.cells X t)) :=
  ⟨h.r.alloc _, h.u.alloc _, Blk.new _ _ _, h.below.alloc h.nw _, h.nb, h.nu, h.ne, fun e => by have := h.r.lt; omega, fun e => by have := h.u.lt; omega, Nat.le_trans h.nw (by simp)⟩
theorem Duo.less {A w : World} {n b bu kx : Nat} {t : TypeId} {X : Array Value} {st : List UInt8 × Bool} (h : Duo A n b bu kx t X st st w) : Duo0 A n b bu st w := ⟨h.r, h.u, h.below, h.nb, h.nu, h.ne, h.nw⟩

section
variable {A w w' : World} {n b bu kx : Nat} {t : TypeId} {X : Array Value} {st ust : List UInt8 × Bool}
theorem Duo.first {c : Bool} {s1 s0 : List UInt8 × Bool} (h : Duo A n b bu kx t X (if c = true then s1 else s0) ust w) (hc : c = false) : Duo A n b bu kx t X s0 ust w := by subst hc; exact h
theorem Duo.second {c : Bool} {s1 s0 : List UInt8 × Bool} (h : Duo A n b bu kx t X st (if c = true then s1 else s0) w) (hc : c = false) : Duo A n b bu kx t X st s0 w := by subst hc; exact h
theorem Duo.get2 {T : List UInt8} {st' : List UInt8 × Bool} (h : Duo A n b bu kx t X st ust w) (size : Int) (k : Nat) (hk : clampSize size = k) (hs : st.1.length ≤ 1000000) (hT : takeN st k = (T, st')) :
    Calls Tryd.prog 18 #[.pointer (some ⟨b, 0, none⟩), .int .i64 size] w fun e w' => e = .returned (.int .u64 (numL T)) ∧ Duo A n b bu kx t X st' ust w' := by
  have := h.get size k hk hs
  rwa [hT] at this
theorem Duo.take2 {T : List UInt8} {st' : List UInt8 × Bool} (h : Duo A n b bu kx t X st ust w) (z : Int) (hz : z ≤ 9223372036854775807) (hs : st.1.length ≤ 1000000) (hT : takeN st z = (T, st')) :
    Calls Tryd.prog 22 #[.pointer (some ⟨b, 0, none⟩), .int .i64 z] w fun e w' => e = .returned (.string ⟨T.toArray⟩) ∧ Duo A n b bu kx t X st' ust w' := by
  have := h.take z hz hs
  rwa [hT] at this
theorem Duo.utake2 {T : List UInt8} {us' : List UInt8 × Bool} (h : Duo A n b bu kx t X st ust w) (z : Int) (hz : z ≤ 9223372036854775807) (hs : ust.1.length ≤ 1000000) (hT : takeN ust z = (T, us')) :
    Calls Tryd.prog 20 #[.pointer (some ⟨bu, 0, none⟩), .int .i64 z] w fun e w' => e = .returned (.string ⟨T.toArray⟩) ∧ Duo A n b bu kx t X st us' w' := by
  have := h.utake z hz hs
  rwa [hT] at this
end
theorem rsize_k (n : Int) (k : Nat) (hk : clampSize n = k) (w : World) : Calls Tryd.prog 21 #[.int .i64 n] w fun e w' => e = .returned (.int .i64 k) ∧ w = w' := hk ▸ rsize_any n w

theorem all_take (l : List UInt8) (c : Nat) (h : c < l.length) : (l.take (c + 1)).all (· == 0) = ((l.take c).all (· == 0) && (l.getD c 0 == 0)) := by
  rw [List.take_succ_eq_append_getElem h, List.all_append, show l.getD c 0 = l[c] by simp [List.getD, h]]
  simp only [List.all_cons, List.all_nil, Bool.and_true]
theorem byte_zero (b : UInt8) : ((b.toNat : Int) == 0) = (b == 0) := by
  rw [Bool.eq_iff_iff, beq_iff_eq, beq_iff_eq]
  constructor
  · intro h
    exact UInt8.toNat.inj (by show b.toNat = 0; omega)
  · intro h
    rw [h]; rfl

set_option maxRecDepth 100000 in
set_option maxHeartbeats 4000000 in
theorem octetReads_core (s : ByteArray) (A : Option Addr) (len cap : Nat) (xs : List ActD) (w : World) (hs0 : s.size ≤ maxLen) (hlen : xs.length = len) (hm : len ≤ maxLen) (hx : ∀ x ∈ xs, x.good) (hrow : Row w A 4 actC xs) :
    Calls Tryd.prog 4 #[.string s, .slice A len cap] w fun e w' => e = .returned (.bool true) ∧ Below w.heap.size w w' := by
  unfold maxLen at hm hs0
  have AW := Lib.hid awake1
  by_cases hs : s.size ≤ 1024
  · have hs' : decide ((1024 : Int) < s.size) = false := by rw [decide_eq_false_iff_not]; omega
    go_enter Tryd.func4, Tryd.ntmps4
    go_wp2_with fail
    refine (AW.out _).mono ?_
    rintro e w1 ⟨rfl, hb1⟩
    go_wp2_with fail
    refine (of_any s w1).mono ?_
    rintro e w2 ⟨rfl, U2⟩
    have hD : Duo0 w1 w1.heap.size w1.heap.size w2.heap.size (s.data.toList, false) (w2.alloc (.cells #[.string s, .bool false] 45)) := by
      have hr : Blk w2 w1.heap.size 86 (rdr ⟨s.data.toList.toArray⟩ false) := by simpa using U2.blk
      refine ⟨hr.alloc _, by have := Blk.new w2 45 #[.string s, .bool false]; simpa [rdrR] using this, ?_, Nat.le_refl _, Nat.le_of_lt hr.lt, Nat.ne_of_lt hr.lt, by have := hr.lt; simp; omega⟩
      exact ((Below.refl _ _).grown U2.grown (Nat.le_refl _) (fun k e => by injection e with e; omega)).alloc (Nat.le_of_lt hr.lt) _
    have hbu : w1.heap.size < w2.heap.size := U2.blk.lt
    clear U2
    go_wp2_with fail
    generalize w2.heap.size = bu at hD hbu ⊢
    have hsl : s.data.toList.length ≤ 1024 := by have : s.data.toList.length = s.size := Array.length_toList; omega
    go_loopw [7] (fun i wr => ∃ (j : Nat) (st : List UInt8 × Bool), j ≤ len ∧ j ≤ 60 ∧ i = .int .i64 j ∧ st.1.length ≤ 1024 ∧ Duo0 w1 w1.heap.size w1.heap.size bu st wr) (fun i _ => 60 - (intOf i).toNat)
    case atStart => exact ⟨0, _, by omega, by omega, rfl, hsl, hD⟩
    case round =>
      obtain ⟨j, st, hj, hj2, rfl, hl, hD0⟩ := hrel
      clear hD hsl
      have hB := below_then hb1 hD0.below
      by_cases hlt : j < len ∧ j < 60
      · obtain ⟨hlt, hlt2⟩ := hlt
        have hjx : j < xs.length := by omega
        obtain ⟨b0, o0, rfl, hlt0, q0, q1, q2, q3⟩ := hrow.act_in hB hjx
        obtain ⟨gn, gz, gs⟩ := hx _ (List.getElem_mem hjx)
        generalize xs[j].kind = k at q0
        generalize xs[j].n = N at q1 gn
        generalize xs[j].size = Z at q2 gz
        generalize xs[j].s = S at q3 gs
        have hD := hD0.with 33 #[.int .i64 k, .int .u64 N, .int .i64 Z, .string S]
        clear hD0 hB hrow hx gs gn
        by_cases hk4 : k = 4
        · subst hk4
          obtain ⟨K, hK⟩ : ∃ K : Nat, clampSize Z = K := ⟨_, rfl⟩
          have hK8 : K ≤ 8 := by rw [← hK]; unfold clampSize; omega
          obtain ⟨T, st', hT⟩ : ∃ T st', takeN st K = (T, st') := ⟨_, _, rfl⟩
          have hT8 : T.length ≤ 8 := by have := takeN_short st K; rw [hT] at this; simp only at this; omega
          have hl' : st'.1.length ≤ 1024 := by have := takeN_len st K; rw [hT] at this; simp only at this; omega
          have HK := Lib.hid hK
          have HT := Lib.hid hT
          clear hK hT
          generalize hW : wr.alloc (.cells #[.int .i64 4, .int .u64 N, .int .i64 Z, .string S] 33) = W at hD
          have HW := Lib.hid hW
          clear hW
          go_upto_region 13 with fail
          rw [HW.out]
          clear q0 q1 q2 q3
          generalize wr.heap.size = kx at hD ⊢
          refine wp_phased (fun l w => Duo w1 w1.heap.size w1.heap.size bu kx 33 #[.int .i64 4, .int .u64 N, .int .i64 Z, .string S] (if l 3 = true then st' else st) (if l 8 = true then st' else st) w) [[], [], [1], [0, 1, 2], [], [], [5], [0, 1, 2, 3, 5, 6], [0, 1, 2, 3, 4, 5, 6, 7], [0, 1, 2, 3, 4, 5, 6, 7, 8], [0, 1, 2, 3, 4, 5, 6, 7, 8, 9]] [42, 43, 44, 45, 46, 47, 48, 49, 50, 51, 52] (hD.ext (Ext.drew _)) (by kernel_rfl) ?_
          apply BuildI.det 42 (fun l w h => h) (by rfl) (by rfl) rfl
          case h =>   -- 0: t42 := Op.move (tmp 5)
            intro lx ax wx hE hR hF
            have e5 : ax.eval (.tmp 5) = .pointer (some ⟨w1.heap.size, 0, none⟩) := hE.eval 5 (by rfl) rfl
            simp [go_sem, BigFrame.eval_const, BigFrame.eval_global, BigFrame.eval_func, ↓IntWalk.iteOmega, ev e5]
            with_reducible rfl
          apply BuildI.det 43 (fun l w h => h) (by rfl) (by rfl) rfl
          case h =>   -- 1: t43 := Op.fieldAddr 33 (tmp 8) 2
            intro lx ax wx hE hR hF
            have e8 : ax.eval (.tmp 8) = .pointer (some ⟨kx, 0, none⟩) := hE.eval 8 (by rfl) rfl
            simp [go_sem, BigFrame.eval_const, BigFrame.eval_global, BigFrame.eval_func, ↓IntWalk.iteOmega, ev e8]
            with_reducible rfl
          apply BuildI.det 44 (fun l w h => h) (by rfl) (by rfl) rfl
          case h =>   -- 2: t44 := Op.load 3 (tmp 43)
            intro lx ax wx hE hR hF
            have e43 : ax.eval (.tmp 43) = _ := hF 1 (det 43 _) (by decide) (.head _)
            have q2 : wx.cell? ⟨kx, 2, none⟩ = some (.int .i64 Z) := (Duo.x hR).cell 2
            simp [go_sem, BigFrame.eval_const, BigFrame.eval_global, BigFrame.eval_func, ↓IntWalk.iteOmega, ev e43, q2]
            with_reducible rfl
          apply BuildI.call 45 (by rfl) (by rfl) rfl
          case h =>   -- 3: t45 := Op.call {callee := Callee.value (func 18), args := #[tmp 42, tmp 44], 
            intro lx ax wx hE hR hF
            have e42 : ax.eval (.tmp 42) = _ := hF 0 (det 42 _) (by decide) (.tail _ (.tail _ (.head _)))
            have e44 : ax.eval (.tmp 44) = _ := hF 2 (det 44 _) (by decide) (.head _)
            simp [go_sem, BigFrame.eval_const, BigFrame.eval_global, BigFrame.eval_func, ↓IntWalk.iteOmega, ev e42, ev e44]
            with_reducible exact ⟨rfl, rfl⟩
          case hc => intro lx wx hR hl hA; exact (Duo.first hR hl).get2 Z K HK.out (by omega) HT.out
          apply BuildI.det 46 (fun l w h => h) (by rfl) (by rfl) rfl
          case h =>   -- 4: t46 := Op.move (tmp 6)
            intro lx ax wx hE hR hF
            have e6 : ax.eval (.tmp 6) = .pointer (some ⟨bu, 0, none⟩) := hE.eval 6 (by rfl) rfl
            simp [go_sem, BigFrame.eval_const, BigFrame.eval_global, BigFrame.eval_func, ↓IntWalk.iteOmega, ev e6]
            with_reducible rfl
          apply BuildI.det 47 (fun l w h => h) (by rfl) (by rfl) rfl
          case h =>   -- 5: t47 := Op.fieldAddr 33 (tmp 8) 2
            intro lx ax wx hE hR hF
            have e8 : ax.eval (.tmp 8) = .pointer (some ⟨kx, 0, none⟩) := hE.eval 8 (by rfl) rfl
            simp [go_sem, BigFrame.eval_const, BigFrame.eval_global, BigFrame.eval_func, ↓IntWalk.iteOmega, ev e8]
            with_reducible rfl
          apply BuildI.det 48 (fun l w h => h) (by rfl) (by rfl) rfl
          case h =>   -- 6: t48 := Op.load 3 (tmp 47)
            intro lx ax wx hE hR hF
            have e47 : ax.eval (.tmp 47) = _ := hF 5 (det 47 _) (by decide) (.head _)
            have q2 : wx.cell? ⟨kx, 2, none⟩ = some (.int .i64 Z) := (Duo.x hR).cell 2
            simp [go_sem, BigFrame.eval_const, BigFrame.eval_global, BigFrame.eval_func, ↓IntWalk.iteOmega, ev e47, q2]
            with_reducible rfl
          apply BuildI.call 49 (by rfl) (by rfl) rfl
          case h =>   -- 7: t49 := Op.call {callee := Callee.value (func 21), args := #[tmp 48], argTypes
            intro lx ax wx hE hR hF
            have e48 : ax.eval (.tmp 48) = _ := hF 6 (det 48 _) (by decide) (.head _)
            simp [go_sem, BigFrame.eval_const, BigFrame.eval_global, BigFrame.eval_func, ↓IntWalk.iteOmega, ev e48]
            with_reducible exact ⟨rfl, rfl⟩
          case hc => intro lx wx hR hl hA; exact (rsize_k Z K HK.out wx).mono (fun e w' h => ⟨h.1, h.2 ▸ hR⟩)
          apply BuildI.call 50 (by rfl) (by rfl) rfl
          case h =>   -- 8: t50 := Op.call {callee := Callee.value (func 20), args := #[tmp 46, tmp 49], 
            intro lx ax wx hE hR hF
            have e46 : ax.eval (.tmp 46) = _ := hF 4 (det 46 _) (by decide) (.tail _ (.tail _ (.tail _ (.head _))))
            have e49 : ax.eval (.tmp 49) = _ := hF 7 (det 49 _) (by decide) (.head _)
            simp [go_sem, BigFrame.eval_const, BigFrame.eval_global, BigFrame.eval_func, ↓IntWalk.iteOmega, ev e46, ev e49]
            with_reducible exact ⟨rfl, rfl⟩
          case hc => intro lx wx hR hl hA; exact (Duo.second hR hl).utake2 K (by omega) (by omega) HT.out
          apply BuildI.call 51 (by rfl) (by rfl) rfl
          case h =>   -- 9: t51 := Op.call {callee := Callee.value (func 19), args := #[tmp 50], argTypes
            intro lx ax wx hE hR hF
            have e50 : ax.eval (.tmp 50) = _ := hF 8 (det 50 _) (by decide) (.head _)
            simp [go_sem, BigFrame.eval_const, BigFrame.eval_global, BigFrame.eval_func, ↓IntWalk.iteOmega, ev e50]
            with_reducible exact ⟨rfl, rfl⟩
          case hc => intro lx wx hR hl hA; exact (rnumber_of T hT8 wx).mono (fun e w' h => ⟨h.1, h.2 ▸ hR⟩)
          apply BuildI.det 52 (fun l w h => h) (by rfl) (by rfl) rfl
          case h =>   -- 10: t52 := Op.binOp BinOp.neq 31 (tmp 45) (tmp 51) 31
            intro lx ax wx hE hR hF
            have e45 : ax.eval (.tmp 45) = _ := hF 3 (det 45 _) (by decide) (.tail _ (.tail _ (.tail _ (.tail _ (.tail _ (.tail _ (.head _)))))))
            have e51 : ax.eval (.tmp 51) = _ := hF 9 (det 51 _) (by decide) (.head _)
            simp [go_sem, BigFrame.eval_const, BigFrame.eval_global, BigFrame.eval_func, ↓IntWalk.iteOmega, ev e45, ev e51]
            with_reducible rfl
          apply BuildI.stop
          refine ⟨by kernel_rfl, .inl ⟨rfl, ?_⟩⟩
          intro lx ax w5 hE hD5 hL hF
          have e42 : ax.eval (.tmp 42) = _ := hF 0 (det 42 _) (.tail _ (.tail _ (.tail _ (.tail _ (.tail _ (.tail _ (.tail _ (.tail _ (.tail _ (.tail _ (.head _)))))))))))
          have e43 : ax.eval (.tmp 43) = _ := hF 1 (det 43 _) (.tail _ (.tail _ (.tail _ (.tail _ (.tail _ (.tail _ (.tail _ (.tail _ (.tail _ (.head _))))))))))
          have e44 : ax.eval (.tmp 44) = _ := hF 2 (det 44 _) (.tail _ (.tail _ (.tail _ (.tail _ (.tail _ (.tail _ (.tail _ (.tail _ (.head _)))))))))
          have e45 : ax.eval (.tmp 45) = _ := hF 3 (det 45 _) (.tail _ (.tail _ (.tail _ (.tail _ (.tail _ (.tail _ (.tail _ (.head _))))))))
          have e46 : ax.eval (.tmp 46) = _ := hF 4 (det 46 _) (.tail _ (.tail _ (.tail _ (.tail _ (.tail _ (.tail _ (.head _)))))))
          have e47 : ax.eval (.tmp 47) = _ := hF 5 (det 47 _) (.tail _ (.tail _ (.tail _ (.tail _ (.tail _ (.head _))))))
          have e48 : ax.eval (.tmp 48) = _ := hF 6 (det 48 _) (.tail _ (.tail _ (.tail _ (.tail _ (.head _)))))
          have e49 : ax.eval (.tmp 49) = _ := hF 7 (det 49 _) (.tail _ (.tail _ (.tail _ (.head _))))
          have e50 : ax.eval (.tmp 50) = _ := hF 8 (det 50 _) (.tail _ (.tail _ (.head _)))
          have e51 : ax.eval (.tmp 51) = _ := hF 9 (det 51 _) (.tail _ (.head _))
          have e52 : ax.eval (.tmp 52) = _ := hF 10 (det 52 _) (.head _)
          rw [AllEq.frame (D := [42, 43, 44, 45, 46, 47, 48, 49, 50, 51, 52]) (AllEq.cons e42 (AllEq.cons e43 (AllEq.cons e44 (AllEq.cons e45 (AllEq.cons e46 (AllEq.cons e47 (AllEq.cons e48 (AllEq.cons e49 (AllEq.cons e50 (AllEq.cons e51 (AllEq.cons e52 (AllEq.nil)))))))))))) hE rfl]
          clear hF hE e42 e43 e44 e45 e46 e47 e48 e49 e50 e51 e52
          simp only [List.foldl_cons, List.foldl_nil, Act.put, List.setIfInBounds_toArray, List.set_cons_succ, List.set_cons_zero]
          have hD : Duo w1 w1.heap.size w1.heap.size bu kx 33 #[.int .i64 4, .int .u64 N, .int .i64 Z, .string S] st' st' w5 := by
            have h : Duo w1 w1.heap.size w1.heap.size bu kx 33 #[.int .i64 4, .int .u64 N, .int .i64 Z, .string S] (if lx 3 = true then st' else st) (if lx 8 = true then st' else st) w5 := hD5
            rw [hL 3 (by simp), hL 8 (by simp)] at h
            exact h
          clear hD5 hL
          obtain ⟨l', sh'⟩ := st'
          simp only at hl'
          obtain ⟨T', hT'⟩ : ∃ T' : ByteArray, (⟨l'.toArray⟩ : ByteArray) = T' := ⟨_, rfl⟩
          have hTs : T'.size = l'.length := by rw [← hT', clear_size]
          have hEnd := hD.end_
          have q5 : _ = some (Value.string ⟨l'.toArray⟩) := hD.u.cell 0
          have q6 : _ = some (Value.bool sh') := hD.u.cell 1
          rw [hT'] at q5
          have HD := Lib.hid hD
          clear hD hT'
          cases sh'
          · by_cases hl0 : l' = []
            · have hz0 : T'.size = 0 := by rw [hTs, hl0]; rfl
              have e0 : endE (l', false) = 0 := by unfold endE; rw [hl0]; rfl
              rw [e0] at hEnd
              clear hTs e0
              go_wp2_with fail
              refine hEnd.mono ?_
              rintro e w9 ⟨rfl, rfl⟩
              go_wp2_with fail
              go_roundw
              case rel => exact ⟨j + 1, (l', false), by omega, by omega, by go_num, hl', HD.out.less⟩
              case measure => simp [intOf]; omega
            · have hz0 : 0 < T'.size := by rw [hTs]; exact List.length_pos_iff.2 hl0
              have e0 : endE (l', false) = 3 := by unfold endE; rw [if_neg]; intro e; exact hl0 (congrArg Prod.fst e)
              rw [e0] at hEnd
              clear hTs e0
              go_wp2_with fail
              refine hEnd.mono ?_
              rintro e w9 ⟨rfl, rfl⟩
              go_wp2_with fail
              go_roundw
              case rel => exact ⟨j + 1, (l', false), by omega, by omega, by go_num, hl', HD.out.less⟩
              case measure => simp [intOf]; omega
          · have e0 : endE (l', true) = 3 := by unfold endE; rw [if_neg]; intro e; cases congrArg Prod.snd e
            rw [e0] at hEnd
            clear hTs e0
            go_wp2_with fail
            refine hEnd.mono ?_
            rintro e w9 ⟨rfl, rfl⟩
            go_wp2_with fail
            go_roundw
            case rel => exact ⟨j + 1, (l', true), by omega, by omega, by go_num, hl', HD.out.less⟩
            case measure => simp [intOf]; omega
        · have hz4 : (k == 4) = false := by simpa using hk4
          have hd4 : decide (k = 4) = false := by simpa using hk4
          by_cases hk5 : k = 5
          · subst hk5
            obtain ⟨T, st', hT⟩ : ∃ T st', takeN st Z = (T, st') := ⟨_, _, rfl⟩
            have hl' : st'.1.length ≤ 1024 := by have := takeN_len st Z; rw [hT] at this; simp only at this; omega
            have HT := Lib.hid hT
            clear hT
            generalize hW : wr.alloc (.cells #[.int .i64 5, .int .u64 N, .int .i64 Z, .string S] 33) = W at hD
            have HW := Lib.hid hW
            clear hW
            go_upto_region 16 with fail
            rw [HW.out]
            clear q0 q1 q2 q3
            generalize wr.heap.size = kx at hD ⊢
            refine wp_phased (fun l w => Duo w1 w1.heap.size w1.heap.size bu kx 33 #[.int .i64 5, .int .u64 N, .int .i64 Z, .string S] (if l 3 = true then st' else st) (if l 7 = true then st' else st) w) [[], [], [1], [0, 1, 2], [], [], [5], [0, 1, 2, 3, 4, 5, 6], [0, 1, 2, 3, 4, 5, 6, 7]] [55, 56, 57, 58, 59, 60, 61, 62, 63] (hD.ext (Ext.drew _)) (by kernel_rfl) ?_
            apply BuildI.det 55 (fun l w h => h) (by rfl) (by rfl) rfl
            case h =>   -- 0: t55 := Op.move (tmp 5)
              intro lx ax wx hE hR hF
              have e5 : ax.eval (.tmp 5) = .pointer (some ⟨w1.heap.size, 0, none⟩) := hE.eval 5 (by rfl) rfl
              simp [go_sem, BigFrame.eval_const, BigFrame.eval_global, BigFrame.eval_func, ↓IntWalk.iteOmega, ev e5]
              with_reducible rfl
            apply BuildI.det 56 (fun l w h => h) (by rfl) (by rfl) rfl
            case h =>   -- 1: t56 := Op.fieldAddr 33 (tmp 8) 2
              intro lx ax wx hE hR hF
              have e8 : ax.eval (.tmp 8) = .pointer (some ⟨kx, 0, none⟩) := hE.eval 8 (by rfl) rfl
              simp [go_sem, BigFrame.eval_const, BigFrame.eval_global, BigFrame.eval_func, ↓IntWalk.iteOmega, ev e8]
              with_reducible rfl
            apply BuildI.det 57 (fun l w h => h) (by rfl) (by rfl) rfl
            case h =>   -- 2: t57 := Op.load 3 (tmp 56)
              intro lx ax wx hE hR hF
              have e56 : ax.eval (.tmp 56) = _ := hF 1 (det 56 _) (by decide) (.head _)
              have q2 : wx.cell? ⟨kx, 2, none⟩ = some (.int .i64 Z) := (Duo.x hR).cell 2
              simp [go_sem, BigFrame.eval_const, BigFrame.eval_global, BigFrame.eval_func, ↓IntWalk.iteOmega, ev e56, q2]
              with_reducible rfl
            apply BuildI.call 58 (by rfl) (by rfl) rfl
            case h =>   -- 3: t58 := Op.call {callee := Callee.value (func 22), args := #[tmp 55, tmp 57], 
              intro lx ax wx hE hR hF
              have e55 : ax.eval (.tmp 55) = _ := hF 0 (det 55 _) (by decide) (.tail _ (.tail _ (.head _)))
              have e57 : ax.eval (.tmp 57) = _ := hF 2 (det 57 _) (by decide) (.head _)
              simp [go_sem, BigFrame.eval_const, BigFrame.eval_global, BigFrame.eval_func, ↓IntWalk.iteOmega, ev e55, ev e57]
              with_reducible exact ⟨rfl, rfl⟩
            case hc => intro lx wx hR hl hA; exact (Duo.first hR hl).take2 Z (by omega) (by omega) HT.out
            apply BuildI.det 59 (fun l w h => h) (by rfl) (by rfl) rfl
            case h =>   -- 4: t59 := Op.move (tmp 6)
              intro lx ax wx hE hR hF
              have e6 : ax.eval (.tmp 6) = .pointer (some ⟨bu, 0, none⟩) := hE.eval 6 (by rfl) rfl
              simp [go_sem, BigFrame.eval_const, BigFrame.eval_global, BigFrame.eval_func, ↓IntWalk.iteOmega, ev e6]
              with_reducible rfl
            apply BuildI.det 60 (fun l w h => h) (by rfl) (by rfl) rfl
            case h =>   -- 5: t60 := Op.fieldAddr 33 (tmp 8) 2
              intro lx ax wx hE hR hF
              have e8 : ax.eval (.tmp 8) = .pointer (some ⟨kx, 0, none⟩) := hE.eval 8 (by rfl) rfl
              simp [go_sem, BigFrame.eval_const, BigFrame.eval_global, BigFrame.eval_func, ↓IntWalk.iteOmega, ev e8]
              with_reducible rfl
            apply BuildI.det 61 (fun l w h => h) (by rfl) (by rfl) rfl
            case h =>   -- 6: t61 := Op.load 3 (tmp 60)
              intro lx ax wx hE hR hF
              have e60 : ax.eval (.tmp 60) = _ := hF 5 (det 60 _) (by decide) (.head _)
              have q2 : wx.cell? ⟨kx, 2, none⟩ = some (.int .i64 Z) := (Duo.x hR).cell 2
              simp [go_sem, BigFrame.eval_const, BigFrame.eval_global, BigFrame.eval_func, ↓IntWalk.iteOmega, ev e60, q2]
              with_reducible rfl
            apply BuildI.call 62 (by rfl) (by rfl) rfl
            case h =>   -- 7: t62 := Op.call {callee := Callee.value (func 20), args := #[tmp 59, tmp 61], 
              intro lx ax wx hE hR hF
              have e59 : ax.eval (.tmp 59) = _ := hF 4 (det 59 _) (by decide) (.tail _ (.tail _ (.head _)))
              have e61 : ax.eval (.tmp 61) = _ := hF 6 (det 61 _) (by decide) (.head _)
              simp [go_sem, BigFrame.eval_const, BigFrame.eval_global, BigFrame.eval_func, ↓IntWalk.iteOmega, ev e59, ev e61]
              with_reducible exact ⟨rfl, rfl⟩
            case hc => intro lx wx hR hl hA; exact (Duo.second hR hl).utake2 Z (by omega) (by omega) HT.out
            apply BuildI.det 63 (fun l w h => h) (by rfl) (by rfl) rfl
            case h =>   -- 8: t63 := Op.binOp BinOp.neq 9 (tmp 58) (tmp 62) 9
              intro lx ax wx hE hR hF
              have e58 : ax.eval (.tmp 58) = _ := hF 3 (det 58 _) (by decide) (.tail _ (.tail _ (.tail _ (.tail _ (.head _)))))
              have e62 : ax.eval (.tmp 62) = _ := hF 7 (det 62 _) (by decide) (.head _)
              simp [go_sem, BigFrame.eval_const, BigFrame.eval_global, BigFrame.eval_func, ↓IntWalk.iteOmega, ev e58, ev e62]
              with_reducible rfl
            apply BuildI.stop
            refine ⟨by kernel_rfl, .inl ⟨rfl, ?_⟩⟩
            intro lx ax w5 hE hD5 hL hF
            have e55 : ax.eval (.tmp 55) = _ := hF 0 (det 55 _) (.tail _ (.tail _ (.tail _ (.tail _ (.tail _ (.tail _ (.tail _ (.tail _ (.head _)))))))))
            have e56 : ax.eval (.tmp 56) = _ := hF 1 (det 56 _) (.tail _ (.tail _ (.tail _ (.tail _ (.tail _ (.tail _ (.tail _ (.head _))))))))
            have e57 : ax.eval (.tmp 57) = _ := hF 2 (det 57 _) (.tail _ (.tail _ (.tail _ (.tail _ (.tail _ (.tail _ (.head _)))))))
            have e58 : ax.eval (.tmp 58) = _ := hF 3 (det 58 _) (.tail _ (.tail _ (.tail _ (.tail _ (.tail _ (.head _))))))
            have e59 : ax.eval (.tmp 59) = _ := hF 4 (det 59 _) (.tail _ (.tail _ (.tail _ (.tail _ (.head _)))))
            have e60 : ax.eval (.tmp 60) = _ := hF 5 (det 60 _) (.tail _ (.tail _ (.tail _ (.head _))))
            have e61 : ax.eval (.tmp 61) = _ := hF 6 (det 61 _) (.tail _ (.tail _ (.head _)))
            have e62 : ax.eval (.tmp 62) = _ := hF 7 (det 62 _) (.tail _ (.head _))
            have e63 : ax.eval (.tmp 63) = _ := hF 8 (det 63 _) (.head _)
            rw [AllEq.frame (D := [55, 56, 57, 58, 59, 60, 61, 62, 63]) (AllEq.cons e55 (AllEq.cons e56 (AllEq.cons e57 (AllEq.cons e58 (AllEq.cons e59 (AllEq.cons e60 (AllEq.cons e61 (AllEq.cons e62 (AllEq.cons e63 (AllEq.nil)))))))))) hE rfl]
            clear hF hE e55 e56 e57 e58 e59 e60 e61 e62 e63
            simp only [List.foldl_cons, List.foldl_nil, Act.put, List.setIfInBounds_toArray, List.set_cons_succ, List.set_cons_zero]
            have hD : Duo w1 w1.heap.size w1.heap.size bu kx 33 #[.int .i64 5, .int .u64 N, .int .i64 Z, .string S] st' st' w5 := by
              have h : Duo w1 w1.heap.size w1.heap.size bu kx 33 #[.int .i64 5, .int .u64 N, .int .i64 Z, .string S] (if lx 3 = true then st' else st) (if lx 7 = true then st' else st) w5 := hD5
              rw [hL 3 (by simp), hL 7 (by simp)] at h
              exact h
            clear hD5 hL
            obtain ⟨l', sh'⟩ := st'
            simp only at hl'
            obtain ⟨T', hT'⟩ : ∃ T' : ByteArray, (⟨l'.toArray⟩ : ByteArray) = T' := ⟨_, rfl⟩
            have hTs : T'.size = l'.length := by rw [← hT', clear_size]
            have hEnd := hD.end_
            have q5 : _ = some (Value.string ⟨l'.toArray⟩) := hD.u.cell 0
            have q6 : _ = some (Value.bool sh') := hD.u.cell 1
            rw [hT'] at q5
            have HD := Lib.hid hD
            clear hD hT'
            cases sh'
            · by_cases hl0 : l' = []
              · have hz0 : T'.size = 0 := by rw [hTs, hl0]; rfl
                have e0 : endE (l', false) = 0 := by unfold endE; rw [hl0]; rfl
                rw [e0] at hEnd
                clear hTs e0
                go_wp2_with fail
                refine hEnd.mono ?_
                rintro e w9 ⟨rfl, rfl⟩
                go_wp2_with fail
                go_roundw
                case rel => exact ⟨j + 1, (l', false), by omega, by omega, by go_num, hl', HD.out.less⟩
                case measure => simp [intOf]; omega
              · have hz0 : 0 < T'.size := by rw [hTs]; exact List.length_pos_iff.2 hl0
                have e0 : endE (l', false) = 3 := by unfold endE; rw [if_neg]; intro e; exact hl0 (congrArg Prod.fst e)
                rw [e0] at hEnd
                clear hTs e0
                go_wp2_with fail
                refine hEnd.mono ?_
                rintro e w9 ⟨rfl, rfl⟩
                go_wp2_with fail
                go_roundw
                case rel => exact ⟨j + 1, (l', false), by omega, by omega, by go_num, hl', HD.out.less⟩
                case measure => simp [intOf]; omega
            · have e0 : endE (l', true) = 3 := by unfold endE; rw [if_neg]; intro e; cases congrArg Prod.snd e
              rw [e0] at hEnd
              clear hTs e0
              go_wp2_with fail
              refine hEnd.mono ?_
              rintro e w9 ⟨rfl, rfl⟩
              go_wp2_with fail
              go_roundw
              case rel => exact ⟨j + 1, (l', true), by omega, by omega, by go_num, hl', HD.out.less⟩
              case measure => simp [intOf]; omega
          · have hz5 : (k == 5) = false := by simpa using hk5
            have hd5 : decide (k = 5) = false := by simpa using hk5
            by_cases hk6 : k = 6
            · subst hk6
              obtain ⟨l, sh⟩ := st
              simp only at hl
              obtain ⟨T, hT⟩ : ∃ T : ByteArray, (⟨l.toArray⟩ : ByteArray) = T := ⟨_, rfl⟩
              have hTs : T.size = l.length := by rw [← hT, clear_size]
              have hTl : T.data.toList = l := by rw [← hT]
              have q5 : _ = some (Value.string ⟨l.toArray⟩) := hD.u.cell 0
              have f5 := hD.u.frozen 0
              rw [hT] at q5
              have hz := (hD.updU (us' := ([], sh)) ((Upd.refl hD.u).set 0 (.string ⟨#[]⟩))).zeros (by simp only; omega)
              have HZ := Lib.hid hz
              have HTS := Lib.hid hTs
              have HTL := Lib.hid hTl
              have hTb : T.size ≤ 1024 := by omega
              clear hz hT hD hTs hTl hl
              go_wp2_with fail
              go_loop [9, 10] (fun z i => ∃ (c : Nat) (B : Bool), c ≤ T.size ∧ i = .int .i64 c ∧ z = .bool B ∧ Hid (B = (l.take c).all (· == 0))) (fun _ i => T.size - (intOf i).toNat)
              case atStart => exact ⟨0, true, by omega, rfl, rfl, by simp [Hid]⟩
              case round =>
                obtain ⟨c, B, hc, rfl, rfl, HB⟩ := hrel
                by_cases hlt3 : c < T.size
                · have hb := index_byte T c hlt3
                  have HBY := Lib.hid hb
                  clear hb
                  cases B
                  · go_wp2_with fail
                    go_round
                    case rel => exact ⟨c + 1, false, by omega, by go_num, rfl, by show _ = _; rw [all_take l c (by have := HTS.out; omega), ← HB.out]; rfl⟩
                    case measure => simp [intOf]; omega
                  · go_wp2_with fail
                    go_round
                    case rel => exact ⟨c + 1, _, by omega, by go_num, rfl, by show _ = _; rw [all_take l c (by have := HTS.out; omega), ← HB.out, byte_zero, HBY.out, HTL.out]; rfl⟩
                    case measure => simp [intOf]; omega
                · obtain ⟨c', rfl⟩ : ∃ c', c' = c := ⟨_, rfl⟩
                  have hz := HZ.out
                  have hall : l.all (· == 0) = B := by rw [HB.out, List.take_of_length_le (by have := HTS.out; omega)]
                  rw [hall] at hz
                  have HZ2 := Lib.hid hz
                  clear hz hall HZ
                  go_wp2_with fail
                  refine HZ2.out.mono ?_
                  rintro e w5 ⟨rfl, hD⟩
                  obtain ⟨st', hst⟩ : ∃ st' : List UInt8 × Bool, (([] : List UInt8), sh) = st' := ⟨_, rfl⟩
                  rw [hst] at hD
                  have hl' : st'.1.length ≤ 1024 := by rw [← hst]; simp
                  clear hst q5 f5 q0 q1 q2 q3
                  obtain ⟨l', sh'⟩ := st'
                  simp only at hl'
                  obtain ⟨T', hT'⟩ : ∃ T' : ByteArray, (⟨l'.toArray⟩ : ByteArray) = T' := ⟨_, rfl⟩
                  have hTs : T'.size = l'.length := by rw [← hT', clear_size]
                  have hEnd := hD.end_
                  have q5 : _ = some (Value.string ⟨l'.toArray⟩) := hD.u.cell 0
                  have q6 : _ = some (Value.bool sh') := hD.u.cell 1
                  rw [hT'] at q5
                  have HD := Lib.hid hD
                  clear hD hT'
                  cases sh'
                  · by_cases hl0 : l' = []
                    · have hz0 : T'.size = 0 := by rw [hTs, hl0]; rfl
                      have e0 : endE (l', false) = 0 := by unfold endE; rw [hl0]; rfl
                      rw [e0] at hEnd
                      clear hTs e0
                      go_wp2_with fail
                      refine hEnd.mono ?_
                      rintro e w9 ⟨rfl, rfl⟩
                      go_wp2_with fail
                      go_roundw
                      case rel => exact ⟨j + 1, (l', false), by omega, by omega, by go_num, hl', HD.out.less⟩
                      case measure => simp [intOf]; omega
                    · have hz0 : 0 < T'.size := by rw [hTs]; exact List.length_pos_iff.2 hl0
                      have e0 : endE (l', false) = 3 := by unfold endE; rw [if_neg]; intro e; exact hl0 (congrArg Prod.fst e)
                      rw [e0] at hEnd
                      clear hTs e0
                      go_wp2_with fail
                      refine hEnd.mono ?_
                      rintro e w9 ⟨rfl, rfl⟩
                      go_wp2_with fail
                      go_roundw
                      case rel => exact ⟨j + 1, (l', false), by omega, by omega, by go_num, hl', HD.out.less⟩
                      case measure => simp [intOf]; omega
                  · have e0 : endE (l', true) = 3 := by unfold endE; rw [if_neg]; intro e; cases congrArg Prod.snd e
                    rw [e0] at hEnd
                    clear hTs e0
                    go_wp2_with fail
                    refine hEnd.mono ?_
                    rintro e w9 ⟨rfl, rfl⟩
                    go_wp2_with fail
                    go_roundw
                    case rel => exact ⟨j + 1, (l', true), by omega, by omega, by go_num, hl', HD.out.less⟩
                    case measure => simp [intOf]; omega
            · have hz6 : (k == 6) = false := by simpa using hk6
              have hd6 : decide (k = 6) = false := by simpa using hk6
              obtain ⟨st', rfl⟩ : ∃ st', st' = st := ⟨_, rfl⟩
              have hl' := hl
              obtain ⟨l', sh'⟩ := st'
              simp only at hl'
              obtain ⟨T', hT'⟩ : ∃ T' : ByteArray, (⟨l'.toArray⟩ : ByteArray) = T' := ⟨_, rfl⟩
              have hTs : T'.size = l'.length := by rw [← hT', clear_size]
              have hEnd := hD.end_
              have q5 : _ = some (Value.string ⟨l'.toArray⟩) := hD.u.cell 0
              have q6 : _ = some (Value.bool sh') := hD.u.cell 1
              rw [hT'] at q5
              have HD := Lib.hid hD
              clear hD hT'
              cases sh'
              · by_cases hl0 : l' = []
                · have hz0 : T'.size = 0 := by rw [hTs, hl0]; rfl
                  have e0 : endE (l', false) = 0 := by unfold endE; rw [hl0]; rfl
                  rw [e0] at hEnd
                  clear hTs e0
                  go_wp2_with fail
                  refine hEnd.mono ?_
                  rintro e w9 ⟨rfl, rfl⟩
                  go_wp2_with fail
                  go_roundw
                  case rel => exact ⟨j + 1, (l', false), by omega, by omega, by go_num, hl', HD.out.less⟩
                  case measure => simp [intOf]; omega
                · have hz0 : 0 < T'.size := by rw [hTs]; exact List.length_pos_iff.2 hl0
                  have e0 : endE (l', false) = 3 := by unfold endE; rw [if_neg]; intro e; exact hl0 (congrArg Prod.fst e)
                  rw [e0] at hEnd
                  clear hTs e0
                  go_wp2_with fail
                  refine hEnd.mono ?_
                  rintro e w9 ⟨rfl, rfl⟩
                  go_wp2_with fail
                  go_roundw
                  case rel => exact ⟨j + 1, (l', false), by omega, by omega, by go_num, hl', HD.out.less⟩
                  case measure => simp [intOf]; omega
              · have e0 : endE (l', true) = 3 := by unfold endE; rw [if_neg]; intro e; cases congrArg Prod.snd e
                rw [e0] at hEnd
                clear hTs e0
                go_wp2_with fail
                refine hEnd.mono ?_
                rintro e w9 ⟨rfl, rfl⟩
                go_wp2_with fail
                go_roundw
                case rel => exact ⟨j + 1, (l', true), by omega, by omega, by go_num, hl', HD.out.less⟩
                case measure => simp [intOf]; omega
      · have hlt' : len ≤ j ∨ j = 60 := by omega
        rcases hlt' with hlt' | hlt'
        · obtain rfl : len = j := by omega
          go_wp2_with fail
          refine (put_nil _ _ _).mono ?_
          rintro e w2 ⟨rfl, rfl⟩
          go_wp2_with fail
          refine (text_nil _ _).mono ?_
          rintro e w3 ⟨rfl, rfl⟩
          go_wp2_with fail
          refine (fill_nil _ _).mono ?_
          rintro e w4 ⟨rfl, rfl⟩
          go_wp2_with fail
          refine (get_nil _ _).mono ?_
          rintro e w5 ⟨rfl, hb⟩
          go_wp2_with fail
          refine (take_nil _ _).mono ?_
          rintro e w6 ⟨rfl, rfl⟩
          go_wp2_with fail
          refine (zeros_nil _).mono ?_
          rintro e w7 ⟨rfl, rfl⟩
          go_wp2_with fail
          refine (end_nil _).mono ?_
          rintro e w8 ⟨rfl, rfl⟩
          go_wp2_with fail
          refine (wstring_nil _).mono ?_
          rintro e w9 ⟨rfl, rfl⟩
          go_wp2_with fail
          refine (wlen_nil _).mono ?_
          rintro e w10 ⟨rfl, rfl⟩
          go_wp2_with fail
          go_ret
          exact ⟨rfl, below_then hB hb⟩
        · subst hlt'
          by_cases h6 : 60 < len
          ·
            go_wp2_with fail
            refine (put_nil _ _ _).mono ?_
            rintro e w2 ⟨rfl, rfl⟩
            go_wp2_with fail
            refine (text_nil _ _).mono ?_
            rintro e w3 ⟨rfl, rfl⟩
            go_wp2_with fail
            refine (fill_nil _ _).mono ?_
            rintro e w4 ⟨rfl, rfl⟩
            go_wp2_with fail
            refine (get_nil _ _).mono ?_
            rintro e w5 ⟨rfl, hb⟩
            go_wp2_with fail
            refine (take_nil _ _).mono ?_
            rintro e w6 ⟨rfl, rfl⟩
            go_wp2_with fail
            refine (zeros_nil _).mono ?_
            rintro e w7 ⟨rfl, rfl⟩
            go_wp2_with fail
            refine (end_nil _).mono ?_
            rintro e w8 ⟨rfl, rfl⟩
            go_wp2_with fail
            refine (wstring_nil _).mono ?_
            rintro e w9 ⟨rfl, rfl⟩
            go_wp2_with fail
            refine (wlen_nil _).mono ?_
            rintro e w10 ⟨rfl, rfl⟩
            go_wp2_with fail
            go_ret
            exact ⟨rfl, below_then hB hb⟩
          ·
            go_wp2_with fail
            refine (put_nil _ _ _).mono ?_
            rintro e w2 ⟨rfl, rfl⟩
            go_wp2_with fail
            refine (text_nil _ _).mono ?_
            rintro e w3 ⟨rfl, rfl⟩
            go_wp2_with fail
            refine (fill_nil _ _).mono ?_
            rintro e w4 ⟨rfl, rfl⟩
            go_wp2_with fail
            refine (get_nil _ _).mono ?_
            rintro e w5 ⟨rfl, hb⟩
            go_wp2_with fail
            refine (take_nil _ _).mono ?_
            rintro e w6 ⟨rfl, rfl⟩
            go_wp2_with fail
            refine (zeros_nil _).mono ?_
            rintro e w7 ⟨rfl, rfl⟩
            go_wp2_with fail
            refine (end_nil _).mono ?_
            rintro e w8 ⟨rfl, rfl⟩
            go_wp2_with fail
            refine (wstring_nil _).mono ?_
            rintro e w9 ⟨rfl, rfl⟩
            go_wp2_with fail
            refine (wlen_nil _).mono ?_
            rintro e w10 ⟨rfl, rfl⟩
            go_wp2_with fail
            go_ret
            exact ⟨rfl, below_then hB hb⟩
  · have hs' : decide ((1024 : Int) < s.size) = true := by rw [decide_eq_true_iff]; omega
    go_enter Tryd.func4, Tryd.ntmps4
    go_wp2_with fail
    refine (AW.out _).mono ?_
    rintro e w1 ⟨rfl, hb1⟩
    go_wp2_with fail
    go_ret
    exact ⟨rfl, hb1⟩
theorem octetReads_walk (w : World) (v0 v1 : Value) (h0 : Arg Tryd.prog w 9 v0) (h1 : Arg Tryd.prog w 22 v1) :
    Calls Tryd.prog 4 #[v0, v1] w fun e w' => e = .returned (.bool true) ∧ Below w.heap.size w w' := by
  obtain ⟨s, rfl, hs⟩ := arg_string Tryd.underlying9 h0
  obtain ⟨A, len, cap, xs, rfl, hc, hm, h3, h5, h4⟩ := arg_acts h1
  exact octetReads_core s A len cap xs w hs h3 (by omega) h5 h4
end Go.Proofs.YtencbdcfcpohaaaDoor
