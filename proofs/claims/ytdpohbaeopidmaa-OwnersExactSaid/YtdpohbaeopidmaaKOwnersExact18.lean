/- The reference of owners: Free. -/
import Derived.Test.YtdpohbaeopidmaaKOwnersExact17
import Derived.Test.YtdpohbaeopidmaaKOwnersExact09
import Derived.Test.YtdpohbaeopidmaaKOwnersExact10
import Derived.Test.YtdpohbaeopidmaaKOwnersExact13
namespace Go.Proofs.Ytdpohbaeopidmaa
set_option linter.unusedVariables false
set_option linter.unusedSimpArgs false
open Go.RowKit

set_option maxRecDepth 100000 in
set_option maxHeartbeats 4000000 in
theorem freeU_any (w : World) (ub : Nat) (v1 v2 : Value) (U V : List QD) (r : Int) (hU : URef w ub v1 v2 U V) (hr : FreeIs (ofQ U) (ofQ V) r) (hn : U.length ≤ 1000000000) (hm : V.length ≤ 1000000000) :
    Calls Try.prog 27 #[.pointer (some ⟨ub, 0, none⟩)] w fun e w' => e = .returned (.int .i64 r) ∧ Ext w w' := by
  have HU := Lib.hid hU
  have HR := Lib.hid hr
  have HN := Lib.hid (And.intro hn hm)
  clear hU hr hn hm
  go_enter Try.func27, Try.ntmps27
  go_wp2_with fail
  go_loopw [3] (fun i wr => ∃ k : Nat, 1 ≤ k ∧ k ≤ 1024 ∧ i = .int .i64 k ∧ Hid (∀ j : Int, 1 ≤ j → j < k → ¬ (ofQ U j = [] ∧ ofQ V j = [])) ∧ Ext w wr) (fun i _ => 1024 - (intOf i).toNat)
  case atStart => exact ⟨1, by omega, by omega, rfl, fun j h1 h2 => by omega, Ext.refl _⟩
  case round =>
    obtain ⟨k, hk1, hk2, rfl, HJ, hE⟩ := hrel
    have HE := Lib.hid hE
    clear hE
    by_cases hlt : k ≤ 1023
    · have hUr := HU.out.ext HE.out
      have q0 := hUr.blk.cell 0
      have HB := Lib.hid (fun W' (hE : Ext wr W') => (hUr.blk.ext hE).cell 1)
      simp at q0
      have HC1 := Lib.hid (ofU_any (k : Int) hUr.one HN.out.1)
      have HC2 := Lib.hid (fun W' (hE : Ext wr W') => ofU_any (k : Int) (ownsRow_ext hUr.two hE) HN.out.2)
      have hl1 := ofQ_len U (k : Int)
      have hl2 := ofQ_len V (k : Int)
      have hb1 : (ofQ U (k : Int)).length ≤ 1000000000 := by have := HN.out.1; omega
      have hb2 : (ofQ V (k : Int)).length ≤ 1000000000 := by have := HN.out.2; omega
      have HZ1 := Lib.hid (show (ofQ U (k : Int)).length = 0 ↔ ofQ U (k : Int) = [] from List.length_eq_zero_iff)
      have HZ2 := Lib.hid (show (ofQ V (k : Int)).length = 0 ↔ ofQ V (k : Int) = [] from List.length_eq_zero_iff)
      clear hUr hl1 hl2
      go_upto_region 4 with fail
      go_wp2_with fail
      refine HC1.out.mono ?_
      rintro e w1 ⟨B1, cap1, rfl, k1, k2, -, k4⟩
      generalize (ofQ U (k : Int)).length = n1 at HZ1 hb1 k1 ⊢
      have HE1 := Lib.hid (HE.out.trans k4)
      have q1 := HB.out w1 k4
      have HC2 := Lib.hid (HC2.out w1 k4)
      simp at q1
      clear k4 q0 HB HC1
      by_cases h1 : n1 = 0
      · subst h1
        go_wp2_with fail
        refine HC2.out.mono ?_
        rintro e w2 ⟨B2, cap2, rfl, k5, k6, -, k8⟩
        generalize (ofQ V (k : Int)).length = n2 at HZ2 hb2 k5 ⊢
        have HE2 := Lib.hid (HE1.out.trans k8)
        clear k8 q1 HC2
        by_cases h2 : n2 = 0
        · subst h2
          have hrk : r = (k : Int) := by
            have he : ofQ U (k : Int) = [] ∧ ofQ V (k : Int) = [] := ⟨HZ1.out.1 (by first | trivial | rfl), HZ2.out.1 (by first | trivial | rfl)⟩
            rcases HR.out with ⟨a1, a2, a3, a4, a5⟩ | ⟨_, a5⟩
            · rcases Int.lt_trichotomy r k with h | h | h
              · exact absurd ⟨a3, a4⟩ (HJ.out r a1 h)
              · exact h
              · exact absurd he (a5 k (by omega) h)
            · exact absurd he (a5 k (by omega) (by omega))
          have HRK := Lib.hid hrk
          clear hrk
          go_wp2_with fail
          go_ret
          exact ⟨ret_int HRK.out.symm, HE2.out⟩
        · have d2 : ((n2 : Int) == 0) = false := by rw [beq_eq_false_iff_ne]; omega
          have HJ2 : Hid (∀ j : Int, 1 ≤ j → j < ((k + 1 : Nat) : Int) → ¬ (ofQ U j = [] ∧ ofQ V j = [])) := Lib.hid (fun j h3 h4 => by
            by_cases e : j = (k : Int)
            · subst e
              intro h
              exact h2 (HZ2.out.2 h.2)
            · exact HJ.out j h3 (by omega))
          go_wp2_with fail
          go_roundw
          case rel => exact ⟨k + 1, by omega, by omega, by go_num, HJ2, HE2.out⟩
          case measure => simp [intOf]; omega
      · have d1 : ((n1 : Int) == 0) = false := by rw [beq_eq_false_iff_ne]; omega
        have HJ2 : Hid (∀ j : Int, 1 ≤ j → j < ((k + 1 : Nat) : Int) → ¬ (ofQ U j = [] ∧ ofQ V j = [])) := Lib.hid (fun j h3 h4 => by
          by_cases e : j = (k : Int)
          · subst e
            intro h
            exact h1 (HZ1.out.2 h.1)
          · exact HJ.out j h3 (by omega))
        clear q1 HC2
        go_wp2_with fail
        go_roundw
        case rel => exact ⟨k + 1, by omega, by omega, by go_num, HJ2, HE1.out⟩
        case measure => simp [intOf]; omega
    · obtain rfl : 1024 = k := by omega
      have hrk : r = 0 := by
        rcases HR.out with ⟨a1, a2, a3, a4, a5⟩ | ⟨h, _⟩
        · exact absurd ⟨a3, a4⟩ (HJ.out r a1 (by omega))
        · exact h
      have HRK := Lib.hid hrk
      clear hrk
      go_wp2_with fail
      go_ret
      exact ⟨ret_int HRK.out.symm, HE.out⟩
end Go.Proofs.Ytdpohbaeopidmaa

/- owners' law: awake. -/
namespace Go.Proofs.Ytdpohbaeopidmaa
set_option linter.unusedVariables false
set_option linter.unusedSimpArgs false
open Go.RowKit Go.Maps

def n0 : Int → List OwD := fun _ => []
theorem setL_n0 (X : List OwD) : setL n0 1 X 1 = X := if_pos rfl
section
variable {H : Nat} {A w w' : World} {R : List Thing} {pb : Nat} {F : List Nat} {N W : Int → List OwD} {T U : Thing}
theorem OwnT.bs (h : OwnT H A (tOB pb F N W :: R) w) : BookS w pb F N W := h.all.1
end
/-- Contracts by the thing. -/
theorem addB {H : Nat} {A : World} {R : List Thing} (pb : Nat) (F : List Nat) (N W : Int → List OwD) (c : Int) (o : OwD) (X Y : List OwD) (w : World) (hO : OwnT H A (tOB pb F N W :: R) w) (hc1 : 1 ≤ c) (hc2 : c ≤ 1023) (hX : N c = X) (hY : insO o X = Y) (hin : o ∉ X) (hn : X.length ≤ 1000000000) :
    Calls Try.prog 14 #[.pointer (some ⟨pb, 0, none⟩), .int .i64 c, ownV o] w fun e w' => e = .returned (.int .i64 0) ∧ ∃ F', OwnT H A (tOB pb F' (setL N c Y) W :: R) w' := by
  subst hX hY
  refine (add_any pb F N W c o w hO hc1 hc2 hn).mono ?_
  rintro e w' ⟨_, h⟩
  exact h hin
theorem remB {H : Nat} {A : World} {R : List Thing} (pb : Nat) (F : List Nat) (N W : Int → List OwD) (c : Int) (o : OwD) (X Y : List OwD) (z : Bool) (w : World) (hO : OwnT H A (tOB pb F N W :: R) w) (hc : wfV c) (hX : N c = X) (hY : X.erase o = Y) (hz : decide (Y.length = 0) = z) (hin : o ∈ X) (hn : X.length ≤ 1000000000) :
    Calls Try.prog 17 #[.pointer (some ⟨pb, 0, none⟩), .int .i64 c, ownV o] w fun e w' => e = .returned (.tuple #[.bool z, .int .i64 0]) ∧ ∃ F', OwnT H A (tOB pb F' (setL N c Y) W :: R) w' := by
  subst hX hY hz
  refine (rem_any pb F N W c o w hO hc hn).mono ?_
  rintro e w' ⟨_, h⟩
  exact h hin
theorem setL_le {N : Int → List OwD} {c : Int} {X : List OwD} {n : Nat} (h : ∀ i, (N i).length ≤ n) (hX : X.length ≤ n) (i : Int) : (setL N c X i).length ≤ n := by
  by_cases e : i = c
  · subst e; rw [setL_same]; exact hX
  · rw [setL_other e]; exact h i
theorem commitB {H : Nat} {A : World} {R : List Thing} (pb : Nat) (F : List Nat) (N W : Int → List OwD) (w : World) (hO : OwnT H A (tOB pb F N W :: R) w) (hn : ∀ c, (N c).length ≤ 1000000000) :
    Calls Try.prog 20 #[.pointer (some ⟨pb, 0, none⟩)] w fun e w' => e = .returned (.tuple #[]) ∧ ∃ F', OwnT H A (tOB pb F' N N :: R) w' := commit_any pb F N W w hO hn
theorem n0_le {X : List OwD} (h : X.length ≤ 1000000000) : ∀ c, (setL n0 1 X c).length ≤ 1000000000 := setL_le (fun _ => by simp [n0]) h
theorem free_two : FreeIs (setL n0 1 [(1, 0, 0)]) (setL n0 1 [(1, 0, 0)]) 2 := by
  refine .inl ⟨by decide, by decide, by decide, by decide, fun j h1 h2 h => ?_⟩
  obtain rfl : j = 1 := by omega
  exact absurd h.1 (by decide)
theorem chunks_one {X : List OwD} (h : X ≠ []) : (riseL (chunksB (setL n0 1 X))).length = 1 := by
  rw [riseL_congr (Q := fun c => decide (c = 1)) (fun i _ _ => ?_)]
  · decide +kernel
  · unfold chunksB
    by_cases e : i = 1
    · subst e; rw [setL_same]; simp [h]
    · rw [setL_other e]; simp [e, n0]
set_option maxRecDepth 100000 in
set_option maxHeartbeats 4000000 in
theorem awake13 (w : World) : Calls Try.prog 12 #[] w fun e w' => e = .returned (.bool true) ∧ Ext w w' := by
  go_enter Try.func12, Try.ntmps12
  go_wp2_with fail
  refine (newO_any (OwnT.start w)).mono ?_
  rintro e w1 ⟨pb, F, rfl, O1, -⟩
  go_upto_region 6 with fail
  have HO := Lib.hid (((O1.new 31 #[.int .i64 1, .int .i64 0, .int .i64 0]).new 31 #[.int .i64 2, .int .i64 0, .int .i64 0]).perm (.trans (.swap _ _ _) (.trans (.cons _ (.swap _ _ _)) (.swap _ _ _))))
  clear O1
  simp only [World.size_alloc] at HO
  generalize (w1.alloc (.cells #[.int .i64 1, .int .i64 0, .int .i64 0] 31)).alloc (.cells #[.int .i64 2, .int .i64 0, .int .i64 0] 31) = w2 at HO ⊢
  generalize w1.heap.size + 1 = yb at HO ⊢
  generalize w1.heap.size = xb at HO ⊢
  have HO : Hid (OwnT w.heap.size w [tOB pb F n0 n0, tBlk xb 31 #[.int .i64 1, .int .i64 0, .int .i64 0], tBlk yb 31 #[.int .i64 2, .int .i64 0, .int .i64 0]] w2) := Lib.hid (HO.out.perm (by first | exact .refl _ | exact .cons _ (.swap _ _ _) | exact .swap _ _ _))
  have x0 := HO.out.b1.cell 0
  have x1 := HO.out.b1.cell 1
  have x2 := HO.out.b1.cell 2
  simp at x0 x1 x2
  go_wp2_with fail
  refine (addB pb _ n0 n0 1 (1, 0, 0) [] [(1, 0, 0)] _ HO.out (by decide) (by decide) rfl rfl (by simp) (by simp)).mono ?_
  rintro e w1 ⟨rfl, F', O1⟩
  have HO := Lib.hid O1
  clear O1
  clear x0 x1 x2
  have y0 := HO.out.b2.cell 0
  have y1 := HO.out.b2.cell 1
  have y2 := HO.out.b2.cell 2
  simp at y0 y1 y2
  go_wp2_with fail
  refine (addB pb _ _ n0 1 (2, 0, 0) [(1, 0, 0)] [(1, 0, 0), (2, 0, 0)] _ HO.out (by decide) (by decide) (setL_n0 _) (by decide) (by decide) (by simp)).mono ?_
  rintro e w1 ⟨rfl, F', O1⟩
  rw [setL_set] at O1
  have HO := Lib.hid O1
  clear O1
  clear y0 y1 y2
  have y0 := HO.out.b2.cell 0
  have y1 := HO.out.b2.cell 1
  have y2 := HO.out.b2.cell 2
  simp at y0 y1 y2
  go_wp2_with fail
  refine (commitB pb _ _ _ _ HO.out (n0_le (by simp))).mono ?_
  rintro e w1 ⟨rfl, F', O1⟩
  have HO := Lib.hid O1
  clear O1
  clear y0 y1 y2
  have y0 := HO.out.b2.cell 0
  have y1 := HO.out.b2.cell 1
  have y2 := HO.out.b2.cell 2
  simp at y0 y1 y2
  go_wp2_with fail
  refine (remB pb _ _ _ 1 (2, 0, 0) [(1, 0, 0), (2, 0, 0)] [(1, 0, 0)] false _ HO.out (by decide) (setL_n0 _) (by decide) (by decide) (by decide) (by simp)).mono ?_
  rintro e w1 ⟨rfl, F', O1⟩
  rw [setL_set] at O1
  have HO := Lib.hid O1
  clear O1
  clear y0 y1 y2
  have x0 := HO.out.b1.cell 0
  have x1 := HO.out.b1.cell 1
  have x2 := HO.out.b1.cell 2
  simp at x0 x1 x2
  go_wp2_with fail
  refine (alone_any _ pb _ _ _ 1 (1, 0, 0) HO.out.bs (by decide) (by simp [setL_n0]) (by simp [setL_n0])).mono ?_
  rintro e w1 ⟨he, hE⟩
  have hal : aloneB (setL n0 1 [(1, 0, 0)]) (setL n0 1 [(1, 0, 0), (2, 0, 0)]) 1 (1, 0, 0) = false := by decide
  rw [hal] at he
  subst he
  have HO := Lib.hid (HO.out.ext hE)
  clear hE hal
  clear x0 x1 x2
  have x0 := HO.out.b1.cell 0
  have x1 := HO.out.b1.cell 1
  have x2 := HO.out.b1.cell 2
  simp at x0 x1 x2
  go_wp2_with fail
  refine (commitB pb _ _ _ _ HO.out (n0_le (by simp))).mono ?_
  rintro e w1 ⟨rfl, F', O1⟩
  have HO := Lib.hid O1
  clear O1
  clear x0 x1 x2
  have x0 := HO.out.b1.cell 0
  have x1 := HO.out.b1.cell 1
  have x2 := HO.out.b1.cell 2
  simp at x0 x1 x2
  go_wp2_with fail
  refine (alone_any _ pb _ _ _ 1 (1, 0, 0) HO.out.bs (by decide) (by simp [setL_n0]) (by simp [setL_n0])).mono ?_
  rintro e w1 ⟨he, hE⟩
  have hal : aloneB (setL n0 1 [(1, 0, 0)]) (setL n0 1 [(1, 0, 0)]) 1 (1, 0, 0) = true := by decide
  rw [hal] at he
  subst he
  have HO := Lib.hid (HO.out.ext hE)
  clear hE hal
  clear x0 x1 x2
  have x0 := HO.out.b1.cell 0
  have x1 := HO.out.b1.cell 1
  have x2 := HO.out.b1.cell 2
  simp at x0 x1 x2
  go_wp2_with fail
  refine (count_any _ pb _ _ _ 1 HO.out.bs (by decide) (by simp [setL_n0])).mono ?_
  rintro e w1 ⟨he, hE⟩
  rw [setL_n0] at he
  subst he
  have HO := Lib.hid (HO.out.ext hE)
  clear hE
  clear x0 x1 x2
  have x0 := HO.out.b1.cell 0
  have x1 := HO.out.b1.cell 1
  have x2 := HO.out.b1.cell 2
  simp at x0 x1 x2
  go_wp2_with fail
  refine (free_any _ pb _ _ _ 2 HO.out.bs free_two (fun c => Nat.le_trans (n0_le (by simp) c) (by decide)) (fun c => Nat.le_trans (n0_le (by simp) c) (by decide))).mono ?_
  rintro e w1 ⟨rfl, hE⟩
  have HO := Lib.hid (HO.out.ext hE)
  clear hE
  clear x0 x1 x2
  have x0 := HO.out.b1.cell 0
  have x1 := HO.out.b1.cell 1
  have x2 := HO.out.b1.cell 2
  simp at x0 x1 x2
  go_wp2_with fail
  refine (was_any _ pb _ _ _ 1 HO.out.bs (by decide)).mono ?_
  rintro e w1 ⟨he, rfl⟩
  rw [setL_n0] at he
  subst he
  go_wp2_with fail
  refine (chunks_any pb _ _ _ _ HO.out).mono ?_
  rintro e w1 ⟨v, rfl, O1, hE⟩
  obtain ⟨B, cap, rfl, hcap, -⟩ := ownsRow_Row (k := 1) (enc := fun x : Int => [Value.int .i64 x]) (fun _ => rfl) Nat.one_pos O1.r0
  rw [chunks_one (by simp)] at O1 hcap ⊢
  have HE := Lib.hid O1.below
  clear O1 hE x0 x1 x2
  go_wp2_with fail
  go_ret
  exact ⟨rfl, HE.out⟩
end Go.Proofs.Ytdpohbaeopidmaa
