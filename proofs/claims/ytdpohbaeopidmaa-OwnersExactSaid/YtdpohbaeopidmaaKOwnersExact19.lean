/- owners' law: deeds of any kind. -/
import Derived.Test.YtdpohbaeopidmaaKOwnersExact18
namespace Go.Proofs.Ytdpohbaeopidmaa
set_option linter.unusedVariables false
set_option linter.unusedSimpArgs false
open Go.RowKit Go.Maps Go.ChangeShapes Go.WideShapes Go.ChangeAt

instance decIn (o : OwD) (X : List OwD) : Decidable (o ∈ X) := List.instDecidableMemOfLawfulBEq o X
def addL (N : Int → List OwD) (c : Int) (o : OwD) : Int → List OwD := if (1 ≤ c ∧ c ≤ 1023) ∧ o ∉ N c then setL N c (insO o (N c)) else N
def addE (N : Int → List OwD) (c : Int) (o : OwD) : Int := if 1 ≤ c ∧ c ≤ 1023 then (if o ∈ N c then 8 else 0) else 1
def remL (N : Int → List OwD) (c : Int) (o : OwD) : Int → List OwD := if o ∈ N c then setL N c ((N c).erase o) else N
def remB? (N : Int → List OwD) (c : Int) (o : OwD) : Bool := decide (o ∈ N c ∧ ((N c).erase o).length = 0)
def remE (N : Int → List OwD) (c : Int) (o : OwD) : Int := if o ∈ N c then 0 else 7
theorem addL_le {N : Int → List OwD} {n : Nat} (h : ∀ i, (N i).length ≤ n) (c : Int) (o : OwD) (i : Int) : (addL N c o i).length ≤ n + 1 := by
  unfold addL
  split
  · refine setL_le (fun i => Nat.le_succ_of_le (h i)) ?_ i
    rw [insO_len]
    exact Nat.succ_le_succ (h c)
  · exact Nat.le_succ_of_le (h i)
theorem remL_le {N : Int → List OwD} {n : Nat} (h : ∀ i, (N i).length ≤ n) (c : Int) (o : OwD) (i : Int) : (remL N c o i).length ≤ n := by
  unfold remL
  split
  · exact setL_le h (Nat.le_trans (List.length_erase_le) (h c)) i
  · exact h i
theorem addL_other {N : Int → List OwD} {c i : Int} {o : OwD} (h : i ≠ c) : addL N c o i = N i := by
  unfold addL
  split
  · exact setL_other h
  · rfl
theorem remL_other {N : Int → List OwD} {c i : Int} {o : OwD} (h : i ≠ c) : remL N c o i = N i := by
  unfold remL
  split
  · exact setL_other h
  · rfl
section
variable {H : Nat} {A : World} {R : List Thing}
theorem add_all (pb : Nat) (F : List Nat) (N W : Int → List OwD) (c : Int) (o : OwD) (w : World) (hO : OwnT H A (tOB pb F N W :: R) w) (hn : (N c).length ≤ 1000000000) :
    Calls Try.prog 14 #[.pointer (some ⟨pb, 0, none⟩), .int .i64 c, ownV o] w fun e w' => e = .returned (.int .i64 (addE N c o)) ∧ ∃ F', OwnT H A (tOB pb F' (addL N c o) W :: R) w' := by
  by_cases hc : 1 ≤ c ∧ c ≤ 1023
  · refine (add_any pb F N W c o w hO hc.1 hc.2 hn).mono ?_
    rintro e w' ⟨h1, h2⟩
    by_cases h : o ∈ N c
    · obtain ⟨rfl, h3⟩ := h1 h
      exact ⟨by unfold addE; rw [if_pos hc, if_pos h], F, by unfold addL; rw [if_neg (fun e => e.2 h)]; exact h3⟩
    · obtain ⟨rfl, F', h3⟩ := h2 h
      exact ⟨by unfold addE; rw [if_pos hc, if_neg h], F', by unfold addL; rw [if_pos ⟨hc, h⟩]; exact h3⟩
  · refine (add_arg pb c o w (by omega)).mono ?_
    rintro e w' ⟨rfl, hE⟩
    exact ⟨by unfold addE; rw [if_neg hc], F, by unfold addL; rw [if_neg (fun e => hc e.1)]; exact hO.ext hE⟩
theorem rem_all (pb : Nat) (F : List Nat) (N W : Int → List OwD) (c : Int) (o : OwD) (w : World) (hO : OwnT H A (tOB pb F N W :: R) w) (hc : wfV c) (hn : (N c).length ≤ 1000000000) :
    Calls Try.prog 17 #[.pointer (some ⟨pb, 0, none⟩), .int .i64 c, ownV o] w fun e w' => e = .returned (.tuple #[.bool (remB? N c o), .int .i64 (remE N c o)]) ∧ ∃ F', OwnT H A (tOB pb F' (remL N c o) W :: R) w' := by
  refine (rem_any pb F N W c o w hO hc hn).mono ?_
  rintro e w' ⟨h1, h2⟩
  by_cases h : o ∈ N c
  · obtain ⟨rfl, F', h3⟩ := h2 h
    exact ⟨by unfold remE remB?; rw [if_pos h]; simp [h], F', by unfold remL; rw [if_pos h]; exact h3⟩
  · obtain ⟨rfl, h3⟩ := h1 h
    exact ⟨by unfold remE remB?; rw [if_neg h]; simp [h], F, by unfold remL; rw [if_neg h]; exact h3⟩
end
/-- A deed. -/
abbrev DeedD := Int × Int × OwD
def deedC (x : DeedD) : List Value := .int .i64 x.1 :: .int .i64 x.2.1 :: ownC x.2.2
def wfO (x : OwD) : Prop := wfV x.1 ∧ wfV x.2.1 ∧ wfV x.2.2
def wfD (x : DeedD) : Prop := wfV x.1 ∧ wfV x.2.1 ∧ wfO x.2.2
theorem cells_int13 : Try.prog.cellsOf 3 = 1 := by kernel_rfl
theorem cells_own13 : Try.prog.cellsOf 31 = 3 := by kernel_rfl
theorem cells_act13 : Try.prog.cellsOf 33 = 5 := by kernel_rfl
theorem fit_own {w : World} {cs : List Value} (hf : Fit Try.prog w 31 cs) : ∃ x, cs = ownC x ∧ wfO x := by
  obtain ⟨hl, hx⟩ := fit_fields 3 Try.underlying31 cells_own13 hf
  obtain ⟨a, e0, w0⟩ := cell_int Try.underlying3 (hx 0 0 3 1 rfl cells_int13)
  obtain ⟨b, e1, w1⟩ := cell_int Try.underlying3 (hx 1 1 3 1 rfl cells_int13)
  obtain ⟨c, e2, w2⟩ := cell_int Try.underlying3 (hx 2 2 3 1 rfl cells_int13)
  exact ⟨(a, b, c), list3_of hl e0 e1 e2, w0, w1, w2⟩
theorem arg_owner {w : World} {v : Value} (h : Arg Try.prog w 31 v) : ∃ x, v = ownV x ∧ wfO x := by
  obtain ⟨cs, rfl, hf⟩ := arg_struct Try.underlying31 h
  obtain ⟨x, rfl, hx⟩ := fit_own hf
  exact ⟨x, rfl, hx⟩
theorem arg_deeds {w : World} {v : Value} (h : Arg Try.prog w 22 v) :
    ∃ A len cap, ∃ xs : List DeedD, v = .slice A len cap ∧ len ≤ cap ∧ cap ≤ maxLen ∧ xs.length = len ∧ (∀ x ∈ xs, wfD x) ∧ Row w A 5 deedC xs :=
  fit_row deedC wfD Try.underlying22 cells_act13 (by decide) (fun cs _ hf => by
    obtain ⟨hl, hx⟩ := fit_fields 5 Try.underlying33 cells_act13 hf
    obtain ⟨a, e0, w0⟩ := cell_int Try.underlying3 (hx 0 0 3 1 rfl cells_int13)
    obtain ⟨b, e1, w1⟩ := cell_int Try.underlying3 (hx 1 1 3 1 rfl cells_int13)
    obtain ⟨x, e2, w2⟩ := fit_own (hx 2 2 31 3 rfl cells_own13)
    refine ⟨(a, b, x), ?_, w0, w1, w2⟩
    match cs, hl with
    | [u0, u1, u2, u3, u4], _ =>
      simp at e0 e1 e2
      subst e0 e1
      show _ = _ :: _ :: ownC x
      rw [← e2]) (arg_slice Try.underlying22 h)
theorem alone_self {N W : Int → List OwD} {c : Int} {o : OwD} (h : N c = [o]) (hw : W c = [] ∨ W c = [o]) : aloneB N W c o = true := by
  unfold aloneB othersB
  rw [h]
  rcases hw with e | e <;> rw [e] <;> simp
theorem alone_not {N W : Int → List OwD} {c : Int} {o q : OwD} (h : N c = [o]) (hq : q ≠ o) : aloneB N W c q = false := by
  unfold aloneB othersB
  rw [h]
  simp [hq.symm]
theorem insO_erase (o : OwD) : ∀ X : List OwD, o ∉ X → (insO o X).erase o = X
  | [], _ => by simp [insO]
  | x :: r, h => by
    have hx : x ≠ o := fun e => h (by simp [e])
    unfold insO
    split
    · rw [List.erase_cons_tail (by simpa using hx), insO_erase o r (fun e => h (by simp [e]))]
    · simp
theorem alone_two {N W : Int → List OwD} {c : Int} {o q : OwD} {X : List OwD} (h : N c = insO q X) (hX : X.length = 1) : aloneB N W c o = false := by
  unfold aloneB
  rw [h, insO_len, hX]
  rfl
theorem alone_was {N W : Int → List OwD} {c : Int} {o q : OwD} (hw : W c = [o]) (hq : q ≠ o) : aloneB N W c q = false := by
  unfold aloneB othersB
  rw [hw]
  simp [hq.symm]
/-- A deed of any kind, done. -/
def Stepped (K c : Int) (o : OwD) (N W N' W' : Int → List OwD) : Prop := if K = 1 ∨ K = 2 then N' = addL N c o ∧ W' = W else if K = 3 then N' = remL N c o ∧ W' = W else N' = N ∧ W' = N
theorem stepped_add {K c : Int} {o : OwD} {N W : Int → List OwD} (h : K = 1 ∨ K = 2) : Stepped K c o N W (addL N c o) W := by unfold Stepped; rw [if_pos h]; exact ⟨rfl, rfl⟩
theorem stepped_rem {c : Int} {o : OwD} {N W : Int → List OwD} : Stepped 3 c o N W (remL N c o) W := by unfold Stepped; rw [if_neg (by omega), if_pos rfl]; exact ⟨rfl, rfl⟩
theorem stepped_com {K c : Int} {o : OwD} {N W : Int → List OwD} (h : ¬ (K = 1 ∨ K = 2)) (h3 : K ≠ 3) : Stepped K c o N W N N := by unfold Stepped; rw [if_neg h, if_neg h3]; exact ⟨rfl, rfl⟩
theorem Stepped.le {K c : Int} {o : OwD} {N W N' W' : Int → List OwD} {n : Nat} (h : Stepped K c o N W N' W') (hn : ∀ i, (N i).length ≤ n) (hm : ∀ i, (W i).length ≤ n) : (∀ i, (N' i).length ≤ n + 1) ∧ ∀ i, (W' i).length ≤ n + 1 := by
  unfold Stepped at h
  split at h
  · obtain ⟨rfl, rfl⟩ := h
    exact ⟨addL_le hn c o, fun i => Nat.le_succ_of_le (hm i)⟩
  · split at h
    · obtain ⟨rfl, rfl⟩ := h
      exact ⟨fun i => Nat.le_succ_of_le (remL_le hn c o i), fun i => Nat.le_succ_of_le (hm i)⟩
    · obtain ⟨rfl, rfl⟩ := h
      exact ⟨fun i => Nat.le_succ_of_le (hn i), fun i => Nat.le_succ_of_le (hn i)⟩
theorem Stepped.alone {K c : Int} {o x : OwD} {N W N' W' : Int → List OwD} (h : Stepped K c o N W N' W') (hc : c ≠ 5 ∨ K = 4) (hN : N 5 = [x]) (hW : W 5 = [] ∨ W 5 = [x]) : N' 5 = [x] ∧ (W' 5 = [] ∨ W' 5 = [x]) := by
  unfold Stepped at h
  split at h
  · obtain ⟨rfl, rfl⟩ := h
    exact ⟨by rw [addL_other (by omega)]; exact hN, hW⟩
  · split at h
    · obtain ⟨rfl, rfl⟩ := h
      exact ⟨by rw [remL_other (by omega)]; exact hN, hW⟩
    · obtain ⟨rfl, rfl⟩ := h
      exact ⟨hN, .inr hN⟩
/-- One is alone. -/
def AloneI (w : World) (pb : Nat) (o : OwD) (R : List Thing) (k : Nat) (wx : World) : Prop := ∃ F N W, OwnT w.heap.size w (tOB pb F N W :: R) wx ∧ N 5 = [o] ∧ (W 5 = [] ∨ W 5 = [o]) ∧ (∀ c, (N c).length ≤ k) ∧ ∀ c, (W c).length ≤ k
set_option maxRecDepth 100000 in
set_option maxHeartbeats 4000000 in
theorem ownersAlone_core (A : Option Addr) (len cap : Nat) (xs : List DeedD) (o q : OwD) (w : World) (hlen : xs.length = len) (hrow : Row w A 5 deedC xs) (hw : ∀ x ∈ xs, wfD x) (hm : len ≤ maxLen) :
    Calls Try.prog 4 #[.slice A len cap, ownV o, ownV q] w fun e w' => e = .returned (.bool true) ∧ Below w.heap.size w w' := by
  unfold maxLen at hm
  have Hlen := Lib.hid hlen
  have Hrow := Lib.hid hrow
  have Hw := Lib.hid hw
  clear hlen hrow hw
  obtain ⟨z, hz⟩ : ∃ z : Bool, decide (q = o) = z := ⟨_, rfl⟩
  have HZ := Lib.hid hz
  obtain ⟨o1, o2, o3⟩ := o
  obtain ⟨q1, q2, q3⟩ := q
  have HEQ := Lib.hid (fun W => hz ▸ eq_own 9998 q1 q2 q3 o1 o2 o3 W)
  clear hz
  unfold ownV
  have HO := Lib.hid (((OwnT.start w).new 31 #[.int .i64 o1, .int .i64 o2, .int .i64 o3]).new 31 #[.int .i64 q1, .int .i64 q2, .int .i64 q3])
  simp only [World.size_alloc] at HO
  go_enter Try.func4, Try.ntmps4
  go_upto_region 1 with fail
  generalize (w.alloc (.cells #[.int .i64 o1, .int .i64 o2, .int .i64 o3] 31)).alloc (.cells #[.int .i64 q1, .int .i64 q2, .int .i64 q3] 31) = w1 at HO ⊢
  obtain ⟨ob, hob⟩ : ∃ g, w.heap.size = g := ⟨_, rfl⟩
  obtain ⟨qb, hqb⟩ : ∃ g, w.heap.size + 1 = g := ⟨_, rfl⟩
  have HO : Hid (OwnT w.heap.size w [tBlk qb 31 #[.int .i64 q1, .int .i64 q2, .int .i64 q3], tBlk ob 31 #[.int .i64 o1, .int .i64 o2, .int .i64 o3]] w1) := hob ▸ hqb ▸ HO
  rw [hqb, hob]
  clear hqb hob
  go_wp2_with fail
  refine (awake13 _).mono ?_
  rintro e w2 ⟨rfl, hE2⟩
  have HO := Lib.hid (HO.out.ext hE2)
  clear hE2
  by_cases hl60 : 60 < len
  · go_wp2_with fail
    go_ret
    exact ⟨rfl, HO.out.below⟩
  · go_wp2_with fail
    refine (newO_any HO.out).mono ?_
    rintro e w3 ⟨pb, F, rfl, O3, -⟩
    have HO := Lib.hid O3
    have o0 := O3.b2.cell 0
    have o1_ := O3.b2.cell 1
    have o2_ := O3.b2.cell 2
    simp at o0 o1_ o2_
    clear O3
    go_wp2_with fail
    refine (addB pb F n0 n0 5 (o1, o2, o3) [] [(o1, o2, o3)] _ HO.out (by decide) (by decide) rfl rfl (by simp) (by simp)).mono ?_
    rintro e w4 ⟨rfl, F', O4⟩
    have HO := Lib.hid O4
    have x0 := O4.b2.cell 0
    have x1 := O4.b2.cell 1
    have x2 := O4.b2.cell 2
    simp at x0 x1 x2
    clear O4 o0 o1_ o2_
    go_wp2_with fail
    refine (alone_any _ pb _ _ _ 5 (o1, o2, o3) HO.out.bs (by decide) (by rw [setL_same]; simp) (by simp [n0])).mono ?_
    rintro e w5 ⟨he, hE⟩
    rw [alone_self (setL_same _ _ _) (.inl rfl)] at he
    subst he
    have hJ : AloneI w pb (o1, o2, o3) [tBlk qb 31 #[.int .i64 q1, .int .i64 q2, .int .i64 q3], tBlk ob 31 #[.int .i64 o1, .int .i64 o2, .int .i64 o3]] 1 w5 := ⟨_, _, _, HO.out.ext hE, setL_same _ _ _, .inl rfl, setL_le (fun _ => by simp [n0]) (by simp), fun _ => by simp [n0]⟩
    clear hE x0 x1 x2 HO
    go_wp2_with fail
    go_loopw [8] (fun i wr => ∃ k : Nat, i = .int .i64 k ∧ k ≤ len ∧ AloneI w pb (o1, o2, o3) [tBlk qb 31 #[.int .i64 q1, .int .i64 q2, .int .i64 q3], tBlk ob 31 #[.int .i64 o1, .int .i64 o2, .int .i64 o3]] (k + 1) wr) (fun i _ => len - (intOf i).toNat)
    case atStart => exact ⟨0, rfl, by omega, hJ⟩
    case round =>
      obtain ⟨k, rfl, hk, hJ'⟩ := hrel
      clear hJ
      by_cases hlt : k < len
      · obtain ⟨F, N, W, O, hN, hW, hn, hm2⟩ := hJ'
        obtain ⟨b, off, rfl, hbl, hc⟩ := Hrow.out.in_ O.below (i := k) (by have := Hlen.out; omega)
        have hwf := Hw.out (xs[k]'(by have := Hlen.out; omega)) (List.getElem_mem _)
        generalize xs[k]'(by have := Hlen.out; omega) = x at hc hwf
        obtain ⟨K, c, y1, y2, y3⟩ := x
        have HWF := Lib.hid hwf
        have c0 := hc 0 _ rfl
        have c1 := hc 1 _ rfl
        have c2 := hc 2 _ rfl
        have c3 := hc 3 _ rfl
        have c4 := hc 4 _ rfl
        simp at c0 c1 c2 c3 c4
        have HO := Lib.hid O
        have HI := Lib.hid (And.intro hN (And.intro hW (And.intro hn hm2)))
        clear hc O hwf hN hW hn hm2
        go_upto_region 12 with fail
        have HO4 := Lib.hid (HO.out.new 33 #[.int .i64 K, .int .i64 c, .int .i64 y1, .int .i64 y2, .int .i64 y3])
        clear HO c0 c1 c2 c3 c4
        generalize wr.alloc (.cells #[.int .i64 K, .int .i64 c, .int .i64 y1, .int .i64 y2, .int .i64 y3] 33) = w6 at HO4 ⊢
        generalize wr.heap.size = xb at HO4 ⊢
        have c0 := HO4.out.b0.cell 0
        have c1 := HO4.out.b0.cell 1
        have c2 := HO4.out.b0.cell 2
        have c3 := HO4.out.b0.cell 3
        have c4 := HO4.out.b0.cell 4
        simp at c0 c1 c2 c3 c4
        by_cases hskip : c = 5 ∧ K ≠ 4
        · obtain ⟨rfl, hK4⟩ := hskip
          have hk4 : (K == 4) = false := by rw [beq_eq_false_iff_ne]; exact hK4
          go_wp2_with fail
          go_roundw
          case rel => exact ⟨k + 1, by go_num, by omega, _, _, _, HO4.out.tail, HI.out.1, HI.out.2.1, fun c => Nat.le_succ_of_le (HI.out.2.2.1 c), fun c => Nat.le_succ_of_le (HI.out.2.2.2 c)⟩
          case measure => simp [intOf]; omega
        · have hsk : c ≠ 5 ∨ K = 4 := by omega
          have HSK := Lib.hid hsk
          have HO5 := Lib.hid (HO4.out.perm (.swap _ _ _))
          clear HO4 hskip
          by_cases hc5 : c = 5
          · obtain rfl : K = 4 := by omega
            subst hc5
            clear hsk
            go_wp2_with fail
            refine (commitB pb _ _ _ _ HO5.out (fun c => Nat.le_trans (HI.out.2.2.1 c) (by omega))).mono ?_
            rintro e wc ⟨rfl, F5, O5⟩
            have HO6 := Lib.hid O5
            have hst : Stepped 4 5 (y1, y2, y3) N W N N := stepped_com (by omega) (by omega)
            have HJ := Lib.hid (And.intro (hst.alone (.inr rfl) HI.out.1 HI.out.2.1) (hst.le HI.out.2.2.1 HI.out.2.2.2))
            clear O5 hst c0 c1 c2 c3 c4 HO5
            have HOB := Lib.hid HO6.out.tail.b2
            have HQB := Lib.hid HO6.out.b2
            have x0 := HOB.out.cell 0
            have x1 := HOB.out.cell 1
            have x2 := HOB.out.cell 2
            simp at x0 x1 x2
            go_wp2_with fail
            refine (alone_any _ pb _ _ _ 5 (o1, o2, o3) HO6.out.bs (by decide) (Nat.le_trans (HJ.out.2.1 5) (by omega)) (Nat.le_trans (HJ.out.2.2 5) (by omega))).mono ?_
            rintro e w7 ⟨he, hE⟩
            rw [alone_self HJ.out.1.1 HJ.out.1.2] at he
            subst he
            have HO7 := Lib.hid (HO6.out.ext hE)
            clear hE x0 x1 x2 HOB HQB
            have HOB := Lib.hid HO7.out.tail.b2
            have HQB := Lib.hid HO7.out.b2
            have x0 := HOB.out.cell 0
            have x1 := HOB.out.cell 1
            have x2 := HOB.out.cell 2
            have y0 := HQB.out.cell 0
            have y1_ := HQB.out.cell 1
            have y2_ := HQB.out.cell 2
            simp at x0 x1 x2 y0 y1_ y2_
            have hq := HEQ.out
            cases z
            · go_wp2_with fail
              refine (alone_any _ pb _ _ _ 5 (q1, q2, q3) HO7.out.bs (by decide) (Nat.le_trans (HJ.out.2.1 5) (by omega)) (Nat.le_trans (HJ.out.2.2 5) (by omega))).mono ?_
              rintro e w8 ⟨he, hE⟩
              rw [alone_not HJ.out.1.1 (of_decide_eq_false HZ.out)] at he
              subst he
              have HO8 := Lib.hid (HO7.out.ext hE)
              clear hE x0 x1 x2 y0 y1_ y2_ HOB HQB hq
              go_wp2_with fail
              refine (count_any _ pb _ _ _ 5 HO8.out.bs (by decide) (Nat.le_trans (HJ.out.2.1 5) (by omega))).mono ?_
              rintro e w9 ⟨he, hE⟩
              rw [HJ.out.1.1] at he
              subst he
              have HO9 := Lib.hid (HO8.out.ext hE)
              clear hE
              go_wp2_with fail
              go_roundw
              case rel => exact ⟨k + 1, by go_num, by omega, _, _, _, HO9.out.sub (.cons_cons _ (.cons _ (.refl _))), HJ.out.1.1, HJ.out.1.2, HJ.out.2.1, HJ.out.2.2⟩
              case measure => simp [intOf]; omega
            · go_wp2_with fail
              refine (count_any _ pb _ _ _ 5 HO7.out.bs (by decide) (Nat.le_trans (HJ.out.2.1 5) (by omega))).mono ?_
              rintro e w9 ⟨he, hE⟩
              rw [HJ.out.1.1] at he
              subst he
              have HO9 := Lib.hid (HO7.out.ext hE)
              clear hE x0 x1 x2 y0 y1_ y2_ HOB HQB hq
              go_wp2_with fail
              go_roundw
              case rel => exact ⟨k + 1, by go_num, by omega, _, _, _, HO9.out.sub (.cons_cons _ (.cons _ (.refl _))), HJ.out.1.1, HJ.out.1.2, HJ.out.2.1, HJ.out.2.2⟩
              case measure => simp [intOf]; omega
          · have hc5b : (c == 5) = false := by rw [beq_eq_false_iff_ne]; exact hc5
            go_upto_block 2 with fail
            go_cut [] (fun wx => ∃ F N' W', OwnT w.heap.size w [tOB pb F N' W', tBlk xb 33 #[.int .i64 K, .int .i64 c, .int .i64 y1, .int .i64 y2, .int .i64 y3], tBlk qb 31 #[.int .i64 q1, .int .i64 q2, .int .i64 q3], tBlk ob 31 #[.int .i64 o1, .int .i64 o2, .int .i64 o3]] wx ∧ Stepped K c (y1, y2, y3) N W N' W')
            case first =>
              have HLE := Lib.hid (show ∀ c, (N c).length ≤ 1000000000 from fun c => Nat.le_trans (HI.out.2.2.1 c) (by omega))
              by_cases h1 : K = 1 ∨ K = 2
              · have HST := Lib.hid (stepped_add (c := c) (o := (y1, y2, y3)) (N := N) (W := W) h1)
                rcases h1 with rfl | rfl
                all_goals
                  go_wp2_with fail
                  refine (add_all pb _ _ _ c (y1, y2, y3) _ HO5.out (HLE.out c)).mono ?_
                  rintro e w8 ⟨rfl, F8, O8⟩
                  have HO8 := Lib.hid O8
                  clear O8 c0 c1 c2 c3 c4
                  go_wp2_with fail
                  go_meet
                  case rel => exact ⟨_, _, _, HO8.out, HST.out⟩
              · by_cases h3 : K = 3
                · subst h3
                  go_wp2_with fail
                  refine (rem_all pb _ _ _ c (y1, y2, y3) _ HO5.out HWF.out.2.1 (HLE.out c)).mono ?_
                  rintro e w8 ⟨rfl, F8, O8⟩
                  have HO8 := Lib.hid O8
                  clear O8 c0 c1 c2 c3 c4
                  go_wp2_with fail
                  go_meet
                  case rel => exact ⟨_, _, _, HO8.out, stepped_rem⟩
                · have HST := Lib.hid (stepped_com (c := c) (o := (y1, y2, y3)) (N := N) (W := W) h1 h3)
                  have e1 : (K == 1) = false := by rw [beq_eq_false_iff_ne]; omega
                  have e2 : (K == 2) = false := by rw [beq_eq_false_iff_ne]; omega
                  have e3 : (K == 3) = false := by rw [beq_eq_false_iff_ne]; omega
                  clear h1 h3
                  go_wp2_with fail
                  refine (commitB pb _ _ _ _ HO5.out HLE.out).mono ?_
                  rintro e w8 ⟨rfl, F8, O8⟩
                  have HO8 := Lib.hid O8
                  clear O8 c0 c1 c2 c3 c4
                  go_wp2_with fail
                  go_meet
                  case rel => exact ⟨_, _, _, HO8.out, HST.out⟩
            case rest =>
              obtain ⟨F5, N', W', O5, hst⟩ := hcut
              have HO6 := Lib.hid O5
              have HJ := Lib.hid (And.intro (hst.alone (.inl hc5) HI.out.1 HI.out.2.1) (hst.le HI.out.2.2.1 HI.out.2.2.2))
              clear O5 hst HO5
              have HOB := Lib.hid HO6.out.tail.b2
              have HQB := Lib.hid HO6.out.b2
              have x0 := HOB.out.cell 0
              have x1 := HOB.out.cell 1
              have x2 := HOB.out.cell 2
              simp at x0 x1 x2
              go_wp2_with fail
              refine (alone_any _ pb _ _ _ 5 (o1, o2, o3) HO6.out.bs (by decide) (Nat.le_trans (HJ.out.2.1 5) (by omega)) (Nat.le_trans (HJ.out.2.2 5) (by omega))).mono ?_
              rintro e w7 ⟨he, hE⟩
              rw [alone_self HJ.out.1.1 HJ.out.1.2] at he
              subst he
              have HO7 := Lib.hid (HO6.out.ext hE)
              clear hE x0 x1 x2 HOB HQB
              have HOB := Lib.hid HO7.out.tail.b2
              have HQB := Lib.hid HO7.out.b2
              have x0 := HOB.out.cell 0
              have x1 := HOB.out.cell 1
              have x2 := HOB.out.cell 2
              have y0 := HQB.out.cell 0
              have y1_ := HQB.out.cell 1
              have y2_ := HQB.out.cell 2
              simp at x0 x1 x2 y0 y1_ y2_
              have hq := HEQ.out
              cases z
              · go_wp2_with fail
                refine (alone_any _ pb _ _ _ 5 (q1, q2, q3) HO7.out.bs (by decide) (Nat.le_trans (HJ.out.2.1 5) (by omega)) (Nat.le_trans (HJ.out.2.2 5) (by omega))).mono ?_
                rintro e w8 ⟨he, hE⟩
                rw [alone_not HJ.out.1.1 (of_decide_eq_false HZ.out)] at he
                subst he
                have HO8 := Lib.hid (HO7.out.ext hE)
                clear hE x0 x1 x2 y0 y1_ y2_ HOB HQB hq
                go_wp2_with fail
                refine (count_any _ pb _ _ _ 5 HO8.out.bs (by decide) (Nat.le_trans (HJ.out.2.1 5) (by omega))).mono ?_
                rintro e w9 ⟨he, hE⟩
                rw [HJ.out.1.1] at he
                subst he
                have HO9 := Lib.hid (HO8.out.ext hE)
                clear hE
                go_wp2_with fail
                go_roundw
                case rel => exact ⟨k + 1, by go_num, by omega, _, _, _, HO9.out.sub (.cons_cons _ (.cons _ (.refl _))), HJ.out.1.1, HJ.out.1.2, HJ.out.2.1, HJ.out.2.2⟩
                case measure => simp [intOf]; omega
              · go_wp2_with fail
                refine (count_any _ pb _ _ _ 5 HO7.out.bs (by decide) (Nat.le_trans (HJ.out.2.1 5) (by omega))).mono ?_
                rintro e w9 ⟨he, hE⟩
                rw [HJ.out.1.1] at he
                subst he
                have HO9 := Lib.hid (HO7.out.ext hE)
                clear hE x0 x1 x2 y0 y1_ y2_ HOB HQB hq
                go_wp2_with fail
                go_roundw
                case rel => exact ⟨k + 1, by go_num, by omega, _, _, _, HO9.out.sub (.cons_cons _ (.cons _ (.refl _))), HJ.out.1.1, HJ.out.1.2, HJ.out.2.1, HJ.out.2.2⟩
                case measure => simp [intOf]; omega
      · obtain rfl : len = k := by omega
        obtain ⟨F5, N, W, O, hN, hW, hn, hm2⟩ := hJ'
        have HO := Lib.hid O
        have HI := Lib.hid (And.intro hN (And.intro hn hm2))
        clear O hN hW hn hm2
        have ya := HO.out.b1.cell 0
        have yb := HO.out.b1.cell 1
        have yc := HO.out.b1.cell 2
        have xa := HO.out.b2.cell 0
        have xb := HO.out.b2.cell 1
        have xc := HO.out.b2.cell 2
        simp at ya yb yc xa xb xc
        have hq := HEQ.out
        cases z
        · have hne : (q1, q2, q3) ≠ (o1, o2, o3) := of_decide_eq_false HZ.out
          have HNE := Lib.hid hne
          have HB := Lib.hid (show ∀ c, (N c).length ≤ 1000000000 from fun c => Nat.le_trans (HI.out.2.1 c) (by omega))
          have HNI := Lib.hid (show (q1, q2, q3) ∉ [(o1, o2, o3)] by simpa using hne)
          clear hne
          go_wp2_with fail
          refine (commitB pb _ _ _ _ HO.out HB.out).mono ?_
          rintro e w7 ⟨rfl, F6, O1⟩
          have HO := Lib.hid O1
          clear O1
          clear ya yb yc xa xb xc hq
          have ya := HO.out.b1.cell 0
          have yb := HO.out.b1.cell 1
          have yc := HO.out.b1.cell 2
          simp at ya yb yc
          go_wp2_with fail
          refine (addB pb _ N N 5 (q1, q2, q3) [(o1, o2, o3)] (insO (q1, q2, q3) [(o1, o2, o3)]) _ HO.out (by decide) (by decide) HI.out.1 rfl HNI.out (by simp)).mono ?_
          rintro e w7 ⟨rfl, F7, O1⟩
          have HO := Lib.hid O1
          clear O1
          clear ya yb yc
          have xa := HO.out.b2.cell 0
          have xb := HO.out.b2.cell 1
          have xc := HO.out.b2.cell 2
          simp at xa xb xc
          go_wp2_with fail
          refine (alone_any _ pb _ _ _ 5 (o1, o2, o3) HO.out.bs (by decide) (by rw [setL_same, insO_len]; simp) (by rw [HI.out.1]; simp)).mono ?_
          rintro e w7 ⟨he, hE⟩
          rw [alone_two (q := (q1, q2, q3)) (X := [(o1, o2, o3)]) (setL_same _ _ _) rfl] at he
          subst he
          have HO := Lib.hid (HO.out.ext hE)
          clear hE
          clear xa xb xc
          have ya := HO.out.b1.cell 0
          have yb := HO.out.b1.cell 1
          have yc := HO.out.b1.cell 2
          simp at ya yb yc
          go_wp2_with fail
          refine (alone_any _ pb _ _ _ 5 (q1, q2, q3) HO.out.bs (by decide) (by rw [setL_same, insO_len]; simp) (by rw [HI.out.1]; simp)).mono ?_
          rintro e w7 ⟨he, hE⟩
          rw [alone_two (q := (q1, q2, q3)) (X := [(o1, o2, o3)]) (setL_same _ _ _) rfl] at he
          subst he
          have HO := Lib.hid (HO.out.ext hE)
          clear hE
          clear ya yb yc
          have ya := HO.out.b1.cell 0
          have yb := HO.out.b1.cell 1
          have yc := HO.out.b1.cell 2
          simp at ya yb yc
          go_wp2_with fail
          refine (remB pb _ _ _ 5 (q1, q2, q3) (insO (q1, q2, q3) [(o1, o2, o3)]) [(o1, o2, o3)] false _ HO.out (by decide) (setL_same _ _ _) (insO_erase _ _ HNI.out) rfl ((insO_mem _ _ _).2 (.inl rfl)) (by rw [insO_len]; simp)).mono ?_
          rintro e w7 ⟨rfl, F8, O1⟩
          rw [setL_set] at O1
          have HO := Lib.hid O1
          clear O1
          clear ya yb yc
          have xa := HO.out.b2.cell 0
          have xb := HO.out.b2.cell 1
          have xc := HO.out.b2.cell 2
          simp at xa xb xc
          go_wp2_with fail
          refine (alone_any _ pb _ _ _ 5 (o1, o2, o3) HO.out.bs (by decide) (by rw [setL_same]; simp) (by rw [HI.out.1]; simp)).mono ?_
          rintro e w7 ⟨he, hE⟩
          rw [alone_self (setL_same _ _ _) (.inr HI.out.1)] at he
          subst he
          have HO := Lib.hid (HO.out.ext hE)
          clear hE
          clear xa xb xc
          have xa := HO.out.b2.cell 0
          have xb := HO.out.b2.cell 1
          have xc := HO.out.b2.cell 2
          simp at xa xb xc
          go_wp2_with fail
          refine (remB pb _ _ _ 5 (o1, o2, o3) [(o1, o2, o3)] [] true _ HO.out (by decide) (setL_same _ _ _) (by simp) rfl (by simp) (by simp)).mono ?_
          rintro e w7 ⟨rfl, F9, O1⟩
          rw [setL_set] at O1
          have HO := Lib.hid O1
          clear O1
          clear xa xb xc
          have ya := HO.out.b1.cell 0
          have yb := HO.out.b1.cell 1
          have yc := HO.out.b1.cell 2
          simp at ya yb yc
          go_wp2_with fail
          refine (addB pb _ _ N 5 (q1, q2, q3) [] [(q1, q2, q3)] _ HO.out (by decide) (by decide) (setL_same _ _ _) rfl (by simp) (by simp)).mono ?_
          rintro e w7 ⟨rfl, F10, O1⟩
          rw [setL_set] at O1
          have HO := Lib.hid O1
          clear O1
          clear ya yb yc
          have ya := HO.out.b1.cell 0
          have yb := HO.out.b1.cell 1
          have yc := HO.out.b1.cell 2
          simp at ya yb yc
          go_wp2_with fail
          refine (alone_any _ pb _ _ _ 5 (q1, q2, q3) HO.out.bs (by decide) (by rw [setL_same]; simp) (by rw [HI.out.1]; simp)).mono ?_
          rintro e w7 ⟨he, hE⟩
          rw [alone_was HI.out.1 HNE.out] at he
          subst he
          have HO := Lib.hid (HO.out.ext hE)
          clear hE
          clear ya yb yc
          go_wp2_with fail
          refine (commitB pb _ _ _ _ HO.out (setL_le HB.out (by simp))).mono ?_
          rintro e w7 ⟨rfl, F11, O1⟩
          have HO := Lib.hid O1
          clear O1
          go_wp2_with fail
          refine (commit_nil _).mono ?_
          rintro e w7 ⟨rfl, hE⟩
          have HO := Lib.hid (HO.out.ext hE)
          clear hE
          have xa := HO.out.b2.cell 0
          have xb := HO.out.b2.cell 1
          have xc := HO.out.b2.cell 2
          simp at xa xb xc
          go_wp2_with fail
          refine (rem_nil 1 (o1, o2, o3) _).mono ?_
          rintro e w7 ⟨rfl, hE⟩
          have HO := Lib.hid (HO.out.ext hE)
          clear hE
          clear xa xb xc
          have ya := HO.out.b1.cell 0
          have yb := HO.out.b1.cell 1
          have yc := HO.out.b1.cell 2
          simp at ya yb yc
          go_wp2_with fail
          refine (alone_any _ pb _ _ _ 5 (q1, q2, q3) HO.out.bs (by decide) (by rw [setL_same]; simp) (by rw [setL_same]; simp)).mono ?_
          rintro e w7 ⟨he, hE⟩
          rw [alone_self (setL_same _ _ _) (.inr (setL_same _ _ _))] at he
          subst he
          have HO := Lib.hid (HO.out.ext hE)
          clear hE
          clear ya yb yc
          have xa := HO.out.b2.cell 0
          have xb := HO.out.b2.cell 1
          have xc := HO.out.b2.cell 2
          simp at xa xb xc
          go_wp2_with fail
          refine (add_nil 1 (o1, o2, o3) _).mono ?_
          rintro e w7 ⟨rfl, hE⟩
          have HO := Lib.hid (HO.out.ext hE)
          clear hE
          clear xa xb xc
          go_wp2_with fail
          refine (count_nil 1 _).mono ?_
          rintro e w7 ⟨rfl, rfl⟩
          go_wp2_with fail
          refine (free_nil _).mono ?_
          rintro e w7 ⟨rfl, hE⟩
          have HO := Lib.hid (HO.out.ext hE)
          clear hE
          go_wp2_with fail
          refine (list_nil 1 _).mono ?_
          rintro e w7 ⟨rfl, rfl⟩
          go_wp2_with fail
          refine (chunks_nil _).mono ?_
          rintro e w7 ⟨rfl, hE⟩
          have HO := Lib.hid (HO.out.ext hE)
          clear hE
          have xa := HO.out.b2.cell 0
          have xb := HO.out.b2.cell 1
          have xc := HO.out.b2.cell 2
          simp at xa xb xc
          go_wp2_with fail
          refine (alone_nil 1 (o1, o2, o3) _).mono ?_
          rintro e w7 ⟨rfl, hE⟩
          have HO := Lib.hid (HO.out.ext hE)
          clear hE
          clear xa xb xc
          go_wp2_with fail
          refine (was_nil 1 _).mono ?_
          rintro e w7 ⟨rfl, rfl⟩
          go_wp2_with fail
          go_ret
          exact ⟨rfl, HO.out.below⟩
        · have heq : (q1, q2, q3) = (o1, o2, o3) := of_decide_eq_true HZ.out
          have HAE := Lib.hid (show addE N 5 (q1, q2, q3) = 8 by unfold addE; rw [HI.out.1, heq]; simp)
          clear heq
          go_wp2_with fail
          refine (add_all pb _ N W 5 (q1, q2, q3) _ HO.out (Nat.le_trans (HI.out.2.1 5) (by omega))).mono ?_
          rintro e w7 ⟨he, F6, O1⟩
          rw [HAE.out] at he
          subst he
          have HO := Lib.hid O1
          clear O1 xa xb xc ya yb yc hq
          go_wp2_with fail
          go_ret
          exact ⟨rfl, HO.out.below⟩
theorem ownersAlone_walk (w : World) (v0 v1 v2 : Value) (h0 : Arg Try.prog w 22 v0) (h1 : Arg Try.prog w 31 v1) (h2 : Arg Try.prog w 31 v2) :
    Calls Try.prog 4 #[v0, v1, v2] w fun e w' => e = .returned (.bool true) ∧ Below w.heap.size w w' := by
  obtain ⟨A, len, cap, xs, rfl, hl1, hl2, hl3, hwf, hrow⟩ := arg_deeds h0
  obtain ⟨o, rfl, _⟩ := arg_owner h1
  obtain ⟨q, rfl, _⟩ := arg_owner h2
  exact ownersAlone_core A len cap xs o q w hl3 hrow hwf (by omega)
end Go.Proofs.Ytdpohbaeopidmaa

/- owners' law: OwnersFree: free numbers; List as a thing. -/
namespace Go.Proofs.Ytdpohbaeopidmaa
set_option linter.unusedVariables false
set_option linter.unusedSimpArgs false
open Go.RowKit Go.Maps

theorem notin_ex (C : List Int) (n : Nat) (h : C.length < n) : ∃ i : Nat, 1 ≤ i ∧ i ≤ n ∧ (i : Int) ∉ C := by
  refine Classical.byContradiction fun hno => ?_
  have hall : ∀ i : Nat, i < n → ((i + 1 : Nat) : Int) ∈ C := fun i hi => Classical.byContradiction fun hc => hno ⟨i + 1, by omega, by omega, hc⟩
  have h1 := nodup_lt_le C.length ((List.range n).map fun i => C.idxOf ((i + 1 : Nat) : Int)) (by
    rw [List.nodup_iff_pairwise_ne, List.pairwise_map]
    refine List.pairwise_lt_range.imp_of_mem (fun {a b} ha hb hab e => ?_)
    have ha' := hall a (List.mem_range.1 ha)
    have hb' := hall b (List.mem_range.1 hb)
    have e1 := List.getElem_idxOf (List.idxOf_lt_length_of_mem ha')
    have e2 := List.getElem_idxOf (List.idxOf_lt_length_of_mem hb')
    simp only [e] at e1
    rw [e1] at e2
    omega) (fun x hx => by
      obtain ⟨i, hi, rfl⟩ := List.mem_map.1 hx
      exact List.idxOf_lt_length_of_mem (hall i (List.mem_range.1 hi)))
  simp at h1
  omega
theorem least_ex (P : Nat → Prop) : ∀ n : Nat, (∃ i, 1 ≤ i ∧ i ≤ n ∧ P i) → ∃ i, 1 ≤ i ∧ i ≤ n ∧ P i ∧ ∀ j, 1 ≤ j → j < i → ¬ P j := by
  intro n
  induction n with
  | zero => rintro ⟨i, h1, h2, _⟩; omega
  | succ n ih =>
    rintro ⟨i, h1, h2, h3⟩
    by_cases h : ∃ i, 1 ≤ i ∧ i ≤ n ∧ P i
    · obtain ⟨j, k1, k2, k3, k4⟩ := ih h
      exact ⟨j, k1, by omega, k3, k4⟩
    · refine ⟨i, h1, h2, h3, fun j k1 k2 k3 => h ⟨j, k1, by omega, k3⟩⟩
/-- C has all chunks with owners. -/
def Cover (C : List Int) (N W : Int → List OwD) : Prop := ∀ c, ¬ (N c = [] ∧ W c = []) → c ∈ C
theorem Cover.free {C : List Int} {N W : Int → List OwD} (h : Cover C N W) (hl : C.length ≤ 100) : ∃ r : Nat, 1 ≤ r ∧ r ≤ 1023 ∧ N (r : Int) = [] ∧ W (r : Int) = [] ∧ (∀ j : Nat, 1 ≤ j → j < r → ¬ (N (j : Int) = [] ∧ W (j : Int) = [])) ∧ FreeIs N W (r : Int) := by
  obtain ⟨i, h1, h2, h3⟩ := notin_ex C 101 (by omega)
  obtain ⟨r, k1, k2, k3, k4⟩ := least_ex (fun i => N (i : Int) = [] ∧ W (i : Int) = []) 101 ⟨i, h1, h2, Classical.byContradiction fun hc => h3 (h _ hc)⟩
  refine ⟨r, k1, by omega, k3.1, k3.2, k4, .inl ⟨by omega, by omega, k3.1, k3.2, fun j h4 h5 => ?_⟩⟩
  obtain ⟨m, rfl⟩ := Int.eq_ofNat_of_zero_le (show 0 ≤ j by omega)
  exact k4 m (by omega) (by omega)
theorem Cover.cons {C : List Int} {N W N' W' : Int → List OwD} (c : Int) (h : Cover C N W) (hn : ∀ i, i ≠ c → N' i = N i) (hw : ∀ i, i ≠ c → W' i = W i) : Cover (c :: C) N' W' := fun i hi => by
  by_cases e : i = c
  · simp [e]
  · rw [hn i e, hw i e] at hi
    exact List.mem_cons_of_mem _ (h i hi)
theorem Stepped.cover {K c : Int} {o : OwD} {N W N' W' : Int → List OwD} {C : List Int} (h : Stepped K c o N W N' W') (hC : Cover C N W) : Cover (c :: C) N' W' := by
  unfold Stepped at h
  split at h
  · obtain ⟨rfl, rfl⟩ := h
    exact hC.cons c (fun i hi => addL_other hi) (fun _ _ => rfl)
  · split at h
    · obtain ⟨rfl, rfl⟩ := h
      exact hC.cons c (fun i hi => remL_other hi) (fun _ _ => rfl)
    · obtain ⟨rfl, rfl⟩ := h
      exact fun i hi => List.mem_cons_of_mem _ (hC i (fun e => hi ⟨e.1, e.1⟩))
theorem list_own {H : Nat} {A : World} {R : List Thing} (pb : Nat) (F : List Nat) (N W : Int → List OwD) (c : Int) (w : World) (hO : OwnT H A (tOB pb F N W :: R) w) (hc : wfV c) (hn : (N c).length ≤ 1000000000) :
    Calls Try.prog 21 #[.pointer (some ⟨pb, 0, none⟩), .int .i64 c] w fun e w' => ∃ v, e = .returned v ∧ OwnT H A (tRow 31 3 v (N c).length ((N c).flatMap ownC) :: tOB pb F N W :: R) w' := by
  have HO := Lib.hid hO
  obtain ⟨nb, wb, mN, mW, hu⟩ := hO.bs.uses
  obtain ⟨q0, q1, h2, -⟩ := hu w (Ext.refl _)
  obtain ⟨hl, hr⟩ := h2 c hc
  have HC := Lib.hid (clone_raw (mN c) _ _ w hr (by omega) (flat_one _))
  clear hu h2 hr hO
  generalize mN c = v at hl HC
  go_enter Try.func21, Try.ntmps21
  go_wp2_with fail
  refine HC.out.mono ?_
  rintro e w1 ⟨v', rfl, h3, h4⟩
  have HR := Lib.hid (HO.out.newRow h4 h3)
  clear h3 h4
  go_wp2_with fail
  go_ret
  exact ⟨v', rfl, HR.out⟩
end Go.Proofs.Ytdpohbaeopidmaa
