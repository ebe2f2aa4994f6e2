/- disc: small functions; the mains as they are used. -/
import Derived.Test.YtakkhglbdljfiaaGreatDoorKStoreShadows06
import Derived.Test.YtakkhglbdljfiaaGreatDoorKStoreShadows07
import Derived.Test.YtakkhglbdljfiaaGreatDoorKStoreShadows02
import Derived.Test.YtakkhglbdljfiaaGreatDoorKStoreShadows04
namespace Go.Proofs.YtakkhglbdljfiaaGreatDoor
set_option linter.unusedVariables false
set_option linter.unusedSimpArgs false
open Go.RowKit Go.Maps

/-- Mains. -/
structure Mn where
  away : Bool
  fuse : Int
  lives : Int
  uses : Int
def Mn.cs (M : Mn) : Array Value := mains M.away M.fuse M.lives M.uses
def Mn.up (M : Mn) : Bool := !(M.away || M.fuse == 0)
def Mn.use (M : Mn) : Mn := if M.up then ⟨false, max (M.fuse - 1) (-1), M.lives, M.uses + 1⟩ else ⟨true, M.fuse, M.lives, M.uses⟩
def Mn.cut (M : Mn) : Mn := ⟨true, M.fuse, M.lives, M.uses⟩
def Mn.come (M : Mn) : Mn := if M.away then ⟨false, -1, M.lives + 1, M.uses⟩ else M
def mn0 : Mn := ⟨false, -1, 1, 0⟩
/-- Used and come at most k times. -/
structure Mn.Ok (M : Mn) (k : Int) : Prop where
  f0 : -1 ≤ M.fuse
  f1 : M.fuse ≤ 9223372036854775807
  l0 : 0 ≤ M.lives
  l1 : M.lives ≤ k
  u0 : 0 ≤ M.uses
  u1 : M.uses ≤ k
theorem mn0_ok : mn0.Ok 1 := ⟨by decide, by decide, by decide, by decide, by decide, by decide⟩
theorem Mn.Ok.use {M : Mn} {k : Int} (h : M.Ok k) : M.use.Ok (k + 1) := by
  obtain ⟨h1, h2, h3, h4, h5, h6⟩ := h
  unfold Mn.use
  split
  · exact ⟨by show -1 ≤ max (M.fuse - 1) (-1); omega, by show max (M.fuse - 1) (-1) ≤ _; omega, h3, by show M.lives ≤ _; omega, by show 0 ≤ M.uses + 1; omega, by show M.uses + 1 ≤ _; omega⟩
  · exact ⟨h1, h2, h3, by show M.lives ≤ _; omega, h5, by show M.uses ≤ _; omega⟩
theorem Mn.Ok.mono {M : Mn} {k j : Int} (h : M.Ok k) (hk : k ≤ j) : M.Ok j := ⟨h.f0, h.f1, h.l0, Int.le_trans h.l1 hk, h.u0, Int.le_trans h.u1 hk⟩
theorem Mn.Ok.cut {M : Mn} {k : Int} (h : M.Ok k) : M.cut.Ok k := ⟨h.f0, h.f1, h.l0, h.l1, h.u0, h.u1⟩
theorem Mn.Ok.come {M : Mn} {k : Int} (h : M.Ok k) : M.come.Ok (k + 1) := by
  unfold Mn.come
  split
  · exact ⟨by show (-1 : Int) ≤ -1; omega, by show (-1 : Int) ≤ 9223372036854775807; omega, by show 0 ≤ M.lives + 1; have := h.l0; omega, by show M.lives + 1 ≤ _; have := h.l1; omega, h.u0, by show M.uses ≤ _; have := h.u1; omega⟩
  · exact h.mono (by omega)
section
variable {H : Nat} {A w : World} {R : List Thing} {mb : Nat} {M : Mn} {k : Int}
abbrev tMn (mb : Nat) (M : Mn) : Thing := tBlk mb 86 M.cs
theorem OwnT.upd {g : Nat} {t : TypeId} {cs cs' : Array Value} {w' : World} (h : OwnT H A (tBlk g t cs :: R) w) (k : Upd w g t cs' w') : OwnT H A (tBlk g t cs' :: R) w' :=
  h.call (F := [g]) (Chg.of_grown k.grown) (fun i hi => by simpa [tBlk] using hi) (tBlk g t cs') k.blk (fun i hi => .inl hi)
theorem use_mn (O : OwnT H A (tMn mb M :: R) w) (hM : M.Ok k) (hk : k ≤ 1000000000000000000) :
    Calls Tryz.prog 80 #[.pointer (some ⟨mb, 0, none⟩)] w fun e w' => e = .returned (.int .i64 (if M.up then 0 else 4)) ∧ OwnT H A (tMn mb M.use :: R) w' := by
  obtain ⟨away, fuse, lives, uses⟩ := M
  have hb : Blk w mb 86 (mains away fuse lives uses) := O.b0
  by_cases hu : (away || fuse == 0) = true
  · refine (use_down mb away fuse lives uses w hb hu).mono ?_
    rintro e w' ⟨rfl, h⟩
    have e1 : Mn.up ⟨away, fuse, lives, uses⟩ = false := by unfold Mn.up; simp only; rw [hu]; rfl
    unfold Mn.use
    rw [e1]
    exact ⟨rfl, O.upd h⟩
  · have e1 : Mn.up ⟨away, fuse, lives, uses⟩ = true := by unfold Mn.up; simp only; rw [Bool.eq_false_iff.2 hu]; rfl
    have ha : away = false := by cases away; rfl; simp at hu
    subst ha
    refine (use_ok mb fuse lives uses w hb (by simpa using hu) hM.f0 hM.f1 hM.u0 (Int.le_trans hM.u1 hk)).mono ?_
    rintro e w' ⟨rfl, h⟩
    unfold Mn.use
    rw [e1]
    exact ⟨rfl, O.upd h⟩
theorem on_mn {w : World} (h : (tMn mb M).holds w) : Calls Tryz.prog 63 #[.pointer (some ⟨mb, 0, none⟩)] w fun e w' => e = .returned (.bool !M.away) ∧ w = w' := by
  obtain ⟨away, fuse, lives, uses⟩ := M
  exact on_any mb away fuse lives uses w h
theorem new_mn (O : OwnT H A R w) : Calls Tryz.prog 8 #[] w fun e w' => ∃ mb, e = .returned (.pointer (some ⟨mb, 0, none⟩)) ∧ OwnT H A (tMn mb mn0 :: R) w' := by
  refine (new_any w).mono ?_
  rintro e w' ⟨rfl, h⟩
  have hE : Ext w w' := ⟨h.grown.os, h.grown.tape, h.grown.output, h.grown.size, fun i hi => h.grown.block i hi (fun e => by injection e with e; omega)⟩
  exact ⟨_, rfl, O.cons hE (tMn w.heap.size mn0) h.blk (fun i hi => by simp [tBlk] at hi; omega)⟩
end
/-! What of a nil device. -/
/-! What only reads a device. -/
section
variable {p mb n cap bm : Nat} {B : Option Addr} {S : List Sec} {L : Int → Option Sec}
theorem dlen_any (w : World) (h : DiscR p mb B n cap bm S L w) : Calls Tryz.prog 78 #[.pointer (some ⟨p, 0, none⟩)] w fun e w' => e = .returned (.int .i64 n) ∧ w = w' := by
  have c1 : w.cell? ⟨p, 1, none⟩ = some (.slice B n cap) := h.blk.cell 1
  clear h
  go_enter Tryz.func78, Tryz.ntmps78
  go_wp2
  go_ret
  exact ⟨rfl, rfl⟩
theorem joinL (xs : List Sec) : Lib.join ((xs.map sB).map fun s => s.data.toList) [] = xs.flatten := by
  rw [List.map_map]
  have e : (fun s : ByteArray => s.data.toList) ∘ sB = id := rfl
  rw [e, List.map_id]
  cases xs with
  | nil => rfl
  | cons x r =>
    rw [Lib.join_cons]
    simp [Lib.joinTail]
theorem flat16 {S : List Sec} (h : ∀ s ∈ S, s.length = 16) : S.flatten.length = 16 * S.length := by
  induction S with
  | nil => rfl
  | cons x r ih =>
    rw [List.flatten_cons, List.length_append, h x (by simp), ih (fun s hs => h s (by simp [hs])), List.length_cons]
    omega
theorem Z5g (w : World) (h : DiscR p mb B n cap bm S L w) : Calls Tryz.prog 39 #[.pointer (some ⟨p, 0, none⟩)] w fun e w' => e = .returned (.string (sB S.flatten)) ∧ Ext w w' := by
  have c1 : w.cell? ⟨p, 1, none⟩ = some (.slice B n cap) := h.blk.cell 1
  have hj : ∀ W, Ext w W → Calls Tryz.prog 69 #[.slice B n cap, .string (sB [])] W fun e w' => e = .returned (.string (sB S.flatten)) ∧ Ext W w' := by
    intro W hE
    have hW := h.ext hE
    have hl := hW.ok.len
    have hn := hW.ok.le
    by_cases h0 : n = 0
    · subst h0
      obtain rfl : S = [] := List.eq_nil_of_length_eq_zero hl
      refine (Tryz.strings_Join_none B cap (sB []) W).mono ?_
      rintro e w' ⟨rfl, h2⟩
      exact ⟨rfl, by first | exact h2 | (subst h2; exact Ext.refl _)⟩
    · obtain ⟨g, c, e, hg⟩ := Z4d hW.row (by omega)
      injection e with e1 _ e3
      subst e1 e3
      obtain ⟨g', cap', cur, e1, _, hc, _⟩ := Z2z hW.row (by omega)
      injection e1 with _ _ e3
      subst e3
      have hJ := Tryz.strings_Join g 0 cap (S.map sB) (sB []) W (fun j x hx => by
        obtain ⟨s, hs, rfl⟩ := List.mem_map.1 (List.mem_of_getElem? hx)
        rw [List.getElem?_map] at hx
        obtain ⟨s', hs', e⟩ := Option.map_eq_some_iff.1 hx
        obtain ⟨g2, e2, hc2⟩ := hW.sec hs'
        injection e2 with e2
        injection e2 with e2
        subst e2
        rw [Nat.zero_add, ← e]
        exact hc2) hg (by rw [List.length_map]; omega) (by rw [List.length_map, hl]; exact hc) (by rw [Z4c, joinL, flat16 hW.ok.sz]; omega)
      rw [Z4c, joinL, List.length_map, hl] at hJ
      exact hJ
  have HJ := Lib.hid hj
  clear h hj
  go_enter Tryz.func39, Tryz.ntmps39
  go_wp2_with fail
  refine (HJ.out _ (by (repeat (first | with_reducible exact Below.refl _ _ | with_reducible assumption | with_reducible apply Below.drew | with_reducible apply Z09 | (with_reducible refine Z0e ?_ ?_; focus ((try simp); (try omega); done)) | (with_reducible refine Z0f ?_ ?_; focus ((try simp); (try omega); done)))))).mono ?_
  rintro e w1 ⟨rfl, h1⟩
  have HE := Lib.hid h1
  clear h1
  go_wp2_with fail
  go_ret
  exact ⟨rfl, Ext.trans (by (repeat (first | with_reducible exact Below.refl _ _ | with_reducible assumption | with_reducible apply Below.drew | with_reducible apply Z09 | (with_reducible refine Z0e ?_ ?_; focus ((try simp); (try omega); done)) | (with_reducible refine Z0f ?_ ?_; focus ((try simp); (try omega); done))))) HE.out⟩
/-- A sector as it is read. -/
def nowAt (S : List Sec) (L : Int → Option Sec) (i : Int) : Sec := (L i).getD (S.getD i.toNat [])
theorem zeroStr (w : World) : (zeroValue 9).run Tryz.prog w = .ok (.string (sB [])) w := by kernel_rfl
theorem Z7t (i : Nat) (w : World) (h : DiscR p mb B n cap bm S L w) (hi : i < n) : Calls Tryz.prog 94 #[.pointer (some ⟨p, 0, none⟩), .int .i64 i] w fun e w' => e = .returned (.string (sB (nowAt S L i))) ∧ w = w' := by
  have c1 : w.cell? ⟨p, 1, none⟩ = some (.slice B n cap) := h.blk.cell 1
  have c2 : w.cell? ⟨p, 2, none⟩ = some (.map (some bm)) := h.blk.cell 2
  have hin : i < S.length := by have := h.ok.len; omega
  have hn := h.ok.le
  obtain ⟨g, rfl, c3⟩ := h.sec (List.getElem?_eq_getElem hin)
  have hlk := h.map.look_ok (t := 112) (e := 9) (z := .string (sB [])) Tryz.underlying112 (zeroStr w) (c := i) (Z3r (by omega) (by omega))
  cases hL : L i with
  | none =>
    have e1 : nowAt S L i = S[i] := by unfold nowAt; rw [hL]; simp [hin]
    rw [e1]
    rw [show looV L i = none by unfold looV; rw [hL]; rfl] at hlk
    simp only [Option.getD_none, Option.isSome_none] at hlk
    generalize S[i] = s at c3 ⊢
    clear h hL e1 hin
    go_enter Tryz.func94, Tryz.ntmps94
    go_wp2
    go_ret
    exact ⟨rfl, rfl⟩
  | some s =>
    have e1 : nowAt S L i = s := by unfold nowAt; rw [hL]; rfl
    rw [e1]
    rw [show looV L i = some (.string (sB s)) by unfold looV; rw [hL]; rfl] at hlk
    simp only [Option.getD_some, Option.isSome_some] at hlk
    clear h hL e1 hin c3
    go_enter Tryz.func94, Tryz.ntmps94
    go_wp2
    go_ret
    exact ⟨rfl, rfl⟩
end
end Go.Proofs.YtakkhglbdljfiaaGreatDoor

/- A region that draws its order and holds a call that writes and hands back something new: the relation that keeps facts goes by what is done. No function of the program in sight. -/
namespace Go.Proofs.YtakkhglbdljfiaaGreatDoor
set_option linter.unusedVariables false
set_option linter.unusedSimpArgs false
open Go.RowKit

/-- What operation 'idx' leaves: a fact of the slots L and of the world, kept by every step behind it. -/
structure TFactL (R : (Nat → Bool) → World → World → Prop) where
  idx : Nat
  L : List Tmp
  T : Act → World → Prop
  loc : ∀ a a' w, (∀ t ∈ L, a.tmps[t]? = a'.tmps[t]?) → T a w → T a' w
  mono : ∀ l a w w', l idx = true → R l w w' → T a w → T a w'
section
variable {P : Program} {R : (Nat → Bool) → World → World → Prop} {ops : Array Oper} {I : (Nat → Bool) → World → Prop} {a0 : Act} {D : List Tmp} {A : List (List Nat)} {Fs : List (TFactL R)} {m : Nat} {Q : Exit → Act → World → Prop}
abbrev factsL (done : List (Nat × TFactL R)) : List (TFactL R) := done.reverse.map Prod.snd
theorem Z11 (x : Nat × TFactL R) (done : List (Nat × TFactL R)) : factsL (x :: done) = factsL done ++ [x.2] := by simp [factsL]
theorem Z0o (done : List (Nat × TFactL R)) : (factsL done).length = done.length := by simp [factsL]
def plain (Fs : List (TFactL R)) : List (TFact (fun _ _ : World => False)) := Fs.map fun S => ⟨S.L, S.T, S.loc, fun _ _ _ h _ => h.elim⟩
theorem plain_L (Fs : List (TFactL R)) : (plain Fs).map TFact.L = Fs.map TFactL.L := by simp [plain, Function.comp_def]
theorem Z86 {i : Nat} {S : TFactL R} (h : Fs[i]? = some S) : ∃ S', (plain Fs)[i]? = some S' ∧ S'.L = S.L := ⟨_, by rw [plain, List.getElem?_map, h]; rfl, rfl⟩
structure LInv (ops : Array Oper) (I : (Nat → Bool) → World → Prop) (a0 : Act) (D : List Tmp) (Fs : List (TFactL R)) (m : Nat) (listed : Array Bool) (a : Act) (w : World) : Prop where
  sz : listed.size = ops.size
  env : Env a0 D a
  inv : I (fun i => listed.getD i false) w
  closed : ∀ j o, listed.getD j false = true → ops[j]? = some o → ∀ e ∈ o.after, Region.binds .any e = true → listed.getD e.on false = true
  typed : ∀ i S, listed.getD i false = true → Fs[i]? = some S → S.T a w
  un : ∀ i, m ≤ i → listed.getD i false = false

theorem Z7f (hok0 : okB ops D A (Fs.map TFactL.L) m = true) (hidx : ∀ (i : Nat) (S : TFactL R), Fs[i]? = some S → S.idx = i) (hlen : Fs.length = m) (hms : m ≤ ops.size) (hm : ∀ i, m ≤ i → i < ops.size → ∀ j, j < i → j ∈ A.getD i [])
    (hstep : ∀ (k : Nat) (o : Oper) (S : TFactL R), ops[k]? = some o → Fs[k]? = some S → ∀ l a w, Env a0 D a → I l w → l k = false → (∀ i ∈ A.getD k [], l i = true) → (∀ (i : Nat) (S' : TFactL R), i ∈ A.getD k [] → Fs[i]? = some S' → S'.T a w) → opR P ops (R l) (I (upd l k)) o S.T a w)
    (hrr : ∀ l w, R l w w)
    (hend : ∀ l a w, Env a0 D a → I l w → (∀ i, i < m → l i = true) → (∀ (i : Nat) (S : TFactL R), Fs[i]? = some S → S.T a w) → tailWp P ops Q (ops.size - m) m a w) :
    ∀ (fuel : Nat) (listed : Array Bool) (a : Act) (w : World), LInv ops I a0 D Fs m listed a w → listed.toList.count false = fuel → wpAny P .any ops Q fuel listed a w := by
  have hok : okB ops D A ((plain Fs).map TFact.L) m = true := by rw [plain_L]; exact hok0
  intro fuel
  induction fuel with
  | zero =>
    intro listed a w hI h0
    obtain ⟨hr, hx⟩ := Z2q (ops := ops) listed hI.sz h0
    have hmm : m = ops.size := by
      by_cases h : m < ops.size
      · have := hx m h
        rw [hI.un m (Nat.le_refl _)] at this
        cases this
      · omega
    refine ⟨hr, ?_⟩
    have := hend _ a w hI.env hI.inv (fun i hi => hx i (by omega)) (fun i S hS => hI.typed i S (hx i (by have := (List.getElem?_eq_some_iff.1 hS).1; omega)) hS)
    rwa [show ops.size - m = 0 by omega] at this
  | succ fuel ih =>
    intro listed a w hI hcnt
    by_cases hall : ∀ j, j < m → listed.getD j false = true
    · exact Z5o hok hm (fuel + 1) m listed a w (Nat.le_refl _) hms hI.sz hall hI.un hI.closed hcnt (hend _ a w hI.env hI.inv hall (fun i S hS => hI.typed i S (hall i (by have := (List.getElem?_eq_some_iff.1 hS).1; omega)) hS))
    refine ⟨fun hr => (Z2f hok listed hI.sz fuel hcnt hr).elim, fun i hi => ?_⟩
    obtain ⟨hun, o, ho, hpre⟩ := mem_ready.1 hi
    have hio : i < ops.size := (Array.getElem?_eq_some_iff.1 ho).1
    have his : i < listed.size := by have := hI.sz; omega
    have hanc := Z17 hok hI.closed hI.sz i o ho hpre
    have him : i < m := by
      by_cases h : i < m
      · exact h
      · exact (hall (fun j hj => hanc j (hm i (by omega) hio j (by omega)))).elim
    obtain ⟨S, hS⟩ : ∃ S, Fs[i]? = some S := ⟨_, List.getElem?_eq_getElem (by omega)⟩
    have hst := hstep i o S ho hS _ a w hI.env hI.inv (by rw [Z0k his false true]; exact hun) hanc (fun j S' hj hS' => hI.typed j S' (hanc j hj) hS')
    have hnext : ∀ v w', R (fun j => listed.getD j false) w w' → I (upd (fun j => listed.getD j false) i) w' → S.T (a.put o.dst v) w' → LInv ops I a0 D Fs m (listed.setIfInBounds i true) (a.put o.dst v) w' := by
      intro v w' hRw hR hT
      obtain ⟨_, _, h3⟩ := Z4j hok ho
      have h3 := h3 him
      refine ⟨by simpa using hI.sz, ⟨?_, ?_, ?_⟩, by rw [Z3g his]; exact hR, Z2p his ho hpre hI.closed, ?_, ?_⟩
      · rw [← hI.env.size]; cases hd : o.dst <;> simp [Act.put]
      · rw [← hI.env.defers]; cases hd : o.dst <;> simp [Act.put]
      · intro t ht
        rw [← hI.env.keep t ht]
        cases hd : o.dst with
        | none => simp [Act.put]
        | some d =>
          have := (h3 d hd).1
          have hne : d ≠ t := fun e => ht (e ▸ this)
          simp [Act.put, Array.getElem?_setIfInBounds_ne hne]
      · intro j S' hj hS'
        by_cases hji : i = j
        · subst hji
          rw [hS] at hS'
          cases hS'
          exact hT
        · rw [getD_set_ne false hji] at hj
          have hold := S'.mono (fun j => listed.getD j false) _ w w' (by rw [hidx j S' hS']; exact hj) hRw (hI.typed j S' hj hS')
          refine S'.loc _ _ _ (fun t ht => ?_) hold
          cases hd : o.dst with
          | none => simp [Act.put]
          | some d =>
            have hja : i ∉ A.getD j [] := by
              intro hmem
              obtain ⟨oj, hoj⟩ : ∃ oj, ops[j]? = some oj := ⟨_, Array.getElem?_eq_getElem (by have := (List.getElem?_eq_some_iff.1 hS').1; omega)⟩
              have := Z17 hok hI.closed hI.sz j oj hoj (hI.closed j oj hj hoj) i hmem
              rw [Z0k his false true, hun] at this
              cases this
            obtain ⟨S2, hS2, hSL⟩ := Z86 hS'
            have hne : d ≠ t := fun e => (h3 d hd).2 j S2 hS2 (fun e => hji e.symm) hja (by rw [hSL]; exact e ▸ ht)
            simp [Act.put, Array.getElem?_setIfInBounds_ne hne]
      · intro j hj
        have : i ≠ j := by omega
        rw [getD_set_ne false this]
        exact hI.un j hj
    have hk : ∀ v w', R (fun j => listed.getD j false) w w' → I (upd (fun j => listed.getD j false) i) w' → S.T (a.put o.dst v) w' → wpAny P .any ops Q fuel (listed.setIfInBounds i true) (a.put o.dst v) w' :=
      fun v w' hRw hR hT => ih _ _ _ (hnext v w' hRw hR hT) (count_set his hun _ hcnt)
    unfold wpOp
    simp only [ho]
    rcases hst with ⟨hw, hy⟩ | ⟨hw, hJ, hT⟩
    · rw [if_pos hw]
      refine .inl ?_
      unfold YieldsR at hy
      unfold Oper.wp
      generalize (execOp a.eval o).run P w = r at hy ⊢
      cases r with
      | halt x w' => exact hy.elim
      | ok n w' =>
        cases n <;> simp only [Oper.upon] at hy ⊢
        case value v => exact hk v w' hy.1 hy.2.1 hy.2.2
        case skip => exact hk undef w' hy.1 hy.2.1 hy.2.2
        case enter f args =>
          refine hy.mono fun e w'' ⟨v, he, hRw, hR, hT⟩ => ?_
          subst he
          exact hk v w'' hRw hR hT
    · rw [if_neg (by rw [hw]; exact Bool.false_ne_true)]
      exact hk undef w (hrr _ w) hJ hT

inductive BuildL (P : Program) (R : (Nat → Bool) → World → World → Prop) (ops : Array Oper) (I : (Nat → Bool) → World → Prop) (a0 : Act) (D : List Tmp) (A : List (List Nat)) (G : List (Nat × TFactL R) → Prop) : Nat → List Oper → List (Nat × TFactL R) → Prop
  | stop {k : Nat} {os : List Oper} {done : List (Nat × TFactL R)} (h : G done) : BuildL P R ops I a0 D A G k os done
  | step {k : Nat} {o : Oper} {os : List Oper} {done : List (Nat × TFactL R)} (S : TFactL R) (hx : S.idx = k) (h : ∀ l a w, Env a0 D a → I l w → l k = false → (∀ i ∈ A.getD k [], l i = true) → (∀ (i : Nat) (S' : TFactL R), i ∈ A.getD k [] → (i, S') ∈ done → S'.T a w) → opR P ops (R l) (I (upd l k)) o S.T a w)
      (hr : BuildL P R ops I a0 D A G (k + 1) os ((k, S) :: done)) : BuildL P R ops I a0 D A G k (o :: os) done

variable {G : List (Nat × TFactL R) → Prop} {k : Nat} {o : Oper} {os : List Oper} {done : List (Nat × TFactL R)} {d : Tmp} {v : Value}
theorem BuildL.use (hb : BuildL P R ops I a0 D A G k os done) (hk : k = done.length) (hwf : ∀ (i : Nat) (S : TFactL R), (i, S) ∈ done → (factsL done)[i]? = some S) (hxd : ∀ (i : Nat) (S : TFactL R), (factsL done)[i]? = some S → S.idx = i) : ∃ fin : List (Nat × TFactL R), G fin ∧ (∀ (i : Nat) (S : TFactL R), (factsL done)[i]? = some S → (factsL fin)[i]? = some S) ∧
    (∀ (i : Nat) (S : TFactL R), (i, S) ∈ fin → (factsL fin)[i]? = some S) ∧ (∀ (i : Nat) (S : TFactL R), (factsL fin)[i]? = some S → S.idx = i) ∧ done.length ≤ fin.length ∧
    ∀ (i : Nat) (o : Oper) (S : TFactL R), os[i]? = some o → (factsL fin)[k + i]? = some S → ∀ l a w, Env a0 D a → I l w → l (k + i) = false → (∀ j ∈ A.getD (k + i) [], l j = true) → (∀ (j : Nat) (S' : TFactL R), j ∈ A.getD (k + i) [] → (factsL fin)[j]? = some S' → S'.T a w) → opR P ops (R l) (I (upd l (k + i))) o S.T a w := by
  induction hb with
  | stop h =>
    rename_i k os done
    refine ⟨done, h, fun _ _ h => h, hwf, hxd, Nat.le_refl _, fun i o S _ hS => ?_⟩
    rw [List.getElem?_eq_none (by rw [Z0o]; omega)] at hS
    cases hS
  | step S hx h hr ih =>
    rename_i k o os done
    have hpre0 : ∀ (i : Nat) (S' : TFactL R), (factsL done)[i]? = some S' → (factsL ((k, S) :: done))[i]? = some S' := fun i S' hi => by
      have hlt := (List.getElem?_eq_some_iff.1 hi).1
      rw [Z11, List.getElem?_append_left hlt]; exact hi
    obtain ⟨fin, hG, h1, hw, hxf, h2, h4⟩ := ih (by simp [hk]) (fun i S' hm => by
      rcases List.mem_cons.1 hm with he | hm
      · cases he
        rw [Z11, hk, ← Z0o done]
        simp
      · exact hpre0 i S' (hwf i S' hm)) (fun i S' hi => by
      rw [Z11] at hi
      by_cases hlt : i < (factsL done).length
      · rw [List.getElem?_append_left hlt] at hi
        exact hxd i S' hi
      · have hle := (List.getElem?_eq_some_iff.1 hi).1
        rw [List.length_append] at hle
        have hle : i < (factsL done).length + 1 := hle
        have : i = (factsL done).length := by omega
        subst this
        rw [List.getElem?_append_right (Nat.le_refl _), Nat.sub_self] at hi
        simp at hi
        subst hi
        rw [hx, hk, Z0o])
    refine ⟨fin, hG, fun i S' hi => h1 i S' (hpre0 i S' hi), hw, hxf, by simp at h2; omega, ?_⟩
    intro i o' S' hi hS
    cases i with
    | zero =>
      simp at hi
      subst hi
      have : (factsL fin)[k + 0]? = some S := h1 k S (by rw [Z11, hk, ← Z0o done]; simp)
      rw [this] at hS
      cases hS
      intro l a w hE hR hl hA hF
      exact h l a w hE hR hl hA (fun j S' hj hd => hF j S' hj (h1 j S' (hpre0 j S' (hwf j S' hd))))
    | succ i =>
      have := h4 i o' S' (by simpa using hi) (by rwa [show k + 1 + i = k + (i + 1) by omega])
      intro l a w hE hR hl hA hF
      rw [show k + (i + 1) = k + 1 + i by omega] at hl hA ⊢
      exact this l a w hE hR hl hA (fun j S' hj hd => hF j S' (by rwa [show k + (i + 1) = k + 1 + i by omega]) hd)



/-- Each operation's fact, shown once, and the invariant kept. -/
theorem Z3e {id : Nat} {l : List Oper} {w : World} (Fs : List (TFactL R)) (hidx : ∀ (i : Nat) (S : TFactL R), Fs[i]? = some S → S.idx = i) (A : List (List Nat)) (D : List Tmp) (hf : P.follows .mixedOrders = true) (hok : okB l.toArray D A (Fs.map TFactL.L) Fs.length = true)
    (hm : (decide (Fs.length ≤ l.length) && (List.range l.length).all fun i => decide (i < Fs.length) || (List.range i).all fun j => (A.getD i []).contains j) = true)
    (hw0 : I (fun _ => false) w.drew)
    (hstep : ∀ (k : Nat) (o : Oper) (S : TFactL R), l[k]? = some o → Fs[k]? = some S → ∀ L a w, Env a0 D a → I L w → L k = false → (∀ i ∈ A.getD k [], L i = true) → (∀ (i : Nat) (S' : TFactL R), i ∈ A.getD k [] → Fs[i]? = some S' → S'.T a w) → opR P l.toArray (R L) (I (upd L k)) o S.T a w)
    (hrr : ∀ l w, R l w w)
    (hend : ∀ L a w, Env a0 D a → I L w → (∀ i, i < Fs.length → L i = true) → (∀ (i : Nat) (S : TFactL R), Fs[i]? = some S → S.T a w) → tailWp P l.toArray Q (l.length - Fs.length) Fs.length a w) :
    (Code.region id l.toArray true).wp P Q a0 w := by
  refine wp_region_any hf ?_
  simp only [Bool.and_eq_true, decide_eq_true_eq, List.all_eq_true, List.mem_range, Bool.or_eq_true, List.contains_iff_mem] at hm
  refine Z7f (a0 := a0) (I := I) (Fs := Fs) (A := A) (D := D) (m := Fs.length) hok hidx rfl (by simpa using hm.1) ?_ (by simpa using hstep) hrr (by simpa using hend) _ _ _ _ ?_ (by simp)
  · intro i h1 h2 j hj
    rcases hm.2 i (by simpa using h2) with h | h
    · omega
    · exact h j hj
  · refine ⟨by simp, ⟨rfl, rfl, fun _ _ => rfl⟩, ?_, ?_, ?_, ?_⟩
    · have e : (fun i => (Array.replicate l.toArray.size false).getD i false) = fun _ => false := funext fun i => Z0w _ _
      rw [e]
      exact hw0
    · intro j o hj
      rw [Z0w] at hj
      cases hj
    · intro i S hi
      rw [Z0w] at hi
      cases hi
    · intro i _
      exact Z0w _ _

def FinL (P : Program) (l : List Oper) (I : (Nat → Bool) → World → Prop) (a0 : Act) (D : List Tmp) (A : List (List Nat)) (Q : Exit → Act → World → Prop) (fin : List (Nat × TFactL R)) : Prop :=
  (okB l.toArray D A ((factsL fin).map TFactL.L) fin.length && (decide (fin.length ≤ l.length) && (List.range l.length).all fun i => decide (i < fin.length) || (List.range i).all fun j => (A.getD i []).contains j) && (l.drop fin.length).all fun o => o.guard.isNone) = true ∧
    ∀ L a w, Env a0 D a → I L w → (∀ i, i < fin.length → L i = true) → (∀ (i : Nat) (S : TFactL R), (i, S) ∈ fin → S.T a w) → tailOps P Q (l.drop fin.length) a w
theorem Z50 {id : Nat} {l : List Oper} {w : World} (R : (Nat → Bool) → World → World → Prop) (I : (Nat → Bool) → World → Prop) (A : List (List Nat)) (D : List Tmp) (hrr : ∀ l w, R l w w) (hw0 : I (fun _ => false) w.drew) (hf : P.follows .mixedOrders = true)
    (h : BuildL P R l.toArray I a0 D A (FinL P l I a0 D A Q) 0 l []) : (Code.region id l.toArray true).wp P Q a0 w := by
  obtain ⟨fin, ⟨hok, hG⟩, -, hw, hxf, -, hstep⟩ := h.use rfl (fun _ _ h => by cases h) (fun _ _ h => by simp [factsL] at h)
  have hlen := Z0o fin
  rw [Bool.and_eq_true, Bool.and_eq_true] at hok
  refine Z3e (I := I) (factsL fin) hxf A D hf (by rw [hlen]; exact hok.1.1) (by rw [hlen]; exact hok.1.2) hw0 (fun k o S h1 h2 L a w hE hR hl hA hF => by
    have := hstep k o S h1 (by simpa using h2) L a w hE hR (by simpa using hl) (by simpa using hA) (by simpa using hF)
    simpa using this) hrr (fun L a w hE hR hA hF => ?_)
  rw [hlen] at hA ⊢
  have := Z48 l (l.drop fin.length) fin.length rfl hok.2 a w (hG L a w hE hR hA (fun i S hm => hF i S (hw i S hm)))
  simpa using this

/-- The slot holds this value. -/
def detL (k : Nat) (d : Tmp) (v : Value) : TFactL R := ⟨k, [d], fun a _ => a.eval (.tmp d) = v, fun a a' _ h e => (Z12 (h d (by simp))).symm.trans e, fun _ _ _ _ _ _ e => e⟩
/-- The slot holds a value of which this holds, from then on. -/
def freshL (k : Nat) (d : Tmp) (φ : Value → World → Prop) (hφ : ∀ l v w w', l k = true → R l w w' → φ v w → φ v w') : TFactL R := ⟨k, [d], fun a w => φ (a.eval (.tmp d)) w, fun a a' w h e => by rw [← Z12 (h d (by simp))]; exact e, fun l a w w' hl hR e => hφ l _ _ _ hl hR e⟩
theorem BuildL.det (d : Tmp) {v : Value} (hrr : ∀ l w, R l w w) (hI : ∀ l w, I l w → I (upd l k) w) (hd : o.dst = some d) (hn : Nat.blt d a0.tmps.size = true) (hg : o.guard = none)
    (h : ∀ l a w, Env a0 D a → I l w → (∀ (i : Nat) (S' : TFactL R), i ∈ A.getD k [] → (i, S') ∈ done → S'.T a w) → (execOp a.eval o).run P w = .ok (.value v) w)
    (hr : BuildL P R ops I a0 D A G (k + 1) os ((k, detL k d v) :: done)) : BuildL P R ops I a0 D A G k (o :: os) done :=
  .step _ rfl (fun l a w hE hR _ _ hF => .inl ⟨Z0b hg, by
    unfold YieldsR
    rw [h l a w hE hR hF]
    exact ⟨hrr l w, hI l w hR, by rw [hd]; exact Z0h (by rw [hE.size]; exact Nat.le_of_ble_eq_true hn)⟩⟩) hr
theorem BuildL.call (d : Tmp) {v : Value} {f : FuncId} {args : Array Value} (hd : o.dst = some d) (hn : Nat.blt d a0.tmps.size = true) (hg : o.guard = none)
    (h : ∀ l a w, Env a0 D a → I l w → (∀ (i : Nat) (S' : TFactL R), i ∈ A.getD k [] → (i, S') ∈ done → S'.T a w) → (execOp a.eval o).run P w = .ok (.enter f args) w)
    (hc : ∀ l w, I l w → l k = false → (∀ i ∈ A.getD k [], l i = true) → Calls P f args w fun e w' => e = .returned v ∧ R l w w' ∧ I (upd l k) w')
    (hr : BuildL P R ops I a0 D A G (k + 1) os ((k, detL k d v) :: done)) : BuildL P R ops I a0 D A G k (o :: os) done :=
  .step _ rfl (fun l a w hE hR hl hA hF => .inl ⟨Z0b hg, by
    unfold YieldsR
    rw [h l a w hE hR hF]
    exact (hc l w hR hl hA).mono fun e w' ⟨he, hRw, hI⟩ => ⟨v, he, hRw, hI, by rw [hd]; exact Z0h (by rw [hE.size]; exact Nat.le_of_ble_eq_true hn)⟩⟩) hr
/-- One that makes something of its own. -/
theorem BuildL.new (d : Tmp) (φ : Value → World → Prop) (hφ : ∀ l v w w', l k = true → R l w w' → φ v w → φ v w') (hd : o.dst = some d) (hn : Nat.blt d a0.tmps.size = true) (hg : o.guard = none)
    (h : ∀ l a w, Env a0 D a → I l w → l k = false → (∀ i ∈ A.getD k [], l i = true) → (∀ (i : Nat) (S' : TFactL R), i ∈ A.getD k [] → (i, S') ∈ done → S'.T a w) → ∃ v w', (execOp a.eval o).run P w = .ok (.value v) w' ∧ R l w w' ∧ I (upd l k) w' ∧ φ v w')
    (hr : BuildL P R ops I a0 D A G (k + 1) os ((k, freshL k d φ hφ) :: done)) : BuildL P R ops I a0 D A G k (o :: os) done :=
  .step _ rfl (fun l a w hE hR hl hA hF => by
    obtain ⟨v, w', h1, h2, h3, h4⟩ := h l a w hE hR hl hA hF
    refine .inl ⟨Z0b hg, ?_⟩
    unfold YieldsR
    rw [h1]
    exact ⟨h2, h3, by rw [hd]; show φ ((a.put (some d) v).eval (.tmp d)) w'; rw [Z0h (by rw [hE.size]; exact Nat.le_of_ble_eq_true hn)]; exact h4⟩) hr
end
end Go.Proofs.YtakkhglbdljfiaaGreatDoor

/- 'x.f = append(x.f, e)' in a region that draws its order. No function of the program in sight. -/
namespace Go.Proofs.YtakkhglbdljfiaaGreatDoor
set_option linter.unusedVariables false
set_option linter.unusedSimpArgs false
open Go.RowKit

structure ElemI (P : Program) (t T : TypeId) (k bytes : Nat) : Prop where
  ht : P.underlying t = some (.slice T)
  info : ∃ i z, P.info? T = some i ∧ i.zero = some z ∧ i.size = k ∧ i.bytes = bytes ∧ z.cells.size = k
def AppI (H : Nat) (A : World) (T : TypeId) (k : Nat) (v : Value) (n : Nat) (xs : List Value) (g : Nat) (news : List Value) (G : List Thing) (b c : Bool) (w : World) : Prop :=
  if c = true then b = true ∧ ∃ v', OwnT H A (tRow T k v' (n + 1) (xs ++ news) :: tBlk g T news.toArray :: G) w
  else if b = true then OwnT H A (tRow T k v n xs :: tBlk g T news.toArray :: G) w
  else OwnT H A (tRow T k v n xs :: G) w ∧ w.heap.size = g
section
variable {P : Program} {H : Nat} {A : World} {T t : TypeId} {k n g bytes : Nat} {v : Value} {xs news : List Value} {G : List Thing} {b c : Bool} {w : World} {l : Nat → Bool} {ib ia : Nat} {M : Sem Next}
theorem AppI.start (h : OwnT H A (tRow T k v n xs :: G) w) : AppI H A T k v n xs w.heap.size news G false false w.drew := ⟨h.drew, rfl⟩
theorem AppI.own (h : AppI H A T k v n xs g news G b c w) : OwnT H A G w := by
  unfold AppI at h
  split at h
  · obtain ⟨_, v, h⟩ := h
    exact h.tail.tail
  · split at h
    · exact h.tail.tail
    · exact h.1.tail
theorem app_build (h : AppI H A T k v n xs g news G (l ib) (l ia) w) (hl : l ib = false) (hne : ia ≠ ib)
    (hM : M.run P w = .ok (.value (.slice (some ⟨w.heap.size, 0, none⟩) 1 1)) (w.alloc (.cells news.toArray T))) :
    ∃ r w', M.run P w = .ok (.value r) w' ∧ (if l ia = true then Ext w w' else True) ∧ AppI H A T k v n xs g news G (upd l ib ib) (upd l ib ia) w' ∧ r = .slice (some ⟨g, 0, none⟩) 1 1 := by
  unfold AppI at h
  rw [hl] at h
  split at h
  · cases h.1
  · rename_i h14
    obtain ⟨h1, h2⟩ : OwnT H A (tRow T k v n xs :: G) w ∧ w.heap.size = g := by simpa using h
    refine ⟨_, _, hM, ?_, ?_, by rw [h2]⟩
    · rw [if_neg h14]; trivial
    · have e13 : upd l ib ib = true := if_pos rfl
      have e14 : upd l ib ia = l ia := if_neg hne
      unfold AppI
      rw [e13, e14, if_neg h14, if_pos rfl]
      have h3 := h1.new T news.toArray
      rw [h2] at h3
      exact h3.perm (.swap _ _ _)
theorem app_grow (h : AppI H A T k v n xs g news G (l ib) (l ia) w) (hl : l ia = false) (hb : l ib = true) (hne : ia ≠ ib) (E : ElemI P t T k bytes) (hk : 0 < k) (hlen : news.length = k) (h1 : ∀ u ∈ news, u.oneCell' = true) (h63 : n + 1 ≤ maxLen) (hbytes : (n + 1) * bytes ≤ 140737488355328) {ty : TypeId}
    (hM : ∀ r w', (Builtin.append_ #[t, t] ty #[v, .slice (some ⟨g, 0, none⟩) 1 1]).run P w = .ok r w' → M.run P w = .ok (.value r) w') :
    ∃ r w', M.run P w = .ok (.value r) w' ∧ (if l ia = true then Ext w w' else True) ∧ AppI H A T k v n xs g news G (upd l ia ib) (upd l ia ia) w' ∧ OwnT H A (tRow T k r (n + 1) (xs ++ news) :: tBlk g T news.toArray :: G) w' := by
  have h2 : OwnT H A (tRow T k v n xs :: tBlk g T news.toArray :: G) w := by
    unfold AppI at h
    rw [hl, hb] at h
    simpa using h
  obtain ⟨i, z, hi, hz, hs, hby, hzs⟩ := E.info
  obtain ⟨r, w', hrun, h3⟩ := h2.appendOne (P := P) t i z bytes E.ht hi hz hs hby hzs hk g T news h2.b1 hlen h1 h63 hbytes
  refine ⟨r, w', hM _ _ (hrun ty), by rw [hl]; simp, ?_, h3⟩
  have e13 : upd l ia ib = l ib := if_neg (fun e => hne e.symm)
  have e14 : upd l ia ia = true := if_pos rfl
  unfold AppI
  rw [e13, e14, if_pos rfl]
  exact ⟨hb, r, h3⟩
end
/-- A row that isn't empty: its slice. -/
theorem OwnT.slice0 {H : Nat} {A w : World} {L : List Thing} {T : TypeId} {k n : Nat} {v : Value} {xs : List Value} (h : OwnT H A (tRow T k v n xs :: L) w) (hn : 0 < n) : ∃ g cap, v = .slice (some ⟨g, 0, none⟩) n cap := by
  obtain ⟨g, cap, cur, h1, _⟩ := Z2z h.r0 hn
  exact ⟨g, cap, h1⟩
theorem row_slice {w : World} {base : Nat} {T : TypeId} {k n : Nat} {v : Value} {xs : List Value} (h : w.ownsRow base T k v n xs) : ∃ B cap, v = .slice B n cap := by
  rcases h.2 with ⟨rfl, rfl⟩ | ⟨g, cap, cur, rfl, _⟩
  · exact ⟨none, 0, rfl⟩
  · exact ⟨_, cap, rfl⟩
theorem OwnT.pick01 {H : Nat} {A w : World} {L : List Thing} {X Y : Thing} (h : OwnT H A (X :: Y :: L) w) : OwnT H A (X :: L) w := h.sub (.cons_cons _ (.cons _ (.refl _)))
end Go.Proofs.YtakkhglbdljfiaaGreatDoor
