/- disc: small functions; the mains as they are used. -/
import Derived.Test.YtakkhglbdljfiaaGreatDoorKStoreExact02
import Derived.Test.YtakkhglbdljfiaaGreatDoorKStoreExact03
import Derived.Test.YtakkhglbdljfiaaGreatDoorKStoreExact00
import Derived.Test.YtakkhglbdljfiaaGreatDoorKStoreExact01
import Derived.RegionTactic
namespace Go.Proofs.YtakkhglbdljfiaaGreatDoor
set_option linter.unusedVariables false
set_option linter.unusedSimpArgs false
open Go.RowKit Go.Maps

/-- Mains. -/
structure Mn where
  away : Bool
  fuse : Int
  lives : Int
  uses : Int
def Mn.cs (M : Mn) : Array Value := mains M.away M.fuse M.lives M.uses
def Mn.up (M : Mn) : Bool := !(M.away || M.fuse == 0)
def Mn.use (M : Mn) : Mn := if M.up then ⟨false, max (M.fuse - 1) (-1), M.lives, M.uses + 1⟩ else ⟨true, M.fuse, M.lives, M.uses⟩
def Mn.cut (M : Mn) : Mn := ⟨true, M.fuse, M.lives, M.uses⟩
def Mn.come (M : Mn) : Mn := if M.away then ⟨false, -1, M.lives + 1, M.uses⟩ else M
def mn0 : Mn := ⟨false, -1, 1, 0⟩
/-- Used and come at most k times. -/
structure Mn.Ok (M : Mn) (k : Int) : Prop where
  f0 : -1 ≤ M.fuse
  f1 : M.fuse ≤ 9223372036854775807
  l0 : 0 ≤ M.lives
  l1 : M.lives ≤ k
  u0 : 0 ≤ M.uses
  u1 : M.uses ≤ k
theorem mn0_ok : mn0.Ok 1 := ⟨by decide, by decide, by decide, by decide, by decide, by decide⟩
theorem Mn.Ok.use {M : Mn} {k : Int} (h : M.Ok k) : M.use.Ok (k + 1) := by
  obtain ⟨h1, h2, h3, h4, h5, h6⟩ := h
  unfold Mn.use
  split
  · exact ⟨by show -1 ≤ max (M.fuse - 1) (-1); omega, by show max (M.fuse - 1) (-1) ≤ _; omega, h3, by show M.lives ≤ _; omega, by show 0 ≤ M.uses + 1; omega, by show M.uses + 1 ≤ _; omega⟩
  · exact ⟨h1, h2, h3, by show M.lives ≤ _; omega, h5, by show M.uses ≤ _; omega⟩
theorem Mn.Ok.mono {M : Mn} {k j : Int} (h : M.Ok k) (hk : k ≤ j) : M.Ok j := ⟨h.f0, h.f1, h.l0, Int.le_trans h.l1 hk, h.u0, Int.le_trans h.u1 hk⟩
theorem Mn.Ok.cut {M : Mn} {k : Int} (h : M.Ok k) : M.cut.Ok k := ⟨h.f0, h.f1, h.l0, h.l1, h.u0, h.u1⟩
theorem Mn.Ok.come {M : Mn} {k : Int} (h : M.Ok k) : M.come.Ok (k + 1) := by
  unfold Mn.come
  split
  · exact ⟨by show (-1 : Int) ≤ -1; omega, by show (-1 : Int) ≤ 9223372036854775807; omega, by show 0 ≤ M.lives + 1; have := h.l0; omega, by show M.lives + 1 ≤ _; have := h.l1; omega, h.u0, by show M.uses ≤ _; have := h.u1; omega⟩
  · exact h.mono (by omega)
section
variable {H : Nat} {A w : World} {R : List Thing} {mb : Nat} {M : Mn} {k : Int}
abbrev tMn (mb : Nat) (M : Mn) : Thing := tBlk mb 86 M.cs
theorem OwnT.upd {g : Nat} {t : TypeId} {cs cs' : Array Value} {w' : World} (h : OwnT H A (tBlk g t cs :: R) w) (k : Upd w g t cs' w') : OwnT H A (tBlk g t cs' :: R) w' :=
  h.call (F := [g]) (Chg.of_grown k.grown) (fun i hi => by simpa [tBlk] using hi) (tBlk g t cs') k.blk (fun i hi => .inl hi)
theorem use_mn (O : OwnT H A (tMn mb M :: R) w) (hM : M.Ok k) (hk : k ≤ 1000000000000000000) :
    Calls Tryz.prog 80 #[.pointer (some ⟨mb, 0, none⟩)] w fun e w' => e = .returned (.int .i64 (if M.up then 0 else 4)) ∧ OwnT H A (tMn mb M.use :: R) w' := by
  obtain ⟨away, fuse, lives, uses⟩ := M
  have hb : Blk w mb 86 (mains away fuse lives uses) := O.b0
  by_cases hu : (away || fuse == 0) = true
  · refine (use_down mb away fuse lives uses w hb hu).mono ?_
    rintro e w' ⟨rfl, h⟩
    have e1 : Mn.up ⟨away, fuse, lives, uses⟩ = false := by unfold Mn.up; simp only; rw [hu]; rfl
    unfold Mn.use
    rw [e1]
    exact ⟨rfl, O.upd h⟩
  · have e1 : Mn.up ⟨away, fuse, lives, uses⟩ = true := by unfold Mn.up; simp only; rw [Bool.eq_false_iff.2 hu]; rfl
    have ha : away = false := by cases away; rfl; simp at hu
    subst ha
    refine (use_ok mb fuse lives uses w hb (by simpa using hu) hM.f0 hM.f1 hM.u0 (Int.le_trans hM.u1 hk)).mono ?_
    rintro e w' ⟨rfl, h⟩
    unfold Mn.use
    rw [e1]
    exact ⟨rfl, O.upd h⟩
theorem on_mn {w : World} (h : (tMn mb M).holds w) : Calls Tryz.prog 63 #[.pointer (some ⟨mb, 0, none⟩)] w fun e w' => e = .returned (.bool !M.away) ∧ w = w' := by
  obtain ⟨away, fuse, lives, uses⟩ := M
  exact on_any mb away fuse lives uses w h
theorem new_mn (O : OwnT H A R w) : Calls Tryz.prog 8 #[] w fun e w' => ∃ mb, e = .returned (.pointer (some ⟨mb, 0, none⟩)) ∧ OwnT H A (tMn mb mn0 :: R) w' := by
  refine (new_any w).mono ?_
  rintro e w' ⟨rfl, h⟩
  have hE : Ext w w' := ⟨h.grown.os, h.grown.tape, h.grown.output, h.grown.size, fun i hi => h.grown.block i hi (fun e => by injection e with e; omega)⟩
  exact ⟨_, rfl, O.cons hE (tMn w.heap.size mn0) h.blk (fun i hi => by simp [tBlk] at hi; omega)⟩
end
/-! What of a nil device. -/
/-! What only reads a device. -/
section
variable {p mb n cap bm : Nat} {B : Option Addr} {S : List Sec} {L : Int → Option Sec}
theorem dlen_any (w : World) (h : DiscR p mb B n cap bm S L w) : Calls Tryz.prog 78 #[.pointer (some ⟨p, 0, none⟩)] w fun e w' => e = .returned (.int .i64 n) ∧ w = w' := by
  have c1 : w.cell? ⟨p, 1, none⟩ = some (.slice B n cap) := h.blk.cell 1
  clear h
  go_enter Tryz.func78, Tryz.ntmps78
  go_wp2
  go_ret
  exact ⟨rfl, rfl⟩
/-- A sector as it is read. -/
def nowAt (S : List Sec) (L : Int → Option Sec) (i : Int) : Sec := (L i).getD (S.getD i.toNat [])
theorem zeroStr (w : World) : (zeroValue 9).run Tryz.prog w = .ok (.string (sB [])) w := by kernel_rfl
theorem dsector_any (i : Nat) (w : World) (h : DiscR p mb B n cap bm S L w) (hi : i < n) : Calls Tryz.prog 94 #[.pointer (some ⟨p, 0, none⟩), .int .i64 i] w fun e w' => e = .returned (.string (sB (nowAt S L i))) ∧ w = w' := by
  have c1 : w.cell? ⟨p, 1, none⟩ = some (.slice B n cap) := h.blk.cell 1
  have c2 : w.cell? ⟨p, 2, none⟩ = some (.map (some bm)) := h.blk.cell 2
  have hin : i < S.length := by have := h.ok.len; omega
  have hn := h.ok.le
  obtain ⟨g, rfl, c3⟩ := h.sec (List.getElem?_eq_getElem hin)
  have hlk := h.map.look_ok (t := 112) (e := 9) (z := .string (sB [])) Tryz.underlying112 (zeroStr w) (c := i) (Z4u (by omega) (by omega))
  cases hL : L i with
  | none =>
    have e1 : nowAt S L i = S[i] := by unfold nowAt; rw [hL]; simp [hin]
    rw [e1]
    rw [show looV L i = none by unfold looV; rw [hL]; rfl] at hlk
    simp only [Option.getD_none, Option.isSome_none] at hlk
    generalize S[i] = s at c3 ⊢
    clear h hL e1 hin
    go_enter Tryz.func94, Tryz.ntmps94
    go_wp2
    go_ret
    exact ⟨rfl, rfl⟩
  | some s =>
    have e1 : nowAt S L i = s := by unfold nowAt; rw [hL]; rfl
    rw [e1]
    rw [show looV L i = some (.string (sB s)) by unfold looV; rw [hL]; rfl] at hlk
    simp only [Option.getD_some, Option.isSome_some] at hlk
    clear h hL e1 hin c3
    go_enter Tryz.func94, Tryz.ntmps94
    go_wp2
    go_ret
    exact ⟨rfl, rfl⟩
end
open Go.RowKit

/-- What operation 'idx' leaves: a fact of the slots L and of the world, kept by every step behind it. -/
structure TFactL (R : (Nat → Bool) → World → World → Prop) where
  idx : Nat
  L : List Tmp
  T : Act → World → Prop
  loc : ∀ a a' w, (∀ t ∈ L, a.tmps[t]? = a'.tmps[t]?) → T a w → T a' w
  mono : ∀ l a w w', l idx = true → R l w w' → T a w → T a w'
section
variable {P : Program} {R : (Nat → Bool) → World → World → Prop} {ops : Array Oper} {I : (Nat → Bool) → World → Prop} {a0 : Act} {D : List Tmp} {A : List (List Nat)} {Fs : List (TFactL R)} {m : Nat} {Q : Exit → Act → World → Prop}
abbrev factsL (done : List (Nat × TFactL R)) : List (TFactL R) := done.reverse.map Prod.snd
theorem Z1c (x : Nat × TFactL R) (done : List (Nat × TFactL R)) : factsL (x :: done) = factsL done ++ [x.2] := by simp [factsL]
theorem Z0w (done : List (Nat × TFactL R)) : (factsL done).length = done.length := by simp [factsL]
def plain (Fs : List (TFactL R)) : List (TFact (fun _ _ : World => False)) := Fs.map fun S => ⟨S.L, S.T, S.loc, fun _ _ _ h _ => h.elim⟩
theorem plain_L (Fs : List (TFactL R)) : (plain Fs).map TFact.L = Fs.map TFactL.L := by simp [plain, Function.comp_def]
theorem plain_at {i : Nat} {S : TFactL R} (h : Fs[i]? = some S) : ∃ S', (plain Fs)[i]? = some S' ∧ S'.L = S.L := ⟨_, by rw [plain, List.getElem?_map, h]; rfl, rfl⟩
structure LInv (ops : Array Oper) (I : (Nat → Bool) → World → Prop) (a0 : Act) (D : List Tmp) (Fs : List (TFactL R)) (m : Nat) (listed : Array Bool) (a : Act) (w : World) : Prop where
  sz : listed.size = ops.size
  env : Env a0 D a
  inv : I (fun i => listed.getD i false) w
  closed : ∀ j o, listed.getD j false = true → ops[j]? = some o → ∀ e ∈ o.after, Region.binds .any e = true → listed.getD e.on false = true
  typed : ∀ i S, listed.getD i false = true → Fs[i]? = some S → S.T a w
  un : ∀ i, m ≤ i → listed.getD i false = false

theorem phasedL_any (hok0 : okB ops D A (Fs.map TFactL.L) m = true) (hidx : ∀ (i : Nat) (S : TFactL R), Fs[i]? = some S → S.idx = i) (hlen : Fs.length = m) (hms : m ≤ ops.size) (hm : ∀ i, m ≤ i → i < ops.size → ∀ j, j < i → j ∈ A.getD i [])
    (hstep : ∀ (k : Nat) (o : Oper) (S : TFactL R), ops[k]? = some o → Fs[k]? = some S → ∀ l a w, Env a0 D a → I l w → l k = false → (∀ i ∈ A.getD k [], l i = true) → (∀ (i : Nat) (S' : TFactL R), i ∈ A.getD k [] → Fs[i]? = some S' → S'.T a w) → opR P ops (R l) (I (upd l k)) o S.T a w)
    (hrr : ∀ l w, R l w w)
    (hend : ∀ l a w, Env a0 D a → I l w → (∀ i, i < m → l i = true) → (∀ (i : Nat) (S : TFactL R), Fs[i]? = some S → S.T a w) → tailWp P ops Q (ops.size - m) m a w) :
    ∀ (fuel : Nat) (listed : Array Bool) (a : Act) (w : World), LInv ops I a0 D Fs m listed a w → listed.toList.count false = fuel → wpAny P .any ops Q fuel listed a w := by
  have hok : okB ops D A ((plain Fs).map TFact.L) m = true := by rw [plain_L]; exact hok0
  intro fuel
  induction fuel with
  | zero =>
    intro listed a w hI h0
    obtain ⟨hr, hx⟩ := Z31 (ops := ops) listed hI.sz h0
    have hmm : m = ops.size := by
      by_cases h : m < ops.size
      · have := hx m h
        rw [hI.un m (Nat.le_refl _)] at this
        cases this
      · omega
    refine ⟨hr, ?_⟩
    have := hend _ a w hI.env hI.inv (fun i hi => hx i (by omega)) (fun i S hS => hI.typed i S (hx i (by have := (List.getElem?_eq_some_iff.1 hS).1; omega)) hS)
    rwa [show ops.size - m = 0 by omega] at this
  | succ fuel ih =>
    intro listed a w hI hcnt
    by_cases hall : ∀ j, j < m → listed.getD j false = true
    · exact Z6k hok hm (fuel + 1) m listed a w (Nat.le_refl _) hms hI.sz hall hI.un hI.closed hcnt (hend _ a w hI.env hI.inv hall (fun i S hS => hI.typed i S (hall i (by have := (List.getElem?_eq_some_iff.1 hS).1; omega)) hS))
    refine ⟨fun hr => (Z2r hok listed hI.sz fuel hcnt hr).elim, fun i hi => ?_⟩
    obtain ⟨hun, o, ho, hpre⟩ := mem_ready.1 hi
    have hio : i < ops.size := (Array.getElem?_eq_some_iff.1 ho).1
    have his : i < listed.size := by have := hI.sz; omega
    have hanc := Z1h hok hI.closed hI.sz i o ho hpre
    have him : i < m := by
      by_cases h : i < m
      · exact h
      · exact (hall (fun j hj => hanc j (hm i (by omega) hio j (by omega)))).elim
    obtain ⟨S, hS⟩ : ∃ S, Fs[i]? = some S := ⟨_, List.getElem?_eq_getElem (by omega)⟩
    have hst := hstep i o S ho hS _ a w hI.env hI.inv (by rw [Z0t his false true]; exact hun) hanc (fun j S' hj hS' => hI.typed j S' (hanc j hj) hS')
    have hnext : ∀ v w', R (fun j => listed.getD j false) w w' → I (upd (fun j => listed.getD j false) i) w' → S.T (a.put o.dst v) w' → LInv ops I a0 D Fs m (listed.setIfInBounds i true) (a.put o.dst v) w' := by
      intro v w' hRw hR hT
      obtain ⟨_, _, h3⟩ := Z59 hok ho
      have h3 := h3 him
      refine ⟨by simpa using hI.sz, ⟨?_, ?_, ?_⟩, by rw [Z3x his]; exact hR, Z2z his ho hpre hI.closed, ?_, ?_⟩
      · rw [← hI.env.size]; cases hd : o.dst <;> simp [Act.put]
      · rw [← hI.env.defers]; cases hd : o.dst <;> simp [Act.put]
      · intro t ht
        rw [← hI.env.keep t ht]
        cases hd : o.dst with
        | none => simp [Act.put]
        | some d =>
          have := (h3 d hd).1
          have hne : d ≠ t := fun e => ht (e ▸ this)
          simp [Act.put, Array.getElem?_setIfInBounds_ne hne]
      · intro j S' hj hS'
        by_cases hji : i = j
        · subst hji
          rw [hS] at hS'
          cases hS'
          exact hT
        · rw [getD_set_ne false hji] at hj
          have hold := S'.mono (fun j => listed.getD j false) _ w w' (by rw [hidx j S' hS']; exact hj) hRw (hI.typed j S' hj hS')
          refine S'.loc _ _ _ (fun t ht => ?_) hold
          cases hd : o.dst with
          | none => simp [Act.put]
          | some d =>
            have hja : i ∉ A.getD j [] := by
              intro hmem
              obtain ⟨oj, hoj⟩ : ∃ oj, ops[j]? = some oj := ⟨_, Array.getElem?_eq_getElem (by have := (List.getElem?_eq_some_iff.1 hS').1; omega)⟩
              have := Z1h hok hI.closed hI.sz j oj hoj (hI.closed j oj hj hoj) i hmem
              rw [Z0t his false true, hun] at this
              cases this
            obtain ⟨S2, hS2, hSL⟩ := plain_at hS'
            have hne : d ≠ t := fun e => (h3 d hd).2 j S2 hS2 (fun e => hji e.symm) hja (by rw [hSL]; exact e ▸ ht)
            simp [Act.put, Array.getElem?_setIfInBounds_ne hne]
      · intro j hj
        have : i ≠ j := by omega
        rw [getD_set_ne false this]
        exact hI.un j hj
    have hk : ∀ v w', R (fun j => listed.getD j false) w w' → I (upd (fun j => listed.getD j false) i) w' → S.T (a.put o.dst v) w' → wpAny P .any ops Q fuel (listed.setIfInBounds i true) (a.put o.dst v) w' :=
      fun v w' hRw hR hT => ih _ _ _ (hnext v w' hRw hR hT) (count_set his hun _ hcnt)
    unfold wpOp
    simp only [ho]
    rcases hst with ⟨hw, hy⟩ | ⟨hw, hJ, hT⟩
    · rw [if_pos hw]
      refine .inl ?_
      unfold YieldsR at hy
      unfold Oper.wp
      generalize (execOp a.eval o).run P w = r at hy ⊢
      cases r with
      | halt x w' => exact hy.elim
      | ok n w' =>
        cases n <;> simp only [Oper.upon] at hy ⊢
        case value v => exact hk v w' hy.1 hy.2.1 hy.2.2
        case skip => exact hk undef w' hy.1 hy.2.1 hy.2.2
        case enter f args =>
          refine hy.mono fun e w'' ⟨v, he, hRw, hR, hT⟩ => ?_
          subst he
          exact hk v w'' hRw hR hT
    · rw [if_neg (by rw [hw]; exact Bool.false_ne_true)]
      exact hk undef w (hrr _ w) hJ hT

inductive BuildL (P : Program) (R : (Nat → Bool) → World → World → Prop) (ops : Array Oper) (I : (Nat → Bool) → World → Prop) (a0 : Act) (D : List Tmp) (A : List (List Nat)) (G : List (Nat × TFactL R) → Prop) : Nat → List Oper → List (Nat × TFactL R) → Prop
  | stop {k : Nat} {os : List Oper} {done : List (Nat × TFactL R)} (h : G done) : BuildL P R ops I a0 D A G k os done
  | step {k : Nat} {o : Oper} {os : List Oper} {done : List (Nat × TFactL R)} (S : TFactL R) (hx : S.idx = k) (h : ∀ l a w, Env a0 D a → I l w → l k = false → (∀ i ∈ A.getD k [], l i = true) → (∀ (i : Nat) (S' : TFactL R), i ∈ A.getD k [] → (i, S') ∈ done → S'.T a w) → opR P ops (R l) (I (upd l k)) o S.T a w)
      (hr : BuildL P R ops I a0 D A G (k + 1) os ((k, S) :: done)) : BuildL P R ops I a0 D A G k (o :: os) done

variable {G : List (Nat × TFactL R) → Prop} {k : Nat} {o : Oper} {os : List Oper} {done : List (Nat × TFactL R)} {d : Tmp} {v : Value}
theorem BuildL.use (hb : BuildL P R ops I a0 D A G k os done) (hk : k = done.length) (hwf : ∀ (i : Nat) (S : TFactL R), (i, S) ∈ done → (factsL done)[i]? = some S) (hxd : ∀ (i : Nat) (S : TFactL R), (factsL done)[i]? = some S → S.idx = i) : ∃ fin : List (Nat × TFactL R), G fin ∧ (∀ (i : Nat) (S : TFactL R), (factsL done)[i]? = some S → (factsL fin)[i]? = some S) ∧
    (∀ (i : Nat) (S : TFactL R), (i, S) ∈ fin → (factsL fin)[i]? = some S) ∧ (∀ (i : Nat) (S : TFactL R), (factsL fin)[i]? = some S → S.idx = i) ∧ done.length ≤ fin.length ∧
    ∀ (i : Nat) (o : Oper) (S : TFactL R), os[i]? = some o → (factsL fin)[k + i]? = some S → ∀ l a w, Env a0 D a → I l w → l (k + i) = false → (∀ j ∈ A.getD (k + i) [], l j = true) → (∀ (j : Nat) (S' : TFactL R), j ∈ A.getD (k + i) [] → (factsL fin)[j]? = some S' → S'.T a w) → opR P ops (R l) (I (upd l (k + i))) o S.T a w := by
  induction hb with
  | stop h =>
    rename_i k os done
    refine ⟨done, h, fun _ _ h => h, hwf, hxd, Nat.le_refl _, fun i o S _ hS => ?_⟩
    rw [List.getElem?_eq_none (by rw [Z0w]; omega)] at hS
    cases hS
  | step S hx h hr ih =>
    rename_i k o os done
    have hpre0 : ∀ (i : Nat) (S' : TFactL R), (factsL done)[i]? = some S' → (factsL ((k, S) :: done))[i]? = some S' := fun i S' hi => by
      have hlt := (List.getElem?_eq_some_iff.1 hi).1
      rw [Z1c, List.getElem?_append_left hlt]; exact hi
    obtain ⟨fin, hG, h1, hw, hxf, h2, h4⟩ := ih (by simp [hk]) (fun i S' hm => by
      rcases List.mem_cons.1 hm with he | hm
      · cases he
        rw [Z1c, hk, ← Z0w done]
        simp
      · exact hpre0 i S' (hwf i S' hm)) (fun i S' hi => by
      rw [Z1c] at hi
      by_cases hlt : i < (factsL done).length
      · rw [List.getElem?_append_left hlt] at hi
        exact hxd i S' hi
      · have hle := (List.getElem?_eq_some_iff.1 hi).1
        rw [List.length_append] at hle
        have hle : i < (factsL done).length + 1 := hle
        have : i = (factsL done).length := by omega
        subst this
        rw [List.getElem?_append_right (Nat.le_refl _), Nat.sub_self] at hi
        simp at hi
        subst hi
        rw [hx, hk, Z0w])
    refine ⟨fin, hG, fun i S' hi => h1 i S' (hpre0 i S' hi), hw, hxf, by simp at h2; omega, ?_⟩
    intro i o' S' hi hS
    cases i with
    | zero =>
      simp at hi
      subst hi
      have : (factsL fin)[k + 0]? = some S := h1 k S (by rw [Z1c, hk, ← Z0w done]; simp)
      rw [this] at hS
      cases hS
      intro l a w hE hR hl hA hF
      exact h l a w hE hR hl hA (fun j S' hj hd => hF j S' hj (h1 j S' (hpre0 j S' (hwf j S' hd))))
    | succ i =>
      have := h4 i o' S' (by simpa using hi) (by rwa [show k + 1 + i = k + (i + 1) by omega])
      intro l a w hE hR hl hA hF
      rw [show k + (i + 1) = k + 1 + i by omega] at hl hA ⊢
      exact this l a w hE hR hl hA (fun j S' hj hd => hF j S' (by rwa [show k + (i + 1) = k + 1 + i by omega]) hd)



/-- Each operation's fact, shown once, and the invariant kept. -/
theorem Z3u {id : Nat} {l : List Oper} {w : World} (Fs : List (TFactL R)) (hidx : ∀ (i : Nat) (S : TFactL R), Fs[i]? = some S → S.idx = i) (A : List (List Nat)) (D : List Tmp) (hf : P.follows .mixedOrders = true) (hok : okB l.toArray D A (Fs.map TFactL.L) Fs.length = true)
    (hm : (decide (Fs.length ≤ l.length) && (List.range l.length).all fun i => decide (i < Fs.length) || (List.range i).all fun j => (A.getD i []).contains j) = true)
    (hw0 : I (fun _ => false) w.drew)
    (hstep : ∀ (k : Nat) (o : Oper) (S : TFactL R), l[k]? = some o → Fs[k]? = some S → ∀ L a w, Env a0 D a → I L w → L k = false → (∀ i ∈ A.getD k [], L i = true) → (∀ (i : Nat) (S' : TFactL R), i ∈ A.getD k [] → Fs[i]? = some S' → S'.T a w) → opR P l.toArray (R L) (I (upd L k)) o S.T a w)
    (hrr : ∀ l w, R l w w)
    (hend : ∀ L a w, Env a0 D a → I L w → (∀ i, i < Fs.length → L i = true) → (∀ (i : Nat) (S : TFactL R), Fs[i]? = some S → S.T a w) → tailWp P l.toArray Q (l.length - Fs.length) Fs.length a w) :
    (Code.region id l.toArray true).wp P Q a0 w := by
  refine wp_region_any hf ?_
  simp only [Bool.and_eq_true, decide_eq_true_eq, List.all_eq_true, List.mem_range, Bool.or_eq_true, List.contains_iff_mem] at hm
  refine phasedL_any (a0 := a0) (I := I) (Fs := Fs) (A := A) (D := D) (m := Fs.length) hok hidx rfl (by simpa using hm.1) ?_ (by simpa using hstep) hrr (by simpa using hend) _ _ _ _ ?_ (by simp)
  · intro i h1 h2 j hj
    rcases hm.2 i (by simpa using h2) with h | h
    · omega
    · exact h j hj
  · refine ⟨by simp, ⟨rfl, rfl, fun _ _ => rfl⟩, ?_, ?_, ?_, ?_⟩
    · have e : (fun i => (Array.replicate l.toArray.size false).getD i false) = fun _ => false := funext fun i => Z16 _ _
      rw [e]
      exact hw0
    · intro j o hj
      rw [Z16] at hj
      cases hj
    · intro i S hi
      rw [Z16] at hi
      cases hi
    · intro i _
      exact Z16 _ _

def FinL (P : Program) (l : List Oper) (I : (Nat → Bool) → World → Prop) (a0 : Act) (D : List Tmp) (A : List (List Nat)) (Q : Exit → Act → World → Prop) (fin : List (Nat × TFactL R)) : Prop :=
  (okB l.toArray D A ((factsL fin).map TFactL.L) fin.length && (decide (fin.length ≤ l.length) && (List.range l.length).all fun i => decide (i < fin.length) || (List.range i).all fun j => (A.getD i []).contains j) && (l.drop fin.length).all fun o => o.guard.isNone) = true ∧
    ∀ L a w, Env a0 D a → I L w → (∀ i, i < fin.length → L i = true) → (∀ (i : Nat) (S : TFactL R), (i, S) ∈ fin → S.T a w) → tailOps P Q (l.drop fin.length) a w
theorem Z3v {id : Nat} {l : List Oper} {w : World} (R : (Nat → Bool) → World → World → Prop) (I : (Nat → Bool) → World → Prop) (A : List (List Nat)) (D : List Tmp) (hrr : ∀ l w, R l w w) (hw0 : I (fun _ => false) w.drew) (hf : P.follows .mixedOrders = true)
    (h : BuildL P R l.toArray I a0 D A (FinL P l I a0 D A Q) 0 l []) : (Code.region id l.toArray true).wp P Q a0 w := by
  obtain ⟨fin, ⟨hok, hG⟩, -, hw, hxf, -, hstep⟩ := h.use rfl (fun _ _ h => by cases h) (fun _ _ h => by simp [factsL] at h)
  have hlen := Z0w fin
  rw [Bool.and_eq_true, Bool.and_eq_true] at hok
  refine Z3u (I := I) (factsL fin) hxf A D hf (by rw [hlen]; exact hok.1.1) (by rw [hlen]; exact hok.1.2) hw0 (fun k o S h1 h2 L a w hE hR hl hA hF => by
    have := hstep k o S h1 (by simpa using h2) L a w hE hR (by simpa using hl) (by simpa using hA) (by simpa using hF)
    simpa using this) hrr (fun L a w hE hR hA hF => ?_)
  rw [hlen] at hA ⊢
  have := Z4v l (l.drop fin.length) fin.length rfl hok.2 a w (hG L a w hE hR hA (fun i S hm => hF i S (hw i S hm)))
  simpa using this

/-- The slot holds this value. -/
def detL (k : Nat) (d : Tmp) (v : Value) : TFactL R := ⟨k, [d], fun a _ => a.eval (.tmp d) = v, fun a a' _ h e => (Z1d (h d (by simp))).symm.trans e, fun _ _ _ _ _ _ e => e⟩
/-- The slot holds a value of which this holds, from then on. -/
def freshL (k : Nat) (d : Tmp) (φ : Value → World → Prop) (hφ : ∀ l v w w', l k = true → R l w w' → φ v w → φ v w') : TFactL R := ⟨k, [d], fun a w => φ (a.eval (.tmp d)) w, fun a a' w h e => by rw [← Z1d (h d (by simp))]; exact e, fun l a w w' hl hR e => hφ l _ _ _ hl hR e⟩
theorem BuildL.det (d : Tmp) {v : Value} (hrr : ∀ l w, R l w w) (hI : ∀ l w, I l w → I (upd l k) w) (hd : o.dst = some d) (hn : Nat.blt d a0.tmps.size = true) (hg : o.guard = none)
    (h : ∀ l a w, Env a0 D a → I l w → (∀ (i : Nat) (S' : TFactL R), i ∈ A.getD k [] → (i, S') ∈ done → S'.T a w) → (execOp a.eval o).run P w = .ok (.value v) w)
    (hr : BuildL P R ops I a0 D A G (k + 1) os ((k, detL k d v) :: done)) : BuildL P R ops I a0 D A G k (o :: os) done :=
  .step _ rfl (fun l a w hE hR _ _ hF => .inl ⟨Z0e hg, by
    unfold YieldsR
    rw [h l a w hE hR hF]
    exact ⟨hrr l w, hI l w hR, by rw [hd]; exact Z0j (by rw [hE.size]; exact Nat.le_of_ble_eq_true hn)⟩⟩) hr
theorem BuildL.call (d : Tmp) {v : Value} {f : FuncId} {args : Array Value} (hd : o.dst = some d) (hn : Nat.blt d a0.tmps.size = true) (hg : o.guard = none)
    (h : ∀ l a w, Env a0 D a → I l w → (∀ (i : Nat) (S' : TFactL R), i ∈ A.getD k [] → (i, S') ∈ done → S'.T a w) → (execOp a.eval o).run P w = .ok (.enter f args) w)
    (hc : ∀ l w, I l w → l k = false → (∀ i ∈ A.getD k [], l i = true) → Calls P f args w fun e w' => e = .returned v ∧ R l w w' ∧ I (upd l k) w')
    (hr : BuildL P R ops I a0 D A G (k + 1) os ((k, detL k d v) :: done)) : BuildL P R ops I a0 D A G k (o :: os) done :=
  .step _ rfl (fun l a w hE hR hl hA hF => .inl ⟨Z0e hg, by
    unfold YieldsR
    rw [h l a w hE hR hF]
    exact (hc l w hR hl hA).mono fun e w' ⟨he, hRw, hI⟩ => ⟨v, he, hRw, hI, by rw [hd]; exact Z0j (by rw [hE.size]; exact Nat.le_of_ble_eq_true hn)⟩⟩) hr
/-- One that makes something of its own. -/
theorem BuildL.new (d : Tmp) (φ : Value → World → Prop) (hφ : ∀ l v w w', l k = true → R l w w' → φ v w → φ v w') (hd : o.dst = some d) (hn : Nat.blt d a0.tmps.size = true) (hg : o.guard = none)
    (h : ∀ l a w, Env a0 D a → I l w → l k = false → (∀ i ∈ A.getD k [], l i = true) → (∀ (i : Nat) (S' : TFactL R), i ∈ A.getD k [] → (i, S') ∈ done → S'.T a w) → ∃ v w', (execOp a.eval o).run P w = .ok (.value v) w' ∧ R l w w' ∧ I (upd l k) w' ∧ φ v w')
    (hr : BuildL P R ops I a0 D A G (k + 1) os ((k, freshL k d φ hφ) :: done)) : BuildL P R ops I a0 D A G k (o :: os) done :=
  .step _ rfl (fun l a w hE hR hl hA hF => by
    obtain ⟨v, w', h1, h2, h3, h4⟩ := h l a w hE hR hl hA hF
    refine .inl ⟨Z0e hg, ?_⟩
    unfold YieldsR
    rw [h1]
    exact ⟨h2, h3, by rw [hd]; show φ ((a.put (some d) v).eval (.tmp d)) w'; rw [Z0j (by rw [hE.size]; exact Nat.le_of_ble_eq_true hn)]; exact h4⟩) hr
end

structure ElemI (P : Program) (t T : TypeId) (k bytes : Nat) : Prop where
  ht : P.underlying t = some (.slice T)
  info : ∃ i z, P.info? T = some i ∧ i.zero = some z ∧ i.size = k ∧ i.bytes = bytes ∧ z.cells.size = k
def AppI (H : Nat) (A : World) (T : TypeId) (k : Nat) (v : Value) (n : Nat) (xs : List Value) (g : Nat) (news : List Value) (G : List Thing) (b c : Bool) (w : World) : Prop :=
  if c = true then b = true ∧ ∃ v', OwnT H A (tRow T k v' (n + 1) (xs ++ news) :: tBlk g T news.toArray :: G) w
  else if b = true then OwnT H A (tRow T k v n xs :: tBlk g T news.toArray :: G) w
  else OwnT H A (tRow T k v n xs :: G) w ∧ w.heap.size = g
section
variable {P : Program} {H : Nat} {A : World} {T t : TypeId} {k n g bytes : Nat} {v : Value} {xs news : List Value} {G : List Thing} {b c : Bool} {w : World} {l : Nat → Bool} {ib ia : Nat} {M : Sem Next}
theorem AppI.start (h : OwnT H A (tRow T k v n xs :: G) w) : AppI H A T k v n xs w.heap.size news G false false w.drew := ⟨h.drew, rfl⟩
theorem AppI.own (h : AppI H A T k v n xs g news G b c w) : OwnT H A G w := by
  unfold AppI at h
  split at h
  · obtain ⟨_, v, h⟩ := h
    exact h.tail.tail
  · split at h
    · exact h.tail.tail
    · exact h.1.tail
theorem app_build (h : AppI H A T k v n xs g news G (l ib) (l ia) w) (hl : l ib = false) (hne : ia ≠ ib)
    (hM : M.run P w = .ok (.value (.slice (some ⟨w.heap.size, 0, none⟩) 1 1)) (w.alloc (.cells news.toArray T))) :
    ∃ r w', M.run P w = .ok (.value r) w' ∧ (if l ia = true then Ext w w' else True) ∧ AppI H A T k v n xs g news G (upd l ib ib) (upd l ib ia) w' ∧ r = .slice (some ⟨g, 0, none⟩) 1 1 := by
  unfold AppI at h
  rw [hl] at h
  split at h
  · cases h.1
  · rename_i h14
    obtain ⟨h1, h2⟩ : OwnT H A (tRow T k v n xs :: G) w ∧ w.heap.size = g := by simpa using h
    refine ⟨_, _, hM, ?_, ?_, by rw [h2]⟩
    · rw [if_neg h14]; trivial
    · have e13 : upd l ib ib = true := if_pos rfl
      have e14 : upd l ib ia = l ia := if_neg hne
      unfold AppI
      rw [e13, e14, if_neg h14, if_pos rfl]
      have h3 := h1.new T news.toArray
      rw [h2] at h3
      exact h3.perm (.swap _ _ _)
theorem app_grow (h : AppI H A T k v n xs g news G (l ib) (l ia) w) (hl : l ia = false) (hb : l ib = true) (hne : ia ≠ ib) (E : ElemI P t T k bytes) (hk : 0 < k) (hlen : news.length = k) (h1 : ∀ u ∈ news, u.oneCell' = true) (h63 : n + 1 ≤ maxLen) (hbytes : (n + 1) * bytes ≤ 140737488355328) {ty : TypeId}
    (hM : ∀ r w', (Builtin.append_ #[t, t] ty #[v, .slice (some ⟨g, 0, none⟩) 1 1]).run P w = .ok r w' → M.run P w = .ok (.value r) w') :
    ∃ r w', M.run P w = .ok (.value r) w' ∧ (if l ia = true then Ext w w' else True) ∧ AppI H A T k v n xs g news G (upd l ia ib) (upd l ia ia) w' ∧ OwnT H A (tRow T k r (n + 1) (xs ++ news) :: tBlk g T news.toArray :: G) w' := by
  have h2 : OwnT H A (tRow T k v n xs :: tBlk g T news.toArray :: G) w := by
    unfold AppI at h
    rw [hl, hb] at h
    simpa using h
  obtain ⟨i, z, hi, hz, hs, hby, hzs⟩ := E.info
  obtain ⟨r, w', hrun, h3⟩ := h2.appendOne (P := P) t i z bytes E.ht hi hz hs hby hzs hk g T news h2.b1 hlen h1 h63 hbytes
  refine ⟨r, w', hM _ _ (hrun ty), by rw [hl]; simp, ?_, h3⟩
  have e13 : upd l ia ib = l ib := if_neg (fun e => hne e.symm)
  have e14 : upd l ia ia = true := if_pos rfl
  unfold AppI
  rw [e13, e14, if_pos rfl]
  exact ⟨hb, r, h3⟩
end
/-- A row that isn't empty: its slice. -/
theorem OwnT.slice0 {H : Nat} {A w : World} {L : List Thing} {T : TypeId} {k n : Nat} {v : Value} {xs : List Value} (h : OwnT H A (tRow T k v n xs :: L) w) (hn : 0 < n) : ∃ g cap, v = .slice (some ⟨g, 0, none⟩) n cap := by
  obtain ⟨g, cap, cur, h1, _⟩ := Z6q h.r0 hn
  exact ⟨g, cap, h1⟩
theorem row_slice {w : World} {base : Nat} {T : TypeId} {k n : Nat} {v : Value} {xs : List Value} (h : w.ownsRow base T k v n xs) : ∃ B cap, v = .slice B n cap := by
  rcases h.2 with ⟨rfl, rfl⟩ | ⟨g, cap, cur, rfl, _⟩
  · exact ⟨none, 0, rfl⟩
  · exact ⟨_, cap, rfl⟩
theorem OwnT.pick01 {H : Nat} {A w : World} {L : List Thing} {X Y : Thing} (h : OwnT H A (X :: Y :: L) w) : OwnT H A (X :: L) w := h.sub (.cons_cons _ (.cons _ (.refl _)))

/-- Block b is a Writer that holds the bytes l; its buffer is block g (none: it has none yet). 'p': what the builder's 'addr' holds. -/
def WrPS (w : World) (b : Nat) (g : Option Nat) (p : Value) (l : List UInt8) : Prop :=
  ∃ v, w.heap[b]? = some (.cells #[p, v] 130 (0, 0)) ∧ w.ownsRowF 0 5 1 v l.length (Lib.byteCells l) ∧ v.ownBlock = g
def WrS (w : World) (b : Nat) (g : Option Nat) (l : List UInt8) : Prop := WrPS w b g (.pointer none) l ∨ WrPS w b g (.pointer (some ⟨b, 0, none⟩)) l

/-- Of what was there nothing has turned but block b and its buffer g; the buffer is now g', the old one or a new one. -/
structure WroteS (w : World) (b : Nat) (g g' : Option Nat) (w' : World) : Prop where
  os : w'.os = w.os
  tape : w'.tape = w.tape
  output : w'.output = w.output
  size : w.heap.size ≤ w'.heap.size
  block : ∀ k, k < w.heap.size → k ≠ b → some k ≠ g → w'.heap[k]? = w.heap[k]?
  own : g' = g ∨ ∃ k, g' = some k ∧ w.heap.size ≤ k

theorem WroteS.refl (w : World) (b : Nat) (g : Option Nat) : WroteS w b g g w := ⟨rfl, rfl, rfl, Nat.le_refl _, fun _ _ _ _ => rfl, .inl rfl⟩
theorem WroteS.trans {a c d : World} {b : Nat} {g g' g'' : Option Nat} (h : WroteS a b g g' c) (k : WroteS c b g' g'' d) : WroteS a b g g'' d := by
  refine ⟨k.os.trans h.os, k.tape.trans h.tape, k.output.trans h.output, Nat.le_trans h.size k.size, fun i hi hb hg => ?_, ?_⟩
  · refine (k.block i (Nat.lt_of_lt_of_le hi h.size) hb ?_).trans (h.block i hi hb hg)
    rcases h.own with rfl | ⟨j, rfl, hj⟩
    · exact hg
    · intro e
      injection e with e
      omega
  · rcases k.own with rfl | ⟨j, rfl, hj⟩
    · exact h.own
    · exact .inr ⟨j, rfl, Nat.le_trans h.size hj⟩
theorem WroteS.drew {a c : World} {b : Nat} {g g' : Option Nat} (h : WroteS a b g g' c) : WroteS a b g g' c.drew := ⟨h.os, h.tape, h.output, h.size, h.block, h.own⟩
/-- Both the writer and its buffer lie from B on: below B nothing has turned. -/
theorem WroteS.below {A w w' : World} {B b : Nat} {g g' : Option Nat} (h : WroteS w b g g' w') (hA : Below B A w) (hB : B ≤ w.heap.size) (hb : B ≤ b) (hg : ∀ k, g = some k → B ≤ k) : Below B A w' :=
  hA.trans ⟨h.os, h.tape, h.output, h.size, fun k hk => h.block k (by omega) (by omega) (fun e => by have := hg k e.symm; omega)⟩
theorem WroteS.own_from {w w' : World} {B b : Nat} {g g' : Option Nat} (h : WroteS w b g g' w') (hB : B ≤ w.heap.size) (hg : ∀ k, g = some k → B ≤ k) : ∀ k, g' = some k → B ≤ k := by
  intro k hk
  rcases h.own with e | ⟨j, e, hj⟩
  · exact hg k (e ▸ hk)
  · rw [hk] at e; injection e with e; omega

theorem WrPS.lt {w : World} {b : Nat} {g : Option Nat} {p : Value} {l : List UInt8} (h : WrPS w b g p l) : b < w.heap.size := by
  obtain ⟨v, hb, _⟩ := h
  exact Blk.lt hb
theorem WrPS.ne {w : World} {b : Nat} {g : Option Nat} {p : Value} {l : List UInt8} (h : WrPS w b g p l) : g ≠ some b := by
  obtain ⟨v, hb, hown, rfl⟩ := h
  exact Lib.ownBlock_neF hown hb (by decide)
theorem WrPS.own_lt {w : World} {b : Nat} {g : Option Nat} {p : Value} {l : List UInt8} (h : WrPS w b g p l) : ∀ k, g = some k → k < w.heap.size := by
  obtain ⟨v, hb, hown, rfl⟩ := h
  exact fun k hk => (hown.lt k hk).2
/-- Kept where neither block has turned. -/
theorem WrPS.keep {w w' : World} {b : Nat} {g : Option Nat} {p : Value} {l : List UInt8} (h : WrPS w b g p l) (hb : w'.heap[b]? = w.heap[b]?) (hg : ∀ k, g = some k → w'.heap[k]? = w.heap[k]?) : WrPS w' b g p l := by
  obtain ⟨v, h1, h2, h3⟩ := h
  refine ⟨v, hb.trans h1, ⟨h2.1, ?_⟩, h3⟩
  rcases h2.2 with hn | ⟨g', cap, cur, fz, rfl, hbg, hgg, rest⟩
  · exact .inl hn
  · exact .inr ⟨g', cap, cur, fz, rfl, hbg, (hg g' (by rw [← h3]; rfl)).trans hgg, rest⟩
theorem WrS.lt {w : World} {b : Nat} {g : Option Nat} {l : List UInt8} (h : WrS w b g l) : b < w.heap.size := h.elim WrPS.lt WrPS.lt
theorem WrS.ne {w : World} {b : Nat} {g : Option Nat} {l : List UInt8} (h : WrS w b g l) : g ≠ some b := h.elim WrPS.ne WrPS.ne
theorem WrS.own_lt {w : World} {b : Nat} {g : Option Nat} {l : List UInt8} (h : WrS w b g l) : ∀ k, g = some k → k < w.heap.size := h.elim WrPS.own_lt WrPS.own_lt
theorem WrS.keep {w w' : World} {b : Nat} {g : Option Nat} {l : List UInt8} (h : WrS w b g l) (hb : w'.heap[b]? = w.heap[b]?) (hg : ∀ k, g = some k → w'.heap[k]? = w.heap[k]?) : WrS w' b g l :=
  h.elim (fun h => .inl (h.keep hb hg)) (fun h => .inr (h.keep hb hg))
theorem WrS.drew {w : World} {b : Nat} {g : Option Nat} {l : List UInt8} (h : WrS w b g l) : WrS w.drew b g l := h
theorem WrS.alloc {w : World} {b : Nat} {g : Option Nat} {l : List UInt8} (h : WrS w b g l) (o : Obj) : WrS (w.alloc o) b g l :=
  h.keep (Below.heap_alloc w o b h.lt) (fun k hk => Below.heap_alloc w o k (h.own_lt k hk))
theorem WrS.below {w w' : World} {b : Nat} {g : Option Nat} {l : List UInt8} (h : WrS w b g l) (hb : Below w.heap.size w w') : WrS w' b g l :=
  h.keep (hb.block b h.lt) (fun k hk => hb.block k (h.own_lt k hk))
/-- Another writer's deed. -/
theorem WrS.other {w w' : World} {b b2 : Nat} {g g2 g3 : Option Nat} {l : List UInt8} (h : WrS w b g l) (k : WroteS w b2 g2 g3 w') (hb : b ≠ b2) (hg : g2 ≠ some b) (hb2 : g ≠ some b2) (hgg : g ≠ g2 ∨ g = none) : WrS w' b g l :=
  h.keep (k.block b h.lt hb (fun e => hg e.symm)) (fun j hj => k.block j (h.own_lt j hj) (fun e => hb2 (by rw [hj, e])) (fun e => by
    rcases hgg with hh | hh
    · exact hh (by rw [hj, e])
    · rw [hh] at hj; cases hj))
/-- A new, empty writer. -/
theorem WrS.new_ {w : World} {b : Nat} (hb : b = w.heap.size) : WrS (w.alloc (.cells #[.pointer none, .slice none 0 0] 130)) b none [] :=
  .inl ⟨.slice none 0 0, blk_new hb, ⟨rfl, .inl ⟨rfl, rfl⟩⟩, rfl⟩

theorem sizeBS : (Tryz.prog.info? 130).map (·.size) = some 2 := by kernel_rfl
theorem liesBS : liesAt Tryz.prog Tryz.prog.depth 130 (2 / Tryz.prog.cellsOf 130) 0 130 1 = true := by kernel_rfl
theorem infoByteS : (Tryz.prog.info? 5).map (fun i => (i.zero, i.size, i.bytes)) = some (some (.int .u8 0), 1, 1) := by kernel_rfl
set_option maxHeartbeats 1000000 in
set_option maxRecDepth 100000 in
theorem Z5i (b : Nat) (w : World) (h0 : w.cell? ⟨b, 0, none⟩ = some (.pointer (some ⟨b, 0, none⟩))) :
    Calls Tryz.prog 112 #[.pointer (some ⟨b, 0, none⟩)] w fun e w' => e = .returned (.tuple #[]) ∧ w' = w := by
  obtain ⟨j, hj, _⟩ := Option.map_eq_some_iff.1 sizeBS
  go_enter Tryz.func112, Tryz.ntmps112
  go_wp2
  rw [Lib.run_neq_ptr_same w _ Tryz.underlying128 hj]
  go_wp2
  go_end0
  exact ⟨rfl, rfl⟩

set_option maxHeartbeats 1000000 in
set_option maxRecDepth 100000 in
theorem Z4h (b : Nat) (w : World) (h0 : w.cell? ⟨b, 0, none⟩ = some (.pointer none)) (hsh : w.shape? b = some (130, 2)) (hfz : w.frozen? ⟨b, 0, none⟩ = false) :
    Calls Tryz.prog 112 #[.pointer (some ⟨b, 0, none⟩)] w fun e w' => e = .returned (.tuple #[]) ∧ w' = w.setCell ⟨b, 0, none⟩ (.pointer (some ⟨b, 0, none⟩)) := by
  obtain ⟨j, hj, hjs⟩ := Option.map_eq_some_iff.1 sizeBS
  go_enter Tryz.func112, Tryz.ntmps112
  go_wp2
  rw [Lib.run_to_unsafe w ⟨b, 0, none⟩ Tryz.underlying128 Tryz.underlying176 hj (by rw [hjs]; decide) hsh (Nat.zero_lt_succ 1)]
  simp only [Result.andThen]
  rw [Oper.upon_value]
  go_wp2
  rw [run_callFunc_extern Tryz.func124 (by kernel_rfl) (by kernel_rfl) (by kernel_rfl) (e := Extern.AbiNoEscape.same) (by kernel_rfl)]
  rw [Lib.run_noEscape]
  simp only [Result.andThen]
  rw [Oper.upon_value]
  go_wp2
  rw [Lib.run_from_unsafe w ⟨b, 0, none⟩ Tryz.underlying176 Tryz.underlying128 hj hsh liesBS]
  simp only [Result.andThen]
  rw [Oper.upon_value]
  go_wp2
  go_end0
  exact ⟨rfl, rfl⟩

theorem wrote_setS {w : World} {b : Nat} {g : Option Nat} (i : Nat) (u : Value) : WroteS w b g g (w.setCell ⟨b, i, none⟩ u) :=
  ⟨rfl, rfl, rfl, by simp [World.setCell], fun k _ hk _ => Below.heap_setCell _ _ _ _ hk, .inl rfl⟩

theorem Z5o (b : Nat) (g : Option Nat) (l : List UInt8) (w : World) (h : WrS w b g l) :
    Calls Tryz.prog 112 #[.pointer (some ⟨b, 0, none⟩)] w fun e w' => e = .returned (.tuple #[]) ∧ WrPS w' b g (.pointer (some ⟨b, 0, none⟩)) l ∧ WroteS w b g g w' := by
  rcases h with h | h
  · have hne := h.ne
    have h' := h
    obtain ⟨v, hb, hown, hg⟩ := h
    refine (Z4h b w (Blk.cell hb 0) (by simp [World.shape?, hb]) (Blk.frozen hb 0)).mono ?_
    rintro e w' ⟨rfl, rfl⟩
    refine ⟨rfl, ⟨v, Blk.set_ hb 0 _, ?_, hg⟩, wrote_setS 0 _⟩
    refine hown.kept (row := some b) ⟨rfl, rfl, rfl, by simp [World.setCell], fun k _ hk => Below.heap_setCell _ _ _ _ (fun e => hk (by simp [e]))⟩ (.inr (by rw [hg]; exact hne))
  · have h' := h
    obtain ⟨v, hb, hown, hg⟩ := h
    refine (Z5i b w (Blk.cell hb 0)).mono ?_
    rintro e w' ⟨rfl, rfl⟩
    exact ⟨rfl, h', WroteS.refl _ _ _⟩

theorem Z45 (a b : List UInt8) : Lib.byteCells (a ++ b) = Lib.byteCells a ++ Lib.byteCells b := by simp [Lib.byteCells]

/-- Behind an append the new buffer is stored into the writer. -/
theorem wr_storeS {w1 w2 : World} {b : Nat} {g : Option Nat} {v v' p : Value} {l' : List UInt8} (hb : w1.heap[b]? = some (.cells #[p, v] 130 (0, 0))) (hv : v.ownBlock = g) (hne : g ≠ some b)
    (hown : w2.ownsRowF 0 5 1 v' l'.length (Lib.byteCells l')) (hgrow : w1.grownBy w2 v.ownBlock) (hf : v'.ownBlock = v.ownBlock ∨ ∃ k, v'.ownBlock = some k ∧ w1.heap.size ≤ k) :
    WrPS (w2.setCell ⟨b, 1, none⟩ v') b v'.ownBlock p l' ∧ WroteS w1 b g v'.ownBlock (w2.setCell ⟨b, 1, none⟩ v') := by
  have hlt : b < w1.heap.size := Blk.lt hb
  have hb2 : w2.heap[b]? = some (.cells #[p, v] 130 (0, 0)) := (hgrow.block b hlt (fun e => hne (by rw [← hv, e]))).trans hb
  have hne' : v'.ownBlock ≠ some b := Lib.ownBlock_neF hown hb2 (by decide)
  refine ⟨⟨v', Blk.set_ hb2 1 v', ?_, rfl⟩, ⟨hgrow.os, hgrow.tape, hgrow.output, by simpa [World.setCell] using hgrow.size, fun k hk hkb hkg => ?_, ?_⟩⟩
  · exact hown.kept (row := some b) ⟨rfl, rfl, rfl, by simp [World.setCell], fun k _ hk => Below.heap_setCell _ _ _ _ (fun e => hk (by simp [e]))⟩ (.inr hne')
  · exact (Below.heap_setCell _ _ _ _ hkb).trans (hgrow.block k hk (by rw [hv]; exact hkg))
  · rw [hv] at hf
    exact hf

set_option maxHeartbeats 2000000 in
set_option maxRecDepth 100000 in
theorem Z4g (b : Nat) (g : Option Nat) (l : List UInt8) (s : ByteArray) (w : World) (h : WrS w b g l) (hlen : l.length + s.size ≤ 140737488355328) :
    Calls Tryz.prog 84 #[.pointer (some ⟨b, 0, none⟩), .string s] w fun e w' => e = .returned (.tuple #[.int .i64 s.size, .nilIface]) ∧ ∃ g', WrPS w' b g' (.pointer (some ⟨b, 0, none⟩)) (l ++ s.data.toList) ∧ WroteS w b g g' w' := by
  obtain ⟨i0, hi, hz0, hz1, hz2⟩ := info_parts infoByteS
  have hne := h.ne
  go_enter Tryz.func84, Tryz.ntmps84
  go_wp2_with fail
  refine (Z5o b g l _ h).mono ?_
  rintro e w1 ⟨rfl, h1, k1⟩
  obtain ⟨v, hbk, hown, hg⟩ := h1
  have Hg := Lib.hid hg
  clear hg
  have c0 : w1.cell? ⟨b, 0, none⟩ = some (.pointer (some ⟨b, 0, none⟩)) := Blk.cell hbk 0
  have c1 : w1.cell? ⟨b, 1, none⟩ = some v := Blk.cell hbk 1
  go_wp2_with (at_builtin; refine Z35 _ rfl _ _ 81 9 rfl 0 5 i0 Tryz.underlying81 Tryz.underlying9 hi hz0 hz1 hz2 _ _ _ rfl hown s rfl ?c3 ?c4 ?c5 ?_)
  case c3 => unfold maxLen; omega
  case c4 => omega
  case c5 => omega
  intro v' w2 hown' hgrow hfr
  rw [show Lib.strCells s = Lib.byteCells s.data.toList from rfl, ← Z45] at hown'
  have hown2 : w2.ownsRowF 0 5 1 v' (l ++ s.data.toList).length (Lib.byteCells (l ++ s.data.toList)) := by simpa using hown'
  have hb2 : w2.heap[b]? = some (.cells #[.pointer (some ⟨b, 0, none⟩), v] 130 (0, 0)) := (hgrow.block b (Blk.lt hbk) (fun e => hne (by rw [← Hg.out, e]))).trans hbk
  have d1 : w2.cell? ⟨b, 1, none⟩ = some v := Blk.cell hb2 1
  have f1 : w2.frozen? ⟨b, 1, none⟩ = false := Blk.frozen hb2 1
  obtain ⟨k2, k3⟩ := wr_storeS hbk Hg.out hne hown2 hgrow hfr
  have hex : ∃ ao n' cap, v' = .slice ao n' cap := by
    rcases hown'.2 with ⟨hv, _⟩ | ⟨g, cap, cur, fz, hv, _⟩
    · exact ⟨_, _, _, hv⟩
    · exact ⟨_, _, _, hv⟩
  obtain ⟨ao, n', cap, rfl⟩ := hex
  clear hown' hown2 hgrow hfr hown
  have K2 := Lib.hid k2
  have K3 := Lib.hid (k1.trans k3)
  clear k1 k2 k3
  go_wp2
  go_ret2
  exact ⟨rfl, _, K2.out, K3.out⟩

open Go.RowKit Go.Maps Go.ChangeMaps Go.MapKept Go.WideShapes

/-- A builder. -/
def tWr (b : Nat) (g : Option Nat) (l : List UInt8) : Thing where
  foot := b :: g.toList
  holds := fun w => WrS w b g l
  keep := fun w w' _ h hb => hb.keep (h b (by simp)) (fun k hk => h k (by simp [hk]))
  lt := fun w h i hi => by
    rcases List.mem_cons.1 hi with rfl | hi
    · exact h.lt
    · exact h.own_lt i (by simpa using hi)
/-- A range over a map under way. -/
def tVR (b r n : Nat) (m : Int → Option Value) (left : Int → Bool) (cnt : Nat) : Thing where
  foot := [b, r]
  holds := fun w => VR w b r n m left cnt
  keep := fun w w' _ h hb => hb.same (h b (by simp)) (h r (by simp))
  lt := fun w h i hi => by
    rcases List.mem_cons.1 hi with rfl | hi
    · exact h.vm.lt
    · have : i = r := by simpa using hi
      subst this
      exact h.lt
section
variable {H : Nat} {A w w' : World} {L : List Thing} {b r n k cnt cnt' : Nat} {g g' : Option Nat} {l l' : List UInt8} {m m' : Int → Option Value} {left left' : Int → Bool}
theorem OwnT.asWr (O : OwnT H A (tBlk b 130 #[.pointer none, .slice none 0 0] :: L) w) : OwnT H A (tWr b none [] :: L) w :=
  O.call (F := []) (Chg.refl [] w) (by simp) (tWr b none []) (.inl ⟨.slice none 0 0, O.b0, ⟨rfl, .inl ⟨rfl, rfl⟩⟩, rfl⟩) (fun i hi => .inl (by simpa [tWr, tBlk] using hi))
theorem OwnT.wrote (O : OwnT H A (tWr b g l :: L) w) (h : WrS w' b g' l') (k : WroteS w b g g' w') : OwnT H A (tWr b g' l' :: L) w' := by
  refine O.call (F := b :: g.toList) ⟨k.os, k.tape, k.output, k.size, fun i hi hn => k.block i hi (fun e => hn (by simp [e])) (fun e => hn (by simp [← e]))⟩ (fun i hi => hi) (tWr b g' l') h (fun i hi => ?_)
  rcases List.mem_cons.1 hi with rfl | hi
  · exact .inl (by simp [tWr])
  · rcases k.own with e | ⟨j, e, hj⟩
    · exact .inl (by rw [e] at hi; exact List.mem_cons_of_mem _ hi)
    · exact .inr (by rw [e] at hi; simp at hi; omega)
theorem wr_string (s : List UInt8) (O : OwnT H A (tWr b g l :: L) w) (hlen : l.length + s.length ≤ 140737488355328) :
    Calls Tryz.prog 84 #[.pointer (some ⟨b, 0, none⟩), .string (sB s)] w fun e w' => ∃ g', e = .returned (.tuple #[.int .i64 (sB s).size, .nilIface]) ∧ OwnT H A (tWr b g' (l ++ s) :: L) w' := by
  refine (Z4g b g l (sB s) w O.all.1 (by rw [Z1q]; exact hlen)).mono ?_
  rintro e w' ⟨rfl, g', h1, h2⟩
  exact ⟨g', rfl, O.wrote (.inr h1) h2⟩
theorem wr_end (O : OwnT H A [tWr b g l] w) : Calls Tryz.prog 86 #[.pointer (some ⟨b, 0, none⟩)] w fun e w' => e = .returned (.string (sB l)) ∧ Below H A w' := by
  have hb : H ≤ b := O.high (tWr b g l) (by simp) b (by simp [tWr])
  have hg : ∀ k, g = some k → H ≤ k := fun k hk => O.high (tWr b g l) (by simp) k (by simp [tWr, hk])
  have hlen : (Lib.byteCells l).length = l.length := by simp [Lib.byteCells]
  have hF : ∀ p, WrPS w b g p l → Lib.BuilderAtF 130 5 H b p (Lib.byteCells l) w := by
    rintro p ⟨v, h1, h2, h3⟩
    refine ⟨hb, v, h1, ?_, Lib.ownBlock_neF h2 h1 (by decide)⟩
    rw [hlen]
    refine ⟨h2.1, ?_⟩
    rcases h2.2 with hn | ⟨g', cap, cur, fz, rfl, _, rest⟩
    · exact .inl hn
    · exact .inr ⟨g', cap, cur, fz, rfl, hg g' h3.symm, rest⟩
  have hA : Lib.IsBuilderF 130 5 H b (Lib.byteCells l) w := (O.all.1 : WrS w b g l).elim (fun h => .inl (hF _ h)) (fun h => .inr (hF _ h))
  refine (Tryz.Builder_String_any_f H b l w hA O.size).mono ?_
  rintro e w' ⟨rfl, _, h2⟩
  exact ⟨rfl, O.below.trans h2⟩
theorem OwnT.mapSet (O : OwnT H A (tMap b k m :: L) w) (hv : VM w' b n m') (hC : Chg [b] w w') : OwnT H A (tMap b n m' :: L) w' :=
  O.call hC (fun i hi => by simpa [tMap] using hi) (tMap b n m') hv (fun i hi => .inl hi)
theorem OwnT.rangeOn (O : OwnT H A (tMap b n m :: L) w) (hr : VR w' b w.heap.size n m left cnt) (hE : Ext w w') : OwnT H A (tVR b w.heap.size n m left cnt :: L) w' :=
  O.call (F := []) (Chg.of_ext hE []) (by simp) (tVR b w.heap.size n m left cnt) hr (fun i hi => by
    rcases List.mem_cons.1 hi with rfl | hi
    · exact .inl (by simp [tMap])
    · exact .inr (by simp at hi; omega))
theorem OwnT.rangeNext (O : OwnT H A (tVR b r n m left cnt :: L) w) (hr : VR w' b r n m left' cnt') (hC : Chg [r] w w') : OwnT H A (tVR b r n m left' cnt' :: L) w' :=
  O.call hC (fun i hi => by simp at hi; subst hi; simp [tVR]) (tVR b r n m left' cnt') hr (fun i hi => .inl hi)
theorem OwnT.rangeEnd (O : OwnT H A (tVR b r n m left cnt :: L) w) : OwnT H A (tMap b n m :: L) w :=
  O.call (F := []) (Chg.refl [] w) (by simp) (tMap b n m) (VR.vm (O.all.1 : VR w b r n m left cnt)) (fun i hi => .inl (by simp [tMap] at hi; simp [tVR, hi]))
theorem Z7p (h : VM w b n m) (t e ty : TypeId) (ht : Tryz.prog.underlying t = some (.map 3 e)) : ∃ w', (Builtin.clear_ #[t] ty #[.map (some b)]).run Tryz.prog w = .ok (.tuple #[]) w' ∧ VM w' b 0 (fun _ => none) ∧ Chg [b] w w' := by
  obtain ⟨D, ⟨es, clock, hb, F, hs, rfl⟩, h2⟩ := h
  have hlt : b < w.heap.size := (Array.getElem?_eq_some_iff.1 hb).1
  have hn : (setBlock w b (.map #[] clock)).heap[b]? = some (.map #[] clock) := by simp [setBlock, hlt]
  refine ⟨_, Z6p w t 3 e ty b es clock ht hb, ⟨.map [], ⟨#[], clock, hn, ⟨by simp, stamped_empty clock, by simp⟩, Nat.le_refl _, rfl⟩, fun _ _ => ⟨fun _ => rfl, rfl⟩⟩, ⟨rfl, rfl, rfl, by simp [setBlock], fun i hi hne => ?_⟩⟩
  have : b ≠ i := fun e => hne (by simp [e])
  simp [setBlock, Array.getElem?_setIfInBounds_ne this]
end
section
variable {H : Nat} {A w w' : World} {L R : List Thing} {X Y Z : Thing} {b n k mb : Nat} {m m' : Int → Option Value} {M : Mn} {c : Int}
theorem Z6j (O : OwnT H A (X :: tMn mb M :: R) w) (hM : M.Ok c) (hk : c ≤ 1000000000000000000) :
    Calls Tryz.prog 80 #[.pointer (some ⟨mb, 0, none⟩)] w fun e w' => e = .returned (.int .i64 (if M.up then 0 else 4)) ∧ OwnT H A (X :: tMn mb M.use :: R) w' :=
  (use_mn (O.perm (.swap _ _ _)) hM hk).mono fun _ _ h => ⟨h.1, h.2.perm (.swap _ _ _)⟩
theorem OwnT.mapSet2 (O : OwnT H A (X :: Y :: tMap b k m :: R) w) (hv : VM w' b n m') (hC : Chg [b] w w') : OwnT H A (X :: Y :: tMap b n m' :: R) w' :=
  OwnT.push (L := X :: Y :: tMap b k m :: R) 2 rfl ((OwnT.pull O 2 rfl).mapSet hv hC)
theorem OwnT.setRow1_1 {T : TypeId} {g cap : Nat} {xs : List Value} (O : OwnT H A (X :: tRow T 1 (.slice (some ⟨g, 0, none⟩) n cap) n xs :: R) w) {i : Nat} (hi : i < n) (u : Value) : OwnT H A (X :: tRow T 1 (.slice (some ⟨g, 0, none⟩) n cap) n (xs.set i u) :: R) (w.setCell ⟨g, i, none⟩ u) :=
  ((O.perm (.swap _ _ _)).setRow1 hi u).perm (.swap _ _ _)
end
section
variable {w : World} {b r n cnt : Nat} {m : Int → Option Value} {left : Int → Bool}
/-- The next round of a range, or its end. -/
theorem VR.next (h : VR w b r n m left cnt) (ty : TypeId) : ((∀ i, wfV i → left i = false) ∧ (Instr.next (.pointer (some ⟨r, 0, none⟩)) false ty).run Tryz.prog w = .ok (.tuple #[.bool false]) w) ∨
    ∃ (x : Int) (c : Value) (w' : World) (cnt' : Nat), wfV x ∧ left x = true ∧ m x = some c ∧ VR w' b r n m (fun i => left i && !decide (i = x)) cnt' ∧ cnt' < cnt ∧ Chg [r] w w' ∧ w'.heap.size = w.heap.size ∧
      (Instr.entry (.pointer (some ⟨r, 0, none⟩))).run Tryz.prog w' = .ok (.tuple #[.int .i64 x, c]) w' ∧ (Instr.next (.pointer (some ⟨r, 0, none⟩)) false ty).run Tryz.prog w = .ok (.tuple #[.bool true, .int .i64 x, c]) w' := by
  obtain ⟨D, l, h1, h2, h3⟩ := h
  rcases h1.next Z1s ty with ⟨_, hl, hrun⟩ | ⟨key, v, kl, y, w', cnt', hkey, hlk, hv, hat, hrun, hrg, hlt, hgr, hsz, hen⟩
  · exact .inl ⟨fun i hi => by rw [← h3 i hi]; exact hl _, hrun⟩
  · obtain ⟨x, rfl, rfl, hwx⟩ := Maps.keyOf_int_inv Tryz.underlying3 hkey
    unfold heldE at hv
    injection hv with hv
    subst hv
    refine .inr ⟨x, v, w', cnt', hwx, by rw [← h3 x hwx]; exact hlk, ?_, ⟨D, _, hrg, h2, fun i hi => ?_⟩, hlt, Chg.of_grown hgr, hsz, hen, hrun⟩
    · have h4 := (h2 x hwx).1
      cases hmx : m x with
      | none =>
        rw [hmx] at h4
        have e1 := (h4 (.lit (.bool true))).symm.trans (hat _)
        simp [orV] at e1
      | some v' =>
        rw [hmx] at h4
        have e1 := (h4 (.lit (.bool true))).symm.trans (hat _)
        simp [orV] at e1
        rw [e1]
    · rw [h3 i hi]
      by_cases e : i = x
      · subst e
        rw [WideAt.sameKey_self (keyV i)]
        simp
      · rw [sameKey_ne (Z44 e)]
        simp [e]
theorem x_next {o : Oper} {ρ : Operand → Value} {x : Operand} {v p : Value} {w' : World} (ho : o.op = .next x false) (hx : ρ x = p) (h : (Instr.next p false o.type).run Tryz.prog w = .ok v w') : (execOp ρ o).run Tryz.prog w = .ok (.value v) w' := by
  simp [execOp, ho, hx, h]
theorem x_entry {o : Oper} {ρ : Operand → Value} {x : Operand} {v p : Value} (ho : o.op = .entry x) (hx : ρ x = p) (h : (Instr.entry p).run Tryz.prog w = .ok v w) : (execOp ρ o).run Tryz.prog w = .ok (.value v) w := by
  simp [execOp, ho, hx, h]
theorem x_clear {o : Oper} {ρ : Operand → Value} {x : Operand} {t : TypeId} {p v : Value} {w' : World} (ho : o.op = .call { callee := .builtin .clear, args := #[x], argTypes := #[t] }) (hx : ρ x = p) (h : (Builtin.clear_ #[t] o.type #[p]).run Tryz.prog w = .ok v w') : (execOp ρ o).run Tryz.prog w = .ok (.value v) w' := by
  unfold execOp
  simp only [ho, resolve, invoke, builtin, Sem.run_bind, Sem.run_pure, Result.andThen_ok, List.map_toArray, List.map_cons, List.map_nil, hx, h]
end
section
variable {H : Nat} {A w w' : World} {R : List Thing} {X Y : Thing} {b r n cnt cnt' : Nat} {m : Int → Option Value} {left left' : Int → Bool}
theorem OwnT.rangeOn2 (O : OwnT H A (X :: Y :: tMap b n m :: R) w) (hr : VR w' b w.heap.size n m left cnt) (hE : Ext w w') : OwnT H A (X :: Y :: tVR b w.heap.size n m left cnt :: R) w' :=
  OwnT.push (L := X :: Y :: tMap b n m :: R) 2 rfl ((OwnT.pull O 2 rfl).rangeOn hr hE)
theorem OwnT.rangeNext2 (O : OwnT H A (X :: Y :: tVR b r n m left cnt :: R) w) (hr : VR w' b r n m left' cnt') (hC : Chg [r] w w') : OwnT H A (X :: Y :: tVR b r n m left' cnt' :: R) w' :=
  OwnT.push (L := X :: Y :: tVR b r n m left cnt :: R) 2 rfl ((OwnT.pull O 2 rfl).rangeNext hr hC)
theorem OwnT.rangeEnd2 (O : OwnT H A (X :: Y :: tVR b r n m left cnt :: R) w) : OwnT H A (X :: Y :: tMap b n m :: R) w :=
  OwnT.push (L := X :: Y :: tVR b r n m left cnt :: R) 2 rfl (OwnT.rangeEnd (OwnT.pull O 2 rfl))
end
/-! Plain. -/
def secOf (l : List UInt8) (j : Nat) : Sec := (l.drop (16 * j)).take 16
def secsL (l : List UInt8) (k : Nat) : List Sec := (List.range k).map (secOf l)
theorem Z7b {l : List UInt8} {j : Nat} (h : 16 * (j + 1) ≤ l.length) : (secOf l j).length = 16 := by
  unfold secOf
  rw [List.length_take, List.length_drop]
  omega
theorem Z7a (l : List UInt8) (k : Nat) : (secsL l k).length = k := by simp [secsL]
theorem secsL_succ (l : List UInt8) (k : Nat) : secsL l (k + 1) = secsL l k ++ [secOf l k] := by simp [secsL, List.range_succ]
theorem secsL_at {l : List UInt8} {k j : Nat} (h : j < k) : (secsL l k)[j]? = some (secOf l j) := by simp [secsL, h]
theorem strsV_app (S T : List Sec) : strsV (S ++ T) = strsV S ++ strsV T := by simp [strsV]
theorem strsV_set (S : List Sec) (i : Nat) (s : Sec) : strsV (S.set i s) = (strsV S).set i (.string (sB s)) := by simp [strsV, List.map_set]
/-- Used j times. -/
def Mn.useN (M : Mn) : Nat → Mn
  | 0 => M
  | j + 1 => (M.useN j).use
theorem Mn.Ok.useN {M : Mn} {k : Int} (h : M.Ok k) (j : Nat) : (M.useN j).Ok (k + j) := by
  induction j with
  | zero => exact h.mono (by omega)
  | succ j ih => exact ih.use.mono (by omega)
/-- The first j sectors of a text are written from x on. -/
def wrS (l : List UInt8) (x : Int) (L : Int → Option Sec) : Nat → Int → Option Sec
  | 0 => L
  | j + 1 => putS (wrS l x L j) (x + j) (secOf l j)
theorem Z48 (l : List UInt8) (x : Int) (L : Int → Option Sec) (j : Nat) (i : Int) : wrS l x L j i = if x ≤ i ∧ i < x + j then some (secOf l (i - x).toNat) else L i := by
  induction j with
  | zero => rw [if_neg (by omega)]; rfl
  | succ j ih =>
    unfold wrS putS
    by_cases e : i = x + j
    · subst e
      rw [if_pos rfl, if_pos (by omega)]
      congr 2
      omega
    · rw [if_neg e, ih]
      by_cases h : x ≤ i ∧ i < x + j
      · rw [if_pos h, if_pos (by omega)]
      · rw [if_neg h, if_neg (by omega)]
theorem DOk.wr {n : Nat} {S : List Sec} {L : Int → Option Sec} (h : DOk n S L) {l : List UInt8} {x : Int} {j : Nat} (h0 : 0 ≤ x) (h1 : x + j ≤ n) (h2 : 16 * j ≤ l.length) : DOk n S (wrS l x L j) := by
  refine ⟨h.le, h.len, h.sz, fun i s hs => ?_⟩
  rw [Z48] at hs
  split at hs
  · rename_i hi
    injection hs with hs
    subst hs
    exact ⟨by omega, Z7b (by omega)⟩
  · exact h.rng i s hs
/-- All sectors as they are read. -/
def nowL (S : List Sec) (L : Int → Option Sec) : List Sec := (List.range S.length).map fun (i : Nat) => nowAt S L i
theorem Z2f (S : List Sec) (L : Int → Option Sec) : (nowL S L).length = S.length := by simp [nowL]
theorem nowL_at {S : List Sec} {L : Int → Option Sec} {i : Nat} (h : i < S.length) : (nowL S L)[i]? = some (nowAt S L i) := by simp [nowL, h]
theorem Z5a {n : Nat} {S : List Sec} {L : Int → Option Sec} (h : DOk n S L) {i : Nat} (hi : i < n) : (nowAt S L i).length = 16 := by
  unfold nowAt
  cases hL : L i with
  | some s => exact (h.rng i s hL).2
  | none =>
    have : i < S.length := by have := h.len; omega
    simp only [Option.getD_none, Int.toNat_natCast, List.getD, List.getElem?_eq_getElem this, Option.getD_some]
    exact h.sz _ (List.getElem_mem this)
theorem DOk.flush {n : Nat} {S : List Sec} {L : Int → Option Sec} (h : DOk n S L) : DOk n (nowL S L) (fun _ => none) := by
  refine ⟨h.le, by rw [Z2f]; exact h.len, fun s hs => ?_, fun i s e => by cases e⟩
  obtain ⟨i, hi, rfl⟩ := List.mem_map.1 hs
  exact Z5a h (by have := h.len; simpa [this] using hi)
/-- A flush under way. -/
def mixL (S : List Sec) (L : Int → Option Sec) (left : Int → Bool) : List Sec := (List.range S.length).map fun (i : Nat) => if left i then S.getD i [] else nowAt S L i
theorem Z3h (S : List Sec) (L : Int → Option Sec) (left : Int → Bool) : (mixL S L left).length = S.length := by simp [mixL]
theorem mixL_start (S : List Sec) (L : Int → Option Sec) : mixL S L (fun i => (looV L i).isSome) = S := by
  apply List.ext_getElem?
  intro i
  by_cases h : i < S.length
  · unfold mixL
    simp only [List.getElem?_map, List.getElem?_range h, Option.map_some, looV_is, List.getElem?_eq_getElem h]
    cases hL : L i with
    | none => simp [nowAt, hL, h]
    | some s => simp [h]
  · rw [List.getElem?_eq_none (by rw [Z3h]; omega), List.getElem?_eq_none (by omega)]
theorem mixL_end {S : List Sec} {L : Int → Option Sec} {left : Int → Bool} (hn : S.length ≤ 16384) (h : ∀ i, wfV i → left i = false) : mixL S L left = nowL S L := by
  unfold mixL nowL
  refine List.map_congr_left fun i hi => ?_
  have : i < S.length := by simpa using hi
  rw [h i (Z4u (by omega) (by omega))]
  rfl
theorem mixL_step {S : List Sec} {L : Int → Option Sec} {left : Int → Bool} {x : Nat} {s : Sec} (hL : L x = some s) : (mixL S L left).set x s = mixL S L (fun i => left i && !decide (i = (x : Int))) := by
  apply List.ext_getElem?
  intro i
  by_cases h : i < S.length
  · by_cases e : x = i
    · subst e
      rw [List.getElem?_set_self (by rw [Z3h]; exact h)]
      simp [mixL, h, nowAt, hL]
    · rw [List.getElem?_set_ne e]
      have e' : ¬ ((i : Int) = (x : Int)) := by omega
      simp [mixL, h, e']
  · rw [List.getElem?_eq_none (by rw [List.length_set, Z3h]; omega), List.getElem?_eq_none (by rw [Z3h]; omega)]
/-- What is read from x on. -/
def readL (S : List Sec) (L : Int → Option Sec) (x k : Nat) : List UInt8 := ((List.range k).map fun j => nowAt S L ((x + j : Nat) : Int)).flatten
theorem Z2s (S : List Sec) (L : Int → Option Sec) (x k : Nat) : readL S L x (k + 1) = readL S L x k ++ nowAt S L ((x + k : Nat) : Int) := by simp [readL, List.range_succ]
theorem Z39 {n : Nat} {S : List Sec} {L : Int → Option Sec} (h : DOk n S L) {x k : Nat} (hk : x + k ≤ n) : (readL S L x k).length = 16 * k := by
  induction k with
  | zero => rfl
  | succ k ih => rw [Z2s, List.length_append, ih (by omega), Z5a h (by omega)]; omega
/-- Bit k of a byte, as Go's text makes it. -/
def bitI (c : UInt8) (k : Nat) : Int := IntKind.u8.wrap ((BitVec.ofInt 8 ((c.toNat : Int).fdiv (2 ^ k)) &&& BitVec.ofInt 8 1).toNat : Nat)
/-- Whether the loose sector of a number stays. -/
def staysB (q : List UInt8) (i : Nat) : Bool := decide (q ≠ []) && decide (bitI (q.getD (i / 8 % q.length) 0) (i % 8) = 1)
section
variable {w : World} {o : Oper} {ρ : Operand → Value} {t u : TypeId} {x y : Operand}
end
def setK (q : List UInt8) (L : Int → Option Sec) : List Int → Nat → List Sec → List Sec
  | [], _, S => S
  | x :: r, j, S => setK q L r (j + 1) (if staysB q j then S.set x.toNat ((L x).getD []) else S)
end Go.Proofs.YtakkhglbdljfiaaGreatDoor
