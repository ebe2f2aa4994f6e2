/- Regions by facts: an operation guarded by one that was skipped. -/
import Derived.Test.YtencbdcfcpohaaaDoorKLeafBack11
namespace Go.Proofs.YtencbdcfcpohaaaDoor
set_option linter.unusedVariables false
set_option linter.unusedSimpArgs false
open Go.RowKit

theorem mem4 {α : Type} {x a b c d : α} {l : List α} (h : x ∈ l) : x ∈ a :: b :: c :: d :: l := .tail _ (.tail _ (.tail _ (.tail _ h)))
theorem mem16 {α : Type} {x a0 a1 a2 a3 a4 a5 a6 a7 a8 a9 b0 b1 b2 b3 b4 b5 : α} {l : List α} (h : x ∈ l) : x ∈ a0 :: a1 :: a2 :: a3 :: a4 :: a5 :: a6 :: a7 :: a8 :: a9 :: b0 :: b1 :: b2 :: b3 :: b4 :: b5 :: l := mem4 (mem4 (mem4 (mem4 h)))
section
variable {P : Program} {R : World → World → Prop} {ops : Array Oper} {w0 : World} {a0 : Act} {D : List Tmp} {A : List (List Nat)} {G : List (Nat × TFact R) → Prop} {k : Nat} {o : Oper} {os : List Oper} {done : List (Nat × TFact R)}
theorem wanted_undef {a : Act} {j dj : Nat} {b : Bool} (hg : o.guard = some (j, b)) (hj : (ops[j]?).bind (·.dst) = some dj) (he : a.eval (.tmp dj) = undef) : Region.wanted o (yielded ops a.tmps) = false := by
  have h : yielded ops a.tmps j = none := by
    unfold yielded
    rw [hj]
    rw [eval_tmp, Array.getD_eq_getD_getElem?] at he
    cases hx : a.tmps[dj]? with
    | none => simp [hx]
    | some x =>
      rw [hx] at he
      have he : x = undef := he
      subst he
      simp [hx]
      rfl
  unfold Region.wanted
  rw [hg]
  simp [h]
/-- One that is guarded by an operation that was not wanted. -/
theorem Build.skipu (d : Tmp) {j dj : Nat} {b : Bool} (hd : o.dst = some d) (hn : Nat.blt d a0.tmps.size = true) (hg : o.guard = some (j, b)) (hj : (ops[j]?).bind (·.dst) = some dj)
    (h : ∀ a w, Env a0 D a → R w0 w → (∀ (i : Nat) (S' : TFact R), i ∈ A.getD k [] → (i, S') ∈ done → S'.T a w) → a.eval (.tmp dj) = undef)
    (hr : Build P ops R w0 a0 D A G (k + 1) os ((k, Proofs.YtencbdcfcpohaaaDoor.det d undef) :: done)) : Build P ops R w0 a0 D A G k (o :: os) done :=
  .step _ (fun a w hE hR hF => opT_skip hd (by rw [hE.size]; exact Nat.le_of_ble_eq_true hn) (wanted_undef hg hj (h a w hE hR hF))) hr
theorem BuildR.skipu {I : (Nat → Bool) → World → Prop} (d : Tmp) {j dj : Nat} {b : Bool} (hI : ∀ l w, I l w → I (upd l k) w) (hd : o.dst = some d) (hn : Nat.blt d a0.tmps.size = true) (hg : o.guard = some (j, b)) (hj : (ops[j]?).bind (·.dst) = some dj)
    (h : ∀ l a w, Env a0 D a → I l w → (∀ (i : Nat) (S' : TFact R), i ∈ A.getD k [] → (i, S') ∈ done → S'.T a w) → a.eval (.tmp dj) = undef)
    (hr : BuildR P R ops I a0 D A G (k + 1) os ((k, Proofs.YtencbdcfcpohaaaDoor.det d undef) :: done)) : BuildR P R ops I a0 D A G k (o :: os) done :=
  .step _ (fun l a w hE hR _ _ hF => .inr ⟨wanted_undef hg hj (h l a w hE hR hF), hI l w hR, by rw [hd]; exact eval_put (by rw [hE.size]; exact Nat.le_of_ble_eq_true hn)⟩) hr
end
end Go.Proofs.YtencbdcfcpohaaaDoor
