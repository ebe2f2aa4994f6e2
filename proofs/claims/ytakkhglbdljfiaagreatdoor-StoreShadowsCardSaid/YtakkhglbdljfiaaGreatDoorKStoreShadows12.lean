/- disc: stays, Settle, Of (printed by XDiscD.gen.py). -/
import Derived.Test.YtakkhglbdljfiaaGreatDoorKStoreShadows10
import Derived.Test.YtakkhglbdljfiaaGreatDoorKStoreShadows11
namespace Go.Proofs.YtakkhglbdljfiaaGreatDoor
attribute [local simp] BigFrame.eval_const BigFrame.eval_global BigFrame.eval_func
set_option linter.unusedVariables false
set_option linter.unusedSimpArgs false
open Go.RowKit Go.Maps

theorem DOk.none {n : Nat} {S : List Sec} {L : Int → Option Sec} (h : DOk n S L) : DOk n S (fun _ => Option.none) := ⟨h.le, h.len, h.sz, fun i s e => by cases e⟩
theorem rowE_of {E : Type} {enc : E → List Value} {k : Nat} (hk : ∀ x, (enc x).length = k) (hk0 : 0 < k) {w : World} {base n cap : Nat} {T : TypeId} {B : Option Addr} {X : List E} (h : w.ownsRow base T k (.slice B n cap) n (X.flatMap enc)) : Row w B k enc X := by
 obtain ⟨B', cap', e, _, _, _, hR⟩ := Z2t hk hk0 h
 cases e
 exact hR
section
variable {H : Nat} {A w : World} {X Y Z : Thing} {R : List Thing}
end
theorem elemS : ElemI Tryz.prog 111 9 1 16 := ⟨Tryz.underlying111, by
 have h : (Tryz.prog.info? 9).map (fun i => (i.zero, i.size, i.bytes)) = some (some (.string (sB [])), 1, 16) := by kernel_rfl
 obtain ⟨i, h1, h2, h3, h4⟩ := info_parts h
 exact ⟨i, _, h1, h2, h3, h4, rfl⟩⟩

end Go.Proofs.YtakkhglbdljfiaaGreatDoor
