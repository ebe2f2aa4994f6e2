/- leaf: pairs, rise. -/
import Derived.Test.YtakkhglbdljfiaaGreatDoorKStoreShadows01
import Derived.Test.YtakkhglbdljfiaaGreatDoorKStoreShadows05
import Derived.Test.YtakkhglbdljfiaaGreatDoorKStoreShadows02
namespace Go.Proofs.YtakkhglbdljfiaaGreatDoor
attribute [local simp] BigFrame.eval_const BigFrame.eval_global BigFrame.eval_func
set_option linter.unusedVariables false
set_option linter.unusedSimpArgs false
open Go.RowKit

def pairC (x : Nat × Nat) : List Value := [.int .u64 x.1, .int .u64 x.2]
def keyAt (xs : List (Nat × Nat)) (i : Nat) : Nat := (xs.getD i (0, 0)).1
def riseB (xs : List (Nat × Nat)) : Bool := decide (∀ i, i < xs.length → i + 1 < xs.length → keyAt xs i < keyAt xs (i + 1))
theorem Row.pair_in {w w' : World} {A : Option Addr} {xs : List (Nat × Nat)} (h : Row w A 2 pairC xs) (hb : Below w.heap.size w w') {j : Nat} (hj : j < xs.length) :
    ∃ b o, A = some ⟨b, o, none⟩ ∧ b < w.heap.size ∧ w'.cell? ⟨b, o + j * 2, none⟩ = some (.int .u64 xs[j].1) ∧ w'.cell? ⟨b, o + j * 2 + 1, none⟩ = some (.int .u64 xs[j].2) := by
  obtain ⟨b, o, hA, hlt, hc⟩ := h.in_ hb hj
  exact ⟨b, o, hA, hlt, hc 0 _ rfl, hc 1 _ rfl⟩
theorem Row.key_at {w w' : World} {b o : Nat} {xs : List (Nat × Nat)} (h : Row w (some ⟨b, o, none⟩) 2 pairC xs) (hb : Below w.heap.size w w') {j : Nat} (hj : j < xs.length) : w'.cell? ⟨b, o + j * 2, none⟩ = some (.int .u64 (keyAt xs j)) := by
  obtain ⟨b', o', he, _, hc, _⟩ := h.pair_in hb hj
  cases he
  rw [hc]
  simp [keyAt, List.getD, hj]

set_option maxHeartbeats 1000000 in
theorem rise_any (A : Option Addr) (len cap : Nat) (xs : List (Nat × Nat)) (w : World) (hlen : xs.length = len) (hm : len ≤ 1000000) (hrow : Row w A 2 pairC xs) (hx : ∀ x ∈ xs, x.1 < 18446744073709551616) :
    Calls Tryz.prog 87 #[.slice A len cap] w fun e w' => e = .returned (.bool (riseB xs)) ∧ Ext w w' := by
  have hk : ∀ j, keyAt xs j < 18446744073709551616 := by
    intro j
    unfold keyAt
    by_cases hj : j < xs.length
    · have := hx _ (List.getElem_mem hj); simpa [List.getD, hj] using this
    · simp [List.getD, hj]
  have HK := Lib.hid hk
  clear hk hx
  go_enter Tryz.func87, Tryz.ntmps87
  go_wp2_with fail
  go_loopw [3] (fun i wr => ∃ j : Nat, i = .int .i64 ((j + 1 : Nat) : Int) ∧ (j + 1 ≤ len ∨ j = 0) ∧ Ext w wr ∧ Hid (∀ i, i < j → i + 1 < xs.length → keyAt xs i < keyAt xs (i + 1))) (fun i _ => len - (intOf i).toNat)
  case atStart => exact ⟨0, rfl, .inr rfl, Ext.refl _, fun i hi => absurd hi (by omega)⟩
  case round =>
    obtain ⟨j, rfl, hj, hEx, HJ⟩ := hrel
    by_cases hlt : j + 1 < len
    · obtain ⟨b0, o0, rfl, hlt0, -, -⟩ := hrow.pair_in hEx (show j < xs.length by omega)
      have HQ := Lib.hid (fun (W : World) (h : Ext wr W) => And.intro (hrow.key_at (hEx.trans h) (show j < xs.length by omega)) (hrow.key_at (hEx.trans h) (show j + 1 < xs.length by omega)))
      have h1 := HK.out j
      have h2 := HK.out (j + 1)
      have HJ1 := Lib.hid (show ∀ i, i < j + 1 → i + 1 < xs.length → (keyAt xs j < keyAt xs (j + 1)) → keyAt xs i < keyAt xs (i + 1) from fun i hi hl hh => by
        by_cases e : i = j
        · subst e; exact hh
        · exact HJ.out i (by omega) hl)
      have HN := Lib.hid (show ¬ keyAt xs j < keyAt xs (j + 1) → riseB xs = false from fun hh => by
        unfold riseB
        rw [decide_eq_false_iff_not]
        exact fun h => hh (h j (by omega) (by omega)))
      generalize keyAt xs j = k0 at HQ h1 HJ1 HN
      generalize keyAt xs (j + 1) = k1 at HQ h2 HJ1 HN
      have hsub : IntKind.i64.wrap (((j + 1 : Nat) : Int) - 1) = (j : Int) := by rw [IntWalk.i64_in _ (by omega)]; omega
      have hsub2 : IntKind.i64.wrap (j : Int) = (j : Int) := IntWalk.i64_in _ (by omega)
      go_upto_region 4 with fail
      refine Z1s (R := Ext) (w0 := wr) [[], [], [1], [0, 1, 2], [0, 1, 2, 3], [0, 1, 2, 3, 4], [], [], [6, 7], [6, 7, 8], [6, 7, 8, 9], [0, 1, 2, 3, 4, 5, 6, 7, 8, 9, 10]] [10, 11, 12, 13, 14, 15, 16, 17, 18, 19, 20, 21] Ext.refl (fun _ _ _ => Ext.trans) (Ext.drew _) (by kernel_rfl) ?_
      apply Build.det 10 Ext.refl (by rfl) (by rfl) rfl
      case h =>
        intro ax wx hE hR hF
        have e0 : ax.eval (.tmp 0) = .slice (some ⟨b0, o0, none⟩) len cap := hE.eval 0 (by rfl) rfl
        simp [go_sem, ↓IntWalk.iteOmega, ev e0, hsub, hsub2]
        with_reducible rfl
      apply Build.det 11 Ext.refl (by rfl) (by rfl) rfl
      case h =>
        intro ax wx hE hR hF
        have e3 : ax.eval (.tmp 3) = .int .i64 ((j + 1 : Nat) : Int) := hE.eval 3 (by rfl) rfl
        simp [go_sem, ↓IntWalk.iteOmega, ev e3, hsub, hsub2]
        with_reducible rfl
      apply Build.det 12 Ext.refl (by rfl) (by rfl) rfl
      case h =>
        intro ax wx hE hR hF
        have e11 := hF 1 (det 11 _) (by decide) (.head _)
        simp [go_sem, ↓IntWalk.iteOmega, ev e11, hsub, hsub2]
        with_reducible rfl
      apply Build.det 13 Ext.refl (by rfl) (by rfl) rfl
      case h =>
        intro ax wx hE hR hF
        have e10 := hF 0 (det 10 _) (by decide) (.tail _ (.tail _ (.head _)))
        have e12 := hF 2 (det 12 _) (by decide) (.head _)
        simp [go_sem, ↓IntWalk.iteOmega, ev e10, ev e12, hsub, hsub2]
        with_reducible rfl
      apply Build.det 14 Ext.refl (by rfl) (by rfl) rfl
      case h =>
        intro ax wx hE hR hF
        have e13 := hF 3 (det 13 _) (by decide) (.head _)
        simp [go_sem, ↓IntWalk.iteOmega, ev e13, hsub, hsub2]
        with_reducible rfl
      apply Build.det 15 Ext.refl (by rfl) (by rfl) rfl
      case h =>
        intro ax wx hE hR hF
        have e14 := hF 4 (det 14 _) (by decide) (.head _)
        have q0 := (HQ.out _ hR).1; have q1 := (HQ.out _ hR).2
        simp [go_sem, ↓IntWalk.iteOmega, ev e14, hsub, hsub2, q0, q1]
        with_reducible rfl
      apply Build.det 16 Ext.refl (by rfl) (by rfl) rfl
      case h =>
        intro ax wx hE hR hF
        have e0 : ax.eval (.tmp 0) = .slice (some ⟨b0, o0, none⟩) len cap := hE.eval 0 (by rfl) rfl
        simp [go_sem, ↓IntWalk.iteOmega, ev e0, hsub, hsub2]
        with_reducible rfl
      apply Build.det 17 Ext.refl (by rfl) (by rfl) rfl
      case h =>
        intro ax wx hE hR hF
        have e3 : ax.eval (.tmp 3) = .int .i64 ((j + 1 : Nat) : Int) := hE.eval 3 (by rfl) rfl
        simp [go_sem, ↓IntWalk.iteOmega, ev e3, hsub, hsub2]
        with_reducible rfl
      apply Build.det 18 Ext.refl (by rfl) (by rfl) rfl
      case h =>
        intro ax wx hE hR hF
        have e16 := hF 6 (det 16 _) (by decide) (.tail _ (.head _))
        have e17 := hF 7 (det 17 _) (by decide) (.head _)
        simp [go_sem, ↓IntWalk.iteOmega, ev e16, ev e17, hsub, hsub2]
        with_reducible rfl
      apply Build.det 19 Ext.refl (by rfl) (by rfl) rfl
      case h =>
        intro ax wx hE hR hF
        have e18 := hF 8 (det 18 _) (by decide) (.head _)
        simp [go_sem, ↓IntWalk.iteOmega, ev e18, hsub, hsub2]
        with_reducible rfl
      apply Build.det 20 Ext.refl (by rfl) (by rfl) rfl
      case h =>
        intro ax wx hE hR hF
        have e19 := hF 9 (det 19 _) (by decide) (.head _)
        have q0 := (HQ.out _ hR).1; have q1 := (HQ.out _ hR).2
        simp [go_sem, ↓IntWalk.iteOmega, ev e19, hsub, hsub2, q0, q1]
        with_reducible rfl
      apply Build.det 21 Ext.refl (by rfl) (by rfl) rfl
      case h =>
        intro ax wx hE hR hF
        have e15 := hF 5 (det 15 _) (by decide) (.tail _ (.tail _ (.tail _ (.tail _ (.tail _ (.head _))))))
        have e20 := hF 10 (det 20 _) (by decide) (.head _)
        simp [go_sem, ↓IntWalk.iteOmega, ev e15, ev e20, hsub, hsub2]
        with_reducible rfl
      apply Build.stop
      refine ⟨by kernel_rfl, .inl ⟨rfl, ?_⟩⟩
      intro ax w2 hE R2 hF
      have e10 := hF 0 (det 10 _) (.tail _ (.tail _ (.tail _ (.tail _ (.tail _ (.tail _ (.tail _ (.tail _ (.tail _ (.tail _ (.tail _ (.head _))))))))))))
      have e11 := hF 1 (det 11 _) (.tail _ (.tail _ (.tail _ (.tail _ (.tail _ (.tail _ (.tail _ (.tail _ (.tail _ (.tail _ (.head _)))))))))))
      have e12 := hF 2 (det 12 _) (.tail _ (.tail _ (.tail _ (.tail _ (.tail _ (.tail _ (.tail _ (.tail _ (.tail _ (.head _))))))))))
      have e13 := hF 3 (det 13 _) (.tail _ (.tail _ (.tail _ (.tail _ (.tail _ (.tail _ (.tail _ (.tail _ (.head _)))))))))
      have e14 := hF 4 (det 14 _) (.tail _ (.tail _ (.tail _ (.tail _ (.tail _ (.tail _ (.tail _ (.head _))))))))
      have e15 := hF 5 (det 15 _) (.tail _ (.tail _ (.tail _ (.tail _ (.tail _ (.tail _ (.head _)))))))
      have e16 := hF 6 (det 16 _) (.tail _ (.tail _ (.tail _ (.tail _ (.tail _ (.head _))))))
      have e17 := hF 7 (det 17 _) (.tail _ (.tail _ (.tail _ (.tail _ (.head _)))))
      have e18 := hF 8 (det 18 _) (.tail _ (.tail _ (.tail _ (.head _))))
      have e19 := hF 9 (det 19 _) (.tail _ (.tail _ (.head _)))
      have e20 := hF 10 (det 20 _) (.tail _ (.head _))
      have e21 := hF 11 (det 21 _) (.head _)
      rw [AllEq.frame (D := [10, 11, 12, 13, 14, 15, 16, 17, 18, 19, 20, 21]) (AllEq.cons e10 (AllEq.cons e11 (AllEq.cons e12 (AllEq.cons e13 (AllEq.cons e14 (AllEq.cons e15 (AllEq.cons e16 (AllEq.cons e17 (AllEq.cons e18 (AllEq.cons e19 (AllEq.cons e20 (AllEq.cons e21 (AllEq.nil))))))))))))) hE rfl]
      clear hF hE e10 e11 e12 e13 e14 e15 e16 e17 e18 e19 e20 e21
      simp only [List.foldl_cons, List.foldl_nil, Act.put, List.setIfInBounds_toArray, List.set_cons_succ, List.set_cons_zero]

      have hE := hEx.trans R2
      by_cases hh : k0 < k1
      · have hd : decide (k1 ≤ k0) = false := by rw [decide_eq_false_iff_not]; omega
        have hd2 : decide ((k1 : Int) ≤ (k0 : Int)) = false := by rw [decide_eq_false_iff_not]; omega
        go_wp2_with fail
        go_roundw
        case rel => exact ⟨j + 1, by go_num, .inl (by omega), hE, fun i hi hl => HJ1.out i hi hl hh⟩
        case measure => simp [intOf]; omega
      · have hd : decide (k1 ≤ k0) = true := by rw [decide_eq_true_iff]; omega
        have hd2 : decide ((k1 : Int) ≤ (k0 : Int)) = true := by rw [decide_eq_true_iff]; omega
        go_wp2_with fail
        go_ret
        exact ⟨Z13 (HN.out hh).symm, hE⟩
    · have HR : Hid (riseB xs = true) := by
        show riseB xs = true
        unfold riseB
        rw [decide_eq_true_iff]
        exact fun i hi hl => HJ.out i (by omega) hl
      go_wp2_with fail
      go_ret
      exact ⟨Z13 HR.out.symm, hEx⟩
end Go.Proofs.YtakkhglbdljfiaaGreatDoor

/- leaf: Find, Child. -/
namespace Go.Proofs.YtakkhglbdljfiaaGreatDoor
set_option linter.unusedVariables false
set_option linter.unusedSimpArgs false
open Go.RowKit

end Go.Proofs.YtakkhglbdljfiaaGreatDoor

/- leaf: Find, Child. -/
namespace Go.Proofs.YtakkhglbdljfiaaGreatDoor
set_option linter.unusedVariables false
set_option linter.unusedSimpArgs false
open Go.RowKit

end Go.Proofs.YtakkhglbdljfiaaGreatDoor

/- leaf: Find, Child. -/
namespace Go.Proofs.YtakkhglbdljfiaaGreatDoor
set_option linter.unusedVariables false
set_option linter.unusedSimpArgs false
open Go.RowKit

theorem Row.ext {E : Type} {w w' : World} {A : Option Addr} {c : Nat} {enc : E → List Value} {xs : List E} (h : Row w A c enc xs) (hb : Ext w w') : Row w' A c enc xs := h.below hb
/-- The place that a key has. -/
structure Place (xs : List (Nat × Nat)) (key n : Nat) : Prop where
  le : n ≤ xs.length
  below : ∀ i, i < n → keyAt xs i < key
  above : ∀ i, n ≤ i → i < xs.length → key ≤ keyAt xs i
end Go.Proofs.YtakkhglbdljfiaaGreatDoor

/- leaf: a key's place; plain. -/
namespace Go.Proofs.YtakkhglbdljfiaaGreatDoor
set_option linter.unusedVariables false
set_option linter.unusedSimpArgs false
open Go.RowKit

end Go.Proofs.YtakkhglbdljfiaaGreatDoor

/- Trees, plain: nodes at pages; a subtree is a row of leaves. -/
namespace Go.Proofs.YtakkhglbdljfiaaGreatDoor
set_option linter.unusedVariables false
set_option linter.unusedSimpArgs false

abbrev Pr := Nat × Nat
/-- A node: its level, its pairs. -/
abbrev Nd := Nat × List Pr
def ndAt (N : List Nd) (p : Nat) : Option Nd := if p = 0 then none else N[p - 1]?
def hdk (L : List (List Pr)) : Option Nat := L.flatten.head?.map Prod.fst
def Up (ps : List Pr) : Prop := ps.Pairwise fun a b => a.1 < b.1
/-- The pairs of a node lead to subtrees, one behind the other. -/
def Kids (T : Nat → List (List Pr) → List Nat → Prop) : List Pr → List (List Pr) → List Nat → Prop
  | [], L, g => L = [] ∧ g = []
  | x :: xs, L, g => ∃ L1 g1 L2 g2, T x.2 L1 g1 ∧ hdk L1 = some x.1 ∧ Kids T xs L2 g2 ∧ L = L1 ++ L2 ∧ g = g1 ++ g2
/-- What stands in a node of a level. -/
def Body (T : Nat → List (List Pr) → List Nat → Prop) (l : Nat) (xs : List Pr) (L : List (List Pr)) (h : List Nat) : Prop :=
  if l = 0 then L = (if xs = [] then [] else [xs]) ∧ h = [] else Kids T xs L h
/-- A subtree of level l at page p: its leaves, its pages. -/
def Tr (N : List Nd) : Nat → Nat → List (List Pr) → List Nat → Prop
  | 0, p, L, g => ∃ xs h, ndAt N p = some (0, xs) ∧ xs ≠ [] ∧ xs.length ≤ 15 ∧ Body (fun _ _ _ => False) 0 xs L h ∧ g = p :: h
  | l + 1, p, L, g => ∃ xs h, ndAt N p = some (l + 1, xs) ∧ xs ≠ [] ∧ xs.length ≤ 15 ∧ Body (Tr N l) (l + 1) xs L h ∧ g = p :: h
/-- The subtrees below a level. -/
def Tb (N : List Nd) : Nat → Nat → List (List Pr) → List Nat → Prop
  | 0 => fun _ _ _ => False
  | l + 1 => Tr N l
theorem Tr_iff {N : List Nd} {l p : Nat} {L : List (List Pr)} {g : List Nat} : Tr N l p L g ↔ ∃ xs h, ndAt N p = some (l, xs) ∧ xs ≠ [] ∧ xs.length ≤ 15 ∧ Body (Tb N l) l xs L h ∧ g = p :: h := by
  cases l <;> rfl
theorem Z20 {T : Nat → List (List Pr) → List Nat → Prop} {xs : List Pr} {L : List (List Pr)} {h : List Nat} : Body T 0 xs L h ↔ L = (if xs = [] then [] else [xs]) ∧ h = [] := by
  unfold Body; rw [if_pos rfl]
theorem Z1i {T : Nat → List (List Pr) → List Nat → Prop} {l : Nat} {xs : List Pr} {L : List (List Pr)} {h : List Nat} : Body T (l + 1) xs L h ↔ Kids T xs L h := by
  unfold Body; rw [if_neg (by omega)]
/-! Rows of subtrees. -/
section
variable {T T' : Nat → List (List Pr) → List Nat → Prop} {A B xs : List Pr} {x : Pr} {L : List (List Pr)} {g : List Nat}
theorem Kids.mono (hT : ∀ p L g, T p L g → T' p L g) : ∀ {xs : List Pr} {L : List (List Pr)} {g : List Nat}, Kids T xs L g → Kids T' xs L g
  | [], _, _, h => h
  | _ :: _, _, _, ⟨L1, g1, L2, g2, h1, h2, h3, h4, h5⟩ => ⟨L1, g1, L2, g2, hT _ _ _ h1, h2, h3.mono hT, h4, h5⟩
theorem Kids.app : ∀ {A B : List Pr} {LA LB : List (List Pr)} {gA gB : List Nat}, Kids T A LA gA → Kids T B LB gB → Kids T (A ++ B) (LA ++ LB) (gA ++ gB)
  | [], _, _, _, _, _, ⟨rfl, rfl⟩, hB => hB
  | _ :: _, _, _, _, _, _, ⟨L1, g1, L2, g2, h1, h2, h3, rfl, rfl⟩, hB => ⟨L1, g1, L2 ++ _, g2 ++ _, h1, h2, h3.app hB, by rw [List.append_assoc], by rw [List.append_assoc]⟩
theorem Kids.parts : ∀ {A B : List Pr} {L : List (List Pr)} {g : List Nat}, Kids T (A ++ B) L g → ∃ LA gA LB gB, Kids T A LA gA ∧ Kids T B LB gB ∧ L = LA ++ LB ∧ g = gA ++ gB
  | [], _, L, g, h => ⟨[], [], L, g, ⟨rfl, rfl⟩, h, rfl, rfl⟩
  | x :: A, B, L, g, ⟨L1, g1, L2, g2, h1, h2, h3, h4, h5⟩ => by
    obtain ⟨LA, gA, LB, gB, hA, hB, rfl, rfl⟩ := h3.parts
    exact ⟨L1 ++ LA, g1 ++ gA, LB, gB, ⟨L1, g1, LA, gA, h1, h2, hA, rfl, rfl⟩, hB, by rw [h4, List.append_assoc], by rw [h5, List.append_assoc]⟩
theorem Kids.one (h : T x.2 L g) (hk : hdk L = some x.1) : Kids T [x] L g := ⟨L, g, [], [], h, hk, ⟨rfl, rfl⟩, by simp, by simp⟩
theorem Kids.at_ (h : Kids T (A ++ x :: B) L g) : ∃ LA gA Lx gx LB gB, Kids T A LA gA ∧ T x.2 Lx gx ∧ hdk Lx = some x.1 ∧ Kids T B LB gB ∧ L = LA ++ (Lx ++ LB) ∧ g = gA ++ (gx ++ gB) := by
  obtain ⟨LA, gA, L2, g2, hA, ⟨Lx, gx, LB, gB, h1, h2, h3, rfl, rfl⟩, rfl, rfl⟩ := h.parts
  exact ⟨LA, gA, Lx, gx, LB, gB, hA, h1, h2, h3, rfl, rfl⟩
theorem hdk_app {L1 L2 : List (List Pr)} {k : Nat} (h : hdk L1 = some k) : hdk (L1 ++ L2) = some k := by
  unfold hdk at h ⊢
  rw [List.flatten_append]
  cases e : L1.flatten with
  | nil => rw [e] at h; cases h
  | cons a r => rw [e] at h; exact h
theorem hdk_mem {L : List (List Pr)} {k : Nat} (h : hdk L = some k) : ∃ v r, L.flatten = (k, v) :: r := by
  unfold hdk at h
  cases e : L.flatten with
  | nil => rw [e] at h; cases h
  | cons a r =>
    rw [e] at h
    obtain ⟨a1, a2⟩ := a
    injection h with h
    have h : a1 = k := h
    subst h
    exact ⟨_, _, rfl⟩
theorem Kids.hdk (h : Kids T (x :: xs) L g) : hdk L = some x.1 := by
  obtain ⟨L1, g1, L2, g2, _, h2, _, rfl, rfl⟩ := h
  exact hdk_app h2
end
/-! More nodes. -/
theorem Z8a {N : List Nd} {p : Nat} {x : Nd} (h : ndAt N p = some x) (M : List Nd) : ndAt (N ++ M) p = some x := by
  unfold ndAt at h ⊢
  split at h
  · cases h
  · rename_i h0
    rw [if_neg h0, List.getElem?_append_left (List.getElem?_eq_some_iff.1 h).1]
    exact h
theorem ndAt_le {N : List Nd} {p : Nat} {x : Nd} (h : ndAt N p = some x) : 1 ≤ p ∧ p ≤ N.length := by
  unfold ndAt at h
  split at h
  · cases h
  · have := (List.getElem?_eq_some_iff.1 h).1
    omega
theorem Tr.mono {N : List Nd} (M : List Nd) : ∀ {l p : Nat} {L : List (List Pr)} {g : List Nat}, Tr N l p L g → Tr (N ++ M) l p L g
  | 0, _, _, _, ⟨xs, h, h1, h2, h3, h4, h5⟩ => ⟨xs, h, Z8a h1 M, h2, h3, h4, h5⟩
  | l + 1, _, _, _, ⟨xs, h, h1, h2, h3, h4, h5⟩ => ⟨xs, h, Z8a h1 M, h2, h3, Z1i.2 ((Z1i.1 h4).mono fun _ _ _ h => Tr.mono M h), h5⟩
theorem Tb.mono {N : List Nd} (M : List Nd) {l p : Nat} {L : List (List Pr)} {g : List Nat} (h : Tb N l p L g) : Tb (N ++ M) l p L g := by
  cases l with
  | zero => exact h
  | succ l => exact Tr.mono M h
theorem Body.mono {N : List Nd} (M : List Nd) {l : Nat} {xs : List Pr} {L : List (List Pr)} {h : List Nat} (hb : Body (Tb N l) l xs L h) : Body (Tb (N ++ M) l) l xs L h := by
  cases l with
  | zero => exact Z20.2 (Z20.1 hb)
  | succ l => exact Z1i.2 ((Z1i.1 hb).mono fun _ _ _ h => Tr.mono M h)
/-! Subtrees aren't empty; their pages are there. -/
theorem Kids.all {T : Nat → List (List Pr) → List Nat → Prop} {P : List Pr → Prop} (hT : ∀ p L g, T p L g → ∀ c ∈ L, P c) : ∀ {xs : List Pr} {L : List (List Pr)} {g : List Nat}, Kids T xs L g → ∀ c ∈ L, P c
  | [], _, _, ⟨rfl, _⟩, c, hc => by cases hc
  | _ :: _, _, _, ⟨L1, g1, L2, g2, h1, h2, h3, rfl, rfl⟩, c, hc => by
    rcases List.mem_append.1 hc with hc | hc
    · exact hT _ _ _ h1 c hc
    · exact h3.all hT c hc
theorem Kids.pages {T : Nat → List (List Pr) → List Nat → Prop} {P : Nat → Prop} (hT : ∀ p L g, T p L g → ∀ c ∈ g, P c) : ∀ {xs : List Pr} {L : List (List Pr)} {g : List Nat}, Kids T xs L g → ∀ c ∈ g, P c
  | [], _, _, ⟨_, rfl⟩, c, hc => by cases hc
  | _ :: _, _, _, ⟨L1, g1, L2, g2, h1, h2, h3, rfl, rfl⟩, c, hc => by
    rcases List.mem_append.1 hc with hc | hc
    · exact hT _ _ _ h1 c hc
    · exact h3.pages hT c hc
theorem Tr.leaves {N : List Nd} : ∀ {l p : Nat} {L : List (List Pr)} {g : List Nat}, Tr N l p L g → ∀ c ∈ L, c ≠ [] ∧ c.length ≤ 15
  | 0, _, _, _, ⟨xs, h, h1, h2, h3, h4, h5⟩, c, hc => by
    obtain ⟨rfl, _⟩ := Z20.1 h4
    rw [if_neg h2] at hc
    obtain rfl : c = xs := by simpa using hc
    exact ⟨h2, h3⟩
  | l + 1, _, _, _, ⟨xs, h, h1, h2, h3, h4, h5⟩, c, hc => (Z1i.1 h4).all (P := fun c => c ≠ [] ∧ c.length ≤ 15) (fun _ _ _ h => Tr.leaves h) c hc
theorem Tr.pages {N : List Nd} : ∀ {l p : Nat} {L : List (List Pr)} {g : List Nat}, Tr N l p L g → ∀ q ∈ g, 1 ≤ q ∧ q ≤ N.length
  | 0, _, _, _, ⟨xs, h, h1, h2, h3, h4, h5⟩, q, hq => by
    obtain ⟨_, rfl⟩ := Z20.1 h4
    rw [h5] at hq
    rw [List.mem_singleton.1 hq]
    exact ndAt_le h1
  | l + 1, _, _, _, ⟨xs, h, h1, h2, h3, h4, h5⟩, q, hq => by
    rw [h5] at hq
    rcases List.mem_cons.1 hq with rfl | hq
    · exact ndAt_le h1
    · exact (Z1i.1 h4).pages (P := fun q => 1 ≤ q ∧ q ≤ N.length) (fun _ _ _ h => Tr.pages h) q hq
theorem Tb.pages {N : List Nd} {l p : Nat} {L : List (List Pr)} {g : List Nat} (h : Tb N l p L g) : ∀ q ∈ g, 1 ≤ q ∧ q ≤ N.length := by
  cases l with
  | zero => cases h
  | succ l => exact Tr.pages h
theorem Body.pages {N : List Nd} {l : Nat} {xs : List Pr} {L : List (List Pr)} {h : List Nat} (hb : Body (Tb N l) l xs L h) : ∀ q ∈ h, 1 ≤ q ∧ q ≤ N.length := by
  cases l with
  | zero => obtain ⟨_, rfl⟩ := Z20.1 hb; intro q hq; cases hq
  | succ l => exact (Z1i.1 hb).pages (P := fun q => 1 ≤ q ∧ q ≤ N.length) fun _ _ _ h => Tr.pages h
theorem Tr.one {N : List Nd} {l p : Nat} {L : List (List Pr)} {g : List Nat} (h : Tr N l p L g) : ∃ r, g = p :: r := by
  obtain ⟨xs, r, _, _, _, _, e⟩ := Tr_iff.1 h
  exact ⟨r, e⟩
theorem Kids.ne {T : Nat → List (List Pr) → List Nat → Prop} {xs : List Pr} {L : List (List Pr)} {g : List Nat} (h : Kids T xs L g) (hx : xs ≠ []) : L.flatten ≠ [] := by
  cases xs with
  | nil => exact absurd rfl hx
  | cons x xs =>
    obtain ⟨v, r, e⟩ := hdk_mem h.hdk
    rw [e]
    exact List.cons_ne_nil _ _
theorem Tr.ne {N : List Nd} {l p : Nat} {L : List (List Pr)} {g : List Nat} (h : Tr N l p L g) : L.flatten ≠ [] := by
  cases l with
  | zero =>
    obtain ⟨xs, r, _, h2, _, h4, _⟩ := h
    obtain ⟨rfl, _⟩ := Z20.1 h4
    rw [if_neg h2]
    simpa using h2
  | succ l =>
    obtain ⟨xs, r, _, h2, _, h4, _⟩ := h
    exact (Z1i.1 h4).ne h2
theorem Kids.len {T : Nat → List (List Pr) → List Nat → Prop} : ∀ {xs : List Pr} {L : List (List Pr)} {g : List Nat}, Kids T xs L g → xs.length ≤ L.length
  | [], _, _, _ => Nat.zero_le _
  | _ :: _, _, _, ⟨L1, g1, L2, g2, h1, h2, h3, rfl, rfl⟩ => by
    have := h3.len
    have h0 : L1 ≠ [] := fun e => by subst e; cases h2
    have := List.length_pos_iff.2 h0
    simp only [List.length_cons, List.length_append]
    omega
/-! Rising pairs. -/
theorem Up.app {a b : List Pr} (h : Up (a ++ b)) : Up a ∧ Up b ∧ ∀ x ∈ a, ∀ y ∈ b, x.1 < y.1 := List.pairwise_append.1 h
theorem Kids.up {T : Nat → List (List Pr) → List Nat → Prop} : ∀ {xs : List Pr} {L : List (List Pr)} {g : List Nat}, Kids T xs L g → Up L.flatten → Up xs ∧ ∀ x ∈ xs, ∃ v, (x.1, v) ∈ L.flatten
  | [], _, _, _, _ => ⟨List.Pairwise.nil, fun _ h => by cases h⟩
  | x :: xs, _, _, ⟨L1, g1, L2, g2, h1, h2, h3, rfl, rfl⟩, hu => by
    rw [List.flatten_append] at hu ⊢
    obtain ⟨hu1, hu2, hu3⟩ := hu.app
    obtain ⟨hk1, hk2⟩ := h3.up hu2
    obtain ⟨v, r, e⟩ := hdk_mem h2
    refine ⟨List.Pairwise.cons (fun y hy => ?_) hk1, fun y hy => ?_⟩
    · obtain ⟨u, hu⟩ := hk2 y hy
      exact hu3 (x.1, v) (by rw [e]; simp) (y.1, u) hu
    · rcases List.mem_cons.1 hy with rfl | hy
      · exact ⟨v, List.mem_append_left _ (by rw [e]; simp)⟩
      · obtain ⟨u, hu⟩ := hk2 y hy
        exact ⟨u, List.mem_append_right _ hu⟩
/-! Insertion, deletion, look-up by filters. -/
/-! A place in a node. -/
end Go.Proofs.YtakkhglbdljfiaaGreatDoor
