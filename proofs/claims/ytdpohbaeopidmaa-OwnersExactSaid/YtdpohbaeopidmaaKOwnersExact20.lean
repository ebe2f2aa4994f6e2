/- owners: the book beside its reference: plain law. -/
import Derived.Test.YtdpohbaeopidmaaKOwnersExact19
import Derived.Test.YtdpohbaeopidmaaKOwnersExact01
import Derived.Test.YtdpohbaeopidmaaKOwnersExact03
namespace Go.Proofs.Ytdpohbaeopidmaa
set_option linter.unusedVariables false
set_option linter.unusedSimpArgs false
open Go.RowKit Go.Maps

def SortedQ (U : List QD) : Prop := U.Pairwise ltQ
theorem ltQ_irrefl (x : QD) : ¬ ltQ x x := by unfold ltQ ltO; omega
theorem ltQ_trans {x y z : QD} (h : ltQ x y) (k : ltQ y z) : ltQ x z := by unfold ltQ ltO at *; omega
theorem ltQ_total {x y : QD} (h : ¬ ltQ x y) : x = y ∨ ltQ y x := by
  obtain ⟨a, b, c, d⟩ := x
  obtain ⟨a', b', c', d'⟩ := y
  unfold ltQ ltO at *
  simp only at h ⊢
  by_cases e : a = a' ∧ b = b' ∧ c = c' ∧ d = d'
  · obtain ⟨rfl, rfl, rfl, rfl⟩ := e
    exact .inl rfl
  · right
    omega
theorem insQ_mem (o : QD) : ∀ (X : List QD) (y : QD), y ∈ insQ o X ↔ y = o ∨ y ∈ X
  | [], y => by simp [insQ]
  | x :: r, y => by
    unfold insQ
    split
    · simp
    · rw [List.mem_cons, insQ_mem o r, List.mem_cons]
      constructor
      · rintro (h | h | h) <;> simp [h]
      · rintro (h | h | h) <;> simp [h]
theorem insQ_sorted (o : QD) : ∀ X : List QD, SortedQ X → o ∉ X → SortedQ (insQ o X)
  | [], _, _ => by simp [insQ, SortedQ]
  | x :: r, h, hn => by
    have hp := List.pairwise_cons.1 h
    unfold insQ
    split
    · rename_i hx
      refine List.Pairwise.cons (fun y hy => ?_) h
      rcases List.mem_cons.1 hy with rfl | hy
      · exact hx
      · exact ltQ_trans hx (hp.1 y hy)
    · rename_i hx
      have hox : ltQ x o := by
        rcases ltQ_total hx with e | e
        · exact absurd (by simp [e]) hn
        · exact e
      refine List.Pairwise.cons (fun y hy => ?_) (insQ_sorted o r hp.2 (fun e => hn (by simp [e])))
      rcases (insQ_mem o r y).1 hy with rfl | hy
      · exact hox
      · exact hp.1 y hy
theorem remQ_mem (U : List QD) (x y : QD) : y ∈ remQ U x ↔ y ∈ U ∧ y ≠ x := by
  unfold remQ
  rw [List.mem_filter]
  simp
theorem remQ_sorted {U : List QD} (x : QD) (h : SortedQ U) : SortedQ (remQ U x) := h.filter _
theorem ofQ_mem (U : List QD) (c : Int) (o : OwD) : o ∈ ofQ U c ↔ (c, o) ∈ U := by
  unfold ofQ
  rw [List.mem_filterMap]
  constructor
  · rintro ⟨y, hy, h⟩
    split at h
    · rename_i e
      injection h with h
      rw [← h, ← e]
      exact hy
    · cases h
  · intro h
    exact ⟨_, h, if_pos rfl⟩
theorem ofQ_sorted {U : List QD} (c : Int) (h : SortedQ U) : (ofQ U c).Pairwise ltO := by
  unfold ofQ
  rw [List.pairwise_filterMap]
  refine h.imp (fun {a b} hab x hx y hy => ?_)
  split at hx
  · split at hy
    · injection hx with hx
      injection hy with hy
      subst hx hy
      rcases hab with h | h
      · omega
      · exact h.2
    · cases hy
  · cases hx
theorem srt_uniq : ∀ X Y : List OwD, X.Pairwise ltO → Y.Pairwise ltO → (∀ o, o ∈ X ↔ o ∈ Y) → X = Y
  | [], [], _, _, _ => rfl
  | [], y :: Y, _, _, h => by have := (h y).2 (by simp); cases this
  | x :: X, [], _, _, h => by have := (h x).1 (by simp); cases this
  | x :: X, y :: Y, hx, hy, h => by
    have px := List.pairwise_cons.1 hx
    have py := List.pairwise_cons.1 hy
    have e : x = y := by
      refine Classical.byContradiction fun hne => ?_
      have h1 : x ∈ Y := (List.mem_cons.1 ((h x).1 (by simp))).resolve_left hne
      have h2 : y ∈ X := (List.mem_cons.1 ((h y).2 (by simp))).resolve_left (fun e => hne e.symm)
      exact ltO_irrefl x (ltO_trans (px.1 y h2) (py.1 x h1))
    subst e
    rw [srt_uniq X Y px.2 py.2 (fun o => ?_)]
    constructor
    · intro ho
      exact (List.mem_cons.1 ((h o).1 (by simp [ho]))).resolve_left (fun e => by subst e; exact ltO_irrefl _ (px.1 _ ho))
    · intro ho
      exact (List.mem_cons.1 ((h o).2 (by simp [ho]))).resolve_left (fun e => by subst e; exact ltO_irrefl _ (py.1 _ ho))
theorem ofQ_ins {U : List QD} {c : Int} {o : OwD} (hs : SortedQ U) (hn : (c, o) ∉ U) : ofQ (insQ (c, o) U) = setL (ofQ U) c (insO o (ofQ U c)) := by
  funext i
  have hno : o ∉ ofQ U c := fun h => hn ((ofQ_mem U c o).1 h)
  by_cases e : i = c
  · subst e
    rw [setL_same]
    refine srt_uniq _ _ (ofQ_sorted i (insQ_sorted _ _ hs hn)) (insO_sorted _ _ (ofQ_sorted i hs) hno) (fun y => ?_)
    rw [ofQ_mem, insQ_mem, insO_mem, ofQ_mem]
    simp
  · rw [setL_other e]
    refine srt_uniq _ _ (ofQ_sorted i (insQ_sorted _ _ hs hn)) (ofQ_sorted i hs) (fun y => ?_)
    rw [ofQ_mem, insQ_mem, ofQ_mem]
    simp [e]
theorem ofQ_rem {U : List QD} {c : Int} {o : OwD} (hs : SortedQ U) : ofQ (remQ U (c, o)) = setL (ofQ U) c ((ofQ U c).erase o) := by
  funext i
  by_cases e : i = c
  · subst e
    rw [setL_same]
    refine srt_uniq _ _ (ofQ_sorted i (remQ_sorted _ hs)) (erase_sorted o (ofQ_sorted i hs)) (fun y => ?_)
    rw [ofQ_mem, remQ_mem, ((List.nodup_iff_pairwise_ne.2 ((ofQ_sorted i hs).imp fun {a b} h e => by subst e; exact ltO_irrefl _ h)).mem_erase_iff), ofQ_mem]
    simp [and_comm]
  · rw [setL_other e]
    refine srt_uniq _ _ (ofQ_sorted i (remQ_sorted _ hs)) (ofQ_sorted i hs) (fun y => ?_)
    rw [ofQ_mem, remQ_mem, ofQ_mem]
    simp [e]
theorem aloneX_B {U V : List QD} (c : Int) (o : OwD) (hV : SortedQ V) : aloneX (ofQ U c) (ofQ V c) o = aloneB (ofQ U) (ofQ V) c o := by
  have hs := ofQ_sorted c hV
  unfold aloneX aloneB
  generalize ofQ U c = X
  generalize ofQ V c = Y at hs
  have h1 : (decide (X.length = 1) && decide (atO X 0 = o)) = (decide (X.length = 1) && !othersB X o) := by
    match X with
    | [] => rfl
    | [x] => simp [othersB, atO]
    | x :: y :: r => simp
  have h2 : (decide (Y.length = 0) || (decide (Y.length = 1) && decide (atO Y 0 = o))) = !othersB Y o := by
    match Y, hs with
    | [], _ => rfl
    | [y], _ => simp [othersB, atO]
    | y :: z :: r, hs =>
      have hyz : ltO y z := (List.pairwise_cons.1 hs).1 z (by simp)
      by_cases e : y = o
      · have : z ≠ o := fun e2 => by subst e; subst e2; exact ltO_irrefl _ hyz
        simp [othersB, this]
      · simp [othersB, e]
  rw [h1, h2]
/-- The chunks, one behind the other, without those that are as the one ahead. -/
def heads : Option Int → List QD → List Int
  | _, [] => []
  | p, x :: r => if p = some x.1 then heads p r else x.1 :: heads (some x.1) r
theorem heads_spec : ∀ (U : List QD) (p : Option Int), SortedQ U → (∀ q, p = some q → ∀ x ∈ U, q ≤ x.1) → (heads p U).Pairwise (fun a b => a < b) ∧ ∀ c, c ∈ heads p U ↔ (∃ x ∈ U, x.1 = c) ∧ p ≠ some c
  | [], p, _, _ => ⟨List.Pairwise.nil, fun c => by simp [heads]⟩
  | x :: r, p, hs, hp => by
    have hc := List.pairwise_cons.1 hs
    have hxr : ∀ y ∈ r, x.1 ≤ y.1 := fun y hy => by have := hc.1 y hy; unfold ltQ at this; omega
    unfold heads
    split
    · rename_i e
      obtain ⟨h1, h2⟩ := heads_spec r p hc.2 (fun q hq y hy => hp q hq y (by simp [hy]))
      refine ⟨h1, fun c => ?_⟩
      rw [h2]
      refine and_congr_left fun hpc => ⟨fun ⟨y, hy, e⟩ => ⟨y, by simp [hy], e⟩, fun ⟨y, hy, e2⟩ => ?_⟩
      rcases List.mem_cons.1 hy with rfl | hy
      · exact absurd (e2 ▸ e) hpc
      · exact ⟨y, hy, e2⟩
    · rename_i e
      obtain ⟨h1, h2⟩ := heads_spec r (some x.1) hc.2 (fun q hq y hy => by injection hq with hq; subst hq; exact hxr y hy)
      refine ⟨List.Pairwise.cons (fun c hcm => ?_) h1, fun c => ?_⟩
      · obtain ⟨⟨y, hy, e1⟩, hne⟩ := (h2 c).1 hcm
        have := hxr y hy
        have : x.1 ≠ c := fun e => hne (by rw [e])
        omega
      · rw [List.mem_cons, h2]
        constructor
        · rintro (rfl | ⟨⟨y, hy, e1⟩, hne⟩)
          · exact ⟨⟨x, by simp, rfl⟩, e⟩
          · refine ⟨⟨y, by simp [hy], e1⟩, fun e2 => ?_⟩
            have := hp c e2 x (by simp)
            have := hxr y hy
            exact hne (by rw [show x.1 = c by omega])
        · rintro ⟨⟨y, hy, e1⟩, hne⟩
          rcases List.mem_cons.1 hy with rfl | hy
          · exact .inl e1.symm
          · by_cases e2 : c = x.1
            · exact .inl e2
            · exact .inr ⟨⟨y, hy, e1⟩, fun e3 => e2 (by injection e3 with e3; exact e3.symm)⟩
theorem int_uniq : ∀ X Y : List Int, X.Pairwise (fun a b => a < b) → Y.Pairwise (fun a b => a < b) → (∀ o, o ∈ X ↔ o ∈ Y) → X = Y
  | [], [], _, _, _ => rfl
  | [], y :: Y, _, _, h => by have := (h y).2 (by simp); cases this
  | x :: X, [], _, _, h => by have := (h x).1 (by simp); cases this
  | x :: X, y :: Y, hx, hy, h => by
    have px := List.pairwise_cons.1 hx
    have py := List.pairwise_cons.1 hy
    have e : x = y := by
      refine Classical.byContradiction fun hne => ?_
      have h1 : x ∈ Y := (List.mem_cons.1 ((h x).1 (by simp))).resolve_left hne
      have h2 : y ∈ X := (List.mem_cons.1 ((h y).2 (by simp))).resolve_left (fun e => hne e.symm)
      have := px.1 y h2
      have := py.1 x h1
      omega
    subst e
    rw [int_uniq X Y px.2 py.2 (fun o => ?_)]
    constructor
    · intro ho
      exact (List.mem_cons.1 ((h o).1 (by simp [ho]))).resolve_left (fun e => by subst e; exact absurd (px.1 _ ho) (by omega))
    · intro ho
      exact (List.mem_cons.1 ((h o).2 (by simp [ho]))).resolve_left (fun e => by subst e; exact absurd (py.1 _ ho) (by omega))
theorem heads_rise {U : List QD} (hs : SortedQ U) (hr : ∀ x ∈ U, 1 ≤ x.1 ∧ x.1 ≤ 1023) : riseL (chunksB (ofQ U)) = heads none U := by
  obtain ⟨h1, h2⟩ := heads_spec U none hs (fun q hq => by cases hq)
  refine int_uniq _ _ (riseL_rising _) h1 (fun c => ?_)
  rw [mem_riseL, h2]
  unfold chunksB
  rw [decide_eq_true_iff]
  constructor
  · rintro ⟨_, h⟩
    obtain ⟨o, ho⟩ := List.exists_mem_of_ne_nil _ h
    exact ⟨⟨(c, o), (ofQ_mem U c o).1 ho, rfl⟩, by simp⟩
  · rintro ⟨⟨x, hx, rfl⟩, _⟩
    refine ⟨hr x hx, fun e => ?_⟩
    have : x.2 ∈ ofQ U x.1 := (ofQ_mem U x.1 x.2).2 hx
    rw [e] at this
    cases this
end Go.Proofs.Ytdpohbaeopidmaa

/- owners' law: what OwnersExact's walk uses. -/
namespace Go.Proofs.Ytdpohbaeopidmaa
set_option linter.unusedVariables false
set_option linter.unusedSimpArgs false
open Go.RowKit Go.Maps

theorem rowQ_of {wx : World} {B : Option Addr} {n cap : Nat} {U : List QD} (h : wx.ownsRow 0 35 4 (.slice B n cap) U.length (U.flatMap qC)) : n = U.length ∧ Row wx B 4 qC U := by
  obtain ⟨B', cap', e, -, -, -, hr⟩ := ownsRow_Row qC_len (by decide) h
  cases e
  exact ⟨rfl, hr⟩
theorem rowO_of {wx : World} {B : Option Addr} {n cap m : Nat} {X : List OwD} (h : wx.ownsRow 0 31 3 (.slice B n cap) m (X.flatMap ownC)) : Row wx B 3 ownC X := by
  obtain ⟨B', cap', e, -, -, -, hr⟩ := ownsRow_Row ownC_len (by decide) h
  cases e
  exact hr
/-- A copy by append to an empty row. -/
theorem OwnT.copyQ {H : Nat} {A w : World} {R : List Thing} {v : Value} {U : List QD} (h : OwnT H A R w) (hr : w.ownsRow 0 35 4 v U.length (U.flatMap qC)) (hn : U.length ≤ 1000000000) :
    ∃ v' w', (∀ ty, (Builtin.append_ #[27, 27] ty #[.slice (some ⟨w.heap.size, 0, none⟩) 0 0, v]).run Try.prog (w.alloc (.cells #[] 35)) = .ok v' w') ∧ OwnT H A (tRow 35 4 v' U.length (U.flatMap qC) :: R) w' := by
  obtain ⟨ti, hi0, hz0, hsz0, hby0⟩ := info_q
  have h1 := h.emptyRow 35 4
  have hr1 := ownsRow_ext hr (Ext.alloc w (.cells #[] 35))
  rcases hr1.2 with ⟨rfl, h0⟩ | ⟨g, cap, cur, rfl, hb, hg, hcap, hmax, hcs, ht⟩
  · have hU : U = [] := List.eq_nil_of_length_eq_zero h0
    subst hU
    exact ⟨_, _, fun ty => run_append_owned_none (P := Try.prog) (w := _) (base := 0) (t := 27) (ty := ty) (e := 35) (i := ti) (size := 4) Try.underlying27 hi0 _ _ _ h1.r0, h1⟩
  · obtain ⟨v', w', hrun, h2, h3, h4⟩ := run_append_fresh (P := Try.prog) (w.alloc (.cells #[] 35)) 27 27 35 ti zQ 4 32 Try.underlying27 hi0 hz0 hsz0 hby0 rfl (by decide) _ 0 [] h1.r0 ⟨g, 0, none⟩ U.length cap (U.flatMap qC) (flatQ_len U) (fun j u hu => by
      have hj : j < U.length * 4 := by rw [← flatQ_len]; exact (List.getElem?_eq_some_iff.1 hu).1
      have := World.ownsRow.cellAt hr1 j hj
      have hadd : (⟨g, 0, none⟩ : Addr).add j = ⟨g, j, none⟩ := by unfold Addr.add; split <;> simp_all
      rw [hadd, this, hu]) (flatQ_one U) (by unfold maxLen; omega) (by omega)
    rw [Nat.zero_add, List.nil_append] at h2
    exact ⟨v', w', fun ty => hrun, h1.row h2 h3 h4⟩
theorem addL_has {U : List QD} {c : Int} {o : OwD} (h : (c, o) ∈ U) : addL (ofQ U) c o = ofQ U := by
  unfold addL
  rw [if_neg (fun e => e.2 ((ofQ_mem U c o).2 h))]
theorem addL_new {U : List QD} {c : Int} {o : OwD} (hs : SortedQ U) (h1 : 1 ≤ c) (h2 : c ≤ 1023) (h : (c, o) ∉ U) : addL (ofQ U) c o = ofQ (insQ (c, o) U) := by
  unfold addL
  rw [if_pos ⟨⟨h1, h2⟩, fun e => h ((ofQ_mem U c o).1 e)⟩, ofQ_ins hs h]
theorem addL_out {U : List QD} {c : Int} {o : OwD} (h : ¬ (1 ≤ c ∧ c ≤ 1023)) : addL (ofQ U) c o = ofQ U := by
  unfold addL
  rw [if_neg (fun e => h e.1)]
theorem addE_has {U : List QD} {c : Int} {o : OwD} (h1 : 1 ≤ c) (h2 : c ≤ 1023) (h : (c, o) ∈ U) : addE (ofQ U) c o = 8 := by
  unfold addE
  rw [if_pos ⟨h1, h2⟩, if_pos ((ofQ_mem U c o).2 h)]
theorem addE_new {U : List QD} {c : Int} {o : OwD} (h1 : 1 ≤ c) (h2 : c ≤ 1023) (h : (c, o) ∉ U) : addE (ofQ U) c o = 0 := by
  unfold addE
  rw [if_pos ⟨h1, h2⟩, if_neg (fun e => h ((ofQ_mem U c o).1 e))]
theorem addE_out {N : Int → List OwD} {c : Int} {o : OwD} (h : ¬ (1 ≤ c ∧ c ≤ 1023)) : addE N c o = 1 := by
  unfold addE
  rw [if_neg h]
theorem remL_has {U : List QD} {c : Int} {o : OwD} (hs : SortedQ U) (h : (c, o) ∈ U) : remL (ofQ U) c o = ofQ (remQ U (c, o)) := by
  unfold remL
  rw [if_pos ((ofQ_mem U c o).2 h), ofQ_rem hs]
theorem remL_no {U : List QD} {c : Int} {o : OwD} (h : (c, o) ∉ U) : remL (ofQ U) c o = ofQ U := by
  unfold remL
  rw [if_neg (fun e => h ((ofQ_mem U c o).1 e))]
theorem remE_has {U : List QD} {c : Int} {o : OwD} (h : (c, o) ∈ U) : remE (ofQ U) c o = 0 := by
  unfold remE
  rw [if_pos ((ofQ_mem U c o).2 h)]
theorem remE_no {U : List QD} {c : Int} {o : OwD} (h : (c, o) ∉ U) : remE (ofQ U) c o = 7 := by
  unfold remE
  rw [if_neg (fun e => h ((ofQ_mem U c o).1 e))]
theorem remB_has {U : List QD} {c : Int} {o : OwD} (hs : SortedQ U) (h : (c, o) ∈ U) : remB? (ofQ U) c o = decide ((ofQ (remQ U (c, o)) c).length = 0) := by
  unfold remB?
  rw [ofQ_rem hs, setL_same]
  simp [(ofQ_mem U c o).2 h]
theorem remB_no {U : List QD} {c : Int} {o : OwD} (h : (c, o) ∉ U) : remB? (ofQ U) c o = false := by
  unfold remB?
  exact decide_eq_false (fun e => h ((ofQ_mem U c o).1 e.1))
theorem insQ_range {U : List QD} {c : Int} {o : OwD} (hr : ∀ x ∈ U, 1 ≤ x.1 ∧ x.1 ≤ 1023) (h1 : 1 ≤ c) (h2 : c ≤ 1023) : ∀ x ∈ insQ (c, o) U, 1 ≤ x.1 ∧ x.1 ≤ 1023 := fun x hx => by
  rcases (insQ_mem _ _ _).1 hx with rfl | hx
  · exact ⟨h1, h2⟩
  · exact hr x hx
theorem remQ_len (U : List QD) (x : QD) : (remQ U x).length ≤ U.length := List.length_filter_le _ _
end Go.Proofs.Ytdpohbaeopidmaa

/- Regions by facts: a guarded call that hands back something new. No function of the program in sight. -/
namespace Go.Proofs.Ytdpohbaeopidmaa
set_option linter.unusedVariables false
set_option linter.unusedSimpArgs false
open Go.RowKit
section
variable {R : World → World → Prop}
variable {P : Program} {ops : Array Oper} {w0 : World} {a0 : Act} {D : List Tmp} {A : List (List Nat)}
variable {o : Oper}
variable {G : List (Nat × TFact R) → Prop} {k : Nat} {os : List Oper} {done : List (Nat × TFact R)}
theorem Build.callnewg (d : Tmp) (φ : Value → World → Prop) (hφ : ∀ v w w', R w w' → φ v w → φ v w') {f : FuncId} {args : Array Value} {j dj : Nat} {b : Bool} (hrr : ∀ x, R x x) (hd : o.dst = some d) (hn : Nat.blt d a0.tmps.size = true) (hg : o.guard = some (j, b)) (hj : (ops[j]?).bind (·.dst) = some dj)
    (h : ∀ a w, Env a0 D a → R w0 w → (∀ (i : Nat) (S' : TFact R), i ∈ A.getD k [] → (i, S') ∈ done → S'.T a w) → a.eval (.tmp dj) = .bool b ∧ (execOp a.eval o).run P w = .ok (.enter f args) w)
    (hc : ∀ w, R w0 w → Calls P f args w fun e w' => ∃ v, e = .returned v ∧ R w w' ∧ φ v w')
    (hr : Build P ops R w0 a0 D A G (k + 1) os ((k, fresh d φ hφ) :: done)) : Build P ops R w0 a0 D A G k (o :: os) done :=
  .step _ (fun a w hE hR hF => opT_callnew hd (by rw [hE.size]; exact Nat.le_of_ble_eq_true hn) (hrr w) ((wanted_some hg hj (h a w hE hR hF).1).trans (by simp)) (h a w hE hR hF).2 (hc w hR)) hr
end
end Go.Proofs.Ytdpohbaeopidmaa

/- Walks by facts: the frame is a letter, what its slots hold stands in facts. No function of the program in sight. -/
namespace Go.Proofs.Ytdpohbaeopidmaa
set_option linter.unusedVariables false
set_option linter.unusedSimpArgs false
open Go.RowKit

/-- A part of a function's code. -/
def codeAt : List Nat → Code → Code
  | [], c => c
  | 0 :: p, .seq a _ => codeAt p a
  | 1 :: p, .seq _ b => codeAt p b
  | 0 :: p, .cond _ a _ => codeAt p a
  | 1 :: p, .cond _ _ b => codeAt p b
  | 0 :: p, .block _ c => codeAt p c
  | 0 :: p, .loop c => codeAt p c
  | 0 :: p, .scope c => codeAt p c
  | _, c => c
structure Fr (n : Nat) (a : Act) : Prop where
  size : a.tmps.size = n
  defers : a.defers = []
section
variable {P : Program} {Q : Exit → Act → World → Prop} {next : Act → World → Prop} {a a0 a' : Act} {w w' w0 : World} {n id id' : Nat} {D : List Tmp} {fn : Func} {R : Ending → World → Prop}
theorem Fr.env (k : Fr n a0) (h : Env a0 D a) : Fr n a := ⟨h.size.trans k.size, h.defers.trans k.defers⟩
theorem Env.refl (a : Act) (D : List Tmp) : Env a D a := ⟨rfl, rfl, fun _ _ => rfl⟩
theorem then_n (h : next a w) : Exit.then next Q .normal a w := h
theorem then_x (h : Q (.exit id) a w) : Exit.then next Q (.exit id) a w := h
theorem then_r (h : Q .ret a w) : Exit.then next Q .ret a w := h
theorem block_n (h : Q .normal a w) : Exit.inBlock id Q .normal a w := h
theorem block_x (h : Q .normal a w) : Exit.inBlock id Q (.exit id) a w := by
  simp only [Exit.inBlock, if_true]
  exact h
theorem block_o (hne : Nat.beq id' id = false) (h : Q (.exit id') a w) : Exit.inBlock id Q (.exit id') a w := by
  simp only [Exit.inBlock]
  rw [if_neg (Nat.ne_of_beq_eq_false hne)]
  exact h
theorem block_r (h : Q .ret a w) : Exit.inBlock id Q .ret a w := h
theorem scope_n (h : Q .normal a w) : Exit.noGoto Q .normal a w := h
theorem scope_x (h : Q (.exit id) a w) : Exit.noGoto Q (.exit id) a w := h
theorem scope_r (h : Q .ret a w) : Exit.noGoto Q .ret a w := h
/-- A cut: what is left behind the first part is proved once. -/
theorem wp_cutF {x y : Code} (K : Act → World → Prop) (hx : x.wp P (Exit.then K Q) a w) (hy : ∀ a w, K a w → y.wp P Q a w) : (Code.seq x y).wp P Q a w :=
  wp_seq (Code.wp_mono (fun e a w h => by
    cases e with
    | normal => exact hy a w h
    | _ => exact h) hx)
/-- A way on is proved once, where it is met on several ways. -/
theorem wp_meetF {c : Code} (K : Act → World → Prop) (hQ : ∀ a w, K a w → Q .normal a w) (h : c.wp P (Exit.then K Q) a w) : c.wp P Q a w :=
  Code.wp_mono (fun e a w h => by
    cases e with
    | normal => exact hQ a w h
    | _ => exact h) h
theorem calls_F {f : FuncId} {c : Code} {args : Array Value} (hf : P.funcs[f]? = some fn) (hb : fn.body = some c) (n : Nat) (hn : fn.ntmps = n) (hle : Nat.ble args.size n = true)
    (h : ∀ a, Fr n a → (∀ i v, args[i]? = some v → a.eval (.tmp i) = v) → c.wp P (bodyPost P fn R) a w) : Calls P f args w R := by
  refine calls_of_wp hf hb (h _ ⟨?_, rfl⟩ fun i v hv => ?_)
  · have := Nat.le_of_ble_eq_true hle
    subst hn
    simp only [Array.size_append, Array.size_replicate]
    omega
  · have hi : i < args.size := (Array.getElem?_eq_some_iff.1 hv).1
    rw [eval_tmp, Array.getD_eq_getD_getElem?, Array.getElem?_append_left hi, hv]
    rfl
theorem ret_F1 {t : Tmp} {v : Value} (hr : fn.results = #[.tmp t]) (k : Fr n a) (e : a.eval (.tmp t) = v) (h : R (.returned v) w) : bodyPost P fn R .ret a w := by
  refine bodyPost_ret (v := v) ?_ k.defers h
  rw [← e, eval_tmp]
  simp [results, hr]
theorem ret_F2 {t u : Tmp} {v x : Value} (hr : fn.results = #[.tmp t, .tmp u]) (k : Fr n a) (e : a.eval (.tmp t) = v) (e' : a.eval (.tmp u) = x) (h : R (.returned (.tuple #[v, x])) w) : bodyPost P fn R .ret a w := by
  refine bodyPost_ret (v := .tuple #[v, x]) ?_ k.defers h
  rw [← e, ← e', eval_tmp, eval_tmp]
  simp [results, hr]
theorem ret_F0 (hr : fn.results = #[]) (k : Fr n a) (h : R (.returned (.tuple #[])) w) : bodyPost P fn R .ret a w :=
  bodyPost_ret (results_none hr _ _ _) k.defers h
theorem end_F0 (hr : fn.results = #[]) (k : Fr n a) (h : R (.returned (.tuple #[])) w) : bodyPost P fn R .normal a w :=
  bodyPost_end (results_none hr _ _ _) k.defers h
theorem cond_t {c : Operand} {x y : Code} {v : Value} (hc : a.eval c = v) (hv : v = .bool true) (h : x.wp P Q a w) : (Code.cond c x y).wp P Q a w := wp_cond_true (hc.trans hv) h
theorem cond_f {c : Operand} {x y : Code} {v : Value} (hc : a.eval c = v) (hv : v = .bool false) (h : y.wp P Q a w) : (Code.cond c x y).wp P Q a w := wp_cond_false (hc.trans hv) h
/-! Operations, in order. -/
variable {ops : Array Oper} {rest : List Oper} {o : Oper} {v : Value}
theorem Env.put (hE : Env a0 D a) {d : Tmp} (hD : D.contains d = true) (v : Value) : Env a0 D (a.put (some d) v) := by
  obtain ⟨h1, h2, h3⟩ := hE
  refine ⟨by simp [Act.put, h1], h2, fun t ht => ?_⟩
  have : d ≠ t := fun e => ht (by subst e; simpa using hD)
  rw [← h3 t ht]
  simp [Act.put, Array.getElem?_setIfInBounds_ne this]
theorem eval_put_ne {d t : Tmp} (h : Nat.beq t d = false) (v : Value) : (a.put (some d) v).eval (.tmp t) = a.eval (.tmp t) := by
  have : d ≠ t := fun e => Nat.ne_of_beq_eq_false h e.symm
  simp [Act.put, eval_tmp, Array.getD_eq_getD_getElem?, Array.getElem?_setIfInBounds_ne this]
theorem sq_val (d : Tmp) (hE : Env a0 D a) (k : Fr n a0) (hd : o.dst = some d) (hn : Nat.blt d n = true) (hD : D.contains d = true) (hg : o.guard = none)
    (h : (execOp a.eval o).run P w = .ok (.value v) w')
    (hk : ∀ a', Env a0 D a' → a'.eval (.tmp d) = v → (∀ t, Nat.beq t d = false → a'.eval (.tmp t) = a.eval (.tmp t)) → wpList P ops Q rest a' w') : wpList P ops Q (o :: rest) a w := by
  refine wpList_plain hg fun K hK => wp_of_value h (hK _ _ ?_)
  rw [hd]
  exact hk _ (hE.put hD v) (eval_put (by rw [hE.size, k.size]; exact Nat.le_of_ble_eq_true hn)) (fun t ht => eval_put_ne ht v)
theorem sq_det (d : Tmp) (hE : Env a0 D a) (k : Fr n a0) (hd : o.dst = some d) (hn : Nat.blt d n = true) (hD : D.contains d = true) (hg : o.guard = none)
    (h : (execOp a.eval o).run P w = .ok (.value v) w)
    (hk : ∀ a', Env a0 D a' → a'.eval (.tmp d) = v → (∀ t, Nat.beq t d = false → a'.eval (.tmp t) = a.eval (.tmp t)) → wpList P ops Q rest a' w) : wpList P ops Q (o :: rest) a w := sq_val d hE k hd hn hD hg h hk
theorem sq_unit (hE : Env a0 D a) (hd : o.dst = none) (hg : o.guard = none) (h : (execOp a.eval o).run P w = .ok .skip w') (hk : wpList P ops Q rest a w') : wpList P ops Q (o :: rest) a w := by
  refine wpList_plain hg fun K hK => wp_of_skip h (hK _ _ ?_)
  rw [hd]
  exact hk
theorem sq_call {f : FuncId} {args : Array Value} {S : Ending → World → Prop} (d : Tmp) (hE : Env a0 D a) (k : Fr n a0) (hd : o.dst = some d) (hn : Nat.blt d n = true) (hD : D.contains d = true) (hg : o.guard = none)
    (h : (execOp a.eval o).run P w = .ok (.enter f args) w) (hc : Calls P f args w S)
    (hk : ∀ e w'', S e w'' → ∃ v, e = .returned v ∧ ∀ a', Env a0 D a' → a'.eval (.tmp d) = v → (∀ t, Nat.beq t d = false → a'.eval (.tmp t) = a.eval (.tmp t)) → wpList P ops Q rest a' w'') : wpList P ops Q (o :: rest) a w := by
  refine wpList_plain hg fun K hK => wp_of_enter h hc fun e w'' hS => ?_
  obtain ⟨v, he, hk⟩ := hk e w'' hS
  refine ⟨v, he, hK _ _ ?_⟩
  rw [hd]
  exact hk _ (hE.put hD v) (eval_put (by rw [hE.size, k.size]; exact Nat.le_of_ble_eq_true hn)) (fun t ht => eval_put_ne ht v)
theorem sq_valg {j dj : Nat} {b : Bool} (d : Tmp) (hE : Env a0 D a) (k : Fr n a0) (hd : o.dst = some d) (hn : Nat.blt d n = true) (hD : D.contains d = true) (hg : o.guard = some (j, b)) (hj : (ops[j]?).bind (·.dst) = some dj) (hb : a.eval (.tmp dj) = .bool b)
    (h : (execOp a.eval o).run P w = .ok (.value v) w')
    (hk : ∀ a', Env a0 D a' → a'.eval (.tmp d) = v → (∀ t, Nat.beq t d = false → a'.eval (.tmp t) = a.eval (.tmp t)) → wpList P ops Q rest a' w') : wpList P ops Q (o :: rest) a w := by
  refine wpList_step fun K hK => ?_
  rw [if_pos ((wanted_some hg hj hb).trans (by simp))]
  refine wp_of_value h (hK _ _ ?_)
  rw [hd]
  exact hk _ (hE.put hD v) (eval_put (by rw [hE.size, k.size]; exact Nat.le_of_ble_eq_true hn)) (fun t ht => eval_put_ne ht v)
theorem sq_detg {j dj : Nat} {b : Bool} (d : Tmp) (hE : Env a0 D a) (k : Fr n a0) (hd : o.dst = some d) (hn : Nat.blt d n = true) (hD : D.contains d = true) (hg : o.guard = some (j, b)) (hj : (ops[j]?).bind (·.dst) = some dj) (hb : a.eval (.tmp dj) = .bool b)
    (h : (execOp a.eval o).run P w = .ok (.value v) w)
    (hk : ∀ a', Env a0 D a' → a'.eval (.tmp d) = v → (∀ t, Nat.beq t d = false → a'.eval (.tmp t) = a.eval (.tmp t)) → wpList P ops Q rest a' w) : wpList P ops Q (o :: rest) a w := sq_valg d hE k hd hn hD hg hj hb h hk
theorem sq_callg {j dj : Nat} {b : Bool} {f : FuncId} {args : Array Value} {S : Ending → World → Prop} (d : Tmp) (hE : Env a0 D a) (k : Fr n a0) (hd : o.dst = some d) (hn : Nat.blt d n = true) (hD : D.contains d = true) (hg : o.guard = some (j, b)) (hj : (ops[j]?).bind (·.dst) = some dj) (hb : a.eval (.tmp dj) = .bool b)
    (h : (execOp a.eval o).run P w = .ok (.enter f args) w) (hc : Calls P f args w S)
    (hk : ∀ e w'', S e w'' → ∃ v, e = .returned v ∧ ∀ a', Env a0 D a' → a'.eval (.tmp d) = v → (∀ t, Nat.beq t d = false → a'.eval (.tmp t) = a.eval (.tmp t)) → wpList P ops Q rest a' w'') : wpList P ops Q (o :: rest) a w := by
  refine wpList_step fun K hK => ?_
  rw [if_pos ((wanted_some hg hj hb).trans (by simp))]
  refine wp_of_enter h hc fun e w'' hS => ?_
  obtain ⟨v, he, hk⟩ := hk e w'' hS
  refine ⟨v, he, hK _ _ ?_⟩
  rw [hd]
  exact hk _ (hE.put hD v) (eval_put (by rw [hE.size, k.size]; exact Nat.le_of_ble_eq_true hn)) (fun t ht => eval_put_ne ht v)
theorem sq_skipg {j dj : Nat} {b : Bool} (d : Tmp) (hE : Env a0 D a) (k : Fr n a0) (hd : o.dst = some d) (hn : Nat.blt d n = true) (hD : D.contains d = true) (hg : o.guard = some (j, b)) (hj : (ops[j]?).bind (·.dst) = some dj) (hb : a.eval (.tmp dj) = .bool (!b) ∨ a.eval (.tmp dj) = undef)
    (hk : ∀ a', Env a0 D a' → a'.eval (.tmp d) = undef → (∀ t, Nat.beq t d = false → a'.eval (.tmp t) = a.eval (.tmp t)) → wpList P ops Q rest a' w) : wpList P ops Q (o :: rest) a w := by
  refine wpList_step fun K hK => ?_
  have hw : Region.wanted o (yielded ops a.tmps) = false := by
    rcases hb with hb | hb
    · exact (wanted_some hg hj hb).trans (by simp)
    · exact wanted_undef hg hj hb
  rw [hw]
  simp only [Bool.false_eq_true, if_false]
  refine hK _ _ ?_
  rw [hd]
  exact hk _ (hE.put hD undef) (eval_put (by rw [hE.size, k.size]; exact Nat.le_of_ble_eq_true hn)) (fun t ht => eval_put_ne ht undef)
/-! What single operations yield. -/
variable {ρ : Operand → Value}
theorem x_move {x : Operand} (ho : o.op = .move x) (hx : ρ x = v) : (execOp ρ o).run P w = .ok (.value v) w := by simp [execOp, ho, hx]
theorem x_assign {x : Operand} (ho : o.op = .assign x) (hx : ρ x = v) : (execOp ρ o).run P w = .ok (.value v) w := by simp [execOp, ho, hx]
theorem x_pick_t {c x y : Operand} (ho : o.op = .pick c x y) (hc : ρ c = .bool true) (hx : ρ x = v) : (execOp ρ o).run P w = .ok (.value v) w := by simp [execOp, ho, hc, hx, asBool]
theorem x_pick_f {c x y : Operand} (ho : o.op = .pick c x y) (hc : ρ c = .bool false) (hx : ρ y = v) : (execOp ρ o).run P w = .ok (.value v) w := by simp [execOp, ho, hc, hx, asBool]
theorem x_nil {x : Operand} {ad : Addr} (ho : o.op = .nilCheck x) (hx : ρ x = .pointer (some ad)) : (execOp ρ o).run P w = .ok (.value (.pointer (some ad))) w := by simp [execOp, ho, hx]
theorem x_bin {op : BinOp} {t u : TypeId} {x y : Operand} {k : IntKind} {m n : Int} (ho : o.op = .binOp op t x y u) (hx : ρ x = .int k m) (hy : ρ y = .int k n) (h : (binOp op t (.int k m) (.int k n)).run P w = .ok v w) : (execOp ρ o).run P w = .ok (.value v) w := by
  unfold execOp
  simp only [ho, hx, hy]
  have hg : (eqGuard op t x y (.int k m) (.int k n)).run P w = .ok () w := by
    cases op <;> simp [eqGuard]
  simp [hg, h]
section
variable {t u : TypeId} {x y : Operand} {k : IntKind} {m n : Int}
theorem x_add (ho : o.op = .binOp .add t x y u) (hx : ρ x = .int .i64 m) (hy : ρ y = .int .i64 n) (h : -9223372036854775808 ≤ m + n ∧ m + n ≤ 9223372036854775807) : (execOp ρ o).run P w = .ok (.value (.int .i64 (m + n))) w :=
  x_bin ho hx hy (by simp [binOp, Op.intArith, IntWalk.i64_in _ h])
theorem x_sub (ho : o.op = .binOp .sub t x y u) (hx : ρ x = .int .i64 m) (hy : ρ y = .int .i64 n) (h : -9223372036854775808 ≤ m - n ∧ m - n ≤ 9223372036854775807) : (execOp ρ o).run P w = .ok (.value (.int .i64 (m - n))) w :=
  x_bin ho hx hy (by simp [binOp, Op.intArith, IntWalk.i64_in _ h])
theorem x_mul (ho : o.op = .binOp .mul t x y u) (hx : ρ x = .int .i64 m) (hy : ρ y = .int .i64 n) (h : -9223372036854775808 ≤ m * n ∧ m * n ≤ 9223372036854775807) : (execOp ρ o).run P w = .ok (.value (.int .i64 (m * n))) w :=
  x_bin ho hx hy (by simp [binOp, Op.intArith, IntWalk.i64_in _ h])
theorem x_lss (ho : o.op = .binOp .lss t x y u) (hx : ρ x = .int k m) (hy : ρ y = .int k n) : (execOp ρ o).run P w = .ok (.value (.bool (decide (m < n)))) w := x_bin ho hx hy (by simp [binOp, Op.intCmp])
theorem x_leq (ho : o.op = .binOp .leq t x y u) (hx : ρ x = .int k m) (hy : ρ y = .int k n) : (execOp ρ o).run P w = .ok (.value (.bool (decide (m ≤ n)))) w := x_bin ho hx hy (by simp [binOp, Op.intCmp])
theorem x_gtr (ho : o.op = .binOp .gtr t x y u) (hx : ρ x = .int k m) (hy : ρ y = .int k n) : (execOp ρ o).run P w = .ok (.value (.bool (decide (n < m)))) w := x_bin ho hx hy (by simp [binOp, Op.intCmp])
theorem x_geq (ho : o.op = .binOp .geq t x y u) (hx : ρ x = .int k m) (hy : ρ y = .int k n) : (execOp ρ o).run P w = .ok (.value (.bool (decide (n ≤ m)))) w := x_bin ho hx hy (by simp [binOp, Op.intCmp])
theorem x_eql (ho : o.op = .binOp .eql t x y u) (hx : ρ x = .int k m) (hy : ρ y = .int k n) : (execOp ρ o).run P w = .ok (.value (.bool (decide (m = n)))) w := x_bin ho hx hy (by simp [binOp, Op.intCmp, BEq.beq])
theorem x_neq (ho : o.op = .binOp .neq t x y u) (hx : ρ x = .int k m) (hy : ρ y = .int k n) : (execOp ρ o).run P w = .ok (.value (.bool (decide (m ≠ n)))) w := x_bin ho hx hy (by simp [binOp, Op.intCmp, bne, BEq.beq])
theorem x_not {b : Bool} (ho : o.op = .unOp .not t x) (hx : ρ x = .bool b) : (execOp ρ o).run P w = .ok (.value (.bool (!b))) w := by simp [execOp, ho, hx, Op.unary]
theorem x_len {A : Option Addr} {l c : Nat} {e : TypeId} (hu : P.underlying t = some (.slice e)) (ho : o.op = .call { callee := .builtin .len, args := #[x], argTypes := #[t] }) (hx : ρ x = .slice A l c) : (execOp ρ o).run P w = .ok (.value (.int .i64 (l : Int))) w := by
  simp [execOp, ho, hx, resolve, invoke, builtin, Builtin.len_, Builtin.lenOf, run_underlying hu, goInt]
theorem x_len_s {s : ByteArray} (hu : P.underlying t = some .string) (ho : o.op = .call { callee := .builtin .len, args := #[x], argTypes := #[t] }) (hx : ρ x = .string s) : (execOp ρ o).run P w = .ok (.value (.int .i64 (s.size : Int))) w := by
  simp [execOp, ho, hx, resolve, invoke, builtin, Builtin.len_, Builtin.lenOf, run_underlying hu, goInt]
theorem x_pick_b {c : Operand} {b : Bool} {v1 v2 : Value} (ho : o.op = .pick c x y) (hc : ρ c = .bool b) (hx : ρ x = v1) (hy : ρ y = v2) : (execOp ρ o).run P w = .ok (.value (if b then v1 else v2)) w := by
  cases b <;> simp [execOp, ho, hc, hx, hy, asBool]
end
theorem x_dec {b c : Bool} (h : (execOp ρ o).run P w = .ok (.value (.bool b)) w) (e : b = c) : (execOp ρ o).run P w = .ok (.value (.bool c)) w := e ▸ h
theorem x_val {v' : Value} (h : (execOp ρ o).run P w = .ok (.value v') w) (e : v' = v) : (execOp ρ o).run P w = .ok (.value v) w := e ▸ h
theorem int_eq {k : IntKind} {m n : Int} (h : m = n) : Value.int k m = .int k n := by rw [h]
theorem x_const {c : Value} {a : Act} : a.eval (.const c) = c := rfl
end
/-! Things by their place in the row. -/
section
variable {H : Nat} {A w : World} {L : List Thing} {T T' : Thing}
theorem OwnT.get (h : OwnT H A L w) (i : Nat) (hi : L[i]? = some T) : T.holds w := h.all.mem (List.mem_of_getElem? hi)
theorem OwnT.blk (h : OwnT H A L w) (i : Nat) {b : Nat} {t : TypeId} {cs : Array Value} (hi : L[i]? = some (tBlk b t cs)) : Blk w b t cs := h.get i hi
theorem perm_front {α : Type} : ∀ (L : List α) (i : Nat) (x : α), L[i]? = some x → L.Perm (x :: L.eraseIdx i)
  | [], i, x, h => by simp at h
  | y :: L, 0, x, h => by simp at h; subst h; exact .refl _
  | y :: L, i + 1, x, h => by
    simp at h
    exact ((perm_front L i x h).cons y).trans (.swap _ _ _)
theorem perm_set {α : Type} : ∀ (L : List α) (i : Nat) (x y : α), L[i]? = some x → (y :: L.eraseIdx i).Perm (L.set i y)
  | [], i, x, y, h => by simp at h
  | z :: L, 0, x, y, h => by simp
  | z :: L, i + 1, x, y, h => by
    simp at h
    exact (List.Perm.swap _ _ _).trans ((perm_set L i x y h).cons z)
/-- The thing at place i ahead of the others. -/
theorem OwnT.pull (h : OwnT H A L w) (i : Nat) (hi : L[i]? = some T) : OwnT H A (T :: L.eraseIdx i) w := h.perm (perm_front L i T hi)
/-- .. and back, turned. -/
theorem OwnT.push {w' : World} (i : Nat) (hi : L[i]? = some T) (h : OwnT H A (T' :: L.eraseIdx i) w') : OwnT H A (L.set i T') w' := h.perm (perm_set L i T T' hi)
/-- Some of the things, in whatever order. -/
theorem OwnT.pick (h : OwnT H A L w) (is : List Nat) (hn : is.Nodup) : OwnT H A (is.filterMap fun i => L[i]?) w := by
  have hm : ∀ x ∈ is.filterMap (fun i => L[i]?), x ∈ L := fun x hx => by
    obtain ⟨i, _, hi⟩ := List.mem_filterMap.1 hx
    exact List.mem_of_getElem? hi
  refine ⟨h.below, h.size, Ths.of fun x hx => h.all.mem (hm x hx), fun x hx => h.high x (hm x hx), ?_⟩
  rw [List.pairwise_filterMap]
  refine (List.nodup_iff_pairwise_ne.1 hn).imp fun {i j} hij x hx y hy k hk hk' => ?_
  have hd := List.pairwise_iff_getElem.1 h.diff
  obtain ⟨hi, rfl⟩ := List.getElem?_eq_some_iff.1 hx
  obtain ⟨hj, rfl⟩ := List.getElem?_eq_some_iff.1 hy
  rcases Nat.lt_or_gt_of_ne hij with h1 | h1
  · exact hd i j hi hj h1 k hk hk'
  · exact hd j i hj hi h1 k hk' hk
end
section
variable {P : Program} {Q : Exit → Act → World → Prop} {a a0 a' : Act} {w w' : World} {n : Nat} {D : List Tmp} {ops : Array Oper} {rest : List Oper} {o : Oper} {v : Value}
/-- A store into a block of one's own. -/
theorem sq_store {H : Nat} {A : World} {L : List Thing} {b off : Nat} {t : TypeId} {cs : Array Value} (O : OwnT H A L w) (i : Nat) (hi : L[i]? = some (tBlk b t cs)) (hE : Env a0 D a) (hd : o.dst = none) (hg : o.guard = none)
    (h : (execOp a.eval o).run P w = .ok .skip (w.setCell ⟨b, off, none⟩ v)) (hk : ∀ w', OwnT H A (L.set i (tBlk b t (cs.setIfInBounds off v))) w' → wpList P ops Q rest a w') : wpList P ops Q (o :: rest) a w :=
  sq_unit hE hd hg h (hk _ (OwnT.push i hi ((OwnT.pull O i hi).set off v)))
/-- A new block. -/
theorem sq_new {H : Nat} {A : World} {L : List Thing} {t : TypeId} {cs : Array Value} (O : OwnT H A L w) (d : Tmp) (hE : Env a0 D a) (k : Fr n a0) (hd : o.dst = some d) (hn : Nat.blt d n = true) (hD : D.contains d = true) (hg : o.guard = none)
    (h : (execOp a.eval o).run P w = .ok (.value (.pointer (some ⟨w.heap.size, 0, none⟩))) (w.alloc (.cells cs t)))
    (hk : ∀ g a' w', OwnT H A (tBlk g t cs :: L) w' → Env a0 D a' → a'.eval (.tmp d) = .pointer (some ⟨g, 0, none⟩) → (∀ t, Nat.beq t d = false → a'.eval (.tmp t) = a.eval (.tmp t)) → wpList P ops Q rest a' w') : wpList P ops Q (o :: rest) a w :=
  sq_val d hE k hd hn hD hg h (fun a' h1 h2 h3 => hk _ a' _ (O.new t cs) h1 h2 h3)
theorem sq_news {H : Nat} {A : World} {L : List Thing} {t : TypeId} {cs : Array Value} {m c : Nat} (O : OwnT H A L w) (d : Tmp) (hE : Env a0 D a) (k : Fr n a0) (hd : o.dst = some d) (hn : Nat.blt d n = true) (hD : D.contains d = true) (hg : o.guard = none)
    (h : (execOp a.eval o).run P w = .ok (.value (.slice (some ⟨w.heap.size, 0, none⟩) m c)) (w.alloc (.cells cs t)))
    (hk : ∀ g a' w', OwnT H A (tBlk g t cs :: L) w' → Env a0 D a' → a'.eval (.tmp d) = .slice (some ⟨g, 0, none⟩) m c → (∀ t, Nat.beq t d = false → a'.eval (.tmp t) = a.eval (.tmp t)) → wpList P ops Q rest a' w') : wpList P ops Q (o :: rest) a w :=
  sq_val d hE k hd hn hD hg h (fun a' h1 h2 h3 => hk _ a' _ (O.new t cs) h1 h2 h3)
/-- The last operation of a region whose others are done. -/
theorem last_store {H : Nat} {A : World} {L : List Thing} {b off : Nat} {t : TypeId} {cs : Array Value} (O : OwnT H A L w) (i : Nat) (hi : L[i]? = some (tBlk b t cs)) (hd : o.dst = none)
    (h : (execOp a.eval o).run P w = .ok .skip (w.setCell ⟨b, off, none⟩ v)) (hk : ∀ w', OwnT H A (L.set i (tBlk b t (cs.setIfInBounds off v))) w' → Q .normal a w') : o.wp P a w (fun a w => Q .normal a w) Q := by
  refine wp_of_skip h ?_
  rw [hd]
  exact hk _ (OwnT.push i hi ((OwnT.pull O i hi).set off v))
theorem Env.mono {D' : List Tmp} (hE : Env a0 D a) (h : D.all (fun d => D'.contains d) = true) : Env a0 D' a :=
  ⟨hE.size, hE.defers, fun t ht => hE.keep t (fun hd => ht (by have := List.all_eq_true.1 h t hd; simpa using this))⟩
theorem last_val (d : Tmp) (D' : List Tmp) (hE : Env a0 D a) (k : Fr n a0) (hd : o.dst = some d) (hn : Nat.blt d n = true) (hs : D.all (fun d => D'.contains d) = true) (hD : D'.contains d = true)
    (h : (execOp a.eval o).run P w = .ok (.value v) w')
    (hk : ∀ a', Env a0 D' a' → a'.eval (.tmp d) = v → (∀ t, Nat.beq t d = false → a'.eval (.tmp t) = a.eval (.tmp t)) → Q .normal a' w') : o.wp P a w (fun a w => Q .normal a w) Q := by
  refine wp_of_value h ?_
  rw [hd]
  exact hk _ ((hE.mono hs).put hD v) (eval_put (by rw [hE.size, k.size]; exact Nat.le_of_ble_eq_true hn)) (fun t ht => eval_put_ne ht v)
theorem last_call {f : FuncId} {args : Array Value} {S : Ending → World → Prop} (d : Tmp) (D' : List Tmp) (hE : Env a0 D a) (k : Fr n a0) (hd : o.dst = some d) (hn : Nat.blt d n = true) (hs : D.all (fun d => D'.contains d) = true) (hD : D'.contains d = true)
    (h : (execOp a.eval o).run P w = .ok (.enter f args) w) (hc : Calls P f args w S)
    (hk : ∀ e w'', S e w'' → ∃ v, e = .returned v ∧ ∀ a', Env a0 D' a' → a'.eval (.tmp d) = v → (∀ t, Nat.beq t d = false → a'.eval (.tmp t) = a.eval (.tmp t)) → Q .normal a' w'') : o.wp P a w (fun a w => Q .normal a w) Q := by
  refine wp_of_enter h hc fun e w'' hS => ?_
  obtain ⟨v, he, hk⟩ := hk e w'' hS
  refine ⟨v, he, ?_⟩
  rw [hd]
  exact hk _ ((hE.mono hs).put hD v) (eval_put (by rw [hE.size, k.size]; exact Nat.le_of_ble_eq_true hn)) (fun t ht => eval_put_ne ht v)
theorem x_append {ρ : Operand → Value} {x y : Operand} {t t' : TypeId} {u u' : Value} (ho : o.op = .call { callee := .builtin .append, args := #[x, y], argTypes := #[t, t'] }) (hx : ρ x = u) (hy : ρ y = u') (hr : (Builtin.append_ #[t, t'] o.type #[u, u']).run P w = .ok v w') :
    (execOp ρ o).run P w = .ok (.value v) w' := by
  unfold execOp
  simp only [ho, resolve, invoke, builtin, Sem.run_bind, Sem.run_pure, Result.andThen_ok, List.map_toArray, List.map_cons, List.map_nil, hx, hy, hr]
end
end Go.Proofs.Ytdpohbaeopidmaa
