/- Reflection: the machine is right. No function of the program in sight. -/
import Derived.Test.YtbfgacmfjfbooaaKReachExact02
import Derived.Test.YtbfgacmfjfbooaaKReachExact00
import Derived.Maps.RangeWalk
import Derived.Maps.Ext
import Derived.Lib.SlMapFilter
import Derived.ProofKit
import Derived.OpenShut
import Derived.ChangeOld
import Derived.Deep.Fields
namespace Go.Proofs.Ytbfgacmfjfbooaa
set_option linter.unusedVariables false
set_option linter.unusedSimpArgs false
open Go.RowKit

section
variable {P : Program} {fn : Func} {R : Ending → World → Prop} {T : TbG} {H n : Nat} {A : World} {m : Mp} {a : Act} {w : World}
theorem Al.opv (M : Al a m) : ∀ x v, opv m x = some v → a.eval x = v := fun x v h => by
  cases x with
  | tmp t => exact M t v h
  | const c => simp [Proofs.Ytbfgacmfjfbooaa.opv] at h; subst h; rfl
  | global g => simp [Proofs.Ytbfgacmfjfbooaa.opv] at h; subst h; rfl
  | func f => simp [Proofs.Ytbfgacmfjfbooaa.opv] at h; subst h; rfl
theorem Al.put (M : Al a m) (k : Fr n a) {d : Nat} (hd : Nat.blt d n = true) (v : Value) : Al (a.put (some d) v) ((d, v) :: m) := fun t u h => by
  simp only [lookM] at h
  have hlt : d < n := Nat.le_of_ble_eq_true hd
  split at h
  · rename_i hb
    obtain rfl := Nat.eq_of_beq_eq_true hb
    cases h
    exact Z0g (by rw [k.size]; exact hlt)
  · rename_i hb
    rw [Z10 (by cases hx : Nat.beq t d <;> first | rfl | (have := Nat.eq_of_beq_eq_true hx; subst this; rw [Nat.beq_refl] at hb; cases hb))]
    exact M t u h
theorem Fr.put (k : Fr n a) (d : Option Tmp) (v : Value) : Fr n (a.put d v) := by
  refine ⟨?_, ?_⟩
  · rw [← k.size]; cases d <;> simp [Act.put]
  · rw [← k.defers]; cases d <;> simp [Act.put]
theorem Z1k : ∀ (ks : List Kf) (c : List PanicEntry) (a : Act) (d : Option Tmp) (v : Value) (w : World), post P fn R ks (.panic c) (a.put d v) w → post P fn R ks (.panic c) a w
  | [], c, a, d, v, w, h => by
    have e : (a.put d v).defers = a.defers := by cases d <;> rfl
    exact ⟨e ▸ h.1, h.2⟩
  | .th _ :: ks, c, a, d, v, w, h => Z1k ks c a d v w h
  | .bl _ :: ks, c, a, d, v, w, h => Z1k ks c a d v w h
  | .sc :: ks, c, a, d, v, w, h => Z1k ks c a d v w h
  | .lp _ :: ks, c, a, d, v, w, h => Z1k ks c a d v w h
  | .st _ _ :: ks, c, a, d, v, w, h => Z1k ks c a d v w h
theorem Z4a {ops : List Oper} {o : Oper} {hs hs' : List Ht} {vc vc' : List Prop} {b : Bool} (e : gd m ops o.guard hs vc = some (b, hs', vc')) (hv : AllP vc') : AllP vc ∧ ∀ a, Al a m → Region.wanted o (yielded ⟨ops⟩ a.tmps) = b := by
  unfold gd at e
  split at e
  · rename_i hg
    cases e
    exact ⟨hv, fun a _ => Z0d hg⟩
  · rename_i j want hg
    split at e
    case h_2 => cases e
    rename_i dj _ _ _ _ _ hj
    rw [Z0w] at hj
    have hj' : (((⟨ops⟩ : Array Oper)[j]?).bind (·.dst)) = some dj := by simp [hj]
    split at e
    case h_3 => cases e
    · rename_i q hq
      have key : ∀ a, Al a m → Region.wanted o (yielded ⟨ops⟩ a.tmps) = (q == want) := fun a M => by
        exact Z14 hg hj' (M _ _ hq)
      split at e
      · cases e
        refine ⟨hv.2, fun a M => ?_⟩
        rw [key a M, hv.1]; cases b <;> rfl
      · split at e <;> cases e
        all_goals
          refine ⟨hv.2, fun a M => ?_⟩
          rw [key a M, hv.1]; rfl
      · split at e
        · cases e
          refine ⟨hv, fun a M => ?_⟩
          rw [key a M]; cases b <;> rfl
        · split at e <;> cases e
          all_goals
            refine ⟨hv, fun a M => ?_⟩
            rw [key a M]; rfl
    · rename_i hq
      cases e
      exact ⟨hv, fun a M => Z3e hg hj' (M _ _ hq)⟩
theorem Ths.pick : ∀ {L LI : List Thing} (js : List Nat), pickT L js = some LI → Ths w L → Ths w LI
  | L, LI, [], h, _ => by simp [pickT] at h; subst h; trivial
  | L, LI, j :: js, h, hw => by
    simp only [pickT] at h
    cases h1 : nthT L j with
    | none => rw [h1] at h; cases h
    | some t =>
      rw [h1] at h
      cases h2 : pickT L js with
      | none => simp [h2] at h
      | some r =>
        simp [h2] at h
        subst h
        exact ⟨Ths.nth L j t h1 hw, Ths.pick js h2 hw⟩
theorem Z2c {id : Nat} {ops : List Oper} {fr is : List Nat} {LI : List Thing} {ks : List Kf} (hf : P.follows .mixedOrders = true) (hk : okD ops fr is = true) (hI : Ths w.drew LI) (h : Sq P ⟨ops⟩ (post P fn R ks) fr (fun w => Ths w LI) is a w.drew) :
    (Code.region id ⟨ops⟩ true).wp P (post P fn R ks) a w := by
  simp only [okD, Bool.and_eq_true] at hk
  obtain ⟨⟨h1, h2⟩, h3⟩ := hk
  have h2 := Nat.eq_of_beq_eq_true h2
  have h4 := sq_any h3 (fun c a d v w => Z1k ks c a d v w) is _ a w.drew h1 hI h
  rw [h2] at h4
  exact wp_region_held (S := fun w => Ths w LI) hf h4
theorem Z4e {ops : Array Oper} {e : Nat} : ∀ {fr : List Nat}, waitsA ops e fr = true → ∀ i, memN fr i = true → waitsB ops e i = true
  | [], _, i, h => by simp [memN] at h
  | j :: fr, h, i, hi => by
    simp only [waitsA, Bool.and_eq_true] at h
    simp only [memN] at hi
    split at hi
    · rename_i hb
      obtain rfl := Nat.eq_of_beq_eq_true hb
      exact h.1
    · exact Z4e h.2 i hi
theorem Z59 {id e : Nat} {ops : List Oper} {fr is : List Nat} {LI : List Thing} {ks : List Kf} (hf : P.follows .mixedOrders = true) (hk : okE ops fr is e = true) (hI : Ths w.drew LI) (h : Sq P ⟨ops⟩ (post P fn R (.st ops e :: ks)) fr (fun w => Ths w LI) is a w.drew) :
    (Code.region id ⟨ops⟩ true).wp P (post P fn R ks) a w := by
  simp only [okE, Bool.and_eq_true, Bool.not_eq_true'] at hk
  obtain ⟨⟨⟨⟨h1, h2⟩, h3⟩, h4⟩, h5⟩ := hk
  have h2 := Nat.eq_of_beq_eq_true h2
  have h6 := Z6r (Q := post P fn R ks) (Q' := post P fn R (.st ops e :: ks)) h3 (fun c a d v w => Z1k ks c a d v w) (fun c a w hh => hh) (fun hh => hh) (Z4e h4) h5 (fun a w hh => hh) is _ a w.drew h1 hI h
  rw [h2] at h6
  exact wp_region_any hf (Z4d _ _ _ _ h6)
theorem region_lit {id : Nat} {ops : List Oper} {is : List Nat} {ks : List Kf} (hi : idxs 0 ops = some is) (h : Sq P ⟨ops⟩ (post P fn R ks) [] (fun w => Ths w []) is a w) : (Code.region id ⟨ops⟩ false).wp P (post P fn R ks) a w := by
  refine wp_region ?_
  have := sq_ops is a w h
  rw [idxs_ok _ _ _ hi] at this
  rw [List.range_eq_range']
  exact this
variable {ops : List Oper} {fr is : List Nat} {LI : List Thing} {ks : List Kf} {L : List Thing} {i : Nat} {o : Oper}
/-- An operation of a known value. -/
theorem Z7k {d : Nat} {v : Value} (hi : nthT ops i = some o) (hd : o.dst = some d) (hb : Nat.blt d n = true) (hw : ∀ a, Al a m → Region.wanted o (yielded ⟨ops⟩ a.tmps) = true)
    (hr : memN fr i = true → ∀ a, Al a m → ∀ w, Ths w LI → (execOp a.eval o).run P w = .ok (.value v) w) (hr' : memN fr i = false → ∀ a, Al a m → ∀ w, Ths w L → (execOp a.eval o).run P w = .ok (.value v) w)
    (hnext : ∀ a w, Hold H A L n ((d, v) :: m) (.s ops fr LI is) a w → At P fn R ks (.s ops fr LI is) a w) (h : Hold H A L n m (.s ops fr LI (i :: is)) a w) : At P fn R ks (.s ops fr LI (i :: is)) a w := by
  rw [Z0w] at hi
  have hi' : (⟨ops⟩ : Array Oper)[i]? = some o := by simpa using hi
  refine ⟨o, hi', ?_⟩
  have hN : Hold H A L n ((d, v) :: m) (.s ops fr LI is) (a.put (some d) v) w := ⟨h.O, h.k.put _ _, h.M.put h.k hb v, h.J⟩
  cases hm : memN fr i with
  | true => exact ⟨v, .inl ⟨hw a h.M, hr hm a h.M⟩, by rw [hd]; exact hnext _ _ hN⟩
  | false =>
    unfold wpOp
    simp only [hi', hw a h.M, if_true]
    refine .inl (Z0z (hr' hm a h.M w h.O.all) ⟨h.J, ?_⟩)
    rw [hd]
    exact hnext _ _ hN
/-- One that isn't wanted. -/
theorem sq_not {m' : Mp} (hi : nthT ops i = some o) (hw : ∀ a, Al a m → Region.wanted o (yielded ⟨ops⟩ a.tmps) = false)
    (hnext : ∀ a w, Hold H A L n m' (.s ops fr LI is) a w → At P fn R ks (.s ops fr LI is) a w) (hm : ∀ a, Fr n a → Al a m → Al (a.put o.dst undef) m') (h : Hold H A L n m (.s ops fr LI (i :: is)) a w) : At P fn R ks (.s ops fr LI (i :: is)) a w := by
  rw [Z0w] at hi
  have hi' : (⟨ops⟩ : Array Oper)[i]? = some o := by simpa using hi
  refine ⟨o, hi', ?_⟩
  have hN : Hold H A L n m' (.s ops fr LI is) (a.put o.dst undef) w := ⟨h.O, h.k.put _ _, hm a h.k h.M, h.J⟩
  cases memN fr i with
  | true => exact ⟨undef, .inr ⟨hw a h.M, rfl⟩, hnext _ _ hN⟩
  | false =>
    unfold wpOp
    simp only [hi', hw a h.M, Bool.false_eq_true, if_false]
    exact ⟨h.J, hnext _ _ hN⟩
end

section
variable {P : Program} {fn : Func} {R : Ending → World → Prop} {T : TbG} {H n : Nat} {A : World} {m : Mp} {a : Act} {w : World} {ops : List Oper} {fr is : List Nat} {LI : List Thing} {ks : List Kf} {L : List Thing} {i : Nat}
theorem Z82 {op : Op} {hs hs' : List Ht} {vc vc' : List Prop} {v : Value} (hT : TOk P T) (e : ex1 T m L op hs vc = some (v, hs', vc')) (hv : AllP vc') : AllP vc :=
  (ex1_ok (P := P) (o := ⟨none, op, 0, "", #[], none⟩) (ρ := fun x => (opv m x).getD undef) hT (fun x v h => by simp [h]) v hs' vc' e hv).1
theorem stOp_vc {dst : Option Tmp} {op : Op} {hs : List Ht} {vc : List Prop} {kb : Bool} {s : St} (hT : TOk P T) (e : stOp T n ops fr LI i is dst op ks L m hs vc kb = some s) (hv : AllP s.vc) : AllP vc := by
  unfold stOp at e
  split at e
  · split at e
    · split at e
      case h_2 => cases e
      rename_i h1
      cases e
      exact Z82 hT h1 hv
    · split at e
      case h_2 => cases e
      rename_i h1
      cases e
      exact Z82 hT h1 hv
  · split at e
    case h_1 => cases e
    split at e
    case h_2 => cases e
    split at e
    case h_2 => cases e
    rename_i t x y
    split at e
    case h_2 => cases e
    split at e
    case h_2 => cases e
    split at e
    case h_2 => cases e
    rename_i h1
    cases e
    exact (Z79 (P := P) (o := ⟨none, .store t x y, 0, "", #[], none⟩) (H := 0) (A := default) hT rfl h1 hv).1
theorem stOp_ok {dst : Option Tmp} {op : Op} {ty : TypeId} {pos : String} {af : Array Edge} {g : Option (Nat × Bool)} {hs : List Ht} {vc : List Prop} {kb : Bool} {s : St} (hT : TOk P T) (hi : nthT ops i = some ⟨dst, op, ty, pos, af, g⟩)
    (hw : ∀ a, Al a m → Region.wanted ⟨dst, op, ty, pos, af, g⟩ (yielded ⟨ops⟩ a.tmps) = true) (e : stOp T n ops fr LI i is dst op ks L m hs vc kb = some s) (hv : AllP s.vc) (hk : s.kb = true) (hnext : ∀ a w, Hold H A s.L n s.m s.pc a w → At P fn R s.ks s.pc a w) :
    AllP vc ∧ kb = true ∧ ∀ a w, Hold H A L n m (.s ops fr LI (i :: is)) a w → At P fn R ks (.s ops fr LI (i :: is)) a w := by
  unfold stOp at e
  split at e
  · rename_i d
    split at e
    · rename_i hm
      split at e
      case h_2 => cases e
      rename_i v hs' vc' h1
      cases e
      simp only [Bool.and_eq_true] at hk
      have hg := fun (a : Act) (M : Al a m) => ex1_ok (P := P) (o := ⟨some d, op, ty, pos, af, g⟩) (ρ := a.eval) (L := LI) (vc := vc) (hs := hs) hT M.opv v hs' vc' h1 hv
      exact ⟨Z82 hT h1 hv, hk.2, fun a w h => Z7k hi rfl hk.1 hw (fun _ a M => (hg a M).2) (fun hm' => by rw [hm] at hm'; cases hm') hnext h⟩
    · rename_i hm
      split at e
      case h_2 => cases e
      rename_i v hs' vc' h1
      cases e
      simp only [Bool.and_eq_true] at hk
      have hg := fun (a : Act) (M : Al a m) => ex1_ok (P := P) (o := ⟨some d, op, ty, pos, af, g⟩) (ρ := a.eval) (L := L) (vc := vc) (hs := hs) hT M.opv v hs' vc' h1 hv
      exact ⟨Z82 hT h1 hv, hk.2, fun a w h => Z7k hi rfl hk.1 hw (fun hm' => by rw [hm] at hm'; cases hm') (fun _ a M => (hg a M).2) hnext h⟩
  · split at e
    case h_1 => cases e
    rename_i hm
    split at e
    case h_2 => cases e
    split at e
    case h_2 => cases e
    rename_i t x y
    split at e
    case h_2 => cases e
    rename_i p hp
    split at e
    case h_2 => cases e
    rename_i v hv0
    split at e
    case h_2 => cases e
    rename_i L' hs' vc' h1
    cases e
    obtain ⟨h2, h3⟩ := Z79 (P := P) (o := ⟨none, .store t x y, ty, pos, af, g⟩) (H := H) (A := A) hT rfl h1 hv
    refine ⟨h2, hk, fun a w h => ?_⟩
    rw [Z0w] at hi
    have hi' : (⟨ops⟩ : Array Oper)[i]? = some ⟨none, .store t x y, ty, pos, af, g⟩ := by simpa using hi
    refine ⟨_, hi', ?_⟩
    rw [hm]
    unfold wpOp
    simp only [hi', hw a h.M, if_true]
    obtain ⟨w', h4, h5⟩ := h3 a.eval w (h.M.opv _ _ hp) (h.M.opv _ _ hv0) h.O
    exact .inl (Z1t h4 ⟨trivial, hnext _ _ ⟨h5, h.k, h.M, trivial⟩⟩)
theorem stp_ok {pc : Pc} {hs : List Ht} {vc : List Prop} {kb : Bool} {s : St} (hT : TOk P T) (hf : P.follows .mixedOrders = true) (e : stp T n pc ks L m hs vc kb = some s) (hv : AllP s.vc) (hk : s.kb = true) (hnext : ∀ a w, Hold H A s.L n s.m s.pc a w → At P fn R s.ks s.pc a w) :
    AllP vc ∧ kb = true ∧ ∀ a w, Hold H A L n m pc a w → At P fn R ks pc a w := by
  unfold stp at e
  split at e
  · -- code
    rename_i c
    split at e
    · cases e; exact ⟨hv, hk, fun a w h => wp_skip (hnext a w ⟨h.O, h.k, h.M, trivial⟩)⟩
    · cases e; exact ⟨hv, hk, fun a w h => wp_label (hnext a w ⟨h.O, h.k, h.M, trivial⟩)⟩
    · cases e; exact ⟨hv, hk, fun a w h => wp_ret (hnext a w ⟨h.O, h.k, h.M, trivial⟩)⟩
    · cases e; exact ⟨hv, hk, fun a w h => wp_exit (hnext a w ⟨h.O, h.k, h.M, trivial⟩)⟩
    · cases e; exact ⟨hv, hk, fun a w h => wp_seq (hnext a w ⟨h.O, h.k, h.M, trivial⟩)⟩
    · cases e; exact ⟨hv, hk, fun a w h => wp_block (hnext a w ⟨h.O, h.k, h.M, trivial⟩)⟩
    · cases e; exact ⟨hv, hk, fun a w h => wp_scope_straight (hnext a w ⟨h.O, h.k, h.M, trivial⟩)⟩
    · split at e
      case h_2 => cases e
      rename_i q hq
      split at e
      · cases e; exact ⟨hv.2, hk, fun a w h => wp_cond_true (by rw [h.M.opv _ _ hq, hv.1]) (hnext a w ⟨h.O, h.k, h.M, trivial⟩)⟩
      · cases e; exact ⟨hv.2, hk, fun a w h => wp_cond_false (by rw [h.M.opv _ _ hq, hv.1]) (hnext a w ⟨h.O, h.k, h.M, trivial⟩)⟩
      · split at e
        · cases e; exact ⟨hv, hk, fun a w h => wp_cond_true (h.M.opv _ _ hq) (hnext a w ⟨h.O, h.k, h.M, trivial⟩)⟩
        · cases e; exact ⟨hv, hk, fun a w h => wp_cond_false (h.M.opv _ _ hq) (hnext a w ⟨h.O, h.k, h.M, trivial⟩)⟩
    · split at e
      · split at e
        case h_2 => cases e
        rename_i is hi
        cases e
        exact ⟨hv, hk, fun a w h => region_lit hi (hnext a w ⟨h.O, h.k, h.M, trivial⟩)⟩
      · split at e
        case h_2 => cases e
        split at e
        case h_2 => cases e
        rename_i is fr ef _
        split at e
        · cases e
          simp only [Bool.and_eq_true] at hk
          exact ⟨hv, hk.2, fun a w h => Z2c hf hk.1 h.O.drew.all (hnext a w.drew ⟨h.O.drew, h.k, h.M, h.O.drew.all⟩)⟩
        · split at e
          · split at e
            case h_2 => cases e
            rename_i LI hp
            split at e
            · split at e
              case h_2 => cases e
              cases e
              simp only [Bool.and_eq_true] at hk
              exact ⟨hv, hk.2, fun a w h => Z59 hf hk.1 (Ths.pick _ hp h.O.drew.all) (hnext a w.drew ⟨h.O.drew, h.k, h.M, Ths.pick _ hp h.O.drew.all⟩)⟩
            · cases e
              simp only [Bool.and_eq_true] at hk
              exact ⟨hv, hk.2, fun a w h => Z2c hf hk.1 (Ths.pick _ hp h.O.drew.all) (hnext a w.drew ⟨h.O.drew, h.k, h.M, Ths.pick _ hp h.O.drew.all⟩)⟩
          · cases e
            simp only [Bool.and_eq_true] at hk
            exact ⟨hv, hk.2, fun a w h => Z2c (LI := []) hf hk.1 trivial (hnext a w.drew ⟨h.O.drew, h.k, h.M, trivial⟩)⟩
    · cases e
  · -- an exit
    rename_i ex
    split at e
    · cases e
    · split at e
      · cases e; exact ⟨hv, hk, fun a w h => hnext a w ⟨h.O, h.k, h.M, trivial⟩⟩
      · cases e; exact ⟨hv, hk, fun a w h => hnext a w ⟨h.O, h.k, h.M, trivial⟩⟩
      · cases e; exact ⟨hv, hk, fun a w h => hnext a w ⟨h.O, h.k, h.M, trivial⟩⟩
      · cases e
    · split at e
      · cases e; exact ⟨hv, hk, fun a w h => hnext a w ⟨h.O, h.k, h.M, trivial⟩⟩
      · split at e
        · rename_i hb
          obtain rfl := Nat.eq_of_beq_eq_true hb
          cases e; exact ⟨hv, hk, fun a w h => Z1q (hnext a w ⟨h.O, h.k, h.M, trivial⟩)⟩
        · rename_i hb
          cases e; exact ⟨hv, hk, fun a w h => block_o hb (hnext a w ⟨h.O, h.k, h.M, trivial⟩)⟩
      · cases e; exact ⟨hv, hk, fun a w h => hnext a w ⟨h.O, h.k, h.M, trivial⟩⟩
      · cases e
    · split at e
      · cases e; exact ⟨hv, hk, fun a w h => hnext a w ⟨h.O, h.k, h.M, trivial⟩⟩
      · cases e; exact ⟨hv, hk, fun a w h => hnext a w ⟨h.O, h.k, h.M, trivial⟩⟩
      · cases e; exact ⟨hv, hk, fun a w h => hnext a w ⟨h.O, h.k, h.M, trivial⟩⟩
      · cases e
    · split at e
      · cases e; exact ⟨hv, hk, fun a w h => hnext a w ⟨h.O, h.k, h.M, trivial⟩⟩
      · cases e; exact ⟨hv, hk, fun a w h => hnext a w ⟨h.O, h.k, h.M, trivial⟩⟩
      · cases e
    · split at e
      · cases e; exact ⟨hv, hk, fun a w h => hnext a w ⟨h.O, h.k, h.M, trivial⟩⟩
      · cases e
  · -- operations
    rename_i ops fr LI is
    split at e
    · cases e; exact ⟨hv, hk, fun a w h => hnext a w ⟨h.O, h.k, h.M, trivial⟩⟩
    · rename_i i is
      split at e
      case h_2 => cases e
      rename_i dst op ty pos af g hi
      split at e
      case h_3 => cases e
      · rename_i hs' vc' hg
        have hg2 := fun hv => Z4a (o := ⟨dst, op, ty, pos, af, g⟩) hg hv
        have hvc : AllP vc' := stOp_vc hT e hv
        obtain ⟨h1, h2⟩ := hg2 hvc
        obtain ⟨_, h4, h5⟩ := stOp_ok hT hi h2 e hv hk hnext
        exact ⟨h1, h4, h5⟩
      · rename_i hs' vc' hg
        split at e
        · rename_i d
          cases e
          simp only [Bool.and_eq_true] at hk
          obtain ⟨h1, h2⟩ := Z4a (o := ⟨some d, op, ty, pos, af, g⟩) hg hv
          exact ⟨h1, hk.2, fun a w h => sq_not hi h2 hnext (fun a k M => M.put k hk.1 _) h⟩
        · cases e
          obtain ⟨h1, h2⟩ := Z4a (o := ⟨none, op, ty, pos, af, g⟩) hg hv
          exact ⟨h1, hk, fun a w h => sq_not hi h2 hnext (fun a k M => M) h⟩
theorem run_ok (hT : TOk P T) (hf : P.follows .mixedOrders = true) : ∀ (f : Nat) (pc : Pc) (ks : List Kf) (L : List Thing) (m : Mp) (hs : List Ht) (vc : List Prop) (kb : Bool) (s : St), run T n f pc ks L m hs vc kb = some s → AllP s.vc → s.kb = true → (∀ a w, Hold H A s.L n s.m s.pc a w → At P fn R s.ks s.pc a w) →
    AllP vc ∧ kb = true ∧ ∀ a w, Hold H A L n m pc a w → At P fn R ks pc a w
  | 0, pc, ks, L, m, hs, vc, kb, s, e, hv, hk, hnext => by
    simp only [run] at e
    cases e
    exact ⟨hv, hk, hnext⟩
  | f + 1, pc, ks, L, m, hs, vc, kb, s, e, hv, hk, hnext => by
    simp only [run] at e
    split at e
    · rename_i pc' ks' L' m' hs' vc' kb' h1
      obtain ⟨h2, h3, h4⟩ := run_ok hT hf f pc' ks' L' m' hs' vc' kb' s e hv hk hnext
      exact stp_ok hT hf h1 h2 h3 h4
    · cases e
      exact ⟨hv, hk, hnext⟩
/-- Straight code, to where more must be told. -/
theorem exG {pc pc' : Pc} {ks' : List Kf} {L' : List Thing} {m' : Mp} {hs' : List Ht} {vc' : List Prop} {kb' : Bool} (hT : TOk P T) (hf : P.follows .mixedOrders = true) (h : Hold H A L n m pc a w) (hs : List Ht) (f : Nat)
    (e : run T n f pc ks L m hs [] true = some ⟨pc', ks', L', m', hs', vc', kb'⟩) (hk : kb' = true) (hv : AllP vc') (hn : ∀ a w, Hold H A L' n m' pc' a w → At P fn R ks' pc' a w) : At P fn R ks pc a w :=
  (run_ok hT hf f pc ks L m hs [] true _ e hv hk hn).2.2 a w h
/-! Functions. -/
def zipM : Nat → List Value → Mp
  | _, [] => []
  | i, v :: vs => (i, v) :: zipM (i + 1) vs
theorem Z5p : ∀ (vs : List Value) (i t : Nat) (v : Value), lookM (zipM i vs) t = some v → ∃ j, t = i + j ∧ vs[j]? = some v
  | [], _, _, _, h => by simp [zipM, lookM] at h
  | u :: vs, i, t, v, h => by
    simp only [zipM, lookM] at h
    split at h
    · rename_i hb
      cases h
      exact ⟨0, (Nat.eq_of_beq_eq_true hb).symm, rfl⟩
    · obtain ⟨j, h1, h2⟩ := Z5p vs (i + 1) t v h
      exact ⟨j + 1, by omega, by simpa using h2⟩
theorem fnG {f : FuncId} {c : Code} {args : List Value} (O : OwnT H A L w) (n : Nat) (hfn : P.funcs[f]? = some fn) (hb : fn.body = some c) (hn : fn.ntmps = n) (hle : Nat.ble args.length n = true)
    (h : ∀ a, Hold H A L n (zipM 0 args) (.c c) a w → At P fn R [] (.c c) a w) : Calls P f ⟨args⟩ w R := by
  refine Z0a hfn hb n hn hle fun a k ha => h a ⟨O, k, fun t v hl => ?_, trivial⟩
  obtain ⟨j, rfl, hj⟩ := Z5p _ _ _ _ hl
  rw [Nat.zero_add]
  exact ha j v (by simpa using hj)
end

def app2 : List Value → List Value → Option (List Value)
  | [], r => some r
  | x :: l, r => match app2 l r with
    | some z => some (x :: z)
    | none => none
theorem Z5l : ∀ (l r z : List Value), app2 l r = some z → z = l ++ r
  | [], r, z, h => by simp [app2] at h; subst h; rfl
  | x :: l, r, z, h => by
    simp only [app2] at h
    cases h1 : app2 l r with
    | none => rw [h1] at h; cases h
    | some z' => rw [h1] at h; cases h; rw [Z5l l r z' h1]; rfl
/-- A call at place i: function, arguments, slot. -/
def clV (m : Mp) (ops : List Oper) (fr : List Nat) (i : Nat) (hs : List Ht) : Option (FuncId × List Value × Nat × List Prop) := match nthT ops i with
  | some ⟨some d, .call ⟨.value x, ⟨xs⟩, _⟩, _, _, _, g⟩ => match memN fr i with
    | true => none
    | false => match gd m ops g hs [] with
      | some (true, _, vc) => match opv m x with
        | some (.func (.func f) ⟨fs⟩ ⟨cs⟩) => match ovs m xs with
          | some vs => match app2 vs cs with
            | some us => match app2 fs us with
              | some zs => some (f, zs, d, vc)
              | none => none
            | none => none
          | none => none
        | _ => none
      | _ => none
  | _ => none
def okCall (P : Program) (f : FuncId) : Bool := match P.funcs[f]? with
  | some fn => fn.body.isSome && !(fn.name == "runtime.NumGoroutine")
  | none => false
def subM (m : Mp) : Mp → Prop
  | [] => True
  | (t, v) :: l => lookM m t = some v ∧ subM m l
section
variable {P : Program} {fn : Func} {R : Ending → World → Prop} {T : TbG} {H n : Nat} {A : World} {m m' : Mp} {a : Act} {w : World} {ops : List Oper} {fr is : List Nat} {LI : List Thing} {ks : List Kf} {L L' : List Thing} {i : Nat} {hs : List Ht} {vc : List Prop}
theorem Al.sub (M : Al a m) : ∀ {l : Mp}, subM m l → Al a l
  | [], _, t, v, h => by simp [lookM] at h
  | (u, x) :: l, h, t, v, hl => by
    simp only [lookM] at hl
    split at hl
    · rename_i hb
      obtain rfl := Nat.eq_of_beq_eq_true hb
      cases hl
      exact M _ _ h.1
    · exact Al.sub M h.2 t v hl
theorem run_call {f : FuncId} {o : Oper} {x : Operand} {xs : List Operand} {ts : Array TypeId} {fs cs vs : List Value} {ρ : Operand → Value} (hok : okCall P f = true) (ho : o.op = .call ⟨.value x, ⟨xs⟩, ts⟩) (hx : ρ x = .func (.func f) ⟨fs⟩ ⟨cs⟩) (hv : xs.map ρ = vs) :
    (execOp ρ o).run P w = .ok (.enter f ⟨fs ++ (vs ++ cs)⟩) w := by
  unfold okCall at hok
  cases hf : P.funcs[f]? with
  | none => rw [hf] at hok; cases hok
  | some g =>
    rw [hf] at hok
    simp only [Bool.and_eq_true, Bool.not_eq_true'] at hok
    have hb : g.body.isNone = false := by cases hg : g.body <;> simp_all
    unfold execOp
    simp only [ho, resolve, hx, Deferred.ofValue, Sem.run_bind, Sem.run_pure, Result.andThen_ok, invoke, callFunc]
    have hn : ¬ g.name = "runtime.NumGoroutine" := by simpa using hok.2
    have hb2 : ¬ g.body = none := fun h => by rw [h] at hb; cases hb
    simp [hf, hn, hb2, hv]
theorem clG {f : FuncId} {args : List Value} {d : Nat} {S : Ending → World → Prop} (h : Hold H A L n m (.s ops fr LI (i :: is)) a w) (hs : List Ht) (e : clV m ops fr i hs = some (f, args, d, vc)) (hc : Calls P f ⟨args⟩ w S)
    (hn : ∀ e w', S e w' → ∃ v, e = .returned v ∧ ∃ L', OwnT H A L' w' ∧ Ths w' LI ∧ ∀ a', Hold H A L' n ((d, v) :: m) (.s ops fr LI is) a' w' → At P fn R ks (.s ops fr LI is) a' w')
    (hv : AllP vc := by trivial) (hok : okCall P f = true := by kernel_rfl) (hb : Nat.blt d n = true := by rfl) : At P fn R ks (.s ops fr LI (i :: is)) a w := by
  unfold clV at e
  split at e
  case h_2 => cases e
  rename_i d' x xs ts ty pos af g hi
  split at e
  case h_1 => cases e
  rename_i hm
  split at e
  case h_2 => cases e
  rename_i hs' vc' hg
  split at e
  case h_2 => cases e
  rename_i f' fs cs hx
  split at e
  case h_2 => cases e
  rename_i vs hvs
  split at e
  case h_2 => cases e
  rename_i us hus
  split at e
  case h_2 => cases e
  rename_i zs hzs
  cases e
  obtain ⟨-, hw⟩ := Z4a (o := ⟨some d, .call ⟨.value x, ⟨xs⟩, ts⟩, ty, pos, af, g⟩) hg hv
  rw [Z0w] at hi
  have hi' : (⟨ops⟩ : Array Oper)[i]? = some ⟨some d, .call ⟨.value x, ⟨xs⟩, ts⟩, ty, pos, af, g⟩ := by simpa using hi
  have hrun := run_call (P := P) (w := w) (o := ⟨some d, .call ⟨.value x, ⟨xs⟩, ts⟩, ty, pos, af, g⟩) (ρ := a.eval) hok rfl (h.M.opv _ _ hx) (Z63 h.M.opv _ _ hvs)
  rw [← Z5l _ _ _ hus, ← Z5l _ _ _ hzs] at hrun
  refine ⟨_, hi', ?_⟩
  rw [hm]
  unfold wpOp
  simp only [hi', hw a h.M, if_true]
  refine .inl (Z21 hrun hc fun e w'' hS => ?_)
  obtain ⟨v, he, L', hO, hI, hnx⟩ := hn e w'' hS
  exact ⟨v, he, hI, hnx _ ⟨hO, h.k.put _ _, h.M.put h.k hb v, hI⟩⟩
/-- An operation shown by hand: its value, and the world behind it. -/
theorem spG {o : Oper} {d : Nat} {v : Value} {w' : World} (h : Hold H A L n m (.s ops fr LI (i :: is)) a w) (hs : List Ht) (ho : nthT ops i = some o) (hd : o.dst = some d) (e : gd m ops o.guard hs [] = some (true, hs, vc)) (hr : (execOp a.eval o).run P w = .ok (.value v) w') (O : OwnT H A L' w') (hI : Ths w' LI)
    (hn : ∀ a', Hold H A L' n ((d, v) :: m) (.s ops fr LI is) a' w' → At P fn R ks (.s ops fr LI is) a' w') (hm : memN fr i = false := by rfl) (hv : AllP vc := by trivial) (hb : Nat.blt d n = true := by rfl) : At P fn R ks (.s ops fr LI (i :: is)) a w := by
  obtain ⟨-, hw⟩ := Z4a (o := o) e hv
  rw [Z0w] at ho
  have hi' : (⟨ops⟩ : Array Oper)[i]? = some o := by simpa using ho
  refine ⟨_, hi', ?_⟩
  rw [hm]
  unfold wpOp
  simp only [hi', hw a h.M, if_true]
  refine .inl (Z0z hr ⟨hI, ?_⟩)
  rw [hd]
  exact hn _ ⟨O, h.k.put _ _, h.M.put h.k hb v, hI⟩
/-- .. without a slot. -/
theorem suG {o : Oper} {w' : World} (h : Hold H A L n m (.s ops fr LI (i :: is)) a w) (hs : List Ht) (ho : nthT ops i = some o) (hd : o.dst = none) (e : gd m ops o.guard hs [] = some (true, hs, vc)) (hr : (execOp a.eval o).run P w = .ok .skip w') (O : OwnT H A L' w') (hI : Ths w' LI)
    (hn : ∀ a', Hold H A L' n m (.s ops fr LI is) a' w' → At P fn R ks (.s ops fr LI is) a' w') (hm : memN fr i = false := by rfl) (hv : AllP vc := by trivial) : At P fn R ks (.s ops fr LI (i :: is)) a w := by
  obtain ⟨-, hw⟩ := Z4a (o := o) e hv
  rw [Z0w] at ho
  have hi' : (⟨ops⟩ : Array Oper)[i]? = some o := by simpa using ho
  refine ⟨_, hi', ?_⟩
  rw [hm]
  unfold wpOp
  simp only [hi', hw a h.M, if_true]
  refine .inl (Z1t hr ⟨hI, ?_⟩)
  rw [hd]
  exact hn _ ⟨O, h.k, h.M, hI⟩
/-! New blocks. -/
/-- A block that is made: its type, its cells; a slice of so many (none: a pointer). -/
def nwV (T : TbG) (m : Mp) (op : Op) : Option (TypeId × List Value) := match op with
  | .alloc t => match nthT T t with
    | some (_, some z, _) => match cellsV z with
      | some cs => some (t, cs)
      | none => none
    | _ => none
  | .box t x => match opv m x with
    | some v => match cellsV v with
      | some cs => some (t, cs)
      | none => none
    | none => none
  | _ => none
theorem nwV_run {o : Oper} {t : TypeId} {cs : List Value} (hT : TOk P T) (e : nwV T m o.op = some (t, cs)) (M : Al a m) (w : World) : (execOp a.eval o).run P w = .ok (.value (.pointer (some ⟨w.heap.size, 0, none⟩))) (w.alloc (.cells ⟨cs⟩ t)) := by
  unfold nwV at e
  split at e
  · rename_i t0 ho
    split at e
    case h_2 => cases e
    rename_i td z zn hd
    split at e
    case h_2 => cases e
    rename_i cs' hc
    cases e
    have hz := zer_run (P := P) ((hT.at_ _ _ hd).2.2.1 z rfl) w
    unfold execOp
    simp only [ho, Instr.alloc, Sem.run_bind, hz, Result.andThen_ok]
    simp [newVar, newRow, Z1z hc]
  · rename_i t0 x ho
    split at e
    case h_2 => cases e
    rename_i v hv
    split at e
    case h_2 => cases e
    rename_i cs' hc
    cases e
    unfold execOp
    simp [ho, Instr.box, M.opv _ _ hv, newVar, newRow, Z1z hc]
  · cases e
theorem Ths.ext {w' : World} : ∀ {LI : List Thing}, Ths w LI → Ext w w' → Ths w' LI
  | [], _, _ => trivial
  | T :: LI, h, k => ⟨T.chg h.1 (Chg.of_ext k []) (by simp), Ths.ext h.2 k⟩
/-! Results. -/
def resL (T : TbG) (m : Mp) (L : List Thing) : List ResultVar → List Ht → List Prop → Option (List Value × List Prop)
  | [], _, vc => some ([], vc)
  | .tmp t :: rs, hs, vc => match lookM m t with
    | some v => match resL T m L rs hs vc with
      | some (vs, vc) => some (v :: vs, vc)
      | none => none
    | none => none
  | .cell t ty :: rs, hs, vc => match lookM m t with
    | some p => match exLd T L ty p hs vc with
      | some (v, hs, vc) => match resL T m L rs hs vc with
        | some (vs, vc) => some (v :: vs, vc)
        | none => none
      | none => none
    | none => none
def retV (T : TbG) (m : Mp) (L : List Thing) (rs : List ResultVar) (hs : List Ht) : Option (Value × List Prop) := match resL T m L rs hs [] with
  | some ([v], vc) => some (v, vc)
  | some ([], vc) => some (.tuple ⟨[]⟩, vc)
  | some (x :: y :: vs, vc) => some (.tuple ⟨x :: y :: vs⟩, vc)
  | none => none
theorem exLd_ld {t : TypeId} {p v : Value} {hs' : List Ht} {vc' : List Prop} (hT : TOk P T) (e : exLd T L t p hs vc = some (v, hs', vc')) (hv : AllP vc') : AllP vc ∧ ∃ ad, p = .pointer (some ad) ∧ ∀ w, Ths w L → (loadVar t ad).run P w = .ok v w := by
  have hp : ∃ ad, p = .pointer (some ad) := by
    unfold exLd at e
    split at e
    · exact ⟨_, rfl⟩
    · cases e
  obtain ⟨ad, rfl⟩ := hp
  have hg := exLd_ok (P := P) (o := ⟨none, .load t (.const (.pointer (some ad))), 0, "", #[], none⟩) (ρ := fun x => match x with | .const c => c | _ => undef) (L := L) (vc := vc) (hs := hs) (x := .const (.pointer (some ad))) hT rfl rfl v hs' vc' e hv
  refine ⟨hg.1, ad, rfl, fun w hw => ?_⟩
  have h1 := hg.2 w hw
  unfold execOp at h1
  simp only [Instr.loadAt, Instr.sureAddr, Sem.run_bind, Sem.run_pure, Result.andThen_ok] at h1
  cases h2 : (loadVar t ad).run P w with
  | ok v' w' => rw [h2] at h1; simp at h1; rw [h1.1, h1.2]
  | halt x w' => rw [h2] at h1; simp at h1
def resF (tmps : Array Value) (r : ResultVar) : Sem Value := match r with
  | .tmp t => pure (tmps.getD t undef)
  | .cell x t => do loadVar t (← asAddr (tmps.getD x undef))
theorem results_eq (fn : Func) (tmps : Array Value) : results fn tmps = (do
  let vs ← fn.results.mapM (resF tmps)
  pure (if h : vs.size = 1 then vs[0] else .tuple vs)) := rfl
theorem Z58 (hT : TOk P T) : ∀ (rs : List ResultVar) (hs : List Ht) (vc : List Prop) (vs : List Value) (vc' : List Prop), resL T m L rs hs vc = some (vs, vc') → AllP vc' →
    AllP vc ∧ ∀ a w, Al a m → Ths w L → (rs.mapM (resF a.tmps)).run P w = .ok vs w
  | [], hs, vc, vs, vc', e, hv => by
    simp only [resL] at e
    cases e
    exact ⟨hv, fun a w _ _ => by simp⟩
  | .tmp t :: rs, hs, vc, vs, vc', e, hv => by
    simp only [resL] at e
    split at e
    case h_2 => cases e
    rename_i v hl
    split at e
    case h_2 => cases e
    rename_i vs' vc2 h1
    cases e
    obtain ⟨h2, h3⟩ := Z58 hT rs hs vc vs' vc' h1 hv
    refine ⟨h2, fun a w M hw => ?_⟩
    have h4 : a.tmps.getD t undef = v := M t v hl
    have h5 : (resF a.tmps (.tmp t)).run P w = .ok v w := by simp [resF, ← h4]
    rw [List.mapM_cons]
    simp only [Sem.run_bind, Sem.run_pure, Result.andThen_ok, h3 a w M hw, h5]
  | .cell x t :: rs, hs, vc, vs, vc', e, hv => by
    simp only [resL] at e
    split at e
    case h_2 => cases e
    rename_i p hl
    split at e
    case h_2 => cases e
    rename_i v hs2 vc2 h1
    split at e
    case h_2 => cases e
    rename_i vs' vc3 h5
    cases e
    obtain ⟨h2, h3⟩ := Z58 hT rs hs2 vc2 vs' vc' h5 hv
    obtain ⟨h6, ad, rfl, h7⟩ := exLd_ld hT h1 h2
    refine ⟨h6, fun a w M hw => ?_⟩
    have h4 : a.tmps.getD x undef = .pointer (some ad) := M x _ hl
    have h8 : (resF a.tmps (.cell x t)).run P w = .ok v w := by simp only [resF, h4, asAddr, Sem.run_bind, Sem.run_pure, Result.andThen_ok, h7 w hw]
    rw [List.mapM_cons]
    simp only [Sem.run_bind, Sem.run_pure, Result.andThen_ok, h3 a w M hw, h8]
theorem rt_run {v : Value} (hT : TOk P T) (e : retV T m L fn.results.toList hs = some (v, vc)) (hv : AllP vc) (M : Al a m) (hw : Ths w L) : (results fn a.tmps).run P w = .ok v w := by
  unfold retV at e
  have key : ∀ vs vc', resL T m L fn.results.toList hs [] = some (vs, vc') → AllP vc' → (results fn a.tmps).run P w = .ok (if h : vs.length = 1 then vs[0] else .tuple ⟨vs⟩) w := fun vs vc' h1 h2 => by
    have h3 := (Z58 (P := P) hT _ _ _ _ _ h1 h2).2 a w M hw
    rw [results_eq, Array.mapM_eq_mapM_toList]
    simp only [Sem.run_bind, Sem.run_map, Sem.run_pure, h3, Result.andThen_ok]
    simp
  split at e
  · rename_i h1; cases e; rw [key _ _ h1 hv]; rfl
  · rename_i h1; cases e; rw [key _ _ h1 hv]; rfl
  · rename_i h1; cases e; rw [key _ _ h1 hv]; rfl
  · cases e
/-- The end of a function. -/
theorem rtG {v : Value} (hT : TOk P T) (h : Hold H A L n m (.x .ret) a w) (hs : List Ht) (e : retV T m L fn.results.toList hs = some (v, vc)) (hv : AllP vc) (hr : R (.returned v) w) : At P fn R [] (.x .ret) a w := ⟨h.k.defers, v, rt_run hT e hv h.M h.O.all, hr⟩
theorem enG {v : Value} (hT : TOk P T) (h : Hold H A L n m (.x .normal) a w) (hs : List Ht) (e : retV T m L fn.results.toList hs = some (v, vc)) (hv : AllP vc) (hr : R (.returned v) w) : At P fn R [] (.x .normal) a w := ⟨h.k.defers, v, rt_run hT e hv h.M h.O.all, hr⟩
/-! Loops. -/
def Lp (H n : Nat) (A : World) {G : Type} (m' : G → Mp) (L' : G → List Thing) (φ : G → Prop) (μ : G → Nat) (N : Nat) (a : Act) (w : World) : Prop := ∃ g, μ g < N ∧ φ g ∧ OwnT H A (L' g) w ∧ Fr n a ∧ Al a (m' g)
theorem lpG {G : Type} {c : Code} (m' : G → Mp) (L' : G → List Thing) (φ : G → Prop) (μ : G → Nat) (g0 : G) (h : Hold H A L n m (.c (.loop c)) a w) (hm : subM m (m' g0)) (hL : OwnT H A (L' g0) w) (hφ : φ g0)
    (hn : ∀ g, φ g → ∀ a w, Hold H A (L' g) n (m' g) (.c c) a w → At P fn R (.lp (Lp H n A m' L' φ μ (μ g)) :: ks) (.c c) a w) : At P fn R ks (.c (.loop c)) a w := by
  refine wp_loop_ghost (fun N a w => ∃ g, μ g = N ∧ φ g ∧ OwnT H A (L' g) w ∧ Fr n a ∧ Al a (m' g)) (μ g0) ⟨g0, rfl, hφ, hL, h.k, h.M.sub hm⟩ ?_
  rintro N a w ⟨g, rfl, h1, h2, h3, h4⟩
  refine Go.wp_mono (hn g h1 a w ⟨h2, h3, h4, trivial⟩) fun e a' w' hq => ?_
  cases e with
  | normal =>
    obtain ⟨g', h5, h6, h7, h8, h9⟩ := hq
    exact ⟨μ g', h5, g', rfl, h6, h7, h8, h9⟩
  | _ => exact hq
/-- The end of a round. -/
theorem reG {G : Type} {m' : G → Mp} {L' : G → List Thing} {φ : G → Prop} {μ : G → Nat} {N : Nat} (g : G) (h : Hold H A L n m (.x .normal) a w) (hm : subM m (m' g)) (hL : OwnT H A (L' g) w) (hφ : φ g) (hμ : μ g < N) : At P fn R (.lp (Lp H n A m' L' φ μ N) :: ks) (.x .normal) a w :=
  ⟨g, hμ, hφ, hL, h.k, h.M.sub hm⟩
end

def tt : TbG := [
 (.oth, none, 1),
 (.fu, none, 1),
 (.i .i64, some (.int .i64 0), 1),
 (.i .i64, some (.int .i64 0), 1),
 (.bo, some (.bool false), 1),
 (.i .u8, some (.int .u8 0), 1),
 (.i .u8, some (.int .u8 0), 1),
 (.st 4 [(0, 1, false), (1, 1, false), (2, 1, false), (3, 1, false)], some (.agg #[.int .i64 0, .int .i64 0, .bool false, .int .u8 0]), 4),
 (.st 4 [(0, 1, false), (1, 1, false), (2, 1, false), (3, 1, false)], some (.agg #[.int .i64 0, .int .i64 0, .bool false, .int .u8 0]), 4),
 (.str, some (.string ByteArray.empty), 1),
 (.str, some (.string ByteArray.empty), 1),
 (.str, some (.string ByteArray.empty), 1),
 (.i .u64, some (.int .u64 0), 1),
 (.st 2 [(0, 1, false), (1, 1, false)], some (.agg #[.string ByteArray.empty, .int .u64 0]), 2),
 (.st 2 [(0, 1, false), (1, 1, false)], some (.agg #[.string ByteArray.empty, .int .u64 0]), 2),
 (.pt, some (.pointer none), 1),
 (.pt, some (.pointer none), 1),
 (.pt, some (.pointer none), 1),
 (.st 1 [(0, 1, false)], some (.agg #[.pointer none]), 1),
 (.st 1 [(0, 1, false)], some (.agg #[.pointer none]), 1),
 (.itf, some (.nilIface), 1),
 (.i .i32, some (.int .i32 0), 1),
 (.fu, none, 1),
 (.i .i64, some (.int .i64 0), 1),
 (.oth, none, 1),
 (.fu, none, 1),
 (.fu, none, 1),
 (.i .u32, some (.int .u32 0), 1),
 (.sl 2 true, some (.slice none 0 0), 1),
 (.st 5 [(0, 1, false), (1, 1, false), (2, 1, false), (3, 1, false), (4, 1, false)], some (.agg #[.int .i64 0, .int .i64 0, .int .u32 0, .int .u32 0, .slice none 0 0]), 5),
 (.st 5 [(0, 1, false), (1, 1, false), (2, 1, false), (3, 1, false), (4, 1, false)], some (.agg #[.int .i64 0, .int .i64 0, .int .u32 0, .int .u32 0, .slice none 0 0]), 5),
 (.fu, none, 1),
 (.st 4 [(0, 1, false), (1, 1, false), (2, 1, false), (3, 1, false)], some (.agg #[.int .i64 0, .int .i64 0, .int .u32 0, .int .u32 0]), 4),
 (.st 4 [(0, 1, false), (1, 1, false), (2, 1, false), (3, 1, false)], some (.agg #[.int .i64 0, .int .i64 0, .int .u32 0, .int .u32 0]), 4),
 (.oth, none, 1),
 (.fu, none, 1),
 (.fu, none, 1),
 (.oth, none, 1),
 (.fu, none, 1),
 (.oth, none, 1),
 (.fu, none, 1),
 (.fu, none, 1),
 (.sl 2 true, some (.slice none 0 0), 1),
 (.sl 1 false, some (.slice none 0 0), 1),
 (.sl 2 true, some (.slice none 0 0), 1),
 (.st 2 [(0, 1, false), (1, 1, false)], some (.agg #[.int .i64 0, .slice none 0 0]), 2),
 (.st 2 [(0, 1, false), (1, 1, false)], some (.agg #[.int .i64 0, .slice none 0 0]), 2),
 (.pt, some (.pointer none), 1),
 (.st 2 [(0, 1, false), (1, 1, false)], some (.agg #[.slice none 0 0, .int .i64 0]), 2),
 (.st 2 [(0, 1, false), (1, 1, false)], some (.agg #[.slice none 0 0, .int .i64 0]), 2),
 (.sl 2 true, some (.slice none 0 0), 1),
 (.oth, none, 1),
 (.fu, none, 1),
 (.oth, none, 1),
 (.fu, none, 1),
 (.sl 2 true, some (.slice none 0 0), 1),
 (.oth, none, 1),
 (.fu, none, 1),
 (.st 2 [(0, 1, false), (1, 1, false)], some (.agg #[.int .i64 0, .int .i64 0]), 2),
 (.st 2 [(0, 1, false), (1, 1, false)], some (.agg #[.int .i64 0, .int .i64 0]), 2),
 (.st 2 [(0, 1, false), (1, 1, false)], some (.agg #[.int .i64 0, .int .i64 0]), 2),
 (.fu, none, 1),
 (.fu, none, 1),
 (.fu, none, 1),
 (.fu, none, 1),
 (.sl 2 true, some (.slice none 0 0), 1),
 (.oth, none, 1),
 (.fu, none, 1),
 (.fu, none, 1),
 (.sl 1 false, some (.slice none 0 0), 1),
 (.fu, none, 1),
 (.i .u64, some (.int .u64 0), 1),
 (.st 2 [(0, 1, false), (1, 1, false)], some (.agg #[.int .i64 0, .string ByteArray.empty]), 2),
 (.st 2 [(0, 1, false), (1, 1, false)], some (.agg #[.int .i64 0, .string ByteArray.empty]), 2),
 (.fu, none, 1),
 (.fu, none, 1),
 (.oth, none, 1),
 (.fu, none, 1),
 (.fu, none, 1),
 (.fu, none, 1),
 (.fu, none, 1),
 (.fu, none, 1),
 (.fu, none, 1),
 (.fu, none, 1),
 (.itf, some (.nilIface), 1),
 (.itf, some (.nilIface), 1),
 (.pt, some (.pointer none), 1),
 (.mp, some (.map none), 1),
 (.mp, some (.map none), 1),
 (.st 2 [(0, 1, false), (1, 1, false)], some (.agg #[.map none, .map none]), 2),
 (.st 2 [(0, 1, false), (1, 1, false)], some (.agg #[.map none, .map none]), 2),
 (.fu, none, 1),
 (.fu, none, 1),
 (.fu, none, 1),
 (.fu, none, 1),
 (.fu, none, 1),
 (.sl 1 false, some (.slice none 0 0), 1),
 (.pt, some (.pointer none), 1),
 (.fu, none, 1),
 (.st 3 [(0, 1, false), (1, 1, false), (2, 1, false)], some (.agg #[.slice none 0 0, .slice none 0 0, .bool false]), 3),
 (.st 3 [(0, 1, false), (1, 1, false), (2, 1, false)], some (.agg #[.slice none 0 0, .slice none 0 0, .bool false]), 3),
 (.fu, none, 1),
 (.st 2 [(0, 1, false), (1, 1, false)], some (.agg #[.int .u64 0, .int .u64 0]), 2),
 (.st 2 [(0, 1, false), (1, 1, false)], some (.agg #[.int .u64 0, .int .u64 0]), 2),
 (.fu, none, 1),
 (.fu, none, 1),
 (.fu, none, 1),
 (.st 2 [(0, 1, false), (1, 1, false)], some (.agg #[.int .i64 0, .string ByteArray.empty]), 2),
 (.fu, none, 1),
 (.pt, some (.pointer none), 1),
 (.st 2 [(0, 1, false), (1, 1, false)], some (.agg #[.pointer none, .slice none 0 0]), 2),
 (.st 2 [(0, 1, false), (1, 1, false)], some (.agg #[.pointer none, .slice none 0 0]), 2),
 (.st 2 [(0, 2, true)], some (.agg #[.pointer none, .slice none 0 0]), 2),
 (.st 2 [(0, 2, true)], some (.agg #[.pointer none, .slice none 0 0]), 2),
 (.fu, none, 1),
 (.sl 1 false, some (.slice none 0 0), 1),
 (.fu, none, 1),
 (.fu, none, 1),
 (.fu, none, 1),
 (.i .u64, some (.int .u64 0), 1),
 (.pt, some (.pointer none), 1),
 (.pt, some (.pointer none), 1),
 (.fu, none, 1),
 (.fu, none, 1),
 (.oth, none, 1),
 (.fu, none, 1),
 (.fu, none, 1),
 (.fu, none, 1),
 (.fu, none, 1),
 (.fu, none, 1),
 (.fu, none, 1),
 (.fu, none, 1),
 (.oth, none, 1),
 (.fu, none, 1),
 (.fu, none, 1),
 (.fu, none, 1),
 (.fu, none, 1),
 (.fu, none, 1),
 (.oth, none, 1),
 (.fu, none, 1),
 (.fu, none, 1),
 (.fu, none, 1),
 (.itf, some (.nilIface), 1),
 (.itf, some (.nilIface), 1),
 (.oth, none, 1),
 (.fu, none, 1),
 (.pt, some (.pointer none), 1),
 (.fu, none, 1),
 (.st 2 [(0, 1, false), (1, 1, false)], some (.agg #[.string ByteArray.empty, .bool false]), 2),
 (.st 2 [(0, 1, false), (1, 1, false)], some (.agg #[.string ByteArray.empty, .bool false]), 2),
 (.fu, none, 1),
 (.fu, none, 1),
 (.oth, none, 1),
 (.fu, none, 1),
 (.pt, some (.pointer none), 1),
 (.fu, none, 1),
 (.st 3 [(0, 1, false), (1, 1, false), (2, 1, false)], some (.agg #[.slice none 0 0, .slice none 0 0, .int .i64 0]), 3),
 (.st 3 [(0, 1, false), (1, 1, false), (2, 1, false)], some (.agg #[.slice none 0 0, .slice none 0 0, .int .i64 0]), 3),
 (.oth, none, 1),
 (.fu, none, 1),
 (.fu, none, 1),
 (.fu, none, 1),
 (.fu, none, 1),
 (.fu, none, 1),
 (.oth, none, 1),
 (.fu, none, 1),
 (.oth, none, 1),
 (.fu, none, 1),
 (.pt, some (.pointer none), 1),
 (.fu, none, 1),
 (.oth, none, 1),
 (.fu, none, 1),
 (.fu, none, 1),
 (.fu, none, 1),
 (.fu, none, 1),
 (.oth, none, 1),
 (.fu, none, 1),
 (.fu, none, 1),
 (.st 4 [(0, 1, false), (1, 1, false), (2, 1, false), (3, 1, false)], some (.agg #[.int .u64 0, .bool false, .int .u64 0, .bool false]), 4),
 (.st 4 [(0, 1, false), (1, 1, false), (2, 1, false), (3, 1, false)], some (.agg #[.int .u64 0, .bool false, .int .u64 0, .bool false]), 4),
 (.fu, none, 1),
 (.i .i64, some (.int .i64 0), 1),
 (.oth, none, 1),
 (.fu, none, 1),
 (.fu, none, 1),
 (.fu, none, 1),
 (.fu, none, 1),
 (.fu, none, 1),
 (.fu, none, 1),
 (.fu, none, 1),
 (.oth, none, 1),
 (.fu, none, 1),
 (.fu, none, 1),
 (.fu, none, 1),
 (.fu, none, 1),
 (.fu, none, 1),
 (.fu, none, 1),
 (.fu, none, 1),
 (.fu, none, 1),
 (.fu, none, 1),
 (.fu, none, 1),
 (.i .u64, some (.int .u64 0), 1),
 (.fu, none, 1),
 (.fu, none, 1),
 (.fu, none, 1),
 (.pt, some (.pointer none), 1),
 (.fu, none, 1),
 (.fu, none, 1),
 (.fu, none, 1),
 (.fu, none, 1),
 (.fu, none, 1),
 (.pt, some (.pointer none), 1),
 (.fu, none, 1),
 (.pt, some (.pointer none), 1),
 (.oth, none, 1),
 (.fu, none, 1),
 (.fu, none, 1),
 (.fu, none, 1),
 (.st 4 [(0, 1, false), (1, 1, false), (2, 1, false), (3, 1, false)], some (.agg #[.pointer none, .pointer none, .pointer none, .string ByteArray.empty]), 4),
 (.st 4 [(0, 1, false), (1, 1, false), (2, 1, false), (3, 1, false)], some (.agg #[.pointer none, .pointer none, .pointer none, .string ByteArray.empty]), 4),
 (.ar 0 0 1 false, some (.agg #[]), 0),
 (.st 0 [(0, 0, true)], some (.agg #[]), 0),
 (.st 0 [(0, 0, true)], some (.agg #[]), 0),
 (.i .u8, some (.int .u8 0), 1),
 (.i .u8, some (.int .u8 0), 1),
 (.fu, none, 1),
 (.i .i32, some (.int .i32 0), 1),
 (.i .i32, some (.int .i32 0), 1),
 (.st 11 [(0, 1, false), (1, 1, false), (2, 1, false), (3, 1, false), (4, 1, false), (5, 1, false), (6, 1, false), (7, 1, false), (8, 1, false), (9, 1, false), (10, 1, false)], none, 11),
 (.st 11 [(0, 1, false), (1, 1, false), (2, 1, false), (3, 1, false), (4, 1, false), (5, 1, false), (6, 1, false), (7, 1, false), (8, 1, false), (9, 1, false), (10, 1, false)], none, 11),
 (.fu, none, 1)]
def zz (P : Program) (d : Td × Option Value × Nat) (t : Nat) : Td × Option Value × Nat := (tdOf P t, match d.2.1 with | some _ => zerP P t | none => none, sizP P t)
def zzL (P : Program) : Nat → TbG → TbG
 | _, [] => []
 | i, d :: l => zz P d i :: zzL P (i + 1) l
def smL (P : Program) : Nat → TbG → Bool
 | _, [] => true
 | i, _ :: l => somP P i && smL P (i + 1) l
theorem zzL_at (P : Program) : ∀ (l : TbG) (i t : Nat) (d : Td × Option Value × Nat), nthT l t = some d → nthT (zzL P i l) t = some (zz P d (i + t))
 | [], _, _, _, h => by simp [nthT] at h
 | x :: l, i, 0, d, h => by simp [nthT] at h; subst h; simp [zzL, nthT]
 | x :: l, i, t + 1, d, h => by
  simp only [nthT] at h
  simp only [zzL, nthT]
  rw [zzL_at P l (i + 1) t d h]
  congr 2
  omega
theorem smL_at (P : Program) : ∀ (l : TbG) (i t : Nat) (d : Td × Option Value × Nat), smL P i l = true → nthT l t = some d → somP P (i + t) = true
 | [], _, _, _, _, h => by simp [nthT] at h
 | x :: l, i, 0, d, hs, h => by simp [smL] at hs; exact hs.1
 | x :: l, i, t + 1, d, hs, h => by
  simp only [nthT] at h
  simp only [smL, Bool.and_eq_true] at hs
  have := smL_at P l (i + 1) t d hs.2 h
  rwa [show i + (t + 1) = i + 1 + t by omega]
theorem tt_zz : zzL Try.prog 0 tt = tt := by kernel_rfl
theorem tt_sm : smL Try.prog 0 tt = true := by kernel_rfl
theorem Z2t : TOk Try.prog tt := ⟨fun t d h => by
 have h1 := zzL_at Try.prog tt 0 t d h
 rw [tt_zz, h] at h1
 rw [Nat.zero_add] at h1
 have h2 : zz Try.prog d t = d := (Option.some.inj h1).symm
 have h3 := smL_at Try.prog tt 0 t d tt_sm h
 rw [Nat.zero_add] at h3
 obtain ⟨d1, d2, d3⟩ := d
 unfold zz at h2
 simp only [Prod.mk.injEq] at h2
 refine ⟨h2.1, h3, fun z hz => ?_, h2.2.2⟩
 have h4 := h2.2.1
 simp only at hz
 subst hz
 exact h4⟩
theorem tt_fo : Try.prog.follows .mixedOrders = true := by kernel_rfl

/-- What operation 'idx' leaves: a fact of the slots L and of the world, kept by every step behind it. -/
structure TFactL (R : (Nat → Bool) → World → World → Prop) where
  idx : Nat
  L : List Tmp
  T : Act → World → Prop
  loc : ∀ a a' w, (∀ t ∈ L, a.tmps[t]? = a'.tmps[t]?) → T a w → T a' w
  mono : ∀ l a w w', l idx = true → R l w w' → T a w → T a w'
section
variable {P : Program} {R : (Nat → Bool) → World → World → Prop} {ops : Array Oper} {I : (Nat → Bool) → World → Prop} {a0 : Act} {D : List Tmp} {A : List (List Nat)} {Fs : List (TFactL R)} {m : Nat} {Q : Exit → Act → World → Prop}
abbrev factsL (done : List (Nat × TFactL R)) : List (TFactL R) := done.reverse.map Prod.snd
theorem Z28 (x : Nat × TFactL R) (done : List (Nat × TFactL R)) : factsL (x :: done) = factsL done ++ [x.2] := by simp [factsL]
theorem Z1i (done : List (Nat × TFactL R)) : (factsL done).length = done.length := by simp [factsL]
def plain (Fs : List (TFactL R)) : List (TFact (fun _ _ : World => False)) := Fs.map fun S => ⟨S.L, S.T, S.loc, fun _ _ _ h _ => h.elim⟩
theorem plain_L (Fs : List (TFactL R)) : (plain Fs).map TFact.L = Fs.map TFactL.L := by simp [plain, Function.comp_def]
theorem plain_at {i : Nat} {S : TFactL R} (h : Fs[i]? = some S) : ∃ S', (plain Fs)[i]? = some S' ∧ S'.L = S.L := ⟨_, by rw [plain, List.getElem?_map, h]; rfl, rfl⟩
structure LInv (ops : Array Oper) (I : (Nat → Bool) → World → Prop) (a0 : Act) (D : List Tmp) (Fs : List (TFactL R)) (m : Nat) (listed : Array Bool) (a : Act) (w : World) : Prop where
  sz : listed.size = ops.size
  env : Env a0 D a
  inv : I (fun i => listed.getD i false) w
  closed : ∀ j o, listed.getD j false = true → ops[j]? = some o → ∀ e ∈ o.after, Region.binds .any e = true → listed.getD e.on false = true
  typed : ∀ i S, listed.getD i false = true → Fs[i]? = some S → S.T a w
  un : ∀ i, m ≤ i → listed.getD i false = false

theorem Z6x (hok0 : okB ops D A (Fs.map TFactL.L) m = true) (hidx : ∀ (i : Nat) (S : TFactL R), Fs[i]? = some S → S.idx = i) (hlen : Fs.length = m) (hms : m ≤ ops.size) (hm : ∀ i, m ≤ i → i < ops.size → ∀ j, j < i → j ∈ A.getD i [])
    (hstep : ∀ (k : Nat) (o : Oper) (S : TFactL R), ops[k]? = some o → Fs[k]? = some S → ∀ l a w, Env a0 D a → I l w → l k = false → (∀ i ∈ A.getD k [], l i = true) → (∀ (i : Nat) (S' : TFactL R), i ∈ A.getD k [] → Fs[i]? = some S' → S'.T a w) → opR P ops (R l) (I (upd l k)) o S.T a w)
    (hrr : ∀ l w, R l w w)
    (hend : ∀ l a w, Env a0 D a → I l w → (∀ i, i < m → l i = true) → (∀ (i : Nat) (S : TFactL R), Fs[i]? = some S → S.T a w) → tailWp P ops Q (ops.size - m) m a w) :
    ∀ (fuel : Nat) (listed : Array Bool) (a : Act) (w : World), LInv ops I a0 D Fs m listed a w → listed.toList.count false = fuel → wpAny P .any ops Q fuel listed a w := by
  have hok : okB ops D A ((plain Fs).map TFact.L) m = true := by rw [plain_L]; exact hok0
  intro fuel
  induction fuel with
  | zero =>
    intro listed a w hI h0
    obtain ⟨hr, hx⟩ := Z4t (ops := ops) listed hI.sz h0
    have hmm : m = ops.size := by
      by_cases h : m < ops.size
      · have := hx m h
        rw [hI.un m (Nat.le_refl _)] at this
        cases this
      · omega
    refine ⟨hr, ?_⟩
    have := hend _ a w hI.env hI.inv (fun i hi => hx i (by omega)) (fun i S hS => hI.typed i S (hx i (by have := (List.getElem?_eq_some_iff.1 hS).1; omega)) hS)
    rwa [show ops.size - m = 0 by omega] at this
  | succ fuel ih =>
    intro listed a w hI hcnt
    by_cases hall : ∀ j, j < m → listed.getD j false = true
    · exact tail_any hok hm (fuel + 1) m listed a w (Nat.le_refl _) hms hI.sz hall hI.un hI.closed hcnt (hend _ a w hI.env hI.inv hall (fun i S hS => hI.typed i S (hall i (by have := (List.getElem?_eq_some_iff.1 hS).1; omega)) hS))
    refine ⟨fun hr => (Z4g hok listed hI.sz fuel hcnt hr).elim, fun i hi => ?_⟩
    obtain ⟨hun, o, ho, hpre⟩ := mem_ready.1 hi
    have hio : i < ops.size := (Array.getElem?_eq_some_iff.1 ho).1
    have his : i < listed.size := by have := hI.sz; omega
    have hanc := Z20 hok hI.closed hI.sz i o ho hpre
    have him : i < m := by
      by_cases h : i < m
      · exact h
      · exact (hall (fun j hj => hanc j (hm i (by omega) hio j (by omega)))).elim
    obtain ⟨S, hS⟩ : ∃ S, Fs[i]? = some S := ⟨_, List.getElem?_eq_getElem (by omega)⟩
    have hst := hstep i o S ho hS _ a w hI.env hI.inv (by rw [Z0y his false true]; exact hun) hanc (fun j S' hj hS' => hI.typed j S' (hanc j hj) hS')
    have hnext : ∀ v w', R (fun j => listed.getD j false) w w' → I (upd (fun j => listed.getD j false) i) w' → S.T (a.put o.dst v) w' → LInv ops I a0 D Fs m (listed.setIfInBounds i true) (a.put o.dst v) w' := by
      intro v w' hRw hR hT
      obtain ⟨_, _, h3⟩ := Z65 hok ho
      have h3 := h3 him
      refine ⟨by simpa using hI.sz, ⟨?_, ?_, ?_⟩, by rw [upd_listed his]; exact hR, Z4q his ho hpre hI.closed, ?_, ?_⟩
      · rw [← hI.env.size]; cases hd : o.dst <;> simp [Act.put]
      · rw [← hI.env.defers]; cases hd : o.dst <;> simp [Act.put]
      · intro t ht
        rw [← hI.env.keep t ht]
        cases hd : o.dst with
        | none => simp [Act.put]
        | some d =>
          have := (h3 d hd).1
          have hne : d ≠ t := fun e => ht (e ▸ this)
          simp [Act.put, Array.getElem?_setIfInBounds_ne hne]
      · intro j S' hj hS'
        by_cases hji : i = j
        · subst hji
          rw [hS] at hS'
          cases hS'
          exact hT
        · rw [getD_set_ne false hji] at hj
          have hold := S'.mono (fun j => listed.getD j false) _ w w' (by rw [hidx j S' hS']; exact hj) hRw (hI.typed j S' hj hS')
          refine S'.loc _ _ _ (fun t ht => ?_) hold
          cases hd : o.dst with
          | none => simp [Act.put]
          | some d =>
            have hja : i ∉ A.getD j [] := by
              intro hmem
              obtain ⟨oj, hoj⟩ : ∃ oj, ops[j]? = some oj := ⟨_, Array.getElem?_eq_getElem (by have := (List.getElem?_eq_some_iff.1 hS').1; omega)⟩
              have := Z20 hok hI.closed hI.sz j oj hoj (hI.closed j oj hj hoj) i hmem
              rw [Z0y his false true, hun] at this
              cases this
            obtain ⟨S2, hS2, hSL⟩ := plain_at hS'
            have hne : d ≠ t := fun e => (h3 d hd).2 j S2 hS2 (fun e => hji e.symm) hja (by rw [hSL]; exact e ▸ ht)
            simp [Act.put, Array.getElem?_setIfInBounds_ne hne]
      · intro j hj
        have : i ≠ j := by omega
        rw [getD_set_ne false this]
        exact hI.un j hj
    have hk : ∀ v w', R (fun j => listed.getD j false) w w' → I (upd (fun j => listed.getD j false) i) w' → S.T (a.put o.dst v) w' → wpAny P .any ops Q fuel (listed.setIfInBounds i true) (a.put o.dst v) w' :=
      fun v w' hRw hR hT => ih _ _ _ (hnext v w' hRw hR hT) (count_set his hun _ hcnt)
    unfold wpOp
    simp only [ho]
    rcases hst with ⟨hw, hy⟩ | ⟨hw, hJ, hT⟩
    · rw [if_pos hw]
      refine .inl ?_
      unfold YieldsR at hy
      unfold Oper.wp
      generalize (execOp a.eval o).run P w = r at hy ⊢
      cases r with
      | halt x w' => exact hy.elim
      | ok n w' =>
        cases n <;> simp only [Oper.upon] at hy ⊢
        case value v => exact hk v w' hy.1 hy.2.1 hy.2.2
        case skip => exact hk undef w' hy.1 hy.2.1 hy.2.2
        case enter f args =>
          refine hy.mono fun e w'' ⟨v, he, hRw, hR, hT⟩ => ?_
          subst he
          exact hk v w'' hRw hR hT
    · rw [if_neg (by rw [hw]; exact Bool.false_ne_true)]
      exact hk undef w (hrr _ w) hJ hT

inductive BuildL (P : Program) (R : (Nat → Bool) → World → World → Prop) (ops : Array Oper) (I : (Nat → Bool) → World → Prop) (a0 : Act) (D : List Tmp) (A : List (List Nat)) (G : List (Nat × TFactL R) → Prop) : Nat → List Oper → List (Nat × TFactL R) → Prop
  | stop {k : Nat} {os : List Oper} {done : List (Nat × TFactL R)} (h : G done) : BuildL P R ops I a0 D A G k os done
  | step {k : Nat} {o : Oper} {os : List Oper} {done : List (Nat × TFactL R)} (S : TFactL R) (hx : S.idx = k) (h : ∀ l a w, Env a0 D a → I l w → l k = false → (∀ i ∈ A.getD k [], l i = true) → (∀ (i : Nat) (S' : TFactL R), i ∈ A.getD k [] → (i, S') ∈ done → S'.T a w) → opR P ops (R l) (I (upd l k)) o S.T a w)
      (hr : BuildL P R ops I a0 D A G (k + 1) os ((k, S) :: done)) : BuildL P R ops I a0 D A G k (o :: os) done

variable {G : List (Nat × TFactL R) → Prop} {k : Nat} {o : Oper} {os : List Oper} {done : List (Nat × TFactL R)} {d : Tmp} {v : Value}
theorem BuildL.use (hb : BuildL P R ops I a0 D A G k os done) (hk : k = done.length) (hwf : ∀ (i : Nat) (S : TFactL R), (i, S) ∈ done → (factsL done)[i]? = some S) (hxd : ∀ (i : Nat) (S : TFactL R), (factsL done)[i]? = some S → S.idx = i) : ∃ fin : List (Nat × TFactL R), G fin ∧ (∀ (i : Nat) (S : TFactL R), (factsL done)[i]? = some S → (factsL fin)[i]? = some S) ∧
    (∀ (i : Nat) (S : TFactL R), (i, S) ∈ fin → (factsL fin)[i]? = some S) ∧ (∀ (i : Nat) (S : TFactL R), (factsL fin)[i]? = some S → S.idx = i) ∧ done.length ≤ fin.length ∧
    ∀ (i : Nat) (o : Oper) (S : TFactL R), os[i]? = some o → (factsL fin)[k + i]? = some S → ∀ l a w, Env a0 D a → I l w → l (k + i) = false → (∀ j ∈ A.getD (k + i) [], l j = true) → (∀ (j : Nat) (S' : TFactL R), j ∈ A.getD (k + i) [] → (factsL fin)[j]? = some S' → S'.T a w) → opR P ops (R l) (I (upd l (k + i))) o S.T a w := by
  induction hb with
  | stop h =>
    rename_i k os done
    refine ⟨done, h, fun _ _ h => h, hwf, hxd, Nat.le_refl _, fun i o S _ hS => ?_⟩
    rw [List.getElem?_eq_none (by rw [Z1i]; omega)] at hS
    cases hS
  | step S hx h hr ih =>
    rename_i k o os done
    have hpre0 : ∀ (i : Nat) (S' : TFactL R), (factsL done)[i]? = some S' → (factsL ((k, S) :: done))[i]? = some S' := fun i S' hi => by
      have hlt := (List.getElem?_eq_some_iff.1 hi).1
      rw [Z28, List.getElem?_append_left hlt]; exact hi
    obtain ⟨fin, hG, h1, hw, hxf, h2, h4⟩ := ih (by simp [hk]) (fun i S' hm => by
      rcases List.mem_cons.1 hm with he | hm
      · cases he
        rw [Z28, hk, ← Z1i done]
        simp
      · exact hpre0 i S' (hwf i S' hm)) (fun i S' hi => by
      rw [Z28] at hi
      by_cases hlt : i < (factsL done).length
      · rw [List.getElem?_append_left hlt] at hi
        exact hxd i S' hi
      · have hle := (List.getElem?_eq_some_iff.1 hi).1
        rw [List.length_append] at hle
        have hle : i < (factsL done).length + 1 := hle
        have : i = (factsL done).length := by omega
        subst this
        rw [List.getElem?_append_right (Nat.le_refl _), Nat.sub_self] at hi
        simp at hi
        subst hi
        rw [hx, hk, Z1i])
    refine ⟨fin, hG, fun i S' hi => h1 i S' (hpre0 i S' hi), hw, hxf, by simp at h2; omega, ?_⟩
    intro i o' S' hi hS
    cases i with
    | zero =>
      simp at hi
      subst hi
      have : (factsL fin)[k + 0]? = some S := h1 k S (by rw [Z28, hk, ← Z1i done]; simp)
      rw [this] at hS
      cases hS
      intro l a w hE hR hl hA hF
      exact h l a w hE hR hl hA (fun j S' hj hd => hF j S' hj (h1 j S' (hpre0 j S' (hwf j S' hd))))
    | succ i =>
      have := h4 i o' S' (by simpa using hi) (by rwa [show k + 1 + i = k + (i + 1) by omega])
      intro l a w hE hR hl hA hF
      rw [show k + (i + 1) = k + 1 + i by omega] at hl hA ⊢
      exact this l a w hE hR hl hA (fun j S' hj hd => hF j S' (by rwa [show k + (i + 1) = k + 1 + i by omega]) hd)



/-- Each operation's fact, shown once, and the invariant kept. -/
theorem Z37 {id : Nat} {l : List Oper} {w : World} (Fs : List (TFactL R)) (hidx : ∀ (i : Nat) (S : TFactL R), Fs[i]? = some S → S.idx = i) (A : List (List Nat)) (D : List Tmp) (hf : P.follows .mixedOrders = true) (hok : okB l.toArray D A (Fs.map TFactL.L) Fs.length = true)
    (hm : (decide (Fs.length ≤ l.length) && (List.range l.length).all fun i => decide (i < Fs.length) || (List.range i).all fun j => (A.getD i []).contains j) = true)
    (hw0 : I (fun _ => false) w.drew)
    (hstep : ∀ (k : Nat) (o : Oper) (S : TFactL R), l[k]? = some o → Fs[k]? = some S → ∀ L a w, Env a0 D a → I L w → L k = false → (∀ i ∈ A.getD k [], L i = true) → (∀ (i : Nat) (S' : TFactL R), i ∈ A.getD k [] → Fs[i]? = some S' → S'.T a w) → opR P l.toArray (R L) (I (upd L k)) o S.T a w)
    (hrr : ∀ l w, R l w w)
    (hend : ∀ L a w, Env a0 D a → I L w → (∀ i, i < Fs.length → L i = true) → (∀ (i : Nat) (S : TFactL R), Fs[i]? = some S → S.T a w) → tailWp P l.toArray Q (l.length - Fs.length) Fs.length a w) :
    (Code.region id l.toArray true).wp P Q a0 w := by
  refine wp_region_any hf ?_
  simp only [Bool.and_eq_true, decide_eq_true_eq, List.all_eq_true, List.mem_range, Bool.or_eq_true, List.contains_iff_mem] at hm
  refine Z6x (a0 := a0) (I := I) (Fs := Fs) (A := A) (D := D) (m := Fs.length) hok hidx rfl (by simpa using hm.1) ?_ (by simpa using hstep) hrr (by simpa using hend) _ _ _ _ ?_ (by simp)
  · intro i h1 h2 j hj
    rcases hm.2 i (by simpa using h2) with h | h
    · omega
    · exact h j hj
  · refine ⟨by simp, ⟨rfl, rfl, fun _ _ => rfl⟩, ?_, ?_, ?_, ?_⟩
    · have e : (fun i => (Array.replicate l.toArray.size false).getD i false) = fun _ => false := funext fun i => Z25 _ _
      rw [e]
      exact hw0
    · intro j o hj
      rw [Z25] at hj
      cases hj
    · intro i S hi
      rw [Z25] at hi
      cases hi
    · intro i _
      exact Z25 _ _

def FinL (P : Program) (l : List Oper) (I : (Nat → Bool) → World → Prop) (a0 : Act) (D : List Tmp) (A : List (List Nat)) (Q : Exit → Act → World → Prop) (fin : List (Nat × TFactL R)) : Prop :=
  (okB l.toArray D A ((factsL fin).map TFactL.L) fin.length && (decide (fin.length ≤ l.length) && (List.range l.length).all fun i => decide (i < fin.length) || (List.range i).all fun j => (A.getD i []).contains j) && (l.drop fin.length).all fun o => o.guard.isNone) = true ∧
    ∀ L a w, Env a0 D a → I L w → (∀ i, i < fin.length → L i = true) → (∀ (i : Nat) (S : TFactL R), (i, S) ∈ fin → S.T a w) → tailOps P Q (l.drop fin.length) a w
theorem Z4b {id : Nat} {l : List Oper} {w : World} (R : (Nat → Bool) → World → World → Prop) (I : (Nat → Bool) → World → Prop) (A : List (List Nat)) (D : List Tmp) (hrr : ∀ l w, R l w w) (hw0 : I (fun _ => false) w.drew) (hf : P.follows .mixedOrders = true)
    (h : BuildL P R l.toArray I a0 D A (FinL P l I a0 D A Q) 0 l []) : (Code.region id l.toArray true).wp P Q a0 w := by
  obtain ⟨fin, ⟨hok, hG⟩, -, hw, hxf, -, hstep⟩ := h.use rfl (fun _ _ h => by cases h) (fun _ _ h => by simp [factsL] at h)
  have hlen := Z1i fin
  rw [Bool.and_eq_true, Bool.and_eq_true] at hok
  refine Z37 (I := I) (factsL fin) hxf A D hf (by rw [hlen]; exact hok.1.1) (by rw [hlen]; exact hok.1.2) hw0 (fun k o S h1 h2 L a w hE hR hl hA hF => by
    have := hstep k o S h1 (by simpa using h2) L a w hE hR (by simpa using hl) (by simpa using hA) (by simpa using hF)
    simpa using this) hrr (fun L a w hE hR hA hF => ?_)
  rw [hlen] at hA ⊢
  have := tailWp_of l (l.drop fin.length) fin.length rfl hok.2 a w (hG L a w hE hR hA (fun i S hm => hF i S (hw i S hm)))
  simpa using this

/-- The slot holds this value. -/
def detL (k : Nat) (d : Tmp) (v : Value) : TFactL R := ⟨k, [d], fun a _ => a.eval (.tmp d) = v, fun a a' _ h e => (Z15 (h d (by simp))).symm.trans e, fun _ _ _ _ _ _ e => e⟩
/-- The slot holds a value of which this holds, from then on. -/
def freshL (k : Nat) (d : Tmp) (φ : Value → World → Prop) (hφ : ∀ l v w w', l k = true → R l w w' → φ v w → φ v w') : TFactL R := ⟨k, [d], fun a w => φ (a.eval (.tmp d)) w, fun a a' w h e => by rw [← Z15 (h d (by simp))]; exact e, fun l a w w' hl hR e => hφ l _ _ _ hl hR e⟩
theorem BuildL.det (d : Tmp) {v : Value} (hrr : ∀ l w, R l w w) (hI : ∀ l w, I l w → I (upd l k) w) (hd : o.dst = some d) (hn : Nat.blt d a0.tmps.size = true) (hg : o.guard = none)
    (h : ∀ l a w, Env a0 D a → I l w → (∀ (i : Nat) (S' : TFactL R), i ∈ A.getD k [] → (i, S') ∈ done → S'.T a w) → (execOp a.eval o).run P w = .ok (.value v) w)
    (hr : BuildL P R ops I a0 D A G (k + 1) os ((k, detL k d v) :: done)) : BuildL P R ops I a0 D A G k (o :: os) done :=
  .step _ rfl (fun l a w hE hR _ _ hF => .inl ⟨Z0d hg, by
    unfold YieldsR
    rw [h l a w hE hR hF]
    exact ⟨hrr l w, hI l w hR, by rw [hd]; exact Z0g (by rw [hE.size]; exact Nat.le_of_ble_eq_true hn)⟩⟩) hr
theorem BuildL.call (d : Tmp) {v : Value} {f : FuncId} {args : Array Value} (hd : o.dst = some d) (hn : Nat.blt d a0.tmps.size = true) (hg : o.guard = none)
    (h : ∀ l a w, Env a0 D a → I l w → (∀ (i : Nat) (S' : TFactL R), i ∈ A.getD k [] → (i, S') ∈ done → S'.T a w) → (execOp a.eval o).run P w = .ok (.enter f args) w)
    (hc : ∀ l w, I l w → l k = false → (∀ i ∈ A.getD k [], l i = true) → Calls P f args w fun e w' => e = .returned v ∧ R l w w' ∧ I (upd l k) w')
    (hr : BuildL P R ops I a0 D A G (k + 1) os ((k, detL k d v) :: done)) : BuildL P R ops I a0 D A G k (o :: os) done :=
  .step _ rfl (fun l a w hE hR hl hA hF => .inl ⟨Z0d hg, by
    unfold YieldsR
    rw [h l a w hE hR hF]
    exact (hc l w hR hl hA).mono fun e w' ⟨he, hRw, hI⟩ => ⟨v, he, hRw, hI, by rw [hd]; exact Z0g (by rw [hE.size]; exact Nat.le_of_ble_eq_true hn)⟩⟩) hr
/-- One that makes something of its own. -/
theorem BuildL.new (d : Tmp) (φ : Value → World → Prop) (hφ : ∀ l v w w', l k = true → R l w w' → φ v w → φ v w') (hd : o.dst = some d) (hn : Nat.blt d a0.tmps.size = true) (hg : o.guard = none)
    (h : ∀ l a w, Env a0 D a → I l w → l k = false → (∀ i ∈ A.getD k [], l i = true) → (∀ (i : Nat) (S' : TFactL R), i ∈ A.getD k [] → (i, S') ∈ done → S'.T a w) → ∃ v w', (execOp a.eval o).run P w = .ok (.value v) w' ∧ R l w w' ∧ I (upd l k) w' ∧ φ v w')
    (hr : BuildL P R ops I a0 D A G (k + 1) os ((k, freshL k d φ hφ) :: done)) : BuildL P R ops I a0 D A G k (o :: os) done :=
  .step _ rfl (fun l a w hE hR hl hA hF => by
    obtain ⟨v, w', h1, h2, h3, h4⟩ := h l a w hE hR hl hA hF
    refine .inl ⟨Z0d hg, ?_⟩
    unfold YieldsR
    rw [h1]
    exact ⟨h2, h3, by rw [hd]; show φ ((a.put (some d) v).eval (.tmp d)) w'; rw [Z0g (by rw [hE.size]; exact Nat.le_of_ble_eq_true hn)]; exact h4⟩) hr
/-- A call that writes and hands back something new; its arguments may lean on new things. -/
theorem BuildL.callnew (d : Tmp) (φ : Value → World → Prop) (hφ : ∀ l v w w', l k = true → R l w w' → φ v w → φ v w') (hd : o.dst = some d) (hn : Nat.blt d a0.tmps.size = true) (hg : o.guard = none)
    (h : ∀ l a w, Env a0 D a → I l w → l k = false → (∀ i ∈ A.getD k [], l i = true) → (∀ (i : Nat) (S' : TFactL R), i ∈ A.getD k [] → (i, S') ∈ done → S'.T a w) →
      ∃ f args, (execOp a.eval o).run P w = .ok (.enter f args) w ∧ Calls P f args w fun e w' => ∃ v, e = .returned v ∧ R l w w' ∧ I (upd l k) w' ∧ φ v w')
    (hr : BuildL P R ops I a0 D A G (k + 1) os ((k, freshL k d φ hφ) :: done)) : BuildL P R ops I a0 D A G k (o :: os) done :=
  .step _ rfl (fun l a w hE hR hl hA hF => by
    obtain ⟨f, args, h1, hc⟩ := h l a w hE hR hl hA hF
    refine .inl ⟨Z0d hg, ?_⟩
    unfold YieldsR
    rw [h1]
    exact hc.mono fun e w' ⟨v, he, hRw, hI, hv⟩ => ⟨v, he, hRw, hI, by rw [hd]; show φ ((a.put (some d) v).eval (.tmp d)) w'; rw [Z0g (by rw [hE.size]; exact Nat.le_of_ble_eq_true hn)]; exact hv⟩) hr
end
open Go.RowKit Go.Maps Go.ChangeMaps Go.MapKept Go.WideShapes
open Go.WideElems (Fit rd rg pl rd_key rd_val rg_of rd_mk other_key)

section
variable {H : Type} {P : Program} {k : TypeId} {R : Value → Option (DataW H × List MemPlace)} {w : World} {b r n : Nat} {D : DataW H} {left : Lit → Bool} {cnt : Nat}

theorem has_mem {es : List (Lit × DataW H)} {kl : Lit} (h : Maps.has (.map es) kl = true) : ∃ d, (kl, d) ∈ es := by
  obtain ⟨p, hp, hs⟩ := List.any_eq_true.1 h
  have := WideAt.sameKey_eq hs
  exact ⟨p.2, by rw [← this]; exact hp⟩
end
open Go.RowKit Go.ChangeShapes Go.WideShapes Go.ChangeAt

/-- These cells read as a value of type t. -/
def Fit (P : Program) (w : World) (t : TypeId) (cs : List Value) : Prop :=
  ∃ (H : Type) (enc : TypeId × Value → H) (fuel : Nat) (x : DataW H × List MemPlace), DataW.trod enc P w 0 (fun _ => true) true fuel t cs = some x

/-- An argument of type t. -/
def Arg (P : Program) (w : World) (t : TypeId) (v : Value) : Prop := Fit P w t v.cells.toList ∧ ∃ r base, Value.okWide P w r base t v

section
variable {P : Program} {w : World} {t : TypeId} {cs : List Value} {v : Value}
theorem fit_int {k : IntKind} (ht : P.underlying t = some (.int k)) (h : Fit P w t cs) : ∃ n, cs = [.int k n] ∧ (Lit.int k n).wf = true := by
  obtain ⟨H, enc, fuel, x, h⟩ := h
  obtain ⟨n, h1, _, h2⟩ := DataW.trod_int ht h
  exact ⟨n, h1, h2⟩
theorem fit_struct {fs : Array Field} (ht : P.underlying t = some (.struct fs)) (h : Fit P w t cs) :
    cs.length = P.cellsOf t ∧ ∀ (i : Nat) (f : Field), fs[i]? = some f → Fit P w f.type ((cs.drop f.offset).take (P.cellsOf f.type)) := by
  obtain ⟨H, enc, fuel, x, h⟩ := h
  obtain ⟨xs, n, _, _, hl, hx, hg⟩ := DataW.trod_struct ht h
  refine ⟨hl, fun i f hf => ?_⟩
  have hi : i < xs.length := by rw [hx]; exact (Array.getElem?_eq_some_iff.1 hf).1
  exact ⟨H, enc, n, xs[i], (hg i f hf).trans (List.getElem?_eq_getElem hi)⟩
/-- A slice: its elements lie from an address on, c cells each. -/
theorem fit_slice {e : TypeId} {c : Nat} (ht : P.underlying t = some (.slice e)) (hc : P.cellsOf e = c) (h : Fit P w t cs) :
    ∃ A len cap, cs = [.slice A len cap] ∧ len ≤ cap ∧ cap ≤ maxLen ∧ (A = none → len = 0) ∧
      (∀ ad, A = some ad → ∀ i, i < len → ∃ cs', cs'.length = c ∧ (∀ j, j < c → w.cell? ((ad.add (i * c)).add j) = cs'[j]?) ∧ Fit P w e cs') := by
  obtain ⟨H, enc, fuel, x, h⟩ := h
  rcases DataW.trod_slice ht h with ⟨rfl, _⟩ | ⟨a, len, cap, elems, rest, n, _, rfl, _, _, hl, hm, hlen, hel, _, _⟩
  · exact ⟨none, 0, 0, rfl, Nat.le_refl _, by decide, fun _ => rfl, fun ad e => by cases e⟩
  · refine ⟨some a, len, cap, rfl, hl, hm, (fun e => by cases e), fun ad e i hi => ?_⟩
    injection e with e
    subst e
    have := hel i hi
    rw [List.getElem?_eq_getElem (by omega)] at this
    obtain ⟨cs', h1, h2⟩ := Option.bind_eq_some_iff.1 this
    obtain ⟨_, h3, h4⟩ := World.cells?_some h1
    subst hc
    exact ⟨cs', h3, h4, H, enc, n, _, h2⟩

theorem Z6j {e : TypeId} (ht : P.underlying t = some (.slice e)) (h : Arg P w t v) : Fit P w t [v] := by
  obtain ⟨hf, r, base, hv⟩ := h
  obtain ⟨a, len, cap, rfl⟩ := okWide_slice ht hv
  exact hf
end

/-! ### Slices as lists of data: 'Row': element i lies at 'off + i * c', its cells are 'enc x'; 'Row1': elements of one cell. -/
theorem cell_lt {w : World} {a : Addr} {v : Value} (h : w.cell? a = some v) : a.block < w.heap.size := by
  rcases Nat.lt_or_ge a.block w.heap.size with hlt | hge
  · exact hlt
  · have e : w.heap[a.block]? = none := by simp [hge]
    simp [World.cell?, e] at h

def Row {E : Type} (w : World) (A : Option Addr) (c : Nat) (enc : E → List Value) (xs : List E) : Prop :=
  ∀ i x, xs[i]? = some x → ∃ b off, A = some ⟨b, off, none⟩ ∧ b < w.heap.size ∧ ∀ j u, (enc x)[j]? = some u → w.cell? ⟨b, off + i * c + j, none⟩ = some u
def Row1 {E : Type} (w : World) (A : Option Addr) (enc : E → Value) (xs : List E) : Prop :=
  ∀ i x, xs[i]? = some x → ∃ b off, A = some ⟨b, off, none⟩ ∧ b < w.heap.size ∧ w.cell? ⟨b, off + i, none⟩ = some (enc x)

theorem Row.below {E : Type} {w w' : World} {A : Option Addr} {c : Nat} {enc : E → List Value} {xs : List E} (h : Row w A c enc xs) (hb : Below w.heap.size w w') : Row w' A c enc xs := by
  intro i x hx
  obtain ⟨b, off, hA, hlt, hc⟩ := h i x hx
  exact ⟨b, off, hA, Nat.lt_of_lt_of_le hlt hb.size, fun j u hu => (hb.cell (p := ⟨b, _, none⟩) hlt).trans (hc j u hu)⟩
theorem Row1.below {E : Type} {w w' : World} {A : Option Addr} {enc : E → Value} {xs : List E} (h : Row1 w A enc xs) (hb : Below w.heap.size w w') : Row1 w' A enc xs := by
  intro i x hx
  obtain ⟨b, off, hA, hlt, hc⟩ := h i x hx
  exact ⟨b, off, hA, Nat.lt_of_lt_of_le hlt hb.size, (hb.cell (p := ⟨b, _, none⟩) hlt).trans hc⟩
theorem Row1.at_ {E : Type} {w : World} {A : Option Addr} {enc : E → Value} {xs : List E} (h : Row1 w A enc xs) {i : Nat} (hi : i < xs.length) : ∃ b off, A = some ⟨b, off, none⟩ ∧ b < w.heap.size ∧ w.cell? ⟨b, off + i, none⟩ = some (enc xs[i]) :=
  h i _ (List.getElem?_eq_getElem hi)
theorem Row.at_ {E : Type} {w : World} {A : Option Addr} {c : Nat} {enc : E → List Value} {xs : List E} (h : Row w A c enc xs) {i : Nat} (hi : i < xs.length) : ∃ b off, A = some ⟨b, off, none⟩ ∧ b < w.heap.size ∧ ∀ j u, (enc xs[i])[j]? = some u → w.cell? ⟨b, off + i * c + j, none⟩ = some u :=
  h i _ (List.getElem?_eq_getElem hi)

/-- An element in a later world. -/
theorem Row1.in_ {E : Type} {w w' : World} {A : Option Addr} {enc : E → Value} {xs : List E} (h : Row1 w A enc xs) (hb : Below w.heap.size w w') {i : Nat} (hi : i < xs.length) : ∃ b off, A = some ⟨b, off, none⟩ ∧ b < w.heap.size ∧ w'.cell? ⟨b, off + i, none⟩ = some (enc xs[i]) := by
  obtain ⟨b, off, hA, hlt, hc⟩ := h.at_ hi
  exact ⟨b, off, hA, hlt, (hb.cell (p := ⟨b, _, none⟩) hlt).trans hc⟩
theorem Row.in_ {E : Type} {w w' : World} {A : Option Addr} {c : Nat} {enc : E → List Value} {xs : List E} (h : Row w A c enc xs) (hb : Below w.heap.size w w') {i : Nat} (hi : i < xs.length) : ∃ b off, A = some ⟨b, off, none⟩ ∧ b < w.heap.size ∧ ∀ j u, (enc xs[i])[j]? = some u → w'.cell? ⟨b, off + i * c + j, none⟩ = some u := by
  obtain ⟨b, off, hA, hlt, hc⟩ := h.at_ hi
  exact ⟨b, off, hA, hlt, fun j u hu => (hb.cell (p := ⟨b, _, none⟩) hlt).trans (hc j u hu)⟩

theorem list_of {E : Type} (n : Nat) (p : Nat → E → Prop) (h : ∀ i, i < n → ∃ x, p i x) : ∃ xs : List E, xs.length = n ∧ ∀ i x, xs[i]? = some x → p i x := by
  induction n with
  | zero => exact ⟨[], rfl, fun i x hx => by simp at hx⟩
  | succ n ih =>
    obtain ⟨xs, hl, hp⟩ := ih (fun i hi => h i (by omega))
    obtain ⟨x, hx⟩ := h n (by omega)
    refine ⟨xs ++ [x], by simp [hl], fun i y hy => ?_⟩
    by_cases hi : i < n
    · rw [List.getElem?_append_left (by omega)] at hy
      exact hp i y hy
    · have : i = n := by
        have := (List.getElem?_eq_some_iff.1 hy).1
        simp at this
        omega
      subst this
      rw [List.getElem?_append_right (by omega)] at hy
      simp [hl] at hy
      subst hy
      exact hx

section
variable {P : Program} {w : World} {t e : TypeId} {v : Value} {E : Type}
theorem Z78 {c : Nat} (enc : E → List Value) (good : E → Prop) (ht : P.underlying t = some (.slice e)) (hc : P.cellsOf e = c) (hpos : 0 < c)
    (hE : ∀ cs', cs'.length = c → Fit P w e cs' → ∃ x, cs' = enc x ∧ good x) (h : Fit P w t [v]) :
    ∃ A len cap, ∃ xs : List E, v = .slice A len cap ∧ len ≤ cap ∧ cap ≤ maxLen ∧ xs.length = len ∧ (∀ x ∈ xs, good x) ∧ Row w A c enc xs := by
  obtain ⟨A, len, cap, hv, hl, hm, hn, hr⟩ := fit_slice ht hc h
  injection hv with hv _
  subst hv
  rcases A with _ | ad
  · obtain rfl := hn rfl
    exact ⟨none, 0, cap, [], rfl, hl, hm, rfl, (fun x hx => by simp at hx), fun i x hx => by simp at hx⟩
  · obtain ⟨xs, hlen, hp⟩ := list_of len (fun i x => (∀ j, j < c → w.cell? ((ad.add (i * c)).add j) = (enc x)[j]?) ∧ (enc x).length = c ∧ good x) (fun i hi => by
      obtain ⟨cs', h1, h2, h3⟩ := hr ad rfl i hi
      obtain ⟨x, rfl, hg⟩ := hE cs' h1 h3
      exact ⟨x, h2, h1, hg⟩)
    refine ⟨some ad, len, cap, xs, rfl, hl, hm, hlen, (fun x hx => ?_), fun i x hx => ?_⟩
    · obtain ⟨i, hi, rfl⟩ := List.getElem_of_mem hx
      exact (hp i _ (List.getElem?_eq_getElem hi)).2.2
    · have hi : i < len := by have := (List.getElem?_eq_some_iff.1 hx).1; omega
      obtain ⟨h0, _, _⟩ := hp 0 _ (List.getElem?_eq_getElem (by omega))
      obtain ⟨h2, h1, _⟩ := hp i x hx
      have q0 := h0 0 hpos
      obtain ⟨_, h1', _⟩ := hp 0 _ (List.getElem?_eq_getElem (by omega))
      rw [List.getElem?_eq_getElem (by omega)] at q0
      have hs := World.cell?_spot q0
      simp [Addr.add] at hs
      obtain ⟨b, off, spot⟩ := ad
      simp at hs
      subst hs
      refine ⟨b, off, rfl, ?_, fun j u hu => ?_⟩
      · have := cell_lt q0
        simpa [Addr.add] using this
      · have hj : j < c := by have := (List.getElem?_eq_some_iff.1 hu).1; omega
        have := h2 j hj
        rw [hu] at this
        rw [← this]
        congr 1
        unfold Addr.add
        by_cases k1 : i * c = 0 <;> by_cases k2 : j = 0 <;> simp [k1, k2, Nat.add_assoc]

theorem fit_row1 (enc : E → Value) (good : E → Prop) (ht : P.underlying t = some (.slice e)) (hc : P.cellsOf e = 1)
    (hE : ∀ cs', Fit P w e cs' → ∃ x, cs' = [enc x] ∧ good x) (h : Fit P w t [v]) :
    ∃ A len cap, ∃ xs : List E, v = .slice A len cap ∧ len ≤ cap ∧ cap ≤ maxLen ∧ xs.length = len ∧ (∀ x ∈ xs, good x) ∧ Row1 w A enc xs := by
  obtain ⟨A, len, cap, xs, h1, h2, h3, h4, h5, h6⟩ := Z78 (fun x => [enc x]) good ht hc (by omega) (fun cs' _ hf => hE cs' hf) h
  refine ⟨A, len, cap, xs, h1, h2, h3, h4, h5, fun i x hx => ?_⟩
  obtain ⟨b, off, hA, hb, hj⟩ := h6 i x hx
  exact ⟨b, off, hA, hb, by simpa using hj 0 _ rfl⟩

theorem arg_ints {k : IntKind} (ht : P.underlying t = some (.slice e)) (he : P.underlying e = some (.int k)) (hc : P.cellsOf e = 1) (h : Arg P w t v) :
    ∃ A len cap, ∃ xs : List Int, v = .slice A len cap ∧ len ≤ cap ∧ cap ≤ maxLen ∧ xs.length = len ∧ (∀ x ∈ xs, (Lit.int k x).wf = true) ∧ Row1 w A (Value.int k) xs :=
  fit_row1 _ _ ht hc (fun _ hf => fit_int he hf) (Z6j ht h)
end
open Go.RowKit Go.ChangeShapes Go.WideShapes Go.ChangeAt Go.Deep

theorem Z7v {α : Type} {l : List α} {a0 a1 : α} (hl : l.length = 2) (h0 : l[0]? = some a0) (h1 : l[1]? = some a1) : l = [a0, a1] := by
  match l, hl with
  | [x0, x1], _ => simp at h0 h1; rw [h0, h1]
theorem Z4f {α : Type} {l : List α} {i : Nat} {v : α} (h : (l.drop i).take 1 = [v]) : l[i]? = some v := by
  have : ((l.drop i).take 1)[0]? = some v := by rw [h]; rfl
  rw [List.getElem?_take_of_lt (by omega), List.getElem?_drop] at this
  simpa using this

section
variable {P : Program} {w : World} {t : TypeId} {cs : List Value}
/-- Each field's cells are those from its offset on. -/
theorem Z4o {fs : Array Field} (n : Nat) (ht : P.underlying t = some (.struct fs)) (hC : P.cellsOf t = n) (h : Fit P w t cs) :
    cs.length = n ∧ ∀ (i o e c : Nat), (fs[i]?).map (fun f => (f.offset, f.type)) = some (o, e) → P.cellsOf e = c → Fit P w e ((cs.drop o).take c) := by
  obtain ⟨hl, hx⟩ := fit_struct ht h
  refine ⟨by rw [hl, hC], fun i o e c hf hc => ?_⟩
  cases hfi : fs[i]? with
  | none => rw [hfi] at hf; cases hf
  | some f =>
    rw [hfi] at hf
    simp only [Option.map_some, Option.some.injEq, Prod.mk.injEq] at hf
    obtain ⟨rfl, rfl⟩ := hf
    have := hx i f hfi
    rwa [hc] at this
theorem Z5k {k : IntKind} (ht : P.underlying t = some (.int k)) {i : Nat} (h : Fit P w t ((cs.drop i).take 1)) : ∃ n, cs[i]? = some (.int k n) ∧ (Lit.int k n).wf = true := by
  obtain ⟨n, h1, h2⟩ := fit_int ht h
  exact ⟨n, Z4f h1, h2⟩
end
end Go.Proofs.Ytbfgacmfjfbooaa
