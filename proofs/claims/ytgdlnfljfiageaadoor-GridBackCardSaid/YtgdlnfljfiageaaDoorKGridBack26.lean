/- grids' law: GridBack (printed by XGrO.gen.py). -/
import Derived.Test.YtgdlnfljfiageaaDoorKGridBack24
import Derived.Test.YtgdlnfljfiageaaDoorKGridBack25
namespace Go.Proofs.YtgdlnfljfiageaaDoor
attribute [local simp] BigFrame.eval_const BigFrame.eval_global BigFrame.eval_func
set_option linter.unusedVariables false
set_option linter.unusedSimpArgs false
open Go.RowKit

theorem wds_app (X : List (List Tx)) (z : Nat) : (wdsL X z).map (Value.int .i64) ++ [Value.int .i64 ((colW X z : Nat) : Int)] = (wdsL X (z + 1)).map (Value.int .i64) := by
 unfold wdsL
 rw [List.range_succ]
 simp
theorem Z6s {P : Program} {H : Nat} {A w : World} {T t : TypeId} {k n m c bytes : Nat} {v : Value} {xs news : List Value} {G : List Thing} {p : Addr} (O : OwnT H A (tRow T k v n xs :: G) w) (E : ElemI P t T k bytes) (hk : 0 < k) (hlen : news.length = m * k) (hn : ∀ j u, news[j]? = some u → w.cell? (p.add j) = some u) (h1 : ∀ u ∈ news, u.oneCell' = true) (h63 : n + m ≤ maxLen) (hbytes : (n + m) * bytes ≤ 140737488355328) :
 ∃ v' w', (∀ ty, (Builtin.append_ #[t, t] ty #[v, .slice (some p) m c]).run P w = .ok v' w') ∧ OwnT H A (tRow T k v' (n + m) (xs ++ news) :: G) w' := by
 obtain ⟨i, z, hi, hz, hs, hby, hzs⟩ := E.info
 obtain ⟨v', w', hrun, h2, h3, h4⟩ := Z1e (P := P) w t t T i z k bytes E.ht hi hz hs hby hzs hk v n xs O.r0 p m c news hlen hn h1 h63 hbytes
 exact ⟨v', w', fun _ => hrun, O.row h2 h3 h4⟩
theorem Z51 {w : World} {T : TypeId} {g n cap : Nat} {xs : List Value} (h : w.ownsRow 0 T 1 (.slice (some ⟨g, 0, none⟩) n cap) n xs) : ∀ j u, xs[j]? = some u → w.cell? ((⟨g, 0, none⟩ : Addr).add j) = some u := fun j u hu => by
 rw [show (⟨g, 0, none⟩ : Addr).add j = ⟨g, j, none⟩ by unfold Addr.add; split <;> simp_all]
 exact (Z3j h hu).1
theorem Z7a {w : World} {T : TypeId} {g n cap : Nat} {xs : List Value} (h : w.ownsRow 0 T 1 (.slice (some ⟨g, 0, none⟩) n cap) n xs) : n ≤ cap := by
 rcases h.2 with ⟨h1, _⟩ | ⟨g', cap', cur, h1, _, hb, h2, _⟩
 · cases h1
 · injection h1 with h1 _ hc
   subst hc
   exact h2
theorem Z5u (W : World) : (sizeOf 3).run Tryd.prog W = .ok 1 W := by
 obtain ⟨i, z, hi, hz, hsz, hby, hzs⟩ := elemIG.info
 simp [sizeOf, typeInfo, hi, hsz]
theorem Z5a {w : World} {o : Oper} {ρ : Operand → Value} {x hi : Operand} {B : Option Addr} {n cap b : Nat} (ho : o.op = .slice 33 x none (some hi) none) (hx : ρ x = .slice B n cap) (hh : ρ hi = .int .i64 (b : Nat)) (hb : b ≤ cap) : (execOp ρ o).run Tryd.prog w = .ok (.value (.slice B b cap)) w := by
 have h1 : (0 ≤ ((b : Nat) : Int) ∧ ((b : Nat) : Int) ≤ (cap : Int)) := by omega
 have h2 : (0 ≤ (0 : Int) ∧ (0 : Int) ≤ ((b : Nat) : Int)) := by omega
 have hs' := Z5u w
 unfold execOp
 simp only [ho, Option.map_some, Option.map_none, hx, hh]
 have e : (if cap = 0 then B else B.map (·.add 0)) = B := by
  split
  · rfl
  · cases B with
    | none => rfl
    | some p => simp [Addr.add]
 simp [Instr.sliceAt, Instr.slice, Instr.sliceBounds, Instr.sliceBound, run_underlying Tryd.underlying33, asIntOf, h1, hs']
 cases B with
 | none => simp; intro h; omega
 | some p =>
  by_cases hc : cap = 0
  · simp [hc]; intro h; omega
  · simp [hc, Addr.add]; intro h; omega
theorem Z5z {E : Type} {f : E → Value} {w : World} {A : Option Addr} {X : List E} (h : Row1 w A f X) (m : Nat) : Row1 w A f (X.take m) := by
 intro i x hx
 rw [List.getElem?_take] at hx
 split at hx
 · exact h i x hx
 · cases hx
theorem uN_nat {n : Nat} (h : n ≤ 1000000) : uN (n : Int) = n := by
 unfold uN IntKind.wrap
 simp [IntKind.bits, IntKind.signed]
 omega
theorem Z3e {α : Type} {X Y : List α} {i : Nat} {x y : α} (hx : X[i]? = some x) (hy : Y[i]? = some y) : X.take (i + 1) = Y.take (i + 1) ↔ X.take i = Y.take i ∧ x = y := by
 rw [List.take_add_one, List.take_add_one, hx, hy]
 constructor
 · intro h
   have := List.append_inj' h rfl
   exact ⟨this.1, by simpa using this.2⟩
 · rintro ⟨h1, h2⟩
   rw [h1, h2]
theorem Z5q {p : Prop} [Decidable p] {T U : List Tx} {j : Nat} {s u : Tx} {b : Bool} (hb : b = decide (p ∧ T.take j = U.take j)) (hs : T[j]? = some s) (hu : U[j]? = some u) : (b && decide (s = u)) = decide (p ∧ T.take (j + 1) = U.take (j + 1)) := by
 have h := Z3e hs hu
 rw [hb, Bool.eq_iff_iff]
 simp only [Bool.and_eq_true, decide_eq_true_eq, h]
 exact ⟨fun ⟨⟨a, b⟩, c⟩ => ⟨a, b, c⟩, fun ⟨a, b, c⟩ => ⟨⟨a, b⟩, c⟩⟩
theorem Z4c {X : List (List Tx)} {W : Nat → Nat} (hW : ∀ k, W k ≤ 80) : ∀ L : List (List Tx), (∀ T ∈ L, T.length ≤ 10 ∧ ∀ s ∈ T, s.length ≤ 40) → ((L.map (lineL W)).flatten).length ≤ L.length * 1631
 | [], _ => Nat.zero_le _
 | T :: L, h => by
  have h1 := Z4c (X := X) hW L (fun T hT => h T (List.mem_cons_of_mem _ hT))
  obtain ⟨h2, h3⟩ := h T (List.mem_cons_self ..)
  have h4 := Z3o hW (T := T) (fun s hs => Nat.le_trans (h3 s hs) (by decide))
  have h5 : T.length * (2 * 80 + 3) ≤ 10 * (2 * 80 + 3) := Nat.mul_le_mul_right _ h2
  rw [List.map_cons, List.flatten_cons, List.length_append, List.length_cons, Nat.succ_mul]
  omega
theorem col_80 {X : List (List Tx)} (h : ∀ T ∈ X, ∀ s ∈ T, s.length ≤ 40) (k : Nat) : colW X k ≤ 80 := Z6k k (fun T hT => by
 by_cases hk : k < T.length
 · have e : T.getD k [] = T[k] := by simp [List.getD, hk]
   rw [e]
   have h1 := Z23 T[k].length T[k] (Nat.le_refl _)
   have h2 := h T hT T[k] (List.getElem_mem hk)
   omega
 · have e : T.getD k [] = [] := by simp [List.getD, List.getElem?_eq_none (show T.length ≤ k by omega)]
   rw [e]
   exact Nat.zero_le _)
theorem Z6o {xs : List Int} (h1 : 0 < xs.length) (h2 : xs.length ≤ 100) (h : ∀ x ∈ xs, 0 ≤ x ∧ x ≤ 1000) : badW xs = false := by
 unfold badW
 rw [decide_eq_false (by omega), decide_eq_false (by omega), Bool.false_or, Bool.false_or, List.any_eq_false]
 intro x hx
 have := h x hx
 unfold badN
 rw [decide_eq_true_eq]
 omega
theorem wds_len (X : List (List Tx)) (n : Nat) : (wdsL X n).length = n := by simp [wdsL]
theorem wds_mem {X : List (List Tx)} {n : Nat} (h : ∀ k, colW X k ≤ 80) : ∀ x ∈ wdsL X n, 0 ≤ x ∧ x ≤ 80 := by
 intro x hx
 obtain ⟨k, _, rfl⟩ := List.mem_map.1 hx
 have := h k
 omega
theorem Z6n {s : Tx} {xs : List Int} {e : Ending} {w' : World} (h1 : okC s xs = false) (h : CellsP s xs e w') : ∃ (B : Option Addr) (n cap : Nat) (c : Int), e = .returned (.tuple #[.slice B n cap, .int .i64 c]) ∧ c ≠ 0 := by
 obtain ⟨B, n, cap, c, e1, h2⟩ := Z6m h
 refine ⟨B, n, cap, c, e1, ?_⟩
 rcases h2 with ⟨_, _, h2⟩ | ⟨_, _, h2⟩ | ⟨_, h2, _⟩
 · omega
 · omega
 · rw [h1] at h2; cases h2

set_option maxRecDepth 100000 in
set_option maxHeartbeats 4000000 in
theorem Z36 {A A2 : Option Addr} {ca cb : Nat} {X Y : List (List Tx)} (x : Int) (W0 : World) (h : TxsR W0 A X) (h2 : TxsR W0 A2 Y) (hv : VarW W0) : Calls Tryd.prog 5 #[.slice A X.length ca, .slice A2 Y.length cb, .int .i64 x] W0 fun e w' => e = .returned (.bool true) ∧ Below W0.heap.size W0 w' := by
 have O := OwnT.start W0
 refine Z0k Tryd.func5 rfl 217 rfl (by rfl) ?_
 intro a1 k hargs
 have e0 : a1.eval (.tmp 0) = .slice A X.length ca := hargs 0 _ rfl
 have e1 : a1.eval (.tmp 1) = .slice A2 Y.length cb := hargs 1 _ rfl
 have e2 : a1.eval (.tmp 2) = .int .i64 x := hargs 2 _ rfl
 clear hargs
 refine wp_seq ?_
 refine wp_region_lit ?_
 have hE := Env.refl a1 [6]
 refine sd 6 hE k (Z01 rfl rfl) ?_
 intro a2 hE e6 kp
 refine wpList_nil ?_
 replace e0 := hE.g e0; replace e1 := hE.g e1; replace e2 := hE.g e2
 replace k := k.env hE
 clear hE e6
 refine Z00 (wp_seq ?_)
 refine wp_seq ?_
 refine wp_region_lit ?_
 have hE := Env.refl a2 [28, 29]
 apply Z08 28 hE k rfl (by rfl) (by rfl) rfl
 case h =>
  simp [go_sem, ↓IntWalk.iteOmega]
  with_reducible exact ⟨rfl, rfl⟩
 case hc => exact awake37 _ hv
 rintro e w4 ⟨rfl, RE⟩
 replace O := OwnT.ext O RE
 refine ⟨_, rfl, ?_⟩
 intro a3 hE e28 kp
 refine sd 29 hE k (Z3a rfl e28) ?_
 intro a5 hE e29 kp
 refine wpList_nil ?_
 replace e0 := hE.g e0; replace e1 := hE.g e1; replace e2 := hE.g e2
 replace k := k.env hE
 clear hE
 refine Z00 ?_
 refine Z0e e29 rfl ?_
 refine wp_skip ?_
 refine Z00 ?_
 cases hg : greatB X with
 | true =>
  refine wp_seq ?_
  refine wp_seq ?_
  refine wp_region_lit ?_
  have hE := Env.refl a5 [30, 31, 32, 33, 34, 35]
  refine zm 30 hE k e0 ?_
  intro a6 hE e30 kp
  apply Z08 31 hE k rfl (by rfl) (by rfl) rfl
  case h =>
   simp [go_sem, ↓IntWalk.iteOmega, ev e30]
   with_reducible exact ⟨rfl, rfl⟩
  case hc => exact Z1g _ (h.below O.below)
  rintro e w8 ⟨he, RE⟩
  replace O := OwnT.ext O RE
  refine ⟨_, he.trans (congrArg (fun b => Ending.returned (.bool b)) hg), ?_⟩
  intro a7 hE e31 kp
  refine sd 32 hE k (Z02 rfl e31) ?_
  intro a9 hE e32 kp
  refine Z04 33 hE k rfl (by rfl) (by rfl) rfl rfl (.inl e32) ?_
  intro a10 hE e33 kp
  replace e32 := kt kp e32
  refine Z04 34 hE k rfl (by rfl) (by rfl) rfl rfl (.inl e32) ?_
  intro a11 hE e34 kp
  replace e32 := kt kp e32
  refine sd 35 hE k (Z09 rfl e32 rfl) ?_
  intro a12 hE e35 kp
  refine wpList_nil ?_
  replace e0 := hE.g e0; replace e1 := hE.g e1; replace e2 := hE.g e2
  replace k := k.env hE
  clear hE e29
  refine Z00 ?_
  refine Z0a e35 rfl ?_
  refine wp_seq ?_
  refine wp_region_lit ?_
  have hE := Env.refl a12 [6]
  refine sd 6 hE k (Z01 rfl rfl) ?_
  intro a13 hE e6 kp
  refine wpList_nil ?_
  replace k := k.env hE
  clear hE e0 e1 e2 e35
  refine Z00 ?_
  refine wp_ret ?_
  refine Z0c ?_
  refine Z0b rfl k e6 ?_
  exact ⟨rfl, O.below⟩
 | false =>
  cases hg2 : greatB Y with
  | true =>
   refine wp_seq ?_
   refine wp_seq ?_
   refine wp_region_lit ?_
   have hE := Env.refl a5 [30, 31, 32, 33, 34, 35]
   refine zm 30 hE k e0 ?_
   intro a14 hE e30 kp
   apply Z08 31 hE k rfl (by rfl) (by rfl) rfl
   case h =>
    simp [go_sem, ↓IntWalk.iteOmega, ev e30]
    with_reducible exact ⟨rfl, rfl⟩
   case hc => exact Z1g _ (h.below O.below)
   rintro e w16 ⟨he, RE⟩
   replace O := OwnT.ext O RE
   refine ⟨_, he.trans (congrArg (fun b => Ending.returned (.bool b)) hg), ?_⟩
   intro a15 hE e31 kp
   refine sd 32 hE k (Z02 rfl e31) ?_
   intro a17 hE e32 kp
   apply Z03 33 hE k rfl rfl rfl rfl rfl e32
   case h =>
    exact Z02 rfl (hE.g e1)
   intro a18 hE e33 kp
   replace e32 := kt kp e32
   apply Z10 34 hE k rfl (by rfl) (by rfl) rfl rfl e32
   case h =>
    simp [go_sem, ↓IntWalk.iteOmega, ev e33]
    with_reducible exact ⟨rfl, rfl⟩
   case hc => exact Z1g _ (h2.below O.below)
   rintro e w20 ⟨he, RE⟩
   replace O := OwnT.ext O RE
   refine ⟨_, he.trans (congrArg (fun b => Ending.returned (.bool b)) hg2), ?_⟩
   intro a19 hE e34 kp
   replace e32 := kt kp e32
   refine sd 35 hE k (Z07 rfl e32 e34) ?_
   intro a21 hE e35 kp
   refine wpList_nil ?_
   replace e0 := hE.g e0; replace e1 := hE.g e1; replace e2 := hE.g e2
   replace k := k.env hE
   clear hE e29
   refine Z00 ?_
   refine Z0a e35 rfl ?_
   refine wp_seq ?_
   refine wp_region_lit ?_
   have hE := Env.refl a21 [6]
   refine sd 6 hE k (Z01 rfl rfl) ?_
   intro a22 hE e6 kp
   refine wpList_nil ?_
   replace k := k.env hE
   clear hE e0 e1 e2 e35
   refine Z00 ?_
   refine wp_ret ?_
   refine Z0c ?_
   refine Z0b rfl k e6 ?_
   exact ⟨rfl, O.below⟩
  | false =>
   obtain ⟨hX1, hX2⟩ := Z4r hg
   obtain ⟨hY1, hY2⟩ := Z4r hg2
   have hs : ∀ T ∈ X, T.length ≤ 1000000000 ∧ ∀ s ∈ T, s.length ≤ 1000 := fun T hT => ⟨by have := (hX2 T hT).1; omega, fun s h => by have := (hX2 T hT).2 s h; omega⟩
   have hs2 : ∀ T ∈ Y, T.length ≤ 1000000000 ∧ ∀ s ∈ T, s.length ≤ 1000 := fun T hT => ⟨by have := (hY2 T hT).1; omega, fun s h => by have := (hY2 T hT).2 s h; omega⟩

   refine wp_seq ?_
   refine wp_seq ?_
   refine wp_region_lit ?_
   have hE := Env.refl a5 [30, 31, 32, 33, 34, 35]
   refine zm 30 hE k e0 ?_
   intro a23 hE e30 kp
   apply Z08 31 hE k rfl (by rfl) (by rfl) rfl
   case h =>
    simp [go_sem, ↓IntWalk.iteOmega, ev e30]
    with_reducible exact ⟨rfl, rfl⟩
   case hc => exact Z1g _ (h.below O.below)
   rintro e w25 ⟨he, RE⟩
   replace O := OwnT.ext O RE
   refine ⟨_, he.trans (congrArg (fun b => Ending.returned (.bool b)) hg), ?_⟩
   intro a24 hE e31 kp
   refine sd 32 hE k (Z02 rfl e31) ?_
   intro a26 hE e32 kp
   apply Z03 33 hE k rfl rfl rfl rfl rfl e32
   case h =>
    exact Z02 rfl (hE.g e1)
   intro a27 hE e33 kp
   replace e32 := kt kp e32
   apply Z10 34 hE k rfl (by rfl) (by rfl) rfl rfl e32
   case h =>
    simp [go_sem, ↓IntWalk.iteOmega, ev e33]
    with_reducible exact ⟨rfl, rfl⟩
   case hc => exact Z1g _ (h2.below O.below)
   rintro e w29 ⟨he, RE⟩
   replace O := OwnT.ext O RE
   refine ⟨_, he.trans (congrArg (fun b => Ending.returned (.bool b)) hg2), ?_⟩
   intro a28 hE e34 kp
   replace e32 := kt kp e32
   refine sd 35 hE k (Z07 rfl e32 e34) ?_
   intro a30 hE e35 kp
   refine wpList_nil ?_
   replace e0 := hE.g e0; replace e1 := hE.g e1; replace e2 := hE.g e2
   replace k := k.env hE
   clear hE e29
   refine Z00 ?_
   refine Z0e e35 rfl ?_
   refine wp_skip ?_
   refine Z00 ?_
   cases ht : tableB X with
   | false =>
    refine wp_seq ?_
    refine wp_region_lit ?_
    have hE := Env.refl a30 [37, 38, 36, 39, 40, 7, 8]
    refine zm 37 hE k e0 ?_
    intro a31 hE e37 kp
    apply Z08 38 hE k rfl (by rfl) (by rfl) rfl
    case h =>
     simp [go_sem, ↓IntWalk.iteOmega, ev e37]
     with_reducible exact ⟨rfl, rfl⟩
    case hc => exact Z15 _ (h.below O.below) (by omega) hs (hv.below O.below)
    rintro e w33 ⟨he, RE⟩
    replace O := OwnT.ext O RE
    refine ⟨_, he.trans (by rw [ht]; first | done | rfl), ?_⟩
    intro a32 hE e38 kp
    refine sd 36 hE k (Z02 rfl e38) ?_
    intro a34 hE e36 kp
    apply Z05 39 hE k rfl rfl rfl rfl
    case h =>
     simp [go_sem, ↓IntWalk.iteOmega, ev e36]
     with_reducible rfl
    intro a35 hE e39 kp
    replace e36 := kt kp e36
    apply Z05 40 hE k rfl rfl rfl rfl
    case h =>
     simp [go_sem, ↓IntWalk.iteOmega, ev e36]
     with_reducible rfl
    intro a36 hE e40 kp
    replace e39 := kt kp e39
    refine sd 7 hE k (Z01 rfl e39) ?_
    intro a37 hE e7 kp
    replace e40 := kt kp e40
    refine sd 8 hE k (Z01 rfl e40) ?_
    intro a38 hE e8 kp
    replace e7 := kt kp e7
    refine wpList_nil ?_
    replace e0 := hE.g e0; replace e1 := hE.g e1; replace e2 := hE.g e2
    replace k := k.env hE
    clear hE e35
    refine Z00 (wp_seq ?_)
    refine wp_seq ?_
    refine wp_region_lit ?_
    have hE := Env.refl a38 [41, 42, 43, 44, 45, 46, 47, 48, 49, 50, 51, 52, 53, 54]
    refine zm 41 hE k e8 ?_
    intro a39 hE e41 kp
    refine sd 42 hE k (Z06 (Z12 rfl e41 rfl) (decide_eq_true (by omega))) ?_
    intro a40 hE e42 kp
    refine sd 43 hE k (Z02 rfl e42) ?_
    intro a41 hE e43 kp
    refine Z04 44 hE k rfl (by rfl) (by rfl) rfl rfl (.inl e43) ?_
    intro a42 hE e44 kp
    replace e43 := kt kp e43
    refine Z04 45 hE k rfl (by rfl) (by rfl) rfl rfl (.inl e43) ?_
    intro a43 hE e45 kp
    replace e43 := kt kp e43
    refine Z04 46 hE k rfl (by rfl) (by rfl) rfl rfl (.inl e43) ?_
    intro a44 hE e46 kp
    replace e43 := kt kp e43
    refine sd 47 hE k (Z09 rfl e43 rfl) ?_
    intro a45 hE e47 kp
    refine sd 48 hE k (Z02 rfl e47) ?_
    intro a46 hE e48 kp
    refine Z04 49 hE k rfl (by rfl) (by rfl) rfl rfl (.inl e48) ?_
    intro a47 hE e49 kp
    replace e48 := kt kp e48
    refine Z04 50 hE k rfl (by rfl) (by rfl) rfl rfl (.inl e48) ?_
    intro a48 hE e50 kp
    replace e48 := kt kp e48
    refine Z04 51 hE k rfl (by rfl) (by rfl) rfl rfl (.inl e48) ?_
    intro a49 hE e51 kp
    replace e48 := kt kp e48
    refine Z04 52 hE k rfl (by rfl) (by rfl) rfl rfl (.inl e48) ?_
    intro a50 hE e52 kp
    replace e48 := kt kp e48
    refine Z04 53 hE k rfl (by rfl) (by rfl) rfl rfl (.inl e48) ?_
    intro a51 hE e53 kp
    replace e48 := kt kp e48
    refine sd 54 hE k (Z09 rfl e48 rfl) ?_
    intro a52 hE e54 kp
    refine wpList_nil ?_
    replace e0 := hE.g e0; replace e1 := hE.g e1; replace e2 := hE.g e2; replace e7 := hE.g e7
    replace k := k.env hE
    clear hE e8
    refine Z00 ?_
    refine Z0a e54 rfl ?_
    refine wp_seq ?_
    refine wp_region_lit ?_
    have hE := Env.refl a52 [6]
    refine sd 6 hE k (Z01 rfl rfl) ?_
    intro a53 hE e6 kp
    refine wpList_nil ?_
    replace k := k.env hE
    clear hE e0 e1 e2 e7 e54
    refine Z00 ?_
    refine wp_ret ?_
    refine Z0c ?_
    refine Z0b rfl k e6 ?_
    exact ⟨rfl, O.below⟩
   | true =>
    refine wp_seq ?_
    refine wp_region_lit ?_
    have hE := Env.refl a30 [37, 38, 36, 39, 40, 7, 8]
    refine zm 37 hE k e0 ?_
    intro a54 hE e37 kp
    apply Z08 38 hE k rfl (by rfl) (by rfl) rfl
    case h =>
     simp [go_sem, ↓IntWalk.iteOmega, ev e37]
     with_reducible exact ⟨rfl, rfl⟩
    case hc => exact Z15 _ (h.below O.below) (by omega) hs (hv.below O.below)
    rintro e w56 ⟨he, RE⟩
    replace O := OwnT.ext O RE
    refine ⟨_, he.trans (by rw [ht]; first | done | rfl), ?_⟩
    intro a55 hE e38 kp
    refine sd 36 hE k (Z02 rfl e38) ?_
    intro a57 hE e36 kp
    apply Z05 39 hE k rfl rfl rfl rfl
    case h =>
     simp [go_sem, ↓IntWalk.iteOmega, ev e36]
     with_reducible rfl
    intro a58 hE e39 kp
    replace e36 := kt kp e36
    apply Z05 40 hE k rfl rfl rfl rfl
    case h =>
     simp [go_sem, ↓IntWalk.iteOmega, ev e36]
     with_reducible rfl
    intro a59 hE e40 kp
    replace e39 := kt kp e39
    refine sd 7 hE k (Z01 rfl e39) ?_
    intro a60 hE e7 kp
    replace e40 := kt kp e40
    refine sd 8 hE k (Z01 rfl e40) ?_
    intro a61 hE e8 kp
    replace e7 := kt kp e7
    refine wpList_nil ?_
    replace e0 := hE.g e0; replace e1 := hE.g e1; replace e2 := hE.g e2
    replace k := k.env hE
    clear hE e35
    refine Z00 ?_
    by_cases hx0 : X.length = 0
    · skip
      refine wp_seq ?_
      refine wp_seq ?_
      refine wp_region_lit ?_
      have hE := Env.refl a61 [41, 42, 43, 44, 45, 46, 47, 48, 49, 50, 51, 52, 53, 54]
      refine zm 41 hE k e8 ?_
      intro a62 hE e41 kp
      refine sd 42 hE k (Z06 (Z12 rfl e41 rfl) (decide_eq_false (by omega))) ?_
      intro a63 hE e42 kp
      refine sd 43 hE k (Z02 rfl e42) ?_
      intro a64 hE e43 kp
      apply Z03 44 hE k rfl rfl rfl rfl rfl e43
      case h =>
       exact Z02 rfl (hE.g e0)
      intro a65 hE e44 kp
      replace e43 := kt kp e43
      apply Z03 45 hE k rfl rfl rfl rfl rfl e43
      case h =>
       exact Z0d Tryd.underlying22 rfl e44
      intro a66 hE e45 kp
      replace e43 := kt kp e43
      apply Z03 46 hE k rfl rfl rfl rfl rfl e43
      case h =>
       exact Z06 (Z18 rfl e45 rfl) (decide_eq_true (by omega))
      intro a67 hE e46 kp
      replace e43 := kt kp e43
      refine sd 47 hE k (Z07 rfl e43 e46) ?_
      intro a68 hE e47 kp
      refine sd 48 hE k (Z02 rfl e47) ?_
      intro a69 hE e48 kp
      refine Z04 49 hE k rfl (by rfl) (by rfl) rfl rfl (.inl e48) ?_
      intro a70 hE e49 kp
      replace e48 := kt kp e48
      refine Z04 50 hE k rfl (by rfl) (by rfl) rfl rfl (.inl e48) ?_
      intro a71 hE e50 kp
      replace e48 := kt kp e48
      refine Z04 51 hE k rfl (by rfl) (by rfl) rfl rfl (.inl e48) ?_
      intro a72 hE e51 kp
      replace e48 := kt kp e48
      refine Z04 52 hE k rfl (by rfl) (by rfl) rfl rfl (.inl e48) ?_
      intro a73 hE e52 kp
      replace e48 := kt kp e48
      refine Z04 53 hE k rfl (by rfl) (by rfl) rfl rfl (.inl e48) ?_
      intro a74 hE e53 kp
      replace e48 := kt kp e48
      refine sd 54 hE k (Z09 rfl e48 rfl) ?_
      intro a75 hE e54 kp
      refine wpList_nil ?_
      replace e0 := hE.g e0; replace e1 := hE.g e1; replace e2 := hE.g e2; replace e7 := hE.g e7
      replace k := k.env hE
      clear hE e8
      refine Z00 ?_
      refine Z0a e54 rfl ?_
      refine wp_seq ?_
      refine wp_region_lit ?_
      have hE := Env.refl a75 [6]
      refine sd 6 hE k (Z01 rfl rfl) ?_
      intro a76 hE e6 kp
      refine wpList_nil ?_
      replace k := k.env hE
      clear hE e0 e1 e2 e7 e54
      refine Z00 ?_
      refine wp_ret ?_
      refine Z0c ?_
      refine Z0b rfl k e6 ?_
      exact ⟨rfl, O.below⟩
    · skip
      obtain ⟨T0, hT0⟩ : ∃ T, X[0]? = some T := ⟨_, List.getElem?_eq_getElem (by omega)⟩
      have hhd : X.headD [] = T0 := by cases X with | nil => simp at hT0 | cons a r => simp at hT0; exact hT0
      obtain ⟨n, hn⟩ : ∃ m, T0.length = m := ⟨_, rfl⟩
      obtain ⟨-, hrows⟩ := Z5p ht
      rw [hhd, hn] at hrows
      obtain ⟨b, o, hA, hsp⟩ := h.spot hT0
      obtain ⟨A0, c0, -, hc0⟩ := hsp 0 T0 hT0
      simp only [Nat.add_zero] at hc0
      have hn10 := (hX2 T0 (List.mem_of_getElem? hT0)).1
      rw [hn] at hn10
      subst hA

      by_cases hn0 : n = 0
      · skip
        refine wp_seq ?_
        refine wp_seq ?_
        refine wp_region_lit ?_
        have hE := Env.refl a61 [41, 42, 43, 44, 45, 46, 47, 48, 49, 50, 51, 52, 53, 54]
        refine zm 41 hE k e8 ?_
        intro a77 hE e41 kp
        refine sd 42 hE k (Z06 (Z12 rfl e41 rfl) (decide_eq_false (by omega))) ?_
        intro a78 hE e42 kp
        refine sd 43 hE k (Z02 rfl e42) ?_
        intro a79 hE e43 kp
        apply Z03 44 hE k rfl rfl rfl rfl rfl e43
        case h =>
         exact Z02 rfl (hE.g e0)
        intro a80 hE e44 kp
        replace e43 := kt kp e43
        apply Z03 45 hE k rfl rfl rfl rfl rfl e43
        case h =>
         exact Z0d Tryd.underlying22 rfl e44
        intro a81 hE e45 kp
        replace e43 := kt kp e43
        apply Z03 46 hE k rfl rfl rfl rfl rfl e43
        case h =>
         exact Z06 (Z18 rfl e45 rfl) (decide_eq_false (by omega))
        intro a82 hE e46 kp
        replace e43 := kt kp e43
        refine sd 47 hE k (Z07 rfl e43 e46) ?_
        intro a83 hE e47 kp
        refine sd 48 hE k (Z02 rfl e47) ?_
        intro a84 hE e48 kp
        apply Z03 49 hE k rfl rfl rfl rfl rfl e48
        case h =>
         exact Z02 rfl (hE.g e0)
        intro a85 hE e49 kp
        replace e48 := kt kp e48
        apply Z03 50 hE k rfl rfl rfl rfl rfl e48
        case h =>
         simp [go_sem, ↓IntWalk.iteOmega, ev e49]
         with_reducible rfl
        intro a86 hE e50 kp
        replace e48 := kt kp e48
        apply Z03 51 hE k rfl rfl rfl rfl rfl e48
        case h =>
         simp [go_sem, ↓IntWalk.iteOmega, ev e50, hc0 _ O.below]
         with_reducible rfl
        intro a87 hE e51 kp
        replace e48 := kt kp e48
        apply Z03 52 hE k rfl rfl rfl rfl rfl e48
        case h =>
         exact Z0d Tryd.underlying36 rfl e51
        intro a88 hE e52 kp
        replace e48 := kt kp e48
        replace e52 := e52.trans (Z0x (show (T0.length : Int) = (n : Int) by omega))
        apply Z03 53 hE k rfl rfl rfl rfl rfl e48
        case h =>
         exact Z06 (Z18 rfl e52 rfl) (decide_eq_true (by omega))
        intro a89 hE e53 kp
        replace e48 := kt kp e48
        refine sd 54 hE k (Z07 rfl e48 e53) ?_
        intro a90 hE e54 kp
        refine wpList_nil ?_
        replace e0 := hE.g e0; replace e1 := hE.g e1; replace e2 := hE.g e2; replace e7 := hE.g e7
        replace k := k.env hE
        clear hE e8
        refine Z00 ?_
        refine Z0a e54 rfl ?_
        refine wp_seq ?_
        refine wp_region_lit ?_
        have hE := Env.refl a90 [6]
        refine sd 6 hE k (Z01 rfl rfl) ?_
        intro a91 hE e6 kp
        refine wpList_nil ?_
        replace k := k.env hE
        clear hE e0 e1 e2 e7 e54
        refine Z00 ?_
        refine wp_ret ?_
        refine Z0c ?_
        refine Z0b rfl k e6 ?_
        exact ⟨rfl, O.below⟩
      · skip
        refine wp_seq ?_
        refine wp_seq ?_
        refine wp_region_lit ?_
        have hE := Env.refl a61 [41, 42, 43, 44, 45, 46, 47, 48, 49, 50, 51, 52, 53, 54]
        refine zm 41 hE k e8 ?_
        intro a92 hE e41 kp
        refine sd 42 hE k (Z06 (Z12 rfl e41 rfl) (decide_eq_false (by omega))) ?_
        intro a93 hE e42 kp
        refine sd 43 hE k (Z02 rfl e42) ?_
        intro a94 hE e43 kp
        apply Z03 44 hE k rfl rfl rfl rfl rfl e43
        case h =>
         exact Z02 rfl (hE.g e0)
        intro a95 hE e44 kp
        replace e43 := kt kp e43
        apply Z03 45 hE k rfl rfl rfl rfl rfl e43
        case h =>
         exact Z0d Tryd.underlying22 rfl e44
        intro a96 hE e45 kp
        replace e43 := kt kp e43
        apply Z03 46 hE k rfl rfl rfl rfl rfl e43
        case h =>
         exact Z06 (Z18 rfl e45 rfl) (decide_eq_false (by omega))
        intro a97 hE e46 kp
        replace e43 := kt kp e43
        refine sd 47 hE k (Z07 rfl e43 e46) ?_
        intro a98 hE e47 kp
        refine sd 48 hE k (Z02 rfl e47) ?_
        intro a99 hE e48 kp
        apply Z03 49 hE k rfl rfl rfl rfl rfl e48
        case h =>
         exact Z02 rfl (hE.g e0)
        intro a100 hE e49 kp
        replace e48 := kt kp e48
        apply Z03 50 hE k rfl rfl rfl rfl rfl e48
        case h =>
         simp [go_sem, ↓IntWalk.iteOmega, ev e49]
         with_reducible rfl
        intro a101 hE e50 kp
        replace e48 := kt kp e48
        apply Z03 51 hE k rfl rfl rfl rfl rfl e48
        case h =>
         simp [go_sem, ↓IntWalk.iteOmega, ev e50, hc0 _ O.below]
         with_reducible rfl
        intro a102 hE e51 kp
        replace e48 := kt kp e48
        apply Z03 52 hE k rfl rfl rfl rfl rfl e48
        case h =>
         exact Z0d Tryd.underlying36 rfl e51
        intro a103 hE e52 kp
        replace e48 := kt kp e48
        replace e52 := e52.trans (Z0x (show (T0.length : Int) = (n : Int) by omega))
        apply Z03 53 hE k rfl rfl rfl rfl rfl e48
        case h =>
         exact Z06 (Z18 rfl e52 rfl) (decide_eq_false (by omega))
        intro a104 hE e53 kp
        replace e48 := kt kp e48
        refine sd 54 hE k (Z07 rfl e48 e53) ?_
        intro a105 hE e54 kp
        refine wpList_nil ?_
        replace e0 := hE.g e0; replace e1 := hE.g e1; replace e2 := hE.g e2; replace e7 := hE.g e7
        replace k := k.env hE
        clear hE e8
        refine Z00 ?_
        refine Z0e e54 rfl ?_
        refine wp_skip ?_
        refine Z00 (wp_seq ?_)
        refine wp_region_lit ?_
        have hE := Env.refl a105 [55, 56, 57, 58, 9]
        refine zm 55 hE k e0 ?_
        intro a106 hE e55 kp
        apply Z05 56 hE k rfl rfl rfl rfl
        case h =>
         simp [go_sem, ↓IntWalk.iteOmega, ev e55]
         with_reducible rfl
        intro a107 hE e56 kp
        apply Z05 57 hE k rfl rfl rfl rfl
        case h =>
         simp [go_sem, ↓IntWalk.iteOmega, ev e56, hc0 _ O.below]
         with_reducible rfl
        intro a108 hE e57 kp
        refine sd 58 hE k (Z0d Tryd.underlying36 rfl e57) ?_
        intro a109 hE e58 kp
        replace e58 := e58.trans (Z0x (show (T0.length : Int) = (n : Int) by omega))
        refine sd 9 hE k (Z01 rfl e58) ?_
        intro a110 hE e9 kp
        refine wpList_nil ?_
        replace e0 := hE.g e0; replace e1 := hE.g e1; replace e2 := hE.g e2; replace e7 := hE.g e7
        replace k := k.env hE
        clear hE e54
        refine Z00 (wp_seq ?_)
        refine wp_region_lit ?_
        have hE := Env.refl a110 [59, 10]
        refine Z16 (m := 0) (c := 0) O (cs := #[]) (t := 3) 59 hE k rfl (by rfl) (by rfl) rfl (by simp [go_sem, ↓IntWalk.iteOmega]) ?_
        clear O
        intro g1 a111 w112 O hE e59 kp
        refine sd 10 hE k (Z01 rfl e59) ?_
        intro a113 hE e10 kp
        refine wpList_nil ?_
        replace e0 := hE.g e0; replace e1 := hE.g e1; replace e2 := hE.g e2; replace e7 := hE.g e7; replace e9 := hE.g e9
        replace k := k.env hE
        clear hE
        refine Z00 ?_
        replace O := OwnT.asRowG (k := 1) O
        refine wp_seq ?_
        refine wp_seq ?_
        refine wp_region_lit ?_
        have hE := Env.refl a113 [11]
        refine sd 11 hE k (Z01 rfl rfl) ?_
        intro a114 hE e11 kp
        refine wpList_nil ?_
        replace e0 := hE.g e0; replace e1 := hE.g e1; replace e2 := hE.g e2; replace e7 := hE.g e7; replace e9 := hE.g e9; replace e10 := hE.g e10
        replace k := k.env hE
        clear hE
        refine Z00 ?_
        refine wp_block ?_
        refine wp_loop (fun a w => Fr 217 a ∧ a.eval (.tmp 0) = .slice (some ⟨b, o, none⟩) X.length ca ∧ a.eval (.tmp 1) = .slice A2 Y.length cb ∧ a.eval (.tmp 2) = .int .i64 x ∧ a.eval (.tmp 7) = .string (sB (textL X)) ∧ a.eval (.tmp 9) = .int .i64 ↑n ∧ ∃ (z : Nat) (Bw : Option Addr) (cw : Nat), a.eval (.tmp 10) = .slice Bw z cw ∧ a.eval (.tmp 11) = .int .i64 ↑z ∧ z ≤ n ∧ OwnT W0.heap.size W0 [tRow 3 1 (.slice Bw z cw) z ((wdsL X z).map (Value.int .i64))] w) (fun a w => n - (intOf (a.eval (.tmp 11))).toNat) ?_ ?_
        · exact ⟨k, e0, e1, e2, e7, e9, 0, some ⟨g1, 0, none⟩, 0, e10, e11, Nat.zero_le _, O⟩
        intro a115 w116 hC
        clear k e0 e1 e2 e7 e9
        obtain ⟨k, e0, e1, e2, e7, e9, h_⟩ := hC
        clear O e10 e11
        obtain ⟨z, Bw, cw, e10, e11, hz, O⟩ := h_
        have mz := e11

        by_cases hlt : z < n
        · skip
          refine wp_seq ?_
          refine wp_seq ?_
          refine wp_region_lit ?_
          have hE := Env.refl a115 [60, 61, 62]
          refine zm 60 hE k e11 ?_
          intro a117 hE e60 kp
          refine zm 61 hE k e9 ?_
          intro a118 hE e61 kp
          replace e60 := kt kp e60
          refine sd 62 hE k (Z06 (Z0j rfl e60 e61) (decide_eq_true (by omega))) ?_
          intro a119 hE e62 kp
          refine wpList_nil ?_
          replace e0 := hE.g e0; replace e1 := hE.g e1; replace e2 := hE.g e2; replace e7 := hE.g e7; replace e9 := hE.g e9; replace e10 := hE.g e10; replace e11 := hE.g e11
          replace k := k.env hE
          clear hE
          refine Z00 ?_
          refine Z0a e62 rfl ?_
          refine wp_skip ?_
          refine Z00 (wp_seq ?_)
          refine wp_block ?_
          refine wp_seq ?_
          refine wp_region_lit ?_
          have hE := Env.refl a119 [12]
          refine sd 12 hE k (Z01 rfl rfl) ?_
          intro a120 hE e12 kp
          refine wpList_nil ?_
          replace e0 := hE.g e0; replace e1 := hE.g e1; replace e2 := hE.g e2; replace e7 := hE.g e7; replace e9 := hE.g e9; replace e10 := hE.g e10; replace e11 := hE.g e11
          replace k := k.env hE
          clear hE e62
          refine Z00 (wp_seq ?_)
          refine wp_seq ?_
          refine wp_region_lit ?_
          have hE := Env.refl a120 [13]
          refine sd 13 hE k (Z01 rfl rfl) ?_
          intro a121 hE e13 kp
          refine wpList_nil ?_
          replace e0 := hE.g e0; replace e1 := hE.g e1; replace e2 := hE.g e2; replace e7 := hE.g e7; replace e9 := hE.g e9; replace e10 := hE.g e10; replace e11 := hE.g e11; replace e12 := hE.g e12
          replace k := k.env hE
          clear hE
          refine Z00 ?_
          refine wp_block ?_
          refine wp_loop (fun a w => Fr 217 a ∧ a.eval (.tmp 0) = .slice (some ⟨b, o, none⟩) X.length ca ∧ a.eval (.tmp 1) = .slice A2 Y.length cb ∧ a.eval (.tmp 2) = .int .i64 x ∧ a.eval (.tmp 7) = .string (sB (textL X)) ∧ a.eval (.tmp 9) = .int .i64 ↑n ∧ a.eval (.tmp 10) = .slice Bw z cw ∧ a.eval (.tmp 11) = .int .i64 ↑z ∧ ∃ (j : Nat), a.eval (.tmp 12) = .int .i64 (↑(colW (X.take j) z)) ∧ a.eval (.tmp 13) = .int .i64 ↑j ∧ j ≤ X.length ∧ OwnT W0.heap.size W0 [tRow 3 1 (.slice Bw z cw) z ((wdsL X z).map (Value.int .i64))] w) (fun a w => X.length - (intOf (a.eval (.tmp 13))).toNat) ?_ ?_
          · exact ⟨k, e0, e1, e2, e7, e9, e10, e11, 0, e12, e13, Nat.zero_le _, O⟩
          intro a122 w123 hW
          clear k e0 e1 e2 e7 e9 e10 e11
          obtain ⟨k, e0, e1, e2, e7, e9, e10, e11, h_⟩ := hW
          clear O e12 e13
          obtain ⟨j, e12, e13, hj, O⟩ := h_
          have mj := e13

          by_cases hlw : j < X.length
          · skip
            have hzJ : (j : Int) < (X.length : Int) := by omega
            obtain ⟨U, hU⟩ : ∃ T, X[j]? = some T := ⟨_, List.getElem?_eq_getElem hlw⟩
            have hUm := List.mem_of_getElem? hU
            have hUl := (hrows U hUm).1
            obtain ⟨u, hu⟩ : ∃ s, U[z]? = some s := ⟨_, List.getElem?_eq_getElem (by omega)⟩
            obtain ⟨Au, cu, hru, hcu⟩ := hsp j U hU
            obtain ⟨b3, o3, hA3, hsp3⟩ := hru.spot hu
            have hul := (hX2 U hUm).2 u (List.mem_of_getElem? hu)
            have hcs := Z7t hU hu
            subst hA3

            refine wp_seq ?_
            refine wp_seq ?_
            refine wp_region_lit ?_
            have hE := Env.refl a122 [65, 66, 67, 68]
            refine zm 65 hE k e13 ?_
            intro a124 hE e65 kp
            refine zm 66 hE k e0 ?_
            intro a125 hE e66 kp
            replace e65 := kt kp e65
            refine sd 67 hE k (Z0d Tryd.underlying22 rfl e66) ?_
            intro a126 hE e67 kp
            replace e65 := kt kp e65
            refine sd 68 hE k (Z06 (Z0j rfl e65 e67) (decide_eq_true (by omega))) ?_
            intro a127 hE e68 kp
            refine wpList_nil ?_
            replace e0 := hE.g e0; replace e1 := hE.g e1; replace e2 := hE.g e2; replace e7 := hE.g e7; replace e9 := hE.g e9; replace e10 := hE.g e10; replace e11 := hE.g e11; replace e12 := hE.g e12; replace e13 := hE.g e13
            replace k := k.env hE
            clear hE
            refine Z00 ?_
            refine Z0a e68 rfl ?_
            refine wp_skip ?_
            refine Z00 (wp_seq ?_)
            refine wp_block ?_
            refine wp_region_lit ?_
            have hE := Env.refl a127 [71, 72, 73, 74, 75, 76, 77, 78, 79, 80, 12]
            refine sd 71 hE k (Z02 rfl e12) ?_
            intro a128 hE e71 kp
            replace e12 := kt kp e12
            refine zm 72 hE k e0 ?_
            intro a129 hE e72 kp
            replace e12 := kt kp e12; replace e71 := kt kp e71
            refine zm 73 hE k e13 ?_
            intro a130 hE e73 kp
            replace e12 := kt kp e12; replace e71 := kt kp e71; replace e72 := kt kp e72
            apply Z05 74 hE k rfl rfl rfl rfl
            case h =>
             simp [go_sem, ↓IntWalk.iteOmega, ev e72, ev e73]
             with_reducible rfl
            intro a131 hE e74 kp
            replace e12 := kt kp e12; replace e71 := kt kp e71
            apply Z05 75 hE k rfl rfl rfl rfl
            case h =>
             simp [go_sem, ↓IntWalk.iteOmega, ev e74, hcu _ O.below]
             with_reducible rfl
            intro a132 hE e75 kp
            replace e12 := kt kp e12; replace e71 := kt kp e71
            refine zm 76 hE k e11 ?_
            intro a133 hE e76 kp
            replace e12 := kt kp e12; replace e71 := kt kp e71; replace e75 := kt kp e75
            apply Z05 77 hE k rfl rfl rfl rfl
            case h =>
             simp [go_sem, ↓IntWalk.iteOmega, ev e75, ev e76]
             with_reducible rfl
            intro a134 hE e77 kp
            replace e12 := kt kp e12; replace e71 := kt kp e71
            apply Z05 78 hE k rfl rfl rfl rfl
            case h =>
             simp [go_sem, ↓IntWalk.iteOmega, ev e77, hsp3 _ O.below z u hu]
             with_reducible rfl
            intro a135 hE e78 kp
            replace e12 := kt kp e12; replace e71 := kt kp e71
            apply Z08 79 hE k rfl (by rfl) (by rfl) rfl
            case h =>
             simp [go_sem, ↓IntWalk.iteOmega, ev e78]
             with_reducible exact ⟨rfl, rfl⟩
            case hc => exact Z1k u _ (by omega)
            rintro e w137 ⟨rfl, RE⟩
            replace O := OwnT.ext O RE
            refine ⟨_, rfl, ?_⟩
            intro a136 hE e79 kp
            replace e12 := kt kp e12; replace e71 := kt kp e71
            refine sd 80 hE k (Z8a rfl e71 e79) ?_
            intro a138 hE e80 kp
            replace e12 := kt kp e12
            replace e80 := e80.trans (Z0x (show max (colW (X.take j) z : Int) (widthL u : Int) = ((colW (X.take (j + 1)) z : Nat) : Int) by omega))
            refine sd 12 hE k (Z01 rfl e80) ?_
            intro a139 hE e12 kp
            refine wpList_nil ?_
            replace e0 := hE.g e0; replace e1 := hE.g e1; replace e2 := hE.g e2; replace e7 := hE.g e7; replace e9 := hE.g e9; replace e10 := hE.g e10; replace e11 := hE.g e11; replace e13 := hE.g e13
            replace k := k.env hE
            clear hE e68
            refine Z0i ?_
            refine Z00 ?_
            refine wp_region_lit ?_
            have hE := Env.refl a139 [69, 70, 13]
            refine sd 69 hE k (Z02 rfl e13) ?_
            intro a140 hE e69 kp
            replace e13 := kt kp e13
            refine sd 70 hE k (Z0z rfl e69 rfl (by omega)) ?_
            intro a141 hE e70 kp
            replace e13 := kt kp e13
            refine sd 13 hE k (Z01 rfl e70) ?_
            intro a142 hE e13 kp
            refine wpList_nil ?_
            replace e0 := hE.g e0; replace e1 := hE.g e1; replace e2 := hE.g e2; replace e7 := hE.g e7; replace e9 := hE.g e9; replace e10 := hE.g e10; replace e11 := hE.g e11; replace e12 := hE.g e12
            replace k := k.env hE
            clear hE
            refine Z00 ?_
            refine ⟨⟨k, e0, e1, e2, e7, e9, e10, e11, j + 1, e12, e13, by omega, O⟩, ?_⟩
            rw [e13, mj]; simp only [intOf]; omega
          · have hzJ : ¬ (j : Int) < (X.length : Int) := by omega
            rw [List.take_of_length_le (by omega)] at e12
            refine wp_seq ?_
            refine wp_seq ?_
            refine wp_region_lit ?_
            have hE := Env.refl a122 [65, 66, 67, 68]
            refine zm 65 hE k e13 ?_
            intro a143 hE e65 kp
            refine zm 66 hE k e0 ?_
            intro a144 hE e66 kp
            replace e65 := kt kp e65
            refine sd 67 hE k (Z0d Tryd.underlying22 rfl e66) ?_
            intro a145 hE e67 kp
            replace e65 := kt kp e65
            refine sd 68 hE k (Z06 (Z0j rfl e65 e67) (decide_eq_false (by omega))) ?_
            intro a146 hE e68 kp
            refine wpList_nil ?_
            replace e0 := hE.g e0; replace e1 := hE.g e1; replace e2 := hE.g e2; replace e7 := hE.g e7; replace e9 := hE.g e9; replace e10 := hE.g e10; replace e11 := hE.g e11; replace e12 := hE.g e12; replace e13 := hE.g e13
            replace k := k.env hE
            clear hE
            refine Z00 ?_
            refine Z0e e68 rfl ?_
            refine wp_exit ?_
            refine Z0f ?_
            refine Z0f ?_
            refine Z0n ?_
            refine Z00 ?_
            refine wp_region_lit ?_
            have hE := Env.refl a146 [81, 82, 83, 84, 10]
            refine sd 81 hE k (Z02 rfl e10) ?_
            intro a147 hE e81 kp
            replace e10 := kt kp e10
            refine zm 82 hE k e12 ?_
            intro a148 hE e82 kp
            replace e10 := kt kp e10; replace e81 := kt kp e81
            refine Z16 (m := 1) (c := 1) O (cs := #[.int .i64 (↑(colW X z))]) (t := 3) 83 hE k rfl (by rfl) (by rfl) rfl (by simp [go_sem, ↓IntWalk.iteOmega, ev e82]) ?_
            clear O
            intro gn a149 w150 O hE e83 kp
            replace e10 := kt kp e10; replace e81 := kt kp e81
            obtain ⟨hw1, kw1, w151, hrun, O⟩ := Z38 O elemIG (by decide) rfl (by intro u hu; simp at hu; subst hu; rfl) (by unfold maxLen; omega) (by omega)
            apply Z14 84 hE k rfl (by rfl) (by rfl) rfl
            case h => exact Z1o rfl e81 e83 (hrun _)
            clear hrun
            intro a152 hE e84 kp
            replace e10 := kt kp e10
            refine sd 10 hE k (Z01 rfl e84) ?_
            intro a153 hE e10 kp
            refine wpList_nil ?_
            replace e0 := hE.g e0; replace e1 := hE.g e1; replace e2 := hE.g e2; replace e7 := hE.g e7; replace e9 := hE.g e9; replace e11 := hE.g e11
            replace k := k.env hE
            clear hE e12 e13 e68
            refine Z0i ?_
            refine Z00 ?_
            rw [wds_app] at O
            refine wp_region_lit ?_
            have hE := Env.refl a153 [63, 64, 11]
            refine sd 63 hE k (Z02 rfl e11) ?_
            intro a154 hE e63 kp
            replace e11 := kt kp e11
            refine sd 64 hE k (Z0z rfl e63 rfl (by omega)) ?_
            intro a155 hE e64 kp
            replace e11 := kt kp e11
            replace e64 := e64.trans (Z0x (show (z : Int) + 1 = ((z + 1 : Nat) : Int) by omega))
            refine sd 11 hE k (Z01 rfl e64) ?_
            intro a156 hE e11 kp
            refine wpList_nil ?_
            replace e0 := hE.g e0; replace e1 := hE.g e1; replace e2 := hE.g e2; replace e7 := hE.g e7; replace e9 := hE.g e9; replace e10 := hE.g e10
            replace k := k.env hE
            clear hE
            refine Z00 ?_
            refine ⟨⟨k, e0, e1, e2, e7, e9, z + 1, some ⟨hw1, 0, none⟩, kw1, e10, e11, by omega, O⟩, ?_⟩
            rw [e11, mz]; simp only [intOf]; omega
        · obtain rfl : z = n := by omega
          obtain ⟨xs, hxs⟩ : ∃ xs, wdsL X z = xs := ⟨_, rfl⟩
          have hxl : xs.length = z := by rw [← hxs, wds_len]
          have hcol := col_80 (fun T hT => (hX2 T hT).2)
          have hxm := wds_mem (n := z) hcol
          have htl : (textL X).length ≤ 100000 := by
           have := Z4c (X := X) hcol X hX2
           have h3 : X.length * 1631 ≤ 20 * 1631 := Nat.mul_le_mul_right _ hX1
           unfold textL
           omega
          have hhn : 0 < (X.headD []).length := by rw [hhd, hn]; omega
          have hpt := Z1p ht hhn
          have hokt := Z7f ht hhn
          obtain ⟨l, hl⟩ : ∃ l, textL X = l := ⟨_, rfl⟩
          rw [hl] at htl hpt hokt e7
          rw [hxs] at hxm O
          have hbw : badW xs = false := Z6o (by omega) (by omega) (fun y hy => by have := hxm y hy; omega)
          have hok : okC l xs = true := (hokt xs).2 ⟨fun T hT => by rw [(hrows T hT).1, hxl], by rw [hxl, hxs]⟩
          have hcl : ∀ T ∈ partL l, ∀ c ∈ T, c.length ≤ 1000 := by rw [hpt]; exact fun T hT => (hs T hT).2
          obtain ⟨gw, cw2, egw⟩ := OwnT.slice0 O (by omega)
          injection egw with eg1 eg2 eg3
          subst eg1 eg3
          have hcap := Z7a (OwnT.get O 0 rfl)

          replace e10 : a115.eval (.tmp 10) = Value.slice (some ⟨gw, 0, none⟩) xs.length cw := by rw [hxl]; exact e10
          refine wp_seq ?_
          refine wp_seq ?_
          refine wp_region_lit ?_
          have hE := Env.refl a115 [60, 61, 62]
          refine zm 60 hE k e11 ?_
          intro a157 hE e60 kp
          refine zm 61 hE k e9 ?_
          intro a158 hE e61 kp
          replace e60 := kt kp e60
          refine sd 62 hE k (Z06 (Z0j rfl e60 e61) (decide_eq_false (by omega))) ?_
          intro a159 hE e62 kp
          refine wpList_nil ?_
          replace e0 := hE.g e0; replace e1 := hE.g e1; replace e2 := hE.g e2; replace e7 := hE.g e7; replace e9 := hE.g e9; replace e10 := hE.g e10; replace e11 := hE.g e11
          replace k := k.env hE
          clear hE
          refine Z00 ?_
          refine Z0e e62 rfl ?_
          refine wp_exit ?_
          refine Z0f ?_
          refine Z0f ?_
          refine Z0n ?_
          refine Z00 (wp_seq ?_)
          refine wp_region_lit ?_
          have hE := Env.refl a159 [86, 87, 88, 85, 89, 90, 14, 15]
          refine zm 86 hE k e7 ?_
          intro a160 hE e86 kp
          refine zm 87 hE k e10 ?_
          intro a161 hE e87 kp
          replace e86 := kt kp e86
          apply Z08 88 hE k rfl (by rfl) (by rfl) rfl
          case h =>
           simp [go_sem, ↓IntWalk.iteOmega, ev e86, ev e87]
           with_reducible exact ⟨rfl, rfl⟩
          case hc => exact Z1l l _ (Z1u (Value.int .i64) (OwnT.get O 0 rfl : World.ownsRow _ _ _ _ _ _ _)) (by omega) htl hcl (hv.below O.below)
          rintro e w163 ⟨hcp, RE⟩
          obtain ⟨Bz, cz, he, hzr⟩ := Z4u hbw hok hcp
          rw [hpt] at he hzr
          obtain ⟨b4, o4, e4z, hspz⟩ := hzr.spot hT0
          subst e4z
          have hw := Ext.refl w163
          clear hzr hcp
          replace O := OwnT.ext O RE
          refine ⟨_, he, ?_⟩
          intro a162 hE e88 kp
          refine sd 85 hE k (Z02 rfl e88) ?_
          intro a164 hE e85 kp
          apply Z05 89 hE k rfl rfl rfl rfl
          case h =>
           simp [go_sem, ↓IntWalk.iteOmega, ev e85]
           with_reducible rfl
          intro a165 hE e89 kp
          replace e85 := kt kp e85
          apply Z05 90 hE k rfl rfl rfl rfl
          case h =>
           simp [go_sem, ↓IntWalk.iteOmega, ev e85]
           with_reducible rfl
          intro a166 hE e90 kp
          replace e89 := kt kp e89
          refine sd 14 hE k (Z01 rfl e89) ?_
          intro a167 hE e14 kp
          replace e90 := kt kp e90
          refine sd 15 hE k (Z01 rfl e90) ?_
          intro a168 hE e15 kp
          replace e14 := kt kp e14
          refine wpList_nil ?_
          replace e0 := hE.g e0; replace e1 := hE.g e1; replace e2 := hE.g e2; replace e7 := hE.g e7; replace e9 := hE.g e9; replace e10 := hE.g e10
          replace k := k.env hE
          clear hE e11 e62
          refine Z00 (wp_seq ?_)
          refine wp_seq ?_
          refine wp_region_lit ?_
          have hE := Env.refl a168 [91, 92, 93, 94, 95, 96, 97, 98, 99]
          refine zm 91 hE k e15 ?_
          intro a169 hE e91 kp
          refine sd 92 hE k (Z12 rfl e91 rfl) ?_
          intro a170 hE e92 kp
          refine sd 93 hE k (Z02 rfl e92) ?_
          intro a171 hE e93 kp
          apply Z03 94 hE k rfl rfl rfl rfl rfl e93
          case h =>
           exact Z02 rfl (hE.g e14)
          intro a172 hE e94 kp
          replace e93 := kt kp e93
          apply Z03 95 hE k rfl rfl rfl rfl rfl e93
          case h =>
           exact Z0d Tryd.underlying22 rfl e94
          intro a173 hE e95 kp
          replace e93 := kt kp e93
          apply Z03 96 hE k rfl rfl rfl rfl rfl e93
          case h =>
           exact Z02 rfl (hE.g e0)
          intro a174 hE e96 kp
          replace e93 := kt kp e93; replace e95 := kt kp e95
          apply Z03 97 hE k rfl rfl rfl rfl rfl e93
          case h =>
           exact Z0d Tryd.underlying22 rfl e96
          intro a175 hE e97 kp
          replace e93 := kt kp e93; replace e95 := kt kp e95
          apply Z03 98 hE k rfl rfl rfl rfl rfl e93
          case h =>
           exact Z06 (Z12 rfl e95 e97) (decide_eq_false (by omega))
          intro a176 hE e98 kp
          replace e93 := kt kp e93
          refine sd 99 hE k (Z07 rfl e93 e98) ?_
          intro a177 hE e99 kp
          refine wpList_nil ?_
          replace e0 := hE.g e0; replace e1 := hE.g e1; replace e2 := hE.g e2; replace e7 := hE.g e7; replace e9 := hE.g e9; replace e10 := hE.g e10; replace e14 := hE.g e14
          replace k := k.env hE
          clear hE e15
          refine Z00 ?_
          refine Z0e e99 rfl ?_
          refine wp_skip ?_
          refine Z00 (wp_seq ?_)
          refine wp_seq ?_
          refine wp_region_lit ?_
          have hE := Env.refl a177 [16]
          refine sd 16 hE k (Z01 rfl rfl) ?_
          intro a178 hE e16 kp
          refine wpList_nil ?_
          replace e0 := hE.g e0; replace e1 := hE.g e1; replace e2 := hE.g e2; replace e7 := hE.g e7; replace e9 := hE.g e9; replace e10 := hE.g e10; replace e14 := hE.g e14
          replace k := k.env hE
          clear hE e99
          refine Z00 ?_
          refine wp_block ?_
          refine wp_loop (fun a w => Fr 217 a ∧ a.eval (.tmp 0) = .slice (some ⟨b, o, none⟩) X.length ca ∧ a.eval (.tmp 1) = .slice A2 Y.length cb ∧ a.eval (.tmp 2) = .int .i64 x ∧ a.eval (.tmp 7) = .string (sB l) ∧ a.eval (.tmp 9) = .int .i64 ↑z ∧ a.eval (.tmp 10) = .slice (some ⟨gw, 0, none⟩) xs.length cw ∧ a.eval (.tmp 14) = .slice (some ⟨b4, o4, none⟩) X.length cz ∧ ∃ (i : Nat), a.eval (.tmp 16) = .int .i64 ↑i ∧ i ≤ X.length ∧ Ext w163 w ∧ OwnT W0.heap.size W0 [tRow 3 1 (.slice (some ⟨gw, 0, none⟩) z cw) z ((xs).map (Value.int .i64))] w) (fun a w => X.length - (intOf (a.eval (.tmp 16))).toNat) ?_ ?_
          · exact ⟨k, e0, e1, e2, e7, e9, e10, e14, 0, e16, Nat.zero_le _, hw, O⟩
          intro a179 w180 hI
          clear k e0 e1 e2 e7 e9 e10 e14
          obtain ⟨k, e0, e1, e2, e7, e9, e10, e14, h_⟩ := hI
          clear O e16 hw
          obtain ⟨i, e16, hi, hw, O⟩ := h_
          have mi := e16

          by_cases hlt2 : i < X.length
          · skip
            have hzI : (i : Int) < (X.length : Int) := by omega
            obtain ⟨T, hT⟩ : ∃ T, X[i]? = some T := ⟨_, List.getElem?_eq_getElem hlt2⟩
            have hTl := (hrows T (List.mem_of_getElem? hT)).1
            obtain ⟨Aj, cj, hr, hc⟩ := hsp i T hT
            obtain ⟨Az, cz2, hrz, hcz⟩ := hspz i T hT

            refine wp_seq ?_
            refine wp_seq ?_
            refine wp_region_lit ?_
            have hE := Env.refl a179 [100, 101, 102, 103]
            refine zm 100 hE k e16 ?_
            intro a181 hE e100 kp
            refine zm 101 hE k e14 ?_
            intro a182 hE e101 kp
            replace e100 := kt kp e100
            refine sd 102 hE k (Z0d Tryd.underlying22 rfl e101) ?_
            intro a183 hE e102 kp
            replace e100 := kt kp e100
            refine sd 103 hE k (Z06 (Z0j rfl e100 e102) (decide_eq_true (by omega))) ?_
            intro a184 hE e103 kp
            refine wpList_nil ?_
            replace e0 := hE.g e0; replace e1 := hE.g e1; replace e2 := hE.g e2; replace e7 := hE.g e7; replace e9 := hE.g e9; replace e10 := hE.g e10; replace e14 := hE.g e14; replace e16 := hE.g e16
            replace k := k.env hE
            clear hE
            refine Z00 ?_
            refine Z0a e103 rfl ?_
            refine wp_skip ?_
            refine Z00 (wp_seq ?_)
            refine wp_block ?_
            refine wp_seq ?_
            refine wp_region_lit ?_
            have hE := Env.refl a184 [17]
            refine sd 17 hE k (Z01 rfl rfl) ?_
            intro a185 hE e17 kp
            refine wpList_nil ?_
            replace e0 := hE.g e0; replace e1 := hE.g e1; replace e2 := hE.g e2; replace e7 := hE.g e7; replace e9 := hE.g e9; replace e10 := hE.g e10; replace e14 := hE.g e14; replace e16 := hE.g e16
            replace k := k.env hE
            clear hE e103
            refine Z00 ?_
            refine wp_block ?_
            refine wp_loop (fun a w => Fr 217 a ∧ a.eval (.tmp 0) = .slice (some ⟨b, o, none⟩) X.length ca ∧ a.eval (.tmp 1) = .slice A2 Y.length cb ∧ a.eval (.tmp 2) = .int .i64 x ∧ a.eval (.tmp 7) = .string (sB l) ∧ a.eval (.tmp 9) = .int .i64 ↑z ∧ a.eval (.tmp 10) = .slice (some ⟨gw, 0, none⟩) xs.length cw ∧ a.eval (.tmp 14) = .slice (some ⟨b4, o4, none⟩) X.length cz ∧ a.eval (.tmp 16) = .int .i64 ↑i ∧ ∃ (j : Nat), a.eval (.tmp 17) = .int .i64 ↑j ∧ j ≤ z ∧ Ext w163 w ∧ OwnT W0.heap.size W0 [tRow 3 1 (.slice (some ⟨gw, 0, none⟩) z cw) z ((xs).map (Value.int .i64))] w) (fun a w => z - (intOf (a.eval (.tmp 17))).toNat) ?_ ?_
            · exact ⟨k, e0, e1, e2, e7, e9, e10, e14, e16, 0, e17, Nat.zero_le _, hw, O⟩
            intro a186 w187 hJ
            clear k e0 e1 e2 e7 e9 e10 e14 e16
            obtain ⟨k, e0, e1, e2, e7, e9, e10, e14, e16, h_⟩ := hJ
            clear O e17 hw
            obtain ⟨j, e17, hj, hw, O⟩ := h_
            have mj := e17

            by_cases hlj : j < z
            · skip
              have hjT : (j : Int) < (T.length : Int) := by omega
              obtain ⟨sx, hsx⟩ : ∃ s, T[j]? = some s := ⟨_, List.getElem?_eq_getElem (by omega)⟩
              obtain ⟨b5, o5, hA5, hsp5⟩ := hr.spot hsx
              obtain ⟨b6, o6, hA6, hsp6⟩ := hrz.spot hsx
              subst hA5 hA6

              refine wp_seq ?_
              refine wp_seq ?_
              refine wp_region_lit ?_
              have hE := Env.refl a186 [106, 107, 108]
              refine zm 106 hE k e17 ?_
              intro a188 hE e106 kp
              refine zm 107 hE k e9 ?_
              intro a189 hE e107 kp
              replace e106 := kt kp e106
              refine sd 108 hE k (Z06 (Z0j rfl e106 e107) (decide_eq_true (by omega))) ?_
              intro a190 hE e108 kp
              refine wpList_nil ?_
              replace e0 := hE.g e0; replace e1 := hE.g e1; replace e2 := hE.g e2; replace e7 := hE.g e7; replace e9 := hE.g e9; replace e10 := hE.g e10; replace e14 := hE.g e14; replace e16 := hE.g e16; replace e17 := hE.g e17
              replace k := k.env hE
              clear hE
              refine Z00 ?_
              refine Z0a e108 rfl ?_
              refine wp_skip ?_
              refine Z00 (wp_seq ?_)
              refine wp_block ?_
              refine wp_seq ?_
              refine Z13 (R := Ext) (w0 := w187) [[], [], [0, 1], [0, 1, 2], [], [0, 1, 2, 3, 4], [0, 1, 2, 3, 4, 5], [], [], [7, 8], [7, 8, 9], [], [7, 8, 9, 10, 11], [7, 8, 9, 10, 11, 12], [0, 1, 2, 3, 4, 5, 6, 7, 8, 9, 10, 11, 12, 13]] [111, 112, 113, 114, 115, 116, 117, 118, 119, 120, 121, 122, 123, 124, 125] Ext.refl (fun _ _ _ => Ext.trans) (Ext.drew _) (by kernel_rfl) ?_
              apply bd 111 k rfl rfl rfl
              case h =>
               intro ax wx hE hR hF
               exact Z02 rfl (hE.g e14)
              apply bd 112 k rfl rfl rfl
              case h =>
               intro ax wx hE hR hF
               exact Z02 rfl (hE.g e16)
              apply bd 113 k rfl rfl rfl
              case h =>
               intro ax wx hE hR hF
               have e111 := zhF hF 0 111 ml1
               have e112 := zhF hF 1 112 ml0
               simp [go_sem, ↓IntWalk.iteOmega, ev e111, ev e112]
               with_reducible rfl
              apply bd 114 k rfl rfl rfl
              case h =>
               intro ax wx hE hR hF
               have e113 := zhF hF 2 113 ml0
               simp [go_sem, ↓IntWalk.iteOmega, ev e113, hcz _ (Ext.trans hw hR)]
               with_reducible rfl
              apply bd 115 k rfl rfl rfl
              case h =>
               intro ax wx hE hR hF
               exact Z02 rfl (hE.g e17)
              apply bd 116 k rfl rfl rfl
              case h =>
               intro ax wx hE hR hF
               have e114 := zhF hF 3 114 ml1
               have e115 := zhF hF 4 115 ml0
               simp [go_sem, ↓IntWalk.iteOmega, ev e114, ev e115]
               with_reducible rfl
              apply bd 117 k rfl rfl rfl
              case h =>
               intro ax wx hE hR hF
               have e116 := zhF hF 5 116 ml0
               simp [go_sem, ↓IntWalk.iteOmega, ev e116, hsp6 _ (Ext.trans hw hR) j sx hsx]
               with_reducible rfl
              apply bd 118 k rfl rfl rfl
              case h =>
               intro ax wx hE hR hF
               exact Z02 rfl (hE.g e0)
              apply bd 119 k rfl rfl rfl
              case h =>
               intro ax wx hE hR hF
               exact Z02 rfl (hE.g e16)
              apply bd 120 k rfl rfl rfl
              case h =>
               intro ax wx hE hR hF
               have e118 := zhF hF 7 118 ml1
               have e119 := zhF hF 8 119 ml0
               simp [go_sem, ↓IntWalk.iteOmega, ev e118, ev e119]
               with_reducible rfl
              apply bd 121 k rfl rfl rfl
              case h =>
               intro ax wx hE hR hF
               have e120 := zhF hF 9 120 ml0
               simp [go_sem, ↓IntWalk.iteOmega, ev e120, hc _ (OwnT.ext O hR).below]
               with_reducible rfl
              apply bd 122 k rfl rfl rfl
              case h =>
               intro ax wx hE hR hF
               exact Z02 rfl (hE.g e17)
              apply bd 123 k rfl rfl rfl
              case h =>
               intro ax wx hE hR hF
               have e121 := zhF hF 10 121 ml1
               have e122 := zhF hF 11 122 ml0
               simp [go_sem, ↓IntWalk.iteOmega, ev e121, ev e122]
               with_reducible rfl
              apply bd 124 k rfl rfl rfl
              case h =>
               intro ax wx hE hR hF
               have e123 := zhF hF 12 123 ml0
               simp [go_sem, ↓IntWalk.iteOmega, ev e123, hsp5 _ (OwnT.ext O hR).below j sx hsx]
               with_reducible rfl
              apply bd 125 k rfl rfl rfl
              case h =>
               intro ax wx hE hR hF
               have e117 := zhF hF 6 117 ml7
               have e124 := zhF hF 13 124 ml0
               exact Z06 (Z89 (l := sx) (m := sx) rfl e117 e124) (decide_eq_false (fun h => h rfl))
              apply Build.stop
              refine ⟨by kernel_rfl, .inl ⟨rfl, ?_⟩⟩
              intro a191 w192 hE R hF
              have e125 : a191.eval (.tmp 125) = _ := hF 14 (det 125 _) ml0
              clear hF
              replace O := OwnT.ext O R
              replace hw := Ext.trans hw R
              clear R
              replace e0 := hE.g e0; replace e1 := hE.g e1; replace e2 := hE.g e2; replace e7 := hE.g e7; replace e9 := hE.g e9; replace e10 := hE.g e10; replace e14 := hE.g e14; replace e16 := hE.g e16; replace e17 := hE.g e17
              replace k := k.env hE
              clear hE e108
              refine Z00 ?_
              refine Z0e e125 rfl ?_
              refine wp_skip ?_
              refine Z0i ?_
              refine Z00 ?_
              refine wp_region_lit ?_
              have hE := Env.refl a191 [109, 110, 17]
              refine sd 109 hE k (Z02 rfl e17) ?_
              intro a193 hE e109 kp
              replace e17 := kt kp e17
              refine sd 110 hE k (Z0z rfl e109 rfl (by omega)) ?_
              intro a194 hE e110 kp
              replace e17 := kt kp e17
              refine sd 17 hE k (Z01 rfl e110) ?_
              intro a195 hE e17 kp
              refine wpList_nil ?_
              replace e0 := hE.g e0; replace e1 := hE.g e1; replace e2 := hE.g e2; replace e7 := hE.g e7; replace e9 := hE.g e9; replace e10 := hE.g e10; replace e14 := hE.g e14; replace e16 := hE.g e16
              replace k := k.env hE
              clear hE e125
              refine Z00 ?_
              refine ⟨⟨k, e0, e1, e2, e7, e9, e10, e14, e16, j + 1, e17, by omega, hw, O⟩, ?_⟩
              rw [e17, mj]; simp only [intOf]; omega
            · skip
              refine wp_seq ?_
              refine wp_seq ?_
              refine wp_region_lit ?_
              have hE := Env.refl a186 [106, 107, 108]
              refine zm 106 hE k e17 ?_
              intro a196 hE e106 kp
              refine zm 107 hE k e9 ?_
              intro a197 hE e107 kp
              replace e106 := kt kp e106
              refine sd 108 hE k (Z06 (Z0j rfl e106 e107) (decide_eq_false (by omega))) ?_
              intro a198 hE e108 kp
              refine wpList_nil ?_
              replace e0 := hE.g e0; replace e1 := hE.g e1; replace e2 := hE.g e2; replace e7 := hE.g e7; replace e9 := hE.g e9; replace e10 := hE.g e10; replace e14 := hE.g e14; replace e16 := hE.g e16; replace e17 := hE.g e17
              replace k := k.env hE
              clear hE
              refine Z00 ?_
              refine Z0e e108 rfl ?_
              refine wp_exit ?_
              refine Z0f ?_
              refine Z0f ?_
              refine Z0n ?_
              refine Z0i ?_
              refine Z00 ?_
              refine wp_region_lit ?_
              have hE := Env.refl a198 [104, 105, 16]
              refine sd 104 hE k (Z02 rfl e16) ?_
              intro a199 hE e104 kp
              replace e16 := kt kp e16
              refine sd 105 hE k (Z0z rfl e104 rfl (by omega)) ?_
              intro a200 hE e105 kp
              replace e16 := kt kp e16
              refine sd 16 hE k (Z01 rfl e105) ?_
              intro a201 hE e16 kp
              refine wpList_nil ?_
              replace e0 := hE.g e0; replace e1 := hE.g e1; replace e2 := hE.g e2; replace e7 := hE.g e7; replace e9 := hE.g e9; replace e10 := hE.g e10; replace e14 := hE.g e14
              replace k := k.env hE
              clear hE e17 e108
              refine Z00 ?_
              refine ⟨⟨k, e0, e1, e2, e7, e9, e10, e14, i + 1, e16, by omega, hw, O⟩, ?_⟩
              rw [e16, mi]; simp only [intOf]; omega
          · have hzI : ¬ (i : Int) < (X.length : Int) := by omega
            refine wp_seq ?_
            refine wp_seq ?_
            refine wp_region_lit ?_
            have hE := Env.refl a179 [100, 101, 102, 103]
            refine zm 100 hE k e16 ?_
            intro a202 hE e100 kp
            refine zm 101 hE k e14 ?_
            intro a203 hE e101 kp
            replace e100 := kt kp e100
            refine sd 102 hE k (Z0d Tryd.underlying22 rfl e101) ?_
            intro a204 hE e102 kp
            replace e100 := kt kp e100
            refine sd 103 hE k (Z06 (Z0j rfl e100 e102) (decide_eq_false (by omega))) ?_
            intro a205 hE e103 kp
            refine wpList_nil ?_
            replace e0 := hE.g e0; replace e1 := hE.g e1; replace e2 := hE.g e2; replace e7 := hE.g e7; replace e9 := hE.g e9; replace e10 := hE.g e10; replace e14 := hE.g e14; replace e16 := hE.g e16
            replace k := k.env hE
            clear hE
            refine Z00 ?_
            refine Z0e e103 rfl ?_
            refine wp_exit ?_
            refine Z0f ?_
            refine Z0f ?_
            refine Z0n ?_
            refine Z00 ?_
            replace e10 : a205.eval (.tmp 10) = Value.slice (some ⟨gw, 0, none⟩) z cw := by rw [← hxl]; exact e10
            refine wp_seq ?_
            refine wp_region_lit ?_
            have hE := Env.refl a205 [126, 127, 128, 18]
            refine Z16 (m := 0) (c := 0) O (cs := #[]) (t := 3) 126 hE k rfl (by rfl) (by rfl) rfl (by simp [go_sem, ↓IntWalk.iteOmega]) ?_
            clear O
            intro g8 a206 w207 O hE e126 kp
            refine zm 127 hE k e10 ?_
            intro a208 hE e127 kp
            replace e126 := kt kp e126
            have O1 := OwnT.asRowG (k := 1) O
            clear O
            obtain ⟨v2, w209, hrun, O⟩ := Z6s (m := z) (c := cw) (p := ⟨gw, 0, none⟩) (news := xs.map (Value.int .i64)) O1 elemIG (by decide) (by rw [List.length_map, hxl, Nat.mul_one]) (Z51 (OwnT.get O1 1 rfl)) (by intro u hu; obtain ⟨y, _, rfl⟩ := List.mem_map.1 hu; rfl) (by unfold maxLen; omega) (by omega)
            clear O1
            rw [Nat.zero_add, List.nil_append] at O
            obtain ⟨g9, c9, rfl⟩ := OwnT.slice0 O (by omega)
            apply Z14 128 hE k rfl (by rfl) (by rfl) rfl
            case h => exact Z1o rfl e126 e127 (hrun _)
            clear hrun
            intro a210 hE e128 kp
            refine sd 18 hE k (Z01 rfl e128) ?_
            intro a211 hE e18 kp
            refine wpList_nil ?_
            replace e0 := hE.g e0; replace e1 := hE.g e1; replace e2 := hE.g e2; replace e7 := hE.g e7; replace e9 := hE.g e9; replace e10 := hE.g e10
            replace k := k.env hE
            clear hE e14 e16 e103
            refine Z00 ?_
            obtain ⟨q, hq⟩ : ∃ q, uN x % z = q := ⟨_, rfl⟩
            have hq2 : q < z := by rw [← hq]; exact Nat.mod_lt _ (by omega)
            obtain ⟨y, hy⟩ : ∃ y, xs[q]? = some y := ⟨_, List.getElem?_eq_getElem (by omega)⟩
            have hy2 := hxm y (List.mem_of_getElem? hy)
            obtain ⟨zs, hzs⟩ : ∃ zs, xs.set q (y + 1) = zs := ⟨_, rfl⟩
            have hzl : zs.length = z := by rw [← hzs, List.length_set, hxl]
            have hbz : badW zs = false := Z6o (by omega) (by omega) (fun v hv => by
             rw [← hzs] at hv
             rcases List.mem_or_eq_of_mem_set hv with hv | rfl
             · have := hxm v hv; omega
             · omega)
            have hokz : okC l zs = false := by
             cases hk : okC l zs with
             | false => rfl
             | true =>
              have h3 := ((hokt zs).1 hk).2
              rw [hzl, hxs, ← hzs] at h3
              have h4 : (xs.set q (y + 1))[q]? = some (y + 1) := List.getElem?_set_self (by omega)
              rw [← h3, hy] at h4
              injection h4 with h4
              omega
            obtain ⟨hc9, hf9⟩ := Z3j (OwnT.get O 0 rfl) (show (xs.map (Value.int .i64))[q]? = some (.int .i64 y) by rw [List.getElem?_map, hy]; rfl)

            refine wp_seq ?_
            refine wp_region_lit ?_
            have hE := Env.refl a211 [129, 130, 131, 132, 133, 134, 135, 136, 137, 138, 139]
            refine zm 129 hE k e18 ?_
            intro a212 hE e129 kp
            refine zm 130 hE k e2 ?_
            intro a213 hE e130 kp
            replace e129 := kt kp e129
            refine sd 131 hE k (Z26 rfl e130 (Z3u x _)) ?_
            intro a214 hE e131 kp
            replace e129 := kt kp e129
            refine zm 132 hE k e9 ?_
            intro a215 hE e132 kp
            replace e129 := kt kp e129; replace e131 := kt kp e131
            refine sd 133 hE k (Z26 rfl e132 (Z3u _ _)) ?_
            intro a216 hE e133 kp
            replace e129 := kt kp e129; replace e131 := kt kp e131
            replace e133 := e133.trans (congrArg (fun m : Nat => Value.int .u64 (m : Int)) (uN_nat (by omega)))
            refine sd 134 hE k (x_remU (m := uN x) (j := z) rfl e131 e133 rfl (by omega)) ?_
            intro a217 hE e134 kp
            replace e129 := kt kp e129
            refine sd 135 hE k (Z26 rfl e134 (Z7s (uN x % z) _ (by omega))) ?_
            intro a218 hE e135 kp
            replace e129 := kt kp e129
            replace e135 := e135.trans (Z0x (show ((uN x % z : Nat) : Int) = (q : Int) by rw [hq]))
            apply Z05 136 hE k rfl rfl rfl rfl
            case h =>
             simp [go_sem, ↓IntWalk.iteOmega, ev e129, ev e135]
             with_reducible rfl
            intro a219 hE e136 kp
            replace e129 := kt kp e129; replace e135 := kt kp e135
            apply Z05 137 hE k rfl rfl rfl rfl
            case h =>
             simp [go_sem, ↓IntWalk.iteOmega, ev e136, hc9]
             with_reducible rfl
            intro a220 hE e137 kp
            replace e129 := kt kp e129; replace e135 := kt kp e135
            refine sd 138 hE k (Z0z rfl e137 rfl (by omega)) ?_
            intro a221 hE e138 kp
            replace e129 := kt kp e129; replace e135 := kt kp e135
            apply Z05 139 hE k rfl rfl rfl rfl
            case h =>
             simp [go_sem, ↓IntWalk.iteOmega, ev e129, ev e135]
             with_reducible rfl
            intro a222 hE e139 kp
            replace e138 := kt kp e138
            refine Z30 (w' := (w209.setCell ⟨g9, q, none⟩ (.int .i64 (y + 1)))) hE rfl rfl ?_ ?_
            · simp [go_sem, ↓IntWalk.iteOmega, ev e139, ev e138, hc9, hf9]
            replace O := OwnT.setRow1 O (i := q) hq2 (.int .i64 (y + 1))
            rw [show (xs.map (Value.int .i64)).set q (.int .i64 (y + 1)) = zs.map (Value.int .i64) by rw [← hzs, List.map_set]] at O
            generalize (w209.setCell ⟨g9, q, none⟩ (.int .i64 (y + 1))) = w223 at O ⊢
            refine wpList_nil ?_
            replace e0 := hE.g e0; replace e1 := hE.g e1; replace e7 := hE.g e7; replace e9 := hE.g e9; replace e10 := hE.g e10; replace e18 := hE.g e18
            replace k := k.env hE
            clear hE e2 e138 e139
            refine Z00 ?_
            replace e18 : a222.eval (.tmp 18) = Value.slice (some ⟨g9, 0, none⟩) zs.length c9 := by rw [hzl]; exact e18
            obtain ⟨ys, hys⟩ : ∃ ys, xs.take (z - 1) = ys := ⟨_, rfl⟩
            have hyl : ys.length = z - 1 := by rw [← hys, List.length_take]; omega
            have hoky : okC l ys = false := by
             cases hk : okC l ys with
             | false => rfl
             | true =>
              have h3 := ((hokt ys).1 hk).1 T0 (List.mem_of_getElem? hT0)
              omega

            refine wp_seq ?_
            refine wp_region_lit ?_
            have hE := Env.refl a222 [141, 142, 143, 140, 144, 145, 19, 20]
            refine zm 141 hE k e7 ?_
            intro a224 hE e141 kp
            refine zm 142 hE k e18 ?_
            intro a225 hE e142 kp
            replace e141 := kt kp e141
            apply Z08 143 hE k rfl (by rfl) (by rfl) rfl
            case h =>
             simp [go_sem, ↓IntWalk.iteOmega, ev e141, ev e142]
             with_reducible exact ⟨rfl, rfl⟩
            case hc => exact Z1l l _ (Z1u (Value.int .i64) (OwnT.get O 0 rfl : World.ownsRow _ _ _ _ _ _ _)) (by omega) htl hcl (hv.below O.below)
            rintro e w227 ⟨hcp, RE⟩
            have he := Z7u hbz hokz hcp
            clear hcp
            replace O := OwnT.ext O RE
            refine ⟨_, he, ?_⟩
            intro a226 hE e143 kp
            refine sd 140 hE k (Z02 rfl e143) ?_
            intro a228 hE e140 kp
            apply Z05 144 hE k rfl rfl rfl rfl
            case h =>
             simp [go_sem, ↓IntWalk.iteOmega, ev e140]
             with_reducible rfl
            intro a229 hE e144 kp
            replace e140 := kt kp e140
            apply Z05 145 hE k rfl rfl rfl rfl
            case h =>
             simp [go_sem, ↓IntWalk.iteOmega, ev e140]
             with_reducible rfl
            intro a230 hE e145 kp
            replace e144 := kt kp e144
            refine sd 19 hE k (Z01 rfl e144) ?_
            intro a231 hE e19 kp
            replace e145 := kt kp e145
            refine sd 20 hE k (Z01 rfl e145) ?_
            intro a232 hE e20 kp
            refine wpList_nil ?_
            replace e0 := hE.g e0; replace e1 := hE.g e1; replace e7 := hE.g e7; replace e9 := hE.g e9; replace e10 := hE.g e10
            replace k := k.env hE
            clear hE e18
            refine Z00 (wp_seq ?_)
            refine wp_region_lit ?_
            have hE := Env.refl a232 [147, 148, 149, 150, 151, 152, 146, 153, 154, 21, 22]
            refine zm 147 hE k e7 ?_
            intro a233 hE e147 kp
            refine zm 148 hE k e10 ?_
            intro a234 hE e148 kp
            replace e147 := kt kp e147
            refine zm 149 hE k e9 ?_
            intro a235 hE e149 kp
            replace e147 := kt kp e147; replace e148 := kt kp e148
            refine sd 150 hE k (Z6t rfl e149 rfl (by omega)) ?_
            intro a236 hE e150 kp
            replace e147 := kt kp e147; replace e148 := kt kp e148
            replace e150 := e150.trans (Z0x (show (z : Int) - 1 = ((z - 1 : Nat) : Int) by omega))
            refine sd 151 hE k (Z39 (v := .slice (some ⟨gw, 0, none⟩) ys.length cw) (Z5a rfl e148 e150 (by omega)) (by rw [hyl])) ?_
            intro a237 hE e151 kp
            replace e147 := kt kp e147
            apply Z08 152 hE k rfl (by rfl) (by rfl) rfl
            case h =>
             simp [go_sem, ↓IntWalk.iteOmega, ev e147, ev e151]
             with_reducible exact ⟨rfl, rfl⟩
            case hc => exact Z1l l _ (by rw [← hys]; exact Z5z (Z1u (Value.int .i64) (OwnT.get O 1 rfl : World.ownsRow _ _ _ _ _ _ _)) _) (by omega) htl hcl (hv.below O.below)
            rintro e w239 ⟨hcp, RE⟩
            obtain ⟨B9, n9, cp9, cc, he, hcc⟩ := Z6n hoky hcp
            clear hcp
            replace O := OwnT.ext O RE
            refine ⟨_, he, ?_⟩
            intro a238 hE e152 kp
            refine sd 146 hE k (Z02 rfl e152) ?_
            intro a240 hE e146 kp
            apply Z05 153 hE k rfl rfl rfl rfl
            case h =>
             simp [go_sem, ↓IntWalk.iteOmega, ev e146]
             with_reducible rfl
            intro a241 hE e153 kp
            replace e146 := kt kp e146
            apply Z05 154 hE k rfl rfl rfl rfl
            case h =>
             simp [go_sem, ↓IntWalk.iteOmega, ev e146]
             with_reducible rfl
            intro a242 hE e154 kp
            replace e153 := kt kp e153
            refine sd 21 hE k (Z01 rfl e153) ?_
            intro a243 hE e21 kp
            replace e154 := kt kp e154
            refine sd 22 hE k (Z01 rfl e154) ?_
            intro a244 hE e22 kp
            refine wpList_nil ?_
            replace e0 := hE.g e0; replace e1 := hE.g e1; replace e7 := hE.g e7; replace e9 := hE.g e9; replace e20 := hE.g e20
            replace k := k.env hE
            clear hE e10
            refine Z00 ?_
            replace O : OwnT _ _ ([]) w239 := OwnT.pick O [] (by decide)
            refine wp_seq ?_
            refine wp_seq ?_
            refine wp_region_lit ?_
            have hE := Env.refl a244 [155, 156, 157, 158, 159, 160]
            refine zm 155 hE k e20 ?_
            intro a245 hE e155 kp
            refine sd 156 hE k (Z12 rfl e155 rfl) ?_
            intro a246 hE e156 kp
            refine sd 157 hE k (Z02 rfl e156) ?_
            intro a247 hE e157 kp
            apply Z03 158 hE k rfl rfl rfl rfl rfl e157
            case h =>
             exact Z02 rfl (hE.g e22)
            intro a248 hE e158 kp
            replace e157 := kt kp e157
            apply Z03 159 hE k rfl rfl rfl rfl rfl e157
            case h =>
             exact Z06 (Z18 rfl e158 rfl) (decide_eq_false (by omega))
            intro a249 hE e159 kp
            replace e157 := kt kp e157
            refine sd 160 hE k (Z07 rfl e157 e159) ?_
            intro a250 hE e160 kp
            refine wpList_nil ?_
            replace e0 := hE.g e0; replace e1 := hE.g e1; replace e7 := hE.g e7; replace e9 := hE.g e9
            replace k := k.env hE
            clear hE e20 e22
            refine Z00 ?_
            refine Z0e e160 rfl ?_
            refine wp_skip ?_
            refine Z00 ?_
            cases ht2 : tableB Y with
            | false =>
             refine wp_seq ?_
             refine wp_region_lit ?_
             have hE := Env.refl a250 [162, 163, 161, 164, 165, 23, 24]
             refine zm 162 hE k e1 ?_
             intro a251 hE e162 kp
             apply Z08 163 hE k rfl (by rfl) (by rfl) rfl
             case h =>
              simp [go_sem, ↓IntWalk.iteOmega, ev e162]
              with_reducible exact ⟨rfl, rfl⟩
             case hc => exact Z15 _ (h2.below O.below) (by omega) hs2 (hv.below O.below)
             rintro e w253 ⟨he, RE⟩
             replace O := OwnT.ext O RE
             refine ⟨_, he.trans (by rw [ht2]; first | done | rfl), ?_⟩
             intro a252 hE e163 kp
             refine sd 161 hE k (Z02 rfl e163) ?_
             intro a254 hE e161 kp
             apply Z05 164 hE k rfl rfl rfl rfl
             case h =>
              simp [go_sem, ↓IntWalk.iteOmega, ev e161]
              with_reducible rfl
             intro a255 hE e164 kp
             replace e161 := kt kp e161
             apply Z05 165 hE k rfl rfl rfl rfl
             case h =>
              simp [go_sem, ↓IntWalk.iteOmega, ev e161]
              with_reducible rfl
             intro a256 hE e165 kp
             replace e164 := kt kp e164
             refine sd 23 hE k (Z01 rfl e164) ?_
             intro a257 hE e23 kp
             replace e165 := kt kp e165
             refine sd 24 hE k (Z01 rfl e165) ?_
             intro a258 hE e24 kp
             replace e23 := kt kp e23
             refine wpList_nil ?_
             replace e0 := hE.g e0; replace e1 := hE.g e1; replace e7 := hE.g e7; replace e9 := hE.g e9
             replace k := k.env hE
             clear hE e160
             refine Z00 (wp_seq ?_)
             refine wp_seq ?_
             refine wp_region_lit ?_
             have hE := Env.refl a258 [166, 167, 168, 169, 170, 171, 172, 173, 174, 175, 176, 177, 178, 179, 180, 181, 182]
             refine zm 166 hE k e24 ?_
             intro a259 hE e166 kp
             refine sd 167 hE k (Z06 (Z12 rfl e166 rfl) (decide_eq_true (by omega))) ?_
             intro a260 hE e167 kp
             refine sd 168 hE k (Z02 rfl e167) ?_
             intro a261 hE e168 kp
             refine Z04 169 hE k rfl (by rfl) (by rfl) rfl rfl (.inl e168) ?_
             intro a262 hE e169 kp
             replace e168 := kt kp e168
             refine Z04 170 hE k rfl (by rfl) (by rfl) rfl rfl (.inl e168) ?_
             intro a263 hE e170 kp
             replace e168 := kt kp e168
             refine Z04 171 hE k rfl (by rfl) (by rfl) rfl rfl (.inl e168) ?_
             intro a264 hE e171 kp
             replace e168 := kt kp e168; replace e170 := kt kp e170
             refine Z04 172 hE k rfl (by rfl) (by rfl) rfl rfl (.inl e168) ?_
             intro a265 hE e172 kp
             replace e168 := kt kp e168; replace e170 := kt kp e170
             refine Z04 173 hE k rfl (by rfl) (by rfl) rfl rfl (.inl e168) ?_
             intro a266 hE e173 kp
             replace e168 := kt kp e168
             refine sd 174 hE k (Z09 rfl e168 rfl) ?_
             intro a267 hE e174 kp
             refine sd 175 hE k (Z02 rfl e174) ?_
             intro a268 hE e175 kp
             refine Z04 176 hE k rfl (by rfl) (by rfl) rfl rfl (.inl e175) ?_
             intro a269 hE e176 kp
             replace e175 := kt kp e175
             refine Z04 177 hE k rfl (by rfl) (by rfl) rfl rfl (.inl e175) ?_
             intro a270 hE e177 kp
             replace e175 := kt kp e175
             refine Z04 178 hE k rfl (by rfl) (by rfl) rfl rfl (.inl e175) ?_
             intro a271 hE e178 kp
             replace e175 := kt kp e175
             refine Z04 179 hE k rfl (by rfl) (by rfl) rfl rfl (.inl e175) ?_
             intro a272 hE e179 kp
             replace e175 := kt kp e175
             refine Z04 180 hE k rfl (by rfl) (by rfl) rfl rfl (.inl e175) ?_
             intro a273 hE e180 kp
             replace e175 := kt kp e175; replace e179 := kt kp e179
             refine Z04 181 hE k rfl (by rfl) (by rfl) rfl rfl (.inl e175) ?_
             intro a274 hE e181 kp
             replace e175 := kt kp e175
             refine sd 182 hE k (Z09 rfl e175 rfl) ?_
             intro a275 hE e182 kp
             refine wpList_nil ?_
             replace e0 := hE.g e0; replace e1 := hE.g e1; replace e7 := hE.g e7; replace e9 := hE.g e9; replace e23 := hE.g e23
             replace k := k.env hE
             clear hE e24
             refine Z00 ?_
             refine Z0a e182 rfl ?_
             refine wp_seq ?_
             refine wp_region_lit ?_
             have hE := Env.refl a275 [6]
             refine sd 6 hE k (Z01 rfl rfl) ?_
             intro a276 hE e6 kp
             refine wpList_nil ?_
             replace k := k.env hE
             clear hE e0 e1 e7 e9 e23 e182
             refine Z00 ?_
             refine wp_ret ?_
             refine Z0c ?_
             refine Z0b rfl k e6 ?_
             exact ⟨rfl, O.below⟩
            | true =>
             refine wp_seq ?_
             refine wp_region_lit ?_
             have hE := Env.refl a250 [162, 163, 161, 164, 165, 23, 24]
             refine zm 162 hE k e1 ?_
             intro a277 hE e162 kp
             apply Z08 163 hE k rfl (by rfl) (by rfl) rfl
             case h =>
              simp [go_sem, ↓IntWalk.iteOmega, ev e162]
              with_reducible exact ⟨rfl, rfl⟩
             case hc => exact Z15 _ (h2.below O.below) (by omega) hs2 (hv.below O.below)
             rintro e w279 ⟨he, RE⟩
             replace O := OwnT.ext O RE
             refine ⟨_, he.trans (by rw [ht2]; first | done | rfl), ?_⟩
             intro a278 hE e163 kp
             refine sd 161 hE k (Z02 rfl e163) ?_
             intro a280 hE e161 kp
             apply Z05 164 hE k rfl rfl rfl rfl
             case h =>
              simp [go_sem, ↓IntWalk.iteOmega, ev e161]
              with_reducible rfl
             intro a281 hE e164 kp
             replace e161 := kt kp e161
             apply Z05 165 hE k rfl rfl rfl rfl
             case h =>
              simp [go_sem, ↓IntWalk.iteOmega, ev e161]
              with_reducible rfl
             intro a282 hE e165 kp
             replace e164 := kt kp e164
             refine sd 23 hE k (Z01 rfl e164) ?_
             intro a283 hE e23 kp
             replace e165 := kt kp e165
             refine sd 24 hE k (Z01 rfl e165) ?_
             intro a284 hE e24 kp
             replace e23 := kt kp e23
             refine wpList_nil ?_
             replace e0 := hE.g e0; replace e1 := hE.g e1; replace e7 := hE.g e7; replace e9 := hE.g e9
             replace k := k.env hE
             clear hE e160
             refine Z00 ?_
             by_cases hXY : Y.length = X.length
             rotate_left
             · skip
               refine wp_seq ?_
               refine wp_seq ?_
               refine wp_region_lit ?_
               have hE := Env.refl a284 [166, 167, 168, 169, 170, 171, 172, 173, 174, 175, 176, 177, 178, 179, 180, 181, 182]
               refine zm 166 hE k e24 ?_
               intro a285 hE e166 kp
               refine sd 167 hE k (Z06 (Z12 rfl e166 rfl) (decide_eq_false (by omega))) ?_
               intro a286 hE e167 kp
               refine sd 168 hE k (Z02 rfl e167) ?_
               intro a287 hE e168 kp
               apply Z03 169 hE k rfl rfl rfl rfl rfl e168
               case h =>
                exact Z02 rfl (hE.g e1)
               intro a288 hE e169 kp
               replace e168 := kt kp e168
               apply Z03 170 hE k rfl rfl rfl rfl rfl e168
               case h =>
                exact Z0d Tryd.underlying22 rfl e169
               intro a289 hE e170 kp
               replace e168 := kt kp e168
               apply Z03 171 hE k rfl rfl rfl rfl rfl e168
               case h =>
                exact Z02 rfl (hE.g e0)
               intro a290 hE e171 kp
               replace e168 := kt kp e168; replace e170 := kt kp e170
               apply Z03 172 hE k rfl rfl rfl rfl rfl e168
               case h =>
                exact Z0d Tryd.underlying22 rfl e171
               intro a291 hE e172 kp
               replace e168 := kt kp e168; replace e170 := kt kp e170
               apply Z03 173 hE k rfl rfl rfl rfl rfl e168
               case h =>
                exact Z06 (Z12 rfl e170 e172) (decide_eq_true (by omega))
               intro a292 hE e173 kp
               replace e168 := kt kp e168
               refine sd 174 hE k (Z07 rfl e168 e173) ?_
               intro a293 hE e174 kp
               refine sd 175 hE k (Z02 rfl e174) ?_
               intro a294 hE e175 kp
               refine Z04 176 hE k rfl (by rfl) (by rfl) rfl rfl (.inl e175) ?_
               intro a295 hE e176 kp
               replace e175 := kt kp e175
               refine Z04 177 hE k rfl (by rfl) (by rfl) rfl rfl (.inl e175) ?_
               intro a296 hE e177 kp
               replace e175 := kt kp e175
               refine Z04 178 hE k rfl (by rfl) (by rfl) rfl rfl (.inl e175) ?_
               intro a297 hE e178 kp
               replace e175 := kt kp e175
               refine Z04 179 hE k rfl (by rfl) (by rfl) rfl rfl (.inl e175) ?_
               intro a298 hE e179 kp
               replace e175 := kt kp e175
               refine Z04 180 hE k rfl (by rfl) (by rfl) rfl rfl (.inl e175) ?_
               intro a299 hE e180 kp
               replace e175 := kt kp e175; replace e179 := kt kp e179
               refine Z04 181 hE k rfl (by rfl) (by rfl) rfl rfl (.inl e175) ?_
               intro a300 hE e181 kp
               replace e175 := kt kp e175
               refine sd 182 hE k (Z09 rfl e175 rfl) ?_
               intro a301 hE e182 kp
               refine wpList_nil ?_
               replace e0 := hE.g e0; replace e1 := hE.g e1; replace e7 := hE.g e7; replace e9 := hE.g e9; replace e23 := hE.g e23
               replace k := k.env hE
               clear hE e24
               refine Z00 ?_
               refine Z0a e182 rfl ?_
               refine wp_seq ?_
               refine wp_region_lit ?_
               have hE := Env.refl a301 [6]
               refine sd 6 hE k (Z01 rfl rfl) ?_
               intro a302 hE e6 kp
               refine wpList_nil ?_
               replace k := k.env hE
               clear hE e0 e1 e7 e9 e23 e182
               refine Z00 ?_
               refine wp_ret ?_
               refine Z0c ?_
               refine Z0b rfl k e6 ?_
               exact ⟨rfl, O.below⟩
             obtain ⟨U0, hU0⟩ : ∃ T, Y[0]? = some T := ⟨_, List.getElem?_eq_getElem (by omega)⟩
             have hhd2 : Y.headD [] = U0 := by cases Y with | nil => simp at hU0 | cons a r => simp at hU0; exact hU0
             obtain ⟨b7, o7, hA7, hsp7⟩ := h2.spot hU0
             obtain ⟨A7, c7, -, hc7⟩ := hsp7 0 U0 hU0
             simp only [Nat.add_zero] at hc7
             subst hA7

             by_cases hUz : U0.length = z
             rotate_left
             · skip
               refine wp_seq ?_
               refine wp_seq ?_
               refine wp_region_lit ?_
               have hE := Env.refl a284 [166, 167, 168, 169, 170, 171, 172, 173, 174, 175, 176, 177, 178, 179, 180, 181, 182]
               refine zm 166 hE k e24 ?_
               intro a303 hE e166 kp
               refine sd 167 hE k (Z06 (Z12 rfl e166 rfl) (decide_eq_false (by omega))) ?_
               intro a304 hE e167 kp
               refine sd 168 hE k (Z02 rfl e167) ?_
               intro a305 hE e168 kp
               apply Z03 169 hE k rfl rfl rfl rfl rfl e168
               case h =>
                exact Z02 rfl (hE.g e1)
               intro a306 hE e169 kp
               replace e168 := kt kp e168
               apply Z03 170 hE k rfl rfl rfl rfl rfl e168
               case h =>
                exact Z0d Tryd.underlying22 rfl e169
               intro a307 hE e170 kp
               replace e168 := kt kp e168
               apply Z03 171 hE k rfl rfl rfl rfl rfl e168
               case h =>
                exact Z02 rfl (hE.g e0)
               intro a308 hE e171 kp
               replace e168 := kt kp e168; replace e170 := kt kp e170
               apply Z03 172 hE k rfl rfl rfl rfl rfl e168
               case h =>
                exact Z0d Tryd.underlying22 rfl e171
               intro a309 hE e172 kp
               replace e168 := kt kp e168; replace e170 := kt kp e170
               apply Z03 173 hE k rfl rfl rfl rfl rfl e168
               case h =>
                exact Z06 (Z12 rfl e170 e172) (decide_eq_false (by omega))
               intro a310 hE e173 kp
               replace e168 := kt kp e168
               refine sd 174 hE k (Z07 rfl e168 e173) ?_
               intro a311 hE e174 kp
               refine sd 175 hE k (Z02 rfl e174) ?_
               intro a312 hE e175 kp
               apply Z03 176 hE k rfl rfl rfl rfl rfl e175
               case h =>
                exact Z02 rfl (hE.g e1)
               intro a313 hE e176 kp
               replace e175 := kt kp e175
               apply Z03 177 hE k rfl rfl rfl rfl rfl e175
               case h =>
                simp [go_sem, ↓IntWalk.iteOmega, ev e176]
                with_reducible rfl
               intro a314 hE e177 kp
               replace e175 := kt kp e175
               apply Z03 178 hE k rfl rfl rfl rfl rfl e175
               case h =>
                simp [go_sem, ↓IntWalk.iteOmega, ev e177, hc7 _ O.below]
                with_reducible rfl
               intro a315 hE e178 kp
               replace e175 := kt kp e175
               apply Z03 179 hE k rfl rfl rfl rfl rfl e175
               case h =>
                exact Z0d Tryd.underlying36 rfl e178
               intro a316 hE e179 kp
               replace e175 := kt kp e175
               apply Z03 180 hE k rfl rfl rfl rfl rfl e175
               case h =>
                exact Z02 rfl (hE.g e9)
               intro a317 hE e180 kp
               replace e175 := kt kp e175; replace e179 := kt kp e179
               apply Z03 181 hE k rfl rfl rfl rfl rfl e175
               case h =>
                exact Z06 (Z12 rfl e179 e180) (decide_eq_true (by omega))
               intro a318 hE e181 kp
               replace e175 := kt kp e175
               refine sd 182 hE k (Z07 rfl e175 e181) ?_
               intro a319 hE e182 kp
               refine wpList_nil ?_
               replace e0 := hE.g e0; replace e1 := hE.g e1; replace e7 := hE.g e7; replace e9 := hE.g e9; replace e23 := hE.g e23
               replace k := k.env hE
               clear hE e24
               refine Z00 ?_
               refine Z0a e182 rfl ?_
               refine wp_seq ?_
               refine wp_region_lit ?_
               have hE := Env.refl a319 [6]
               refine sd 6 hE k (Z01 rfl rfl) ?_
               intro a320 hE e6 kp
               refine wpList_nil ?_
               replace k := k.env hE
               clear hE e0 e1 e7 e9 e23 e182
               refine Z00 ?_
               refine wp_ret ?_
               refine Z0c ?_
               refine Z0b rfl k e6 ?_
               exact ⟨rfl, O.below⟩
             obtain ⟨-, hrows2⟩ := Z5p ht2
             rw [hhd2, hUz] at hrows2
             have hinj := Z74 ht ht2 hhn (by rw [hhd2, hUz]; omega)
             rw [hl] at hinj

             refine wp_seq ?_
             refine wp_seq ?_
             refine wp_region_lit ?_
             have hE := Env.refl a284 [166, 167, 168, 169, 170, 171, 172, 173, 174, 175, 176, 177, 178, 179, 180, 181, 182]
             refine zm 166 hE k e24 ?_
             intro a321 hE e166 kp
             refine sd 167 hE k (Z06 (Z12 rfl e166 rfl) (decide_eq_false (by omega))) ?_
             intro a322 hE e167 kp
             refine sd 168 hE k (Z02 rfl e167) ?_
             intro a323 hE e168 kp
             apply Z03 169 hE k rfl rfl rfl rfl rfl e168
             case h =>
              exact Z02 rfl (hE.g e1)
             intro a324 hE e169 kp
             replace e168 := kt kp e168
             apply Z03 170 hE k rfl rfl rfl rfl rfl e168
             case h =>
              exact Z0d Tryd.underlying22 rfl e169
             intro a325 hE e170 kp
             replace e168 := kt kp e168
             apply Z03 171 hE k rfl rfl rfl rfl rfl e168
             case h =>
              exact Z02 rfl (hE.g e0)
             intro a326 hE e171 kp
             replace e168 := kt kp e168; replace e170 := kt kp e170
             apply Z03 172 hE k rfl rfl rfl rfl rfl e168
             case h =>
              exact Z0d Tryd.underlying22 rfl e171
             intro a327 hE e172 kp
             replace e168 := kt kp e168; replace e170 := kt kp e170
             apply Z03 173 hE k rfl rfl rfl rfl rfl e168
             case h =>
              exact Z06 (Z12 rfl e170 e172) (decide_eq_false (by omega))
             intro a328 hE e173 kp
             replace e168 := kt kp e168
             refine sd 174 hE k (Z07 rfl e168 e173) ?_
             intro a329 hE e174 kp
             refine sd 175 hE k (Z02 rfl e174) ?_
             intro a330 hE e175 kp
             apply Z03 176 hE k rfl rfl rfl rfl rfl e175
             case h =>
              exact Z02 rfl (hE.g e1)
             intro a331 hE e176 kp
             replace e175 := kt kp e175
             apply Z03 177 hE k rfl rfl rfl rfl rfl e175
             case h =>
              simp [go_sem, ↓IntWalk.iteOmega, ev e176]
              with_reducible rfl
             intro a332 hE e177 kp
             replace e175 := kt kp e175
             apply Z03 178 hE k rfl rfl rfl rfl rfl e175
             case h =>
              simp [go_sem, ↓IntWalk.iteOmega, ev e177, hc7 _ O.below]
              with_reducible rfl
             intro a333 hE e178 kp
             replace e175 := kt kp e175
             apply Z03 179 hE k rfl rfl rfl rfl rfl e175
             case h =>
              exact Z0d Tryd.underlying36 rfl e178
             intro a334 hE e179 kp
             replace e175 := kt kp e175
             apply Z03 180 hE k rfl rfl rfl rfl rfl e175
             case h =>
              exact Z02 rfl (hE.g e9)
             intro a335 hE e180 kp
             replace e175 := kt kp e175; replace e179 := kt kp e179
             apply Z03 181 hE k rfl rfl rfl rfl rfl e175
             case h =>
              exact Z06 (Z12 rfl e179 e180) (decide_eq_false (by omega))
             intro a336 hE e181 kp
             replace e175 := kt kp e175
             refine sd 182 hE k (Z07 rfl e175 e181) ?_
             intro a337 hE e182 kp
             refine wpList_nil ?_
             replace e0 := hE.g e0; replace e1 := hE.g e1; replace e7 := hE.g e7; replace e9 := hE.g e9; replace e23 := hE.g e23
             replace k := k.env hE
             clear hE e24
             refine Z00 ?_
             refine Z0e e182 rfl ?_
             refine wp_skip ?_
             refine Z00 (wp_seq ?_)
             refine wp_region_lit ?_
             have hE := Env.refl a337 [25]
             refine sd 25 hE k (Z01 rfl rfl) ?_
             intro a338 hE e25 kp
             refine wpList_nil ?_
             replace e0 := hE.g e0; replace e1 := hE.g e1; replace e7 := hE.g e7; replace e9 := hE.g e9; replace e23 := hE.g e23
             replace k := k.env hE
             clear hE e182
             refine Z00 (wp_seq ?_)
             refine wp_seq ?_
             refine wp_region_lit ?_
             have hE := Env.refl a338 [26]
             refine sd 26 hE k (Z01 rfl rfl) ?_
             intro a339 hE e26 kp
             refine wpList_nil ?_
             replace e0 := hE.g e0; replace e1 := hE.g e1; replace e7 := hE.g e7; replace e9 := hE.g e9; replace e23 := hE.g e23; replace e25 := hE.g e25
             replace k := k.env hE
             clear hE
             refine Z00 ?_
             refine wp_block ?_
             refine wp_loop (fun a w => Fr 217 a ∧ a.eval (.tmp 0) = .slice (some ⟨b, o, none⟩) X.length ca ∧ a.eval (.tmp 1) = .slice (some ⟨b7, o7, none⟩) Y.length cb ∧ a.eval (.tmp 7) = .string (sB l) ∧ a.eval (.tmp 9) = .int .i64 ↑z ∧ a.eval (.tmp 23) = .string (sB (textL Y)) ∧ ∃ (i : Nat) (bb : Bool), a.eval (.tmp 25) = .bool bb ∧ a.eval (.tmp 26) = .int .i64 ↑i ∧ i ≤ X.length ∧ bb = decide (X.take i = Y.take i) ∧ OwnT W0.heap.size W0 [] w) (fun a w => X.length - (intOf (a.eval (.tmp 26))).toNat) ?_ ?_
             · exact ⟨k, e0, e1, e7, e9, e23, 0, true, e25, e26, Nat.zero_le _, rfl, O⟩
             intro a340 w341 hK
             clear k e0 e1 e7 e9 e23
             obtain ⟨k, e0, e1, e7, e9, e23, h_⟩ := hK
             clear O e25 e26 hi mi
             obtain ⟨i, bb, e25, e26, hi, hbb, O⟩ := h_
             have mi := e26

             by_cases hlt3 : i < X.length
             · skip
               have hzI : (i : Int) < (X.length : Int) := by omega
               have hzI2 : (i : Int) < (Y.length : Int) := by omega
               obtain ⟨T, hT⟩ : ∃ T, X[i]? = some T := ⟨_, List.getElem?_eq_getElem hlt3⟩
               obtain ⟨U, hU⟩ : ∃ T, Y[i]? = some T := ⟨_, List.getElem?_eq_getElem (by omega)⟩
               have hTl := (hrows T (List.mem_of_getElem? hT)).1
               have hUl := (hrows2 U (List.mem_of_getElem? hU)).1
               obtain ⟨Aj, cj, hr, hc⟩ := hsp i T hT
               obtain ⟨Au, cu, hru, hcu⟩ := hsp7 i U hU
               have hts := Z3e hT hU

               refine wp_seq ?_
               refine wp_seq ?_
               refine wp_region_lit ?_
               have hE := Env.refl a340 [183, 184, 185, 186]
               refine zm 183 hE k e26 ?_
               intro a342 hE e183 kp
               refine zm 184 hE k e0 ?_
               intro a343 hE e184 kp
               replace e183 := kt kp e183
               refine sd 185 hE k (Z0d Tryd.underlying22 rfl e184) ?_
               intro a344 hE e185 kp
               replace e183 := kt kp e183
               refine sd 186 hE k (Z06 (Z0j rfl e183 e185) (decide_eq_true (by omega))) ?_
               intro a345 hE e186 kp
               refine wpList_nil ?_
               replace e0 := hE.g e0; replace e1 := hE.g e1; replace e7 := hE.g e7; replace e9 := hE.g e9; replace e23 := hE.g e23; replace e25 := hE.g e25; replace e26 := hE.g e26
               replace k := k.env hE
               clear hE
               refine Z00 ?_
               refine Z0a e186 rfl ?_
               refine wp_skip ?_
               refine Z00 (wp_seq ?_)
               refine wp_block ?_
               refine wp_seq ?_
               refine wp_region_lit ?_
               have hE := Env.refl a345 [27]
               refine sd 27 hE k (Z01 rfl rfl) ?_
               intro a346 hE e27 kp
               refine wpList_nil ?_
               replace e0 := hE.g e0; replace e1 := hE.g e1; replace e7 := hE.g e7; replace e9 := hE.g e9; replace e23 := hE.g e23; replace e25 := hE.g e25; replace e26 := hE.g e26
               replace k := k.env hE
               clear hE e186
               refine Z00 ?_
               refine wp_block ?_
               refine wp_loop (fun a w => Fr 217 a ∧ a.eval (.tmp 0) = .slice (some ⟨b, o, none⟩) X.length ca ∧ a.eval (.tmp 1) = .slice (some ⟨b7, o7, none⟩) Y.length cb ∧ a.eval (.tmp 7) = .string (sB l) ∧ a.eval (.tmp 9) = .int .i64 ↑z ∧ a.eval (.tmp 23) = .string (sB (textL Y)) ∧ a.eval (.tmp 26) = .int .i64 ↑i ∧ ∃ (j : Nat) (b2 : Bool), a.eval (.tmp 25) = .bool b2 ∧ a.eval (.tmp 27) = .int .i64 ↑j ∧ j ≤ z ∧ b2 = decide (X.take i = Y.take i ∧ T.take j = U.take j) ∧ OwnT W0.heap.size W0 [] w) (fun a w => z - (intOf (a.eval (.tmp 27))).toNat) ?_ ?_
               · exact ⟨k, e0, e1, e7, e9, e23, e26, 0, bb, e25, e27, Nat.zero_le _, hbb.trans (decide_eq_decide.2 (by simp)), O⟩
               intro a347 w348 hL
               clear k e0 e1 e7 e9 e23 e26
               obtain ⟨k, e0, e1, e7, e9, e23, e26, h_⟩ := hL
               clear O e25 e27
               obtain ⟨j, b2, e25, e27, hj, hb2, O⟩ := h_
               have mj := e27

               by_cases hlj : j < z
               · skip
                 have hjT : (j : Int) < (T.length : Int) := by omega
                 have hjU : (j : Int) < (U.length : Int) := by omega
                 obtain ⟨sx, hsx⟩ : ∃ s, T[j]? = some s := ⟨_, List.getElem?_eq_getElem (by omega)⟩
                 obtain ⟨ux, hux⟩ : ∃ s, U[j]? = some s := ⟨_, List.getElem?_eq_getElem (by omega)⟩
                 obtain ⟨b5, o5, hA5, hsp5⟩ := hr.spot hsx
                 obtain ⟨b6, o6, hA6, hsp6⟩ := hru.spot hux
                 have hst := Z5q hb2 hsx hux
                 subst hA5 hA6

                 cases b2 with
                 | false =>
                  refine wp_seq ?_
                  refine wp_seq ?_
                  refine wp_region_lit ?_
                  have hE := Env.refl a347 [189, 190, 191]
                  refine zm 189 hE k e27 ?_
                  intro a349 hE e189 kp
                  refine zm 190 hE k e9 ?_
                  intro a350 hE e190 kp
                  replace e189 := kt kp e189
                  refine sd 191 hE k (Z06 (Z0j rfl e189 e190) (decide_eq_true (by omega))) ?_
                  intro a351 hE e191 kp
                  refine wpList_nil ?_
                  replace e0 := hE.g e0; replace e1 := hE.g e1; replace e7 := hE.g e7; replace e9 := hE.g e9; replace e23 := hE.g e23; replace e25 := hE.g e25; replace e26 := hE.g e26; replace e27 := hE.g e27
                  replace k := k.env hE
                  clear hE
                  refine Z00 ?_
                  refine Z0a e191 rfl ?_
                  refine wp_skip ?_
                  refine Z00 (wp_seq ?_)
                  refine wp_block ?_
                  refine Z13 (R := Ext) (w0 := w348) [[], [0], [0, 1], [0, 1], [0, 1, 2, 3], [0, 1, 2, 3, 4], [0, 1], [0, 1, 2, 3, 4, 5, 6], [0, 1, 2, 3, 4, 5, 6, 7], [0, 1], [0, 1], [0, 1, 9, 10], [0, 1, 9, 10, 11], [0, 1], [0, 1, 9, 10, 11, 12, 13], [0, 1, 9, 10, 11, 12, 13, 14], [0, 1, 2, 3, 4, 5, 6, 7, 8, 9, 10, 11, 12, 13, 14, 15], [0, 1, 2, 3, 4, 5, 6, 7, 8, 9, 10, 11, 12, 13, 14, 15, 16], [0, 1, 2, 3, 4, 5, 6, 7, 8, 9, 10, 11, 12, 13, 14, 15, 16, 17]] [194, 195, 196, 197, 198, 199, 200, 201, 202, 203, 204, 205, 206, 207, 208, 209, 210, 211] Ext.refl (fun _ _ _ => Ext.trans) (Ext.drew _) (by kernel_rfl) ?_
                  apply bd 194 k rfl rfl rfl
                  case h =>
                   intro ax wx hE hR hF
                   exact Z02 rfl (hE.g e25)
                  apply bd 195 k rfl rfl rfl
                  case h =>
                   intro ax wx hE hR hF
                   have e194 := zhF hF 0 194 ml0
                   exact Z02 rfl e194
                  refine Build.skip 196 (by rfl) (by rw [k.size]; rfl) rfl rfl ?_ ?_
                  · intro ax wx hE hR hF
                    have e195 := zhF hF 1 195 ml0
                    exact e195
                  refine Build.skip 197 (by rfl) (by rw [k.size]; rfl) rfl rfl ?_ ?_
                  · intro ax wx hE hR hF
                    have e195 := zhF hF 1 195 ml1
                    exact e195
                  refine Build.skip 198 (by rfl) (by rw [k.size]; rfl) rfl rfl ?_ ?_
                  · intro ax wx hE hR hF
                    have e195 := zhF hF 1 195 ml2
                    exact e195
                  refine Build.skip 199 (by rfl) (by rw [k.size]; rfl) rfl rfl ?_ ?_
                  · intro ax wx hE hR hF
                    have e195 := zhF hF 1 195 ml3
                    exact e195
                  refine Build.skip 200 (by rfl) (by rw [k.size]; rfl) rfl rfl ?_ ?_
                  · intro ax wx hE hR hF
                    have e195 := zhF hF 1 195 ml4
                    exact e195
                  refine Build.skip 201 (by rfl) (by rw [k.size]; rfl) rfl rfl ?_ ?_
                  · intro ax wx hE hR hF
                    have e195 := zhF hF 1 195 ml5
                    exact e195
                  refine Build.skip 202 (by rfl) (by rw [k.size]; rfl) rfl rfl ?_ ?_
                  · intro ax wx hE hR hF
                    have e195 := zhF hF 1 195 ml6
                    exact e195
                  refine Build.skip 203 (by rfl) (by rw [k.size]; rfl) rfl rfl ?_ ?_
                  · intro ax wx hE hR hF
                    have e195 := zhF hF 1 195 ml7
                    exact e195
                  refine Build.skip 204 (by rfl) (by rw [k.size]; rfl) rfl rfl ?_ ?_
                  · intro ax wx hE hR hF
                    have e195 := zhF hF 1 195 ml8
                    exact e195
                  refine Build.skip 205 (by rfl) (by rw [k.size]; rfl) rfl rfl ?_ ?_
                  · intro ax wx hE hR hF
                    have e195 := zhF hF 1 195 ml9
                    exact e195
                  refine Build.skip 206 (by rfl) (by rw [k.size]; rfl) rfl rfl ?_ ?_
                  · intro ax wx hE hR hF
                    have e195 := zhF hF 1 195 ml10
                    exact e195
                  refine Build.skip 207 (by rfl) (by rw [k.size]; rfl) rfl rfl ?_ ?_
                  · intro ax wx hE hR hF
                    have e195 := zhF hF 1 195 ml11
                    exact e195
                  refine Build.skip 208 (by rfl) (by rw [k.size]; rfl) rfl rfl ?_ ?_
                  · intro ax wx hE hR hF
                    have e195 := zhF hF 1 195 ml12
                    exact e195
                  refine Build.skip 209 (by rfl) (by rw [k.size]; rfl) rfl rfl ?_ ?_
                  · intro ax wx hE hR hF
                    have e195 := zhF hF 1 195 ml13
                    exact e195
                  refine Build.skip 210 (by rfl) (by rw [k.size]; rfl) rfl rfl ?_ ?_
                  · intro ax wx hE hR hF
                    have e195 := zhF hF 1 195 ml14
                    exact e195
                  apply bd 211 k rfl rfl rfl
                  case h =>
                   intro ax wx hE hR hF
                   have e195 := zhF hF 1 195 ml15
                   have e210 := zhF hF 16 210 ml0
                   exact Z07 rfl e195 rfl
                  apply Build.stop
                  refine ⟨by kernel_rfl, .inr ⟨by kernel_rfl, _, rfl, rfl, ?_⟩⟩
                  intro a352 w353 hE R hF
                  have e211 : a352.eval (.tmp 211) = _ := hF 17 (det 211 _) ml0
                  clear hF
                  replace O := OwnT.ext O R
                  clear R
                  apply Z34 (w' := w353) 25 [194, 195, 196, 197, 198, 199, 200, 201, 202, 203, 204, 205, 206, 207, 208, 209, 210, 211, 25] hE k rfl (by rfl) (by rfl) (by rfl)
                  case h =>
                   exact Z01 rfl e211
                  intro a354 hE e25 kp
                  replace e0 := hE.g e0; replace e1 := hE.g e1; replace e7 := hE.g e7; replace e9 := hE.g e9; replace e23 := hE.g e23; replace e26 := hE.g e26; replace e27 := hE.g e27
                  replace k := k.env hE
                  clear hE e191
                  refine Z0i ?_
                  refine Z00 ?_
                  refine wp_region_lit ?_
                  have hE := Env.refl a354 [192, 193, 27]
                  refine sd 192 hE k (Z02 rfl e27) ?_
                  intro a355 hE e192 kp
                  replace e27 := kt kp e27
                  refine sd 193 hE k (Z0z rfl e192 rfl (by omega)) ?_
                  intro a356 hE e193 kp
                  replace e27 := kt kp e27
                  refine sd 27 hE k (Z01 rfl e193) ?_
                  intro a357 hE e27 kp
                  refine wpList_nil ?_
                  replace e0 := hE.g e0; replace e1 := hE.g e1; replace e7 := hE.g e7; replace e9 := hE.g e9; replace e23 := hE.g e23; replace e25 := hE.g e25; replace e26 := hE.g e26
                  replace k := k.env hE
                  clear hE
                  refine Z00 ?_
                  refine ⟨⟨k, e0, e1, e7, e9, e23, e26, j + 1, _, e25, e27, by omega, by rw [← hst]; rfl, O⟩, ?_⟩
                  rw [e27, mj]; simp only [intOf]; omega
                 | true =>
                  by_cases hsu : sx = ux
                  · skip
                    refine wp_seq ?_
                    refine wp_seq ?_
                    refine wp_region_lit ?_
                    have hE := Env.refl a347 [189, 190, 191]
                    refine zm 189 hE k e27 ?_
                    intro a358 hE e189 kp
                    refine zm 190 hE k e9 ?_
                    intro a359 hE e190 kp
                    replace e189 := kt kp e189
                    refine sd 191 hE k (Z06 (Z0j rfl e189 e190) (decide_eq_true (by omega))) ?_
                    intro a360 hE e191 kp
                    refine wpList_nil ?_
                    replace e0 := hE.g e0; replace e1 := hE.g e1; replace e7 := hE.g e7; replace e9 := hE.g e9; replace e23 := hE.g e23; replace e25 := hE.g e25; replace e26 := hE.g e26; replace e27 := hE.g e27
                    replace k := k.env hE
                    clear hE
                    refine Z00 ?_
                    refine Z0a e191 rfl ?_
                    refine wp_skip ?_
                    refine Z00 (wp_seq ?_)
                    refine wp_block ?_
                    refine Z13 (R := Ext) (w0 := w348) [[], [0], [0, 1], [0, 1], [0, 1, 2, 3], [0, 1, 2, 3, 4], [0, 1], [0, 1, 2, 3, 4, 5, 6], [0, 1, 2, 3, 4, 5, 6, 7], [0, 1], [0, 1], [0, 1, 9, 10], [0, 1, 9, 10, 11], [0, 1], [0, 1, 9, 10, 11, 12, 13], [0, 1, 9, 10, 11, 12, 13, 14], [0, 1, 2, 3, 4, 5, 6, 7, 8, 9, 10, 11, 12, 13, 14, 15], [0, 1, 2, 3, 4, 5, 6, 7, 8, 9, 10, 11, 12, 13, 14, 15, 16], [0, 1, 2, 3, 4, 5, 6, 7, 8, 9, 10, 11, 12, 13, 14, 15, 16, 17]] [194, 195, 196, 197, 198, 199, 200, 201, 202, 203, 204, 205, 206, 207, 208, 209, 210, 211] Ext.refl (fun _ _ _ => Ext.trans) (Ext.drew _) (by kernel_rfl) ?_
                    apply bd 194 k rfl rfl rfl
                    case h =>
                     intro ax wx hE hR hF
                     exact Z02 rfl (hE.g e25)
                    apply bd 195 k rfl rfl rfl
                    case h =>
                     intro ax wx hE hR hF
                     have e194 := zhF hF 0 194 ml0
                     exact Z02 rfl e194
                    apply bdg 196 k rfl rfl rfl rfl
                    case h =>
                     intro ax wx hE hR hF
                     have e195 := zhF hF 1 195 ml0
                     refine ⟨e195, ?_⟩
                     exact Z02 rfl (hE.g e0)
                    apply bdg 197 k rfl rfl rfl rfl
                    case h =>
                     intro ax wx hE hR hF
                     have e195 := zhF hF 1 195 ml1
                     refine ⟨e195, ?_⟩
                     exact Z02 rfl (hE.g e26)
                    apply bdg 198 k rfl rfl rfl rfl
                    case h =>
                     intro ax wx hE hR hF
                     have e196 := zhF hF 2 196 ml1
                     have e197 := zhF hF 3 197 ml0
                     have e195 := zhF hF 1 195 ml2
                     refine ⟨e195, ?_⟩
                     simp [go_sem, ↓IntWalk.iteOmega, ev e196, ev e197]
                     with_reducible rfl
                    apply bdg 199 k rfl rfl rfl rfl
                    case h =>
                     intro ax wx hE hR hF
                     have e198 := zhF hF 4 198 ml0
                     have e195 := zhF hF 1 195 ml3
                     refine ⟨e195, ?_⟩
                     simp [go_sem, ↓IntWalk.iteOmega, ev e198, hc _ (OwnT.ext O hR).below]
                     with_reducible rfl
                    apply bdg 200 k rfl rfl rfl rfl
                    case h =>
                     intro ax wx hE hR hF
                     have e195 := zhF hF 1 195 ml4
                     refine ⟨e195, ?_⟩
                     exact Z02 rfl (hE.g e27)
                    apply bdg 201 k rfl rfl rfl rfl
                    case h =>
                     intro ax wx hE hR hF
                     have e199 := zhF hF 5 199 ml1
                     have e200 := zhF hF 6 200 ml0
                     have e195 := zhF hF 1 195 ml5
                     refine ⟨e195, ?_⟩
                     simp [go_sem, ↓IntWalk.iteOmega, ev e199, ev e200]
                     with_reducible rfl
                    apply bdg 202 k rfl rfl rfl rfl
                    case h =>
                     intro ax wx hE hR hF
                     have e201 := zhF hF 7 201 ml0
                     have e195 := zhF hF 1 195 ml6
                     refine ⟨e195, ?_⟩
                     simp [go_sem, ↓IntWalk.iteOmega, ev e201, hsp5 _ (OwnT.ext O hR).below j sx hsx]
                     with_reducible rfl
                    apply bdg 203 k rfl rfl rfl rfl
                    case h =>
                     intro ax wx hE hR hF
                     have e195 := zhF hF 1 195 ml7
                     refine ⟨e195, ?_⟩
                     exact Z02 rfl (hE.g e1)
                    apply bdg 204 k rfl rfl rfl rfl
                    case h =>
                     intro ax wx hE hR hF
                     have e195 := zhF hF 1 195 ml8
                     refine ⟨e195, ?_⟩
                     exact Z02 rfl (hE.g e26)
                    apply bdg 205 k rfl rfl rfl rfl
                    case h =>
                     intro ax wx hE hR hF
                     have e203 := zhF hF 9 203 ml1
                     have e204 := zhF hF 10 204 ml0
                     have e195 := zhF hF 1 195 ml9
                     refine ⟨e195, ?_⟩
                     simp [go_sem, ↓IntWalk.iteOmega, ev e203, ev e204]
                     with_reducible rfl
                    apply bdg 206 k rfl rfl rfl rfl
                    case h =>
                     intro ax wx hE hR hF
                     have e205 := zhF hF 11 205 ml0
                     have e195 := zhF hF 1 195 ml10
                     refine ⟨e195, ?_⟩
                     simp [go_sem, ↓IntWalk.iteOmega, ev e205, hcu _ (OwnT.ext O hR).below]
                     with_reducible rfl
                    apply bdg 207 k rfl rfl rfl rfl
                    case h =>
                     intro ax wx hE hR hF
                     have e195 := zhF hF 1 195 ml11
                     refine ⟨e195, ?_⟩
                     exact Z02 rfl (hE.g e27)
                    apply bdg 208 k rfl rfl rfl rfl
                    case h =>
                     intro ax wx hE hR hF
                     have e206 := zhF hF 12 206 ml1
                     have e207 := zhF hF 13 207 ml0
                     have e195 := zhF hF 1 195 ml12
                     refine ⟨e195, ?_⟩
                     simp [go_sem, ↓IntWalk.iteOmega, ev e206, ev e207]
                     with_reducible rfl
                    apply bdg 209 k rfl rfl rfl rfl
                    case h =>
                     intro ax wx hE hR hF
                     have e208 := zhF hF 14 208 ml0
                     have e195 := zhF hF 1 195 ml13
                     refine ⟨e195, ?_⟩
                     simp [go_sem, ↓IntWalk.iteOmega, ev e208, hsp6 _ (OwnT.ext O hR).below j ux hux]
                     with_reducible rfl
                    apply bdg 210 k rfl rfl rfl rfl
                    case h =>
                     intro ax wx hE hR hF
                     have e202 := zhF hF 8 202 ml7
                     have e209 := zhF hF 15 209 ml0
                     have e195 := zhF hF 1 195 ml14
                     refine ⟨e195, ?_⟩
                     exact Z06 (Z25 (l := sx) (m := ux) rfl e202 e209) (decide_eq_true hsu)
                    apply bd 211 k rfl rfl rfl
                    case h =>
                     intro ax wx hE hR hF
                     have e195 := zhF hF 1 195 ml15
                     have e210 := zhF hF 16 210 ml0
                     exact Z09 rfl e195 e210
                    apply Build.stop
                    refine ⟨by kernel_rfl, .inr ⟨by kernel_rfl, _, rfl, rfl, ?_⟩⟩
                    intro a361 w362 hE R hF
                    have e211 : a361.eval (.tmp 211) = _ := hF 17 (det 211 _) ml0
                    clear hF
                    replace O := OwnT.ext O R
                    clear R
                    apply Z34 (w' := w362) 25 [194, 195, 196, 197, 198, 199, 200, 201, 202, 203, 204, 205, 206, 207, 208, 209, 210, 211, 25] hE k rfl (by rfl) (by rfl) (by rfl)
                    case h =>
                     exact Z01 rfl e211
                    intro a363 hE e25 kp
                    replace e0 := hE.g e0; replace e1 := hE.g e1; replace e7 := hE.g e7; replace e9 := hE.g e9; replace e23 := hE.g e23; replace e26 := hE.g e26; replace e27 := hE.g e27
                    replace k := k.env hE
                    clear hE e191
                    refine Z0i ?_
                    refine Z00 ?_
                    refine wp_region_lit ?_
                    have hE := Env.refl a363 [192, 193, 27]
                    refine sd 192 hE k (Z02 rfl e27) ?_
                    intro a364 hE e192 kp
                    replace e27 := kt kp e27
                    refine sd 193 hE k (Z0z rfl e192 rfl (by omega)) ?_
                    intro a365 hE e193 kp
                    replace e27 := kt kp e27
                    refine sd 27 hE k (Z01 rfl e193) ?_
                    intro a366 hE e27 kp
                    refine wpList_nil ?_
                    replace e0 := hE.g e0; replace e1 := hE.g e1; replace e7 := hE.g e7; replace e9 := hE.g e9; replace e23 := hE.g e23; replace e25 := hE.g e25; replace e26 := hE.g e26
                    replace k := k.env hE
                    clear hE
                    refine Z00 ?_
                    refine ⟨⟨k, e0, e1, e7, e9, e23, e26, j + 1, _, e25, e27, by omega, by rw [← hst, decide_eq_true hsu]; rfl, O⟩, ?_⟩
                    rw [e27, mj]; simp only [intOf]; omega
                  · skip
                    refine wp_seq ?_
                    refine wp_seq ?_
                    refine wp_region_lit ?_
                    have hE := Env.refl a347 [189, 190, 191]
                    refine zm 189 hE k e27 ?_
                    intro a367 hE e189 kp
                    refine zm 190 hE k e9 ?_
                    intro a368 hE e190 kp
                    replace e189 := kt kp e189
                    refine sd 191 hE k (Z06 (Z0j rfl e189 e190) (decide_eq_true (by omega))) ?_
                    intro a369 hE e191 kp
                    refine wpList_nil ?_
                    replace e0 := hE.g e0; replace e1 := hE.g e1; replace e7 := hE.g e7; replace e9 := hE.g e9; replace e23 := hE.g e23; replace e25 := hE.g e25; replace e26 := hE.g e26; replace e27 := hE.g e27
                    replace k := k.env hE
                    clear hE
                    refine Z00 ?_
                    refine Z0a e191 rfl ?_
                    refine wp_skip ?_
                    refine Z00 (wp_seq ?_)
                    refine wp_block ?_
                    refine Z13 (R := Ext) (w0 := w348) [[], [0], [0, 1], [0, 1], [0, 1, 2, 3], [0, 1, 2, 3, 4], [0, 1], [0, 1, 2, 3, 4, 5, 6], [0, 1, 2, 3, 4, 5, 6, 7], [0, 1], [0, 1], [0, 1, 9, 10], [0, 1, 9, 10, 11], [0, 1], [0, 1, 9, 10, 11, 12, 13], [0, 1, 9, 10, 11, 12, 13, 14], [0, 1, 2, 3, 4, 5, 6, 7, 8, 9, 10, 11, 12, 13, 14, 15], [0, 1, 2, 3, 4, 5, 6, 7, 8, 9, 10, 11, 12, 13, 14, 15, 16], [0, 1, 2, 3, 4, 5, 6, 7, 8, 9, 10, 11, 12, 13, 14, 15, 16, 17]] [194, 195, 196, 197, 198, 199, 200, 201, 202, 203, 204, 205, 206, 207, 208, 209, 210, 211] Ext.refl (fun _ _ _ => Ext.trans) (Ext.drew _) (by kernel_rfl) ?_
                    apply bd 194 k rfl rfl rfl
                    case h =>
                     intro ax wx hE hR hF
                     exact Z02 rfl (hE.g e25)
                    apply bd 195 k rfl rfl rfl
                    case h =>
                     intro ax wx hE hR hF
                     have e194 := zhF hF 0 194 ml0
                     exact Z02 rfl e194
                    apply bdg 196 k rfl rfl rfl rfl
                    case h =>
                     intro ax wx hE hR hF
                     have e195 := zhF hF 1 195 ml0
                     refine ⟨e195, ?_⟩
                     exact Z02 rfl (hE.g e0)
                    apply bdg 197 k rfl rfl rfl rfl
                    case h =>
                     intro ax wx hE hR hF
                     have e195 := zhF hF 1 195 ml1
                     refine ⟨e195, ?_⟩
                     exact Z02 rfl (hE.g e26)
                    apply bdg 198 k rfl rfl rfl rfl
                    case h =>
                     intro ax wx hE hR hF
                     have e196 := zhF hF 2 196 ml1
                     have e197 := zhF hF 3 197 ml0
                     have e195 := zhF hF 1 195 ml2
                     refine ⟨e195, ?_⟩
                     simp [go_sem, ↓IntWalk.iteOmega, ev e196, ev e197]
                     with_reducible rfl
                    apply bdg 199 k rfl rfl rfl rfl
                    case h =>
                     intro ax wx hE hR hF
                     have e198 := zhF hF 4 198 ml0
                     have e195 := zhF hF 1 195 ml3
                     refine ⟨e195, ?_⟩
                     simp [go_sem, ↓IntWalk.iteOmega, ev e198, hc _ (OwnT.ext O hR).below]
                     with_reducible rfl
                    apply bdg 200 k rfl rfl rfl rfl
                    case h =>
                     intro ax wx hE hR hF
                     have e195 := zhF hF 1 195 ml4
                     refine ⟨e195, ?_⟩
                     exact Z02 rfl (hE.g e27)
                    apply bdg 201 k rfl rfl rfl rfl
                    case h =>
                     intro ax wx hE hR hF
                     have e199 := zhF hF 5 199 ml1
                     have e200 := zhF hF 6 200 ml0
                     have e195 := zhF hF 1 195 ml5
                     refine ⟨e195, ?_⟩
                     simp [go_sem, ↓IntWalk.iteOmega, ev e199, ev e200]
                     with_reducible rfl
                    apply bdg 202 k rfl rfl rfl rfl
                    case h =>
                     intro ax wx hE hR hF
                     have e201 := zhF hF 7 201 ml0
                     have e195 := zhF hF 1 195 ml6
                     refine ⟨e195, ?_⟩
                     simp [go_sem, ↓IntWalk.iteOmega, ev e201, hsp5 _ (OwnT.ext O hR).below j sx hsx]
                     with_reducible rfl
                    apply bdg 203 k rfl rfl rfl rfl
                    case h =>
                     intro ax wx hE hR hF
                     have e195 := zhF hF 1 195 ml7
                     refine ⟨e195, ?_⟩
                     exact Z02 rfl (hE.g e1)
                    apply bdg 204 k rfl rfl rfl rfl
                    case h =>
                     intro ax wx hE hR hF
                     have e195 := zhF hF 1 195 ml8
                     refine ⟨e195, ?_⟩
                     exact Z02 rfl (hE.g e26)
                    apply bdg 205 k rfl rfl rfl rfl
                    case h =>
                     intro ax wx hE hR hF
                     have e203 := zhF hF 9 203 ml1
                     have e204 := zhF hF 10 204 ml0
                     have e195 := zhF hF 1 195 ml9
                     refine ⟨e195, ?_⟩
                     simp [go_sem, ↓IntWalk.iteOmega, ev e203, ev e204]
                     with_reducible rfl
                    apply bdg 206 k rfl rfl rfl rfl
                    case h =>
                     intro ax wx hE hR hF
                     have e205 := zhF hF 11 205 ml0
                     have e195 := zhF hF 1 195 ml10
                     refine ⟨e195, ?_⟩
                     simp [go_sem, ↓IntWalk.iteOmega, ev e205, hcu _ (OwnT.ext O hR).below]
                     with_reducible rfl
                    apply bdg 207 k rfl rfl rfl rfl
                    case h =>
                     intro ax wx hE hR hF
                     have e195 := zhF hF 1 195 ml11
                     refine ⟨e195, ?_⟩
                     exact Z02 rfl (hE.g e27)
                    apply bdg 208 k rfl rfl rfl rfl
                    case h =>
                     intro ax wx hE hR hF
                     have e206 := zhF hF 12 206 ml1
                     have e207 := zhF hF 13 207 ml0
                     have e195 := zhF hF 1 195 ml12
                     refine ⟨e195, ?_⟩
                     simp [go_sem, ↓IntWalk.iteOmega, ev e206, ev e207]
                     with_reducible rfl
                    apply bdg 209 k rfl rfl rfl rfl
                    case h =>
                     intro ax wx hE hR hF
                     have e208 := zhF hF 14 208 ml0
                     have e195 := zhF hF 1 195 ml13
                     refine ⟨e195, ?_⟩
                     simp [go_sem, ↓IntWalk.iteOmega, ev e208, hsp6 _ (OwnT.ext O hR).below j ux hux]
                     with_reducible rfl
                    apply bdg 210 k rfl rfl rfl rfl
                    case h =>
                     intro ax wx hE hR hF
                     have e202 := zhF hF 8 202 ml7
                     have e209 := zhF hF 15 209 ml0
                     have e195 := zhF hF 1 195 ml14
                     refine ⟨e195, ?_⟩
                     exact Z06 (Z25 (l := sx) (m := ux) rfl e202 e209) (decide_eq_false hsu)
                    apply bd 211 k rfl rfl rfl
                    case h =>
                     intro ax wx hE hR hF
                     have e195 := zhF hF 1 195 ml15
                     have e210 := zhF hF 16 210 ml0
                     exact Z09 rfl e195 e210
                    apply Build.stop
                    refine ⟨by kernel_rfl, .inr ⟨by kernel_rfl, _, rfl, rfl, ?_⟩⟩
                    intro a370 w371 hE R hF
                    have e211 : a370.eval (.tmp 211) = _ := hF 17 (det 211 _) ml0
                    clear hF
                    replace O := OwnT.ext O R
                    clear R
                    apply Z34 (w' := w371) 25 [194, 195, 196, 197, 198, 199, 200, 201, 202, 203, 204, 205, 206, 207, 208, 209, 210, 211, 25] hE k rfl (by rfl) (by rfl) (by rfl)
                    case h =>
                     exact Z01 rfl e211
                    intro a372 hE e25 kp
                    replace e0 := hE.g e0; replace e1 := hE.g e1; replace e7 := hE.g e7; replace e9 := hE.g e9; replace e23 := hE.g e23; replace e26 := hE.g e26; replace e27 := hE.g e27
                    replace k := k.env hE
                    clear hE e191
                    refine Z0i ?_
                    refine Z00 ?_
                    refine wp_region_lit ?_
                    have hE := Env.refl a372 [192, 193, 27]
                    refine sd 192 hE k (Z02 rfl e27) ?_
                    intro a373 hE e192 kp
                    replace e27 := kt kp e27
                    refine sd 193 hE k (Z0z rfl e192 rfl (by omega)) ?_
                    intro a374 hE e193 kp
                    replace e27 := kt kp e27
                    refine sd 27 hE k (Z01 rfl e193) ?_
                    intro a375 hE e27 kp
                    refine wpList_nil ?_
                    replace e0 := hE.g e0; replace e1 := hE.g e1; replace e7 := hE.g e7; replace e9 := hE.g e9; replace e23 := hE.g e23; replace e25 := hE.g e25; replace e26 := hE.g e26
                    replace k := k.env hE
                    clear hE
                    refine Z00 ?_
                    refine ⟨⟨k, e0, e1, e7, e9, e23, e26, j + 1, _, e25, e27, by omega, by rw [← hst, decide_eq_false hsu]; rfl, O⟩, ?_⟩
                    rw [e27, mj]; simp only [intOf]; omega
               · rw [show T.take j = T from List.take_of_length_le (by omega), show U.take j = U from List.take_of_length_le (by omega)] at hb2
                 refine wp_seq ?_
                 refine wp_seq ?_
                 refine wp_region_lit ?_
                 have hE := Env.refl a347 [189, 190, 191]
                 refine zm 189 hE k e27 ?_
                 intro a376 hE e189 kp
                 refine zm 190 hE k e9 ?_
                 intro a377 hE e190 kp
                 replace e189 := kt kp e189
                 refine sd 191 hE k (Z06 (Z0j rfl e189 e190) (decide_eq_false (by omega))) ?_
                 intro a378 hE e191 kp
                 refine wpList_nil ?_
                 replace e0 := hE.g e0; replace e1 := hE.g e1; replace e7 := hE.g e7; replace e9 := hE.g e9; replace e23 := hE.g e23; replace e25 := hE.g e25; replace e26 := hE.g e26; replace e27 := hE.g e27
                 replace k := k.env hE
                 clear hE
                 refine Z00 ?_
                 refine Z0e e191 rfl ?_
                 refine wp_exit ?_
                 refine Z0f ?_
                 refine Z0f ?_
                 refine Z0n ?_
                 refine Z0i ?_
                 refine Z00 ?_
                 refine wp_region_lit ?_
                 have hE := Env.refl a378 [187, 188, 26]
                 refine sd 187 hE k (Z02 rfl e26) ?_
                 intro a379 hE e187 kp
                 replace e26 := kt kp e26
                 refine sd 188 hE k (Z0z rfl e187 rfl (by omega)) ?_
                 intro a380 hE e188 kp
                 replace e26 := kt kp e26
                 refine sd 26 hE k (Z01 rfl e188) ?_
                 intro a381 hE e26 kp
                 refine wpList_nil ?_
                 replace e0 := hE.g e0; replace e1 := hE.g e1; replace e7 := hE.g e7; replace e9 := hE.g e9; replace e23 := hE.g e23; replace e25 := hE.g e25
                 replace k := k.env hE
                 clear hE e27 e191
                 refine Z00 ?_
                 refine ⟨⟨k, e0, e1, e7, e9, e23, i + 1, b2, e25, e26, by omega, hb2.trans (decide_eq_decide.2 hts.symm), O⟩, ?_⟩
                 rw [e26, mi]; simp only [intOf]; omega
             · have hzI : ¬ (i : Int) < (X.length : Int) := by omega
               rw [show X.take i = X from List.take_of_length_le (by omega), show Y.take i = Y from List.take_of_length_le (by omega)] at hbb
               by_cases hEq : X = Y
               · rw [decide_eq_true hEq] at hbb; subst hbb
                 refine wp_seq ?_
                 refine wp_seq ?_
                 refine wp_region_lit ?_
                 have hE := Env.refl a340 [183, 184, 185, 186]
                 refine zm 183 hE k e26 ?_
                 intro a382 hE e183 kp
                 refine zm 184 hE k e0 ?_
                 intro a383 hE e184 kp
                 replace e183 := kt kp e183
                 refine sd 185 hE k (Z0d Tryd.underlying22 rfl e184) ?_
                 intro a384 hE e185 kp
                 replace e183 := kt kp e183
                 refine sd 186 hE k (Z06 (Z0j rfl e183 e185) (decide_eq_false (by omega))) ?_
                 intro a385 hE e186 kp
                 refine wpList_nil ?_
                 replace e0 := hE.g e0; replace e1 := hE.g e1; replace e7 := hE.g e7; replace e9 := hE.g e9; replace e23 := hE.g e23; replace e25 := hE.g e25; replace e26 := hE.g e26
                 replace k := k.env hE
                 clear hE
                 refine Z00 ?_
                 refine Z0e e186 rfl ?_
                 refine wp_exit ?_
                 refine Z0f ?_
                 refine Z0f ?_
                 refine Z0n ?_
                 refine Z00 (wp_seq ?_)
                 refine wp_region_lit ?_
                 have hE := Env.refl a385 [212, 213, 214, 215, 216, 6]
                 refine zm 212 hE k e25 ?_
                 intro a386 hE e212 kp
                 refine zm 213 hE k e7 ?_
                 intro a387 hE e213 kp
                 replace e212 := kt kp e212
                 refine zm 214 hE k e23 ?_
                 intro a388 hE e214 kp
                 replace e212 := kt kp e212; replace e213 := kt kp e213
                 refine sd 215 hE k (Z06 (Z25 (l := l) (m := textL Y) rfl e213 e214) (decide_eq_true (hinj.1 hEq))) ?_
                 intro a389 hE e215 kp
                 replace e212 := kt kp e212
                 apply Z05 216 hE k rfl rfl rfl rfl
                 case h =>
                  simp [go_sem, ↓IntWalk.iteOmega, ev e212, ev e215]
                  with_reducible rfl
                 intro a390 hE e216 kp
                 refine sd 6 hE k (Z01 rfl e216) ?_
                 intro a391 hE e6 kp
                 refine wpList_nil ?_
                 replace k := k.env hE
                 clear hE e0 e1 e7 e9 e23 e25 e26 e186
                 refine Z00 ?_
                 refine wp_ret ?_
                 refine Z0b rfl k e6 ?_
                 exact ⟨rfl, O.below⟩
               · rw [decide_eq_false hEq] at hbb; subst hbb
                 refine wp_seq ?_
                 refine wp_seq ?_
                 refine wp_region_lit ?_
                 have hE := Env.refl a340 [183, 184, 185, 186]
                 refine zm 183 hE k e26 ?_
                 intro a392 hE e183 kp
                 refine zm 184 hE k e0 ?_
                 intro a393 hE e184 kp
                 replace e183 := kt kp e183
                 refine sd 185 hE k (Z0d Tryd.underlying22 rfl e184) ?_
                 intro a394 hE e185 kp
                 replace e183 := kt kp e183
                 refine sd 186 hE k (Z06 (Z0j rfl e183 e185) (decide_eq_false (by omega))) ?_
                 intro a395 hE e186 kp
                 refine wpList_nil ?_
                 replace e0 := hE.g e0; replace e1 := hE.g e1; replace e7 := hE.g e7; replace e9 := hE.g e9; replace e23 := hE.g e23; replace e25 := hE.g e25; replace e26 := hE.g e26
                 replace k := k.env hE
                 clear hE
                 refine Z00 ?_
                 refine Z0e e186 rfl ?_
                 refine wp_exit ?_
                 refine Z0f ?_
                 refine Z0f ?_
                 refine Z0n ?_
                 refine Z00 (wp_seq ?_)
                 refine wp_region_lit ?_
                 have hE := Env.refl a395 [212, 213, 214, 215, 216, 6]
                 refine zm 212 hE k e25 ?_
                 intro a396 hE e212 kp
                 refine zm 213 hE k e7 ?_
                 intro a397 hE e213 kp
                 replace e212 := kt kp e212
                 refine zm 214 hE k e23 ?_
                 intro a398 hE e214 kp
                 replace e212 := kt kp e212; replace e213 := kt kp e213
                 refine sd 215 hE k (Z06 (Z25 (l := l) (m := textL Y) rfl e213 e214) (decide_eq_false (fun h => hEq (hinj.2 h)))) ?_
                 intro a399 hE e215 kp
                 replace e212 := kt kp e212
                 apply Z05 216 hE k rfl rfl rfl rfl
                 case h =>
                  simp [go_sem, ↓IntWalk.iteOmega, ev e212, ev e215]
                  with_reducible rfl
                 intro a400 hE e216 kp
                 refine sd 6 hE k (Z01 rfl e216) ?_
                 intro a401 hE e6 kp
                 refine wpList_nil ?_
                 replace k := k.env hE
                 clear hE e0 e1 e7 e9 e23 e25 e26 e186
                 refine Z00 ?_
                 refine wp_ret ?_
                 refine Z0b rfl k e6 ?_
                 exact ⟨rfl, O.below⟩
theorem gridBack_walk (w : World) (v0 v1 v2 : Value) (h0 : Arg Tryd.prog w 22 v0) (h1 : Arg Tryd.prog w 22 v1) (h2 : Arg Tryd.prog w 3 v2) (hv : VarW w) :
 Calls Tryd.prog 5 #[v0, v1, v2] w fun e w' => e = .returned (.bool true) ∧ Below w.heap.size w w' := by
 obtain ⟨A, ca, X, rfl, _, hX⟩ := Z6q h0
 obtain ⟨A2, cb, Y, rfl, _, hY⟩ := Z6q h1
 obtain ⟨x, rfl, _⟩ := arg_int Tryd.underlying3 h2
 exact Z36 x w hX hY hv
section
open Go.ChangeShapes Go.WideShapes Go.ChangeAt
theorem Arg.mk_ {P : Program} {w : World} {t : TypeId} {v : Value} {H : Type} {enc : TypeId × Value → H} {d : DataW H} {p : List MemPlace} {r : Reach} {base : Nat} (h : DataW.Trod enc P w 0 (fun _ => true) true t v d p) (hv : Value.okWide P w r base t v) : Arg P w t v := by
  obtain ⟨fuel, hf⟩ := h
  exact ⟨⟨H, enc, fuel, _, hf⟩, r, base, hv⟩
end
end Go.Proofs.YtgdlnfljfiageaaDoor
