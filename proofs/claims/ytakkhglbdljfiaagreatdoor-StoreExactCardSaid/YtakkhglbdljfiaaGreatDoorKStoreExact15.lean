/- store: DeleteFunc, Sweep, Keep (printed by XStD.gen.py). -/
import Derived.Test.YtakkhglbdljfiaaGreatDoorKStoreExact14
import Derived.Shelf.SlIterI.Nil
import Derived.Shelf.SortM.Plain
import Derived.Shelf.SortM.SortNone
import Derived.Ground.GgzProg
import Derived.Ground.SlgmProg
import Derived.Test.YtakkhglbdljfiaaGreatDoorProg
import Derived.Test.YtakkhglbdljfiaaGreatDoorKStoreExact01
import Derived.Test.YtakkhglbdljfiaaGreatDoorKStoreExact04
namespace Go.Proofs.YtakkhglbdljfiaaGreatDoor
attribute [local simp] BigFrame.eval_const BigFrame.eval_global BigFrame.eval_func
set_option linter.unusedVariables false
set_option linter.unusedSimpArgs false
open Go.RowKit Go.Maps

theorem x_delS {o : Oper} {ρ : Operand → Value} {mo x : Operand} {t k : TypeId} {p y v : Value} {w w' : World} (ho : o.op = .call { callee := .builtin .delete, args := #[mo, x], argTypes := #[t, k] }) (hm : ρ mo = p) (hx : ρ x = y) (h : (Builtin.delete_ #[t, k] o.type #[p, y]).run Tryz.prog w = .ok v w') : (execOp ρ o).run Tryz.prog w = .ok (.value v) w' := by
 unfold execOp
 simp only [ho, resolve, invoke, builtin, Sem.run_bind, Sem.run_pure, Result.andThen_ok, List.map_toArray, List.map_cons, List.map_nil, hm, hx, h]
theorem x_call2S {o : Oper} {ρ : Operand → Value} {x y z : Operand} {t t' : TypeId} {f : FuncId} {lb : Array Value} {u v : Value} {w : World} (ho : o.op = .call { callee := .value x, args := #[y, z], argTypes := #[t, t'] }) (hx : ρ x = .func (.func f) #[] lb) (hy : ρ y = u) (hz : ρ z = v) (h : (callFunc f (#[u, v] ++ lb)).run Tryz.prog w = .ok (.enter f (#[u, v] ++ lb)) w) : (execOp ρ o).run Tryz.prog w = .ok (.enter f (#[u, v] ++ lb)) w := by
 unfold execOp
 simp only [ho, resolve, hx, Sem.run_bind, Sem.run_pure, Result.andThen_ok, List.map_toArray, List.map_cons, List.map_nil, hy, hz]
 simpa [invoke, go_sem] using h
theorem VR.del {w : World} {b r n cnt : Nat} {m : Int → Option Value} {left : Int → Bool} (h : VR w b r n m left cnt) {t e : TypeId} (ht : Tryz.prog.underlying t = some (.map 3 e)) {c : Int} (hc : wfV c) (hl : left c = false) (ty : TypeId) :
 ∃ w' cnt', (Builtin.delete_ #[t, 3] ty #[.map (some b), .int .i64 c]).run Tryz.prog w = .ok (.tuple #[]) w' ∧ VR w' b r n (delV m c) left cnt' ∧ cnt' ≤ cnt ∧ Chg [b] w w' := by
 obtain ⟨D, l, h1, h2, h3⟩ := h
 obtain ⟨w', cnt', hrun, r1, r2, r3⟩ := h1.drop Z1s ht (Z3j hc) ty
 refine ⟨w', cnt', hrun, ⟨_, _, r1, h2.del c, fun i hi => ?_⟩, r2, Chg.of_grown r3.grown⟩
 rw [h3 i hi]
 by_cases e : i = c
 · subst e
   rw [WideAt.sameKey_self (keyV i), hl]
   rfl
 · rw [sameKey_ne (Z44 e)]
   simp
/-- A map, what is to go of what has come struck. -/
def curM (m : Int → Option Value) (pd : Int → Bool) (left : Int → Bool) : Int → Option Value := fun i => if left i = false ∧ pd i = true then none else m i
def restM (m : Int → Option Value) (pd : Int → Bool) : Int → Option Value := fun i => if pd i = true then none else m i
theorem curM_start (m : Int → Option Value) (pd : Int → Bool) : curM m pd (fun i => (m i).isSome) = m := by
 funext i
 unfold curM
 split
 · rename_i h
   cases hm : m i with
   | none => rfl
   | some v => have h1 : (m i).isSome = false := h.1; rw [hm] at h1; cases h1
 · rfl
theorem curM_stays {m : Int → Option Value} {pd left : Int → Bool} {x : Int} (h : pd x = false) : curM m pd (fun i => left i && !decide (i = x)) = curM m pd left := by
 funext i
 unfold curM
 by_cases e : i = x
 · subst e; simp [h]
 · simp [e]
theorem curM_goes {m : Int → Option Value} {pd left : Int → Bool} {x : Int} (h : pd x = true) : delV (curM m pd left) x = curM m pd (fun i => left i && !decide (i = x)) := by
 funext i
 unfold delV curM
 by_cases e : i = x
 · subst e; simp [h]
 · simp [e]
theorem StOk.only {P : Nat} {K : Int → Bool} {F : Int → Option Nd} {vs : List Value} {N : List Nd} {m : Int → Option Value} (s : StOk P K F vs N m) (pd : Int → Bool) {m' : Int → Option Value} (hm' : ∀ c : Int, (1 ≤ c ∧ c < P) → m' c = restM m pd c) (hm2 : ∀ c : Int, ¬ (1 ≤ c ∧ c < P) → m' c = none) : StOk P K (fun i => if pd i = true then none else F i) vs N m' := by
 have hF : ∀ i nd, (if pd i = true then none else F i) = some nd → pd i = false ∧ F i = some nd := fun i nd e => by
  cases hp : pd i with
  | true => rw [hp] at e; simp at e
  | false => rw [hp] at e; exact ⟨rfl, e⟩
 refine ⟨s.le, s.kr, fun i nd e => s.fr i nd (hF i nd e).2, fun i nd e => s.fg i nd (hF i nd e).2, fun i e => ?_, fun i nd e => ?_⟩
 · by_cases hr : 1 ≤ i ∧ i < P
   · rw [hm' i hr]
     unfold restM
     split
     · rfl
     · rename_i h
       rw [if_neg h] at e
       exact s.fm i e
   · exact hm2 i hr
 · obtain ⟨h1, h2⟩ := hF i nd e
   obtain ⟨j, B, cap, a1, a2, a3⟩ := s.fs i nd h2
   refine ⟨j, B, cap, a1, a2, ?_⟩
   rw [hm' i (s.fr i nd h2)]
   unfold restM
   rw [h1, if_neg (by decide)]
   exact a3
theorem StOk.out {P : Nat} {K : Int → Bool} {F : Int → Option Nd} {vs : List Value} {N : List Nd} {m : Int → Option Value} (s : StOk P K F vs N m) {c : Int} (h : ¬ (1 ≤ c ∧ c < P)) : F c = none ∧ m c = none := by
 have hF : F c = none := by
  cases hF : F c with
  | none => rfl
  | some nd => exact absurd (s.fr c nd hF) h
 exact ⟨hF, s.fm c hF⟩
theorem StOk.kept {P : Nat} {K : Int → Bool} {F : Int → Option Nd} {vs : List Value} {N : List Nd} {m : Int → Option Value} (s : StOk P K F vs N m) {K' : Int → Bool} (h : ∀ c : Int, K' c = true → 1 ≤ c ∧ c < P) : StOk P K' F vs N m := ⟨s.le, h, s.fr, s.fg, s.fm, s.fs⟩
/-- Which pages of a row can be. -/
def inP (P : Nat) (xs : List Int) : Int → Bool := fun c => decide (c ∈ xs ∧ 1 ≤ c ∧ c < (P : Nat))
theorem inP_no {P : Nat} {xs : List Int} {j : Nat} {x : Int} (hx : xs[j]? = some x) (h : ¬ (1 ≤ x ∧ x < (P : Nat))) : inP P (xs.take (j + 1)) = inP P (xs.take j) := by
 funext c
 unfold inP
 rw [List.take_add_one, hx]
 refine decide_eq_decide.2 ?_
 simp only [List.mem_append, Option.mem_toList, Option.some.injEq]
 constructor
 · rintro ⟨h1 | rfl, h2⟩
   · exact ⟨h1, h2⟩
   · exact absurd h2 h
 · rintro ⟨h1, h2⟩
   exact ⟨.inl h1, h2⟩
theorem inP_yes {P : Nat} {xs : List Int} {j : Nat} {x : Int} (hx : xs[j]? = some x) (h : 1 ≤ x ∧ x < (P : Nat)) : inP P (xs.take (j + 1)) = fun c => inP P (xs.take j) c || decide (c = x) := by
 funext c
 unfold inP
 rw [List.take_add_one, hx, Bool.eq_iff_iff]
 simp only [List.mem_append, Option.mem_toList, Option.some.injEq, Bool.or_eq_true, decide_eq_true_eq]
 constructor
 · rintro ⟨h1 | rfl, h2⟩
   · exact .inl ⟨h1, h2⟩
   · exact .inr rfl
 · rintro (⟨h1, h2⟩ | rfl)
   · exact ⟨.inl h1, h2⟩
   · exact ⟨.inr rfl, h⟩
theorem restM_goes {m : Int → Option Value} {P : Nat} {xs : List Int} {j : Nat} {x : Int} (hx : xs[j]? = some x) (h : 1 ≤ x ∧ x < (P : Nat)) : delV (restM m (inP P (xs.take j))) x = restM m (inP P (xs.take (j + 1))) := by
 rw [inP_yes hx h]
 funext c
 unfold delV restM
 by_cases e : c = x
 · subst e; simp
 · simp [e]

set_option maxRecDepth 100000 in
set_option maxHeartbeats 4000000 in
theorem ssw_any {bx ca : Nat} {A : Option Addr} {xs : List Int} (x lv : Int) (Bl : Option Addr) (ll cl : Nat) (W0 : World) (hb : W0.cell? ⟨bx, 0, none⟩ = some (.slice A xs.length ca)) (hrow : Row1 W0 A (Value.int .i64) xs) (hn : xs.length ≤ 1000000) : Calls Tryz.prog 53 #[.int .i64 x, .agg #[.int .i64 lv, .slice Bl ll cl], .pointer (some ⟨bx, 0, none⟩)] W0 fun e w' => e = .returned (.bool (!decide (x ∈ xs))) ∧ Ext W0 w' := by
 have O := OwnT.start W0
 obtain ⟨q, hq⟩ : ∃ b, decide (x ∈ xs) = b := ⟨_, rfl⟩
 refine Z0c Tryz.func53 rfl 10 rfl (by rfl) ?_
 intro a1 k hargs; have e0 : a1.eval (.tmp 0) = .int .i64 x := hargs 0 _ rfl
 have e1 : a1.eval (.tmp 1) = .agg #[.int .i64 lv, .slice Bl ll cl] := hargs 1 _ rfl
 have e2 : a1.eval (.tmp 2) = .pointer (some ⟨bx, 0, none⟩) := hargs 2 _ rfl
 clear hargs; refine wp_seq ?_; refine wp_region_lit ?_
 have hE := Env.refl a1 [4, 5]; refine Z0v O (cs := #[.int .i64 lv, .slice Bl ll cl]) (t := 47) 4 hE k rfl (by rfl) (by rfl) rfl (by simp [go_sem, ↓IntWalk.iteOmega, ev (hE.g e1)]) ?_
 clear O; intro lb a2 w3 O hE e4 kp; refine sd 5 hE k (Z01 rfl rfl) ?_; intro a4 hE e5 kp; refine wpList_nil ?_; replace e0 := hE.g e0; replace e2 := hE.g e2; replace k := k.env hE; clear hE e1 e5; refine Z00 (wp_seq ?_); refine wp_region_lit ?_
 have hE := Env.refl a4 [6, 7, 8, 9, 5]; apply Z03 6 hE k rfl rfl rfl rfl; case h =>
  simp [go_sem, ↓IntWalk.iteOmega, ev (hE.g e2), cellB O.below hb]
  with_reducible rfl
 intro a5 hE e6 kp; refine zm 7 hE k e0 ?_; intro a6 hE e7 kp; replace e6 := kt kp e6; apply Z06 8 hE k rfl (by rfl) (by rfl) rfl
 case h =>
  simp [go_sem, ↓IntWalk.iteOmega, ev e6, ev e7]
  with_reducible exact ⟨rfl, rfl⟩
 case hc => exact Z3l x _ (hrow.below O.below) (by omega)
 rintro e w8 ⟨he, RE⟩
 replace O := OwnT.ext O RE; refine ⟨_, he.trans (congrArg (fun b => Ending.returned (.bool b)) hq), ?_⟩
 intro a7 hE e8 kp; refine sd 9 hE k (Z15 rfl e8) ?_; intro a9 hE e9 kp; refine sd 5 hE k (Z01 rfl e9) ?_; intro a10 hE e5 kp; refine wpList_nil ?_; replace k := k.env hE; clear hE e0 e2; refine Z00 ?_; refine wp_ret ?_
 refine Z0k rfl k e5 ?_
 exact ⟨by rw [hq], O.below⟩
set_option maxRecDepth 100000 in
set_option maxHeartbeats 4000000 in
theorem sdel_any {H : Nat} {A0 : World} {R : List Thing} {fb bx ca : Nat} {A : Option Addr} {xs : List Int} {m : Int → Option Value} (w : World) (O : OwnT H A0 (tMap fb 512 m :: tBlk bx 40 #[.slice A xs.length ca] :: R) w) (hrow : ∀ W, OwnT H A0 (tBlk bx 40 #[.slice A xs.length ca] :: R) W → Row1 W A (Value.int .i64) xs) (hn : xs.length ≤ 1000000) (hm : ∀ i c, m i = some c → ∃ (lv : Int) (Bl : Option Addr) (ll cl : Nat), c = .agg #[.int .i64 lv, .slice Bl ll cl]) : Calls Tryz.prog 52 #[.map (some fb), .func (.func 53) #[] #[.pointer (some ⟨bx, 0, none⟩)]] w fun e w' => e = .returned (.tuple #[]) ∧ OwnT H A0 (tMap fb 512 (restM m fun i => !decide (i ∈ xs)) :: tBlk bx 40 #[.slice A xs.length ca] :: R) w' := by
 obtain ⟨pd, hpd⟩ : ∃ f : Int → Bool, (fun i => !decide (i ∈ xs)) = f := ⟨_, rfl⟩
 have hpx : ∀ x, (!decide (x ∈ xs)) = pd x := fun x => by rw [← hpd]
 rw [hpd]
 refine Z0c Tryz.func52 rfl 19 rfl (by rfl) ?_
 intro a1 k hargs; have e0 : a1.eval (.tmp 0) = .map (some fb) := hargs 0 _ rfl
 have e1 : a1.eval (.tmp 1) = .func (.func 53) #[] #[.pointer (some ⟨bx, 0, none⟩)] := hargs 1 _ rfl
 clear hargs; refine wp_seq ?_; refine wp_region_lit ?_
 have hE := Env.refl a1 [6, 7]; refine zm 6 hE k e0 ?_; intro a2 hE e6 kp; refine Z2l (o := ⟨some 7, _, _, _, _, _⟩) rfl (.tmp 6) 100 47 rfl Tryz.underlying100 e6 (OwnT.get O 0 rfl) ?_
 intro w9 cnt0 hr0 hE0 hs0; replace O := OwnT.rangeOn O hr0 hE0
 clear hr0 hE0 hs0; generalize w.heap.size = r at O ⊢
 refine put_F 7 hE k (by rfl) (by rfl) ?_
 intro a3 hE e7 kp; refine wpList_nil ?_; replace e0 := hE.g e0; replace e1 := hE.g e1; replace k := k.env hE; clear hE; refine Z00 ?_; refine wp_block ?_; refine wp_loop (fun a w => Fr 19 a ∧ a.eval (.tmp 0) = .map (some fb) ∧ a.eval (.tmp 1) = .func (.func 53) #[] #[.pointer (some ⟨bx, 0, none⟩)] ∧ a.eval (.tmp 7) = .pointer (some ⟨r, 0, none⟩) ∧ ∃ (left : Int → Bool) (cnt : Nat), OwnT H A0 ((tVR fb r 512 (curM m pd left) left cnt) :: (tBlk bx 40 #[.slice A xs.length ca]) :: R) w) (fun a w => w.rangeLeft fb r) ?_ ?_
 · exact ⟨k, e0, e1, e7, (fun i => (m i).isSome), cnt0, (by rw [curM_start]; exact O)⟩
 intro a4 w5 hI; clear k e0 e1 e7; obtain ⟨k, e0, e1, e7, h_⟩ := hI
 clear O; obtain ⟨left, cnt, O⟩ := h_
 have hcnt := VR.left_eq (OwnT.get O 0 rfl)

 rcases VR.next (OwnT.get O 0 rfl) _ with ⟨hl, hrun⟩ | ⟨x, c, w9, cnt9, hwx, hlx, hmx, hr9, hlt9, hC9, hs9, hen, hrun⟩
 · replace O := OwnT.rangeEnd O
   have O3 : OwnT H A0 (tMap fb 512 (restM m pd) :: tBlk bx 40 #[.slice A xs.length ca] :: R) w5 := O.call (F := []) (Chg.refl [] _) (by simp) (tMap fb 512 (restM m pd)) (VM.congr (OwnT.get O 0 rfl) (fun i hi => by unfold curM restM; rw [hl i hi]; simp)) (fun i hi => .inl hi)
   clear O; have O := O3
   refine wp_seq ?_; refine wp_region_lit ?_
   have hE := Env.refl a4 [8, 9]; apply Z2a 8 hE k rfl (by rfl) (by rfl) rfl
   case h =>
    exact x_next rfl (hE.g e7) hrun
   intro a6 hE e8 kp; apply Z03 9 hE k rfl rfl rfl rfl; case h =>
    simp [go_sem, ↓IntWalk.iteOmega, ev e8]
    with_reducible rfl
   intro a7 hE e9 kp; refine wpList_nil ?_; replace e0 := hE.g e0; replace e1 := hE.g e1; replace e7 := hE.g e7; replace k := k.env hE; clear hE; refine Z00 (wp_seq ?_); refine Z07 e9 rfl ?_
   refine wp_exit ?_
   refine Z0p ?_
   refine Z0p ?_
   refine Z11 ?_
   refine Z6b rfl k ?_
   exact ⟨rfl, O⟩
 · skip
   replace O := OwnT.rangeNext O hr9 hC9
   have hmx0 : m x = some c := by
    unfold curM at hmx
    split at hmx
    · cases hmx
    · exact hmx
   obtain ⟨lv, Bl, ll, cl, rfl⟩ := hm x c hmx0

   refine wp_seq ?_; refine wp_region_lit ?_
   have hE := Env.refl a4 [8, 9]; apply Z2a 8 hE k rfl (by rfl) (by rfl) rfl
   case h =>
    exact x_next rfl (hE.g e7) hrun
   intro a8 hE e8 kp; apply Z03 9 hE k rfl rfl rfl rfl; case h =>
    simp [go_sem, ↓IntWalk.iteOmega, ev e8]
    with_reducible rfl
   intro a9 hE e9 kp; refine wpList_nil ?_; replace e0 := hE.g e0; replace e1 := hE.g e1; replace e7 := hE.g e7; replace k := k.env hE; clear hE; refine Z00 (wp_seq ?_); refine Z0h e9 rfl ?_
   refine wp_skip ?_; refine Z00 ?_; refine wp_block ?_; refine wp_seq ?_; refine wp_region_lit ?_
   have hE := Env.refl a9 [10, 11, 12, 5, 4]; refine sd 10 hE k (x_entry rfl (hE.g e7) hen) ?_; intro a10 hE e10 kp; apply Z03 11 hE k rfl rfl rfl rfl; case h =>
    simp [go_sem, ↓IntWalk.iteOmega, ev e10]
    with_reducible rfl
   intro a11 hE e11 kp; replace e10 := kt kp e10; apply Z03 12 hE k rfl rfl rfl rfl; case h =>
    simp [go_sem, ↓IntWalk.iteOmega, ev e10]
    with_reducible rfl
   intro a12 hE e12 kp; replace e11 := kt kp e11; refine Z0v O (cs := #[.int .i64 0, .slice none 0 0]) (t := 47) 5 hE k rfl (by rfl) (by rfl) rfl (by simp [go_sem, ↓IntWalk.iteOmega]) ?_
   clear O; intro gl a13 w14 O hE e5 kp; replace e11 := kt kp e11; replace e12 := kt kp e12; refine sd 4 hE k (Z01 rfl e11) ?_; intro a15 hE e4 kp; replace e12 := kt kp e12; replace e5 := kt kp e5; refine Z1b O 0 0 hE e5 e12 ?_
   clear O; intro w16 O; replace O : OwnT _ _ ((tBlk gl 47 #[.int .i64 lv, .slice Bl ll cl]) :: _) w16 := O
   refine wpList_nil ?_; replace e0 := hE.g e0; replace e1 := hE.g e1; replace e7 := hE.g e7; replace k := k.env hE; clear hE e9 e12; refine Z00 ?_; obtain ⟨q, hq⟩ : ∃ b, pd x = b := ⟨_, rfl⟩
   have Ob := OwnT.pickR (L := [_, _, _]) (R := R) O [2] (by decide)
   refine wp_seq ?_; refine wp_region_lit ?_
   have hE := Env.refl a15 [13, 14, 15, 16]; refine zm 13 hE k e1 ?_; intro a17 hE e13 kp; refine zm 14 hE k e4 ?_; intro a18 hE e14 kp; replace e13 := kt kp e13; refine sd 15 hE k (Z1n O 0 rfl rfl (hE.g e5) [.int .i64 lv, .slice Bl ll cl] rfl Tryz.underlying47 rfl (by kernel_rfl)) ?_; intro a19 hE e15 kp; replace e13 := kt kp e13; replace e14 := kt kp e14; apply Z06 16 hE k rfl (by rfl) (by rfl) rfl
   case h =>
    exact x_call2S rfl e13 e14 e15 (Go.Proofs.enters_of Tryz.func53 (by kernel_rfl) rfl _ _)
   case hc => exact ssw_any x lv Bl ll cl _ ((OwnT.blk O 2 rfl).cell 0) (hrow _ Ob) hn
   rintro e w21 ⟨he, RE⟩
   rw [hpx, hq] at he
   replace O := OwnT.ext O RE; refine ⟨_, he, ?_⟩
   intro a20 hE e16 kp; refine wpList_nil ?_; replace e0 := hE.g e0; replace e1 := hE.g e1; replace e4 := hE.g e4; replace e7 := hE.g e7; replace k := k.env hE; clear hE e5; refine Z00 ?_; cases q with
   | false =>
    refine Z07 e16 (rfl) ?_
    clear e4 e16; refine wp_skip ?_; refine Z0f ?_; refine Z00 ?_; replace O := O.tail
    rw [← curM_stays (left := left) hq] at O
    refine ⟨⟨k, e0, e1, e7, _, cnt9, O⟩, ?_⟩
    rw [hcnt, VR.left_eq (OwnT.get O 0 rfl)]; exact hlt9
   | true =>
    refine Z0h e16 (rfl) ?_
    clear e16; obtain ⟨w8, cnt8, hrun8, hV8, hlt8, hC8⟩ := VR.del (OwnT.get O 1 rfl) Tryz.underlying100 hwx (c := x) (by simp) _
    refine wp_region_lit ?_
    have hE := Env.refl a20 [17, 18]; refine zm 17 hE k e0 ?_; intro a22 hE e17 kp; refine zm 18 hE k e4 ?_; intro a23 hE e18 kp; replace e17 := kt kp e17; refine Z4l (w' := w8) rfl rfl (by exact x_delS rfl e17 e18 hrun8) ?_
    replace O := OwnT.push (L := _ :: _ :: _ :: R) 1 rfl (OwnT.call (OwnT.pull O 1 rfl) hC8 (fun i hi => by simp at hi; subst hi; simp [tVR]) (tVR fb r 512 (delV (curM m pd left) x) (fun i => left i && !decide (i = x)) cnt8) hV8 (fun i hi => .inl hi))
    rw [curM_goes hq] at O
    clear hV8 hC8 hrun8; refine wpList_nil ?_; replace e0 := hE.g e0; replace e1 := hE.g e1; replace e7 := hE.g e7; replace k := k.env hE; clear hE e4 e17 e18; refine Z0f ?_; refine Z00 ?_; replace O := O.tail
    refine ⟨⟨k, e0, e1, e7, _, cnt8, O⟩, ?_⟩
    rw [hcnt, VR.left_eq (OwnT.get O 0 rfl)]; omega
set_option maxRecDepth 100000 in
set_option maxHeartbeats 4000000 in
theorem Z3y {H : Nat} {A0 : World} {R : List Thing} {sb p kb fb : Nat} {h : Hd} {at_ : Int} {K : Int → Bool} {F : Int → Option Nd} {m : Int → Option Value} {vs : List Value} {N : List Nd} {P : Nat} {A : Option Addr} {ca : Nat} {xs : List Int} (w : World) (O : OwnT H A0 (stL sb p h at_ kb fb K m vs N R) w) (ok : StOk P K F vs N m) (hrow : ∀ W, OwnT H A0 R W → Row1 W A (Value.int .i64) xs) (hn : xs.length ≤ 1000000) : Calls Tryz.prog 16 #[.pointer (some ⟨sb, 0, none⟩), .slice A xs.length ca] w fun e w' => ∃ m', e = .returned (.tuple #[]) ∧ OwnT H A0 (stL sb p h at_ kb fb K m' vs N R) w' ∧ StOk P K (fun i => if (!decide (i ∈ xs)) = true then none else F i) vs N m' := by
 refine Z0c Tryz.func16 rfl 12 rfl (by rfl) ?_
 intro a1 k hargs; have e0 : a1.eval (.tmp 0) = .pointer (some ⟨sb, 0, none⟩) := hargs 0 _ rfl
 have e1 : a1.eval (.tmp 1) = .slice A xs.length ca := hargs 1 _ rfl
 clear hargs; refine wp_seq ?_; refine wp_region_lit ?_
 have hE := Env.refl a1 [3]; refine Z0v O (cs := #[.slice A xs.length ca]) (t := 40) 3 hE k rfl (by rfl) (by rfl) rfl (by simp [go_sem, ↓IntWalk.iteOmega, ev (hE.g e1)]) ?_
 clear O; intro bx a2 w3 O hE e3 kp; refine wpList_nil ?_; replace e0 := hE.g e0; replace k := k.env hE; clear hE e1; refine Z00 (wp_seq ?_); refine wp_region_lit ?_
 have hE := Env.refl a2 [4, 5]; refine zm 4 hE k e0 ?_; intro a4 hE e4 kp; apply Z03 5 hE k rfl rfl rfl rfl; case h =>
  simp [go_sem, ↓IntWalk.iteOmega, ev e4]
  with_reducible rfl
 intro a5 hE e5 kp; refine wpList_nil ?_; replace e0 := hE.g e0; replace e3 := hE.g e3; replace k := k.env hE; clear hE; refine Z00 ?_; refine Z0h e5 rfl ?_
 refine wp_region_lit ?_
 have hE := Env.refl a5 [6, 7, 8, 9, 10, 11]; refine zm 6 hE k e0 ?_; intro a6 hE e6 kp; refine sd 7 hE k (Z0d rfl e6) ?_; intro a7 hE e7 kp; apply Z03 8 hE k rfl rfl rfl rfl; case h =>
  simp [go_sem, ↓IntWalk.iteOmega, ev e7]
  with_reducible rfl
 intro a8 hE e8 kp; refine sd 9 hE k (Z0a O 1 rfl rfl e8 rfl Tryz.underlying100 rfl) ?_; intro a9 hE e9 kp; apply Z03 10 hE k rfl rfl rfl rfl; case h =>
  simp [go_sem, ↓IntWalk.iteOmega, ev (hE.g e3)]
  with_reducible rfl
 intro a10 hE e10 kp; replace e9 := kt kp e9; apply Z06 11 hE k rfl (by rfl) (by rfl) rfl
 case h =>
  simp [go_sem, ↓IntWalk.iteOmega, ev e9, ev e10]
  with_reducible exact ⟨rfl, rfl⟩
 case hc => exact sdel_any (R := tBlk sb 102 #[.pointer (some ⟨p, 0, none⟩), .int .u64 h.g, .int .i64 h.r, .int .i64 h.a, .int .i64 h.b, .int .i64 h.c, .int .i64 at_, .map (some kb), .map (some fb)] :: tMap kb 512 (keptV K) :: tPool vs N :: R) _ (OwnT.pickR (L := [_, _, _, _, _]) (R := R) O [3, 0, 1, 2, 4] (by decide)) (fun W OW => hrow W (OwnT.pickR (L := [_, _, _, _]) (R := R) OW [] (by decide))) hn (fun i c hc => by cases hF : F i with | none => rw [ok.fm i hF] at hc; cases hc | some nd => obtain ⟨j, B', cap', -, -, e⟩ := ok.fs i nd hF; rw [e] at hc; injection hc with hc; exact ⟨_, _, _, _, hc.symm⟩)
 clear O; rintro e w12 ⟨rfl, O⟩
 refine ⟨_, rfl, ?_⟩
 intro a11 hE e11 kp; refine wpList_nil ?_; replace k := k.env hE; clear hE e0 e3 e5 e11; have O2 := OwnT.pickR (L := [_, _, _, _, _]) (R := R) O [2, 3, 0, 4] (by decide)
 refine Z6b rfl k ?_
 exact ⟨_, rfl, O2, ok.only (fun i => !decide (i ∈ xs)) (fun c _ => rfl) (fun c hc => by unfold restM; rw [(ok.out hc).2]; split <;> rfl)⟩
set_option maxRecDepth 100000 in
set_option maxHeartbeats 4000000 in
theorem Z51 {H : Nat} {A0 : World} {R : List Thing} {sb p kb fb mb n cap bm : Nat} {B : Option Addr} {S : List Sec} {L : Int → Option Sec} {h : Hd} {at_ : Int} {K : Int → Bool} {m : Int → Option Value} {F : Int → Option Nd} {vs : List Value} {N : List Nd} {A : Option Addr} {ca : Nat} {xs : List Int} (w : World) (O : OwnT H A0 (stL sb p h at_ kb fb K m vs N (tDisc p mb B n cap bm S L :: R)) w) (ok : StOk (pgs n) K F vs N m) (hrow : ∀ W, OwnT H A0 R W → Row1 W A (Value.int .i64) xs) (hn : xs.length ≤ 1000000) : Calls Tryz.prog 23 #[.pointer (some ⟨sb, 0, none⟩), .slice A xs.length ca] w fun e w' => ∃ m', e = .returned (.tuple #[]) ∧ OwnT H A0 (stL sb p h at_ kb fb ((inP (pgs n) xs)) m' vs N (tDisc p mb B n cap bm S L :: R)) w' ∧ StOk (pgs n) (inP (pgs n) xs) (fun i => if inP (pgs n) xs i = true then none else F i) vs N m' := by
 have hP := ok.le
 refine Z0c Tryz.func23 rfl 32 rfl (by rfl) ?_
 intro a1 k hargs; have e0 : a1.eval (.tmp 0) = .pointer (some ⟨sb, 0, none⟩) := hargs 0 _ rfl
 have e1 : a1.eval (.tmp 1) = .slice A xs.length ca := hargs 1 _ rfl
 clear hargs; obtain ⟨w8, hcl, hV, hC⟩ := Z7p (OwnT.get O 1 rfl) 99 4 _ Tryz.underlying99
 refine wp_seq ?_; refine wp_seq ?_; refine wp_region_lit ?_
 have hE := Env.refl a1 [6, 7]; refine zm 6 hE k e0 ?_; intro a2 hE e6 kp; apply Z03 7 hE k rfl rfl rfl rfl; case h =>
  simp [go_sem, ↓IntWalk.iteOmega, ev e6]
  with_reducible rfl
 intro a3 hE e7 kp; refine wpList_nil ?_; replace e0 := hE.g e0; replace e1 := hE.g e1; replace k := k.env hE; clear hE; refine Z00 ?_; refine Z07 e7 rfl ?_
 refine wp_skip ?_; refine Z00 (wp_seq ?_); refine wp_region_lit ?_
 have hE := Env.refl a3 [8, 9, 10, 11]; refine zm 8 hE k e0 ?_; intro a4 hE e8 kp; refine sd 9 hE k (Z0d rfl e8) ?_; intro a5 hE e9 kp; apply Z03 10 hE k rfl rfl rfl rfl; case h =>
  simp [go_sem, ↓IntWalk.iteOmega, ev e9]
  with_reducible rfl
 intro a6 hE e10 kp; refine sd 11 hE k (Z0a O 0 rfl rfl e10 rfl Tryz.underlying99 rfl) ?_; intro a7 hE e11 kp; refine Z4l (w' := w8) rfl rfl (by exact x_clear rfl e11 hcl) ?_
 replace O := OwnT.push (L := _ :: _ :: _ :: _ :: _ :: R) 1 rfl (OwnT.mapSet (OwnT.pull O 1 rfl) (VM.mono hV (Nat.zero_le 512)) hC)
 clear hV hC hcl; rw [← keptV_none] at O
 refine wpList_nil ?_; replace e0 := hE.g e0; replace e1 := hE.g e1; replace k := k.env hE; clear hE e7 e11; refine Z00 (wp_seq ?_); refine wp_region_lit ?_
 have hE := Env.refl a7 [12, 13, 14]; refine zm 12 hE k e1 ?_; intro a8 hE e12 kp; refine sd 13 hE k (Z1w Tryz.underlying40 rfl e12) ?_; intro a9 hE e13 kp; replace e12 := kt kp e12; refine sd 14 hE k (Z02 rfl rfl) ?_; intro a10 hE e14 kp; replace e12 := kt kp e12; replace e13 := kt kp e13; refine wpList_nil ?_; replace e0 := hE.g e0; replace k := k.env hE; clear hE e1; refine Z00 ?_; refine wp_block ?_; have hst : inP (pgs n) (xs.take 0) = fun _ => false := by funext c; unfold inP; simp
 have hst2 : restM m (inP (pgs n) (xs.take 0)) = m := by rw [hst]; rfl
 rw [← hst, ← hst2] at O
 refine wp_loop (fun a w => Fr 32 a ∧ a.eval (.tmp 0) = .pointer (some ⟨sb, 0, none⟩) ∧ a.eval (.tmp 12) = .slice A xs.length ca ∧ a.eval (.tmp 13) = .int .i64 ↑xs.length ∧ ∃ (j : Nat), a.eval (.tmp 14) = .int .i64 ↑j ∧ j ≤ xs.length ∧ OwnT H A0 ((tBlk sb 102 #[.pointer (some ⟨p, 0, none⟩), .int .u64 h.g, .int .i64 h.r, .int .i64 h.a, .int .i64 h.b, .int .i64 h.c, .int .i64 at_, .map (some kb), .map (some fb)]) :: (tMap kb 512 (keptV (inP (pgs n) (xs.take j)))) :: (tMap fb 512 (restM m (inP (pgs n) (xs.take j)))) :: (tPool vs N) :: (tDisc p mb B n cap bm S L) :: R) w) (fun a w => xs.length - (intOf (a.eval (.tmp 14))).toNat) ?_ ?_
 · exact ⟨k, e0, e12, e13, 0, e14, Nat.zero_le _, O⟩
 intro a11 w12 hI; clear k e0 e12 e13; obtain ⟨k, e0, e12, e13, h_⟩ := hI
 clear O e14; obtain ⟨j, e14, hj, O⟩ := h_
 have mj := e14

 by_cases hlt : j < xs.length
 rotate_left
 · have hjx : xs.take j = xs := List.take_of_length_le (by omega)
   rw [hjx] at O
   refine wp_seq ?_; refine wp_region_lit ?_
   have hE := Env.refl a11 [15]; refine sd 15 hE k (Z08 (Z0z rfl (hE.g e14) (hE.g e13)) (decide_eq_false (by omega))) ?_
   intro a13 hE e15 kp; refine wpList_nil ?_; replace e0 := hE.g e0; replace e12 := hE.g e12; replace e13 := hE.g e13; replace e14 := hE.g e14; replace k := k.env hE; clear hE; refine Z00 (wp_seq ?_); refine Z07 e15 rfl ?_
   refine wp_exit ?_
   refine Z0p ?_
   refine Z0p ?_
   refine Z11 ?_
   refine Z6b rfl k ?_
   exact ⟨_, rfl, O, (ok.only (inP (pgs n) xs) (fun c _ => rfl) (fun c hc => by unfold restM; rw [(ok.out hc).2]; split <;> rfl)).kept (fun c hc => (decide_eq_true_eq.mp hc).2)⟩
 have hzI : (j : Int) < (xs.length : Int) := by omega
 obtain ⟨x, hx⟩ : ∃ x, xs[j]? = some x := ⟨_, List.getElem?_eq_getElem hlt⟩
 obtain ⟨bq, oq, hA, hcx⟩ := Z2m (hrow _ (OwnT.pickR (L := [_, _, _, _, _]) (R := R) O [] (by decide))) hx
 subst hA
 have hcx := hcx _ (Ext.refl _)

 refine wp_seq ?_; refine wp_region_lit ?_
 have hE := Env.refl a11 [15]; refine sd 15 hE k (Z08 (Z0z rfl (hE.g e14) (hE.g e13)) (decide_eq_true (by omega))) ?_
 intro a14 hE e15 kp; refine wpList_nil ?_; replace e0 := hE.g e0; replace e12 := hE.g e12; replace e13 := hE.g e13; replace e14 := hE.g e14; replace k := k.env hE; clear hE; refine Z00 (wp_seq ?_); refine Z0h e15 rfl ?_
 refine wp_skip ?_; refine Z00 (wp_seq ?_); refine wp_block ?_; refine wp_seq ?_; refine wp_region_lit ?_
 have hE := Env.refl a14 [16, 17, 5]; apply Z03 16 hE k rfl rfl rfl rfl; case h =>
  simp [go_sem, ↓IntWalk.iteOmega, ev (hE.g e12), ev (hE.g e14)]
  with_reducible rfl
 intro a15 hE e16 kp; apply Z03 17 hE k rfl rfl rfl rfl; case h =>
  simp [go_sem, ↓IntWalk.iteOmega, ev e16, hcx]
  with_reducible rfl
 intro a16 hE e17 kp; refine sd 5 hE k (Z01 rfl e17) ?_; intro a17 hE e5 kp; refine wpList_nil ?_; replace e0 := hE.g e0; replace e12 := hE.g e12; replace e13 := hE.g e13; replace e14 := hE.g e14; replace k := k.env hE; clear hE e15; refine Z00 ?_; by_cases hin : 1 ≤ x ∧ x < (pgs n : Nat)
 rotate_left
 · rw [← inP_no hx hin] at O
   refine wp_seq ?_; refine wp_region_lit ?_
   have hE := Env.refl a17 [18, 19, 20]; refine zm 18 hE k e0 ?_; intro a18 hE e18 kp; refine zm 19 hE k e5 ?_; intro a19 hE e19 kp; replace e18 := kt kp e18; apply Z06 20 hE k rfl (by rfl) (by rfl) rfl
   case h =>
    simp [go_sem, ↓IntWalk.iteOmega, ev e18, ev e19]
    with_reducible exact ⟨rfl, rfl⟩
   case hc => exact Z24 x _ (OwnT.stR O) (OwnT.disc (OwnT.pull O 4 rfl))
   rintro e _ ⟨rfl, rfl⟩
   refine ⟨_, congrArg (fun b => Ending.returned (.bool b)) (decide_eq_false hin), ?_⟩
   intro a20 hE e20 kp; refine wpList_nil ?_; replace e0 := hE.g e0; replace e5 := hE.g e5; replace e12 := hE.g e12; replace e13 := hE.g e13; replace e14 := hE.g e14; replace k := k.env hE; clear hE; refine Z00 ?_; refine Z07 e20 rfl ?_
   refine wp_skip ?_; refine Z0f ?_; refine Z00 ?_; refine wp_region_lit ?_
   have hE := Env.refl a20 [31, 14]; refine sd 31 hE k (Z1i rfl e14 rfl (by omega)) ?_; intro a21 hE e31 kp; replace e14 := kt kp e14; refine sd 14 hE k (Z02 rfl e31) ?_; intro a22 hE e14 kp; refine wpList_nil ?_; replace e0 := hE.g e0; replace e12 := hE.g e12; replace e13 := hE.g e13; replace k := k.env hE; clear hE e5 e20; refine Z00 ?_; refine ⟨⟨k, e0, e12, e13, j + 1, e14, by omega, O⟩, ?_⟩
   rw [e14, mj]; simp only [intOf]; omega
 have hwf := Z4u (a := x) (by omega) (by omega)
 refine wp_seq ?_; refine wp_region_lit ?_
 have hE := Env.refl a17 [18, 19, 20]; refine zm 18 hE k e0 ?_; intro a23 hE e18 kp; refine zm 19 hE k e5 ?_; intro a24 hE e19 kp; replace e18 := kt kp e18; apply Z06 20 hE k rfl (by rfl) (by rfl) rfl
 case h =>
  simp [go_sem, ↓IntWalk.iteOmega, ev e18, ev e19]
  with_reducible exact ⟨rfl, rfl⟩
 case hc => exact Z24 x _ (OwnT.stR O) (OwnT.disc (OwnT.pull O 4 rfl))
 rintro e _ ⟨rfl, rfl⟩
 refine ⟨_, congrArg (fun b => Ending.returned (.bool b)) (decide_eq_true hin), ?_⟩
 intro a25 hE e20 kp; refine wpList_nil ?_; replace e0 := hE.g e0; replace e5 := hE.g e5; replace e12 := hE.g e12; replace e13 := hE.g e13; replace e14 := hE.g e14; replace k := k.env hE; clear hE; refine Z00 ?_; refine Z0h e20 rfl ?_
 obtain ⟨w8, hcl, hV, hC⟩ := VM.store (OwnT.get O 1 rfl) Tryz.underlying99 (by unfold maxLen; omega) hwf (.bool true)
 rw [keptV_put, ← inP_yes hx hin] at hV
 replace hV := hV.tight 0 512 (fun i hi hs => by rw [keptV_is] at hs; have := (decide_eq_true_eq.mp hs).2; omega)

 refine wp_seq ?_; refine wp_region_lit ?_
 have hE := Env.refl a25 [21, 22, 23, 24, 25]; refine zm 21 hE k e0 ?_; intro a26 hE e21 kp; refine sd 22 hE k (Z0d rfl e21) ?_; intro a27 hE e22 kp; apply Z03 23 hE k rfl rfl rfl rfl; case h =>
  simp [go_sem, ↓IntWalk.iteOmega, ev e22]
  with_reducible rfl
 intro a28 hE e23 kp; refine sd 24 hE k (Z0a O 0 rfl rfl e23 rfl Tryz.underlying99 rfl) ?_; intro a29 hE e24 kp; refine zm 25 hE k e5 ?_; intro a30 hE e25 kp; replace e24 := kt kp e24; refine Z2c (w' := w8) hE rfl rfl ?_ ?_
 · exact x_mapUpS rfl e24 e25 rfl hcl
 replace O := OwnT.push (L := _ :: _ :: _ :: _ :: _ :: R) 1 rfl (OwnT.mapSet (OwnT.pull O 1 rfl) hV hC)
 clear hV hC hcl; refine wpList_nil ?_; replace e0 := hE.g e0; replace e5 := hE.g e5; replace e12 := hE.g e12; replace e13 := hE.g e13; replace e14 := hE.g e14; replace k := k.env hE; clear hE e20 e24 e25; refine Z00 ?_; obtain ⟨w7, hdl, hV, hC⟩ := VM.drop (OwnT.get O 2 rfl) Tryz.underlying100 hwf _
 rw [restM_goes hx hin] at hV
 refine wp_region_lit ?_
 have hE := Env.refl a30 [26, 27, 28, 29, 30]; refine zm 26 hE k e0 ?_; intro a31 hE e26 kp; refine sd 27 hE k (Z0d rfl e26) ?_; intro a32 hE e27 kp; apply Z03 28 hE k rfl rfl rfl rfl; case h =>
  simp [go_sem, ↓IntWalk.iteOmega, ev e27]
  with_reducible rfl
 intro a33 hE e28 kp; refine sd 29 hE k (Z0a O 0 rfl rfl e28 rfl Tryz.underlying100 rfl) ?_; intro a34 hE e29 kp; refine zm 30 hE k e5 ?_; intro a35 hE e30 kp; replace e29 := kt kp e29; refine Z4l (w' := w7) rfl rfl (by exact x_delS rfl e29 e30 hdl) ?_
 replace O := OwnT.push (L := _ :: _ :: _ :: _ :: _ :: R) 2 rfl (OwnT.mapSet (OwnT.pull O 2 rfl) hV hC)
 clear hV hC hdl; refine wpList_nil ?_; replace e0 := hE.g e0; replace e12 := hE.g e12; replace e13 := hE.g e13; replace e14 := hE.g e14; replace k := k.env hE; clear hE e5 e29 e30; refine Z0f ?_; refine Z00 ?_; refine wp_region_lit ?_
 have hE := Env.refl a35 [31, 14]; refine sd 31 hE k (Z1i rfl e14 rfl (by omega)) ?_; intro a36 hE e31 kp; replace e14 := kt kp e14; refine sd 14 hE k (Z02 rfl e31) ?_; intro a37 hE e14 kp; refine wpList_nil ?_; replace e0 := hE.g e0; replace e12 := hE.g e12; replace e13 := hE.g e13; replace k := k.env hE; clear hE; refine Z00 ?_; refine ⟨⟨k, e0, e12, e13, j + 1, e14, by omega, O⟩, ?_⟩
 rw [e14, mj]; simp only [intOf]; omega
end Go.Proofs.YtakkhglbdljfiaaGreatDoor

/- The library's contracts that this proof uses, laid by the kit's own tool at this translation (plain words). -/
namespace Go.Proofs
open Go.Shelf
def Tryz.keysF_ren : Go.Shelf.Ren := ⟨fun | 7 => 92 | 10 => 115 | n => n, fun | 23 => 100 | 26 => 3 | 3 => 47 | 28 => 126 | 0 => 0 | 27 => 125 | 33 => 95 | 4 => 4 | n => n, fun | n => n⟩
theorem Tryz.keysF : Go.Proofs.SlLaysZI.n7 Tryz.prog Tryz.keysF_ren := {
  mixed := by kernel_rfl
  f7 := ⟨Tryz.f92.name, by decide, Tryz.func92.trans (congrArg some (by kernel_rfl))⟩
  f10 := ⟨Tryz.f115.name, by decide, Tryz.func115.trans (congrArg some (by kernel_rfl))⟩
  t0 := Tryz.underlying0
  a0 := Tryz.isAgg0
  z0 := Tryz.sizeOf0
  v0 := Tryz.zeroValue0
  t4 := Tryz.underlying4
  a4 := Tryz.isAgg4
  z4 := Tryz.sizeOf4
  v4 := Tryz.zeroValue4
  t23 := Tryz.underlying100
  a23 := Tryz.isAgg100
  z23 := Tryz.sizeOf100
  v23 := Tryz.zeroValue100
  t26 := Tryz.underlying3
  a26 := Tryz.isAgg3
  z26 := Tryz.sizeOf3
  v26 := Tryz.zeroValue3
  t27 := Tryz.underlying125
  a27 := Tryz.isAgg125
  z27 := Tryz.sizeOf125
  v27 := Tryz.zeroValue125
  t28 := Tryz.underlying126
  a28 := Tryz.isAgg126
  z28 := Tryz.sizeOf126
  v28 := Tryz.zeroValue126
  t33 := Tryz.underlying95
  a33 := Tryz.isAgg95
  z33 := Tryz.sizeOf95
  v33 := Tryz.zeroValue95 }
end Go.Proofs

/- store: sorted keys, write (printed by XStE.gen.py). -/
namespace Go.Proofs.YtakkhglbdljfiaaGreatDoor
attribute [local simp] BigFrame.eval_const BigFrame.eval_global BigFrame.eval_func
set_option linter.unusedVariables false
set_option linter.unusedSimpArgs false
open Go.RowKit Go.Maps Go.Sort

/-- The new pages in rising order, in a row of one's own. -/
theorem skeys_any {H : Nat} {A0 : World} {R : List Thing} {fb : Nat} (w : World) (O : OwnT H A0 R w) : Calls Tryz.prog 92 #[.map (some fb)] w fun e w' => ∃ bx, e = .returned (.func (.func 115) #[] #[.pointer (some ⟨bx, 0, none⟩)]) ∧ OwnT H A0 (tBlk bx 100 #[.map (some fb)] :: R) w' := by
 have h := (callsIn_wide (n := 5)).1 (AnyZI.keys_in Tryz.keysF Fence.wide 5 trivial rfl (some fb) w)
 refine h.mono ?_
 rintro e w' ⟨rfl, rfl⟩
 exact ⟨w.heap.size, rfl, O.new _ _⟩
theorem sortsS (m : Nat) : AnyZI.SortsIn Tryz.prog Tryz.sortedD_ren Fence.wide m :=
 ⟨fun blk off cap ss W hH hblk hsz => callsIn_wide.2 (AnyM.slices_Sort_int Tryz.sortD blk off cap ss W hH hblk hsz),
  fun p cap W => callsIn_wide.2 (AnyM.slices_Sort_int_none Tryz.sortD p cap W)⟩
theorem enc_mapI (l : List Int) : l.map encZ = l.map (Value.int .i64) := rfl
theorem Z89 {H : Nat} {A0 : World} {R : List Thing} {fb bx : Nat} {m : Int → Option Value} {ks : List Int} (w : World) (O : OwnT H A0 R w) (hm : VM w fb 512 m) (hb : w.cell? ⟨bx, 0, none⟩ = some (.map (some fb))) (hbl : bx < w.heap.size) (hnd : ks.Nodup) (hs : ks.mergeSort leI = ks) (hL : ∀ x, x ∈ ks ↔ wfV x ∧ (m x).isSome = true) :
 Calls Tryz.prog 72 #[.func (.func 115) #[] #[.pointer (some ⟨bx, 0, none⟩)]] w fun e w' => ∃ B' cap', e = .returned (.slice B' ks.length cap') ∧ OwnT H A0 (tRow 3 1 (.slice B' ks.length cap') ks.length (ks.map (Value.int .i64)) :: R) w' ∧ Ext w w' := by
 obtain ⟨D, hown, hD⟩ := hm
 have hsz := hown.size_le
 have hp := Z68 hown hD ks hnd hL
 have hseq := AnyZI.keys_gives (ρ := Tryz.keysF_ren) { Tryz.keysF with } Fence.wide 2 trivial rfl (by omega) bx fb 512 D w hbl hb hown
 have cS := AnyZI.sorted_in Tryz.sortedD Fence.wide 5 trivial trivial trivial trivial rfl (by omega) (sortsS _) (enters_of Tryz.func103 (by kernel_rfl) rfl) 115 #[.pointer (some ⟨bx, 0, none⟩)] trivial (enters_of Tryz.func115 (by kernel_rfl) rfl) _ _ (by unfold maxLen; omega) (by omega) _ hseq
 refine ((callsIn_wide (n := 5)).1 cS).mono ?_
 rintro e w' ⟨v, ss, rfl, hperm, hrow, hnil, hE⟩
 have h1 : ss.mergeSort (fun x y => decide (x ≤ y)) = ks := by
  have h1 := mergeSort_of_perm_i (hperm.trans hp.symm)
  rw [hs] at h1
  exact h1
 have h2 : ss.length = ks.length := (hperm.trans hp.symm).length_eq
 rw [h1, h2, enc_mapI] at hrow
 obtain ⟨B', cap', rfl⟩ := row_slice hrow
 exact ⟨B', cap', rfl, O.newRow hE hrow, hE⟩
theorem row1_ofS {E : Type} (f : E → Value) {w : World} {base n cap : Nat} {T : TypeId} {B : Option Addr} {X : List E} (h : w.ownsRow base T 1 (.slice B n cap) n (X.map f)) : Row1 w B f X := by
 have hf : X.map f = X.flatMap fun x => [f x] := by
  induction X with
  | nil => rfl
  | cons x r ih => rw [List.map_cons, List.flatMap_cons]; congr 1; clear ih h; induction r with | nil => rfl | cons y q ih => rw [List.map_cons, List.flatMap_cons, ih]; rfl
 rw [hf] at h
 intro i x hx; obtain ⟨b, o, e, hlt, hc⟩ := rowE_of (enc := fun x => [f x]) (fun _ => rfl) (by decide) h i x hx
 refine ⟨b, o, e, hlt, ?_⟩
 have := hc 0 _ rfl
 rwa [Nat.mul_one, Nat.add_zero] at this
/-! What write writes. -/
def pgB (nd : Nd) : List UInt8 := sealL (leafL nd.1 nd.2)
def stepF (F : Int → Option Nd) (L : Int → Option Sec) (c : Int) : Int → Option Sec := match F c with
 | some nd => wrS (pgB nd) (16 * c) L 16
 | none => L
def wrF (F : Int → Option Nd) (L : Int → Option Sec) (l : List Int) : Int → Option Sec := l.foldl (stepF F) L
theorem wrF_snoc (F : Int → Option Nd) (L : Int → Option Sec) (l : List Int) (c : Int) : wrF F L (l ++ [c]) = stepF F (wrF F L l) c := by
 unfold wrF
 rw [List.foldl_append]
 rfl
def todo (P : Nat) (F : Int → Option Nd) (xs : List Int) : List Int := (fL P F).filter fun c => decide (c ∈ xs)
/-- What may be loose of pages. -/
def Pend (F : Int → Option Nd) (td : List Int) (L L' : Int → Option Sec) : Prop := ∀ i s, L' i = some s → L i = some s ∨ ∃ c nd, c ∈ td ∧ F c = some nd ∧ 16 * c ≤ i ∧ i < 16 * c + 16
theorem Pend.refl (F : Int → Option Nd) (td : List Int) (L : Int → Option Sec) : Pend F td L L := fun _ _ h => .inl h
theorem Pend.wr {F : Int → Option Nd} {td : List Int} {L L' : Int → Option Sec} (h : Pend F td L L') {c : Int} {nd : Nd} (hc : c ∈ td) (hF : F c = some nd) {l : List UInt8} {j : Nat} (hj : j ≤ 16) : Pend F td L (wrS l (16 * c) L' j) := by
 intro i s hs; rw [Z48] at hs
 split at hs
 · rename_i hi
   exact .inr ⟨c, nd, hc, hF, hi.1, by omega⟩
 · exact h i s hs
theorem Pend.wrF {F : Int → Option Nd} {td : List Int} {L : Int → Option Sec} : ∀ (l : List Int) (L' : Int → Option Sec), Pend F td L L' → (∀ c ∈ l, c ∈ td) → Pend F td L (wrF F L' l)
 | [], _, h, _ => h
 | c :: r, L', h, hl => by
  refine Pend.wrF r (stepF F L' c) ?_ (fun x hx => hl x (List.mem_cons_of_mem _ hx))
  unfold stepF
  cases hF : F c with
  | none => exact h
  | some nd => exact h.wr (hl c (List.mem_cons_self ..)) hF (Nat.le_refl _)
theorem Z4j (M : Mn) (a : Nat) : ∀ b, (M.useN a).useN b = M.useN (a + b)
 | 0 => rfl
 | b + 1 => by show ((M.useN a).useN b).use = (M.useN (a + b)).use; rw [Z4j M a b]
theorem Z2g {M : Mn} {a : Nat} (h : ¬ (M.useN a).Free) : ¬ M.Free := fun h2 => h (h2.useN a)
theorem pgB_len {nd : Nd} (hg : goodB nd.1 nd.2 = true) (hx : ∀ x ∈ nd.2, x.1 < 18446744073709551616 ∧ x.2 < 18446744073709551616) : (pgB nd).length = 256 := by
 obtain ⟨h1, h2, h3, h4⟩ := Z7i nd.1 nd.2 hg hx (pgB nd) rfl
 cases Nat.decEq (pgB nd).length 256 with
 | isTrue h => exact h
 | isFalse h =>
  rw [Z3b _ (fun e => h e.1)] at h4
  cases h4
section
variable {H : Nat} {A0 : World} {R : List Thing} {p mb n cap bm : Nat} {B : Option Addr} {S : List Sec} {L : Int → Option Sec} {M : Mn} {c0 : Int}
/-- A write, whatever comes. -/
theorem Z2x (x : Int) (l : List UInt8) (q : Nat) (w : World) (O : OwnT H A0 (tDisc p mb B n cap bm S L :: tMn mb M :: R) w) (hl : l.length = 16 * q) (hq : q ≤ 100) (hf : fitsB n x (q : Nat) = true) (hM : M.Ok c0) (hc : c0 ≤ 1000000000000) :
 Calls Tryz.prog 44 #[.pointer (some ⟨p, 0, none⟩), .int .i64 x, .string (sB l)] w fun e w' => ∃ (c : Int) (L' : Int → Option Sec) (j : Nat), e = .returned (.int .i64 c) ∧ j ≤ q ∧ OwnT H A0 (tDisc p mb B n cap bm S L' :: tMn mb (M.useN j) :: R) w' ∧ ((c = 0 ∧ L' = wrS l x L q ∧ j = q) ∨ (c = 4 ∧ ¬ M.Free ∧ ∃ i, i < q ∧ L' = wrS l x L i)) := by
 have hd : l.length / 16 = q := by omega
 refine (dwrite_go x l w O (by omega) (by omega) (by rw [hd]; exact hf) hM hc).mono ?_
 rw [hd]
 rintro e w' ⟨j, hj, hup, ⟨rfl, rfl, O⟩ | ⟨hlt, hu, rfl, O⟩⟩
 · exact ⟨0, _, j, rfl, Nat.le_refl _, O, .inl ⟨rfl, rfl, rfl⟩⟩
 · exact ⟨4, _, j + 1, rfl, hlt, O, .inr ⟨rfl, (fun h => by rw [(h.useN j).up] at hu; cases hu), j, hlt, rfl⟩⟩
theorem Z2y (w : World) (O : OwnT H A0 (tDisc p mb B n cap bm S L :: tMn mb M :: R) w) (hM : M.Ok c0) (hc : c0 ≤ 1000000000000) :
 Calls Tryz.prog 45 #[.pointer (some ⟨p, 0, none⟩)] w fun e w' => ∃ (c : Int) (S' : List Sec) (L' : Int → Option Sec), e = .returned (.int .i64 c) ∧ OwnT H A0 (tDisc p mb B n cap bm S' L' :: tMn mb M.use :: R) w' ∧ ((c = 0 ∧ S' = nowL S L ∧ L' = fun _ => none) ∨ (c = 4 ∧ ¬ M.Free ∧ S' = S ∧ L' = L)) := by
 cases hu : M.up with
 | true =>
  refine (dflush_ok w O hM hc hu).mono ?_
  rintro e w' ⟨rfl, O⟩
  exact ⟨0, _, _, rfl, O, .inl ⟨rfl, rfl, rfl⟩⟩
 | false =>
  refine (dflush_down w O hM hc hu).mono ?_
  rintro e w' ⟨rfl, O⟩
  exact ⟨4, _, _, rfl, O, .inr ⟨rfl, (fun h => by rw [h.up] at hu; cases hu), rfl, rfl⟩⟩
end

set_option maxRecDepth 100000 in
set_option maxHeartbeats 4000000 in
theorem Z5t {H : Nat} {A0 : World} {R : List Thing} {sb p kb fb mb n cap bm : Nat} {B : Option Addr} {S : List Sec} {L : Int → Option Sec} {h : Hd} {at_ : Int} {K : Int → Bool} {m : Int → Option Value} {F : Int → Option Nd} {vs : List Value} {N : List Nd} {M : Mn} {A : Option Addr} {ca : Nat} {xs : List Int} {c0 : Int} (w : World) (O : OwnT H A0 (stL sb p h at_ kb fb K m vs N (tDisc p mb B n cap bm S L :: tMn mb M :: R)) w) (ok : StOk (pgs n) K F vs N m) (hrow : ∀ W, OwnT H A0 R W → Row1 W A (Value.int .i64) xs) (hn : xs.length ≤ 1000000) (hM : M.Ok c0) (hc : c0 ≤ 900000000000) : Calls Tryz.prog 59 #[.pointer (some ⟨sb, 0, none⟩), .slice A xs.length ca] w fun e w' => ∃ (c : Int) (S' : List Sec) (L' : Int → Option Sec) (j : Nat), e = .returned (.int .i64 c) ∧ j ≤ 9000 ∧ OwnT H A0 (stL sb p h at_ kb fb K m vs N (tDisc p mb B n cap bm S' L' :: tMn mb (M.useN j) :: R)) w' ∧ ((c = 0 ∧ S' = nowL S (wrF F L (todo (pgs n) F xs)) ∧ L' = fun _ => none) ∨ (c = 4 ∧ ¬ M.Free ∧ S' = S ∧ Pend F (todo (pgs n) F xs) L L')) := by
 have hP := ok.le
 have hdn := (OwnT.disc (OwnT.pull O 4 rfl)).ok.le
 obtain ⟨ks, hks⟩ : ∃ l, fL (pgs n) F = l := ⟨_, rfl⟩
 have hkn : ks.length ≤ 512 := by rw [← hks]; exact Nat.le_trans (Z38 _ _) hP
 have hkm : ∀ x ∈ ks, (1 ≤ x ∧ x < (pgs n : Nat)) ∧ ∃ nd, F x = some nd := fun x hx => by rw [← hks] at hx; have h1 := Z3i.1 hx; obtain ⟨nd, hnd⟩ := Option.isSome_iff_exists.1 h1.2; exact ⟨ok.fr x nd hnd, nd, hnd⟩
 refine Z0c Tryz.func59 rfl 55 rfl (by rfl) ?_
 intro a1 k hargs; have e0 : a1.eval (.tmp 0) = .pointer (some ⟨sb, 0, none⟩) := hargs 0 _ rfl
 have e1 : a1.eval (.tmp 1) = .slice A xs.length ca := hargs 1 _ rfl
 clear hargs; refine wp_seq ?_; refine wp_region_lit ?_
 have hE := Env.refl a1 [4]; refine sd 4 hE k (Z01 rfl rfl) ?_; intro a2 hE e4 kp; refine wpList_nil ?_; replace e0 := hE.g e0; replace e1 := hE.g e1; replace k := k.env hE; clear hE e4; refine Z00 (wp_seq ?_); refine wp_seq ?_; refine wp_region_lit ?_
 have hE := Env.refl a2 [10, 11, 12, 13, 14, 15, 16, 17]; refine zm 10 hE k e0 ?_; intro a3 hE e10 kp; refine sd 11 hE k (Z0d rfl e10) ?_; intro a4 hE e11 kp; apply Z03 12 hE k rfl rfl rfl rfl; case h =>
  simp [go_sem, ↓IntWalk.iteOmega, ev e11]
  with_reducible rfl
 intro a5 hE e12 kp; refine sd 13 hE k (Z0a O 0 rfl rfl e12 rfl Tryz.underlying100 rfl) ?_; intro a6 hE e13 kp; apply Z06 14 hE k rfl (by rfl) (by rfl) rfl
 case h =>
  simp [go_sem, ↓IntWalk.iteOmega, ev e13]
  with_reducible exact ⟨rfl, rfl⟩
 case hc => exact skeys_any _ O
 clear O; rintro e w8 ⟨bx, rfl, O⟩
 refine ⟨_, rfl, ?_⟩
 intro a7 hE e14 kp; apply Z06 15 hE k rfl (by rfl) (by rfl) rfl
 case h =>
  simp [go_sem, ↓IntWalk.iteOmega, ev e14]
  with_reducible exact ⟨rfl, rfl⟩
 case hc => exact Z89 (ks := ks) _ O (OwnT.get O 3 rfl) ((OwnT.blk O 0 rfl).cell 0) (OwnT.blk O 0 rfl).lt (hks ▸ Z2d _ _) (hks ▸ Z7h _ _) (hks ▸ fL_mem ok)
 clear O; rintro e w10 ⟨Bk, ck, rfl, O, RE⟩
 refine ⟨_, rfl, ?_⟩
 intro a9 hE e15 kp; refine sd 16 hE k (Z1w Tryz.underlying40 rfl e15) ?_; intro a11 hE e16 kp; replace e15 := kt kp e15; refine sd 17 hE k (Z02 rfl rfl) ?_; intro a12 hE e17 kp; replace e15 := kt kp e15; replace e16 := kt kp e16; refine wpList_nil ?_; replace e0 := hE.g e0; replace e1 := hE.g e1; replace k := k.env hE; clear hE; refine Z00 ?_; refine wp_block ?_; replace O : OwnT _ _ ((tRow 3 1 (.slice Bk ks.length ck) ks.length (ks.map (Value.int .i64))) :: (tBlk sb 102 #[.pointer (some ⟨p, 0, none⟩), .int .u64 h.g, .int .i64 h.r, .int .i64 h.a, .int .i64 h.b, .int .i64 h.c, .int .i64 at_, .map (some kb), .map (some fb)]) :: (tMap kb 512 (keptV K)) :: (tMap fb 512 m) :: (tPool vs N) :: (tDisc p mb B n cap bm S L) :: (tMn mb M) :: R) w10 := OwnT.pickR (L := [_, _, _, _, _, _, _, _]) (R := R) O [0, 2, 3, 4, 5, 6, 7] (by decide)
 refine wp_loop (fun a w => Fr 55 a ∧ a.eval (.tmp 0) = .pointer (some ⟨sb, 0, none⟩) ∧ a.eval (.tmp 1) = .slice A xs.length ca ∧ a.eval (.tmp 15) = .slice Bk ks.length ck ∧ a.eval (.tmp 16) = .int .i64 ↑ks.length ∧ ∃ (i j : Nat), a.eval (.tmp 17) = .int .i64 ↑i ∧ i ≤ ks.length ∧ j ≤ 16 * i ∧ OwnT H A0 ((tRow 3 1 (.slice Bk ks.length ck) ks.length (ks.map (Value.int .i64))) :: (tBlk sb 102 #[.pointer (some ⟨p, 0, none⟩), .int .u64 h.g, .int .i64 h.r, .int .i64 h.a, .int .i64 h.b, .int .i64 h.c, .int .i64 at_, .map (some kb), .map (some fb)]) :: (tMap kb 512 (keptV K)) :: (tMap fb 512 m) :: (tPool vs N) :: (tDisc p mb B n cap bm S (wrF F L ((ks.take i).filter fun c => decide (c ∈ xs)))) :: (tMn mb (M.useN j)) :: R) w) (fun a w => ks.length - (intOf (a.eval (.tmp 17))).toNat) ?_ ?_
 · exact ⟨k, e0, e1, e15, e16, 0, 0, e17, Nat.zero_le _, Nat.zero_le _, O⟩
 intro a13 w14 hI; clear k e0 e1 e15 e16; obtain ⟨k, e0, e1, e15, e16, h_⟩ := hI
 clear O e17; obtain ⟨i, j, e17, hi, hj, O⟩ := h_
 have mi := e17
 have htd : todo (pgs n) F xs = ks.filter fun c => decide (c ∈ xs) := by unfold todo; rw [hks]

 by_cases hlt : i < ks.length
 rotate_left
 · rw [List.take_of_length_le (show ks.length ≤ i by omega), ← htd] at O
   refine wp_seq ?_; refine wp_region_lit ?_
   have hE := Env.refl a13 [18]; refine sd 18 hE k (Z08 (Z0z rfl (hE.g e17) (hE.g e16)) (decide_eq_false (by omega))) ?_
   intro a15 hE e18 kp; refine wpList_nil ?_; replace e0 := hE.g e0; replace e1 := hE.g e1; replace e15 := hE.g e15; replace e16 := hE.g e16; replace e17 := hE.g e17; replace k := k.env hE; clear hE; refine Z00 (wp_seq ?_); refine Z07 e18 rfl ?_
   refine wp_exit ?_
   refine Z0p ?_
   refine Z0p ?_
   refine Z11 ?_
   refine Z00 ?_; replace O : OwnT _ _ ((tDisc p mb B n cap bm S (wrF F L (todo (pgs n) F xs))) :: (tMn mb (M.useN j)) :: (tBlk sb 102 #[.pointer (some ⟨p, 0, none⟩), .int .u64 h.g, .int .i64 h.r, .int .i64 h.a, .int .i64 h.b, .int .i64 h.c, .int .i64 at_, .map (some kb), .map (some fb)]) :: (tMap kb 512 (keptV K)) :: (tMap fb 512 m) :: (tPool vs N) :: R) w14 := OwnT.pickR (L := [_, _, _, _, _, _, _]) (R := R) O [5, 6, 1, 2, 3, 4] (by decide)
   refine wp_seq ?_; refine wp_region_lit ?_
   have hE := Env.refl a15 [50, 51, 52, 53, 54, 4]; refine zm 50 hE k e0 ?_; intro a16 hE e50 kp; refine sd 51 hE k (Z0d rfl e50) ?_; intro a17 hE e51 kp; apply Z03 52 hE k rfl rfl rfl rfl; case h =>
    simp [go_sem, ↓IntWalk.iteOmega, ev e51]
    with_reducible rfl
   intro a18 hE e52 kp; refine sd 53 hE k (Z0a O 2 rfl rfl e52 rfl Tryz.underlying31 rfl) ?_; intro a19 hE e53 kp; apply Z06 54 hE k rfl (by rfl) (by rfl) rfl
   case h =>
    simp [go_sem, ↓IntWalk.iteOmega, ev e53]
    with_reducible exact ⟨rfl, rfl⟩
   case hc => exact Z2y _ O (hM.useN j) (by omega)
   clear O; rintro e w21 ⟨cF, S', L', rfl, O, hcF⟩
   refine ⟨_, rfl, ?_⟩
   intro a20 hE e54 kp; refine sd 4 hE k (Z01 rfl e54) ?_; intro a22 hE e4 kp; refine wpList_nil ?_; replace k := k.env hE; clear hE e0 e1 e15 e16 e17 e18; refine Z00 ?_; refine wp_ret ?_
   replace O : OwnT _ _ ((tBlk sb 102 #[.pointer (some ⟨p, 0, none⟩), .int .u64 h.g, .int .i64 h.r, .int .i64 h.a, .int .i64 h.b, .int .i64 h.c, .int .i64 at_, .map (some kb), .map (some fb)]) :: (tMap kb 512 (keptV K)) :: (tMap fb 512 m) :: (tPool vs N) :: (tDisc p mb B n cap bm S' L') :: (tMn mb ((M.useN j).use)) :: R) w21 := OwnT.pickR (L := [_, _, _, _, _, _]) (R := R) O [2, 3, 4, 5, 0, 1] (by decide)
   refine Z0k rfl k e4 ?_
   exact ⟨cF, S', L', j + 1, rfl, by omega, O, by rcases hcF with ⟨rfl, rfl, rfl⟩ | ⟨rfl, hF, rfl, rfl⟩; exact .inl ⟨rfl, rfl, rfl⟩; exact .inr ⟨rfl, Z2g hF, rfl, Pend.wrF _ _ (Pend.refl _ _ _) (fun c hc => hc)⟩⟩
 have hzI : (i : Int) < (ks.length : Int) := by omega
 obtain ⟨x, hx⟩ : ∃ x, ks[i]? = some x := ⟨_, List.getElem?_eq_getElem hlt⟩
 obtain ⟨hxr, nd, hnd⟩ := hkm x (List.mem_of_getElem? hx)
 have hwf := ok.wf hxr
 obtain ⟨bq, oq, hA, hcx⟩ := Z2m (row1_ofS (Value.int .i64) (OwnT.get O 0 rfl : World.ownsRow _ _ _ _ _ _ _)) hx
 subst hA
 have hcx := hcx _ (Ext.refl _)
 have htk : (ks.take (i + 1)).filter (fun c => decide (c ∈ xs)) = (ks.take i).filter (fun c => decide (c ∈ xs)) ++ (if x ∈ xs then [x] else []) := by
  rw [List.take_add_one, hx, List.filter_append]
  congr 1
  by_cases e : x ∈ xs
  · simp [e]
  · simp [e]

 refine wp_seq ?_; refine wp_region_lit ?_
 have hE := Env.refl a13 [18]; refine sd 18 hE k (Z08 (Z0z rfl (hE.g e17) (hE.g e16)) (decide_eq_true (by omega))) ?_
 intro a23 hE e18 kp; refine wpList_nil ?_; replace e0 := hE.g e0; replace e1 := hE.g e1; replace e15 := hE.g e15; replace e16 := hE.g e16; replace e17 := hE.g e17; replace k := k.env hE; clear hE; refine Z00 (wp_seq ?_); refine Z0h e18 rfl ?_
 refine wp_skip ?_; refine Z00 (wp_seq ?_); refine wp_block ?_; refine wp_seq ?_; refine wp_region_lit ?_
 have hE := Env.refl a23 [19, 20, 6]; apply Z03 19 hE k rfl rfl rfl rfl; case h =>
  simp [go_sem, ↓IntWalk.iteOmega, ev (hE.g e15), ev (hE.g e17)]
  with_reducible rfl
 intro a24 hE e19 kp; apply Z03 20 hE k rfl rfl rfl rfl; case h =>
  simp [go_sem, ↓IntWalk.iteOmega, ev e19, hcx]
  with_reducible rfl
 intro a25 hE e20 kp; refine sd 6 hE k (Z01 rfl e20) ?_; intro a26 hE e6 kp; refine wpList_nil ?_; replace e0 := hE.g e0; replace e1 := hE.g e1; replace e15 := hE.g e15; replace e16 := hE.g e16; replace e17 := hE.g e17; replace k := k.env hE; clear hE e18; refine Z00 ?_; have Ob := OwnT.pickR (L := [_, _, _, _, _, _, _]) (R := R) O [] (by decide)
 by_cases hxx : x ∈ xs
 rotate_left
 · rw [if_neg hxx, List.append_nil] at htk
   refine wp_seq ?_; refine wp_seq ?_; refine wp_region_lit ?_
   have hE := Env.refl a26 [21, 22, 23, 24]; refine zm 21 hE k e1 ?_; intro a27 hE e21 kp; refine zm 22 hE k e6 ?_; intro a28 hE e22 kp; replace e21 := kt kp e21; apply Z06 23 hE k rfl (by rfl) (by rfl) rfl
   case h =>
    simp [go_sem, ↓IntWalk.iteOmega, ev e21, ev e22]
    with_reducible exact ⟨rfl, rfl⟩
   case hc => exact Z3l x _ (hrow _ Ob) (by omega)
   rintro e w30 ⟨he, RE⟩
   replace O := OwnT.ext O RE; refine ⟨_, he.trans (congrArg (fun b => Ending.returned (.bool b)) (decide_eq_false hxx)), ?_⟩
   intro a29 hE e23 kp; refine sd 24 hE k (Z15 rfl e23) ?_; intro a31 hE e24 kp; refine wpList_nil ?_; replace e0 := hE.g e0; replace e1 := hE.g e1; replace e6 := hE.g e6; replace e15 := hE.g e15; replace e16 := hE.g e16; replace e17 := hE.g e17; replace k := k.env hE; clear hE; refine Z00 ?_; refine Z0h e24 rfl ?_
   refine wp_exit ?_
   refine Z0p ?_
   refine Z11 ?_
   refine Z00 ?_; refine wp_region_lit ?_
   have hE := Env.refl a31 [49, 17]; refine sd 49 hE k (Z1i rfl e17 rfl (by omega)) ?_; intro a32 hE e49 kp; replace e17 := kt kp e17; refine sd 17 hE k (Z02 rfl e49) ?_; intro a33 hE e17 kp; refine wpList_nil ?_; replace e0 := hE.g e0; replace e1 := hE.g e1; replace e15 := hE.g e15; replace e16 := hE.g e16; replace k := k.env hE; clear hE e6 e24; refine Z00 ?_; rw [← htk] at O
   refine ⟨⟨k, e0, e1, e15, e16, i + 1, j, e17, by omega, by omega, O⟩, ?_⟩
   rw [e17, mi]; simp only [intOf]; omega
 rw [if_pos hxx] at htk
 obtain ⟨hgd, hbd⟩ := ok.fg x nd hnd
 obtain ⟨hl15, -, -⟩ := good_15 hgd
 have hpl := pgB_len hgd hbd
 have hxtd : x ∈ todo (pgs n) F xs := by rw [htd]; exact List.mem_filter.2 ⟨List.mem_of_getElem? hx, decide_eq_true hxx⟩

 refine wp_seq ?_; refine wp_seq ?_; refine wp_region_lit ?_
 have hE := Env.refl a26 [21, 22, 23, 24]; refine zm 21 hE k e1 ?_; intro a34 hE e21 kp; refine zm 22 hE k e6 ?_; intro a35 hE e22 kp; replace e21 := kt kp e21; apply Z06 23 hE k rfl (by rfl) (by rfl) rfl
 case h =>
  simp [go_sem, ↓IntWalk.iteOmega, ev e21, ev e22]
  with_reducible exact ⟨rfl, rfl⟩
 case hc => exact Z3l x _ (hrow _ Ob) (by omega)
 rintro e w37 ⟨he, RE⟩
 replace O := OwnT.ext O RE; refine ⟨_, he.trans (congrArg (fun b => Ending.returned (.bool b)) (decide_eq_true hxx)), ?_⟩
 intro a36 hE e23 kp; refine sd 24 hE k (Z15 rfl e23) ?_; intro a38 hE e24 kp; refine wpList_nil ?_; replace e0 := hE.g e0; replace e1 := hE.g e1; replace e6 := hE.g e6; replace e15 := hE.g e15; replace e16 := hE.g e16; replace e17 := hE.g e17; replace k := k.env hE; clear hE; refine Z00 ?_; refine Z07 e24 rfl ?_
 refine wp_skip ?_; refine Z00 ?_; obtain ⟨Bx, cx, hmx, g1, g2, g3, g4⟩ := ok.node (OwnT.get O 4 rfl) hnd

 refine wp_seq ?_; refine wp_region_lit ?_
 have hE := Env.refl a38 [26, 27, 28, 29, 30, 31, 32, 25, 33, 34, 7, 8]; refine zm 26 hE k e0 ?_; intro a39 hE e26 kp; refine sd 27 hE k (Z0d rfl e26) ?_; intro a40 hE e27 kp; apply Z03 28 hE k rfl rfl rfl rfl; case h =>
  simp [go_sem, ↓IntWalk.iteOmega, ev e27]
  with_reducible rfl
 intro a41 hE e28 kp; refine sd 29 hE k (Z0a O 1 rfl rfl e28 rfl Tryz.underlying100 rfl) ?_; intro a42 hE e29 kp; refine zm 30 hE k e6 ?_; intro a43 hE e30 kp; replace e29 := kt kp e29; refine sd 31 hE k (Z74 (v := .agg #[.int .i64 ↑nd.1, .slice Bx nd.2.length cx]) (x_look (OwnT.get O 3 rfl) rfl Tryz.underlying100 (Z29 _) e29 e30 hwf) (by rw [hmx]; rfl)) ?_
 intro a44 hE e31 kp; apply Z06 32 hE k rfl (by rfl) (by rfl) rfl
 case h =>
  simp [go_sem, ↓IntWalk.iteOmega, ev e31]
  with_reducible exact ⟨rfl, rfl⟩
 case hc => exact lbytes_yes nd.1 _ _ _ nd.2 _ rfl g3 hbd hgd
 rintro e w46 ⟨he, RE⟩
 replace O := OwnT.ext O RE; refine ⟨.tuple #[.string (sB (pgB nd)), .int .i64 0], he.trans rfl, ?_⟩
 intro a45 hE e32 kp; refine sd 25 hE k (Z02 rfl e32) ?_; intro a47 hE e25 kp; apply Z03 33 hE k rfl rfl rfl rfl; case h =>
  simp [go_sem, ↓IntWalk.iteOmega, ev e25]
  with_reducible rfl
 intro a48 hE e33 kp; replace e25 := kt kp e25; apply Z03 34 hE k rfl rfl rfl rfl; case h =>
  simp [go_sem, ↓IntWalk.iteOmega, ev e25]
  with_reducible rfl
 intro a49 hE e34 kp; replace e33 := kt kp e33; refine sd 7 hE k (Z01 rfl e33) ?_; intro a50 hE e7 kp; replace e34 := kt kp e34; refine sd 8 hE k (Z01 rfl e34) ?_; intro a51 hE e8 kp; replace e7 := kt kp e7; refine wpList_nil ?_; replace e0 := hE.g e0; replace e1 := hE.g e1; replace e6 := hE.g e6; replace e15 := hE.g e15; replace e16 := hE.g e16; replace e17 := hE.g e17; replace k := k.env hE; clear hE e24; refine Z00 (wp_seq ?_); refine wp_seq ?_; refine wp_region_lit ?_
 have hE := Env.refl a51 [35, 36]; refine zm 35 hE k e8 ?_; intro a52 hE e35 kp; refine sd 36 hE k (Z08 (Z0x rfl e35 rfl) (decide_eq_false (by omega))) ?_
 intro a53 hE e36 kp; refine wpList_nil ?_; replace e0 := hE.g e0; replace e1 := hE.g e1; replace e6 := hE.g e6; replace e7 := hE.g e7; replace e8 := hE.g e8; replace e15 := hE.g e15; replace e16 := hE.g e16; replace e17 := hE.g e17; replace k := k.env hE; clear hE; refine Z00 ?_; refine Z07 e36 rfl ?_
 refine wp_skip ?_; refine Z00 ?_; replace O : OwnT _ _ ((tDisc p mb B n cap bm S (wrF F L ((ks.take i).filter fun c => decide (c ∈ xs)))) :: (tMn mb (M.useN j)) :: (tRow 3 1 (.slice (some ⟨bq, oq, none⟩) ks.length ck) ks.length (ks.map (Value.int .i64))) :: (tBlk sb 102 #[.pointer (some ⟨p, 0, none⟩), .int .u64 h.g, .int .i64 h.r, .int .i64 h.a, .int .i64 h.b, .int .i64 h.c, .int .i64 at_, .map (some kb), .map (some fb)]) :: (tMap kb 512 (keptV K)) :: (tMap fb 512 m) :: (tPool vs N) :: R) w46 := OwnT.pickR (L := [_, _, _, _, _, _, _]) (R := R) O [5, 6, 0, 1, 2, 3, 4] (by decide)
 refine wp_seq ?_; refine wp_region_lit ?_
 have hE := Env.refl a53 [38, 39, 40, 41, 42, 43, 44, 45, 9]; refine zm 38 hE k e0 ?_; intro a54 hE e38 kp; refine sd 39 hE k (Z0d rfl e38) ?_; intro a55 hE e39 kp; apply Z03 40 hE k rfl rfl rfl rfl; case h =>
  simp [go_sem, ↓IntWalk.iteOmega, ev e39]
  with_reducible rfl
 intro a56 hE e40 kp; refine sd 41 hE k (Z0a O 3 rfl rfl e40 rfl Tryz.underlying31 rfl) ?_; intro a57 hE e41 kp; refine zm 42 hE k e6 ?_; intro a58 hE e42 kp; replace e41 := kt kp e41; refine sd 43 hE k (x_mul rfl e42 rfl (by omega)) ?_; intro a59 hE e43 kp; replace e41 := kt kp e41; replace e43 := e43.trans (Z10 (show x * 16 = 16 * x by omega))
 refine zm 44 hE k e7 ?_; intro a60 hE e44 kp; replace e41 := kt kp e41; replace e43 := kt kp e43; apply Z06 45 hE k rfl (by rfl) (by rfl) rfl
 case h =>
  simp [go_sem, ↓IntWalk.iteOmega, ev e41, ev e43, ev e44]
  with_reducible exact ⟨rfl, rfl⟩
 case hc => exact Z2x (16 * x) (pgB nd) 16 _ O (by omega) (by decide) (decide_eq_true (by unfold pgs at hxr; omega)) (hM.useN j) (by omega)
 clear O; rintro e w62 ⟨cW, L', jw, rfl, hjw, O, hcW⟩
 refine ⟨_, rfl, ?_⟩
 intro a61 hE e45 kp; refine sd 9 hE k (Z01 rfl e45) ?_; intro a63 hE e9 kp; refine wpList_nil ?_; replace e0 := hE.g e0; replace e1 := hE.g e1; replace e15 := hE.g e15; replace e16 := hE.g e16; replace e17 := hE.g e17; replace k := k.env hE; clear hE e6 e7 e8 e36; refine Z00 ?_; rw [Z4j] at O
 rcases hcW with ⟨rfl, rfl, rfl⟩ | ⟨rfl, hF, iw, hiw, rfl⟩
 · skip
   refine wp_seq ?_; refine wp_region_lit ?_
   have hE := Env.refl a63 [46, 47]; refine zm 46 hE k e9 ?_; intro a64 hE e46 kp; refine sd 47 hE k (Z08 (Z0x rfl e46 rfl) (decide_eq_false (by omega))) ?_
   intro a65 hE e47 kp; refine wpList_nil ?_; replace e0 := hE.g e0; replace e1 := hE.g e1; replace e9 := hE.g e9; replace e15 := hE.g e15; replace e16 := hE.g e16; replace e17 := hE.g e17; replace k := k.env hE; clear hE; refine Z00 ?_; refine Z07 e47 rfl ?_
   refine wp_skip ?_; refine Z0f ?_; refine Z00 ?_; refine wp_region_lit ?_
   have hE := Env.refl a65 [49, 17]; refine sd 49 hE k (Z1i rfl e17 rfl (by omega)) ?_; intro a66 hE e49 kp; replace e17 := kt kp e17; replace e49 := e49.trans (Z10 (show (i : Int) + 1 = ((i + 1 : Nat) : Int) by omega))
   refine sd 17 hE k (Z02 rfl e49) ?_; intro a67 hE e17 kp; refine wpList_nil ?_; replace e0 := hE.g e0; replace e1 := hE.g e1; replace e15 := hE.g e15; replace e16 := hE.g e16; replace k := k.env hE; clear hE e9 e47; refine Z00 ?_; replace O : OwnT _ _ ((tRow 3 1 (.slice (some ⟨bq, oq, none⟩) ks.length ck) ks.length (ks.map (Value.int .i64))) :: (tBlk sb 102 #[.pointer (some ⟨p, 0, none⟩), .int .u64 h.g, .int .i64 h.r, .int .i64 h.a, .int .i64 h.b, .int .i64 h.c, .int .i64 at_, .map (some kb), .map (some fb)]) :: (tMap kb 512 (keptV K)) :: (tMap fb 512 m) :: (tPool vs N) :: (tDisc p mb B n cap bm S (wrS (pgB nd) (16 * x) (wrF F L ((ks.take i).filter fun c => decide (c ∈ xs))) 16)) :: (tMn mb (M.useN (j + 16))) :: R) w62 := OwnT.pickR (L := [_, _, _, _, _, _, _]) (R := R) O [2, 3, 4, 5, 6, 0, 1] (by decide)
   rw [show wrS (pgB nd) (16 * x) (wrF F L ((ks.take i).filter fun c => decide (c ∈ xs))) 16 = wrF F L ((ks.take (i + 1)).filter fun c => decide (c ∈ xs)) by rw [htk, wrF_snoc]; unfold stepF; rw [hnd]] at O
   refine ⟨⟨k, e0, e1, e15, e16, i + 1, j + 16, e17, by omega, by omega, O⟩, ?_⟩
   rw [e17, mi]; simp only [intOf]; omega
 · skip
   refine wp_seq ?_; refine wp_region_lit ?_
   have hE := Env.refl a63 [46, 47]; refine zm 46 hE k e9 ?_; intro a68 hE e46 kp; refine sd 47 hE k (Z08 (Z0x rfl e46 rfl) (decide_eq_true (by omega))) ?_
   intro a69 hE e47 kp; refine wpList_nil ?_; replace e0 := hE.g e0; replace e1 := hE.g e1; replace e9 := hE.g e9; replace e15 := hE.g e15; replace e16 := hE.g e16; replace e17 := hE.g e17; replace k := k.env hE; clear hE; refine Z00 ?_; refine Z0h e47 rfl ?_
   refine wp_seq ?_; refine wp_region_lit ?_
   have hE := Env.refl a69 [48, 4]; refine zm 48 hE k e9 ?_; intro a70 hE e48 kp; refine sd 4 hE k (Z01 rfl e48) ?_; intro a71 hE e4 kp; refine wpList_nil ?_; replace k := k.env hE; clear hE e0 e1 e9 e15 e16 e17 e47; refine Z00 ?_; refine wp_ret ?_
   refine Z12 ?_
   refine Z0m ?_
   refine Z0m ?_
   refine Z12 ?_
   refine Z0m ?_
   replace O : OwnT _ _ ((tBlk sb 102 #[.pointer (some ⟨p, 0, none⟩), .int .u64 h.g, .int .i64 h.r, .int .i64 h.a, .int .i64 h.b, .int .i64 h.c, .int .i64 at_, .map (some kb), .map (some fb)]) :: (tMap kb 512 (keptV K)) :: (tMap fb 512 m) :: (tPool vs N) :: (tDisc p mb B n cap bm S (wrS (pgB nd) (16 * x) (wrF F L ((ks.take i).filter fun c => decide (c ∈ xs))) iw)) :: (tMn mb (M.useN (j + jw))) :: R) w62 := OwnT.pickR (L := [_, _, _, _, _, _, _]) (R := R) O [3, 4, 5, 6, 0, 1] (by decide)
   refine Z0k rfl k e4 ?_
   exact ⟨4, _, _, j + jw, rfl, by omega, O, .inr ⟨rfl, Z2g hF, rfl, Pend.wr (Pend.wrF _ _ (Pend.refl _ _ _) (fun c hc => by rw [htd]; exact List.mem_filter.2 ⟨List.mem_of_mem_take (List.mem_filter.1 hc).1, (List.mem_filter.1 hc).2⟩)) hxtd hnd (by omega)⟩⟩
end Go.Proofs.YtakkhglbdljfiaaGreatDoor

/- A region that draws its order and whose last operations, in order, write. No function of the program in sight. -/
namespace Go.Proofs.YtakkhglbdljfiaaGreatDoor
set_option linter.unusedVariables false
set_option linter.unusedSimpArgs false
open Go.RowKit

abbrev RE : (Nat → Bool) → World → World → Prop := fun _ => Ext
section
variable {P : Program} {Q : Exit → Act → World → Prop} {a a0 : Act} {w w' w0 : World} {n : Nat} {D D' : List Tmp} {o : Oper} {v : Value} {K : Act → World → Prop}
theorem Z4k (d : Tmp) (D' : List Tmp) (hE : Env a0 D a) (k : Fr n a0) (hd : o.dst = some d) (hn : Nat.blt d n = true) (hs : D.all (fun d => D'.contains d) = true) (hD : D'.contains d = true)
    (h : (execOp a.eval o).run P w = .ok (.value v) w')
    (hk : ∀ a', Env a0 D' a' → a'.eval (.tmp d) = v → (∀ t, Nat.beq t d = false → a'.eval (.tmp t) = a.eval (.tmp t)) → K a' w') : o.wp P a w K Q := by
  refine Z1a h ?_
  rw [hd]
  exact hk _ ((hE.mono hs).put hD v) (Z0j (by rw [hE.size, k.size]; exact Nat.le_of_ble_eq_true hn)) (fun t ht => Z0q ht v)
/-! A region that draws, with one call in the midst that writes; what stands behind it moves its answer's parts. -/
def projV : Value → Nat → Value
  | .tuple vs, i => vs.getD i undef
  | v, _ => v
def IM (ic : Nat) (anc : List Nat) (w0 : World) : (Nat → Bool) → World → Prop := fun l w => (l ic = false → Ext w0 w) ∧ (l ic = true → ∀ i ∈ anc, l i = true)
section
variable {R : (Nat → Bool) → World → World → Prop} {ops : Array Oper} {I : (Nat → Bool) → World → Prop} {A : List (List Nat)} {G : List (Nat × TFactL R) → Prop} {k ic : Nat} {os : List Oper} {done : List (Nat × TFactL R)} {anc : List Nat} {l : Nat → Bool}
theorem IM.pre (h : IM ic anc w0 l w) (hk : anc.contains k = true) (hl : l k = false) : Ext w0 w := by
  refine h.1 ?_
  cases e : l ic with
  | false => rfl
  | true =>
    have := h.2 e k (by simpa using hk)
    rw [hl] at this
    cases this
theorem IM.upd (h : IM ic anc w0 l w) (hk : Nat.beq k ic = false) : IM ic anc w0 (upd l k) w := by
  have hne : ¬ ic = k := fun e => Nat.ne_of_beq_eq_false hk e.symm
  refine ⟨fun hf => h.1 (by simpa [Go.Proofs.YtakkhglbdljfiaaGreatDoor.upd, hne] using hf), fun ht i hi => ?_⟩
  have := h.2 (by simpa [Go.Proofs.YtakkhglbdljfiaaGreatDoor.upd, hne] using ht) i hi
  unfold Go.Proofs.YtakkhglbdljfiaaGreatDoor.upd
  split
  · rfl
  · exact this
theorem IM.grow (h : IM ic anc w0 l w) (hk : Nat.beq k ic = false) (he : Ext w w') : IM ic anc w0 (Go.Proofs.YtakkhglbdljfiaaGreatDoor.upd l k) w' := by
  have h2 := h.upd hk
  exact ⟨fun hf => (h2.1 hf).trans he, h2.2⟩
theorem IM.at_ (hA : ∀ i ∈ anc, l i = true) : IM ic anc w0 (Go.Proofs.YtakkhglbdljfiaaGreatDoor.upd l ic) w :=
  ⟨fun h => by simp [Go.Proofs.YtakkhglbdljfiaaGreatDoor.upd] at h, fun _ i hi => by unfold Go.Proofs.YtakkhglbdljfiaaGreatDoor.upd; split; rfl; exact hA i hi⟩
/-- The slot holds what another one's value gives. -/
def relL (k : Nat) (d s : Tmp) (g : Value → Value) : TFactL R := ⟨k, [d, s], fun a _ => a.eval (.tmp d) = g (a.eval (.tmp s)), fun a a' _ h e => by
  rw [← Z1d (h d (by simp)), ← Z1d (h s (by simp))]; exact e, fun _ _ _ _ _ _ e => e⟩
theorem BuildL.rel (d s : Tmp) (g : Value → Value) (hds : Nat.beq s d = false) (hrr : ∀ l w, R l w w) (hI : ∀ l w, I l w → I (upd l k) w) (hd : o.dst = some d) (hn : Nat.blt d a0.tmps.size = true) (hg : o.guard = none)
    (h : ∀ l a w, Env a0 D a → I l w → (∀ (i : Nat) (S' : TFactL R), i ∈ A.getD k [] → (i, S') ∈ done → S'.T a w) → (execOp a.eval o).run P w = .ok (.value (g (a.eval (.tmp s)))) w)
    (hr : BuildL P R ops I a0 D A G (k + 1) os ((k, relL k d s g) :: done)) : BuildL P R ops I a0 D A G k (o :: os) done :=
  .step _ rfl (fun l a w hE hR _ _ hF => .inl ⟨Z0e hg, by
    unfold YieldsR
    rw [h l a w hE hR hF]
    refine ⟨hrr l w, hI l w hR, ?_⟩
    rw [hd]
    show (a.put (some d) _).eval (.tmp d) = g ((a.put (some d) _).eval (.tmp s))
    rw [Z0j (by rw [hE.size]; exact Nat.le_of_ble_eq_true hn), Z0q hds]⟩) hr
end
end

abbrev RT2 : (Nat → Bool) → World → World → Prop := fun _ _ _ => True
/-- Three states: no store done, the first one, both. -/
def I2 (s1 s2 : Nat) (H : Nat) (A0 : World) (L0 L1 L2 : List Thing) : (Nat → Bool) → World → Prop := fun l w =>
  (l s1 = false ∧ l s2 = false ∧ OwnT H A0 L0 w) ∨ (l s1 = true ∧ l s2 = false ∧ OwnT H A0 L1 w) ∨ (l s1 = true ∧ l s2 = true ∧ OwnT H A0 L2 w)
section
variable {P : Program} {Q : Exit → Act → World → Prop} {ops : Array Oper} {a0 : Act} {D : List Tmp} {A : List (List Nat)} {G : List (Nat × TFactL RT2) → Prop} {k s1 s2 : Nat} {o : Oper} {os : List Oper} {done : List (Nat × TFactL RT2)} {H : Nat} {A0 w : World} {L0 L1 L2 : List Thing} {l : Nat → Bool}
theorem I2.keep (h : I2 s1 s2 H A0 L0 L1 L2 l w) (hk : (Nat.beq k s1 || Nat.beq k s2) = false) : I2 s1 s2 H A0 L0 L1 L2 (upd l k) w := by
  rw [Bool.or_eq_false_iff] at hk
  have n1 : ¬ s1 = k := fun e => Nat.ne_of_beq_eq_false hk.1 e.symm
  have n2 : ¬ s2 = k := fun e => Nat.ne_of_beq_eq_false hk.2 e.symm
  unfold I2 upd at *
  simp only [if_neg n1, if_neg n2]
  exact h
theorem I2.any (h : I2 s1 s2 H A0 L0 L1 L2 l w) : OwnT H A0 L0 w ∨ OwnT H A0 L1 w ∨ OwnT H A0 L2 w := by
  rcases h with ⟨_, _, h⟩ | ⟨_, _, h⟩ | ⟨_, _, h⟩
  · exact .inl h
  · exact .inr (.inl h)
  · exact .inr (.inr h)
def triv2 (k : Nat) : TFactL RT2 := ⟨k, [], fun _ _ => True, fun _ _ _ _ h => h, fun _ _ _ _ _ _ h => h⟩
theorem BuildS.det (d : Tmp) {v : Value} (h1 : (Nat.beq k s1 || Nat.beq k s2) = false) (hd : o.dst = some d) (hn : Nat.blt d a0.tmps.size = true) (hg : o.guard = none)
    (h : ∀ a w, Env a0 D a → (OwnT H A0 L0 w ∨ OwnT H A0 L1 w ∨ OwnT H A0 L2 w) → (∀ (i : Nat) (S' : TFactL RT2), i ∈ A.getD k [] → (i, S') ∈ done → S'.T a w) → (execOp a.eval o).run P w = .ok (.value v) w)
    (hr : BuildL P RT2 ops (I2 s1 s2 H A0 L0 L1 L2) a0 D A G (k + 1) os ((k, detL k d v) :: done)) : BuildL P RT2 ops (I2 s1 s2 H A0 L0 L1 L2) a0 D A G k (o :: os) done :=
  BuildL.det d (fun _ _ => trivial) (fun _ _ hI => hI.keep h1) hd hn hg (fun l a w hE hI hF => h a w hE hI.any hF) hr
theorem BuildS.store1 (hk : k = s1) (h12 : Nat.beq s1 s2 = false) (hd : o.dst = none) (hg : o.guard = none)
    (h : ∀ a w, Env a0 D a → OwnT H A0 L0 w → (∀ (i : Nat) (S' : TFactL RT2), i ∈ A.getD k [] → (i, S') ∈ done → S'.T a w) → ∃ w', (execOp a.eval o).run P w = .ok .skip w' ∧ OwnT H A0 L1 w')
    (hr : BuildL P RT2 ops (I2 s1 s2 H A0 L0 L1 L2) a0 D A G (k + 1) os ((k, triv2 k) :: done)) : BuildL P RT2 ops (I2 s1 s2 H A0 L0 L1 L2) a0 D A G k (o :: os) done :=
  .step _ rfl (fun l a w hE hI hl hA hF => by
    subst hk
    have n2 : ¬ s2 = k := fun e => Nat.ne_of_beq_eq_false h12 e.symm
    rcases hI with ⟨h1, h2, O⟩ | ⟨h1, _⟩ | ⟨h1, _⟩
    · obtain ⟨w', hrun, O'⟩ := h a w hE O hF
      refine .inl ⟨Z0e hg, ?_⟩
      unfold YieldsR
      rw [hrun]
      refine ⟨trivial, .inr (.inl ⟨?_, ?_, O'⟩), trivial⟩
      · unfold upd; rw [if_pos rfl]
      · unfold upd; rw [if_neg n2]; exact h2
    · rw [hl] at h1; cases h1
    · rw [hl] at h1; cases h1) hr
theorem BuildS.store2 (hk : k = s2) (h12 : Nat.beq s1 s2 = false) (hA : (A.getD k []).contains s1 = true) (hd : o.dst = none) (hg : o.guard = none)
    (h : ∀ a w, Env a0 D a → OwnT H A0 L1 w → (∀ (i : Nat) (S' : TFactL RT2), i ∈ A.getD k [] → (i, S') ∈ done → S'.T a w) → ∃ w', (execOp a.eval o).run P w = .ok .skip w' ∧ OwnT H A0 L2 w')
    (hr : BuildL P RT2 ops (I2 s1 s2 H A0 L0 L1 L2) a0 D A G (k + 1) os ((k, triv2 k) :: done)) : BuildL P RT2 ops (I2 s1 s2 H A0 L0 L1 L2) a0 D A G k (o :: os) done :=
  .step _ rfl (fun l a w hE hI hl hA' hF => by
    subst hk
    have n1 : ¬ s1 = k := Nat.ne_of_beq_eq_false h12
    have hs1 : l s1 = true := hA' s1 (by simpa using hA)
    rcases hI with ⟨h1, _⟩ | ⟨h1, h2, O⟩ | ⟨_, h2, _⟩
    · rw [hs1] at h1; cases h1
    · obtain ⟨w', hrun, O'⟩ := h a w hE O hF
      refine .inl ⟨Z0e hg, ?_⟩
      unfold YieldsR
      rw [hrun]
      refine ⟨trivial, .inr (.inr ⟨?_, ?_, O'⟩), trivial⟩
      · unfold upd; rw [if_neg n1]; exact hs1
      · unfold upd; rw [if_pos rfl]
    · rw [hl] at h2; cases h2) hr
theorem wp_stm {id : Nat} {l : List Oper} (s1 s2 : Nat) (A : List (List Nat)) (D : List Tmp) (O : OwnT H A0 L0 w) (hf : P.follows .mixedOrders = true)
    (h : BuildL P RT2 l.toArray (I2 s1 s2 H A0 L0 L1 L2) a0 D A (FinL P l (I2 s1 s2 H A0 L0 L1 L2) a0 D A Q) 0 l []) : (Code.region id l.toArray true).wp P Q a0 w :=
  Z3v RT2 (I2 s1 s2 H A0 L0 L1 L2) A D (fun _ _ => trivial) (.inl ⟨rfl, rfl, O.drew⟩) hf h
theorem I2.end_ (h : I2 s1 s2 H A0 L0 L1 L2 l w) (h2 : l s2 = true) : OwnT H A0 L2 w := by
  rcases h with ⟨_, e, _⟩ | ⟨_, e, _⟩ | ⟨_, _, O⟩
  · rw [h2] at e; cases e
  · rw [h2] at e; cases e
  · exact O
end
end Go.Proofs.YtakkhglbdljfiaaGreatDoor
