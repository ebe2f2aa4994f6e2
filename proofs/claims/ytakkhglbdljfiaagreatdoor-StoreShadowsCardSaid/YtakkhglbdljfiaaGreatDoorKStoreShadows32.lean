/- store: DeleteFunc, Sweep, Keep (printed by XStD.gen.py). -/
import Derived.Test.YtakkhglbdljfiaaGreatDoorKStoreShadows31
namespace Go.Proofs.YtakkhglbdljfiaaGreatDoor
attribute [local simp] BigFrame.eval_const BigFrame.eval_global BigFrame.eval_func
set_option linter.unusedVariables false
set_option linter.unusedSimpArgs false
open Go.RowKit Go.Maps

theorem x_delS {o : Oper} {ρ : Operand → Value} {mo x : Operand} {t k : TypeId} {p y v : Value} {w w' : World} (ho : o.op = .call { callee := .builtin .delete, args := #[mo, x], argTypes := #[t, k] }) (hm : ρ mo = p) (hx : ρ x = y) (h : (Builtin.delete_ #[t, k] o.type #[p, y]).run Tryz.prog w = .ok v w') : (execOp ρ o).run Tryz.prog w = .ok (.value v) w' := by
 unfold execOp
 simp only [ho, resolve, invoke, builtin, Sem.run_bind, Sem.run_pure, Result.andThen_ok, List.map_toArray, List.map_cons, List.map_nil, hm, hx, h]
theorem x_call2S {o : Oper} {ρ : Operand → Value} {x y z : Operand} {t t' : TypeId} {f : FuncId} {lb : Array Value} {u v : Value} {w : World} (ho : o.op = .call { callee := .value x, args := #[y, z], argTypes := #[t, t'] }) (hx : ρ x = .func (.func f) #[] lb) (hy : ρ y = u) (hz : ρ z = v) (h : (callFunc f (#[u, v] ++ lb)).run Tryz.prog w = .ok (.enter f (#[u, v] ++ lb)) w) : (execOp ρ o).run Tryz.prog w = .ok (.enter f (#[u, v] ++ lb)) w := by
 unfold execOp
 simp only [ho, resolve, hx, Sem.run_bind, Sem.run_pure, Result.andThen_ok, List.map_toArray, List.map_cons, List.map_nil, hy, hz]
 simpa [invoke, go_sem] using h
theorem VR.del {w : World} {b r n cnt : Nat} {m : Int → Option Value} {left : Int → Bool} (h : VR w b r n m left cnt) {t e : TypeId} (ht : Tryz.prog.underlying t = some (.map 3 e)) {c : Int} (hc : wfV c) (hl : left c = false) (ty : TypeId) :
 ∃ w' cnt', (Builtin.delete_ #[t, 3] ty #[.map (some b), .int .i64 c]).run Tryz.prog w = .ok (.tuple #[]) w' ∧ VR w' b r n (delV m c) left cnt' ∧ cnt' ≤ cnt ∧ Chg [b] w w' := by
 obtain ⟨D, l, h1, h2, h3⟩ := h
 obtain ⟨w', cnt', hrun, r1, r2, r3⟩ := h1.drop Z1f ht (Z37 hc) ty
 refine ⟨w', cnt', hrun, ⟨_, _, r1, h2.del c, fun i hi => ?_⟩, r2, Chg.of_grown r3.grown⟩
 rw [h3 i hi]
 by_cases e : i = c
 · subst e
   rw [WideAt.sameKey_self (keyV i), hl]
   rfl
 · rw [sameKey_ne (Z3l e)]
   simp
/-- A map, what is to go of what has come struck. -/
def curM (m : Int → Option Value) (pd : Int → Bool) (left : Int → Bool) : Int → Option Value := fun i => if left i = false ∧ pd i = true then none else m i
def restM (m : Int → Option Value) (pd : Int → Bool) : Int → Option Value := fun i => if pd i = true then none else m i
theorem curM_start (m : Int → Option Value) (pd : Int → Bool) : curM m pd (fun i => (m i).isSome) = m := by
 funext i
 unfold curM
 split
 · rename_i h
   cases hm : m i with
   | none => rfl
   | some v => have h1 : (m i).isSome = false := h.1; rw [hm] at h1; cases h1
 · rfl
theorem curM_stays {m : Int → Option Value} {pd left : Int → Bool} {x : Int} (h : pd x = false) : curM m pd (fun i => left i && !decide (i = x)) = curM m pd left := by
 funext i
 unfold curM
 by_cases e : i = x
 · subst e; simp [h]
 · simp [e]
theorem curM_goes {m : Int → Option Value} {pd left : Int → Bool} {x : Int} (h : pd x = true) : delV (curM m pd left) x = curM m pd (fun i => left i && !decide (i = x)) := by
 funext i
 unfold delV curM
 by_cases e : i = x
 · subst e; simp [h]
 · simp [e]
theorem StOk.only {P : Nat} {K : Int → Bool} {F : Int → Option Nd} {vs : List Value} {N : List Nd} {m : Int → Option Value} (s : StOk P K F vs N m) (pd : Int → Bool) {m' : Int → Option Value} (hm' : ∀ c : Int, (1 ≤ c ∧ c < P) → m' c = restM m pd c) (hm2 : ∀ c : Int, ¬ (1 ≤ c ∧ c < P) → m' c = none) : StOk P K (fun i => if pd i = true then none else F i) vs N m' := by
 have hF : ∀ i nd, (if pd i = true then none else F i) = some nd → pd i = false ∧ F i = some nd := fun i nd e => by
  cases hp : pd i with
  | true => rw [hp] at e; simp at e
  | false => rw [hp] at e; exact ⟨rfl, e⟩
 refine ⟨s.le, s.kr, fun i nd e => s.fr i nd (hF i nd e).2, fun i nd e => s.fg i nd (hF i nd e).2, fun i e => ?_, fun i nd e => ?_⟩
 · by_cases hr : 1 ≤ i ∧ i < P
   · rw [hm' i hr]
     unfold restM
     split
     · rfl
     · rename_i h
       rw [if_neg h] at e
       exact s.fm i e
   · exact hm2 i hr
 · obtain ⟨h1, h2⟩ := hF i nd e
   obtain ⟨j, B, cap, a1, a2, a3⟩ := s.fs i nd h2
   refine ⟨j, B, cap, a1, a2, ?_⟩
   rw [hm' i (s.fr i nd h2)]
   unfold restM
   rw [h1, if_neg (by decide)]
   exact a3
theorem StOk.out {P : Nat} {K : Int → Bool} {F : Int → Option Nd} {vs : List Value} {N : List Nd} {m : Int → Option Value} (s : StOk P K F vs N m) {c : Int} (h : ¬ (1 ≤ c ∧ c < P)) : F c = none ∧ m c = none := by
 have hF : F c = none := by
  cases hF : F c with
  | none => rfl
  | some nd => exact absurd (s.fr c nd hF) h
 exact ⟨hF, s.fm c hF⟩
theorem StOk.kept {P : Nat} {K : Int → Bool} {F : Int → Option Nd} {vs : List Value} {N : List Nd} {m : Int → Option Value} (s : StOk P K F vs N m) {K' : Int → Bool} (h : ∀ c : Int, K' c = true → 1 ≤ c ∧ c < P) : StOk P K' F vs N m := ⟨s.le, h, s.fr, s.fg, s.fm, s.fs⟩
/-- Which pages of a row can be. -/
def inP (P : Nat) (xs : List Int) : Int → Bool := fun c => decide (c ∈ xs ∧ 1 ≤ c ∧ c < (P : Nat))
theorem inP_no {P : Nat} {xs : List Int} {j : Nat} {x : Int} (hx : xs[j]? = some x) (h : ¬ (1 ≤ x ∧ x < (P : Nat))) : inP P (xs.take (j + 1)) = inP P (xs.take j) := by
 funext c
 unfold inP
 rw [List.take_add_one, hx]
 refine decide_eq_decide.2 ?_
 simp only [List.mem_append, Option.mem_toList, Option.some.injEq]
 constructor
 · rintro ⟨h1 | rfl, h2⟩
   · exact ⟨h1, h2⟩
   · exact absurd h2 h
 · rintro ⟨h1, h2⟩
   exact ⟨.inl h1, h2⟩
theorem inP_yes {P : Nat} {xs : List Int} {j : Nat} {x : Int} (hx : xs[j]? = some x) (h : 1 ≤ x ∧ x < (P : Nat)) : inP P (xs.take (j + 1)) = fun c => inP P (xs.take j) c || decide (c = x) := by
 funext c
 unfold inP
 rw [List.take_add_one, hx, Bool.eq_iff_iff]
 simp only [List.mem_append, Option.mem_toList, Option.some.injEq, Bool.or_eq_true, decide_eq_true_eq]
 constructor
 · rintro ⟨h1 | rfl, h2⟩
   · exact .inl ⟨h1, h2⟩
   · exact .inr rfl
 · rintro (⟨h1, h2⟩ | rfl)
   · exact ⟨.inl h1, h2⟩
   · exact ⟨.inr rfl, h⟩
theorem restM_goes {m : Int → Option Value} {P : Nat} {xs : List Int} {j : Nat} {x : Int} (hx : xs[j]? = some x) (h : 1 ≤ x ∧ x < (P : Nat)) : delV (restM m (inP P (xs.take j))) x = restM m (inP P (xs.take (j + 1))) := by
 rw [inP_yes hx h]
 funext c
 unfold delV restM
 by_cases e : c = x
 · subst e; simp
 · simp [e]

set_option maxRecDepth 100000 in
set_option maxHeartbeats 4000000 in
theorem ssw_any {bx ca : Nat} {A : Option Addr} {xs : List Int} (x lv : Int) (Bl : Option Addr) (ll cl : Nat) (W0 : World) (hb : W0.cell? ⟨bx, 0, none⟩ = some (.slice A xs.length ca)) (hrow : Row1 W0 A (Value.int .i64) xs) (hn : xs.length ≤ 1000000) : Calls Tryz.prog 53 #[.int .i64 x, .agg #[.int .i64 lv, .slice Bl ll cl], .pointer (some ⟨bx, 0, none⟩)] W0 fun e w' => e = .returned (.bool (!decide (x ∈ xs))) ∧ Ext W0 w' := by
 have O := OwnT.start W0
 obtain ⟨q, hq⟩ : ∃ b, decide (x ∈ xs) = b := ⟨_, rfl⟩
 refine Z0c Tryz.func53 rfl 10 rfl (by rfl) ?_
 intro a1 k hargs
 have e0 : a1.eval (.tmp 0) = .int .i64 x := hargs 0 _ rfl
 have e1 : a1.eval (.tmp 1) = .agg #[.int .i64 lv, .slice Bl ll cl] := hargs 1 _ rfl
 have e2 : a1.eval (.tmp 2) = .pointer (some ⟨bx, 0, none⟩) := hargs 2 _ rfl
 clear hargs
 refine wp_seq ?_
 refine wp_region_lit ?_
 have hE := Env.refl a1 [4, 5]
 refine Z1a O (cs := #[.int .i64 lv, .slice Bl ll cl]) (t := 47) 4 hE k rfl (by rfl) (by rfl) rfl (by simp [go_sem, ↓IntWalk.iteOmega, ev (hE.g e1)]) ?_
 clear O
 intro lb a2 w3 O hE e4 kp
 refine sd 5 hE k (Z01 rfl rfl) ?_
 intro a4 hE e5 kp
 refine wpList_nil ?_
 replace e0 := hE.g e0; replace e2 := hE.g e2
 replace k := k.env hE
 clear hE e1 e5
 refine Z00 (wp_seq ?_)
 refine wp_region_lit ?_
 have hE := Env.refl a4 [6, 7, 8, 9, 5]
 apply Z02 6 hE k rfl rfl rfl rfl
 case h =>
  simp [go_sem, ↓IntWalk.iteOmega, ev (hE.g e2), cellB O.below hb]
  with_reducible rfl
 intro a5 hE e6 kp
 refine zm 7 hE k e0 ?_
 intro a6 hE e7 kp
 replace e6 := kt kp e6
 apply Z06 8 hE k rfl (by rfl) (by rfl) rfl
 case h =>
  simp [go_sem, ↓IntWalk.iteOmega, ev e6, ev e7]
  with_reducible exact ⟨rfl, rfl⟩
 case hc => exact Z45 x _ (hrow.below O.below) (by omega)
 rintro e w8 ⟨he, RE⟩
 replace O := OwnT.ext O RE
 refine ⟨_, he.trans (congrArg (fun b => Ending.returned (.bool b)) hq), ?_⟩
 intro a7 hE e8 kp
 refine sd 9 hE k (Z21 rfl e8) ?_
 intro a9 hE e9 kp
 refine sd 5 hE k (Z01 rfl e9) ?_
 intro a10 hE e5 kp
 refine wpList_nil ?_
 replace k := k.env hE
 clear hE e0 e2
 refine Z00 ?_
 refine wp_ret ?_
 refine Z0i rfl k e5 ?_
 exact ⟨by rw [hq], O.below⟩
set_option maxRecDepth 100000 in
set_option maxHeartbeats 4000000 in
theorem sdel_any {H : Nat} {A0 : World} {R : List Thing} {fb bx ca : Nat} {A : Option Addr} {xs : List Int} {m : Int → Option Value} (w : World) (O : OwnT H A0 (tMap fb 512 m :: tBlk bx 40 #[.slice A xs.length ca] :: R) w) (hrow : ∀ W, OwnT H A0 (tBlk bx 40 #[.slice A xs.length ca] :: R) W → Row1 W A (Value.int .i64) xs) (hn : xs.length ≤ 1000000) (hm : ∀ i c, m i = some c → ∃ (lv : Int) (Bl : Option Addr) (ll cl : Nat), c = .agg #[.int .i64 lv, .slice Bl ll cl]) : Calls Tryz.prog 52 #[.map (some fb), .func (.func 53) #[] #[.pointer (some ⟨bx, 0, none⟩)]] w fun e w' => e = .returned (.tuple #[]) ∧ OwnT H A0 (tMap fb 512 (restM m fun i => !decide (i ∈ xs)) :: tBlk bx 40 #[.slice A xs.length ca] :: R) w' := by
 obtain ⟨pd, hpd⟩ : ∃ f : Int → Bool, (fun i => !decide (i ∈ xs)) = f := ⟨_, rfl⟩
 have hpx : ∀ x, (!decide (x ∈ xs)) = pd x := fun x => by rw [← hpd]
 rw [hpd]
 refine Z0c Tryz.func52 rfl 19 rfl (by rfl) ?_
 intro a1 k hargs
 have e0 : a1.eval (.tmp 0) = .map (some fb) := hargs 0 _ rfl
 have e1 : a1.eval (.tmp 1) = .func (.func 53) #[] #[.pointer (some ⟨bx, 0, none⟩)] := hargs 1 _ rfl
 clear hargs
 refine wp_seq ?_
 refine wp_region_lit ?_
 have hE := Env.refl a1 [6, 7]
 refine zm 6 hE k e0 ?_
 intro a2 hE e6 kp
 refine Z2a (o := ⟨some 7, _, _, _, _, _⟩) rfl (.tmp 6) 100 47 rfl Tryz.underlying100 e6 (OwnT.get O 0 rfl) ?_
 intro w9 cnt0 hr0 hE0 hs0
 replace O := OwnT.rangeOn O hr0 hE0
 clear hr0 hE0 hs0
 generalize w.heap.size = r at O ⊢
 refine put_F 7 hE k (by rfl) (by rfl) ?_
 intro a3 hE e7 kp
 refine wpList_nil ?_
 replace e0 := hE.g e0; replace e1 := hE.g e1
 replace k := k.env hE
 clear hE
 refine Z00 ?_
 refine wp_block ?_
 refine wp_loop (fun a w => Fr 19 a ∧ a.eval (.tmp 0) = .map (some fb) ∧ a.eval (.tmp 1) = .func (.func 53) #[] #[.pointer (some ⟨bx, 0, none⟩)] ∧ a.eval (.tmp 7) = .pointer (some ⟨r, 0, none⟩) ∧ ∃ (left : Int → Bool) (cnt : Nat), OwnT H A0 ((tVR fb r 512 (curM m pd left) left cnt) :: (tBlk bx 40 #[.slice A xs.length ca]) :: R) w) (fun a w => w.rangeLeft fb r) ?_ ?_
 · exact ⟨k, e0, e1, e7, (fun i => (m i).isSome), cnt0, (by rw [curM_start]; exact O)⟩
 intro a4 w5 hI
 clear k e0 e1 e7
 obtain ⟨k, e0, e1, e7, h_⟩ := hI
 clear O
 obtain ⟨left, cnt, O⟩ := h_
 have hcnt := VR.left_eq (OwnT.get O 0 rfl)

 rcases VR.next (OwnT.get O 0 rfl) _ with ⟨hl, hrun⟩ | ⟨x, c, w9, cnt9, hwx, hlx, hmx, hr9, hlt9, hC9, hs9, hen, hrun⟩
 · replace O := OwnT.rangeEnd O
   have O3 : OwnT H A0 (tMap fb 512 (restM m pd) :: tBlk bx 40 #[.slice A xs.length ca] :: R) w5 := O.call (F := []) (Chg.refl [] _) (by simp) (tMap fb 512 (restM m pd)) (VM.congr (OwnT.get O 0 rfl) (fun i hi => by unfold curM restM; rw [hl i hi]; simp)) (fun i hi => .inl hi)
   clear O
   have O := O3
   refine wp_seq ?_
   refine wp_region_lit ?_
   have hE := Env.refl a4 [8, 9]
   apply Z1y 8 hE k rfl (by rfl) (by rfl) rfl
   case h =>
    exact Z7x rfl (hE.g e7) hrun
   intro a6 hE e8 kp
   apply Z02 9 hE k rfl rfl rfl rfl
   case h =>
    simp [go_sem, ↓IntWalk.iteOmega, ev e8]
    with_reducible rfl
   intro a7 hE e9 kp
   refine wpList_nil ?_
   replace e0 := hE.g e0; replace e1 := hE.g e1; replace e7 := hE.g e7
   replace k := k.env hE
   clear hE
   refine Z00 (wp_seq ?_)
   refine Z07 e9 rfl ?_
   refine wp_exit ?_
   refine Z0p ?_
   refine Z0p ?_
   refine Z0z ?_
   refine end_F0 rfl k ?_
   exact ⟨rfl, O⟩
 · skip
   replace O := OwnT.rangeNext O hr9 hC9
   have hmx0 : m x = some c := by
    unfold curM at hmx
    split at hmx
    · cases hmx
    · exact hmx
   obtain ⟨lv, Bl, ll, cl, rfl⟩ := hm x c hmx0

   refine wp_seq ?_
   refine wp_region_lit ?_
   have hE := Env.refl a4 [8, 9]
   apply Z1y 8 hE k rfl (by rfl) (by rfl) rfl
   case h =>
    exact Z7x rfl (hE.g e7) hrun
   intro a8 hE e8 kp
   apply Z02 9 hE k rfl rfl rfl rfl
   case h =>
    simp [go_sem, ↓IntWalk.iteOmega, ev e8]
    with_reducible rfl
   intro a9 hE e9 kp
   refine wpList_nil ?_
   replace e0 := hE.g e0; replace e1 := hE.g e1; replace e7 := hE.g e7
   replace k := k.env hE
   clear hE
   refine Z00 (wp_seq ?_)
   refine Z0l e9 rfl ?_
   refine wp_skip ?_
   refine Z00 ?_
   refine wp_block ?_
   refine wp_seq ?_
   refine wp_region_lit ?_
   have hE := Env.refl a9 [10, 11, 12, 5, 4]
   refine sd 10 hE k (x_entry rfl (hE.g e7) hen) ?_
   intro a10 hE e10 kp
   apply Z02 11 hE k rfl rfl rfl rfl
   case h =>
    simp [go_sem, ↓IntWalk.iteOmega, ev e10]
    with_reducible rfl
   intro a11 hE e11 kp
   replace e10 := kt kp e10
   apply Z02 12 hE k rfl rfl rfl rfl
   case h =>
    simp [go_sem, ↓IntWalk.iteOmega, ev e10]
    with_reducible rfl
   intro a12 hE e12 kp
   replace e11 := kt kp e11
   refine Z1a O (cs := #[.int .i64 0, .slice none 0 0]) (t := 47) 5 hE k rfl (by rfl) (by rfl) rfl (by simp [go_sem, ↓IntWalk.iteOmega]) ?_
   clear O
   intro gl a13 w14 O hE e5 kp
   replace e11 := kt kp e11; replace e12 := kt kp e12
   refine sd 4 hE k (Z01 rfl e11) ?_
   intro a15 hE e4 kp
   replace e12 := kt kp e12; replace e5 := kt kp e5
   have q0 : w14.cell? ⟨gl, 0, none⟩ = some (.int .i64 0) := (OwnT.blk O 0 rfl).cell 0
   have z0 : w14.frozen? ⟨gl, 0, none⟩ = false := (OwnT.blk O 0 rfl).frozen 0
   have q1 : w14.cell? ⟨gl, 1, none⟩ = some (.slice none 0 0) := (OwnT.blk O 0 rfl).cell 1
   have z1 : w14.frozen? ⟨gl, 1, none⟩ = false := (OwnT.blk O 0 rfl).frozen 1
   refine Z0y (w' := ((w14.setCell ⟨gl, 0, none⟩ (.int .i64 lv)).setCell ⟨gl, 1, none⟩ (.slice Bl ll cl))) hE rfl rfl (by simp [go_sem, ↓IntWalk.iteOmega, ev e5, ev e12, q0, z0, q1, z1]) ?_
   replace O := OwnT.push 0 rfl (((OwnT.pull O 0 rfl).set 0 (.int .i64 lv)).set 1 (.slice Bl ll cl))
   clear q0 z0 q1 z1
   generalize ((w14.setCell ⟨gl, 0, none⟩ (.int .i64 lv)).setCell ⟨gl, 1, none⟩ (.slice Bl ll cl)) = w16 at O ⊢
   replace O : OwnT _ _ ((tBlk gl 47 #[.int .i64 lv, .slice Bl ll cl]) :: (tVR fb r 512 (curM m pd left) (fun i => left i && !decide (i = x)) cnt9) :: (tBlk bx 40 #[.slice A xs.length ca]) :: R) w16 := O
   refine wpList_nil ?_
   replace e0 := hE.g e0; replace e1 := hE.g e1; replace e7 := hE.g e7
   replace k := k.env hE
   clear hE e9 e12
   refine Z00 ?_
   obtain ⟨q, hq⟩ : ∃ b, pd x = b := ⟨_, rfl⟩
   have Ob := OwnT.pickR (L := [_, _, _]) (R := R) O [2] (by decide)
   refine wp_seq ?_
   refine wp_region_lit ?_
   have hE := Env.refl a15 [13, 14, 15, 16]
   refine zm 13 hE k e1 ?_
   intro a17 hE e13 kp
   refine zm 14 hE k e4 ?_
   intro a18 hE e14 kp
   replace e13 := kt kp e13
   apply Z02 15 hE k rfl rfl rfl rfl
   case h =>
    have q0 : w16.cell? ⟨gl, 0, none⟩ = some (.int .i64 lv) := (OwnT.blk O 0 rfl).cell 0
    have q1 : w16.cell? ⟨gl, 1, none⟩ = some (.slice Bl ll cl) := (OwnT.blk O 0 rfl).cell 1
    simp [go_sem, ↓IntWalk.iteOmega, ev (hE.g e5), q0, q1]
    with_reducible rfl
   intro a19 hE e15 kp
   replace e13 := kt kp e13; replace e14 := kt kp e14
   apply Z06 16 hE k rfl (by rfl) (by rfl) rfl
   case h =>
    exact x_call2S rfl e13 e14 e15 (Go.Proofs.enters_of Tryz.func53 (by kernel_rfl) rfl _ _)
   case hc => exact ssw_any x lv Bl ll cl _ ((OwnT.blk O 2 rfl).cell 0) (hrow _ Ob) hn
   rintro e w21 ⟨he, RE⟩
   rw [hpx, hq] at he
   replace O := OwnT.ext O RE
   refine ⟨_, he, ?_⟩
   intro a20 hE e16 kp
   refine wpList_nil ?_
   replace e0 := hE.g e0; replace e1 := hE.g e1; replace e4 := hE.g e4; replace e7 := hE.g e7
   replace k := k.env hE
   clear hE e5
   refine Z00 ?_
   cases q with
   | false =>
    refine Z07 e16 (rfl) ?_
    clear e4 e16
    refine wp_skip ?_
    refine Z0n ?_
    refine Z00 ?_
    replace O := O.tail
    rw [← curM_stays (left := left) hq] at O
    refine ⟨⟨k, e0, e1, e7, _, cnt9, O⟩, ?_⟩
    rw [hcnt, VR.left_eq (OwnT.get O 0 rfl)]; exact hlt9
   | true =>
    refine Z0l e16 (rfl) ?_
    clear e16
    obtain ⟨w8, cnt8, hrun8, hV8, hlt8, hC8⟩ := VR.del (OwnT.get O 1 rfl) Tryz.underlying100 hwx (c := x) (by simp) _
    refine wp_region_lit ?_
    have hE := Env.refl a20 [17, 18]
    refine zm 17 hE k e0 ?_
    intro a22 hE e17 kp
    refine zm 18 hE k e4 ?_
    intro a23 hE e18 kp
    replace e17 := kt kp e17
    refine Z42 (w' := w8) rfl rfl (by exact x_delS rfl e17 e18 hrun8) ?_
    replace O := OwnT.push (L := _ :: _ :: _ :: R) 1 rfl (OwnT.call (OwnT.pull O 1 rfl) hC8 (fun i hi => by simp at hi; subst hi; simp [tVR]) (tVR fb r 512 (delV (curM m pd left) x) (fun i => left i && !decide (i = x)) cnt8) hV8 (fun i hi => .inl hi))
    rw [curM_goes hq] at O
    clear hV8 hC8 hrun8
    refine wpList_nil ?_
    replace e0 := hE.g e0; replace e1 := hE.g e1; replace e7 := hE.g e7
    replace k := k.env hE
    clear hE e4 e17 e18
    refine Z0n ?_
    refine Z00 ?_
    replace O := O.tail
    refine ⟨⟨k, e0, e1, e7, _, cnt8, O⟩, ?_⟩
    rw [hcnt, VR.left_eq (OwnT.get O 0 rfl)]; omega
set_option maxRecDepth 100000 in
set_option maxHeartbeats 4000000 in
theorem Z1x {H : Nat} {A0 : World} {R : List Thing} {sb p kb fb : Nat} {h : Hd} {at_ : Int} {K : Int → Bool} {F : Int → Option Nd} {m : Int → Option Value} {vs : List Value} {N : List Nd} {P : Nat} {A : Option Addr} {ca : Nat} {xs : List Int} (w : World) (O : OwnT H A0 (stL sb p h at_ kb fb K m vs N R) w) (ok : StOk P K F vs N m) (hrow : ∀ W, OwnT H A0 R W → Row1 W A (Value.int .i64) xs) (hn : xs.length ≤ 1000000) : Calls Tryz.prog 16 #[.pointer (some ⟨sb, 0, none⟩), .slice A xs.length ca] w fun e w' => ∃ m', e = .returned (.tuple #[]) ∧ OwnT H A0 (stL sb p h at_ kb fb K m' vs N R) w' ∧ StOk P K (fun i => if (!decide (i ∈ xs)) = true then none else F i) vs N m' := by
 refine Z0c Tryz.func16 rfl 12 rfl (by rfl) ?_
 intro a1 k hargs
 have e0 : a1.eval (.tmp 0) = .pointer (some ⟨sb, 0, none⟩) := hargs 0 _ rfl
 have e1 : a1.eval (.tmp 1) = .slice A xs.length ca := hargs 1 _ rfl
 clear hargs
 refine wp_seq ?_
 refine wp_region_lit ?_
 have hE := Env.refl a1 [3]
 refine Z1a O (cs := #[.slice A xs.length ca]) (t := 40) 3 hE k rfl (by rfl) (by rfl) rfl (by simp [go_sem, ↓IntWalk.iteOmega, ev (hE.g e1)]) ?_
 clear O
 intro bx a2 w3 O hE e3 kp
 refine wpList_nil ?_
 replace e0 := hE.g e0
 replace k := k.env hE
 clear hE e1
 refine Z00 (wp_seq ?_)
 refine wp_region_lit ?_
 have hE := Env.refl a2 [4, 5]
 refine zm 4 hE k e0 ?_
 intro a4 hE e4 kp
 apply Z02 5 hE k rfl rfl rfl rfl
 case h =>
  simp [go_sem, ↓IntWalk.iteOmega, ev e4]
  with_reducible rfl
 intro a5 hE e5 kp
 refine wpList_nil ?_
 replace e0 := hE.g e0; replace e3 := hE.g e3
 replace k := k.env hE
 clear hE
 refine Z00 ?_
 refine Z0l e5 rfl ?_
 refine wp_region_lit ?_
 have hE := Env.refl a5 [6, 7, 8, 9, 10, 11]
 refine zm 6 hE k e0 ?_
 intro a6 hE e6 kp
 refine sd 7 hE k (Z0r rfl e6) ?_
 intro a7 hE e7 kp
 apply Z02 8 hE k rfl rfl rfl rfl
 case h =>
  simp [go_sem, ↓IntWalk.iteOmega, ev e7]
  with_reducible rfl
 intro a8 hE e8 kp
 apply Z02 9 hE k rfl rfl rfl rfl
 case h =>
  have q0 : w3.cell? ⟨sb, 8, none⟩ = some (.map (some fb)) := (OwnT.blk O 1 rfl).cell 8
  simp [go_sem, ↓IntWalk.iteOmega, ev e8, q0]
  with_reducible rfl
 intro a9 hE e9 kp
 apply Z02 10 hE k rfl rfl rfl rfl
 case h =>
  simp [go_sem, ↓IntWalk.iteOmega, ev (hE.g e3)]
  with_reducible rfl
 intro a10 hE e10 kp
 replace e9 := kt kp e9
 apply Z06 11 hE k rfl (by rfl) (by rfl) rfl
 case h =>
  simp [go_sem, ↓IntWalk.iteOmega, ev e9, ev e10]
  with_reducible exact ⟨rfl, rfl⟩
 case hc => exact sdel_any (R := tBlk sb 102 #[.pointer (some ⟨p, 0, none⟩), .int .u64 h.g, .int .i64 h.r, .int .i64 h.a, .int .i64 h.b, .int .i64 h.c, .int .i64 at_, .map (some kb), .map (some fb)] :: tMap kb 512 (keptV K) :: tPool vs N :: R) _ (OwnT.pickR (L := [_, _, _, _, _]) (R := R) O [3, 0, 1, 2, 4] (by decide)) (fun W OW => hrow W (OwnT.pickR (L := [_, _, _, _]) (R := R) OW [] (by decide))) hn (fun i c hc => by cases hF : F i with | none => rw [ok.fm i hF] at hc; cases hc | some nd => obtain ⟨j, B', cap', -, -, e⟩ := ok.fs i nd hF; rw [e] at hc; injection hc with hc; exact ⟨_, _, _, _, hc.symm⟩)
 clear O
 rintro e w12 ⟨rfl, O⟩
 refine ⟨_, rfl, ?_⟩
 intro a11 hE e11 kp
 refine wpList_nil ?_
 replace k := k.env hE
 clear hE e0 e3 e5 e11
 have O2 := OwnT.pickR (L := [_, _, _, _, _]) (R := R) O [2, 3, 0, 4] (by decide)
 refine end_F0 rfl k ?_
 exact ⟨_, rfl, O2, ok.only (fun i => !decide (i ∈ xs)) (fun c _ => rfl) (fun c hc => by unfold restM; rw [(ok.out hc).2]; split <;> rfl)⟩
set_option maxRecDepth 100000 in
set_option maxHeartbeats 4000000 in
theorem Z6c {H : Nat} {A0 : World} {R : List Thing} {sb p kb fb mb n cap bm : Nat} {B : Option Addr} {S : List Sec} {L : Int → Option Sec} {h : Hd} {at_ : Int} {K : Int → Bool} {m : Int → Option Value} {F : Int → Option Nd} {vs : List Value} {N : List Nd} {A : Option Addr} {ca : Nat} {xs : List Int} (w : World) (O : OwnT H A0 (stL sb p h at_ kb fb K m vs N (tDisc p mb B n cap bm S L :: R)) w) (ok : StOk (pgs n) K F vs N m) (hrow : ∀ W, OwnT H A0 R W → Row1 W A (Value.int .i64) xs) (hn : xs.length ≤ 1000000) : Calls Tryz.prog 23 #[.pointer (some ⟨sb, 0, none⟩), .slice A xs.length ca] w fun e w' => ∃ m', e = .returned (.tuple #[]) ∧ OwnT H A0 (stL sb p h at_ kb fb ((inP (pgs n) xs)) m' vs N (tDisc p mb B n cap bm S L :: R)) w' ∧ StOk (pgs n) (inP (pgs n) xs) (fun i => if inP (pgs n) xs i = true then none else F i) vs N m' := by
 have hP := ok.le
 refine Z0c Tryz.func23 rfl 32 rfl (by rfl) ?_
 intro a1 k hargs
 have e0 : a1.eval (.tmp 0) = .pointer (some ⟨sb, 0, none⟩) := hargs 0 _ rfl
 have e1 : a1.eval (.tmp 1) = .slice A xs.length ca := hargs 1 _ rfl
 clear hargs
 obtain ⟨w8, hcl, hV, hC⟩ := Z6r (OwnT.get O 1 rfl) 99 4 _ Tryz.underlying99
 refine wp_seq ?_
 refine wp_seq ?_
 refine wp_region_lit ?_
 have hE := Env.refl a1 [6, 7]
 refine zm 6 hE k e0 ?_
 intro a2 hE e6 kp
 apply Z02 7 hE k rfl rfl rfl rfl
 case h =>
  simp [go_sem, ↓IntWalk.iteOmega, ev e6]
  with_reducible rfl
 intro a3 hE e7 kp
 refine wpList_nil ?_
 replace e0 := hE.g e0; replace e1 := hE.g e1
 replace k := k.env hE
 clear hE
 refine Z00 ?_
 refine Z07 e7 rfl ?_
 refine wp_skip ?_
 refine Z00 (wp_seq ?_)
 refine wp_region_lit ?_
 have hE := Env.refl a3 [8, 9, 10, 11]
 refine zm 8 hE k e0 ?_
 intro a4 hE e8 kp
 refine sd 9 hE k (Z0r rfl e8) ?_
 intro a5 hE e9 kp
 apply Z02 10 hE k rfl rfl rfl rfl
 case h =>
  simp [go_sem, ↓IntWalk.iteOmega, ev e9]
  with_reducible rfl
 intro a6 hE e10 kp
 apply Z02 11 hE k rfl rfl rfl rfl
 case h =>
  have q0 : w.cell? ⟨sb, 7, none⟩ = some (.map (some kb)) := (OwnT.blk O 0 rfl).cell 7
  simp [go_sem, ↓IntWalk.iteOmega, ev e10, q0]
  with_reducible rfl
 intro a7 hE e11 kp
 refine Z42 (w' := w8) rfl rfl (by exact x_clear rfl e11 hcl) ?_
 replace O := OwnT.push (L := _ :: _ :: _ :: _ :: _ :: R) 1 rfl (OwnT.mapSet (OwnT.pull O 1 rfl) (VM.mono hV (Nat.zero_le 512)) hC)
 clear hV hC hcl
 rw [← keptV_none] at O
 refine wpList_nil ?_
 replace e0 := hE.g e0; replace e1 := hE.g e1
 replace k := k.env hE
 clear hE e7 e11
 refine Z00 (wp_seq ?_)
 refine wp_region_lit ?_
 have hE := Env.refl a7 [12, 13, 14]
 refine zm 12 hE k e1 ?_
 intro a8 hE e12 kp
 refine sd 13 hE k (Z2r Tryz.underlying40 rfl e12) ?_
 intro a9 hE e13 kp
 replace e12 := kt kp e12
 refine sd 14 hE k (Z03 rfl rfl) ?_
 intro a10 hE e14 kp
 replace e12 := kt kp e12; replace e13 := kt kp e13
 refine wpList_nil ?_
 replace e0 := hE.g e0
 replace k := k.env hE
 clear hE e1
 refine Z00 ?_
 refine wp_block ?_
 have hst : inP (pgs n) (xs.take 0) = fun _ => false := by funext c; unfold inP; simp
 have hst2 : restM m (inP (pgs n) (xs.take 0)) = m := by rw [hst]; rfl
 rw [← hst, ← hst2] at O
 refine wp_loop (fun a w => Fr 32 a ∧ a.eval (.tmp 0) = .pointer (some ⟨sb, 0, none⟩) ∧ a.eval (.tmp 12) = .slice A xs.length ca ∧ a.eval (.tmp 13) = .int .i64 ↑xs.length ∧ ∃ (j : Nat), a.eval (.tmp 14) = .int .i64 ↑j ∧ j ≤ xs.length ∧ OwnT H A0 ((tBlk sb 102 #[.pointer (some ⟨p, 0, none⟩), .int .u64 h.g, .int .i64 h.r, .int .i64 h.a, .int .i64 h.b, .int .i64 h.c, .int .i64 at_, .map (some kb), .map (some fb)]) :: (tMap kb 512 (keptV (inP (pgs n) (xs.take j)))) :: (tMap fb 512 (restM m (inP (pgs n) (xs.take j)))) :: (tPool vs N) :: (tDisc p mb B n cap bm S L) :: R) w) (fun a w => xs.length - (intOf (a.eval (.tmp 14))).toNat) ?_ ?_
 · exact ⟨k, e0, e12, e13, 0, e14, Nat.zero_le _, O⟩
 intro a11 w12 hI
 clear k e0 e12 e13
 obtain ⟨k, e0, e12, e13, h_⟩ := hI
 clear O e14
 obtain ⟨j, e14, hj, O⟩ := h_
 have mj := e14

 by_cases hlt : j < xs.length
 rotate_left
 · have hjx : xs.take j = xs := List.take_of_length_le (by omega)
   rw [hjx] at O
   refine wp_seq ?_
   refine wp_region_lit ?_
   have hE := Env.refl a11 [15]
   refine sd 15 hE k (Z08 (Z1j rfl (hE.g e14) (hE.g e13)) (decide_eq_false (by omega))) ?_
   intro a13 hE e15 kp
   refine wpList_nil ?_
   replace e0 := hE.g e0; replace e12 := hE.g e12; replace e13 := hE.g e13; replace e14 := hE.g e14
   replace k := k.env hE
   clear hE
   refine Z00 (wp_seq ?_)
   refine Z07 e15 rfl ?_
   refine wp_exit ?_
   refine Z0p ?_
   refine Z0p ?_
   refine Z0z ?_
   refine end_F0 rfl k ?_
   exact ⟨_, rfl, O, (ok.only (inP (pgs n) xs) (fun c _ => rfl) (fun c hc => by unfold restM; rw [(ok.out hc).2]; split <;> rfl)).kept (fun c hc => (decide_eq_true_eq.mp hc).2)⟩
 have hzI : (j : Int) < (xs.length : Int) := by omega
 obtain ⟨x, hx⟩ : ∃ x, xs[j]? = some x := ⟨_, List.getElem?_eq_getElem hlt⟩
 obtain ⟨bq, oq, hA, hcx⟩ := Z5u (hrow _ (OwnT.pickR (L := [_, _, _, _, _]) (R := R) O [] (by decide))) hx
 subst hA
 have hcx := hcx _ (Ext.refl _)

 refine wp_seq ?_
 refine wp_region_lit ?_
 have hE := Env.refl a11 [15]
 refine sd 15 hE k (Z08 (Z1j rfl (hE.g e14) (hE.g e13)) (decide_eq_true (by omega))) ?_
 intro a14 hE e15 kp
 refine wpList_nil ?_
 replace e0 := hE.g e0; replace e12 := hE.g e12; replace e13 := hE.g e13; replace e14 := hE.g e14
 replace k := k.env hE
 clear hE
 refine Z00 (wp_seq ?_)
 refine Z0l e15 rfl ?_
 refine wp_skip ?_
 refine Z00 (wp_seq ?_)
 refine wp_block ?_
 refine wp_seq ?_
 refine wp_region_lit ?_
 have hE := Env.refl a14 [16, 17, 5]
 apply Z02 16 hE k rfl rfl rfl rfl
 case h =>
  simp [go_sem, ↓IntWalk.iteOmega, ev (hE.g e12), ev (hE.g e14)]
  with_reducible rfl
 intro a15 hE e16 kp
 apply Z02 17 hE k rfl rfl rfl rfl
 case h =>
  simp [go_sem, ↓IntWalk.iteOmega, ev e16, hcx]
  with_reducible rfl
 intro a16 hE e17 kp
 refine sd 5 hE k (Z01 rfl e17) ?_
 intro a17 hE e5 kp
 refine wpList_nil ?_
 replace e0 := hE.g e0; replace e12 := hE.g e12; replace e13 := hE.g e13; replace e14 := hE.g e14
 replace k := k.env hE
 clear hE e15
 refine Z00 ?_
 by_cases hin : 1 ≤ x ∧ x < (pgs n : Nat)
 rotate_left
 · rw [← inP_no hx hin] at O
   refine wp_seq ?_
   refine wp_region_lit ?_
   have hE := Env.refl a17 [18, 19, 20]
   refine zm 18 hE k e0 ?_
   intro a18 hE e18 kp
   refine zm 19 hE k e5 ?_
   intro a19 hE e19 kp
   replace e18 := kt kp e18
   apply Z06 20 hE k rfl (by rfl) (by rfl) rfl
   case h =>
    simp [go_sem, ↓IntWalk.iteOmega, ev e18, ev e19]
    with_reducible exact ⟨rfl, rfl⟩
   case hc => exact Z2g x _ (OwnT.stR O) (OwnT.disc (OwnT.pull O 4 rfl))
   rintro e _ ⟨rfl, rfl⟩
   refine ⟨_, congrArg (fun b => Ending.returned (.bool b)) (decide_eq_false hin), ?_⟩
   intro a20 hE e20 kp
   refine wpList_nil ?_
   replace e0 := hE.g e0; replace e5 := hE.g e5; replace e12 := hE.g e12; replace e13 := hE.g e13; replace e14 := hE.g e14
   replace k := k.env hE
   clear hE
   refine Z00 ?_
   refine Z07 e20 rfl ?_
   refine wp_skip ?_
   refine Z0n ?_
   refine Z00 ?_
   refine wp_region_lit ?_
   have hE := Env.refl a20 [31, 14]
   refine sd 31 hE k (Z1v rfl e14 rfl (by omega)) ?_
   intro a21 hE e31 kp
   replace e14 := kt kp e14
   refine sd 14 hE k (Z03 rfl e31) ?_
   intro a22 hE e14 kp
   refine wpList_nil ?_
   replace e0 := hE.g e0; replace e12 := hE.g e12; replace e13 := hE.g e13
   replace k := k.env hE
   clear hE e5 e20
   refine Z00 ?_
   refine ⟨⟨k, e0, e12, e13, j + 1, e14, by omega, O⟩, ?_⟩
   rw [e14, mj]; simp only [intOf]; omega
 have hwf := Z3r (a := x) (by omega) (by omega)
 refine wp_seq ?_
 refine wp_region_lit ?_
 have hE := Env.refl a17 [18, 19, 20]
 refine zm 18 hE k e0 ?_
 intro a23 hE e18 kp
 refine zm 19 hE k e5 ?_
 intro a24 hE e19 kp
 replace e18 := kt kp e18
 apply Z06 20 hE k rfl (by rfl) (by rfl) rfl
 case h =>
  simp [go_sem, ↓IntWalk.iteOmega, ev e18, ev e19]
  with_reducible exact ⟨rfl, rfl⟩
 case hc => exact Z2g x _ (OwnT.stR O) (OwnT.disc (OwnT.pull O 4 rfl))
 rintro e _ ⟨rfl, rfl⟩
 refine ⟨_, congrArg (fun b => Ending.returned (.bool b)) (decide_eq_true hin), ?_⟩
 intro a25 hE e20 kp
 refine wpList_nil ?_
 replace e0 := hE.g e0; replace e5 := hE.g e5; replace e12 := hE.g e12; replace e13 := hE.g e13; replace e14 := hE.g e14
 replace k := k.env hE
 clear hE
 refine Z00 ?_
 refine Z0l e20 rfl ?_
 obtain ⟨w8, hcl, hV, hC⟩ := VM.store (OwnT.get O 1 rfl) Tryz.underlying99 (by unfold maxLen; omega) hwf (.bool true)
 rw [keptV_put, ← inP_yes hx hin] at hV
 replace hV := hV.tight 0 512 (fun i hi hs => by rw [Z8b] at hs; have := (decide_eq_true_eq.mp hs).2; omega)

 refine wp_seq ?_
 refine wp_region_lit ?_
 have hE := Env.refl a25 [21, 22, 23, 24, 25]
 refine zm 21 hE k e0 ?_
 intro a26 hE e21 kp
 refine sd 22 hE k (Z0r rfl e21) ?_
 intro a27 hE e22 kp
 apply Z02 23 hE k rfl rfl rfl rfl
 case h =>
  simp [go_sem, ↓IntWalk.iteOmega, ev e22]
  with_reducible rfl
 intro a28 hE e23 kp
 apply Z02 24 hE k rfl rfl rfl rfl
 case h =>
  have q0 : w12.cell? ⟨sb, 7, none⟩ = some (.map (some kb)) := (OwnT.blk O 0 rfl).cell 7
  simp [go_sem, ↓IntWalk.iteOmega, ev e23, q0]
  with_reducible rfl
 intro a29 hE e24 kp
 refine zm 25 hE k e5 ?_
 intro a30 hE e25 kp
 replace e24 := kt kp e24
 refine Z0y (w' := w8) hE rfl rfl ?_ ?_
 · exact Z7y rfl e24 e25 rfl hcl
 replace O := OwnT.push (L := _ :: _ :: _ :: _ :: _ :: R) 1 rfl (OwnT.mapSet (OwnT.pull O 1 rfl) hV hC)
 clear hV hC hcl
 refine wpList_nil ?_
 replace e0 := hE.g e0; replace e5 := hE.g e5; replace e12 := hE.g e12; replace e13 := hE.g e13; replace e14 := hE.g e14
 replace k := k.env hE
 clear hE e20 e24 e25
 refine Z00 ?_
 obtain ⟨w7, hdl, hV, hC⟩ := VM.drop (OwnT.get O 2 rfl) Tryz.underlying100 hwf _
 rw [restM_goes hx hin] at hV
 refine wp_region_lit ?_
 have hE := Env.refl a30 [26, 27, 28, 29, 30]
 refine zm 26 hE k e0 ?_
 intro a31 hE e26 kp
 refine sd 27 hE k (Z0r rfl e26) ?_
 intro a32 hE e27 kp
 apply Z02 28 hE k rfl rfl rfl rfl
 case h =>
  simp [go_sem, ↓IntWalk.iteOmega, ev e27]
  with_reducible rfl
 intro a33 hE e28 kp
 apply Z02 29 hE k rfl rfl rfl rfl
 case h =>
  have q0 : w8.cell? ⟨sb, 8, none⟩ = some (.map (some fb)) := (OwnT.blk O 0 rfl).cell 8
  simp [go_sem, ↓IntWalk.iteOmega, ev e28, q0]
  with_reducible rfl
 intro a34 hE e29 kp
 refine zm 30 hE k e5 ?_
 intro a35 hE e30 kp
 replace e29 := kt kp e29
 refine Z42 (w' := w7) rfl rfl (by exact x_delS rfl e29 e30 hdl) ?_
 replace O := OwnT.push (L := _ :: _ :: _ :: _ :: _ :: R) 2 rfl (OwnT.mapSet (OwnT.pull O 2 rfl) hV hC)
 clear hV hC hdl
 refine wpList_nil ?_
 replace e0 := hE.g e0; replace e12 := hE.g e12; replace e13 := hE.g e13; replace e14 := hE.g e14
 replace k := k.env hE
 clear hE e5 e29 e30
 refine Z0n ?_
 refine Z00 ?_
 refine wp_region_lit ?_
 have hE := Env.refl a35 [31, 14]
 refine sd 31 hE k (Z1v rfl e14 rfl (by omega)) ?_
 intro a36 hE e31 kp
 replace e14 := kt kp e14
 refine sd 14 hE k (Z03 rfl e31) ?_
 intro a37 hE e14 kp
 refine wpList_nil ?_
 replace e0 := hE.g e0; replace e12 := hE.g e12; replace e13 := hE.g e13
 replace k := k.env hE
 clear hE
 refine Z00 ?_
 refine ⟨⟨k, e0, e12, e13, j + 1, e14, by omega, O⟩, ?_⟩
 rw [e14, mj]; simp only [intOf]; omega
end Go.Proofs.YtakkhglbdljfiaaGreatDoor
