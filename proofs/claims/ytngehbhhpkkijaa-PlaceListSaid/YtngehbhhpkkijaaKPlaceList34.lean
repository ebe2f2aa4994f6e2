/- places' law: PlaceList (printed by XPlL.gen.py). -/
import Derived.Test.YtngehbhhpkkijaaKPlaceList25
import Derived.Test.YtngehbhhpkkijaaKPlaceList26
import Derived.Test.YtngehbhhpkkijaaKPlaceList28
import Derived.Test.YtngehbhhpkkijaaKPlaceList33
namespace Go.Proofs.Ytngehbhhpkkijaa
attribute [local simp] BigFrame.eval_const BigFrame.eval_global BigFrame.eval_func
set_option linter.unusedVariables false
set_option linter.unusedSimpArgs false
open Go.RowKit Go.Maps


theorem sp_fields : Try.prog.underlying 108 = some (.struct (Try.prog.fieldsOf 108)) := by kernel_rfl
theorem sp_held : Try.prog.stoodInHeld 108 = false := by kernel_rfl
theorem part_s0 (w : World) (x y : Value) : (part 3 #[x, y] 0).run Try.prog w = .ok x w := by kernel_rfl
theorem part_s1 (w : World) (x y : Value) : (part 3 #[x, y] 1).run Try.prog w = .ok y w := by kernel_rfl
theorem eq_sp (d : Nat) (a b a' b' : Int) (w : World) : (Op.equalIn (d + 2) 108 (.agg #[.int .i64 a, .int .i64 b]) (.agg #[.int .i64 a', .int .i64 b'])).run Try.prog w = .ok (decide (a = a' ∧ b = b')) w := by
 have h0 := fun W x y => run_equalIn_int (P := Try.prog) W d 3 .i64 .i64 x y Try.underlying3
 rw [run_equalIn_struct w (d + 1) _ _ _ sp_fields sp_held]
 have hf : (Try.prog.fieldsOf 108).toList.map (fun f => (f.name, f.type, f.offset)) = [("Tier", 3, 0), ("Slot", 3, 1)] := by kernel_rfl
 generalize (Try.prog.fieldsOf 108).toList = L at hf ⊢
 obtain ⟨f, g, rfl⟩ : ∃ f g, L = [f, g] := by
  rcases L with _ | ⟨f, _ | ⟨g, _ | ⟨h, L⟩⟩⟩
  · exact absurd (congrArg List.length hf) (by simp)
  · exact absurd (congrArg List.length hf) (by simp)
  · exact ⟨f, g, rfl⟩
  · exact absurd (congrArg List.length hf) (by simp)
 simp only [List.map_cons, List.map_nil, List.cons.injEq, Prod.mk.injEq, and_true] at hf
 obtain ⟨⟨n1, t1, o1⟩, n2, t2, o2⟩ := hf
 by_cases ha : a = a' <;> by_cases hb : b = b' <;> simp [Op.eqFields, n1, n2, t1, t2, o1, o2, Sem.run_bind, Sem.run_ite, part_s0, part_s1, h0, ha, hb]
theorem pl_fields : Try.prog.underlying 110 = some (.struct (Try.prog.fieldsOf 110)) := by kernel_rfl
theorem pl_held : Try.prog.stoodInHeld 110 = false := by kernel_rfl
theorem part_l0 (w : World) (x y z : Value) : (part 3 #[x, y, z] 0).run Try.prog w = .ok x w := by kernel_rfl
theorem part_l1 (w : World) (x y z : Value) : (part 108 #[x, y, z] 1).run Try.prog w = .ok (.agg #[y, z]) w := by kernel_rfl
theorem eq_pl (d : Nat) (c a b c' a' b' : Int) (w : World) : (Op.equalIn (d + 4) 110 (.agg #[.int .i64 c, .int .i64 a, .int .i64 b]) (.agg #[.int .i64 c', .int .i64 a', .int .i64 b'])).run Try.prog w = .ok (decide (c = c' ∧ a = a' ∧ b = b')) w := by
 have h0 := fun W x y => run_equalIn_int (P := Try.prog) W (d + 2) 3 .i64 .i64 x y Try.underlying3
 have h1 := fun W => eq_sp (d + 1) a b a' b' W
 rw [run_equalIn_struct w (d + 3) _ _ _ pl_fields pl_held]
 have hf : (Try.prog.fieldsOf 110).toList.map (fun f => (f.name, f.type, f.offset)) = [("Chunk", 3, 0), ("Spot", 108, 1)] := by kernel_rfl
 generalize (Try.prog.fieldsOf 110).toList = L at hf ⊢
 obtain ⟨f, g, rfl⟩ : ∃ f g, L = [f, g] := by
  rcases L with _ | ⟨f, _ | ⟨g, _ | ⟨h, L⟩⟩⟩
  · exact absurd (congrArg List.length hf) (by simp)
  · exact absurd (congrArg List.length hf) (by simp)
  · exact ⟨f, g, rfl⟩
  · exact absurd (congrArg List.length hf) (by simp)
 simp only [List.map_cons, List.map_nil, List.cons.injEq, Prod.mk.injEq, and_true] at hf
 obtain ⟨⟨n1, t1, o1⟩, n2, t2, o2⟩ := hf
 rw [Bool.decide_and (c = c')]
 generalize decide (a = a' ∧ b = b') = r at h1 ⊢
 by_cases ha : c = c' <;> cases r <;> simp [Op.eqFields, n1, n2, t1, t2, o1, o2, Sem.run_bind, Sem.run_ite, part_l0, part_l1, h0, h1, ha]
section
variable {w : World} {o : Oper} {ρ : Operand → Value} {u : TypeId} {x y : Operand} {a b c a' b' c' : Int}
theorem x_neSp (ho : o.op = .binOp .neq 108 x y u) (hx : ρ x = .agg #[.int .i64 a, .int .i64 b]) (hy : ρ y = .agg #[.int .i64 a', .int .i64 b']) : (execOp ρ o).run Try.prog w = .ok (.value (.bool (decide (¬ (a = a' ∧ b = b'))))) w := by
 have h := eq_sp 9998 a b a' b' w
 unfold execOp
 simp only [ho, hx, hy]
 by_cases e1 : a = a' <;> by_cases e2 : b = b' <;> simp [go_sem, h, e1, e2]
theorem x_nePl (ho : o.op = .binOp .neq 110 x y u) (hx : ρ x = .agg #[.int .i64 c, .int .i64 a, .int .i64 b]) (hy : ρ y = .agg #[.int .i64 c', .int .i64 a', .int .i64 b']) : (execOp ρ o).run Try.prog w = .ok (.value (.bool (decide (¬ (c = c' ∧ a = a' ∧ b = b'))))) w := by
 have h := eq_pl 9996 c a b c' a' b' w
 unfold execOp
 simp only [ho, hx, hy]
 by_cases e0 : c = c' <;> by_cases e1 : a = a' <;> by_cases e2 : b = b' <;> simp [go_sem, h, e0, e1, e2]
end
theorem pl_row {w : World} {B : Option Addr} {n c : Nat} {ps : List PlD} (h : (tPls (.slice B n c) ps).holds w) : Row w B 3 plC ps := by
 obtain ⟨B2, c2, e, _, _, _, hr⟩ := ownsRow_Row (enc := plC) (X := ps) (fun _ => rfl) (by decide) h
 injection e with e1
 subst e1
 exact hr
theorem pl_cells {w : World} {B : Option Addr} {n c : Nat} {ps : List PlD} (h : (tPls (.slice B n c) ps).holds w) {i : Nat} {x : PlD} (hi : ps[i]? = some x) : ∃ g, B = some ⟨g, 0, none⟩ ∧ w.cell? ⟨g, i * 3, none⟩ = some (.int .i64 x.1) ∧ w.cell? ⟨g, i * 3 + 1, none⟩ = some (.int .i64 x.2.1) ∧ w.cell? ⟨g, i * 3 + 2, none⟩ = some (.int .i64 x.2.2) := by
 have hl := (List.getElem?_eq_some_iff.1 hi).1
 obtain ⟨g, cap', cur, e, -⟩ := Z13 h (by omega)
 injection e with e1 e2 e3
 subst e1
 obtain ⟨b, o, e, _, hc⟩ := pl_row h i x hi
 injection e with e
 injection e with e e'
 subst e e'
 refine ⟨g, rfl, ?_, ?_, ?_⟩
 · have := hc 0 _ rfl; simpa using this
 · have := hc 1 _ rfl; simpa using this
 · have := hc 2 _ rfl; simpa using this

theorem conv_u64w (n : Int) (w : World) : (convert 3 30 (.int .i64 n)).run Try.prog w = .ok (.int .u64 ((uN n : Nat) : Int)) w := by
 have h : ((uN n : Nat) : Int) = IntKind.u64.wrap n := by
  unfold uN
  have : 0 ≤ IntKind.u64.wrap n := by
   show 0 ≤ n % 18446744073709551616
   omega
  omega
 rw [h]
 simp [convert, run_underlying Try.underlying3, run_underlying Try.underlying30, Conv.intToInt]
section
variable {w : World} {o : Oper} {ρ : Operand → Value} {t u : TypeId} {x y : Operand}
theorem x_addU {m n : Nat} (ho : o.op = .binOp .add t x y u) (hx : ρ x = .int .u64 (m : Nat)) (hy : ρ y = .int .u64 (n : Nat)) : (execOp ρ o).run Try.prog w = .ok (.value (.int .u64 (((m + n) % 18446744073709551616 : Nat) : Int))) w := by
 refine x_bin ho hx hy ?_
 have e : IntKind.u64.wrap ((m : Int) + (n : Int)) = (((m + n) % 18446744073709551616 : Nat) : Int) := by
  show ((m : Int) + (n : Int)) % 18446744073709551616 = _
  omega
 rw [← e]
 simp [binOp, Op.intArith]
theorem x_neB2 {a b c : Bool} (ho : o.op = .binOp .neq 4 x y u) (hx : ρ x = .bool a) (hy : ρ y = .bool b) (h : decide (a ≠ b) = c) : (execOp ρ o).run Try.prog w = .ok (.value (.bool c)) w := by
 subst h
 unfold execOp
 simp only [ho, hx, hy]
 cases a <;> cases b <;> kernel_rfl
end
/-- A chunk's key, of any number. -/
def keyN (c : Int) : Nat := (8589934592 + uN c) % 18446744073709551616
theorem keyN_lt (c : Int) : keyN c < 18446744073709551616 := Nat.mod_lt _ (by decide)
theorem rread_any {x1 x2 : Nat} (h1 : x1 < 18446744073709551616) (h2 : x2 < 18446744073709551616) : ∃ (c t s : Int), (plOkB (x1, x2) = true → (c, t, s) = plOf (x1, x2)) ∧
 ∀ w : World, Calls Try.prog 54 #[.agg #[.int .u64 (x1 : Nat), .int .u64 (x2 : Nat)]] w fun e w' => e = .returned (.tuple #[.int .i64 c, .agg #[.int .i64 t, .int .i64 s], .bool (plOkB (x1, x2))]) ∧ Ext w w' := by
 obtain ⟨k, hk⟩ : ∃ k : Int, (x1 : Int) = k := ⟨_, rfl⟩
 obtain ⟨v, hv⟩ : ∃ v : Int, (x2 : Int) = v := ⟨_, rfl⟩
 have k0 : 0 ≤ k := by omega
 have k1 : k ≤ 18446744073709551615 := by omega
 have v0 : 0 ≤ v := by omega
 have v1 : v ≤ 18446744073709551615 := by omega
 have hp : plOkB (x1, x2) = decide (PlOk k v) := by unfold plOkB; rw [hk, hv]
 have ho : plOf (x1, x2) = (k % 4294967296, v % 256, v / 256) := by unfold plOf; rw [hk, hv]
 rw [hp, ho]
 simp only [hk, hv]
 by_cases h : PlOk k v
 · obtain ⟨g, hkk⟩ := id h
   have hs : v / 256 % 1024 = v / 256 := by obtain ⟨_, _, _, _, _⟩ := g; omega
   rw [decide_eq_true h]
   exact ⟨_, _, _, fun _ => rfl, fun w => rpread_c k v _ _ _ w k0 k1 v0 v1 rfl rfl hs g hkk (by omega)⟩
 · rw [decide_eq_false h]
   refine ⟨0, 0, 0, fun h => (by cases h), fun w => ?_⟩
   by_cases g : GoodPl (k % 4294967296) (v % 256) (v / 256 % 1024)
   · by_cases hy : 8589934592 + k % 4294967296 = k
     · refine rpread_b2 k v _ _ _ _ w k0 k1 v0 v1 rfl rfl rfl g hy rfl (fun hx => h ⟨?_, hy⟩)
       rw [goodPl_slot g v0 hx] at g
       exact g
     · exact rpread_b1 k v _ _ _ _ _ w k0 k1 v0 v1 rfl rfl rfl g rfl rfl hy
   · exact rpread_a k v _ _ _ w k0 k1 v0 v1 rfl rfl rfl g
/-- A deed: its kind, a place, a pair. -/
abbrev DdP := Int × PlD × Pr
def ddC (x : DdP) : List Value := [.int .i64 x.1, .int .i64 x.2.1.1, .int .i64 x.2.1.2.1, .int .i64 x.2.1.2.2, .int .u64 (x.2.2.1 : Nat), .int .u64 (x.2.2.2 : Nat)]
def ddOk (x : DdP) : Prop := x.2.2.1 < 18446744073709551616 ∧ x.2.2.2 < 18446744073709551616
theorem cells_dd : Try.prog.cellsOf 119 = 6 := by kernel_rfl
theorem cells_i14 : Try.prog.cellsOf 3 = 1 := by kernel_rfl
theorem arg_dds {w : World} {v : Value} (h : Arg Try.prog w 117 v) :
 ∃ A len cap, ∃ xs : List DdP, v = .slice A len cap ∧ len ≤ cap ∧ cap ≤ maxLen ∧ xs.length = len ∧ (∀ x ∈ xs, ddOk x) ∧ Row w A 6 ddC xs :=
 fit_row ddC ddOk Try.underlying117 cells_dd (by decide) (fun cs _ hf => by
  obtain ⟨hl, hx⟩ := Z2e 6 Try.underlying119 cells_dd hf
  obtain ⟨a, e0, _⟩ := Z26 Try.underlying3 (hx 0 0 3 1 rfl cells_i14)
  obtain ⟨p, e1, _⟩ := fit_place (hx 1 1 110 3 rfl cells_place)
  obtain ⟨hl2, hx2⟩ := Z2e 2 Try.underlying38 cells_pair14 (hx 2 4 38 2 rfl cells_pair14)
  obtain ⟨k, e2, w2⟩ := Z26 Try.underlying30 (hx2 0 0 30 1 rfl cells_u14)
  obtain ⟨x, e3, w3⟩ := Z26 Try.underlying30 (hx2 1 1 30 1 rfl cells_u14)
  have b2 := bounds_u64 w2
  have b3 := bounds_u64 w3
  refine ⟨(a, p, k.toNat, x.toNat), ?_, by show k.toNat < _; omega, by show x.toNat < _; omega⟩
  match cs, hl with
  | [u0, u1, u2, u3, u4, u5], _ =>
   obtain ⟨p1, p2, p3⟩ := p
   simp [plC] at e0 e1 e2 e3
   obtain ⟨rfl, rfl, rfl⟩ := e1
   subst e0 e2 e3
   show _ = [_, _, _, _, Value.int .u64 ((k.toNat : Nat) : Int), Value.int .u64 ((x.toNat : Nat) : Int)]
   rw [show ((k.toNat : Nat) : Int) = k by omega, show ((x.toNat : Nat) : Int) = x by omega]) (arg_slice Try.underlying117 h)
theorem all_take {Q : List Pr} {j : Nat} {x : Pr} {p : Pr → Bool} (h : Q[j]? = some x) : (Q.take (j + 1)).all p = ((Q.take j).all p && p x) := by
 rw [List.take_add_one, h, List.all_append]
 simp

set_option maxRecDepth 100000 in
set_option maxHeartbeats 4000000 in
theorem pkeyN (c : Int) (W0 : World) : Calls Try.prog 73 #[.int .i64 c] W0 fun e w' => e = .returned (.int .u64 (keyN c : Nat)) ∧ Ext W0 w' := by
 have O := OwnT.start W0
 refine Z0b Try.func73 rfl 6 rfl (by rfl) ?_
 intro a1 k hargs
 have e0 : a1.eval (.tmp 0) = .int .i64 c := hargs 0 _ rfl
 clear hargs
 refine wp_seq ?_
 refine wp_region_lit ?_
 have hE := Env.refl a1 [2]
 refine sd 2 hE k (Z00 rfl rfl) ?_
 intro a2 hE e2 kp
 refine wpList_nil ?_
 replace e0 := hE.g e0
 replace k := k.env hE
 clear hE e2
 refine Z01 (wp_seq ?_)
 refine wp_region_lit ?_
 have hE := Env.refl a2 [3, 4, 5, 2]
 refine sm 3 hE k e0 ?_
 intro a3 hE e3 kp
 refine sd 4 hE k (x_conv rfl e3 (conv_u64w c _)) ?_
 intro a4 hE e4 kp
 refine sd 5 hE k (x_addU (m := 8589934592) (n := uN c) rfl rfl e4) ?_
 intro a5 hE e5 kp
 refine sd 2 hE k (Z00 rfl e5) ?_
 intro a6 hE e2 kp
 refine wpList_nil ?_
 replace k := k.env hE
 clear hE e0
 refine Z01 ?_
 refine wp_ret ?_
 refine Z11 rfl k e2 ?_
 exact ⟨rfl, O.below⟩
set_option maxRecDepth 100000 in
set_option maxHeartbeats 4000000 in
theorem pDrop {H : Nat} {A0 : World} {R : List Thing} {sb cap : Nat} {room : Int} {B : Option Addr} {vs : List Value} {N : List Nd} {root cc : Nat} {P : List Pr} (c : Int) (w : World) (O : OwnT H A0 (shT sb room B cap vs N R) w) (hT : Tre N root cc P) (hN : N.length ≤ 500) : Calls Try.prog 53 #[.iface 24 (.pointer (some ⟨sb, 0, none⟩)), .int .i64 root, .int .i64 c] w fun e w' => ∃ N' root' ok er B' cap' vs', e = .returned (.tuple #[.int .i64 root', .bool ok, .int .i64 er]) ∧ OwnT H A0 (shT sb room B' cap' vs' N' R) w' ∧ DropL N N' room root (keyN c) cc P root' ok er := by
 obtain ⟨ky, hky⟩ : ∃ k, keyN c = k := ⟨_, rfl⟩
 rw [hky]
 refine Z0b Try.func53 rfl 17 rfl (by rfl) ?_
 intro a1 k hargs
 have e0 : a1.eval (.tmp 0) = .iface 24 (.pointer (some ⟨sb, 0, none⟩)) := hargs 0 _ rfl
 have e1 : a1.eval (.tmp 1) = .int .i64 ↑root := hargs 1 _ rfl
 have e2 : a1.eval (.tmp 2) = .int .i64 c := hargs 2 _ rfl
 clear hargs
 refine wp_seq ?_
 refine wp_region_lit ?_
 have hE := Env.refl a1 [6, 7, 8]
 refine sd 6 hE k (Z00 rfl rfl) ?_
 intro a2 hE e6 kp
 refine sd 7 hE k (Z00 rfl rfl) ?_
 intro a3 hE e7 kp
 refine sd 8 hE k (Z00 rfl rfl) ?_
 intro a4 hE e8 kp
 refine wpList_nil ?_
 replace e0 := hE.g e0
 replace e1 := hE.g e1
 replace e2 := hE.g e2
 replace k := k.env hE
 clear hE e8
 refine Z01 (wp_seq ?_)
 refine wp_region_lit ?_
 have hE := Env.refl a4 [9, 10, 11, 12, 13, 14, 15, 16, 6, 7, 8]
 refine sm 9 hE k e0 ?_
 intro a5 hE e9 kp
 refine sm 10 hE k e1 ?_
 intro a6 hE e10 kp
 replace e9 := kt kp e9
 refine sm 11 hE k e2 ?_
 intro a7 hE e11 kp
 replace e9 := kt kp e9
 replace e10 := kt kp e10
 apply Z07 12 hE k rfl (by rfl) (by rfl) rfl
 case h =>
  simp [go_sem, ↓IntWalk.iteOmega, ev e11]
  with_reducible exact ⟨rfl, rfl⟩
 case hc => exact pkeyN c _
 rintro e w9 ⟨rfl, RE⟩
 replace O := OwnT.ext O RE
 refine ⟨.int .u64 ↑ky, by rw [hky], ?_⟩
 intro a8 hE e12 kp
 replace e9 := kt kp e9
 replace e10 := kt kp e10
 apply Z07 13 hE k rfl (by rfl) (by rfl) rfl
 case h =>
  simp [go_sem, ↓IntWalk.iteOmega, ev e9, ev e10, ev e12]
  with_reducible exact ⟨rfl, rfl⟩
 case hc => exact lDrop _ O hT hN
 clear O
 rintro e w11 ⟨N2, r2, ok, er, B2, cap2, vs2, rfl, O, hP⟩
 refine ⟨_, rfl, ?_⟩
 intro a10 hE e13 kp
 apply Z02 14 hE k rfl rfl rfl rfl
 case h =>
  simp [go_sem, ↓IntWalk.iteOmega, ev e13]
  with_reducible rfl
 intro a12 hE e14 kp
 replace e13 := kt kp e13
 apply Z02 15 hE k rfl rfl rfl rfl
 case h =>
  simp [go_sem, ↓IntWalk.iteOmega, ev e13]
  with_reducible rfl
 intro a13 hE e15 kp
 replace e13 := kt kp e13
 replace e14 := kt kp e14
 apply Z02 16 hE k rfl rfl rfl rfl
 case h =>
  simp [go_sem, ↓IntWalk.iteOmega, ev e13]
  with_reducible rfl
 intro a14 hE e16 kp
 replace e14 := kt kp e14
 replace e15 := kt kp e15
 refine sd 6 hE k (Z00 rfl e14) ?_
 intro a15 hE e6 kp
 replace e15 := kt kp e15
 replace e16 := kt kp e16
 refine sd 7 hE k (Z00 rfl e15) ?_
 intro a16 hE e7 kp
 replace e16 := kt kp e16
 replace e6 := kt kp e6
 refine sd 8 hE k (Z00 rfl e16) ?_
 intro a17 hE e8 kp
 replace e6 := kt kp e6
 replace e7 := kt kp e7
 refine wpList_nil ?_
 replace k := k.env hE
 clear hE e0 e1 e2
 refine Z01 ?_
 refine wp_ret ?_
 refine Z1n rfl k e6 e7 e8 ?_
 exact ⟨N2, r2, ok, er, B2, cap2, vs2, rfl, O, hP⟩
set_option maxRecDepth 100000 in
set_option maxHeartbeats 4000000 in
theorem placeList_core {A : Option Addr} {n cp : Nat} (xs : List DdP) (W0 : World) (hl : xs.length = n) (hrow : Row W0 A 6 ddC xs) (hwf : ∀ x ∈ xs, ddOk x) : Calls Try.prog 13 #[.slice A n cp] W0 fun e w' => e = .returned (.bool true) ∧ Below W0.heap.size W0 w' := by
 have O := OwnT.start W0
 refine Z0b Try.func13 rfl 204 rfl (by rfl) ?_
 intro a1 k hargs
 have e0 : a1.eval (.tmp 0) = .slice A n cp := hargs 0 _ rfl
 clear hargs
 refine wp_seq ?_
 refine wp_region_lit ?_
 have hE := Env.refl a1 [2]
 refine sd 2 hE k (Z00 rfl rfl) ?_
 intro a2 hE e2 kp
 refine wpList_nil ?_
 replace e0 := hE.g e0
 replace k := k.env hE
 clear hE e2
 refine Z01 (wp_seq ?_)
 refine wp_seq ?_
 refine wp_region_lit ?_
 have hE := Env.refl a2 [22, 23]
 apply Z07 22 hE k rfl (by rfl) (by rfl) rfl
 case h =>
  simp [go_sem, ↓IntWalk.iteOmega]
  with_reducible exact ⟨rfl, rfl⟩
 case hc => exact awake14 _
 rintro e w4 ⟨rfl, R⟩
 replace O := OwnT.ext O R
 refine ⟨_, rfl, ?_⟩
 intro a3 hE e22 kp
 refine sd 23 hE k (Z1m rfl e22) ?_
 intro a5 hE e23 kp
 refine wpList_nil ?_
 replace e0 := hE.g e0
 replace k := k.env hE
 clear hE
 refine Z01 ?_
 refine Z05 e23 rfl ?_
 refine wp_skip ?_
 refine Z01 (wp_seq ?_)
 refine wp_region_lit ?_
 have hE := Env.refl a5 [24, 25, 3]
 apply Z02 24 hE k rfl rfl rfl rfl
 case h =>
  simp [go_sem, ↓IntWalk.iteOmega]
  with_reducible rfl
 intro a6 hE e24 kp
 refine Z0j O (cs := #[.slice none 0 0, .int .i64 511]) (t := 28) 25 hE k rfl (by rfl) (by rfl) rfl (by simp [go_sem, ↓IntWalk.iteOmega, ev e24]) ?_
 clear O
 intro sb a7 w8 O hE e25 kp
 refine sd 3 hE k (Z00 rfl e25) ?_
 intro a9 hE e3 kp
 refine wpList_nil ?_
 replace e0 := hE.g e0
 replace k := k.env hE
 clear hE e23
 refine Z01 ?_
 replace O := sh_nil O
 refine wp_seq ?_
 refine wp_region_lit ?_
 have hE := Env.refl a9 [4]
 refine sd 4 hE k (Z00 rfl rfl) ?_
 intro a10 hE e4 kp
 refine wpList_nil ?_
 replace e0 := hE.g e0
 replace e3 := hE.g e3
 replace k := k.env hE
 clear hE
 refine Z01 (wp_seq ?_)
 refine wp_seq ?_
 refine wp_region_lit ?_
 have hE := Env.refl a10 [5]
 refine sd 5 hE k (Z00 rfl rfl) ?_
 intro a11 hE e5 kp
 refine wpList_nil ?_
 replace e0 := hE.g e0
 replace e3 := hE.g e3
 replace e4 := hE.g e4
 replace k := k.env hE
 clear hE
 refine Z01 ?_
 refine wp_block ?_
 refine wp_loop (fun a w => Fr 204 a ∧ a.eval (.tmp 0) = .slice A n cp ∧ a.eval (.tmp 3) = .pointer (some ⟨sb, 0, none⟩) ∧ ∃ (i rt : Nat) (P : List Pr) (N : List Nd) (B : Option Addr) (cap : Nat) (vs : List Value), a.eval (.tmp 4) = .int .i64 ↑rt ∧ a.eval (.tmp 5) = .int .i64 ↑i ∧ i ≤ 40 ∧ N.length ≤ 5 * i ∧ Tre N rt (8 + i) P ∧ OwnT W0.heap.size W0 ((tBlk sb 28 #[.slice B N.length cap, .int .i64 511]) :: (tRow 125 2 (.slice B N.length cap) N.length (leafV vs N)) :: (tPool vs N) :: []) w) (fun a w => 40 - (intOf (a.eval (.tmp 5))).toNat) ?_ ?_
 · exact ⟨k, e0, e3, 0, 0, [], [], none, 0, [], e4, e5, Nat.zero_le _, Nat.zero_le _, (Tre.zero []).le (by omega), O⟩
 intro a12 w13 hI
 clear k e0 e3
 obtain ⟨k, e0, e3, h_⟩ := hI
 clear O e4 e5
 obtain ⟨i, rt, P, N, B, cap, vs, e4, e5, hi, hN, hT, O⟩ := h_
 have mi := e5
 by_cases hlt1 : i < n
 rotate_left
 · skip
   refine wp_seq ?_
   refine wp_seq ?_
   refine wp_region_lit ?_
   have hE := Env.refl a12 [26, 27, 28, 29, 30, 31, 32, 33]
   refine sm 26 hE k e5 ?_
   intro a14 hE e26 kp
   refine sm 27 hE k e0 ?_
   intro a15 hE e27 kp
   replace e26 := kt kp e26
   refine sd 28 hE k (Z0l Try.underlying117 rfl e27) ?_
   intro a16 hE e28 kp
   replace e26 := kt kp e26
   refine sd 29 hE k (Z06 (Z1c rfl e26 e28) (decide_eq_false (by omega))) ?_
   intro a17 hE e29 kp
   refine sd 30 hE k (Z03 rfl e29) ?_
   intro a18 hE e30 kp
   refine Z09 31 hE k rfl (by rfl) (by rfl) rfl rfl (.inl e30) ?_
   intro a19 hE e31 kp
   replace e30 := kt kp e30
   refine Z09 32 hE k rfl (by rfl) (by rfl) rfl rfl (.inl e30) ?_
   intro a20 hE e32 kp
   replace e30 := kt kp e30
   refine sd 33 hE k (Z08 rfl e30 rfl) ?_
   intro a21 hE e33 kp
   refine wpList_nil ?_
   replace e0 := hE.g e0
   replace e3 := hE.g e3
   replace e4 := hE.g e4
   replace e5 := hE.g e5
   replace k := k.env hE
   clear hE
   refine Z01 ?_
   refine Z05 e33 rfl ?_
   refine wp_exit ?_
   refine Z14 ?_
   refine Z14 ?_
   refine Z1j ?_
   refine Z01 (wp_seq ?_)
   refine wp_region_lit ?_
   have hE := Env.refl a21 [2]
   refine sd 2 hE k (Z00 rfl rfl) ?_
   intro a22 hE e2 kp
   refine wpList_nil ?_
   replace k := k.env hE
   clear hE e0 e3 e4 e5 e33
   refine Z01 ?_
   refine wp_ret ?_
   refine Z11 rfl k e2 ?_
   exact ⟨rfl, O.below⟩
 by_cases hlt2 : i < 40
 rotate_left
 · skip
   refine wp_seq ?_
   refine wp_seq ?_
   refine wp_region_lit ?_
   have hE := Env.refl a12 [26, 27, 28, 29, 30, 31, 32, 33]
   refine sm 26 hE k e5 ?_
   intro a23 hE e26 kp
   refine sm 27 hE k e0 ?_
   intro a24 hE e27 kp
   replace e26 := kt kp e26
   refine sd 28 hE k (Z0l Try.underlying117 rfl e27) ?_
   intro a25 hE e28 kp
   replace e26 := kt kp e26
   refine sd 29 hE k (Z06 (Z1c rfl e26 e28) (decide_eq_true (by omega))) ?_
   intro a26 hE e29 kp
   refine sd 30 hE k (Z03 rfl e29) ?_
   intro a27 hE e30 kp
   apply Z04 31 hE k rfl rfl rfl rfl rfl e30
   case h =>
    exact Z03 rfl (hE.g e5)
   intro a28 hE e31 kp
   replace e30 := kt kp e30
   apply Z04 32 hE k rfl rfl rfl rfl rfl e30
   case h =>
    exact Z06 (Z1c rfl e31 rfl) (decide_eq_false (by omega))
   intro a29 hE e32 kp
   replace e30 := kt kp e30
   refine sd 33 hE k (Z0h rfl e30 e32) ?_
   intro a30 hE e33 kp
   refine wpList_nil ?_
   replace e0 := hE.g e0
   replace e3 := hE.g e3
   replace e4 := hE.g e4
   replace e5 := hE.g e5
   replace k := k.env hE
   clear hE
   refine Z01 ?_
   refine Z05 e33 rfl ?_
   refine wp_exit ?_
   refine Z14 ?_
   refine Z14 ?_
   refine Z1j ?_
   refine Z01 (wp_seq ?_)
   refine wp_region_lit ?_
   have hE := Env.refl a30 [2]
   refine sd 2 hE k (Z00 rfl rfl) ?_
   intro a31 hE e2 kp
   refine wpList_nil ?_
   replace k := k.env hE
   clear hE e0 e3 e4 e5 e33
   refine Z01 ?_
   refine wp_ret ?_
   refine Z11 rfl k e2 ?_
   exact ⟨rfl, O.below⟩
 have hltI : (i : Int) < (n : Int) := by omega
 obtain ⟨x, hx⟩ : ∃ x, xs[i]? = some x := ⟨_, List.getElem?_eq_getElem (by omega)⟩
 have hxw := hwf x (List.mem_of_getElem? hx)
 obtain ⟨b, o, rfl, _, hc⟩ := (hrow.below O.below) i x hx
 obtain ⟨kd, ⟨c, t, s⟩, pk, pv⟩ := x
 have hpk : pk < 18446744073709551616 := hxw.1
 have hpv : pv < 18446744073709551616 := hxw.2
 have d0 : w13.cell? ⟨b, o + i * 6, none⟩ = some (.int .i64 kd) := by have := hc 0 _ rfl; simpa using this
 have d1 := hc 1 _ rfl
 have d2 := hc 2 _ rfl
 have d3 := hc 3 _ rfl
 have d4 := hc 4 _ rfl
 have d5 := hc 5 _ rfl
 clear hc hxw

 refine wp_seq ?_
 refine wp_seq ?_
 refine wp_region_lit ?_
 have hE := Env.refl a12 [26, 27, 28, 29, 30, 31, 32, 33]
 refine sm 26 hE k e5 ?_
 intro a32 hE e26 kp
 refine sm 27 hE k e0 ?_
 intro a33 hE e27 kp
 replace e26 := kt kp e26
 refine sd 28 hE k (Z0l Try.underlying117 rfl e27) ?_
 intro a34 hE e28 kp
 replace e26 := kt kp e26
 refine sd 29 hE k (Z06 (Z1c rfl e26 e28) (decide_eq_true (by omega))) ?_
 intro a35 hE e29 kp
 refine sd 30 hE k (Z03 rfl e29) ?_
 intro a36 hE e30 kp
 apply Z04 31 hE k rfl rfl rfl rfl rfl e30
 case h =>
  exact Z03 rfl (hE.g e5)
 intro a37 hE e31 kp
 replace e30 := kt kp e30
 apply Z04 32 hE k rfl rfl rfl rfl rfl e30
 case h =>
  exact Z06 (Z1c rfl e31 rfl) (decide_eq_true (by omega))
 intro a38 hE e32 kp
 replace e30 := kt kp e30
 refine sd 33 hE k (Z0h rfl e30 e32) ?_
 intro a39 hE e33 kp
 refine wpList_nil ?_
 replace e0 := hE.g e0
 replace e3 := hE.g e3
 replace e4 := hE.g e4
 replace e5 := hE.g e5
 replace k := k.env hE
 clear hE
 refine Z01 ?_
 refine Z0d e33 rfl ?_
 refine wp_skip ?_
 refine Z01 (wp_seq ?_)
 refine wp_block ?_
 refine wp_seq ?_
 refine wp_region_lit ?_
 have hE := Env.refl a39 [36, 37, 38, 39, 6]
 refine sm 36 hE k e0 ?_
 intro a40 hE e36 kp
 refine sm 37 hE k e5 ?_
 intro a41 hE e37 kp
 replace e36 := kt kp e36
 apply Z02 38 hE k rfl rfl rfl rfl
 case h =>
  simp [go_sem, ↓IntWalk.iteOmega, ev e36, ev e37]
  with_reducible rfl
 intro a42 hE e38 kp
 apply Z02 39 hE k rfl rfl rfl rfl
 case h =>
  simp [go_sem, ↓IntWalk.iteOmega, ev e38, d0, d1, d2, d3, d4, d5]
  with_reducible rfl
 intro a43 hE e39 kp
 refine Z0j O (cs := #[.int .i64 0, .int .i64 0, .int .i64 0, .int .i64 0, .int .u64 0, .int .u64 0]) (t := 119) 6 hE k rfl (by rfl) (by rfl) rfl (by simp [go_sem, ↓IntWalk.iteOmega]) ?_
 clear O
 intro xb a44 w45 O hE e6 kp
 replace e39 := kt kp e39
 have q0 : w45.cell? ⟨xb, 0, none⟩ = some (.int .i64 0) := (OwnT.blk O 0 rfl).cell 0
 have z0 : w45.frozen? ⟨xb, 0, none⟩ = false := (OwnT.blk O 0 rfl).frozen 0
 have q1 : w45.cell? ⟨xb, 1, none⟩ = some (.int .i64 0) := (OwnT.blk O 0 rfl).cell 1
 have z1 : w45.frozen? ⟨xb, 1, none⟩ = false := (OwnT.blk O 0 rfl).frozen 1
 have q2 : w45.cell? ⟨xb, 2, none⟩ = some (.int .i64 0) := (OwnT.blk O 0 rfl).cell 2
 have z2 : w45.frozen? ⟨xb, 2, none⟩ = false := (OwnT.blk O 0 rfl).frozen 2
 have q3 : w45.cell? ⟨xb, 3, none⟩ = some (.int .i64 0) := (OwnT.blk O 0 rfl).cell 3
 have z3 : w45.frozen? ⟨xb, 3, none⟩ = false := (OwnT.blk O 0 rfl).frozen 3
 have q4 : w45.cell? ⟨xb, 4, none⟩ = some (.int .u64 0) := (OwnT.blk O 0 rfl).cell 4
 have z4 : w45.frozen? ⟨xb, 4, none⟩ = false := (OwnT.blk O 0 rfl).frozen 4
 have q5 : w45.cell? ⟨xb, 5, none⟩ = some (.int .u64 0) := (OwnT.blk O 0 rfl).cell 5
 have z5 : w45.frozen? ⟨xb, 5, none⟩ = false := (OwnT.blk O 0 rfl).frozen 5
 refine Z0i (w' := ((((((w45.setCell ⟨xb, 0, none⟩ (.int .i64 kd)).setCell ⟨xb, 1, none⟩ (.int .i64 c)).setCell ⟨xb, 2, none⟩ (.int .i64 t)).setCell ⟨xb, 3, none⟩ (.int .i64 s)).setCell ⟨xb, 4, none⟩ (.int .u64 ↑pk)).setCell ⟨xb, 5, none⟩ (.int .u64 ↑pv))) hE rfl rfl (by simp [go_sem, ↓IntWalk.iteOmega, ev e6, ev e39, q0, z0, q1, z1, q2, z2, q3, z3, q4, z4, q5, z5]) ?_
 replace O := OwnT.push 0 rfl (((((((OwnT.pull O 0 rfl).set 0 (.int .i64 kd)).set 1 (.int .i64 c)).set 2 (.int .i64 t)).set 3 (.int .i64 s)).set 4 (.int .u64 ↑pk)).set 5 (.int .u64 ↑pv))
 clear q0 z0 q1 z1 q2 z2 q3 z3 q4 z4 q5 z5
 generalize ((((((w45.setCell ⟨xb, 0, none⟩ (.int .i64 kd)).setCell ⟨xb, 1, none⟩ (.int .i64 c)).setCell ⟨xb, 2, none⟩ (.int .i64 t)).setCell ⟨xb, 3, none⟩ (.int .i64 s)).setCell ⟨xb, 4, none⟩ (.int .u64 ↑pk)).setCell ⟨xb, 5, none⟩ (.int .u64 ↑pv)) = w46 at O ⊢
 replace O : OwnT _ _ ((tBlk xb 119 #[.int .i64 kd, .int .i64 c, .int .i64 t, .int .i64 s, .int .u64 ↑pk, .int .u64 ↑pv]) :: (tBlk sb 28 #[.slice B N.length cap, .int .i64 511]) :: (tRow 125 2 (.slice B N.length cap) N.length (leafV vs N)) :: (tPool vs N) :: []) w46 := O
 refine wpList_nil ?_
 replace e0 := hE.g e0
 replace e3 := hE.g e3
 replace e4 := hE.g e4
 replace e5 := hE.g e5
 replace k := k.env hE
 clear hE e33 e39
 refine Z01 (wp_seq ?_)
 refine wp_region_lit ?_
 have hE := Env.refl a44 [7]
 refine sd 7 hE k (Z00 rfl rfl) ?_
 intro a47 hE e7 kp
 refine wpList_nil ?_
 replace e0 := hE.g e0
 replace e3 := hE.g e3
 replace e4 := hE.g e4
 replace e5 := hE.g e5
 replace e6 := hE.g e6
 replace k := k.env hE
 clear hE e7
 refine Z01 (wp_seq ?_)
 refine wp_region_lit ?_
 have hE := Env.refl a47 [8]
 refine sd 8 hE k (Z00 rfl rfl) ?_
 intro a48 hE e8 kp
 refine wpList_nil ?_
 replace e0 := hE.g e0
 replace e3 := hE.g e3
 replace e4 := hE.g e4
 replace e5 := hE.g e5
 replace e6 := hE.g e6
 replace k := k.env hE
 clear hE e8
 refine Z01 ?_
 clear d0 d1 d2 d3 d4 d5
 replace O : OwnT _ _ ((tBlk sb 28 #[.slice B N.length cap, .int .i64 511]) :: (tRow 125 2 (.slice B N.length cap) N.length (leafV vs N)) :: (tPool vs N) :: (tBlk xb 119 #[.int .i64 kd, .int .i64 c, .int .i64 t, .int .i64 s, .int .u64 ↑pk, .int .u64 ↑pv]) :: []) w46 := OwnT.pickR (L := [_, _, _, _]) (R := []) O [1, 2, 3, 0] (by decide)
 refine wp_cutF (fun a w => Fr 204 a ∧ a.eval (.tmp 0) = .slice (some ⟨b, o, none⟩) n cp ∧ a.eval (.tmp 3) = .pointer (some ⟨sb, 0, none⟩) ∧ a.eval (.tmp 5) = .int .i64 ↑i ∧ ∃ (r2 er : Int) (P : List Pr) (N : List Nd) (B : Option Addr) (cap : Nat) (vs : List Value), a.eval (.tmp 7) = .int .i64 r2 ∧ a.eval (.tmp 8) = .int .i64 er ∧ N.length ≤ 5 * (i + 1) ∧ (er = 6 ∨ (er = 0 ∧ ∃ r : Nat, r2 = r ∧ Tre N r (8 + i + 1) P)) ∧ OwnT W0.heap.size W0 ((tBlk sb 28 #[.slice B N.length cap, .int .i64 511]) :: (tRow 125 2 (.slice B N.length cap) N.length (leafV vs N)) :: (tPool vs N) :: []) w) ?_ ?_
 · skip
   by_cases hk12 : kd = 1 ∨ kd = 2
   · skip
     rcases hk12 with hk1 | hk2
     · skip
       by_cases hg : GoodPl c t s
       · skip
         refine wp_seq ?_
         refine wp_region_lit ?_
         have hE := Env.refl a48 [40, 41]
         apply Z02 40 hE k rfl rfl rfl rfl
         case h =>
          simp [go_sem, ↓IntWalk.iteOmega, ev (hE.g e6)]
          with_reducible rfl
         intro a49 hE e40 kp
         apply Z02 41 hE k rfl rfl rfl rfl
         case h =>
          have q0 : w46.cell? ⟨xb, 0, none⟩ = some (.int .i64 kd) := (OwnT.blk O 3 rfl).cell 0
          simp [go_sem, ↓IntWalk.iteOmega, ev e40, q0]
          with_reducible rfl
         intro a50 hE e41 kp
         refine wpList_nil ?_
         replace e0 := hE.g e0
         replace e3 := hE.g e3
         replace e4 := hE.g e4
         replace e5 := hE.g e5
         replace e6 := hE.g e6
         replace k := k.env hE
         clear hE
         refine Z01 ?_
         refine wp_block ?_
         refine wp_seq ?_
         refine wp_seq ?_
         refine wp_region_lit ?_
         have hE := Env.refl a50 [56, 55]
         refine sd 56 hE k (Z06 (Z0s rfl (hE.g e41) rfl) (decide_eq_true hk1)) ?_
         intro a51 hE e56 kp
         refine sd 55 hE k (Z00 rfl e56) ?_
         intro a52 hE e55 kp
         refine wpList_nil ?_
         replace e0 := hE.g e0
         replace e3 := hE.g e3
         replace e4 := hE.g e4
         replace e5 := hE.g e5
         replace e6 := hE.g e6
         replace e41 := hE.g e41
         replace k := k.env hE
         clear hE
         refine Z01 ?_
         refine Z0d e55 rfl ?_
         refine wp_skip ?_
         refine Z01 ?_
         refine Z0d e55 rfl ?_
         refine wp_seq ?_
         refine wp_region_lit ?_
         have hE := Env.refl a52 [59, 60, 61, 62, 63, 64, 58, 65, 66, 7, 8]
         refine sm 59 hE k e3 ?_
         intro a53 hE e59 kp
         apply Z02 60 hE k rfl rfl rfl rfl
         case h =>
          simp [go_sem, ↓IntWalk.iteOmega, ev e59]
          with_reducible rfl
         intro a54 hE e60 kp
         refine sm 61 hE k e4 ?_
         intro a55 hE e61 kp
         replace e60 := kt kp e60
         apply Z02 62 hE k rfl rfl rfl rfl
         case h =>
          simp [go_sem, ↓IntWalk.iteOmega, ev (hE.g e6)]
          with_reducible rfl
         intro a56 hE e62 kp
         replace e60 := kt kp e60
         replace e61 := kt kp e61
         apply Z02 63 hE k rfl rfl rfl rfl
         case h =>
          have q0 : w46.cell? ⟨xb, 1, none⟩ = some (.int .i64 c) := (OwnT.blk O 3 rfl).cell 1
          have q1 : w46.cell? ⟨xb, 2, none⟩ = some (.int .i64 t) := (OwnT.blk O 3 rfl).cell 2
          have q2 : w46.cell? ⟨xb, 3, none⟩ = some (.int .i64 s) := (OwnT.blk O 3 rfl).cell 3
          simp [go_sem, ↓IntWalk.iteOmega, ev e62, q0, q1, q2]
          with_reducible rfl
         intro a57 hE e63 kp
         replace e60 := kt kp e60
         replace e61 := kt kp e61
         apply Z07 64 hE k rfl (by rfl) (by rfl) rfl
         case h =>
          simp [go_sem, ↓IntWalk.iteOmega, ev e60, ev e61, ev e63]
          with_reducible exact ⟨rfl, rfl⟩
         case hc => exact pPut (R := _ :: []) c t s _ O hg hT.norm (by split <;> omega) (by omega)
         clear O
         rintro e w59 ⟨N2, r2, er, B2, cap2, vs2, rfl, O, hPL⟩
         refine ⟨_, rfl, ?_⟩
         intro a58 hE e64 kp
         refine sd 58 hE k (Z03 rfl e64) ?_
         intro a60 hE e58 kp
         apply Z02 65 hE k rfl rfl rfl rfl
         case h =>
          simp [go_sem, ↓IntWalk.iteOmega, ev e58]
          with_reducible rfl
         intro a61 hE e65 kp
         replace e58 := kt kp e58
         apply Z02 66 hE k rfl rfl rfl rfl
         case h =>
          simp [go_sem, ↓IntWalk.iteOmega, ev e58]
          with_reducible rfl
         intro a62 hE e66 kp
         replace e65 := kt kp e65
         refine sd 7 hE k (Z00 rfl e65) ?_
         intro a63 hE e7 kp
         replace e66 := kt kp e66
         refine sd 8 hE k (Z00 rfl e66) ?_
         intro a64 hE e8 kp
         replace e7 := kt kp e7
         refine wpList_nil ?_
         replace e0 := hE.g e0
         replace e3 := hE.g e3
         replace e4 := hE.g e4
         replace e5 := hE.g e5
         replace e6 := hE.g e6
         replace k := k.env hE
         clear hE e41 e55
         refine Z01 (wp_seq ?_)
         refine wp_region_lit ?_
         have hE := Env.refl a64 [67, 68, 69, 70, 71, 72, 73, 74]
         apply Z02 67 hE k rfl rfl rfl rfl
         case h =>
          simp [go_sem, ↓IntWalk.iteOmega, ev (hE.g e6)]
          with_reducible rfl
         intro a65 hE e67 kp
         apply Z02 68 hE k rfl rfl rfl rfl
         case h =>
          simp [go_sem, ↓IntWalk.iteOmega, ev e67]
          with_reducible rfl
         intro a66 hE e68 kp
         apply Z02 69 hE k rfl rfl rfl rfl
         case h =>
          have q0 : w59.cell? ⟨xb, 1, none⟩ = some (.int .i64 c) := (OwnT.blk O 3 rfl).cell 1
          simp [go_sem, ↓IntWalk.iteOmega, ev e68, q0]
          with_reducible rfl
         intro a67 hE e69 kp
         apply Z02 70 hE k rfl rfl rfl rfl
         case h =>
          simp [go_sem, ↓IntWalk.iteOmega, ev (hE.g e6)]
          with_reducible rfl
         intro a68 hE e70 kp
         replace e69 := kt kp e69
         apply Z02 71 hE k rfl rfl rfl rfl
         case h =>
          simp [go_sem, ↓IntWalk.iteOmega, ev e70]
          with_reducible rfl
         intro a69 hE e71 kp
         replace e69 := kt kp e69
         apply Z02 72 hE k rfl rfl rfl rfl
         case h =>
          have q0 : w59.cell? ⟨xb, 2, none⟩ = some (.int .i64 t) := (OwnT.blk O 3 rfl).cell 2
          have q1 : w59.cell? ⟨xb, 3, none⟩ = some (.int .i64 s) := (OwnT.blk O 3 rfl).cell 3
          simp [go_sem, ↓IntWalk.iteOmega, ev e71, q0, q1]
          with_reducible rfl
         intro a70 hE e72 kp
         replace e69 := kt kp e69
         apply Z07 73 hE k rfl (by rfl) (by rfl) rfl
         case h =>
          simp [go_sem, ↓IntWalk.iteOmega, ev e69, ev e72]
          with_reducible exact ⟨rfl, rfl⟩
         case hc => exact Z24 c t s _
         rintro e w72 ⟨rfl, RE⟩
         replace O := OwnT.ext O RE
         refine ⟨.bool true, by rw [Z1s hg], ?_⟩
         intro a71 hE e73 kp
         refine sd 74 hE k (Z1m rfl e73) ?_
         intro a73 hE e74 kp
         refine wpList_nil ?_
         replace e0 := hE.g e0
         replace e3 := hE.g e3
         replace e4 := hE.g e4
         replace e5 := hE.g e5
         replace e7 := hE.g e7
         replace e8 := hE.g e8
         replace k := k.env hE
         clear hE e6
         refine Z01 ?_
         refine Z05 e74 rfl ?_
         refine wp_skip ?_
         refine Z0r ?_
         refine Z01 ?_
         obtain ⟨⟨M, rfl, hM⟩, hPL⟩ := hPL
         have hX : er = 6 ∨ (er = 0 ∧ ∃ r : Nat, r2 = r ∧ Tre (N ++ M) r (8 + i + 1) (insP (plKey c, plVal t s) P)) := by
          rcases hPL with ⟨h1, _⟩ | ⟨h1, r, h2, _, _, h3⟩
          · exact .inl h1
          · exact .inr ⟨h1, r, h2, h3.next (by omega)⟩

         exact ⟨k, e0, e3, e5, r2, er, _, N ++ M, B2, cap2, vs2, e7, e8, by rw [List.length_append]; omega, hX, (OwnT.pickR (L := [_, _, _, _]) (R := []) O [0, 1, 2] (by decide))⟩
       · skip
         refine wp_seq ?_
         refine wp_region_lit ?_
         have hE := Env.refl a48 [40, 41]
         apply Z02 40 hE k rfl rfl rfl rfl
         case h =>
          simp [go_sem, ↓IntWalk.iteOmega, ev (hE.g e6)]
          with_reducible rfl
         intro a74 hE e40 kp
         apply Z02 41 hE k rfl rfl rfl rfl
         case h =>
          have q0 : w46.cell? ⟨xb, 0, none⟩ = some (.int .i64 kd) := (OwnT.blk O 3 rfl).cell 0
          simp [go_sem, ↓IntWalk.iteOmega, ev e40, q0]
          with_reducible rfl
         intro a75 hE e41 kp
         refine wpList_nil ?_
         replace e0 := hE.g e0
         replace e3 := hE.g e3
         replace e4 := hE.g e4
         replace e5 := hE.g e5
         replace e6 := hE.g e6
         replace k := k.env hE
         clear hE
         refine Z01 ?_
         refine wp_block ?_
         refine wp_seq ?_
         refine wp_seq ?_
         refine wp_region_lit ?_
         have hE := Env.refl a75 [56, 55]
         refine sd 56 hE k (Z06 (Z0s rfl (hE.g e41) rfl) (decide_eq_true hk1)) ?_
         intro a76 hE e56 kp
         refine sd 55 hE k (Z00 rfl e56) ?_
         intro a77 hE e55 kp
         refine wpList_nil ?_
         replace e0 := hE.g e0
         replace e3 := hE.g e3
         replace e4 := hE.g e4
         replace e5 := hE.g e5
         replace e6 := hE.g e6
         replace e41 := hE.g e41
         replace k := k.env hE
         clear hE
         refine Z01 ?_
         refine Z0d e55 rfl ?_
         refine wp_skip ?_
         refine Z01 ?_
         refine Z0d e55 rfl ?_
         refine wp_seq ?_
         refine wp_region_lit ?_
         have hE := Env.refl a77 [59, 60, 61, 62, 63, 64, 58, 65, 66, 7, 8]
         refine sm 59 hE k e3 ?_
         intro a78 hE e59 kp
         apply Z02 60 hE k rfl rfl rfl rfl
         case h =>
          simp [go_sem, ↓IntWalk.iteOmega, ev e59]
          with_reducible rfl
         intro a79 hE e60 kp
         refine sm 61 hE k e4 ?_
         intro a80 hE e61 kp
         replace e60 := kt kp e60
         apply Z02 62 hE k rfl rfl rfl rfl
         case h =>
          simp [go_sem, ↓IntWalk.iteOmega, ev (hE.g e6)]
          with_reducible rfl
         intro a81 hE e62 kp
         replace e60 := kt kp e60
         replace e61 := kt kp e61
         apply Z02 63 hE k rfl rfl rfl rfl
         case h =>
          have q0 : w46.cell? ⟨xb, 1, none⟩ = some (.int .i64 c) := (OwnT.blk O 3 rfl).cell 1
          have q1 : w46.cell? ⟨xb, 2, none⟩ = some (.int .i64 t) := (OwnT.blk O 3 rfl).cell 2
          have q2 : w46.cell? ⟨xb, 3, none⟩ = some (.int .i64 s) := (OwnT.blk O 3 rfl).cell 3
          simp [go_sem, ↓IntWalk.iteOmega, ev e62, q0, q1, q2]
          with_reducible rfl
         intro a82 hE e63 kp
         replace e60 := kt kp e60
         replace e61 := kt kp e61
         apply Z07 64 hE k rfl (by rfl) (by rfl) rfl
         case h =>
          simp [go_sem, ↓IntWalk.iteOmega, ev e60, ev e61, ev e63]
          with_reducible exact ⟨rfl, rfl⟩
         case hc => exact pPut_bad c t s _ hg
         rintro e w84 ⟨rfl, RE⟩
         replace O := OwnT.ext O RE
         refine ⟨_, rfl, ?_⟩
         intro a83 hE e64 kp
         refine sd 58 hE k (Z03 rfl e64) ?_
         intro a85 hE e58 kp
         apply Z02 65 hE k rfl rfl rfl rfl
         case h =>
          simp [go_sem, ↓IntWalk.iteOmega, ev e58]
          with_reducible rfl
         intro a86 hE e65 kp
         replace e58 := kt kp e58
         apply Z02 66 hE k rfl rfl rfl rfl
         case h =>
          simp [go_sem, ↓IntWalk.iteOmega, ev e58]
          with_reducible rfl
         intro a87 hE e66 kp
         replace e65 := kt kp e65
         refine sd 7 hE k (Z00 rfl e65) ?_
         intro a88 hE e7 kp
         replace e66 := kt kp e66
         refine sd 8 hE k (Z00 rfl e66) ?_
         intro a89 hE e8 kp
         replace e7 := kt kp e7
         refine wpList_nil ?_
         replace e0 := hE.g e0
         replace e3 := hE.g e3
         replace e4 := hE.g e4
         replace e5 := hE.g e5
         replace e6 := hE.g e6
         replace k := k.env hE
         clear hE e41 e55
         refine Z01 (wp_seq ?_)
         refine wp_region_lit ?_
         have hE := Env.refl a89 [67, 68, 69, 70, 71, 72, 73, 74]
         apply Z02 67 hE k rfl rfl rfl rfl
         case h =>
          simp [go_sem, ↓IntWalk.iteOmega, ev (hE.g e6)]
          with_reducible rfl
         intro a90 hE e67 kp
         apply Z02 68 hE k rfl rfl rfl rfl
         case h =>
          simp [go_sem, ↓IntWalk.iteOmega, ev e67]
          with_reducible rfl
         intro a91 hE e68 kp
         apply Z02 69 hE k rfl rfl rfl rfl
         case h =>
          have q0 : w84.cell? ⟨xb, 1, none⟩ = some (.int .i64 c) := (OwnT.blk O 3 rfl).cell 1
          simp [go_sem, ↓IntWalk.iteOmega, ev e68, q0]
          with_reducible rfl
         intro a92 hE e69 kp
         apply Z02 70 hE k rfl rfl rfl rfl
         case h =>
          simp [go_sem, ↓IntWalk.iteOmega, ev (hE.g e6)]
          with_reducible rfl
         intro a93 hE e70 kp
         replace e69 := kt kp e69
         apply Z02 71 hE k rfl rfl rfl rfl
         case h =>
          simp [go_sem, ↓IntWalk.iteOmega, ev e70]
          with_reducible rfl
         intro a94 hE e71 kp
         replace e69 := kt kp e69
         apply Z02 72 hE k rfl rfl rfl rfl
         case h =>
          have q0 : w84.cell? ⟨xb, 2, none⟩ = some (.int .i64 t) := (OwnT.blk O 3 rfl).cell 2
          have q1 : w84.cell? ⟨xb, 3, none⟩ = some (.int .i64 s) := (OwnT.blk O 3 rfl).cell 3
          simp [go_sem, ↓IntWalk.iteOmega, ev e71, q0, q1]
          with_reducible rfl
         intro a95 hE e72 kp
         replace e69 := kt kp e69
         apply Z07 73 hE k rfl (by rfl) (by rfl) rfl
         case h =>
          simp [go_sem, ↓IntWalk.iteOmega, ev e69, ev e72]
          with_reducible exact ⟨rfl, rfl⟩
         case hc => exact Z24 c t s _
         rintro e w97 ⟨rfl, RE⟩
         replace O := OwnT.ext O RE
         refine ⟨.bool false, by rw [placeB_no hg], ?_⟩
         intro a96 hE e73 kp
         refine sd 74 hE k (Z1m rfl e73) ?_
         intro a98 hE e74 kp
         refine wpList_nil ?_
         replace e0 := hE.g e0
         replace e3 := hE.g e3
         replace e4 := hE.g e4
         replace e5 := hE.g e5
         replace e7 := hE.g e7
         replace e8 := hE.g e8
         replace k := k.env hE
         clear hE e6
         refine Z01 ?_
         refine Z0d e74 rfl ?_
         refine wp_seq ?_
         refine wp_seq ?_
         refine wp_region_lit ?_
         have hE := Env.refl a98 [75, 76, 77, 78, 79, 80]
         refine sm 75 hE k e8 ?_
         intro a99 hE e75 kp
         refine sd 76 hE k (Z0v rfl e75 rfl) ?_
         intro a100 hE e76 kp
         refine sd 77 hE k (Z03 rfl e76) ?_
         intro a101 hE e77 kp
         apply Z04 78 hE k rfl rfl rfl rfl rfl e77
         case h =>
          exact Z03 rfl (hE.g e7)
         intro a102 hE e78 kp
         replace e77 := kt kp e77
         apply Z04 79 hE k rfl rfl rfl rfl rfl e77
         case h =>
          exact Z0v rfl e78 rfl
         intro a103 hE e79 kp
         replace e77 := kt kp e77
         refine sd 80 hE k (Z08 rfl e77 e79) ?_
         intro a104 hE e80 kp
         refine wpList_nil ?_
         replace e0 := hE.g e0
         replace e3 := hE.g e3
         replace e4 := hE.g e4
         replace e5 := hE.g e5
         replace k := k.env hE
         clear hE e7 e8 e74
         refine Z01 ?_
         refine Z05 e80 rfl ?_
         refine wp_skip ?_
         refine Z01 ?_
         refine wp_exit ?_
         refine block_o rfl ?_
         refine Z14 ?_
         refine Z1j ?_
         refine Z01 ?_
         refine wp_region_lit ?_
         have hE := Env.refl a104 [34, 35, 5]
         refine sd 34 hE k (Z03 rfl e5) ?_
         intro a105 hE e34 kp
         replace e5 := kt kp e5
         refine sd 35 hE k (Z19 rfl e34 rfl (by omega)) ?_
         intro a106 hE e35 kp
         replace e5 := kt kp e5
         refine sd 5 hE k (Z00 rfl e35) ?_
         intro a107 hE e5 kp
         refine wpList_nil ?_
         replace e0 := hE.g e0
         replace e3 := hE.g e3
         replace e4 := hE.g e4
         replace k := k.env hE
         clear hE e80
         refine Z01 ?_
         refine ⟨⟨k, e0, e3, i + 1, rt, P, N, B, cap, vs, e4, e5, by omega, by omega, hT.le (by omega), (OwnT.pickR (L := [_, _, _, _]) (R := []) O [0, 1, 2] (by decide))⟩, ?_⟩
         rw [e5, mi]; simp only [intOf]; omega
     · have hk1 : ¬ kd = 1 := by omega
       by_cases hg : GoodPl c t s
       · skip
         refine wp_seq ?_
         refine wp_region_lit ?_
         have hE := Env.refl a48 [40, 41]
         apply Z02 40 hE k rfl rfl rfl rfl
         case h =>
          simp [go_sem, ↓IntWalk.iteOmega, ev (hE.g e6)]
          with_reducible rfl
         intro a108 hE e40 kp
         apply Z02 41 hE k rfl rfl rfl rfl
         case h =>
          have q0 : w46.cell? ⟨xb, 0, none⟩ = some (.int .i64 kd) := (OwnT.blk O 3 rfl).cell 0
          simp [go_sem, ↓IntWalk.iteOmega, ev e40, q0]
          with_reducible rfl
         intro a109 hE e41 kp
         refine wpList_nil ?_
         replace e0 := hE.g e0
         replace e3 := hE.g e3
         replace e4 := hE.g e4
         replace e5 := hE.g e5
         replace e6 := hE.g e6
         replace k := k.env hE
         clear hE
         refine Z01 ?_
         refine wp_block ?_
         refine wp_seq ?_
         refine wp_seq ?_
         refine wp_region_lit ?_
         have hE := Env.refl a109 [56, 55]
         refine sd 56 hE k (Z06 (Z0s rfl (hE.g e41) rfl) (decide_eq_false hk1)) ?_
         intro a110 hE e56 kp
         refine sd 55 hE k (Z00 rfl e56) ?_
         intro a111 hE e55 kp
         refine wpList_nil ?_
         replace e0 := hE.g e0
         replace e3 := hE.g e3
         replace e4 := hE.g e4
         replace e5 := hE.g e5
         replace e6 := hE.g e6
         replace e41 := hE.g e41
         replace k := k.env hE
         clear hE
         refine Z01 ?_
         refine Z05 e55 rfl ?_
         refine wp_region_lit ?_
         have hE := Env.refl a111 [57, 55]
         refine sd 57 hE k (Z06 (Z0s rfl (hE.g e41) rfl) (decide_eq_true hk2)) ?_
         intro a112 hE e57 kp
         refine sd 55 hE k (Z00 rfl e57) ?_
         intro a113 hE e55 kp
         refine wpList_nil ?_
         replace e0 := hE.g e0
         replace e3 := hE.g e3
         replace e4 := hE.g e4
         replace e5 := hE.g e5
         replace e6 := hE.g e6
         replace e41 := hE.g e41
         replace k := k.env hE
         clear hE
         refine Z01 ?_
         refine Z0d e55 rfl ?_
         refine wp_seq ?_
         refine wp_region_lit ?_
         have hE := Env.refl a113 [59, 60, 61, 62, 63, 64, 58, 65, 66, 7, 8]
         refine sm 59 hE k e3 ?_
         intro a114 hE e59 kp
         apply Z02 60 hE k rfl rfl rfl rfl
         case h =>
          simp [go_sem, ↓IntWalk.iteOmega, ev e59]
          with_reducible rfl
         intro a115 hE e60 kp
         refine sm 61 hE k e4 ?_
         intro a116 hE e61 kp
         replace e60 := kt kp e60
         apply Z02 62 hE k rfl rfl rfl rfl
         case h =>
          simp [go_sem, ↓IntWalk.iteOmega, ev (hE.g e6)]
          with_reducible rfl
         intro a117 hE e62 kp
         replace e60 := kt kp e60
         replace e61 := kt kp e61
         apply Z02 63 hE k rfl rfl rfl rfl
         case h =>
          have q0 : w46.cell? ⟨xb, 1, none⟩ = some (.int .i64 c) := (OwnT.blk O 3 rfl).cell 1
          have q1 : w46.cell? ⟨xb, 2, none⟩ = some (.int .i64 t) := (OwnT.blk O 3 rfl).cell 2
          have q2 : w46.cell? ⟨xb, 3, none⟩ = some (.int .i64 s) := (OwnT.blk O 3 rfl).cell 3
          simp [go_sem, ↓IntWalk.iteOmega, ev e62, q0, q1, q2]
          with_reducible rfl
         intro a118 hE e63 kp
         replace e60 := kt kp e60
         replace e61 := kt kp e61
         apply Z07 64 hE k rfl (by rfl) (by rfl) rfl
         case h =>
          simp [go_sem, ↓IntWalk.iteOmega, ev e60, ev e61, ev e63]
          with_reducible exact ⟨rfl, rfl⟩
         case hc => exact pPut (R := _ :: []) c t s _ O hg hT.norm (by split <;> omega) (by omega)
         clear O
         rintro e w120 ⟨N2, r2, er, B2, cap2, vs2, rfl, O, hPL⟩
         refine ⟨_, rfl, ?_⟩
         intro a119 hE e64 kp
         refine sd 58 hE k (Z03 rfl e64) ?_
         intro a121 hE e58 kp
         apply Z02 65 hE k rfl rfl rfl rfl
         case h =>
          simp [go_sem, ↓IntWalk.iteOmega, ev e58]
          with_reducible rfl
         intro a122 hE e65 kp
         replace e58 := kt kp e58
         apply Z02 66 hE k rfl rfl rfl rfl
         case h =>
          simp [go_sem, ↓IntWalk.iteOmega, ev e58]
          with_reducible rfl
         intro a123 hE e66 kp
         replace e65 := kt kp e65
         refine sd 7 hE k (Z00 rfl e65) ?_
         intro a124 hE e7 kp
         replace e66 := kt kp e66
         refine sd 8 hE k (Z00 rfl e66) ?_
         intro a125 hE e8 kp
         replace e7 := kt kp e7
         refine wpList_nil ?_
         replace e0 := hE.g e0
         replace e3 := hE.g e3
         replace e4 := hE.g e4
         replace e5 := hE.g e5
         replace e6 := hE.g e6
         replace k := k.env hE
         clear hE e41 e55
         refine Z01 (wp_seq ?_)
         refine wp_region_lit ?_
         have hE := Env.refl a125 [67, 68, 69, 70, 71, 72, 73, 74]
         apply Z02 67 hE k rfl rfl rfl rfl
         case h =>
          simp [go_sem, ↓IntWalk.iteOmega, ev (hE.g e6)]
          with_reducible rfl
         intro a126 hE e67 kp
         apply Z02 68 hE k rfl rfl rfl rfl
         case h =>
          simp [go_sem, ↓IntWalk.iteOmega, ev e67]
          with_reducible rfl
         intro a127 hE e68 kp
         apply Z02 69 hE k rfl rfl rfl rfl
         case h =>
          have q0 : w120.cell? ⟨xb, 1, none⟩ = some (.int .i64 c) := (OwnT.blk O 3 rfl).cell 1
          simp [go_sem, ↓IntWalk.iteOmega, ev e68, q0]
          with_reducible rfl
         intro a128 hE e69 kp
         apply Z02 70 hE k rfl rfl rfl rfl
         case h =>
          simp [go_sem, ↓IntWalk.iteOmega, ev (hE.g e6)]
          with_reducible rfl
         intro a129 hE e70 kp
         replace e69 := kt kp e69
         apply Z02 71 hE k rfl rfl rfl rfl
         case h =>
          simp [go_sem, ↓IntWalk.iteOmega, ev e70]
          with_reducible rfl
         intro a130 hE e71 kp
         replace e69 := kt kp e69
         apply Z02 72 hE k rfl rfl rfl rfl
         case h =>
          have q0 : w120.cell? ⟨xb, 2, none⟩ = some (.int .i64 t) := (OwnT.blk O 3 rfl).cell 2
          have q1 : w120.cell? ⟨xb, 3, none⟩ = some (.int .i64 s) := (OwnT.blk O 3 rfl).cell 3
          simp [go_sem, ↓IntWalk.iteOmega, ev e71, q0, q1]
          with_reducible rfl
         intro a131 hE e72 kp
         replace e69 := kt kp e69
         apply Z07 73 hE k rfl (by rfl) (by rfl) rfl
         case h =>
          simp [go_sem, ↓IntWalk.iteOmega, ev e69, ev e72]
          with_reducible exact ⟨rfl, rfl⟩
         case hc => exact Z24 c t s _
         rintro e w133 ⟨rfl, RE⟩
         replace O := OwnT.ext O RE
         refine ⟨.bool true, by rw [Z1s hg], ?_⟩
         intro a132 hE e73 kp
         refine sd 74 hE k (Z1m rfl e73) ?_
         intro a134 hE e74 kp
         refine wpList_nil ?_
         replace e0 := hE.g e0
         replace e3 := hE.g e3
         replace e4 := hE.g e4
         replace e5 := hE.g e5
         replace e7 := hE.g e7
         replace e8 := hE.g e8
         replace k := k.env hE
         clear hE e6
         refine Z01 ?_
         refine Z05 e74 rfl ?_
         refine wp_skip ?_
         refine Z0r ?_
         refine Z01 ?_
         obtain ⟨⟨M, rfl, hM⟩, hPL⟩ := hPL
         have hX : er = 6 ∨ (er = 0 ∧ ∃ r : Nat, r2 = r ∧ Tre (N ++ M) r (8 + i + 1) (insP (plKey c, plVal t s) P)) := by
          rcases hPL with ⟨h1, _⟩ | ⟨h1, r, h2, _, _, h3⟩
          · exact .inl h1
          · exact .inr ⟨h1, r, h2, h3.next (by omega)⟩

         exact ⟨k, e0, e3, e5, r2, er, _, N ++ M, B2, cap2, vs2, e7, e8, by rw [List.length_append]; omega, hX, (OwnT.pickR (L := [_, _, _, _]) (R := []) O [0, 1, 2] (by decide))⟩
       · skip
         refine wp_seq ?_
         refine wp_region_lit ?_
         have hE := Env.refl a48 [40, 41]
         apply Z02 40 hE k rfl rfl rfl rfl
         case h =>
          simp [go_sem, ↓IntWalk.iteOmega, ev (hE.g e6)]
          with_reducible rfl
         intro a135 hE e40 kp
         apply Z02 41 hE k rfl rfl rfl rfl
         case h =>
          have q0 : w46.cell? ⟨xb, 0, none⟩ = some (.int .i64 kd) := (OwnT.blk O 3 rfl).cell 0
          simp [go_sem, ↓IntWalk.iteOmega, ev e40, q0]
          with_reducible rfl
         intro a136 hE e41 kp
         refine wpList_nil ?_
         replace e0 := hE.g e0
         replace e3 := hE.g e3
         replace e4 := hE.g e4
         replace e5 := hE.g e5
         replace e6 := hE.g e6
         replace k := k.env hE
         clear hE
         refine Z01 ?_
         refine wp_block ?_
         refine wp_seq ?_
         refine wp_seq ?_
         refine wp_region_lit ?_
         have hE := Env.refl a136 [56, 55]
         refine sd 56 hE k (Z06 (Z0s rfl (hE.g e41) rfl) (decide_eq_false hk1)) ?_
         intro a137 hE e56 kp
         refine sd 55 hE k (Z00 rfl e56) ?_
         intro a138 hE e55 kp
         refine wpList_nil ?_
         replace e0 := hE.g e0
         replace e3 := hE.g e3
         replace e4 := hE.g e4
         replace e5 := hE.g e5
         replace e6 := hE.g e6
         replace e41 := hE.g e41
         replace k := k.env hE
         clear hE
         refine Z01 ?_
         refine Z05 e55 rfl ?_
         refine wp_region_lit ?_
         have hE := Env.refl a138 [57, 55]
         refine sd 57 hE k (Z06 (Z0s rfl (hE.g e41) rfl) (decide_eq_true hk2)) ?_
         intro a139 hE e57 kp
         refine sd 55 hE k (Z00 rfl e57) ?_
         intro a140 hE e55 kp
         refine wpList_nil ?_
         replace e0 := hE.g e0
         replace e3 := hE.g e3
         replace e4 := hE.g e4
         replace e5 := hE.g e5
         replace e6 := hE.g e6
         replace e41 := hE.g e41
         replace k := k.env hE
         clear hE
         refine Z01 ?_
         refine Z0d e55 rfl ?_
         refine wp_seq ?_
         refine wp_region_lit ?_
         have hE := Env.refl a140 [59, 60, 61, 62, 63, 64, 58, 65, 66, 7, 8]
         refine sm 59 hE k e3 ?_
         intro a141 hE e59 kp
         apply Z02 60 hE k rfl rfl rfl rfl
         case h =>
          simp [go_sem, ↓IntWalk.iteOmega, ev e59]
          with_reducible rfl
         intro a142 hE e60 kp
         refine sm 61 hE k e4 ?_
         intro a143 hE e61 kp
         replace e60 := kt kp e60
         apply Z02 62 hE k rfl rfl rfl rfl
         case h =>
          simp [go_sem, ↓IntWalk.iteOmega, ev (hE.g e6)]
          with_reducible rfl
         intro a144 hE e62 kp
         replace e60 := kt kp e60
         replace e61 := kt kp e61
         apply Z02 63 hE k rfl rfl rfl rfl
         case h =>
          have q0 : w46.cell? ⟨xb, 1, none⟩ = some (.int .i64 c) := (OwnT.blk O 3 rfl).cell 1
          have q1 : w46.cell? ⟨xb, 2, none⟩ = some (.int .i64 t) := (OwnT.blk O 3 rfl).cell 2
          have q2 : w46.cell? ⟨xb, 3, none⟩ = some (.int .i64 s) := (OwnT.blk O 3 rfl).cell 3
          simp [go_sem, ↓IntWalk.iteOmega, ev e62, q0, q1, q2]
          with_reducible rfl
         intro a145 hE e63 kp
         replace e60 := kt kp e60
         replace e61 := kt kp e61
         apply Z07 64 hE k rfl (by rfl) (by rfl) rfl
         case h =>
          simp [go_sem, ↓IntWalk.iteOmega, ev e60, ev e61, ev e63]
          with_reducible exact ⟨rfl, rfl⟩
         case hc => exact pPut_bad c t s _ hg
         rintro e w147 ⟨rfl, RE⟩
         replace O := OwnT.ext O RE
         refine ⟨_, rfl, ?_⟩
         intro a146 hE e64 kp
         refine sd 58 hE k (Z03 rfl e64) ?_
         intro a148 hE e58 kp
         apply Z02 65 hE k rfl rfl rfl rfl
         case h =>
          simp [go_sem, ↓IntWalk.iteOmega, ev e58]
          with_reducible rfl
         intro a149 hE e65 kp
         replace e58 := kt kp e58
         apply Z02 66 hE k rfl rfl rfl rfl
         case h =>
          simp [go_sem, ↓IntWalk.iteOmega, ev e58]
          with_reducible rfl
         intro a150 hE e66 kp
         replace e65 := kt kp e65
         refine sd 7 hE k (Z00 rfl e65) ?_
         intro a151 hE e7 kp
         replace e66 := kt kp e66
         refine sd 8 hE k (Z00 rfl e66) ?_
         intro a152 hE e8 kp
         replace e7 := kt kp e7
         refine wpList_nil ?_
         replace e0 := hE.g e0
         replace e3 := hE.g e3
         replace e4 := hE.g e4
         replace e5 := hE.g e5
         replace e6 := hE.g e6
         replace k := k.env hE
         clear hE e41 e55
         refine Z01 (wp_seq ?_)
         refine wp_region_lit ?_
         have hE := Env.refl a152 [67, 68, 69, 70, 71, 72, 73, 74]
         apply Z02 67 hE k rfl rfl rfl rfl
         case h =>
          simp [go_sem, ↓IntWalk.iteOmega, ev (hE.g e6)]
          with_reducible rfl
         intro a153 hE e67 kp
         apply Z02 68 hE k rfl rfl rfl rfl
         case h =>
          simp [go_sem, ↓IntWalk.iteOmega, ev e67]
          with_reducible rfl
         intro a154 hE e68 kp
         apply Z02 69 hE k rfl rfl rfl rfl
         case h =>
          have q0 : w147.cell? ⟨xb, 1, none⟩ = some (.int .i64 c) := (OwnT.blk O 3 rfl).cell 1
          simp [go_sem, ↓IntWalk.iteOmega, ev e68, q0]
          with_reducible rfl
         intro a155 hE e69 kp
         apply Z02 70 hE k rfl rfl rfl rfl
         case h =>
          simp [go_sem, ↓IntWalk.iteOmega, ev (hE.g e6)]
          with_reducible rfl
         intro a156 hE e70 kp
         replace e69 := kt kp e69
         apply Z02 71 hE k rfl rfl rfl rfl
         case h =>
          simp [go_sem, ↓IntWalk.iteOmega, ev e70]
          with_reducible rfl
         intro a157 hE e71 kp
         replace e69 := kt kp e69
         apply Z02 72 hE k rfl rfl rfl rfl
         case h =>
          have q0 : w147.cell? ⟨xb, 2, none⟩ = some (.int .i64 t) := (OwnT.blk O 3 rfl).cell 2
          have q1 : w147.cell? ⟨xb, 3, none⟩ = some (.int .i64 s) := (OwnT.blk O 3 rfl).cell 3
          simp [go_sem, ↓IntWalk.iteOmega, ev e71, q0, q1]
          with_reducible rfl
         intro a158 hE e72 kp
         replace e69 := kt kp e69
         apply Z07 73 hE k rfl (by rfl) (by rfl) rfl
         case h =>
          simp [go_sem, ↓IntWalk.iteOmega, ev e69, ev e72]
          with_reducible exact ⟨rfl, rfl⟩
         case hc => exact Z24 c t s _
         rintro e w160 ⟨rfl, RE⟩
         replace O := OwnT.ext O RE
         refine ⟨.bool false, by rw [placeB_no hg], ?_⟩
         intro a159 hE e73 kp
         refine sd 74 hE k (Z1m rfl e73) ?_
         intro a161 hE e74 kp
         refine wpList_nil ?_
         replace e0 := hE.g e0
         replace e3 := hE.g e3
         replace e4 := hE.g e4
         replace e5 := hE.g e5
         replace e7 := hE.g e7
         replace e8 := hE.g e8
         replace k := k.env hE
         clear hE e6
         refine Z01 ?_
         refine Z0d e74 rfl ?_
         refine wp_seq ?_
         refine wp_seq ?_
         refine wp_region_lit ?_
         have hE := Env.refl a161 [75, 76, 77, 78, 79, 80]
         refine sm 75 hE k e8 ?_
         intro a162 hE e75 kp
         refine sd 76 hE k (Z0v rfl e75 rfl) ?_
         intro a163 hE e76 kp
         refine sd 77 hE k (Z03 rfl e76) ?_
         intro a164 hE e77 kp
         apply Z04 78 hE k rfl rfl rfl rfl rfl e77
         case h =>
          exact Z03 rfl (hE.g e7)
         intro a165 hE e78 kp
         replace e77 := kt kp e77
         apply Z04 79 hE k rfl rfl rfl rfl rfl e77
         case h =>
          exact Z0v rfl e78 rfl
         intro a166 hE e79 kp
         replace e77 := kt kp e77
         refine sd 80 hE k (Z08 rfl e77 e79) ?_
         intro a167 hE e80 kp
         refine wpList_nil ?_
         replace e0 := hE.g e0
         replace e3 := hE.g e3
         replace e4 := hE.g e4
         replace e5 := hE.g e5
         replace k := k.env hE
         clear hE e7 e8 e74
         refine Z01 ?_
         refine Z05 e80 rfl ?_
         refine wp_skip ?_
         refine Z01 ?_
         refine wp_exit ?_
         refine block_o rfl ?_
         refine Z14 ?_
         refine Z1j ?_
         refine Z01 ?_
         refine wp_region_lit ?_
         have hE := Env.refl a167 [34, 35, 5]
         refine sd 34 hE k (Z03 rfl e5) ?_
         intro a168 hE e34 kp
         replace e5 := kt kp e5
         refine sd 35 hE k (Z19 rfl e34 rfl (by omega)) ?_
         intro a169 hE e35 kp
         replace e5 := kt kp e5
         refine sd 5 hE k (Z00 rfl e35) ?_
         intro a170 hE e5 kp
         refine wpList_nil ?_
         replace e0 := hE.g e0
         replace e3 := hE.g e3
         replace e4 := hE.g e4
         replace k := k.env hE
         clear hE e80
         refine Z01 ?_
         refine ⟨⟨k, e0, e3, i + 1, rt, P, N, B, cap, vs, e4, e5, by omega, by omega, hT.le (by omega), (OwnT.pickR (L := [_, _, _, _]) (R := []) O [0, 1, 2] (by decide))⟩, ?_⟩
         rw [e5, mi]; simp only [intOf]; omega
   · have hk1 : ¬ kd = 1 := fun h => hk12 (.inl h)
     have hk2 : ¬ kd = 2 := fun h => hk12 (.inr h)
     by_cases hk3 : kd = 3
     · obtain ⟨ky, hky⟩ : ∃ k, keyN c = k := ⟨_, rfl⟩
       obtain ⟨has, hhas⟩ : ∃ b, (lookP ky P).isSome = b := ⟨_, rfl⟩
       obtain ⟨z, hz⟩ : ∃ b, (lookP ky P).getD 0 = b := ⟨_, rfl⟩
       have hG : ∀ W, OwnT W0.heap.size W0 ((tBlk sb 28 #[.slice B N.length cap, .int .i64 511]) :: (tRow 125 2 (.slice B N.length cap) N.length (leafV vs N)) :: (tPool vs N) :: (tBlk xb 119 #[.int .i64 kd, .int .i64 c, .int .i64 t, .int .i64 s, .int .u64 ↑pk, .int .u64 ↑pv]) :: []) W → Calls Try.prog 19 #[.iface 24 (.pointer (some ⟨sb, 0, none⟩)), .int .i64 rt, .int .u64 ky] W fun e w' => e = .returned (.tuple #[.int .u64 (z : Nat), .bool has, .int .i64 0]) ∧ OwnT W0.heap.size W0 ((tBlk sb 28 #[.slice B N.length cap, .int .i64 511]) :: (tRow 125 2 (.slice B N.length cap) N.length (leafV vs N)) :: (tPool vs N) :: (tBlk xb 119 #[.int .i64 kd, .int .i64 c, .int .i64 t, .int .i64 s, .int .u64 ↑pk, .int .u64 ↑pv]) :: []) w' := fun W O => by have := lGet (R := _ :: []) (ky := ky) W O hT (by omega); rw [hz, hhas] at this; exact this
       refine wp_seq ?_
       refine wp_region_lit ?_
       have hE := Env.refl a48 [40, 41]
       apply Z02 40 hE k rfl rfl rfl rfl
       case h =>
        simp [go_sem, ↓IntWalk.iteOmega, ev (hE.g e6)]
        with_reducible rfl
       intro a171 hE e40 kp
       apply Z02 41 hE k rfl rfl rfl rfl
       case h =>
        have q0 : w46.cell? ⟨xb, 0, none⟩ = some (.int .i64 kd) := (OwnT.blk O 3 rfl).cell 0
        simp [go_sem, ↓IntWalk.iteOmega, ev e40, q0]
        with_reducible rfl
       intro a172 hE e41 kp
       refine wpList_nil ?_
       replace e0 := hE.g e0
       replace e3 := hE.g e3
       replace e4 := hE.g e4
       replace e5 := hE.g e5
       replace e6 := hE.g e6
       replace k := k.env hE
       clear hE
       refine Z01 ?_
       refine wp_block ?_
       refine wp_seq ?_
       refine wp_seq ?_
       refine wp_region_lit ?_
       have hE := Env.refl a172 [56, 55]
       refine sd 56 hE k (Z06 (Z0s rfl (hE.g e41) rfl) (decide_eq_false hk1)) ?_
       intro a173 hE e56 kp
       refine sd 55 hE k (Z00 rfl e56) ?_
       intro a174 hE e55 kp
       refine wpList_nil ?_
       replace e0 := hE.g e0
       replace e3 := hE.g e3
       replace e4 := hE.g e4
       replace e5 := hE.g e5
       replace e6 := hE.g e6
       replace e41 := hE.g e41
       replace k := k.env hE
       clear hE
       refine Z01 ?_
       refine Z05 e55 rfl ?_
       refine wp_region_lit ?_
       have hE := Env.refl a174 [57, 55]
       refine sd 57 hE k (Z06 (Z0s rfl (hE.g e41) rfl) (decide_eq_false hk2)) ?_
       intro a175 hE e57 kp
       refine sd 55 hE k (Z00 rfl e57) ?_
       intro a176 hE e55 kp
       refine wpList_nil ?_
       replace e0 := hE.g e0
       replace e3 := hE.g e3
       replace e4 := hE.g e4
       replace e5 := hE.g e5
       replace e6 := hE.g e6
       replace e41 := hE.g e41
       replace k := k.env hE
       clear hE
       refine Z01 ?_
       refine Z05 e55 rfl ?_
       refine wp_seq ?_
       refine wp_region_lit ?_
       have hE := Env.refl a176 [82, 81]
       refine sd 82 hE k (Z06 (Z0s rfl (hE.g e41) rfl) (decide_eq_true hk3)) ?_
       intro a177 hE e82 kp
       refine sd 81 hE k (Z00 rfl e82) ?_
       intro a178 hE e81 kp
       refine wpList_nil ?_
       replace e0 := hE.g e0
       replace e3 := hE.g e3
       replace e4 := hE.g e4
       replace e5 := hE.g e5
       replace e6 := hE.g e6
       replace k := k.env hE
       clear hE e41 e55
       refine Z01 ?_
       refine Z0d e81 rfl ?_
       refine wp_seq ?_
       refine wp_region_lit ?_
       have hE := Env.refl a178 [84, 85, 86, 87, 88, 89, 90, 91, 92, 83, 93, 94, 95, 9, 10, 11]
       refine sm 84 hE k e3 ?_
       intro a179 hE e84 kp
       apply Z02 85 hE k rfl rfl rfl rfl
       case h =>
        simp [go_sem, ↓IntWalk.iteOmega, ev e84]
        with_reducible rfl
       intro a180 hE e85 kp
       refine sm 86 hE k e4 ?_
       intro a181 hE e86 kp
       replace e85 := kt kp e85
       apply Z02 87 hE k rfl rfl rfl rfl
       case h =>
        simp [go_sem, ↓IntWalk.iteOmega, ev (hE.g e6)]
        with_reducible rfl
       intro a182 hE e87 kp
       replace e85 := kt kp e85
       replace e86 := kt kp e86
       apply Z02 88 hE k rfl rfl rfl rfl
       case h =>
        simp [go_sem, ↓IntWalk.iteOmega, ev e87]
        with_reducible rfl
       intro a183 hE e88 kp
       replace e85 := kt kp e85
       replace e86 := kt kp e86
       apply Z02 89 hE k rfl rfl rfl rfl
       case h =>
        have q0 : w46.cell? ⟨xb, 1, none⟩ = some (.int .i64 c) := (OwnT.blk O 3 rfl).cell 1
        simp [go_sem, ↓IntWalk.iteOmega, ev e88, q0]
        with_reducible rfl
       intro a184 hE e89 kp
       replace e85 := kt kp e85
       replace e86 := kt kp e86
       refine sd 90 hE k (x_conv rfl e89 (conv_u64w c _)) ?_
       intro a185 hE e90 kp
       replace e85 := kt kp e85
       replace e86 := kt kp e86
       refine sd 91 hE k (x_addU (m := 8589934592) (n := uN c) rfl rfl e90) ?_
       intro a186 hE e91 kp
       replace e85 := kt kp e85
       replace e86 := kt kp e86
       replace e91 := e91.trans (Z0z (show ((keyN c : Nat) : Int) = (ky : Int) by rw [hky]))
       apply Z07 92 hE k rfl (by rfl) (by rfl) rfl
       case h =>
        simp [go_sem, ↓IntWalk.iteOmega, ev e85, ev e86, ev e91]
        with_reducible exact ⟨rfl, rfl⟩
       case hc => exact hG _ O
       clear O
       rintro e w188 ⟨rfl, O⟩
       refine ⟨_, rfl, ?_⟩
       intro a187 hE e92 kp
       refine sd 83 hE k (Z03 rfl e92) ?_
       intro a189 hE e83 kp
       apply Z02 93 hE k rfl rfl rfl rfl
       case h =>
        simp [go_sem, ↓IntWalk.iteOmega, ev e83]
        with_reducible rfl
       intro a190 hE e93 kp
       replace e83 := kt kp e83
       apply Z02 94 hE k rfl rfl rfl rfl
       case h =>
        simp [go_sem, ↓IntWalk.iteOmega, ev e83]
        with_reducible rfl
       intro a191 hE e94 kp
       replace e83 := kt kp e83
       replace e93 := kt kp e93
       apply Z02 95 hE k rfl rfl rfl rfl
       case h =>
        simp [go_sem, ↓IntWalk.iteOmega, ev e83]
        with_reducible rfl
       intro a192 hE e95 kp
       replace e93 := kt kp e93
       replace e94 := kt kp e94
       refine sd 9 hE k (Z00 rfl e93) ?_
       intro a193 hE e9 kp
       replace e94 := kt kp e94
       replace e95 := kt kp e95
       refine sd 10 hE k (Z00 rfl e94) ?_
       intro a194 hE e10 kp
       replace e95 := kt kp e95
       refine sd 11 hE k (Z00 rfl e95) ?_
       intro a195 hE e11 kp
       replace e10 := kt kp e10
       refine wpList_nil ?_
       replace e0 := hE.g e0
       replace e3 := hE.g e3
       replace e4 := hE.g e4
       replace e5 := hE.g e5
       replace e6 := hE.g e6
       replace k := k.env hE
       clear hE e81
       refine Z01 (wp_seq ?_)
       refine wp_region_lit ?_
       have hE := Env.refl a195 [12]
       refine sd 12 hE k (Z00 rfl rfl) ?_
       intro a196 hE e12 kp
       refine wpList_nil ?_
       replace e0 := hE.g e0
       replace e3 := hE.g e3
       replace e4 := hE.g e4
       replace e5 := hE.g e5
       replace e6 := hE.g e6
       replace e10 := hE.g e10
       replace e11 := hE.g e11
       replace k := k.env hE
       clear hE e12
       refine Z01 (wp_seq ?_)
       refine wp_region_lit ?_
       have hE := Env.refl a196 [97, 98, 99, 100, 101, 102, 103, 96, 104, 105, 106, 7, 12, 8]
       refine sm 97 hE k e3 ?_
       intro a197 hE e97 kp
       apply Z02 98 hE k rfl rfl rfl rfl
       case h =>
        simp [go_sem, ↓IntWalk.iteOmega, ev e97]
        with_reducible rfl
       intro a198 hE e98 kp
       refine sm 99 hE k e4 ?_
       intro a199 hE e99 kp
       replace e98 := kt kp e98
       apply Z02 100 hE k rfl rfl rfl rfl
       case h =>
        simp [go_sem, ↓IntWalk.iteOmega, ev (hE.g e6)]
        with_reducible rfl
       intro a200 hE e100 kp
       replace e98 := kt kp e98
       replace e99 := kt kp e99
       apply Z02 101 hE k rfl rfl rfl rfl
       case h =>
        simp [go_sem, ↓IntWalk.iteOmega, ev e100]
        with_reducible rfl
       intro a201 hE e101 kp
       replace e98 := kt kp e98
       replace e99 := kt kp e99
       apply Z02 102 hE k rfl rfl rfl rfl
       case h =>
        have q0 : w188.cell? ⟨xb, 1, none⟩ = some (.int .i64 c) := (OwnT.blk O 3 rfl).cell 1
        simp [go_sem, ↓IntWalk.iteOmega, ev e101, q0]
        with_reducible rfl
       intro a202 hE e102 kp
       replace e98 := kt kp e98
       replace e99 := kt kp e99
       apply Z07 103 hE k rfl (by rfl) (by rfl) rfl
       case h =>
        simp [go_sem, ↓IntWalk.iteOmega, ev e98, ev e99, ev e102]
        with_reducible exact ⟨rfl, rfl⟩
       case hc => exact pDrop (R := _ :: []) c _ O hT (by omega)
       clear O
       rintro e w204 ⟨N2, r2, ok, er, B2, cap2, vs2, rfl, O, hDL⟩
       refine ⟨_, rfl, ?_⟩
       intro a203 hE e103 kp
       refine sd 96 hE k (Z03 rfl e103) ?_
       intro a205 hE e96 kp
       apply Z02 104 hE k rfl rfl rfl rfl
       case h =>
        simp [go_sem, ↓IntWalk.iteOmega, ev e96]
        with_reducible rfl
       intro a206 hE e104 kp
       replace e96 := kt kp e96
       apply Z02 105 hE k rfl rfl rfl rfl
       case h =>
        simp [go_sem, ↓IntWalk.iteOmega, ev e96]
        with_reducible rfl
       intro a207 hE e105 kp
       replace e96 := kt kp e96
       replace e104 := kt kp e104
       apply Z02 106 hE k rfl rfl rfl rfl
       case h =>
        simp [go_sem, ↓IntWalk.iteOmega, ev e96]
        with_reducible rfl
       intro a208 hE e106 kp
       replace e104 := kt kp e104
       replace e105 := kt kp e105
       refine sd 7 hE k (Z00 rfl e104) ?_
       intro a209 hE e7 kp
       replace e105 := kt kp e105
       replace e106 := kt kp e106
       refine sd 12 hE k (Z00 rfl e105) ?_
       intro a210 hE e12 kp
       replace e106 := kt kp e106
       replace e7 := kt kp e7
       refine sd 8 hE k (Z00 rfl e106) ?_
       intro a211 hE e8 kp
       replace e7 := kt kp e7
       replace e12 := kt kp e12
       refine wpList_nil ?_
       replace e0 := hE.g e0
       replace e3 := hE.g e3
       replace e5 := hE.g e5
       replace e10 := hE.g e10
       replace e11 := hE.g e11
       replace k := k.env hE
       clear hE e4 e6
       refine Z01 ?_
       rw [hky] at hDL
       obtain ⟨⟨M, rfl, hM⟩, hDL⟩ := hDL
       have hX : (er = 6) ∨ (er = 0 ∧ ok = has ∧ ∃ r : Nat, r2 = r ∧ Tre (N ++ M) r (8 + i + 1) (delP ky P)) := by
        rcases hDL with ⟨h1, h2, h3, h4, h5⟩ | ⟨h1, _⟩ | ⟨h1, h2, h3, r, h4, h5⟩
        · exact .inr ⟨h1, by rw [h2, ← hhas, h5]; rfl, rt, h3, by rw [del_none h5]; exact (hT.mono M).le (by omega)⟩
        · exact .inl h1
        · exact .inr ⟨h1, by rw [h2, ← hhas, h3], r, h4, h5.le (by omega)⟩
       clear hDL
       rcases hX with rfl | ⟨rfl, rfl, hX⟩

       · skip
         refine wp_seq ?_
         refine wp_region_lit ?_
         have hE := Env.refl a211 [107, 108, 109, 110, 111, 112, 113, 114, 115, 116, 117]
         refine sm 107 hE k e11 ?_
         intro a212 hE e107 kp
         refine sd 108 hE k (Z06 (Z0v rfl e107 rfl) (decide_eq_false (by omega))) ?_
         intro a213 hE e108 kp
         refine sd 109 hE k (Z03 rfl e108) ?_
         intro a214 hE e109 kp
         apply Z04 110 hE k rfl rfl rfl rfl rfl e109
         case h =>
          exact Z03 rfl (hE.g e8)
         intro a215 hE e110 kp
         replace e109 := kt kp e109
         apply Z04 111 hE k rfl rfl rfl rfl rfl e109
         case h =>
          exact Z06 (Z0s rfl e110 rfl) (decide_eq_false (by omega))
         intro a216 hE e111 kp
         replace e109 := kt kp e109
         apply Z04 112 hE k rfl rfl rfl rfl rfl e109
         case h =>
          exact Z03 rfl e111
         intro a217 hE e112 kp
         replace e109 := kt kp e109
         refine Z09 113 hE k rfl (by rfl) (by rfl) rfl rfl (.inl e112) ?_
         intro a218 hE e113 kp
         replace e109 := kt kp e109
         replace e112 := kt kp e112
         refine Z09 114 hE k rfl (by rfl) (by rfl) rfl rfl (.inl e112) ?_
         intro a219 hE e114 kp
         replace e109 := kt kp e109
         replace e112 := kt kp e112
         replace e113 := kt kp e113
         refine Z09 115 hE k rfl (by rfl) (by rfl) rfl rfl (.inl e112) ?_
         intro a220 hE e115 kp
         replace e109 := kt kp e109
         replace e112 := kt kp e112
         apply Z04 116 hE k rfl rfl rfl rfl rfl e109
         case h =>
          exact Z08 rfl e112 rfl
         intro a221 hE e116 kp
         replace e109 := kt kp e109
         refine sd 117 hE k (Z08 rfl e109 e116) ?_
         intro a222 hE e117 kp
         refine wpList_nil ?_
         replace e0 := hE.g e0
         replace e3 := hE.g e3
         replace e5 := hE.g e5
         replace e7 := hE.g e7
         replace e8 := hE.g e8
         replace k := k.env hE
         clear hE e10 e11 e12
         refine Z01 ?_
         refine Z05 e117 rfl ?_
         refine wp_skip ?_
         refine Z0r ?_
         refine Z01 ?_
         exact ⟨k, e0, e3, e5, r2, 6, P, N ++ M, B2, cap2, vs2, e7, e8, by rw [List.length_append]; omega, .inl rfl, (OwnT.pickR (L := [_, _, _, _]) (R := []) O [0, 1, 2] (by decide))⟩
       · skip
         refine wp_seq ?_
         refine wp_region_lit ?_
         have hE := Env.refl a211 [107, 108, 109, 110, 111, 112, 113, 114, 115, 116, 117]
         refine sm 107 hE k e11 ?_
         intro a223 hE e107 kp
         refine sd 108 hE k (Z06 (Z0v rfl e107 rfl) (decide_eq_false (by omega))) ?_
         intro a224 hE e108 kp
         refine sd 109 hE k (Z03 rfl e108) ?_
         intro a225 hE e109 kp
         apply Z04 110 hE k rfl rfl rfl rfl rfl e109
         case h =>
          exact Z03 rfl (hE.g e8)
         intro a226 hE e110 kp
         replace e109 := kt kp e109
         apply Z04 111 hE k rfl rfl rfl rfl rfl e109
         case h =>
          exact Z06 (Z0s rfl e110 rfl) (decide_eq_true rfl)
         intro a227 hE e111 kp
         replace e109 := kt kp e109
         apply Z04 112 hE k rfl rfl rfl rfl rfl e109
         case h =>
          exact Z03 rfl e111
         intro a228 hE e112 kp
         replace e109 := kt kp e109
         apply Z04 113 hE k rfl rfl rfl rfl rfl e112
         case h =>
          exact Z03 rfl (hE.g e12)
         intro a229 hE e113 kp
         replace e109 := kt kp e109
         replace e112 := kt kp e112
         apply Z04 114 hE k rfl rfl rfl rfl rfl e112
         case h =>
          exact Z03 rfl (hE.g e10)
         intro a230 hE e114 kp
         replace e109 := kt kp e109
         replace e112 := kt kp e112
         replace e113 := kt kp e113
         apply Z04 115 hE k rfl rfl rfl rfl rfl e112
         case h =>
          exact x_neB2 (c := false) rfl e113 e114 (by simp)
         intro a231 hE e115 kp
         replace e109 := kt kp e109
         replace e112 := kt kp e112
         apply Z04 116 hE k rfl rfl rfl rfl rfl e109
         case h =>
          exact Z0h rfl e112 e115
         intro a232 hE e116 kp
         replace e109 := kt kp e109
         refine sd 117 hE k (Z08 rfl e109 e116) ?_
         intro a233 hE e117 kp
         refine wpList_nil ?_
         replace e0 := hE.g e0
         replace e3 := hE.g e3
         replace e5 := hE.g e5
         replace e7 := hE.g e7
         replace e8 := hE.g e8
         replace k := k.env hE
         clear hE e10 e11 e12
         refine Z01 ?_
         refine Z05 e117 rfl ?_
         refine wp_skip ?_
         refine Z0r ?_
         refine Z01 ?_
         exact ⟨k, e0, e3, e5, r2, 0, delP ky P, N ++ M, B2, cap2, vs2, e7, e8, by rw [List.length_append]; omega, .inr ⟨rfl, hX⟩, (OwnT.pickR (L := [_, _, _, _]) (R := []) O [0, 1, 2] (by decide))⟩
     · skip
       refine wp_seq ?_
       refine wp_region_lit ?_
       have hE := Env.refl a48 [40, 41]
       apply Z02 40 hE k rfl rfl rfl rfl
       case h =>
        simp [go_sem, ↓IntWalk.iteOmega, ev (hE.g e6)]
        with_reducible rfl
       intro a234 hE e40 kp
       apply Z02 41 hE k rfl rfl rfl rfl
       case h =>
        have q0 : w46.cell? ⟨xb, 0, none⟩ = some (.int .i64 kd) := (OwnT.blk O 3 rfl).cell 0
        simp [go_sem, ↓IntWalk.iteOmega, ev e40, q0]
        with_reducible rfl
       intro a235 hE e41 kp
       refine wpList_nil ?_
       replace e0 := hE.g e0
       replace e3 := hE.g e3
       replace e4 := hE.g e4
       replace e5 := hE.g e5
       replace e6 := hE.g e6
       replace k := k.env hE
       clear hE
       refine Z01 ?_
       refine wp_block ?_
       refine wp_seq ?_
       refine wp_seq ?_
       refine wp_region_lit ?_
       have hE := Env.refl a235 [56, 55]
       refine sd 56 hE k (Z06 (Z0s rfl (hE.g e41) rfl) (decide_eq_false hk1)) ?_
       intro a236 hE e56 kp
       refine sd 55 hE k (Z00 rfl e56) ?_
       intro a237 hE e55 kp
       refine wpList_nil ?_
       replace e0 := hE.g e0
       replace e3 := hE.g e3
       replace e4 := hE.g e4
       replace e5 := hE.g e5
       replace e6 := hE.g e6
       replace e41 := hE.g e41
       replace k := k.env hE
       clear hE
       refine Z01 ?_
       refine Z05 e55 rfl ?_
       refine wp_region_lit ?_
       have hE := Env.refl a237 [57, 55]
       refine sd 57 hE k (Z06 (Z0s rfl (hE.g e41) rfl) (decide_eq_false hk2)) ?_
       intro a238 hE e57 kp
       refine sd 55 hE k (Z00 rfl e57) ?_
       intro a239 hE e55 kp
       refine wpList_nil ?_
       replace e0 := hE.g e0
       replace e3 := hE.g e3
       replace e4 := hE.g e4
       replace e5 := hE.g e5
       replace e6 := hE.g e6
       replace e41 := hE.g e41
       replace k := k.env hE
       clear hE
       refine Z01 ?_
       refine Z05 e55 rfl ?_
       refine wp_seq ?_
       refine wp_region_lit ?_
       have hE := Env.refl a239 [82, 81]
       refine sd 82 hE k (Z06 (Z0s rfl (hE.g e41) rfl) (decide_eq_false hk3)) ?_
       intro a240 hE e82 kp
       refine sd 81 hE k (Z00 rfl e82) ?_
       intro a241 hE e81 kp
       refine wpList_nil ?_
       replace e0 := hE.g e0
       replace e3 := hE.g e3
       replace e4 := hE.g e4
       replace e5 := hE.g e5
       replace e6 := hE.g e6
       replace k := k.env hE
       clear hE e41 e55
       refine Z01 ?_
       refine Z05 e81 rfl ?_
       refine wp_region_lit ?_
       have hE := Env.refl a241 [43, 44, 45, 46, 47, 48, 49, 50, 51, 52, 42, 53, 54, 7, 8]
       refine sm 43 hE k e3 ?_
       intro a242 hE e43 kp
       apply Z02 44 hE k rfl rfl rfl rfl
       case h =>
        simp [go_sem, ↓IntWalk.iteOmega, ev e43]
        with_reducible rfl
       intro a243 hE e44 kp
       refine sm 45 hE k e4 ?_
       intro a244 hE e45 kp
       replace e44 := kt kp e44
       apply Z02 46 hE k rfl rfl rfl rfl
       case h =>
        simp [go_sem, ↓IntWalk.iteOmega, ev (hE.g e6)]
        with_reducible rfl
       intro a245 hE e46 kp
       replace e44 := kt kp e44
       replace e45 := kt kp e45
       apply Z02 47 hE k rfl rfl rfl rfl
       case h =>
        simp [go_sem, ↓IntWalk.iteOmega, ev e46]
        with_reducible rfl
       intro a246 hE e47 kp
       replace e44 := kt kp e44
       replace e45 := kt kp e45
       apply Z02 48 hE k rfl rfl rfl rfl
       case h =>
        have q0 : w46.cell? ⟨xb, 4, none⟩ = some (.int .u64 ↑pk) := (OwnT.blk O 3 rfl).cell 4
        simp [go_sem, ↓IntWalk.iteOmega, ev e47, q0]
        with_reducible rfl
       intro a247 hE e48 kp
       replace e44 := kt kp e44
       replace e45 := kt kp e45
       apply Z02 49 hE k rfl rfl rfl rfl
       case h =>
        simp [go_sem, ↓IntWalk.iteOmega, ev (hE.g e6)]
        with_reducible rfl
       intro a248 hE e49 kp
       replace e44 := kt kp e44
       replace e45 := kt kp e45
       replace e48 := kt kp e48
       apply Z02 50 hE k rfl rfl rfl rfl
       case h =>
        simp [go_sem, ↓IntWalk.iteOmega, ev e49]
        with_reducible rfl
       intro a249 hE e50 kp
       replace e44 := kt kp e44
       replace e45 := kt kp e45
       replace e48 := kt kp e48
       apply Z02 51 hE k rfl rfl rfl rfl
       case h =>
        have q0 : w46.cell? ⟨xb, 5, none⟩ = some (.int .u64 ↑pv) := (OwnT.blk O 3 rfl).cell 5
        simp [go_sem, ↓IntWalk.iteOmega, ev e50, q0]
        with_reducible rfl
       intro a250 hE e51 kp
       replace e44 := kt kp e44
       replace e45 := kt kp e45
       replace e48 := kt kp e48
       apply Z07 52 hE k rfl (by rfl) (by rfl) rfl
       case h =>
        simp [go_sem, ↓IntWalk.iteOmega, ev e44, ev e45, ev e48, ev e51]
        with_reducible exact ⟨rfl, rfl⟩
       case hc => exact lPut (R := _ :: []) (ky := pk) (vl := pv) _ O hT.norm (by split <;> omega) (by omega) hpk hpv
       clear O
       rintro e w252 ⟨N2, r2, er, B2, cap2, vs2, rfl, O, hPL⟩
       refine ⟨_, rfl, ?_⟩
       intro a251 hE e52 kp
       refine sd 42 hE k (Z03 rfl e52) ?_
       intro a253 hE e42 kp
       apply Z02 53 hE k rfl rfl rfl rfl
       case h =>
        simp [go_sem, ↓IntWalk.iteOmega, ev e42]
        with_reducible rfl
       intro a254 hE e53 kp
       replace e42 := kt kp e42
       apply Z02 54 hE k rfl rfl rfl rfl
       case h =>
        simp [go_sem, ↓IntWalk.iteOmega, ev e42]
        with_reducible rfl
       intro a255 hE e54 kp
       replace e53 := kt kp e53
       refine sd 7 hE k (Z00 rfl e53) ?_
       intro a256 hE e7 kp
       replace e54 := kt kp e54
       refine sd 8 hE k (Z00 rfl e54) ?_
       intro a257 hE e8 kp
       replace e7 := kt kp e7
       refine wpList_nil ?_
       replace e0 := hE.g e0
       replace e3 := hE.g e3
       replace e5 := hE.g e5
       replace k := k.env hE
       clear hE e4 e6 e81
       refine Z0r ?_
       refine Z01 ?_
       obtain ⟨⟨M, rfl, hM⟩, hPL⟩ := hPL
       have hX : er = 6 ∨ (er = 0 ∧ ∃ r : Nat, r2 = r ∧ Tre (N ++ M) r (8 + i + 1) (insP (pk, pv) P)) := by
        rcases hPL with ⟨h1, _⟩ | ⟨h1, r, h2, _, _, h3⟩
        · exact .inl h1
        · exact .inr ⟨h1, r, h2, h3.next (by omega)⟩

       exact ⟨k, e0, e3, e5, r2, er, _, N ++ M, B2, cap2, vs2, e7, e8, by rw [List.length_append]; omega, hX, (OwnT.pickR (L := [_, _, _, _]) (R := []) O [0, 1, 2] (by decide))⟩
 · clear k e0 e3 e4 e5 e6 O
   intro a258 w259 h_
   obtain ⟨k, e0, e3, e5, r2, er, P2, N2, B2, cap2, vs2, e7, e8, hN2, hX, O⟩ := h_
   rcases hX with rfl | ⟨rfl, r, rfl, hT2⟩
   · skip
     refine wp_seq ?_
     refine wp_seq ?_
     refine wp_region_lit ?_
     have hE := Env.refl a258 [118, 119]
     refine sm 118 hE k e8 ?_
     intro a260 hE e118 kp
     refine sd 119 hE k (Z06 (Z0s rfl e118 rfl) (decide_eq_true rfl)) ?_
     intro a261 hE e119 kp
     refine wpList_nil ?_
     replace e0 := hE.g e0
     replace e3 := hE.g e3
     replace e5 := hE.g e5
     replace e7 := hE.g e7
     replace e8 := hE.g e8
     replace k := k.env hE
     clear hE
     refine Z01 ?_
     refine Z0d e119 rfl ?_
     refine wp_seq ?_
     refine wp_region_lit ?_
     have hE := Env.refl a261 [2]
     refine sd 2 hE k (Z00 rfl rfl) ?_
     intro a262 hE e2 kp
     refine wpList_nil ?_
     replace k := k.env hE
     clear hE e0 e3 e5 e7 e8 e119
     refine Z01 ?_
     refine wp_ret ?_
     refine Z0g ?_
     refine Z15 ?_
     refine Z0g ?_
     refine Z0g ?_
     refine Z15 ?_
     refine Z0g ?_
     refine Z11 rfl k e2 ?_
     exact ⟨rfl, O.below⟩
   · skip
     obtain ⟨Q, hQ⟩ : ∃ Q, cutP 8589934592 12884901887 P2 = Q := ⟨_, rfl⟩
     have hP2l := hT2.len
     have hQl : Q.length ≤ P2.length := by rw [← hQ]; exact List.length_filter_le _ _
     have hQw : ∀ y ∈ Q, y.1 < 18446744073709551616 ∧ y.2 < 18446744073709551616 := fun y hy => hT2.wf y (by rw [← hQ] at hy; exact (List.mem_filter.1 hy).1)

     refine wp_seq ?_
     refine wp_seq ?_
     refine wp_region_lit ?_
     have hE := Env.refl a258 [118, 119]
     refine sm 118 hE k e8 ?_
     intro a263 hE e118 kp
     refine sd 119 hE k (Z06 (Z0s rfl e118 rfl) (decide_eq_false (by omega))) ?_
     intro a264 hE e119 kp
     refine wpList_nil ?_
     replace e0 := hE.g e0
     replace e3 := hE.g e3
     replace e5 := hE.g e5
     replace e7 := hE.g e7
     replace e8 := hE.g e8
     replace k := k.env hE
     clear hE
     refine Z01 ?_
     refine Z05 e119 rfl ?_
     refine wp_skip ?_
     refine Z01 (wp_seq ?_)
     refine wp_seq ?_
     refine wp_region_lit ?_
     have hE := Env.refl a264 [120, 121]
     refine sm 120 hE k e8 ?_
     intro a265 hE e120 kp
     refine sd 121 hE k (Z06 (Z0v rfl e120 rfl) (decide_eq_false (by omega))) ?_
     intro a266 hE e121 kp
     refine wpList_nil ?_
     replace e0 := hE.g e0
     replace e3 := hE.g e3
     replace e5 := hE.g e5
     replace e7 := hE.g e7
     replace k := k.env hE
     clear hE e8 e119
     refine Z01 ?_
     refine Z05 e121 rfl ?_
     refine wp_skip ?_
     refine Z01 (wp_seq ?_)
     refine wp_region_lit ?_
     have hE := Env.refl a266 [122, 4]
     refine sm 122 hE k e7 ?_
     intro a267 hE e122 kp
     refine sd 4 hE k (Z00 rfl e122) ?_
     intro a268 hE e4 kp
     refine wpList_nil ?_
     replace e0 := hE.g e0
     replace e3 := hE.g e3
     replace e5 := hE.g e5
     replace k := k.env hE
     clear hE e7 e121
     refine Z01 (wp_seq ?_)
     refine wp_region_lit ?_
     have hE := Env.refl a268 [124, 125, 126, 127, 123, 128, 129, 13, 14]
     refine sm 124 hE k e3 ?_
     intro a269 hE e124 kp
     apply Z02 125 hE k rfl rfl rfl rfl
     case h =>
      simp [go_sem, ↓IntWalk.iteOmega, ev e124]
      with_reducible rfl
     intro a270 hE e125 kp
     refine sm 126 hE k e4 ?_
     intro a271 hE e126 kp
     replace e125 := kt kp e125
     apply Z07 127 hE k rfl (by rfl) (by rfl) rfl
     case h =>
      simp [go_sem, ↓IntWalk.iteOmega, ev e125, ev e126]
      with_reducible exact ⟨rfl, rfl⟩
     case hc => exact lRange_is 8589934592 12884901887 hQ _ O hT2 (by omega) (by omega)
     clear O
     rintro e w273 ⟨Ba, ca, rfl, O⟩
     refine ⟨_, rfl, ?_⟩
     intro a272 hE e127 kp
     refine sd 123 hE k (Z03 rfl e127) ?_
     intro a274 hE e123 kp
     apply Z02 128 hE k rfl rfl rfl rfl
     case h =>
      simp [go_sem, ↓IntWalk.iteOmega, ev e123]
      with_reducible rfl
     intro a275 hE e128 kp
     replace e123 := kt kp e123
     apply Z02 129 hE k rfl rfl rfl rfl
     case h =>
      simp [go_sem, ↓IntWalk.iteOmega, ev e123]
      with_reducible rfl
     intro a276 hE e129 kp
     replace e128 := kt kp e128
     refine sd 13 hE k (Z00 rfl e128) ?_
     intro a277 hE e13 kp
     replace e129 := kt kp e129
     refine sd 14 hE k (Z00 rfl e129) ?_
     intro a278 hE e14 kp
     replace e13 := kt kp e13
     refine wpList_nil ?_
     replace e0 := hE.g e0
     replace e3 := hE.g e3
     replace e4 := hE.g e4
     replace e5 := hE.g e5
     replace k := k.env hE
     clear hE
     refine Z01 ?_
     have hPL : ∀ W, OwnT W0.heap.size W0 ((tBlk sb 28 #[.slice B2 N2.length cap2, .int .i64 511]) :: (tRow 125 2 (.slice B2 N2.length cap2) N2.length (leafV vs2 N2)) :: (tPool vs2 N2) :: (tPs (.slice Ba Q.length ca) Q) :: []) W → Calls Try.prog 50 #[.iface 24 (.pointer (some ⟨sb, 0, none⟩)), .int .i64 r] W fun e w' => ∃ (lv : Value) (gv : Int), e = .returned (.tuple #[lv, .int .i64 gv]) ∧ ((Q.all plOkB = true ∧ gv = 0 ∧ ∃ B' c', lv = .slice B' Q.length c' ∧ OwnT W0.heap.size W0 (shT sb 511 B2 cap2 vs2 N2 (tPls (.slice B' Q.length c') (Q.map plOf) :: tPs (.slice Ba Q.length ca) Q :: [])) w') ∨ (Q.all plOkB = false ∧ gv = 3 ∧ lv = .slice none 0 0 ∧ OwnT W0.heap.size W0 ((tBlk sb 28 #[.slice B2 N2.length cap2, .int .i64 511]) :: (tRow 125 2 (.slice B2 N2.length cap2) N2.length (leafV vs2 N2)) :: (tPool vs2 N2) :: (tPs (.slice Ba Q.length ca) Q) :: []) w')) := fun W O => by
      refine (pList (R := _ :: []) hQ W O hT2 (by omega) (by omega)).mono ?_
      rintro e w' (⟨h1, B', c', rfl, h2⟩ | ⟨h1, rfl, h2⟩)
      · exact ⟨_, _, rfl, .inl ⟨h1, rfl, B', c', by rw [List.length_map], by rw [List.length_map] at h2; exact h2⟩⟩
      · exact ⟨_, _, rfl, .inr ⟨h1, rfl, rfl, h2⟩⟩
     refine wp_seq ?_
     refine wp_region_lit ?_
     have hE := Env.refl a278 [131, 132, 133, 134, 130, 135, 136, 15, 16]
     refine sm 131 hE k e3 ?_
     intro a279 hE e131 kp
     apply Z02 132 hE k rfl rfl rfl rfl
     case h =>
      simp [go_sem, ↓IntWalk.iteOmega, ev e131]
      with_reducible rfl
     intro a280 hE e132 kp
     refine sm 133 hE k e4 ?_
     intro a281 hE e133 kp
     replace e132 := kt kp e132
     apply Z07 134 hE k rfl (by rfl) (by rfl) rfl
     case h =>
      simp [go_sem, ↓IntWalk.iteOmega, ev e132, ev e133]
      with_reducible exact ⟨rfl, rfl⟩
     case hc => exact hPL _ O
     rintro e w283 ⟨lv, gv, rfl, hLv⟩
     refine ⟨_, rfl, ?_⟩
     intro a282 hE e134 kp
     refine sd 130 hE k (Z03 rfl e134) ?_
     intro a284 hE e130 kp
     apply Z02 135 hE k rfl rfl rfl rfl
     case h =>
      simp [go_sem, ↓IntWalk.iteOmega, ev e130]
      with_reducible rfl
     intro a285 hE e135 kp
     replace e130 := kt kp e130
     apply Z02 136 hE k rfl rfl rfl rfl
     case h =>
      simp [go_sem, ↓IntWalk.iteOmega, ev e130]
      with_reducible rfl
     intro a286 hE e136 kp
     replace e135 := kt kp e135
     refine sd 15 hE k (Z00 rfl e135) ?_
     intro a287 hE e15 kp
     replace e136 := kt kp e136
     refine sd 16 hE k (Z00 rfl e136) ?_
     intro a288 hE e16 kp
     replace e15 := kt kp e15
     refine wpList_nil ?_
     replace e0 := hE.g e0
     replace e3 := hE.g e3
     replace e4 := hE.g e4
     replace e5 := hE.g e5
     replace e13 := hE.g e13
     replace e14 := hE.g e14
     replace k := k.env hE
     clear hE
     refine Z01 ?_
     rcases hLv with ⟨hall, rfl, Bl, cl, rfl, O⟩ | ⟨hall, rfl, rfl, O⟩
     · have hall2 := List.all_eq_true.1 hall
       refine wp_seq ?_
       refine wp_seq ?_
       refine wp_region_lit ?_
       have hE := Env.refl a288 [137, 138]
       refine sm 137 hE k e14 ?_
       intro a289 hE e137 kp
       refine sd 138 hE k (Z06 (Z0v rfl e137 rfl) (decide_eq_false (by omega))) ?_
       intro a290 hE e138 kp
       refine wpList_nil ?_
       replace e0 := hE.g e0
       replace e3 := hE.g e3
       replace e4 := hE.g e4
       replace e5 := hE.g e5
       replace e13 := hE.g e13
       replace e15 := hE.g e15
       replace e16 := hE.g e16
       replace k := k.env hE
       clear hE e14
       refine Z01 ?_
       refine Z05 e138 rfl ?_
       refine wp_skip ?_
       refine Z01 (wp_seq ?_)
       refine wp_region_lit ?_
       have hE := Env.refl a290 [17]
       refine sd 17 hE k (Z00 rfl rfl) ?_
       intro a291 hE e17 kp
       refine wpList_nil ?_
       replace e0 := hE.g e0
       replace e3 := hE.g e3
       replace e4 := hE.g e4
       replace e5 := hE.g e5
       replace e13 := hE.g e13
       replace e15 := hE.g e15
       replace e16 := hE.g e16
       replace k := k.env hE
       clear hE e138
       refine Z01 (wp_seq ?_)
       refine wp_seq ?_
       refine wp_region_lit ?_
       have hE := Env.refl a291 [18]
       refine sd 18 hE k (Z00 rfl rfl) ?_
       intro a292 hE e18 kp
       refine wpList_nil ?_
       replace e0 := hE.g e0
       replace e3 := hE.g e3
       replace e4 := hE.g e4
       replace e5 := hE.g e5
       replace e13 := hE.g e13
       replace e15 := hE.g e15
       replace e16 := hE.g e16
       replace e17 := hE.g e17
       replace k := k.env hE
       clear hE
       refine Z01 ?_
       refine wp_block ?_
       refine wp_loop (fun a w => Fr 204 a ∧ a.eval (.tmp 0) = .slice (some ⟨b, o, none⟩) n cp ∧ a.eval (.tmp 3) = .pointer (some ⟨sb, 0, none⟩) ∧ a.eval (.tmp 4) = .int .i64 ↑r ∧ a.eval (.tmp 5) = .int .i64 ↑i ∧ a.eval (.tmp 13) = .slice Ba Q.length ca ∧ a.eval (.tmp 15) = .slice Bl Q.length cl ∧ a.eval (.tmp 16) = .int .i64 0 ∧ ∃ (j : Nat) (gd : Bool), a.eval (.tmp 17) = .bool gd ∧ a.eval (.tmp 18) = .int .i64 ↑j ∧ j ≤ Q.length ∧ gd = (Q.take j).all plOkB ∧ OwnT W0.heap.size W0 ((tBlk sb 28 #[.slice B2 N2.length cap2, .int .i64 511]) :: (tRow 125 2 (.slice B2 N2.length cap2) N2.length (leafV vs2 N2)) :: (tPool vs2 N2) :: (tPls (.slice Bl Q.length cl) (Q.map plOf)) :: (tPs (.slice Ba Q.length ca) Q) :: []) w) (fun a w => Q.length - (intOf (a.eval (.tmp 18))).toNat) ?_ ?_
       · exact ⟨k, e0, e3, e4, e5, e13, e15, e16, 0, true, e17, e18, Nat.zero_le _, rfl, O⟩
       intro a293 w294 hI
       clear k e0 e3 e4 e5 e13 e15 e16
       obtain ⟨k, e0, e3, e4, e5, e13, e15, e16, h_⟩ := hI
       clear O e17 e18
       obtain ⟨j, gd, e17, e18, hj, hgd, O⟩ := h_
       have mj := e18
       by_cases hltj : j < Q.length
       · have hltjI : (j : Int) < (Q.length : Int) := by omega
         obtain ⟨y, hy⟩ : ∃ y, Q[j]? = some y := ⟨_, List.getElem?_eq_getElem (by omega)⟩
         have hym := List.mem_of_getElem? hy
         have htk := all_take (p := plOkB) hy
         rw [← hgd] at htk
         obtain ⟨-, ga, rfl, d0, d1⟩ := ps_cells (OwnT.get O 4 rfl) hy
         obtain ⟨y1, y2⟩ := y
         have hyw := hQw _ hym
         obtain ⟨c, t, s, hcts, hR⟩ := rread_any hyw.1 hyw.2
         obtain ⟨ob, hob⟩ : ∃ b, plOkB (y1, y2) = b := ⟨_, rfl⟩
         rw [hob] at hR htk hcts

         have hob2 : ob = true := by rw [← hob]; exact hall2 _ hym
         subst hob2
         have hgt : gd = true := by rw [hgd]; exact List.all_eq_true.2 fun z hz => hall2 z (List.mem_of_mem_take hz)
         rw [hgt] at e17 htk
         replace hcts := hcts rfl
         have hmy : (Q.map plOf)[j]? = some (c, t, s) := by rw [List.getElem?_map, hy, hcts]; rfl
         obtain ⟨gl, rfl, -⟩ : ∃ gl, Bl = some ⟨gl, 0, none⟩ ∧ True := by obtain ⟨g, h, _⟩ := pl_cells (OwnT.get O 3 rfl) hmy; exact ⟨g, h, trivial⟩
         refine wp_seq ?_
         refine wp_seq ?_
         refine wp_region_lit ?_
         have hE := Env.refl a293 [139, 140, 141, 142]
         refine sm 139 hE k e18 ?_
         intro a295 hE e139 kp
         refine sm 140 hE k e13 ?_
         intro a296 hE e140 kp
         replace e139 := kt kp e139
         refine sd 141 hE k (Z0l Try.underlying29 rfl e140) ?_
         intro a297 hE e141 kp
         replace e139 := kt kp e139
         refine sd 142 hE k (Z06 (Z1c rfl e139 e141) (decide_eq_true (by omega))) ?_
         intro a298 hE e142 kp
         refine wpList_nil ?_
         replace e0 := hE.g e0
         replace e3 := hE.g e3
         replace e4 := hE.g e4
         replace e5 := hE.g e5
         replace e13 := hE.g e13
         replace e15 := hE.g e15
         replace e16 := hE.g e16
         replace e17 := hE.g e17
         replace e18 := hE.g e18
         replace k := k.env hE
         clear hE
         refine Z01 ?_
         refine Z0d e142 rfl ?_
         refine wp_skip ?_
         refine Z01 (wp_seq ?_)
         refine wp_block ?_
         refine wp_seq ?_
         refine wp_region_lit ?_
         have hE := Env.refl a298 [146, 147, 148, 149, 150, 145, 151, 152, 153, 20, 19, 21]
         refine sm 146 hE k e13 ?_
         intro a299 hE e146 kp
         refine sm 147 hE k e18 ?_
         intro a300 hE e147 kp
         replace e146 := kt kp e146
         apply Z02 148 hE k rfl rfl rfl rfl
         case h =>
          simp [go_sem, ↓IntWalk.iteOmega, ev e146, ev e147]
          with_reducible rfl
         intro a301 hE e148 kp
         apply Z02 149 hE k rfl rfl rfl rfl
         case h =>
          simp [go_sem, ↓IntWalk.iteOmega, ev e148, d0, d1]
          with_reducible rfl
         intro a302 hE e149 kp
         apply Z07 150 hE k rfl (by rfl) (by rfl) rfl
         case h =>
          simp [go_sem, ↓IntWalk.iteOmega, ev e149]
          with_reducible exact ⟨rfl, rfl⟩
         case hc => exact hR _
         rintro e w304 ⟨rfl, RE⟩
         replace O := OwnT.ext O RE
         refine ⟨_, rfl, ?_⟩
         intro a303 hE e150 kp
         refine sd 145 hE k (Z03 rfl e150) ?_
         intro a305 hE e145 kp
         apply Z02 151 hE k rfl rfl rfl rfl
         case h =>
          simp [go_sem, ↓IntWalk.iteOmega, ev e145]
          with_reducible rfl
         intro a306 hE e151 kp
         replace e145 := kt kp e145
         apply Z02 152 hE k rfl rfl rfl rfl
         case h =>
          simp [go_sem, ↓IntWalk.iteOmega, ev e145]
          with_reducible rfl
         intro a307 hE e152 kp
         replace e145 := kt kp e145
         replace e151 := kt kp e151
         apply Z02 153 hE k rfl rfl rfl rfl
         case h =>
          simp [go_sem, ↓IntWalk.iteOmega, ev e145]
          with_reducible rfl
         intro a308 hE e153 kp
         replace e151 := kt kp e151
         replace e152 := kt kp e152
         refine Z0j O (cs := #[.int .i64 0, .int .i64 0]) (t := 108) 20 hE k rfl (by rfl) (by rfl) rfl (by simp [go_sem, ↓IntWalk.iteOmega]) ?_
         clear O
         intro tb a309 w310 O hE e20 kp
         replace e151 := kt kp e151
         replace e152 := kt kp e152
         replace e153 := kt kp e153
         refine sd 19 hE k (Z00 rfl e151) ?_
         intro a311 hE e19 kp
         replace e152 := kt kp e152
         replace e153 := kt kp e153
         replace e20 := kt kp e20
         have q0 : w310.cell? ⟨tb, 0, none⟩ = some (.int .i64 0) := (OwnT.blk O 0 rfl).cell 0
         have z0 : w310.frozen? ⟨tb, 0, none⟩ = false := (OwnT.blk O 0 rfl).frozen 0
         have q1 : w310.cell? ⟨tb, 1, none⟩ = some (.int .i64 0) := (OwnT.blk O 0 rfl).cell 1
         have z1 : w310.frozen? ⟨tb, 1, none⟩ = false := (OwnT.blk O 0 rfl).frozen 1
         refine Z0i (w' := ((w310.setCell ⟨tb, 0, none⟩ (.int .i64 t)).setCell ⟨tb, 1, none⟩ (.int .i64 s))) hE rfl rfl (by simp [go_sem, ↓IntWalk.iteOmega, ev e20, ev e152, q0, z0, q1, z1]) ?_
         replace O := OwnT.push 0 rfl (((OwnT.pull O 0 rfl).set 0 (.int .i64 t)).set 1 (.int .i64 s))
         clear q0 z0 q1 z1
         generalize ((w310.setCell ⟨tb, 0, none⟩ (.int .i64 t)).setCell ⟨tb, 1, none⟩ (.int .i64 s)) = w312 at O ⊢
         replace O : OwnT _ _ ((tBlk tb 108 #[.int .i64 t, .int .i64 s]) :: (tBlk sb 28 #[.slice B2 N2.length cap2, .int .i64 511]) :: (tRow 125 2 (.slice B2 N2.length cap2) N2.length (leafV vs2 N2)) :: (tPool vs2 N2) :: (tPls (.slice (some ⟨gl, 0, none⟩) Q.length cl) (Q.map plOf)) :: (tPs (.slice (some ⟨ga, 0, none⟩) Q.length ca) Q) :: []) w312 := O
         refine sd 21 hE k (Z00 rfl e153) ?_
         intro a313 hE e21 kp
         replace e20 := kt kp e20
         replace e19 := kt kp e19
         refine wpList_nil ?_
         replace e0 := hE.g e0
         replace e3 := hE.g e3
         replace e4 := hE.g e4
         replace e5 := hE.g e5
         replace e13 := hE.g e13
         replace e15 := hE.g e15
         replace e16 := hE.g e16
         replace e17 := hE.g e17
         replace e18 := hE.g e18
         replace k := k.env hE
         clear hE e142
         refine Z01 ?_
         clear d0 d1
         replace O : OwnT _ _ ((tBlk sb 28 #[.slice B2 N2.length cap2, .int .i64 511]) :: (tRow 125 2 (.slice B2 N2.length cap2) N2.length (leafV vs2 N2)) :: (tPool vs2 N2) :: (tPls (.slice (some ⟨gl, 0, none⟩) Q.length cl) (Q.map plOf)) :: (tPs (.slice (some ⟨ga, 0, none⟩) Q.length ca) Q) :: (tBlk tb 108 #[.int .i64 t, .int .i64 s]) :: []) w312 := OwnT.pickR (L := [_, _, _, _, _, _]) (R := []) O [1, 2, 3, 4, 5, 0] (by decide)
         refine wp_seq ?_
         refine wp_region_lit ?_
         have hE := Env.refl a313 [154, 155, 156, 157, 17]
         refine sd 154 hE k (Z03 rfl e17) ?_
         intro a314 hE e154 kp
         replace e17 := kt kp e17
         refine sd 155 hE k (Z03 rfl e154) ?_
         intro a315 hE e155 kp
         replace e17 := kt kp e17
         apply Z04 156 hE k rfl rfl rfl rfl rfl e155
         case h =>
          exact Z03 rfl (hE.g e21)
         intro a316 hE e156 kp
         replace e17 := kt kp e17
         replace e155 := kt kp e155
         refine sd 157 hE k (Z0h rfl e155 e156) ?_
         intro a317 hE e157 kp
         replace e17 := kt kp e17
         refine sd 17 hE k (Z00 rfl e157) ?_
         intro a318 hE e17 kp
         refine wpList_nil ?_
         replace e0 := hE.g e0
         replace e3 := hE.g e3
         replace e4 := hE.g e4
         replace e5 := hE.g e5
         replace e13 := hE.g e13
         replace e15 := hE.g e15
         replace e16 := hE.g e16
         replace e18 := hE.g e18
         replace e19 := hE.g e19
         replace e20 := hE.g e20
         replace k := k.env hE
         clear hE e21
         refine Z01 (wp_seq ?_)
         refine Z0c (R := Ext) (w0 := w312) [[], [0], [0, 1], [0, 1, 2], [0, 1, 2, 3], [0, 1, 2, 3, 4], [0, 1, 2, 3, 4, 5], [0, 1, 2, 3, 4, 5], [0, 1, 2, 3, 4, 5, 7], [0, 1, 2, 3, 4, 5, 6, 7, 8], [0, 1, 2, 3, 4, 5, 6, 7, 8, 9], [0, 1, 2, 3, 4, 5, 6, 7, 8, 9, 10], [0, 1, 2, 3, 4, 5, 6, 7, 8, 9, 10], [0, 1, 2, 3, 4, 5, 6, 7, 8, 9, 10, 11, 12], [0, 1, 2, 3, 4, 5, 6, 7, 8, 9, 10, 11, 12, 13], [0, 1, 2, 3, 4, 5, 6, 7, 8, 9, 10], [0, 1, 2, 3, 4, 5, 6, 7, 8, 9, 10], [0, 1, 2, 3, 4, 5, 6, 7, 8, 9, 10, 15, 16], [0, 1, 2, 3, 4, 5, 6, 7, 8, 9, 10, 11, 12, 13, 14, 15, 16, 17], [0, 1, 2, 3, 4, 5, 6, 7, 8, 9, 10, 11, 12, 13, 14, 15, 16, 17, 18], [0, 1, 2, 3, 4, 5, 6, 7, 8, 9, 10, 11, 12, 13, 14, 15, 16, 17, 18, 19]] [158, 159, 160, 161, 162, 163, 164, 165, 166, 167, 168, 169, 170, 171, 172, 173, 174, 175, 176, 177, 178] Ext.refl (fun _ _ _ => Ext.trans) (Ext.drew _) (by kernel_rfl) ?_
         apply bd 158 k rfl rfl rfl
         case h =>
          intro ax wx hE hR hF
          exact Z03 rfl (hE.g e17)
         apply bd 159 k rfl rfl rfl
         case h =>
          intro ax wx hE hR hF
          have e158 := hF 0 (det 158 _) (by decide) (.head _)
          exact Z03 rfl e158
         apply bdg 160 k rfl rfl rfl rfl
         case h =>
          intro ax wx hE hR hF
          have e159 := hF 1 (det 159 _) (by decide) (.head _)
          refine ⟨e159, ?_⟩
          exact Z03 rfl (hE.g e16)
         apply bdg 161 k rfl rfl rfl rfl
         case h =>
          intro ax wx hE hR hF
          have e160 := hF 2 (det 160 _) (by decide) (.head _)
          have e159 := hF 1 (det 159 _) (by decide) (.tail _ (.head _))
          refine ⟨e159, ?_⟩
          exact Z06 (Z0s rfl e160 rfl) (decide_eq_true rfl)
         apply bd 162 k rfl rfl rfl
         case h =>
          intro ax wx hE hR hF
          have e159 := hF 1 (det 159 _) (by decide) (.tail _ (.tail _ (.head _)))
          have e161 := hF 3 (det 161 _) (by decide) (.head _)
          exact Z0h rfl e159 e161
         apply bd 163 k rfl rfl rfl
         case h =>
          intro ax wx hE hR hF
          have e162 := hF 4 (det 162 _) (by decide) (.head _)
          exact Z03 rfl e162
         apply bdg 164 k rfl rfl rfl rfl
         case h =>
          intro ax wx hE hR hF
          have e163 := hF 5 (det 163 _) (by decide) (.head _)
          refine ⟨e163, ?_⟩
          exact Z03 rfl (hE.g e18)
         apply bdg 165 k rfl rfl rfl rfl
         case h =>
          intro ax wx hE hR hF
          have e163 := hF 5 (det 163 _) (by decide) (.tail _ (.head _))
          refine ⟨e163, ?_⟩
          exact Z03 rfl (hE.g e15)
         apply bdg 166 k rfl rfl rfl rfl
         case h =>
          intro ax wx hE hR hF
          have e165 := hF 7 (det 165 _) (by decide) (.head _)
          have e163 := hF 5 (det 163 _) (by decide) (.tail _ (.tail _ (.head _)))
          refine ⟨e163, ?_⟩
          exact Z0l Try.underlying111 rfl e165
         apply bdg 167 k rfl rfl rfl rfl
         case h =>
          intro ax wx hE hR hF
          have e164 := hF 6 (det 164 _) (by decide) (.tail _ (.tail _ (.head _)))
          have e166 := hF 8 (det 166 _) (by decide) (.head _)
          have e163 := hF 5 (det 163 _) (by decide) (.tail _ (.tail _ (.tail _ (.head _))))
          refine ⟨e163, ?_⟩
          exact Z06 (x_geq rfl e164 e166) (decide_eq_false (by omega))
         apply bdg 168 k rfl rfl rfl rfl
         case h =>
          intro ax wx hE hR hF
          have e167 := hF 9 (det 167 _) (by decide) (.head _)
          have e163 := hF 5 (det 163 _) (by decide) (.tail _ (.tail _ (.tail _ (.tail _ (.head _)))))
          refine ⟨e163, ?_⟩
          exact Z03 rfl e167
         apply bdg 169 k rfl rfl rfl rfl
         case h =>
          intro ax wx hE hR hF
          have e168 := hF 10 (det 168 _) (by decide) (.head _)
          refine ⟨e168, ?_⟩
          exact Z03 rfl (hE.g e15)
         apply bdg 170 k rfl rfl rfl rfl
         case h =>
          intro ax wx hE hR hF
          have e168 := hF 10 (det 168 _) (by decide) (.tail _ (.head _))
          refine ⟨e168, ?_⟩
          exact Z03 rfl (hE.g e18)
         apply bdg 171 k rfl rfl rfl rfl
         case h =>
          intro ax wx hE hR hF
          have e169 := hF 11 (det 169 _) (by decide) (.tail _ (.head _))
          have e170 := hF 12 (det 170 _) (by decide) (.head _)
          have e168 := hF 10 (det 168 _) (by decide) (.tail _ (.tail _ (.head _)))
          refine ⟨e168, ?_⟩
          simp [go_sem, ↓IntWalk.iteOmega, ev e169, ev e170]
          with_reducible rfl
         apply bdg 172 k rfl rfl rfl rfl
         case h =>
          intro ax wx hE hR hF
          have e171 := hF 13 (det 171 _) (by decide) (.head _)
          have e168 := hF 10 (det 168 _) (by decide) (.tail _ (.tail _ (.tail _ (.head _))))
          refine ⟨e168, ?_⟩
          obtain ⟨_, e, n0, n1, n2⟩ := pl_cells (OwnT.get (OwnT.ext O hR) 3 rfl : (tPls (.slice (some ⟨gl, 0, none⟩) Q.length cl) (Q.map plOf)).holds _) hmy; injection e with e; injection e with e; subst e
          simp [go_sem, ↓IntWalk.iteOmega, ev e171, n0, n1, n2]
          with_reducible rfl
         apply bdg 173 k rfl rfl rfl rfl
         case h =>
          intro ax wx hE hR hF
          have e168 := hF 10 (det 168 _) (by decide) (.tail _ (.tail _ (.tail _ (.tail _ (.head _)))))
          refine ⟨e168, ?_⟩
          exact Z03 rfl (hE.g e19)
         apply bdg 174 k rfl rfl rfl rfl
         case h =>
          intro ax wx hE hR hF
          have e168 := hF 10 (det 168 _) (by decide) (.tail _ (.tail _ (.tail _ (.tail _ (.tail _ (.head _))))))
          refine ⟨e168, ?_⟩
          have q0 : wx.cell? ⟨tb, 0, none⟩ = some (.int .i64 t) := (OwnT.blk (OwnT.ext O hR) 5 rfl).cell 0
          have q1 : wx.cell? ⟨tb, 1, none⟩ = some (.int .i64 s) := (OwnT.blk (OwnT.ext O hR) 5 rfl).cell 1
          simp [go_sem, ↓IntWalk.iteOmega, ev (hE.g e20), q0, q1]
          with_reducible rfl
         apply bdg 175 k rfl rfl rfl rfl
         case h =>
          intro ax wx hE hR hF
          have e173 := hF 15 (det 173 _) (by decide) (.tail _ (.head _))
          have e174 := hF 16 (det 174 _) (by decide) (.head _)
          have e168 := hF 10 (det 168 _) (by decide) (.tail _ (.tail _ (.tail _ (.tail _ (.tail _ (.tail _ (.head _)))))))
          refine ⟨e168, ?_⟩
          simp [go_sem, ↓IntWalk.iteOmega, ev e173, ev e174]
          with_reducible rfl
         apply bdg 176 k rfl rfl rfl rfl
         case h =>
          intro ax wx hE hR hF
          have e172 := hF 14 (det 172 _) (by decide) (.tail _ (.tail _ (.tail _ (.head _))))
          have e175 := hF 17 (det 175 _) (by decide) (.head _)
          have e168 := hF 10 (det 168 _) (by decide) (.tail _ (.tail _ (.tail _ (.tail _ (.tail _ (.tail _ (.tail _ (.head _))))))))
          refine ⟨e168, ?_⟩
          exact Z06 (c := false) (x_nePl rfl e172 e175) (decide_eq_false (fun h => h ⟨rfl, rfl, rfl⟩))
         apply bdg 177 k rfl rfl rfl rfl
         case h =>
          intro ax wx hE hR hF
          have e168 := hF 10 (det 168 _) (by decide) (.tail _ (.tail _ (.tail _ (.tail _ (.tail _ (.tail _ (.tail _ (.tail _ (.head _)))))))))
          have e176 := hF 18 (det 176 _) (by decide) (.head _)
          have e163 := hF 5 (det 163 _) (by decide) (.tail _ (.tail _ (.tail _ (.tail _ (.tail _ (.tail _ (.tail _ (.tail _ (.tail _ (.tail _ (.tail _ (.tail _ (.tail _ (.head _))))))))))))))
          refine ⟨e163, ?_⟩
          exact Z08 rfl e168 e176
         apply bd 178 k rfl rfl rfl
         case h =>
          intro ax wx hE hR hF
          have e163 := hF 5 (det 163 _) (by decide) (.tail _ (.tail _ (.tail _ (.tail _ (.tail _ (.tail _ (.tail _ (.tail _ (.tail _ (.tail _ (.tail _ (.tail _ (.tail _ (.tail _ (.head _)))))))))))))))
          have e177 := hF 19 (det 177 _) (by decide) (.head _)
          exact Z0h rfl e163 e177
         apply Build.stop
         refine ⟨by kernel_rfl, .inl ⟨rfl, ?_⟩⟩
         intro a319 w320 hE R hF
         have e178 : a319.eval (.tmp 178) = _ := hF 20 (det 178 _) (.head _)
         clear hF
         replace O := OwnT.ext O R
         clear R
         replace e0 := hE.g e0
         replace e3 := hE.g e3
         replace e4 := hE.g e4
         replace e5 := hE.g e5
         replace e13 := hE.g e13
         replace e15 := hE.g e15
         replace e16 := hE.g e16
         replace e17 := hE.g e17
         replace e18 := hE.g e18
         replace k := k.env hE
         clear hE e19 e20
         refine Z01 ?_
         refine Z05 e178 rfl ?_
         refine wp_skip ?_
         refine Z0r ?_
         refine Z01 ?_
         refine wp_region_lit ?_
         have hE := Env.refl a319 [143, 144, 18]
         refine sd 143 hE k (Z03 rfl e18) ?_
         intro a321 hE e143 kp
         replace e18 := kt kp e18
         refine sd 144 hE k (Z19 rfl e143 rfl (by omega)) ?_
         intro a322 hE e144 kp
         replace e18 := kt kp e18
         refine sd 18 hE k (Z00 rfl e144) ?_
         intro a323 hE e18 kp
         refine wpList_nil ?_
         replace e0 := hE.g e0
         replace e3 := hE.g e3
         replace e4 := hE.g e4
         replace e5 := hE.g e5
         replace e13 := hE.g e13
         replace e15 := hE.g e15
         replace e16 := hE.g e16
         replace e17 := hE.g e17
         replace k := k.env hE
         clear hE e178
         refine Z01 ?_
         refine ⟨⟨k, e0, e3, e4, e5, e13, e15, e16, j + 1, true, e17, e18, by omega, by rw [htk]; rfl, (OwnT.pickR (L := [_, _, _, _, _, _]) (R := []) O [0, 1, 2, 3, 4] (by decide))⟩, ?_⟩
         rw [e18, mj]; simp only [intOf]; omega
       · have hjl : j = Q.length := by omega
         rw [hjl, List.take_length, hall] at hgd
         clear mj
         subst hgd
         refine wp_seq ?_
         refine wp_seq ?_
         refine wp_region_lit ?_
         have hE := Env.refl a293 [139, 140, 141, 142]
         refine sm 139 hE k e18 ?_
         intro a324 hE e139 kp
         refine sm 140 hE k e13 ?_
         intro a325 hE e140 kp
         replace e139 := kt kp e139
         refine sd 141 hE k (Z0l Try.underlying29 rfl e140) ?_
         intro a326 hE e141 kp
         replace e139 := kt kp e139
         refine sd 142 hE k (Z06 (Z1c rfl e139 e141) (decide_eq_false (by omega))) ?_
         intro a327 hE e142 kp
         refine wpList_nil ?_
         replace e0 := hE.g e0
         replace e3 := hE.g e3
         replace e4 := hE.g e4
         replace e5 := hE.g e5
         replace e13 := hE.g e13
         replace e15 := hE.g e15
         replace e16 := hE.g e16
         replace e17 := hE.g e17
         replace e18 := hE.g e18
         replace k := k.env hE
         clear hE
         refine Z01 ?_
         refine Z05 e142 rfl ?_
         refine wp_exit ?_
         refine Z14 ?_
         refine Z14 ?_
         refine Z1j ?_
         refine Z01 (wp_seq ?_)
         refine wp_region_lit ?_
         have hE := Env.refl a327 [179, 180, 181, 182, 183, 184, 185, 186, 187, 188, 189, 190, 191, 192, 193, 194, 195, 196, 197, 198, 199, 200, 201, 202, 203]
         refine sm 179 hE k e17 ?_
         intro a328 hE e179 kp
         refine sd 180 hE k (Z03 rfl e179) ?_
         intro a329 hE e180 kp
         apply Z04 181 hE k rfl rfl rfl rfl rfl e180
         case h =>
          exact Z03 rfl (hE.g e16)
         intro a330 hE e181 kp
         replace e180 := kt kp e180
         apply Z04 182 hE k rfl rfl rfl rfl rfl e180
         case h =>
          exact Z06 (Z0v rfl e181 rfl) (decide_eq_false (by omega))
         intro a331 hE e182 kp
         replace e180 := kt kp e180
         apply Z04 183 hE k rfl rfl rfl rfl rfl e180
         case h =>
          exact Z03 rfl e182
         intro a332 hE e183 kp
         replace e180 := kt kp e180
         apply Z04 184 hE k rfl rfl rfl rfl rfl e183
         case h =>
          exact Z03 rfl (hE.g e15)
         intro a333 hE e184 kp
         replace e180 := kt kp e180
         replace e183 := kt kp e183
         apply Z04 185 hE k rfl rfl rfl rfl rfl e183
         case h =>
          exact Z0l Try.underlying111 rfl e184
         intro a334 hE e185 kp
         replace e180 := kt kp e180
         replace e183 := kt kp e183
         apply Z04 186 hE k rfl rfl rfl rfl rfl e183
         case h =>
          exact Z03 rfl (hE.g e13)
         intro a335 hE e186 kp
         replace e180 := kt kp e180
         replace e183 := kt kp e183
         replace e185 := kt kp e185
         apply Z04 187 hE k rfl rfl rfl rfl rfl e183
         case h =>
          exact Z0l Try.underlying29 rfl e186
         intro a336 hE e187 kp
         replace e180 := kt kp e180
         replace e183 := kt kp e183
         replace e185 := kt kp e185
         apply Z04 188 hE k rfl rfl rfl rfl rfl e183
         case h =>
          exact Z06 (Z0v rfl e185 e187) (decide_eq_false (fun h => h rfl))
         intro a337 hE e188 kp
         replace e180 := kt kp e180
         replace e183 := kt kp e183
         apply Z04 189 hE k rfl rfl rfl rfl rfl e180
         case h =>
          exact Z08 rfl e183 e188
         intro a338 hE e189 kp
         replace e180 := kt kp e180
         refine sd 190 hE k (Z0h rfl e180 e189) ?_
         intro a339 hE e190 kp
         refine sd 191 hE k (Z03 rfl e190) ?_
         intro a340 hE e191 kp
         apply Z04 192 hE k rfl rfl rfl rfl rfl e191
         case h =>
          exact Z03 rfl (hE.g e17)
         intro a341 hE e192 kp
         replace e191 := kt kp e191
         apply Z04 193 hE k rfl rfl rfl rfl rfl e191
         case h =>
          exact Z1m rfl e192
         intro a342 hE e193 kp
         replace e191 := kt kp e191
         apply Z04 194 hE k rfl rfl rfl rfl rfl e191
         case h =>
          exact Z03 rfl e193
         intro a343 hE e194 kp
         replace e191 := kt kp e191
         refine Z09 195 hE k rfl (by rfl) (by rfl) rfl rfl (.inl e194) ?_
         intro a344 hE e195 kp
         replace e191 := kt kp e191
         replace e194 := kt kp e194
         refine Z09 196 hE k rfl (by rfl) (by rfl) rfl rfl (.inl e194) ?_
         intro a345 hE e196 kp
         replace e191 := kt kp e191
         replace e194 := kt kp e194
         refine Z09 197 hE k rfl (by rfl) (by rfl) rfl rfl (.inl e194) ?_
         intro a346 hE e197 kp
         replace e191 := kt kp e191
         replace e194 := kt kp e194
         refine Z09 198 hE k rfl (by rfl) (by rfl) rfl rfl (.inr e197) ?_
         intro a347 hE e198 kp
         replace e191 := kt kp e191
         replace e194 := kt kp e194
         replace e197 := kt kp e197
         refine Z09 199 hE k rfl (by rfl) (by rfl) rfl rfl (.inr e197) ?_
         intro a348 hE e199 kp
         replace e191 := kt kp e191
         replace e194 := kt kp e194
         replace e197 := kt kp e197
         refine Z09 200 hE k rfl (by rfl) (by rfl) rfl rfl (.inr e197) ?_
         intro a349 hE e200 kp
         replace e191 := kt kp e191
         replace e194 := kt kp e194
         replace e197 := kt kp e197
         refine Z09 201 hE k rfl (by rfl) (by rfl) rfl rfl (.inl e194) ?_
         intro a350 hE e201 kp
         replace e191 := kt kp e191
         replace e194 := kt kp e194
         apply Z04 202 hE k rfl rfl rfl rfl rfl e191
         case h =>
          exact Z08 rfl e194 rfl
         intro a351 hE e202 kp
         replace e191 := kt kp e191
         refine sd 203 hE k (Z08 rfl e191 e202) ?_
         intro a352 hE e203 kp
         refine wpList_nil ?_
         replace e0 := hE.g e0
         replace e3 := hE.g e3
         replace e4 := hE.g e4
         replace e5 := hE.g e5
         replace k := k.env hE
         clear hE e13 e15 e16 e17 e18 e142
         refine Z01 ?_
         refine Z05 e203 rfl ?_
         refine wp_skip ?_
         refine Z0r ?_
         refine Z01 ?_
         refine wp_region_lit ?_
         have hE := Env.refl a352 [34, 35, 5]
         refine sd 34 hE k (Z03 rfl e5) ?_
         intro a353 hE e34 kp
         replace e5 := kt kp e5
         refine sd 35 hE k (Z19 rfl e34 rfl (by omega)) ?_
         intro a354 hE e35 kp
         replace e5 := kt kp e5
         refine sd 5 hE k (Z00 rfl e35) ?_
         intro a355 hE e5 kp
         refine wpList_nil ?_
         replace e0 := hE.g e0
         replace e3 := hE.g e3
         replace e4 := hE.g e4
         replace k := k.env hE
         clear hE e203
         refine Z01 ?_
         refine ⟨⟨k, e0, e3, i + 1, r, P2, N2, B2, cap2, vs2, e4, e5, by omega, hN2, hT2.le (by omega), (OwnT.pickR (L := [_, _, _, _, _]) (R := []) O [0, 1, 2] (by decide))⟩, ?_⟩
         rw [e5, mi]; simp only [intOf]; omega
     · skip
       refine wp_seq ?_
       refine wp_seq ?_
       refine wp_region_lit ?_
       have hE := Env.refl a288 [137, 138]
       refine sm 137 hE k e14 ?_
       intro a356 hE e137 kp
       refine sd 138 hE k (Z06 (Z0v rfl e137 rfl) (decide_eq_false (by omega))) ?_
       intro a357 hE e138 kp
       refine wpList_nil ?_
       replace e0 := hE.g e0
       replace e3 := hE.g e3
       replace e4 := hE.g e4
       replace e5 := hE.g e5
       replace e13 := hE.g e13
       replace e15 := hE.g e15
       replace e16 := hE.g e16
       replace k := k.env hE
       clear hE e14
       refine Z01 ?_
       refine Z05 e138 rfl ?_
       refine wp_skip ?_
       refine Z01 (wp_seq ?_)
       refine wp_region_lit ?_
       have hE := Env.refl a357 [17]
       refine sd 17 hE k (Z00 rfl rfl) ?_
       intro a358 hE e17 kp
       refine wpList_nil ?_
       replace e0 := hE.g e0
       replace e3 := hE.g e3
       replace e4 := hE.g e4
       replace e5 := hE.g e5
       replace e13 := hE.g e13
       replace e15 := hE.g e15
       replace e16 := hE.g e16
       replace k := k.env hE
       clear hE e138
       refine Z01 (wp_seq ?_)
       refine wp_seq ?_
       refine wp_region_lit ?_
       have hE := Env.refl a358 [18]
       refine sd 18 hE k (Z00 rfl rfl) ?_
       intro a359 hE e18 kp
       refine wpList_nil ?_
       replace e0 := hE.g e0
       replace e3 := hE.g e3
       replace e4 := hE.g e4
       replace e5 := hE.g e5
       replace e13 := hE.g e13
       replace e15 := hE.g e15
       replace e16 := hE.g e16
       replace e17 := hE.g e17
       replace k := k.env hE
       clear hE
       refine Z01 ?_
       refine wp_block ?_
       refine wp_loop (fun a w => Fr 204 a ∧ a.eval (.tmp 0) = .slice (some ⟨b, o, none⟩) n cp ∧ a.eval (.tmp 3) = .pointer (some ⟨sb, 0, none⟩) ∧ a.eval (.tmp 4) = .int .i64 ↑r ∧ a.eval (.tmp 5) = .int .i64 ↑i ∧ a.eval (.tmp 13) = .slice Ba Q.length ca ∧ a.eval (.tmp 15) = .slice none 0 0 ∧ a.eval (.tmp 16) = .int .i64 3 ∧ ∃ (j : Nat) (gd : Bool), a.eval (.tmp 17) = .bool gd ∧ a.eval (.tmp 18) = .int .i64 ↑j ∧ j ≤ Q.length ∧ gd = (Q.take j).all plOkB ∧ OwnT W0.heap.size W0 ((tBlk sb 28 #[.slice B2 N2.length cap2, .int .i64 511]) :: (tRow 125 2 (.slice B2 N2.length cap2) N2.length (leafV vs2 N2)) :: (tPool vs2 N2) :: (tPs (.slice Ba Q.length ca) Q) :: []) w) (fun a w => Q.length - (intOf (a.eval (.tmp 18))).toNat) ?_ ?_
       · exact ⟨k, e0, e3, e4, e5, e13, e15, e16, 0, true, e17, e18, Nat.zero_le _, rfl, O⟩
       intro a360 w361 hI
       clear k e0 e3 e4 e5 e13 e15 e16
       obtain ⟨k, e0, e3, e4, e5, e13, e15, e16, h_⟩ := hI
       clear O e17 e18
       obtain ⟨j, gd, e17, e18, hj, hgd, O⟩ := h_
       have mj := e18
       by_cases hltj : j < Q.length
       · have hltjI : (j : Int) < (Q.length : Int) := by omega
         obtain ⟨y, hy⟩ : ∃ y, Q[j]? = some y := ⟨_, List.getElem?_eq_getElem (by omega)⟩
         have hym := List.mem_of_getElem? hy
         have htk := all_take (p := plOkB) hy
         rw [← hgd] at htk
         obtain ⟨-, ga, rfl, d0, d1⟩ := ps_cells (OwnT.get O 3 rfl) hy
         obtain ⟨y1, y2⟩ := y
         have hyw := hQw _ hym
         obtain ⟨c, t, s, hcts, hR⟩ := rread_any hyw.1 hyw.2
         obtain ⟨ob, hob⟩ : ∃ b, plOkB (y1, y2) = b := ⟨_, rfl⟩
         rw [hob] at hR htk hcts

         refine wp_seq ?_
         refine wp_seq ?_
         refine wp_region_lit ?_
         have hE := Env.refl a360 [139, 140, 141, 142]
         refine sm 139 hE k e18 ?_
         intro a362 hE e139 kp
         refine sm 140 hE k e13 ?_
         intro a363 hE e140 kp
         replace e139 := kt kp e139
         refine sd 141 hE k (Z0l Try.underlying29 rfl e140) ?_
         intro a364 hE e141 kp
         replace e139 := kt kp e139
         refine sd 142 hE k (Z06 (Z1c rfl e139 e141) (decide_eq_true (by omega))) ?_
         intro a365 hE e142 kp
         refine wpList_nil ?_
         replace e0 := hE.g e0
         replace e3 := hE.g e3
         replace e4 := hE.g e4
         replace e5 := hE.g e5
         replace e13 := hE.g e13
         replace e15 := hE.g e15
         replace e16 := hE.g e16
         replace e17 := hE.g e17
         replace e18 := hE.g e18
         replace k := k.env hE
         clear hE
         refine Z01 ?_
         refine Z0d e142 rfl ?_
         refine wp_skip ?_
         refine Z01 (wp_seq ?_)
         refine wp_block ?_
         refine wp_seq ?_
         refine wp_region_lit ?_
         have hE := Env.refl a365 [146, 147, 148, 149, 150, 145, 151, 152, 153, 20, 19, 21]
         refine sm 146 hE k e13 ?_
         intro a366 hE e146 kp
         refine sm 147 hE k e18 ?_
         intro a367 hE e147 kp
         replace e146 := kt kp e146
         apply Z02 148 hE k rfl rfl rfl rfl
         case h =>
          simp [go_sem, ↓IntWalk.iteOmega, ev e146, ev e147]
          with_reducible rfl
         intro a368 hE e148 kp
         apply Z02 149 hE k rfl rfl rfl rfl
         case h =>
          simp [go_sem, ↓IntWalk.iteOmega, ev e148, d0, d1]
          with_reducible rfl
         intro a369 hE e149 kp
         apply Z07 150 hE k rfl (by rfl) (by rfl) rfl
         case h =>
          simp [go_sem, ↓IntWalk.iteOmega, ev e149]
          with_reducible exact ⟨rfl, rfl⟩
         case hc => exact hR _
         rintro e w371 ⟨rfl, RE⟩
         replace O := OwnT.ext O RE
         refine ⟨_, rfl, ?_⟩
         intro a370 hE e150 kp
         refine sd 145 hE k (Z03 rfl e150) ?_
         intro a372 hE e145 kp
         apply Z02 151 hE k rfl rfl rfl rfl
         case h =>
          simp [go_sem, ↓IntWalk.iteOmega, ev e145]
          with_reducible rfl
         intro a373 hE e151 kp
         replace e145 := kt kp e145
         apply Z02 152 hE k rfl rfl rfl rfl
         case h =>
          simp [go_sem, ↓IntWalk.iteOmega, ev e145]
          with_reducible rfl
         intro a374 hE e152 kp
         replace e145 := kt kp e145
         replace e151 := kt kp e151
         apply Z02 153 hE k rfl rfl rfl rfl
         case h =>
          simp [go_sem, ↓IntWalk.iteOmega, ev e145]
          with_reducible rfl
         intro a375 hE e153 kp
         replace e151 := kt kp e151
         replace e152 := kt kp e152
         refine Z0j O (cs := #[.int .i64 0, .int .i64 0]) (t := 108) 20 hE k rfl (by rfl) (by rfl) rfl (by simp [go_sem, ↓IntWalk.iteOmega]) ?_
         clear O
         intro tb a376 w377 O hE e20 kp
         replace e151 := kt kp e151
         replace e152 := kt kp e152
         replace e153 := kt kp e153
         refine sd 19 hE k (Z00 rfl e151) ?_
         intro a378 hE e19 kp
         replace e152 := kt kp e152
         replace e153 := kt kp e153
         replace e20 := kt kp e20
         have q0 : w377.cell? ⟨tb, 0, none⟩ = some (.int .i64 0) := (OwnT.blk O 0 rfl).cell 0
         have z0 : w377.frozen? ⟨tb, 0, none⟩ = false := (OwnT.blk O 0 rfl).frozen 0
         have q1 : w377.cell? ⟨tb, 1, none⟩ = some (.int .i64 0) := (OwnT.blk O 0 rfl).cell 1
         have z1 : w377.frozen? ⟨tb, 1, none⟩ = false := (OwnT.blk O 0 rfl).frozen 1
         refine Z0i (w' := ((w377.setCell ⟨tb, 0, none⟩ (.int .i64 t)).setCell ⟨tb, 1, none⟩ (.int .i64 s))) hE rfl rfl (by simp [go_sem, ↓IntWalk.iteOmega, ev e20, ev e152, q0, z0, q1, z1]) ?_
         replace O := OwnT.push 0 rfl (((OwnT.pull O 0 rfl).set 0 (.int .i64 t)).set 1 (.int .i64 s))
         clear q0 z0 q1 z1
         generalize ((w377.setCell ⟨tb, 0, none⟩ (.int .i64 t)).setCell ⟨tb, 1, none⟩ (.int .i64 s)) = w379 at O ⊢
         replace O : OwnT _ _ ((tBlk tb 108 #[.int .i64 t, .int .i64 s]) :: (tBlk sb 28 #[.slice B2 N2.length cap2, .int .i64 511]) :: (tRow 125 2 (.slice B2 N2.length cap2) N2.length (leafV vs2 N2)) :: (tPool vs2 N2) :: (tPs (.slice (some ⟨ga, 0, none⟩) Q.length ca) Q) :: []) w379 := O
         refine sd 21 hE k (Z00 rfl e153) ?_
         intro a380 hE e21 kp
         replace e20 := kt kp e20
         replace e19 := kt kp e19
         refine wpList_nil ?_
         replace e0 := hE.g e0
         replace e3 := hE.g e3
         replace e4 := hE.g e4
         replace e5 := hE.g e5
         replace e13 := hE.g e13
         replace e15 := hE.g e15
         replace e16 := hE.g e16
         replace e17 := hE.g e17
         replace e18 := hE.g e18
         replace k := k.env hE
         clear hE e142
         refine Z01 ?_
         clear d0 d1
         replace O : OwnT _ _ ((tBlk sb 28 #[.slice B2 N2.length cap2, .int .i64 511]) :: (tRow 125 2 (.slice B2 N2.length cap2) N2.length (leafV vs2 N2)) :: (tPool vs2 N2) :: (tPs (.slice (some ⟨ga, 0, none⟩) Q.length ca) Q) :: (tBlk tb 108 #[.int .i64 t, .int .i64 s]) :: []) w379 := OwnT.pickR (L := [_, _, _, _, _]) (R := []) O [1, 2, 3, 4, 0] (by decide)
         cases gd with
         | true =>
          cases ob with
          | true =>
           refine wp_seq ?_
           refine wp_region_lit ?_
           have hE := Env.refl a380 [154, 155, 156, 157, 17]
           refine sd 154 hE k (Z03 rfl e17) ?_
           intro a381 hE e154 kp
           replace e17 := kt kp e17
           refine sd 155 hE k (Z03 rfl e154) ?_
           intro a382 hE e155 kp
           replace e17 := kt kp e17
           apply Z04 156 hE k rfl rfl rfl rfl rfl e155
           case h =>
            exact Z03 rfl (hE.g e21)
           intro a383 hE e156 kp
           replace e17 := kt kp e17
           replace e155 := kt kp e155
           refine sd 157 hE k (Z0h rfl e155 e156) ?_
           intro a384 hE e157 kp
           replace e17 := kt kp e17
           refine sd 17 hE k (Z00 rfl e157) ?_
           intro a385 hE e17 kp
           refine wpList_nil ?_
           replace e0 := hE.g e0
           replace e3 := hE.g e3
           replace e4 := hE.g e4
           replace e5 := hE.g e5
           replace e13 := hE.g e13
           replace e15 := hE.g e15
           replace e16 := hE.g e16
           replace e18 := hE.g e18
           replace e19 := hE.g e19
           replace e20 := hE.g e20
           replace k := k.env hE
           clear hE e21
           refine Z01 (wp_seq ?_)
           refine Z0c (R := Ext) (w0 := w379) [[], [0], [0, 1], [0, 1, 2], [0, 1, 2, 3], [0, 1, 2, 3, 4], [0, 1, 2, 3, 4, 5], [0, 1, 2, 3, 4, 5], [0, 1, 2, 3, 4, 5, 7], [0, 1, 2, 3, 4, 5, 6, 7, 8], [0, 1, 2, 3, 4, 5, 6, 7, 8, 9], [0, 1, 2, 3, 4, 5, 6, 7, 8, 9, 10], [0, 1, 2, 3, 4, 5, 6, 7, 8, 9, 10], [0, 1, 2, 3, 4, 5, 6, 7, 8, 9, 10, 11, 12], [0, 1, 2, 3, 4, 5, 6, 7, 8, 9, 10, 11, 12, 13], [0, 1, 2, 3, 4, 5, 6, 7, 8, 9, 10], [0, 1, 2, 3, 4, 5, 6, 7, 8, 9, 10], [0, 1, 2, 3, 4, 5, 6, 7, 8, 9, 10, 15, 16], [0, 1, 2, 3, 4, 5, 6, 7, 8, 9, 10, 11, 12, 13, 14, 15, 16, 17], [0, 1, 2, 3, 4, 5, 6, 7, 8, 9, 10, 11, 12, 13, 14, 15, 16, 17, 18], [0, 1, 2, 3, 4, 5, 6, 7, 8, 9, 10, 11, 12, 13, 14, 15, 16, 17, 18, 19]] [158, 159, 160, 161, 162, 163, 164, 165, 166, 167, 168, 169, 170, 171, 172, 173, 174, 175, 176, 177, 178] Ext.refl (fun _ _ _ => Ext.trans) (Ext.drew _) (by kernel_rfl) ?_
           apply bd 158 k rfl rfl rfl
           case h =>
            intro ax wx hE hR hF
            exact Z03 rfl (hE.g e17)
           apply bd 159 k rfl rfl rfl
           case h =>
            intro ax wx hE hR hF
            have e158 := hF 0 (det 158 _) (by decide) (.head _)
            exact Z03 rfl e158
           apply bdg 160 k rfl rfl rfl rfl
           case h =>
            intro ax wx hE hR hF
            have e159 := hF 1 (det 159 _) (by decide) (.head _)
            refine ⟨e159, ?_⟩
            exact Z03 rfl (hE.g e16)
           apply bdg 161 k rfl rfl rfl rfl
           case h =>
            intro ax wx hE hR hF
            have e160 := hF 2 (det 160 _) (by decide) (.head _)
            have e159 := hF 1 (det 159 _) (by decide) (.tail _ (.head _))
            refine ⟨e159, ?_⟩
            exact Z06 (Z0s rfl e160 rfl) (decide_eq_false (by omega))
           apply bd 162 k rfl rfl rfl
           case h =>
            intro ax wx hE hR hF
            have e159 := hF 1 (det 159 _) (by decide) (.tail _ (.tail _ (.head _)))
            have e161 := hF 3 (det 161 _) (by decide) (.head _)
            exact Z0h rfl e159 e161
           apply bd 163 k rfl rfl rfl
           case h =>
            intro ax wx hE hR hF
            have e162 := hF 4 (det 162 _) (by decide) (.head _)
            exact Z03 rfl e162
           refine Build.skip 164 (by rfl) (by rw [k.size]; rfl) rfl rfl ?_ ?_
           · intro ax wx hE hR hF
             have e163 := hF 5 (det 163 _) (by decide) (.head _)
             exact e163
           refine Build.skip 165 (by rfl) (by rw [k.size]; rfl) rfl rfl ?_ ?_
           · intro ax wx hE hR hF
             have e163 := hF 5 (det 163 _) (by decide) (.tail _ (.head _))
             exact e163
           refine Build.skip 166 (by rfl) (by rw [k.size]; rfl) rfl rfl ?_ ?_
           · intro ax wx hE hR hF
             have e163 := hF 5 (det 163 _) (by decide) (.tail _ (.tail _ (.head _)))
             exact e163
           refine Build.skip 167 (by rfl) (by rw [k.size]; rfl) rfl rfl ?_ ?_
           · intro ax wx hE hR hF
             have e163 := hF 5 (det 163 _) (by decide) (.tail _ (.tail _ (.tail _ (.head _))))
             exact e163
           refine Build.skip 168 (by rfl) (by rw [k.size]; rfl) rfl rfl ?_ ?_
           · intro ax wx hE hR hF
             have e163 := hF 5 (det 163 _) (by decide) (.tail _ (.tail _ (.tail _ (.tail _ (.head _)))))
             exact e163
           refine Build.skipu 169 (by rfl) (by rw [k.size]; rfl) rfl rfl ?_ ?_
           · intro ax wx hE hR hF
             have e168 := hF 10 (det 168 _) (by decide) (.head _)
             exact e168
           refine Build.skipu 170 (by rfl) (by rw [k.size]; rfl) rfl rfl ?_ ?_
           · intro ax wx hE hR hF
             have e168 := hF 10 (det 168 _) (by decide) (.tail _ (.head _))
             exact e168
           refine Build.skipu 171 (by rfl) (by rw [k.size]; rfl) rfl rfl ?_ ?_
           · intro ax wx hE hR hF
             have e168 := hF 10 (det 168 _) (by decide) (.tail _ (.tail _ (.head _)))
             exact e168
           refine Build.skipu 172 (by rfl) (by rw [k.size]; rfl) rfl rfl ?_ ?_
           · intro ax wx hE hR hF
             have e168 := hF 10 (det 168 _) (by decide) (.tail _ (.tail _ (.tail _ (.head _))))
             exact e168
           refine Build.skipu 173 (by rfl) (by rw [k.size]; rfl) rfl rfl ?_ ?_
           · intro ax wx hE hR hF
             have e168 := hF 10 (det 168 _) (by decide) (.tail _ (.tail _ (.tail _ (.tail _ (.head _)))))
             exact e168
           refine Build.skipu 174 (by rfl) (by rw [k.size]; rfl) rfl rfl ?_ ?_
           · intro ax wx hE hR hF
             have e168 := hF 10 (det 168 _) (by decide) (.tail _ (.tail _ (.tail _ (.tail _ (.tail _ (.head _))))))
             exact e168
           refine Build.skipu 175 (by rfl) (by rw [k.size]; rfl) rfl rfl ?_ ?_
           · intro ax wx hE hR hF
             have e168 := hF 10 (det 168 _) (by decide) (.tail _ (.tail _ (.tail _ (.tail _ (.tail _ (.tail _ (.head _)))))))
             exact e168
           refine Build.skipu 176 (by rfl) (by rw [k.size]; rfl) rfl rfl ?_ ?_
           · intro ax wx hE hR hF
             have e168 := hF 10 (det 168 _) (by decide) (.tail _ (.tail _ (.tail _ (.tail _ (.tail _ (.tail _ (.tail _ (.head _))))))))
             exact e168
           refine Build.skip 177 (by rfl) (by rw [k.size]; rfl) rfl rfl ?_ ?_
           · intro ax wx hE hR hF
             have e163 := hF 5 (det 163 _) (by decide) (.tail _ (.tail _ (.tail _ (.tail _ (.tail _ (.tail _ (.tail _ (.tail _ (.tail _ (.tail _ (.tail _ (.tail _ (.tail _ (.head _))))))))))))))
             exact e163
           apply bd 178 k rfl rfl rfl
           case h =>
            intro ax wx hE hR hF
            have e163 := hF 5 (det 163 _) (by decide) (.tail _ (.tail _ (.tail _ (.tail _ (.tail _ (.tail _ (.tail _ (.tail _ (.tail _ (.tail _ (.tail _ (.tail _ (.tail _ (.tail _ (.head _)))))))))))))))
            have e177 := hF 19 (det 177 _) (by decide) (.head _)
            exact Z08 rfl e163 rfl
           apply Build.stop
           refine ⟨by kernel_rfl, .inl ⟨rfl, ?_⟩⟩
           intro a386 w387 hE R hF
           have e178 : a386.eval (.tmp 178) = _ := hF 20 (det 178 _) (.head _)
           clear hF
           replace O := OwnT.ext O R
           clear R
           replace e0 := hE.g e0
           replace e3 := hE.g e3
           replace e4 := hE.g e4
           replace e5 := hE.g e5
           replace e13 := hE.g e13
           replace e15 := hE.g e15
           replace e16 := hE.g e16
           replace e17 := hE.g e17
           replace e18 := hE.g e18
           replace k := k.env hE
           clear hE e19 e20
           refine Z01 ?_
           refine Z05 e178 rfl ?_
           refine wp_skip ?_
           refine Z0r ?_
           refine Z01 ?_
           refine wp_region_lit ?_
           have hE := Env.refl a386 [143, 144, 18]
           refine sd 143 hE k (Z03 rfl e18) ?_
           intro a388 hE e143 kp
           replace e18 := kt kp e18
           refine sd 144 hE k (Z19 rfl e143 rfl (by omega)) ?_
           intro a389 hE e144 kp
           replace e18 := kt kp e18
           refine sd 18 hE k (Z00 rfl e144) ?_
           intro a390 hE e18 kp
           refine wpList_nil ?_
           replace e0 := hE.g e0
           replace e3 := hE.g e3
           replace e4 := hE.g e4
           replace e5 := hE.g e5
           replace e13 := hE.g e13
           replace e15 := hE.g e15
           replace e16 := hE.g e16
           replace e17 := hE.g e17
           replace k := k.env hE
           clear hE e178
           refine Z01 ?_
           refine ⟨⟨k, e0, e3, e4, e5, e13, e15, e16, j + 1, true, e17, e18, by omega, by rw [htk]; rfl, (OwnT.pickR (L := [_, _, _, _, _]) (R := []) O [0, 1, 2, 3] (by decide))⟩, ?_⟩
           rw [e18, mj]; simp only [intOf]; omega
          | false =>
           refine wp_seq ?_
           refine wp_region_lit ?_
           have hE := Env.refl a380 [154, 155, 156, 157, 17]
           refine sd 154 hE k (Z03 rfl e17) ?_
           intro a391 hE e154 kp
           replace e17 := kt kp e17
           refine sd 155 hE k (Z03 rfl e154) ?_
           intro a392 hE e155 kp
           replace e17 := kt kp e17
           apply Z04 156 hE k rfl rfl rfl rfl rfl e155
           case h =>
            exact Z03 rfl (hE.g e21)
           intro a393 hE e156 kp
           replace e17 := kt kp e17
           replace e155 := kt kp e155
           refine sd 157 hE k (Z0h rfl e155 e156) ?_
           intro a394 hE e157 kp
           replace e17 := kt kp e17
           refine sd 17 hE k (Z00 rfl e157) ?_
           intro a395 hE e17 kp
           refine wpList_nil ?_
           replace e0 := hE.g e0
           replace e3 := hE.g e3
           replace e4 := hE.g e4
           replace e5 := hE.g e5
           replace e13 := hE.g e13
           replace e15 := hE.g e15
           replace e16 := hE.g e16
           replace e18 := hE.g e18
           replace e19 := hE.g e19
           replace e20 := hE.g e20
           replace k := k.env hE
           clear hE e21
           refine Z01 (wp_seq ?_)
           refine Z0c (R := Ext) (w0 := w379) [[], [0], [0, 1], [0, 1, 2], [0, 1, 2, 3], [0, 1, 2, 3, 4], [0, 1, 2, 3, 4, 5], [0, 1, 2, 3, 4, 5], [0, 1, 2, 3, 4, 5, 7], [0, 1, 2, 3, 4, 5, 6, 7, 8], [0, 1, 2, 3, 4, 5, 6, 7, 8, 9], [0, 1, 2, 3, 4, 5, 6, 7, 8, 9, 10], [0, 1, 2, 3, 4, 5, 6, 7, 8, 9, 10], [0, 1, 2, 3, 4, 5, 6, 7, 8, 9, 10, 11, 12], [0, 1, 2, 3, 4, 5, 6, 7, 8, 9, 10, 11, 12, 13], [0, 1, 2, 3, 4, 5, 6, 7, 8, 9, 10], [0, 1, 2, 3, 4, 5, 6, 7, 8, 9, 10], [0, 1, 2, 3, 4, 5, 6, 7, 8, 9, 10, 15, 16], [0, 1, 2, 3, 4, 5, 6, 7, 8, 9, 10, 11, 12, 13, 14, 15, 16, 17], [0, 1, 2, 3, 4, 5, 6, 7, 8, 9, 10, 11, 12, 13, 14, 15, 16, 17, 18], [0, 1, 2, 3, 4, 5, 6, 7, 8, 9, 10, 11, 12, 13, 14, 15, 16, 17, 18, 19]] [158, 159, 160, 161, 162, 163, 164, 165, 166, 167, 168, 169, 170, 171, 172, 173, 174, 175, 176, 177, 178] Ext.refl (fun _ _ _ => Ext.trans) (Ext.drew _) (by kernel_rfl) ?_
           apply bd 158 k rfl rfl rfl
           case h =>
            intro ax wx hE hR hF
            exact Z03 rfl (hE.g e17)
           apply bd 159 k rfl rfl rfl
           case h =>
            intro ax wx hE hR hF
            have e158 := hF 0 (det 158 _) (by decide) (.head _)
            exact Z03 rfl e158
           refine Build.skip 160 (by rfl) (by rw [k.size]; rfl) rfl rfl ?_ ?_
           · intro ax wx hE hR hF
             have e159 := hF 1 (det 159 _) (by decide) (.head _)
             exact e159
           refine Build.skip 161 (by rfl) (by rw [k.size]; rfl) rfl rfl ?_ ?_
           · intro ax wx hE hR hF
             have e159 := hF 1 (det 159 _) (by decide) (.tail _ (.head _))
             exact e159
           apply bd 162 k rfl rfl rfl
           case h =>
            intro ax wx hE hR hF
            have e159 := hF 1 (det 159 _) (by decide) (.tail _ (.tail _ (.head _)))
            have e161 := hF 3 (det 161 _) (by decide) (.head _)
            exact Z08 rfl e159 rfl
           apply bd 163 k rfl rfl rfl
           case h =>
            intro ax wx hE hR hF
            have e162 := hF 4 (det 162 _) (by decide) (.head _)
            exact Z03 rfl e162
           refine Build.skip 164 (by rfl) (by rw [k.size]; rfl) rfl rfl ?_ ?_
           · intro ax wx hE hR hF
             have e163 := hF 5 (det 163 _) (by decide) (.head _)
             exact e163
           refine Build.skip 165 (by rfl) (by rw [k.size]; rfl) rfl rfl ?_ ?_
           · intro ax wx hE hR hF
             have e163 := hF 5 (det 163 _) (by decide) (.tail _ (.head _))
             exact e163
           refine Build.skip 166 (by rfl) (by rw [k.size]; rfl) rfl rfl ?_ ?_
           · intro ax wx hE hR hF
             have e163 := hF 5 (det 163 _) (by decide) (.tail _ (.tail _ (.head _)))
             exact e163
           refine Build.skip 167 (by rfl) (by rw [k.size]; rfl) rfl rfl ?_ ?_
           · intro ax wx hE hR hF
             have e163 := hF 5 (det 163 _) (by decide) (.tail _ (.tail _ (.tail _ (.head _))))
             exact e163
           refine Build.skip 168 (by rfl) (by rw [k.size]; rfl) rfl rfl ?_ ?_
           · intro ax wx hE hR hF
             have e163 := hF 5 (det 163 _) (by decide) (.tail _ (.tail _ (.tail _ (.tail _ (.head _)))))
             exact e163
           refine Build.skipu 169 (by rfl) (by rw [k.size]; rfl) rfl rfl ?_ ?_
           · intro ax wx hE hR hF
             have e168 := hF 10 (det 168 _) (by decide) (.head _)
             exact e168
           refine Build.skipu 170 (by rfl) (by rw [k.size]; rfl) rfl rfl ?_ ?_
           · intro ax wx hE hR hF
             have e168 := hF 10 (det 168 _) (by decide) (.tail _ (.head _))
             exact e168
           refine Build.skipu 171 (by rfl) (by rw [k.size]; rfl) rfl rfl ?_ ?_
           · intro ax wx hE hR hF
             have e168 := hF 10 (det 168 _) (by decide) (.tail _ (.tail _ (.head _)))
             exact e168
           refine Build.skipu 172 (by rfl) (by rw [k.size]; rfl) rfl rfl ?_ ?_
           · intro ax wx hE hR hF
             have e168 := hF 10 (det 168 _) (by decide) (.tail _ (.tail _ (.tail _ (.head _))))
             exact e168
           refine Build.skipu 173 (by rfl) (by rw [k.size]; rfl) rfl rfl ?_ ?_
           · intro ax wx hE hR hF
             have e168 := hF 10 (det 168 _) (by decide) (.tail _ (.tail _ (.tail _ (.tail _ (.head _)))))
             exact e168
           refine Build.skipu 174 (by rfl) (by rw [k.size]; rfl) rfl rfl ?_ ?_
           · intro ax wx hE hR hF
             have e168 := hF 10 (det 168 _) (by decide) (.tail _ (.tail _ (.tail _ (.tail _ (.tail _ (.head _))))))
             exact e168
           refine Build.skipu 175 (by rfl) (by rw [k.size]; rfl) rfl rfl ?_ ?_
           · intro ax wx hE hR hF
             have e168 := hF 10 (det 168 _) (by decide) (.tail _ (.tail _ (.tail _ (.tail _ (.tail _ (.tail _ (.head _)))))))
             exact e168
           refine Build.skipu 176 (by rfl) (by rw [k.size]; rfl) rfl rfl ?_ ?_
           · intro ax wx hE hR hF
             have e168 := hF 10 (det 168 _) (by decide) (.tail _ (.tail _ (.tail _ (.tail _ (.tail _ (.tail _ (.tail _ (.head _))))))))
             exact e168
           refine Build.skip 177 (by rfl) (by rw [k.size]; rfl) rfl rfl ?_ ?_
           · intro ax wx hE hR hF
             have e163 := hF 5 (det 163 _) (by decide) (.tail _ (.tail _ (.tail _ (.tail _ (.tail _ (.tail _ (.tail _ (.tail _ (.tail _ (.tail _ (.tail _ (.tail _ (.tail _ (.head _))))))))))))))
             exact e163
           apply bd 178 k rfl rfl rfl
           case h =>
            intro ax wx hE hR hF
            have e163 := hF 5 (det 163 _) (by decide) (.tail _ (.tail _ (.tail _ (.tail _ (.tail _ (.tail _ (.tail _ (.tail _ (.tail _ (.tail _ (.tail _ (.tail _ (.tail _ (.tail _ (.head _)))))))))))))))
            have e177 := hF 19 (det 177 _) (by decide) (.head _)
            exact Z08 rfl e163 rfl
           apply Build.stop
           refine ⟨by kernel_rfl, .inl ⟨rfl, ?_⟩⟩
           intro a396 w397 hE R hF
           have e178 : a396.eval (.tmp 178) = _ := hF 20 (det 178 _) (.head _)
           clear hF
           replace O := OwnT.ext O R
           clear R
           replace e0 := hE.g e0
           replace e3 := hE.g e3
           replace e4 := hE.g e4
           replace e5 := hE.g e5
           replace e13 := hE.g e13
           replace e15 := hE.g e15
           replace e16 := hE.g e16
           replace e17 := hE.g e17
           replace e18 := hE.g e18
           replace k := k.env hE
           clear hE e19 e20
           refine Z01 ?_
           refine Z05 e178 rfl ?_
           refine wp_skip ?_
           refine Z0r ?_
           refine Z01 ?_
           refine wp_region_lit ?_
           have hE := Env.refl a396 [143, 144, 18]
           refine sd 143 hE k (Z03 rfl e18) ?_
           intro a398 hE e143 kp
           replace e18 := kt kp e18
           refine sd 144 hE k (Z19 rfl e143 rfl (by omega)) ?_
           intro a399 hE e144 kp
           replace e18 := kt kp e18
           refine sd 18 hE k (Z00 rfl e144) ?_
           intro a400 hE e18 kp
           refine wpList_nil ?_
           replace e0 := hE.g e0
           replace e3 := hE.g e3
           replace e4 := hE.g e4
           replace e5 := hE.g e5
           replace e13 := hE.g e13
           replace e15 := hE.g e15
           replace e16 := hE.g e16
           replace e17 := hE.g e17
           replace k := k.env hE
           clear hE e178
           refine Z01 ?_
           refine ⟨⟨k, e0, e3, e4, e5, e13, e15, e16, j + 1, false, e17, e18, by omega, by rw [htk]; rfl, (OwnT.pickR (L := [_, _, _, _, _]) (R := []) O [0, 1, 2, 3] (by decide))⟩, ?_⟩
           rw [e18, mj]; simp only [intOf]; omega
         | false =>
          refine wp_seq ?_
          refine wp_region_lit ?_
          have hE := Env.refl a380 [154, 155, 156, 157, 17]
          refine sd 154 hE k (Z03 rfl e17) ?_
          intro a401 hE e154 kp
          replace e17 := kt kp e17
          refine sd 155 hE k (Z03 rfl e154) ?_
          intro a402 hE e155 kp
          replace e17 := kt kp e17
          refine Z09 156 hE k rfl (by rfl) (by rfl) rfl rfl (.inl e155) ?_
          intro a403 hE e156 kp
          replace e17 := kt kp e17
          replace e155 := kt kp e155
          refine sd 157 hE k (Z08 rfl e155 rfl) ?_
          intro a404 hE e157 kp
          replace e17 := kt kp e17
          refine sd 17 hE k (Z00 rfl e157) ?_
          intro a405 hE e17 kp
          refine wpList_nil ?_
          replace e0 := hE.g e0
          replace e3 := hE.g e3
          replace e4 := hE.g e4
          replace e5 := hE.g e5
          replace e13 := hE.g e13
          replace e15 := hE.g e15
          replace e16 := hE.g e16
          replace e18 := hE.g e18
          replace e19 := hE.g e19
          replace e20 := hE.g e20
          replace k := k.env hE
          clear hE e21
          refine Z01 (wp_seq ?_)
          refine Z0c (R := Ext) (w0 := w379) [[], [0], [0, 1], [0, 1, 2], [0, 1, 2, 3], [0, 1, 2, 3, 4], [0, 1, 2, 3, 4, 5], [0, 1, 2, 3, 4, 5], [0, 1, 2, 3, 4, 5, 7], [0, 1, 2, 3, 4, 5, 6, 7, 8], [0, 1, 2, 3, 4, 5, 6, 7, 8, 9], [0, 1, 2, 3, 4, 5, 6, 7, 8, 9, 10], [0, 1, 2, 3, 4, 5, 6, 7, 8, 9, 10], [0, 1, 2, 3, 4, 5, 6, 7, 8, 9, 10, 11, 12], [0, 1, 2, 3, 4, 5, 6, 7, 8, 9, 10, 11, 12, 13], [0, 1, 2, 3, 4, 5, 6, 7, 8, 9, 10], [0, 1, 2, 3, 4, 5, 6, 7, 8, 9, 10], [0, 1, 2, 3, 4, 5, 6, 7, 8, 9, 10, 15, 16], [0, 1, 2, 3, 4, 5, 6, 7, 8, 9, 10, 11, 12, 13, 14, 15, 16, 17], [0, 1, 2, 3, 4, 5, 6, 7, 8, 9, 10, 11, 12, 13, 14, 15, 16, 17, 18], [0, 1, 2, 3, 4, 5, 6, 7, 8, 9, 10, 11, 12, 13, 14, 15, 16, 17, 18, 19]] [158, 159, 160, 161, 162, 163, 164, 165, 166, 167, 168, 169, 170, 171, 172, 173, 174, 175, 176, 177, 178] Ext.refl (fun _ _ _ => Ext.trans) (Ext.drew _) (by kernel_rfl) ?_
          apply bd 158 k rfl rfl rfl
          case h =>
           intro ax wx hE hR hF
           exact Z03 rfl (hE.g e17)
          apply bd 159 k rfl rfl rfl
          case h =>
           intro ax wx hE hR hF
           have e158 := hF 0 (det 158 _) (by decide) (.head _)
           exact Z03 rfl e158
          refine Build.skip 160 (by rfl) (by rw [k.size]; rfl) rfl rfl ?_ ?_
          · intro ax wx hE hR hF
            have e159 := hF 1 (det 159 _) (by decide) (.head _)
            exact e159
          refine Build.skip 161 (by rfl) (by rw [k.size]; rfl) rfl rfl ?_ ?_
          · intro ax wx hE hR hF
            have e159 := hF 1 (det 159 _) (by decide) (.tail _ (.head _))
            exact e159
          apply bd 162 k rfl rfl rfl
          case h =>
           intro ax wx hE hR hF
           have e159 := hF 1 (det 159 _) (by decide) (.tail _ (.tail _ (.head _)))
           have e161 := hF 3 (det 161 _) (by decide) (.head _)
           exact Z08 rfl e159 rfl
          apply bd 163 k rfl rfl rfl
          case h =>
           intro ax wx hE hR hF
           have e162 := hF 4 (det 162 _) (by decide) (.head _)
           exact Z03 rfl e162
          refine Build.skip 164 (by rfl) (by rw [k.size]; rfl) rfl rfl ?_ ?_
          · intro ax wx hE hR hF
            have e163 := hF 5 (det 163 _) (by decide) (.head _)
            exact e163
          refine Build.skip 165 (by rfl) (by rw [k.size]; rfl) rfl rfl ?_ ?_
          · intro ax wx hE hR hF
            have e163 := hF 5 (det 163 _) (by decide) (.tail _ (.head _))
            exact e163
          refine Build.skip 166 (by rfl) (by rw [k.size]; rfl) rfl rfl ?_ ?_
          · intro ax wx hE hR hF
            have e163 := hF 5 (det 163 _) (by decide) (.tail _ (.tail _ (.head _)))
            exact e163
          refine Build.skip 167 (by rfl) (by rw [k.size]; rfl) rfl rfl ?_ ?_
          · intro ax wx hE hR hF
            have e163 := hF 5 (det 163 _) (by decide) (.tail _ (.tail _ (.tail _ (.head _))))
            exact e163
          refine Build.skip 168 (by rfl) (by rw [k.size]; rfl) rfl rfl ?_ ?_
          · intro ax wx hE hR hF
            have e163 := hF 5 (det 163 _) (by decide) (.tail _ (.tail _ (.tail _ (.tail _ (.head _)))))
            exact e163
          refine Build.skipu 169 (by rfl) (by rw [k.size]; rfl) rfl rfl ?_ ?_
          · intro ax wx hE hR hF
            have e168 := hF 10 (det 168 _) (by decide) (.head _)
            exact e168
          refine Build.skipu 170 (by rfl) (by rw [k.size]; rfl) rfl rfl ?_ ?_
          · intro ax wx hE hR hF
            have e168 := hF 10 (det 168 _) (by decide) (.tail _ (.head _))
            exact e168
          refine Build.skipu 171 (by rfl) (by rw [k.size]; rfl) rfl rfl ?_ ?_
          · intro ax wx hE hR hF
            have e168 := hF 10 (det 168 _) (by decide) (.tail _ (.tail _ (.head _)))
            exact e168
          refine Build.skipu 172 (by rfl) (by rw [k.size]; rfl) rfl rfl ?_ ?_
          · intro ax wx hE hR hF
            have e168 := hF 10 (det 168 _) (by decide) (.tail _ (.tail _ (.tail _ (.head _))))
            exact e168
          refine Build.skipu 173 (by rfl) (by rw [k.size]; rfl) rfl rfl ?_ ?_
          · intro ax wx hE hR hF
            have e168 := hF 10 (det 168 _) (by decide) (.tail _ (.tail _ (.tail _ (.tail _ (.head _)))))
            exact e168
          refine Build.skipu 174 (by rfl) (by rw [k.size]; rfl) rfl rfl ?_ ?_
          · intro ax wx hE hR hF
            have e168 := hF 10 (det 168 _) (by decide) (.tail _ (.tail _ (.tail _ (.tail _ (.tail _ (.head _))))))
            exact e168
          refine Build.skipu 175 (by rfl) (by rw [k.size]; rfl) rfl rfl ?_ ?_
          · intro ax wx hE hR hF
            have e168 := hF 10 (det 168 _) (by decide) (.tail _ (.tail _ (.tail _ (.tail _ (.tail _ (.tail _ (.head _)))))))
            exact e168
          refine Build.skipu 176 (by rfl) (by rw [k.size]; rfl) rfl rfl ?_ ?_
          · intro ax wx hE hR hF
            have e168 := hF 10 (det 168 _) (by decide) (.tail _ (.tail _ (.tail _ (.tail _ (.tail _ (.tail _ (.tail _ (.head _))))))))
            exact e168
          refine Build.skip 177 (by rfl) (by rw [k.size]; rfl) rfl rfl ?_ ?_
          · intro ax wx hE hR hF
            have e163 := hF 5 (det 163 _) (by decide) (.tail _ (.tail _ (.tail _ (.tail _ (.tail _ (.tail _ (.tail _ (.tail _ (.tail _ (.tail _ (.tail _ (.tail _ (.tail _ (.head _))))))))))))))
            exact e163
          apply bd 178 k rfl rfl rfl
          case h =>
           intro ax wx hE hR hF
           have e163 := hF 5 (det 163 _) (by decide) (.tail _ (.tail _ (.tail _ (.tail _ (.tail _ (.tail _ (.tail _ (.tail _ (.tail _ (.tail _ (.tail _ (.tail _ (.tail _ (.tail _ (.head _)))))))))))))))
           have e177 := hF 19 (det 177 _) (by decide) (.head _)
           exact Z08 rfl e163 rfl
          apply Build.stop
          refine ⟨by kernel_rfl, .inl ⟨rfl, ?_⟩⟩
          intro a406 w407 hE R hF
          have e178 : a406.eval (.tmp 178) = _ := hF 20 (det 178 _) (.head _)
          clear hF
          replace O := OwnT.ext O R
          clear R
          replace e0 := hE.g e0
          replace e3 := hE.g e3
          replace e4 := hE.g e4
          replace e5 := hE.g e5
          replace e13 := hE.g e13
          replace e15 := hE.g e15
          replace e16 := hE.g e16
          replace e17 := hE.g e17
          replace e18 := hE.g e18
          replace k := k.env hE
          clear hE e19 e20
          refine Z01 ?_
          refine Z05 e178 rfl ?_
          refine wp_skip ?_
          refine Z0r ?_
          refine Z01 ?_
          refine wp_region_lit ?_
          have hE := Env.refl a406 [143, 144, 18]
          refine sd 143 hE k (Z03 rfl e18) ?_
          intro a408 hE e143 kp
          replace e18 := kt kp e18
          refine sd 144 hE k (Z19 rfl e143 rfl (by omega)) ?_
          intro a409 hE e144 kp
          replace e18 := kt kp e18
          refine sd 18 hE k (Z00 rfl e144) ?_
          intro a410 hE e18 kp
          refine wpList_nil ?_
          replace e0 := hE.g e0
          replace e3 := hE.g e3
          replace e4 := hE.g e4
          replace e5 := hE.g e5
          replace e13 := hE.g e13
          replace e15 := hE.g e15
          replace e16 := hE.g e16
          replace e17 := hE.g e17
          replace k := k.env hE
          clear hE e178
          refine Z01 ?_
          refine ⟨⟨k, e0, e3, e4, e5, e13, e15, e16, j + 1, false, e17, e18, by omega, by rw [htk]; rfl, (OwnT.pickR (L := [_, _, _, _, _]) (R := []) O [0, 1, 2, 3] (by decide))⟩, ?_⟩
          rw [e18, mj]; simp only [intOf]; omega
       · have hjl : j = Q.length := by omega
         rw [hjl, List.take_length, hall] at hgd
         clear mj
         subst hgd
         refine wp_seq ?_
         refine wp_seq ?_
         refine wp_region_lit ?_
         have hE := Env.refl a360 [139, 140, 141, 142]
         refine sm 139 hE k e18 ?_
         intro a411 hE e139 kp
         refine sm 140 hE k e13 ?_
         intro a412 hE e140 kp
         replace e139 := kt kp e139
         refine sd 141 hE k (Z0l Try.underlying29 rfl e140) ?_
         intro a413 hE e141 kp
         replace e139 := kt kp e139
         refine sd 142 hE k (Z06 (Z1c rfl e139 e141) (decide_eq_false (by omega))) ?_
         intro a414 hE e142 kp
         refine wpList_nil ?_
         replace e0 := hE.g e0
         replace e3 := hE.g e3
         replace e4 := hE.g e4
         replace e5 := hE.g e5
         replace e13 := hE.g e13
         replace e15 := hE.g e15
         replace e16 := hE.g e16
         replace e17 := hE.g e17
         replace e18 := hE.g e18
         replace k := k.env hE
         clear hE
         refine Z01 ?_
         refine Z05 e142 rfl ?_
         refine wp_exit ?_
         refine Z14 ?_
         refine Z14 ?_
         refine Z1j ?_
         refine Z01 (wp_seq ?_)
         refine wp_region_lit ?_
         have hE := Env.refl a414 [179, 180, 181, 182, 183, 184, 185, 186, 187, 188, 189, 190, 191, 192, 193, 194, 195, 196, 197, 198, 199, 200, 201, 202, 203]
         refine sm 179 hE k e17 ?_
         intro a415 hE e179 kp
         refine sd 180 hE k (Z03 rfl e179) ?_
         intro a416 hE e180 kp
         refine Z09 181 hE k rfl (by rfl) (by rfl) rfl rfl (.inl e180) ?_
         intro a417 hE e181 kp
         replace e180 := kt kp e180
         refine Z09 182 hE k rfl (by rfl) (by rfl) rfl rfl (.inl e180) ?_
         intro a418 hE e182 kp
         replace e180 := kt kp e180
         refine Z09 183 hE k rfl (by rfl) (by rfl) rfl rfl (.inl e180) ?_
         intro a419 hE e183 kp
         replace e180 := kt kp e180
         refine Z09 184 hE k rfl (by rfl) (by rfl) rfl rfl (.inr e183) ?_
         intro a420 hE e184 kp
         replace e180 := kt kp e180
         replace e183 := kt kp e183
         refine Z09 185 hE k rfl (by rfl) (by rfl) rfl rfl (.inr e183) ?_
         intro a421 hE e185 kp
         replace e180 := kt kp e180
         replace e183 := kt kp e183
         refine Z09 186 hE k rfl (by rfl) (by rfl) rfl rfl (.inr e183) ?_
         intro a422 hE e186 kp
         replace e180 := kt kp e180
         replace e183 := kt kp e183
         replace e185 := kt kp e185
         refine Z09 187 hE k rfl (by rfl) (by rfl) rfl rfl (.inr e183) ?_
         intro a423 hE e187 kp
         replace e180 := kt kp e180
         replace e183 := kt kp e183
         replace e185 := kt kp e185
         refine Z09 188 hE k rfl (by rfl) (by rfl) rfl rfl (.inr e183) ?_
         intro a424 hE e188 kp
         replace e180 := kt kp e180
         replace e183 := kt kp e183
         refine Z09 189 hE k rfl (by rfl) (by rfl) rfl rfl (.inl e180) ?_
         intro a425 hE e189 kp
         replace e180 := kt kp e180
         refine sd 190 hE k (Z08 rfl e180 rfl) ?_
         intro a426 hE e190 kp
         refine sd 191 hE k (Z03 rfl e190) ?_
         intro a427 hE e191 kp
         apply Z04 192 hE k rfl rfl rfl rfl rfl e191
         case h =>
          exact Z03 rfl (hE.g e17)
         intro a428 hE e192 kp
         replace e191 := kt kp e191
         apply Z04 193 hE k rfl rfl rfl rfl rfl e191
         case h =>
          exact Z1m rfl e192
         intro a429 hE e193 kp
         replace e191 := kt kp e191
         apply Z04 194 hE k rfl rfl rfl rfl rfl e191
         case h =>
          exact Z03 rfl e193
         intro a430 hE e194 kp
         replace e191 := kt kp e191
         apply Z04 195 hE k rfl rfl rfl rfl rfl e194
         case h =>
          exact Z03 rfl (hE.g e16)
         intro a431 hE e195 kp
         replace e191 := kt kp e191
         replace e194 := kt kp e194
         apply Z04 196 hE k rfl rfl rfl rfl rfl e194
         case h =>
          exact Z06 (Z0v rfl e195 rfl) (decide_eq_false (by omega))
         intro a432 hE e196 kp
         replace e191 := kt kp e191
         replace e194 := kt kp e194
         apply Z04 197 hE k rfl rfl rfl rfl rfl e194
         case h =>
          exact Z03 rfl e196
         intro a433 hE e197 kp
         replace e191 := kt kp e191
         replace e194 := kt kp e194
         apply Z04 198 hE k rfl rfl rfl rfl rfl e197
         case h =>
          exact Z03 rfl (hE.g e15)
         intro a434 hE e198 kp
         replace e191 := kt kp e191
         replace e194 := kt kp e194
         replace e197 := kt kp e197
         apply Z04 199 hE k rfl rfl rfl rfl rfl e197
         case h =>
          exact Z0l Try.underlying111 rfl e198
         intro a435 hE e199 kp
         replace e191 := kt kp e191
         replace e194 := kt kp e194
         replace e197 := kt kp e197
         apply Z04 200 hE k rfl rfl rfl rfl rfl e197
         case h =>
          exact Z06 (Z0v rfl e199 rfl) (decide_eq_false (by omega))
         intro a436 hE e200 kp
         replace e191 := kt kp e191
         replace e194 := kt kp e194
         replace e197 := kt kp e197
         apply Z04 201 hE k rfl rfl rfl rfl rfl e194
         case h =>
          exact Z08 rfl e197 e200
         intro a437 hE e201 kp
         replace e191 := kt kp e191
         replace e194 := kt kp e194
         apply Z04 202 hE k rfl rfl rfl rfl rfl e191
         case h =>
          exact Z0h rfl e194 e201
         intro a438 hE e202 kp
         replace e191 := kt kp e191
         refine sd 203 hE k (Z08 rfl e191 e202) ?_
         intro a439 hE e203 kp
         refine wpList_nil ?_
         replace e0 := hE.g e0
         replace e3 := hE.g e3
         replace e4 := hE.g e4
         replace e5 := hE.g e5
         replace k := k.env hE
         clear hE e13 e15 e16 e17 e18 e142
         refine Z01 ?_
         refine Z05 e203 rfl ?_
         refine wp_skip ?_
         refine Z0r ?_
         refine Z01 ?_
         refine wp_region_lit ?_
         have hE := Env.refl a439 [34, 35, 5]
         refine sd 34 hE k (Z03 rfl e5) ?_
         intro a440 hE e34 kp
         replace e5 := kt kp e5
         refine sd 35 hE k (Z19 rfl e34 rfl (by omega)) ?_
         intro a441 hE e35 kp
         replace e5 := kt kp e5
         refine sd 5 hE k (Z00 rfl e35) ?_
         intro a442 hE e5 kp
         refine wpList_nil ?_
         replace e0 := hE.g e0
         replace e3 := hE.g e3
         replace e4 := hE.g e4
         replace k := k.env hE
         clear hE e203
         refine Z01 ?_
         refine ⟨⟨k, e0, e3, i + 1, r, P2, N2, B2, cap2, vs2, e4, e5, by omega, hN2, hT2.le (by omega), (OwnT.pickR (L := [_, _, _, _]) (R := []) O [0, 1, 2] (by decide))⟩, ?_⟩
         rw [e5, mi]; simp only [intOf]; omega
theorem placeList_walk (w : World) (v0 : Value) (h0 : Arg Try.prog w 117 v0) :
 Calls Try.prog 13 #[v0] w fun e w' => e = .returned (.bool true) ∧ Below w.heap.size w w' := by
 obtain ⟨A, n, c, xs, rfl, _, _, a3, a4, a5⟩ := arg_dds h0
 exact placeList_core xs w a3 a5 a4
end Go.Proofs.Ytngehbhhpkkijaa
