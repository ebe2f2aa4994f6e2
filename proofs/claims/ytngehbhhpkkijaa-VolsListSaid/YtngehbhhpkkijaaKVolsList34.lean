/- volumes' law: VolsList (printed by XVlL.gen.py). -/
import Derived.Test.YtngehbhhpkkijaaKVolsList30
import Derived.Test.YtngehbhhpkkijaaKVolsList33
namespace Go.Proofs.Ytngehbhhpkkijaa
attribute [local simp] BigFrame.eval_const BigFrame.eval_global BigFrame.eval_func
set_option linter.unusedVariables false
set_option linter.unusedSimpArgs false
open Go.RowKit Go.Maps


theorem vl_fields : Try.prog.underlying 89 = some (.struct (Try.prog.fieldsOf 89)) := by kernel_rfl
theorem vl_held : Try.prog.stoodInHeld 89 = false := by kernel_rfl
theorem part_v0 (w : World) (x y z u v : Value) : (part 3 #[x, y, z, u, v] 0).run Try.prog w = .ok x w := by kernel_rfl
theorem part_v1 (w : World) (x y z u v : Value) : (part 3 #[x, y, z, u, v] 1).run Try.prog w = .ok y w := by kernel_rfl
theorem part_v2 (w : World) (x y z u v : Value) : (part 3 #[x, y, z, u, v] 2).run Try.prog w = .ok z w := by kernel_rfl
theorem part_v3 (w : World) (x y z u v : Value) : (part 4 #[x, y, z, u, v] 3).run Try.prog w = .ok u w := by kernel_rfl
theorem part_v4 (w : World) (x y z u v : Value) : (part 3 #[x, y, z, u, v] 4).run Try.prog w = .ok v w := by kernel_rfl
/-- A volume is its own. -/
theorem eq_vl (d : Nat) (i s r f : Int) (p : Bool) (w : World) : (Op.equalIn (d + 2) 89 (.agg #[.int .i64 i, .int .i64 s, .int .i64 r, .bool p, .int .i64 f]) (.agg #[.int .i64 i, .int .i64 s, .int .i64 r, .bool p, .int .i64 f])).run Try.prog w = .ok true w := by
 have h0 := fun W x y => run_equalIn_int (P := Try.prog) W d 3 .i64 .i64 x y Try.underlying3
 have h1 := fun W x y => run_equalIn_bool (P := Try.prog) W d 4 x y Try.underlying4
 rw [run_equalIn_struct w (d + 1) _ _ _ vl_fields vl_held]
 have hf : (Try.prog.fieldsOf 89).toList.map (fun f => (f.name, f.type, f.offset)) = [("Id", 3, 0), ("Size", 3, 1), ("Root", 3, 2), ("Pinned", 4, 3), ("From", 3, 4)] := by kernel_rfl
 generalize (Try.prog.fieldsOf 89).toList = L at hf ⊢
 obtain ⟨f1, f2, f3, f4, f5, rfl⟩ : ∃ f1 f2 f3 f4 f5, L = [f1, f2, f3, f4, f5] := by
  have hl : L.length = 5 := by have := congrArg List.length hf; simpa using this
  match L, hl with
  | [f1, f2, f3, f4, f5], _ => exact ⟨f1, f2, f3, f4, f5, rfl⟩
 simp only [List.map_cons, List.map_nil, List.cons.injEq, Prod.mk.injEq, and_true] at hf
 obtain ⟨⟨n1, t1, o1⟩, ⟨n2, t2, o2⟩, ⟨n3, t3, o3⟩, ⟨n4, t4, o4⟩, n5, t5, o5⟩ := hf
 simp [Op.eqFields, n1, n2, n3, n4, n5, t1, t2, t3, t4, t5, o1, o2, o3, o4, o5, Sem.run_bind, Sem.run_ite, part_v0, part_v1, part_v2, part_v3, part_v4, h0, h1]
section
variable {w : World} {o : Oper} {ρ : Operand → Value} {t u : TypeId} {x y : Operand}
theorem x_neVl {i s r f : Int} {p : Bool} (ho : o.op = .binOp .neq 89 x y u) (hx : ρ x = .agg #[.int .i64 i, .int .i64 s, .int .i64 r, .bool p, .int .i64 f]) (hy : ρ y = .agg #[.int .i64 i, .int .i64 s, .int .i64 r, .bool p, .int .i64 f]) : (execOp ρ o).run Try.prog w = .ok (.value (.bool false)) w := by
 have h := eq_vl 9998 i s r f p w
 unfold execOp
 simp only [ho, hx, hy]
 simp [go_sem, h]
theorem x_quoU {m j : Nat} {k : Int} (ho : o.op = .binOp .quo t x y u) (hx : ρ x = .int .u64 (m : Nat)) (hy : ρ y = .int .u64 k) (hk : k = (j : Nat)) (hj : 0 < j) (hm : m < 18446744073709551616) : (execOp ρ o).run Try.prog w = .ok (.value (.int .u64 ((m / j : Nat) : Int))) w := by
 subst hk
 refine x_bin ho hx hy ?_
 have h0 : ¬ ((j : Int) = 0) := by omega
 have h2 : (m : Int).tdiv (j : Int) = ((m / j : Nat) : Int) := rfl
 have hle : m / j ≤ m := Nat.div_le_self m j
 have h3 : IntKind.u64.wrap ((m / j : Nat) : Int) = ((m / j : Nat) : Int) := by
  have h4 : (0 : Int) ≤ ((m / j : Nat) : Int) := Int.natCast_nonneg _
  have h5 : ((m / j : Nat) : Int) ≤ (m : Int) := Int.ofNat_le.2 hle
  generalize ((m / j : Nat) : Int) = z at h4 h5 ⊢
  show z % 18446744073709551616 = z
  omega
 simp only [binOp, Op.intDiv, if_neg h0, h2, h3]
 first | done | rfl | simp [h3]
theorem x_neB2 {a b c : Bool} (ho : o.op = .binOp .neq 4 x y u) (hx : ρ x = .bool a) (hy : ρ y = .bool b) (h : decide (a ≠ b) = c) : (execOp ρ o).run Try.prog w = .ok (.value (.bool c)) w := by
 subst h
 unfold execOp
 simp only [ho, hx, hy]
 cases a <;> cases b <;> kernel_rfl
end
theorem vl_row {w : World} {B : Option Addr} {n c : Nat} {ps : List VlD} (h : (tVls (.slice B n c) ps).holds w) : Row w B 5 vlC ps := by
 obtain ⟨B2, c2, e, _, _, _, hr⟩ := ownsRow_Row (enc := vlC) (X := ps) (fun _ => rfl) (by decide) h
 injection e with e1
 subst e1
 exact hr
theorem vl_cells {w : World} {B : Option Addr} {n c : Nat} {ps : List VlD} (h : (tVls (.slice B n c) ps).holds w) {j : Nat} {i s r f : Int} {p : Bool} (hi : ps[j]? = some (i, s, r, p, f)) : ∃ g, B = some ⟨g, 0, none⟩ ∧ w.cell? ⟨g, j * 5, none⟩ = some (.int .i64 i) ∧ w.cell? ⟨g, j * 5 + 1, none⟩ = some (.int .i64 s) ∧ w.cell? ⟨g, j * 5 + 2, none⟩ = some (.int .i64 r) ∧ w.cell? ⟨g, j * 5 + 3, none⟩ = some (.bool p) ∧ w.cell? ⟨g, j * 5 + 4, none⟩ = some (.int .i64 f) := by
 have hl := (List.getElem?_eq_some_iff.1 hi).1
 obtain ⟨g, cap', cur, e, -⟩ := Z14 h (by omega)
 injection e with e1 e2 e3
 subst e1
 obtain ⟨b, o, e, _, hc⟩ := vl_row h j _ hi
 injection e with e
 injection e with e e'
 subst e e'
 refine ⟨g, rfl, ?_, ?_, ?_, ?_, ?_⟩
 · have := hc 0 _ rfl; simpa using this
 · have := hc 1 _ rfl; simpa using this
 · have := hc 2 _ rfl; simpa using this
 · have := hc 3 _ rfl; simpa using this
 · have := hc 4 _ rfl; simpa using this
/-- A deed: its kind, a volume, a pair. -/
abbrev DdV := Int × VlD × Pr
def dvC (x : DdV) : List Value := [.int .i64 x.1, .int .i64 x.2.1.1, .int .i64 x.2.1.2.1, .int .i64 x.2.1.2.2.1, .bool x.2.1.2.2.2.1, .int .i64 x.2.1.2.2.2.2, .int .u64 (x.2.2.1 : Nat), .int .u64 (x.2.2.2 : Nat)]
def dvOk (x : DdV) : Prop := x.2.2.1 < 18446744073709551616 ∧ x.2.2.2 < 18446744073709551616
theorem cells_dv : Try.prog.cellsOf 91 = 8 := by kernel_rfl
theorem cells_i11 : Try.prog.cellsOf 3 = 1 := by kernel_rfl
theorem cells_b11 : Try.prog.cellsOf 4 = 1 := by kernel_rfl
theorem cells_u11 : Try.prog.cellsOf 30 = 1 := by kernel_rfl
theorem cells_v11 : Try.prog.cellsOf 89 = 5 := by kernel_rfl
theorem cells_p11 : Try.prog.cellsOf 38 = 2 := by kernel_rfl
theorem arg_dvs {w : World} {v : Value} (h : Arg Try.prog w 87 v) :
 ∃ A len cap, ∃ xs : List DdV, v = .slice A len cap ∧ len ≤ cap ∧ cap ≤ maxLen ∧ xs.length = len ∧ (∀ x ∈ xs, dvOk x) ∧ Row w A 8 dvC xs :=
 fit_row dvC dvOk Try.underlying87 cells_dv (by decide) (fun cs _ hf => by
  obtain ⟨hl, hx⟩ := fit_fields 8 Try.underlying91 cells_dv hf
  obtain ⟨a, e0, _⟩ := cell_int Try.underlying3 (hx 0 0 3 1 rfl cells_i11)
  obtain ⟨_, hv⟩ := fit_fields 5 Try.underlying89 cells_v11 (hx 1 1 89 5 rfl cells_v11)
  obtain ⟨i, e1, _⟩ := cell_int Try.underlying3 (hv 0 0 3 1 rfl cells_i11)
  obtain ⟨s, e2, _⟩ := cell_int Try.underlying3 (hv 1 1 3 1 rfl cells_i11)
  obtain ⟨r, e3, _⟩ := cell_int Try.underlying3 (hv 2 2 3 1 rfl cells_i11)
  obtain ⟨p, e4⟩ := cell_bool Try.underlying4 (hv 3 3 4 1 rfl cells_b11)
  obtain ⟨f, e5, _⟩ := cell_int Try.underlying3 (hv 4 4 3 1 rfl cells_i11)
  obtain ⟨_, hx2⟩ := fit_fields 2 Try.underlying38 cells_p11 (hx 2 6 38 2 rfl cells_p11)
  obtain ⟨k, e6, w2⟩ := cell_int Try.underlying30 (hx2 0 0 30 1 rfl cells_u11)
  obtain ⟨x, e7, w3⟩ := cell_int Try.underlying30 (hx2 1 1 30 1 rfl cells_u11)
  have b2 := bounds_u64 w2
  have b3 := bounds_u64 w3
  refine ⟨(a, (i, s, r, p, f), k.toNat, x.toNat), ?_, by show k.toNat < _; omega, by show x.toNat < _; omega⟩
  match cs, hl with
  | [u0, u1, u2, u3, u4, u5, u6, u7], _ =>
   simp at e0 e1 e2 e3 e4 e5 e6 e7
   subst e0 e1 e2 e3 e4 e5 e6 e7
   show _ = [_, _, _, _, _, _, Value.int .u64 ((k.toNat : Nat) : Int), Value.int .u64 ((x.toNat : Nat) : Int)]
   rw [show ((k.toNat : Nat) : Int) = k by omega, show ((x.toNat : Nat) : Int) = x by omega]) (arg_slice Try.underlying87 h)
theorem vlKey_eq {i s r f : Int} (h : GoodVol i s r f) : 4294967296 + i = (vlKey i : Int) := by
 obtain ⟨g0, g1, _⟩ := h
 unfold vlKey
 omega
theorem vlVal_eq {i s r f : Int} (p : Bool) (h : GoodVol i s r f) : volPair s r p f = (vlVal s r p f : Int) := by
 obtain ⟨_, _, _, _, _, h6, _⟩ := vol_fields p h
 unfold vlVal
 omega
theorem cut_take {l : List Pr} {j lo hi : Nat} {x : Pr} (h : l[j]? = some x) : cutP lo hi (l.take (j + 1)) = cutP lo hi (l.take j) ++ (if lo ≤ x.1 ∧ x.1 ≤ hi then [x] else []) := by
 rw [List.take_add_one, h]
 unfold cutP
 rw [List.filter_append]
 congr 1
 simp only [Option.toList_some, List.filter_cons, List.filter_nil]
 by_cases h1 : lo ≤ x.1 <;> by_cases h2 : x.1 ≤ hi <;> simp [h1, h2]

set_option maxRecDepth 100000 in
set_option maxHeartbeats 4000000 in
theorem rvlist {B : Option Addr} {n cap : Nat} {Q : List Pr} (l : List Pr) (hQ : cutP 4294967296 8589934591 l = Q) (hw : ∀ y ∈ l, y.1 < 18446744073709551616 ∧ y.2 < 18446744073709551616) (W0 : World) (hl : l.length = n) (hrow : Row W0 B 2 pairC l) (hn : n ≤ 100000) : Calls Try.prog 45 #[.slice B n cap] W0 fun e w' => (Q.all vlOkB = true ∧ ∃ v', e = .returned (.tuple #[v', .bool true]) ∧ w'.ownsRow W0.heap.size 89 5 v' Q.length (flatVl (Q.map vlOf)) ∧ Ext W0 w') ∨ (Q.all vlOkB = false ∧ e = .returned (.tuple #[.slice none 0 0, .bool false]) ∧ Ext W0 w') := by
 have O := OwnT.start W0
 refine Z0b Try.func45 rfl 37 rfl (by rfl) ?_
 intro a1 k hargs
 have e0 : a1.eval (.tmp 0) = .slice B n cap := hargs 0 _ rfl
 clear hargs
 refine wp_seq ?_
 refine wp_region_lit ?_
 have hE := Env.refl a1 [2, 3]
 refine sd 2 hE k (Z00 rfl rfl) ?_
 intro a2 hE e2 kp
 refine sd 3 hE k (Z00 rfl rfl) ?_
 intro a3 hE e3 kp
 refine wpList_nil ?_
 replace e0 := hE.g e0
 replace k := k.env hE
 clear hE e3
 refine Z01 (wp_seq ?_)
 refine wp_region_lit ?_
 have hE := Env.refl a3 [8, 4]
 refine Z1c (m := 0) (c := 0) O (cs := #[]) (t := 89) 8 hE k rfl (by rfl) (by rfl) rfl (by simp [go_sem, ↓IntWalk.iteOmega]) ?_
 clear O
 intro g0 a4 w5 O hE e8 kp
 refine sd 4 hE k (Z00 rfl e8) ?_
 intro a6 hE e4 kp
 refine wpList_nil ?_
 replace e0 := hE.g e0
 replace k := k.env hE
 clear hE
 refine Z01 ?_
 replace O := OwnT.asRowE (k := 5) O
 refine wp_seq ?_
 refine wp_seq ?_
 refine wp_region_lit ?_
 have hE := Env.refl a6 [5]
 refine sd 5 hE k (Z00 rfl rfl) ?_
 intro a7 hE e5 kp
 refine wpList_nil ?_
 replace e0 := hE.g e0
 replace e4 := hE.g e4
 replace k := k.env hE
 clear hE
 refine Z01 ?_
 refine wp_block ?_
 refine wp_loop (fun a w => Fr 37 a ∧ a.eval (.tmp 0) = .slice B n cap ∧ ∃ (j : Nat) (E : List Pr) (Bo : Option Addr) (co : Nat), a.eval (.tmp 4) = .slice Bo E.length co ∧ a.eval (.tmp 5) = .int .i64 ↑j ∧ j ≤ n ∧ E = cutP 4294967296 8589934591 (l.take j) ∧ E.all vlOkB = true ∧ OwnT W0.heap.size W0 ([tRow 89 5 (.slice Bo E.length co) E.length (flatVl (E.map vlOf))]) w) (fun a w => n - (intOf (a.eval (.tmp 5))).toNat) ?_ ?_
 · exact ⟨k, e0, 0, [], some ⟨g0, 0, none⟩, 0, e4, e5, Nat.zero_le _, rfl, rfl, O⟩
 intro a8 w9 hI
 clear k e0
 obtain ⟨k, e0, h_⟩ := hI
 clear O e4 e5
 obtain ⟨j, E, Bo, co, e4, e5, hj, hEq, hall, O⟩ := h_
 have mj := e5
 by_cases hlt : j < n
 · have hltI : (j : Int) < (n : Int) := by omega
   obtain ⟨y, hy⟩ : ∃ y, l[j]? = some y := ⟨_, List.getElem?_eq_getElem (by omega)⟩
   have htk := cut_take (lo := 4294967296) (hi := 8589934591) hy
   have hyw := hw y (List.mem_of_getElem? hy)
   have hEl : E.length ≤ n := by rw [hEq]; have := List.length_filter_le (fun y => decide (4294967296 ≤ y.1) && decide (y.1 ≤ 8589934591)) (l.take j); rw [List.length_take] at this; unfold cutP; omega
   obtain ⟨b, o, rfl, d0, d1⟩ := pr_at hrow O.below hy
   obtain ⟨y1, y2⟩ := y
   have hw1 : y1 < 18446744073709551616 := hyw.1
   have hw2 : y2 < 18446744073709551616 := hyw.2
   simp only at htk
   clear hyw

   by_cases hin : 4294967296 ≤ y1 ∧ y1 ≤ 8589934591
   rotate_left
   · rw [if_neg hin, List.append_nil] at htk
     refine wp_seq ?_
     refine wp_seq ?_
     refine wp_region_lit ?_
     have hE := Env.refl a8 [9, 10, 11, 12]
     refine sm 9 hE k e5 ?_
     intro a10 hE e9 kp
     refine sm 10 hE k e0 ?_
     intro a11 hE e10 kp
     replace e9 := kt kp e9
     refine sd 11 hE k (Z0h Try.underlying29 rfl e10) ?_
     intro a12 hE e11 kp
     replace e9 := kt kp e9
     refine sd 12 hE k (Z06 (Z17 rfl e9 e11) (decide_eq_true (by omega))) ?_
     intro a13 hE e12 kp
     refine wpList_nil ?_
     replace e0 := hE.g e0
     replace e4 := hE.g e4
     replace e5 := hE.g e5
     replace k := k.env hE
     clear hE
     refine Z01 ?_
     refine Z08 e12 rfl ?_
     refine wp_skip ?_
     refine Z01 (wp_seq ?_)
     refine wp_block ?_
     refine wp_seq ?_
     refine wp_seq ?_
     refine wp_region_lit ?_
     have hE := Env.refl a13 [15, 16, 17, 18, 19, 20, 21]
     refine sm 15 hE k e0 ?_
     intro a14 hE e15 kp
     refine sm 16 hE k e5 ?_
     intro a15 hE e16 kp
     replace e15 := kt kp e15
     apply Z02 17 hE k rfl rfl rfl rfl
     case h =>
      simp [go_sem, ↓IntWalk.iteOmega, ev e15, ev e16]
      with_reducible rfl
     intro a16 hE e17 kp
     apply Z02 18 hE k rfl rfl rfl rfl
     case h =>
      simp [go_sem, ↓IntWalk.iteOmega, ev e17]
      with_reducible rfl
     intro a17 hE e18 kp
     apply Z02 19 hE k rfl rfl rfl rfl
     case h =>
      simp [go_sem, ↓IntWalk.iteOmega, ev e18, d0]
      with_reducible rfl
     intro a18 hE e19 kp
     refine sd 20 hE k (x_quoU (m := y1) (j := 4294967296) rfl e19 rfl rfl (by decide) hw1) ?_
     intro a19 hE e20 kp
     refine sd 21 hE k (Z06 (Z0s rfl e20 rfl) (decide_eq_true (by omega))) ?_
     intro a20 hE e21 kp
     refine wpList_nil ?_
     replace e0 := hE.g e0
     replace e4 := hE.g e4
     replace e5 := hE.g e5
     replace k := k.env hE
     clear hE e12
     refine Z01 ?_
     refine Z08 e21 rfl ?_
     refine wp_exit ?_
     refine Z0u ?_
     refine Z18 ?_
     refine Z01 ?_
     refine wp_region_lit ?_
     have hE := Env.refl a20 [13, 14, 5]
     refine sd 13 hE k (Z03 rfl e5) ?_
     intro a21 hE e13 kp
     replace e5 := kt kp e5
     refine sd 14 hE k (Z13 rfl e13 rfl (by omega)) ?_
     intro a22 hE e14 kp
     replace e5 := kt kp e5
     refine sd 5 hE k (Z00 rfl e14) ?_
     intro a23 hE e5 kp
     refine wpList_nil ?_
     replace e0 := hE.g e0
     replace e4 := hE.g e4
     replace k := k.env hE
     clear hE e21
     refine Z01 ?_
     refine ⟨⟨k, e0, j + 1, E, Bo, co, e4, e5, by omega, by rw [htk]; exact hEq, hall, O⟩, ?_⟩
     rw [e5, mj]; simp only [intOf]; omega
   rw [if_pos hin, ← hEq] at htk
   refine wp_seq ?_
   refine wp_seq ?_
   refine wp_region_lit ?_
   have hE := Env.refl a8 [9, 10, 11, 12]
   refine sm 9 hE k e5 ?_
   intro a24 hE e9 kp
   refine sm 10 hE k e0 ?_
   intro a25 hE e10 kp
   replace e9 := kt kp e9
   refine sd 11 hE k (Z0h Try.underlying29 rfl e10) ?_
   intro a26 hE e11 kp
   replace e9 := kt kp e9
   refine sd 12 hE k (Z06 (Z17 rfl e9 e11) (decide_eq_true (by omega))) ?_
   intro a27 hE e12 kp
   refine wpList_nil ?_
   replace e0 := hE.g e0
   replace e4 := hE.g e4
   replace e5 := hE.g e5
   replace k := k.env hE
   clear hE
   refine Z01 ?_
   refine Z08 e12 rfl ?_
   refine wp_skip ?_
   refine Z01 (wp_seq ?_)
   refine wp_block ?_
   refine wp_seq ?_
   refine wp_seq ?_
   refine wp_region_lit ?_
   have hE := Env.refl a27 [15, 16, 17, 18, 19, 20, 21]
   refine sm 15 hE k e0 ?_
   intro a28 hE e15 kp
   refine sm 16 hE k e5 ?_
   intro a29 hE e16 kp
   replace e15 := kt kp e15
   apply Z02 17 hE k rfl rfl rfl rfl
   case h =>
    simp [go_sem, ↓IntWalk.iteOmega, ev e15, ev e16]
    with_reducible rfl
   intro a30 hE e17 kp
   apply Z02 18 hE k rfl rfl rfl rfl
   case h =>
    simp [go_sem, ↓IntWalk.iteOmega, ev e17]
    with_reducible rfl
   intro a31 hE e18 kp
   apply Z02 19 hE k rfl rfl rfl rfl
   case h =>
    simp [go_sem, ↓IntWalk.iteOmega, ev e18, d0]
    with_reducible rfl
   intro a32 hE e19 kp
   refine sd 20 hE k (x_quoU (m := y1) (j := 4294967296) rfl e19 rfl rfl (by decide) hw1) ?_
   intro a33 hE e20 kp
   refine sd 21 hE k (Z06 (Z0s rfl e20 rfl) (decide_eq_false (by omega))) ?_
   intro a34 hE e21 kp
   refine wpList_nil ?_
   replace e0 := hE.g e0
   replace e4 := hE.g e4
   replace e5 := hE.g e5
   replace k := k.env hE
   clear hE e12
   refine Z01 ?_
   refine Z05 e21 rfl ?_
   refine wp_skip ?_
   refine Z01 ?_
   by_cases hg : VolOk (y1 : Int) (y2 : Int)
   · skip
     obtain ⟨i_, hiq⟩ : ∃ c : Int, (y1 : Int) % 4294967296 = c := ⟨_, rfl⟩
     obtain ⟨s, hsq⟩ : ∃ c : Int, (y2 : Int) / 65536 % 65536 = c := ⟨_, rfl⟩
     obtain ⟨r, hrq⟩ : ∃ c : Int, (y2 : Int) % 65536 = c := ⟨_, rfl⟩
     obtain ⟨p, hpq⟩ : ∃ c : Bool, ((y2 : Int) / 4294967296 % 256 == 1) = c := ⟨_, rfl⟩
     obtain ⟨f, hfq⟩ : ∃ c : Int, (y2 : Int) / 1099511627776 = c := ⟨_, rfl⟩

     refine wp_seq ?_
     refine wp_region_lit ?_
     have hE := Env.refl a34 [23, 24, 25, 26, 27, 22, 28, 29, 6, 7]
     refine sm 23 hE k e0 ?_
     intro a35 hE e23 kp
     refine sm 24 hE k e5 ?_
     intro a36 hE e24 kp
     replace e23 := kt kp e23
     apply Z02 25 hE k rfl rfl rfl rfl
     case h =>
      simp [go_sem, ↓IntWalk.iteOmega, ev e23, ev e24]
      with_reducible rfl
     intro a37 hE e25 kp
     apply Z02 26 hE k rfl rfl rfl rfl
     case h =>
      simp [go_sem, ↓IntWalk.iteOmega, ev e25, d0, d1]
      with_reducible rfl
     intro a38 hE e26 kp
     apply Z07 27 hE k rfl (by rfl) (by rfl) rfl
     case h =>
      simp [go_sem, ↓IntWalk.iteOmega, ev e26]
      with_reducible exact ⟨rfl, rfl⟩
     case hc => exact rread11_yes (y1 : Int) (y2 : Int) _ (by omega) (by omega) (by omega) (by omega) hg
     rintro e w40 ⟨rfl, RE⟩
     replace O := OwnT.ext O RE
     refine ⟨.tuple #[.agg #[.int .i64 i_, .int .i64 s, .int .i64 r, .bool p, .int .i64 f], .bool true], by rw [hiq, hsq, hrq, hpq, hfq], ?_⟩
     intro a39 hE e27 kp
     refine sd 22 hE k (Z03 rfl e27) ?_
     intro a41 hE e22 kp
     apply Z02 28 hE k rfl rfl rfl rfl
     case h =>
      simp [go_sem, ↓IntWalk.iteOmega, ev e22]
      with_reducible rfl
     intro a42 hE e28 kp
     replace e22 := kt kp e22
     apply Z02 29 hE k rfl rfl rfl rfl
     case h =>
      simp [go_sem, ↓IntWalk.iteOmega, ev e22]
      with_reducible rfl
     intro a43 hE e29 kp
     replace e28 := kt kp e28
     refine Z0j O (cs := #[.int .i64 0, .int .i64 0, .int .i64 0, .bool false, .int .i64 0]) (t := 89) 6 hE k rfl (by rfl) (by rfl) rfl (by simp [go_sem, ↓IntWalk.iteOmega]) ?_
     clear O
     intro vb a44 w45 O hE e6 kp
     replace e28 := kt kp e28
     replace e29 := kt kp e29
     have q0 : w45.cell? ⟨vb, 0, none⟩ = some (.int .i64 0) := (OwnT.blk O 0 rfl).cell 0
     have z0 : w45.frozen? ⟨vb, 0, none⟩ = false := (OwnT.blk O 0 rfl).frozen 0
     have q1 : w45.cell? ⟨vb, 1, none⟩ = some (.int .i64 0) := (OwnT.blk O 0 rfl).cell 1
     have z1 : w45.frozen? ⟨vb, 1, none⟩ = false := (OwnT.blk O 0 rfl).frozen 1
     have q2 : w45.cell? ⟨vb, 2, none⟩ = some (.int .i64 0) := (OwnT.blk O 0 rfl).cell 2
     have z2 : w45.frozen? ⟨vb, 2, none⟩ = false := (OwnT.blk O 0 rfl).frozen 2
     have q3 : w45.cell? ⟨vb, 3, none⟩ = some (.bool false) := (OwnT.blk O 0 rfl).cell 3
     have z3 : w45.frozen? ⟨vb, 3, none⟩ = false := (OwnT.blk O 0 rfl).frozen 3
     have q4 : w45.cell? ⟨vb, 4, none⟩ = some (.int .i64 0) := (OwnT.blk O 0 rfl).cell 4
     have z4 : w45.frozen? ⟨vb, 4, none⟩ = false := (OwnT.blk O 0 rfl).frozen 4
     refine Z0i (w' := (((((w45.setCell ⟨vb, 0, none⟩ (.int .i64 i_)).setCell ⟨vb, 1, none⟩ (.int .i64 s)).setCell ⟨vb, 2, none⟩ (.int .i64 r)).setCell ⟨vb, 3, none⟩ (.bool p)).setCell ⟨vb, 4, none⟩ (.int .i64 f))) hE rfl rfl (by simp [go_sem, ↓IntWalk.iteOmega, ev e6, ev e28, q0, z0, q1, z1, q2, z2, q3, z3, q4, z4]) ?_
     replace O := OwnT.push 0 rfl ((((((OwnT.pull O 0 rfl).set 0 (.int .i64 i_)).set 1 (.int .i64 s)).set 2 (.int .i64 r)).set 3 (.bool p)).set 4 (.int .i64 f))
     clear q0 z0 q1 z1 q2 z2 q3 z3 q4 z4
     generalize (((((w45.setCell ⟨vb, 0, none⟩ (.int .i64 i_)).setCell ⟨vb, 1, none⟩ (.int .i64 s)).setCell ⟨vb, 2, none⟩ (.int .i64 r)).setCell ⟨vb, 3, none⟩ (.bool p)).setCell ⟨vb, 4, none⟩ (.int .i64 f)) = w46 at O ⊢
     replace O : OwnT _ _ ([tBlk vb 89 #[.int .i64 i_, .int .i64 s, .int .i64 r, .bool p, .int .i64 f], tRow 89 5 (.slice Bo E.length co) E.length (flatVl (E.map vlOf))]) w46 := O
     refine sd 7 hE k (Z00 rfl e29) ?_
     intro a47 hE e7 kp
     replace e6 := kt kp e6
     refine wpList_nil ?_
     replace e0 := hE.g e0
     replace e4 := hE.g e4
     replace e5 := hE.g e5
     replace k := k.env hE
     clear hE e21
     refine Z01 (wp_seq ?_)
     refine wp_seq ?_
     refine wp_region_lit ?_
     have hE := Env.refl a47 [30, 31]
     refine sm 30 hE k e7 ?_
     intro a48 hE e30 kp
     refine sd 31 hE k (Z1g rfl e30) ?_
     intro a49 hE e31 kp
     refine wpList_nil ?_
     replace e0 := hE.g e0
     replace e4 := hE.g e4
     replace e5 := hE.g e5
     replace e6 := hE.g e6
     replace k := k.env hE
     clear hE e7
     refine Z01 ?_
     refine Z05 e31 rfl ?_
     refine wp_skip ?_
     refine Z01 ?_
     replace O : OwnT _ _ ([tRow 89 5 (.slice Bo E.length co) E.length (flatVl (E.map vlOf)), tBlk vb 89 #[.int .i64 i_, .int .i64 s, .int .i64 r, .bool p, .int .i64 f]]) w46 := OwnT.pick O [1, 0] (by decide)
     refine wp_region_lit ?_
     have hE := Env.refl a49 [32, 33, 34, 35, 4]
     refine sd 32 hE k (Z03 rfl e4) ?_
     intro a50 hE e32 kp
     replace e4 := kt kp e4
     apply Z02 33 hE k rfl rfl rfl rfl
     case h =>
      have q0 : w46.cell? ⟨vb, 0, none⟩ = some (.int .i64 i_) := (OwnT.blk O 1 rfl).cell 0
      have q1 : w46.cell? ⟨vb, 1, none⟩ = some (.int .i64 s) := (OwnT.blk O 1 rfl).cell 1
      have q2 : w46.cell? ⟨vb, 2, none⟩ = some (.int .i64 r) := (OwnT.blk O 1 rfl).cell 2
      have q3 : w46.cell? ⟨vb, 3, none⟩ = some (.bool p) := (OwnT.blk O 1 rfl).cell 3
      have q4 : w46.cell? ⟨vb, 4, none⟩ = some (.int .i64 f) := (OwnT.blk O 1 rfl).cell 4
      simp [go_sem, ↓IntWalk.iteOmega, ev (hE.g e6), q0, q1, q2, q3, q4]
      with_reducible rfl
     intro a51 hE e33 kp
     replace e4 := kt kp e4
     replace e32 := kt kp e32
     refine Z1c (m := 1) (c := 1) O (cs := #[.int .i64 i_, .int .i64 s, .int .i64 r, .bool p, .int .i64 f]) (t := 89) 34 hE k rfl (by rfl) (by rfl) rfl (by simp [go_sem, ↓IntWalk.iteOmega, ev e33]) ?_
     clear O
     intro gn a52 w53 O hE e34 kp
     replace e4 := kt kp e4
     replace e32 := kt kp e32
     obtain ⟨gr, cr, w54, hrun, O⟩ := Z1y O elemVl (by decide) rfl (by intro u hu; simp at hu; rcases hu with rfl | rfl | rfl | rfl | rfl <;> rfl) (by unfold maxLen; omega) (by omega)
     apply Z1q 35 hE k rfl (by rfl) (by rfl) rfl
     case h => exact Z1d rfl e32 e34 (hrun _)
     clear hrun
     intro a55 hE e35 kp
     replace e4 := kt kp e4
     refine sd 4 hE k (Z00 rfl e35) ?_
     intro a56 hE e4 kp
     refine wpList_nil ?_
     replace e0 := hE.g e0
     replace e5 := hE.g e5
     replace k := k.env hE
     clear hE e6 e31
     refine Z0m ?_
     refine Z01 ?_
     refine wp_region_lit ?_
     have hE := Env.refl a56 [13, 14, 5]
     refine sd 13 hE k (Z03 rfl e5) ?_
     intro a57 hE e13 kp
     replace e5 := kt kp e5
     refine sd 14 hE k (Z13 rfl e13 rfl (by omega)) ?_
     intro a58 hE e14 kp
     replace e5 := kt kp e5
     refine sd 5 hE k (Z00 rfl e14) ?_
     intro a59 hE e5 kp
     refine wpList_nil ?_
     replace e0 := hE.g e0
     replace e4 := hE.g e4
     replace k := k.env hE
     clear hE
     refine Z01 ?_
     replace O : OwnT _ _ ([tRow 89 5 (.slice (some ⟨gr, 0, none⟩) ((E.length + 1)) cr) (E.length + 1) ((flatVl (E.map vlOf)) ++ [Value.int .i64 i_, Value.int .i64 s, Value.int .i64 r, Value.bool p, Value.int .i64 f])]) w54 := OwnT.pick O [0] (by decide)
     rw [show flatVl (E.map vlOf) ++ [Value.int .i64 i_, Value.int .i64 s, Value.int .i64 r, Value.bool p, Value.int .i64 f] = flatVl ((E ++ [(y1, y2)]).map vlOf) by rw [List.map_append, flatVl, flatVl, List.flatMap_append, ← hiq, ← hsq, ← hrq, ← hpq, ← hfq]; rfl, show E.length + 1 = (E ++ [(y1, y2)]).length by simp] at O
     rw [show E.length + 1 = (E ++ [(y1, y2)]).length by simp] at e4
     refine ⟨⟨k, e0, j + 1, E ++ [(y1, y2)], some ⟨gr, 0, none⟩, cr, e4, e5, by omega, htk.symm, by rw [List.all_append, hall]; simp [vlOkB, hg], O⟩, ?_⟩
     rw [e5, mj]; simp only [intOf]; omega
   · have hbad : Q.all vlOkB = false := by rw [Bool.eq_false_iff]; exact fun h => hg (of_decide_eq_true (List.all_eq_true.1 h (y1, y2) (by rw [← hQ]; unfold cutP; exact List.mem_filter.2 ⟨List.mem_of_getElem? hy, by simp [hin.1, hin.2]⟩)))
     refine wp_seq ?_
     refine wp_region_lit ?_
     have hE := Env.refl a34 [23, 24, 25, 26, 27, 22, 28, 29, 6, 7]
     refine sm 23 hE k e0 ?_
     intro a60 hE e23 kp
     refine sm 24 hE k e5 ?_
     intro a61 hE e24 kp
     replace e23 := kt kp e23
     apply Z02 25 hE k rfl rfl rfl rfl
     case h =>
      simp [go_sem, ↓IntWalk.iteOmega, ev e23, ev e24]
      with_reducible rfl
     intro a62 hE e25 kp
     apply Z02 26 hE k rfl rfl rfl rfl
     case h =>
      simp [go_sem, ↓IntWalk.iteOmega, ev e25, d0, d1]
      with_reducible rfl
     intro a63 hE e26 kp
     apply Z07 27 hE k rfl (by rfl) (by rfl) rfl
     case h =>
      simp [go_sem, ↓IntWalk.iteOmega, ev e26]
      with_reducible exact ⟨rfl, rfl⟩
     case hc => exact rread11_no (y1 : Int) (y2 : Int) _ (by omega) (by omega) (by omega) (by omega) hg
     rintro e w65 ⟨rfl, RE⟩
     replace O := OwnT.ext O RE
     refine ⟨_, rfl, ?_⟩
     intro a64 hE e27 kp
     refine sd 22 hE k (Z03 rfl e27) ?_
     intro a66 hE e22 kp
     apply Z02 28 hE k rfl rfl rfl rfl
     case h =>
      simp [go_sem, ↓IntWalk.iteOmega, ev e22]
      with_reducible rfl
     intro a67 hE e28 kp
     replace e22 := kt kp e22
     apply Z02 29 hE k rfl rfl rfl rfl
     case h =>
      simp [go_sem, ↓IntWalk.iteOmega, ev e22]
      with_reducible rfl
     intro a68 hE e29 kp
     replace e28 := kt kp e28
     refine Z0j O (cs := #[.int .i64 0, .int .i64 0, .int .i64 0, .bool false, .int .i64 0]) (t := 89) 6 hE k rfl (by rfl) (by rfl) rfl (by simp [go_sem, ↓IntWalk.iteOmega]) ?_
     clear O
     intro vb a69 w70 O hE e6 kp
     replace e28 := kt kp e28
     replace e29 := kt kp e29
     have q0 : w70.cell? ⟨vb, 0, none⟩ = some (.int .i64 0) := (OwnT.blk O 0 rfl).cell 0
     have z0 : w70.frozen? ⟨vb, 0, none⟩ = false := (OwnT.blk O 0 rfl).frozen 0
     have q1 : w70.cell? ⟨vb, 1, none⟩ = some (.int .i64 0) := (OwnT.blk O 0 rfl).cell 1
     have z1 : w70.frozen? ⟨vb, 1, none⟩ = false := (OwnT.blk O 0 rfl).frozen 1
     have q2 : w70.cell? ⟨vb, 2, none⟩ = some (.int .i64 0) := (OwnT.blk O 0 rfl).cell 2
     have z2 : w70.frozen? ⟨vb, 2, none⟩ = false := (OwnT.blk O 0 rfl).frozen 2
     have q3 : w70.cell? ⟨vb, 3, none⟩ = some (.bool false) := (OwnT.blk O 0 rfl).cell 3
     have z3 : w70.frozen? ⟨vb, 3, none⟩ = false := (OwnT.blk O 0 rfl).frozen 3
     have q4 : w70.cell? ⟨vb, 4, none⟩ = some (.int .i64 0) := (OwnT.blk O 0 rfl).cell 4
     have z4 : w70.frozen? ⟨vb, 4, none⟩ = false := (OwnT.blk O 0 rfl).frozen 4
     refine Z0i (w' := (((((w70.setCell ⟨vb, 0, none⟩ (.int .i64 0)).setCell ⟨vb, 1, none⟩ (.int .i64 0)).setCell ⟨vb, 2, none⟩ (.int .i64 0)).setCell ⟨vb, 3, none⟩ (.bool false)).setCell ⟨vb, 4, none⟩ (.int .i64 0))) hE rfl rfl (by simp [go_sem, ↓IntWalk.iteOmega, ev e6, ev e28, q0, z0, q1, z1, q2, z2, q3, z3, q4, z4]) ?_
     replace O := OwnT.push 0 rfl ((((((OwnT.pull O 0 rfl).set 0 (.int .i64 0)).set 1 (.int .i64 0)).set 2 (.int .i64 0)).set 3 (.bool false)).set 4 (.int .i64 0))
     clear q0 z0 q1 z1 q2 z2 q3 z3 q4 z4
     generalize (((((w70.setCell ⟨vb, 0, none⟩ (.int .i64 0)).setCell ⟨vb, 1, none⟩ (.int .i64 0)).setCell ⟨vb, 2, none⟩ (.int .i64 0)).setCell ⟨vb, 3, none⟩ (.bool false)).setCell ⟨vb, 4, none⟩ (.int .i64 0)) = w71 at O ⊢
     replace O : OwnT _ _ ([tBlk vb 89 #[.int .i64 0, .int .i64 0, .int .i64 0, .bool false, .int .i64 0], tRow 89 5 (.slice Bo E.length co) E.length (flatVl (E.map vlOf))]) w71 := O
     refine sd 7 hE k (Z00 rfl e29) ?_
     intro a72 hE e7 kp
     replace e6 := kt kp e6
     refine wpList_nil ?_
     replace e0 := hE.g e0
     replace e4 := hE.g e4
     replace e5 := hE.g e5
     replace k := k.env hE
     clear hE e21
     refine Z01 (wp_seq ?_)
     refine wp_seq ?_
     refine wp_region_lit ?_
     have hE := Env.refl a72 [30, 31]
     refine sm 30 hE k e7 ?_
     intro a73 hE e30 kp
     refine sd 31 hE k (Z1g rfl e30) ?_
     intro a74 hE e31 kp
     refine wpList_nil ?_
     replace e0 := hE.g e0
     replace e4 := hE.g e4
     replace e5 := hE.g e5
     replace e6 := hE.g e6
     replace k := k.env hE
     clear hE e7
     refine Z01 ?_
     refine Z08 e31 rfl ?_
     refine wp_seq ?_
     refine wp_region_lit ?_
     have hE := Env.refl a74 [2, 3]
     refine sd 2 hE k (Z00 rfl rfl) ?_
     intro a75 hE e2 kp
     refine sd 3 hE k (Z00 rfl rfl) ?_
     intro a76 hE e3 kp
     replace e2 := kt kp e2
     refine wpList_nil ?_
     replace k := k.env hE
     clear hE e0 e4 e5 e6 e31
     refine Z01 ?_
     refine wp_ret ?_
     refine Z09 ?_
     refine Z0r ?_
     refine Z09 ?_
     refine Z09 ?_
     refine Z0r ?_
     refine Z09 ?_
     refine Z1s rfl k e2 e3 ?_
     exact (.inr ⟨hbad, rfl, O.below⟩)
 · rw [List.take_of_length_le (by omega), hQ] at hEq
   subst hEq
   refine wp_seq ?_
   refine wp_seq ?_
   refine wp_region_lit ?_
   have hE := Env.refl a8 [9, 10, 11, 12]
   refine sm 9 hE k e5 ?_
   intro a77 hE e9 kp
   refine sm 10 hE k e0 ?_
   intro a78 hE e10 kp
   replace e9 := kt kp e9
   refine sd 11 hE k (Z0h Try.underlying29 rfl e10) ?_
   intro a79 hE e11 kp
   replace e9 := kt kp e9
   refine sd 12 hE k (Z06 (Z17 rfl e9 e11) (decide_eq_false (by omega))) ?_
   intro a80 hE e12 kp
   refine wpList_nil ?_
   replace e0 := hE.g e0
   replace e4 := hE.g e4
   replace e5 := hE.g e5
   replace k := k.env hE
   clear hE
   refine Z01 ?_
   refine Z05 e12 rfl ?_
   refine wp_exit ?_
   refine Z0u ?_
   refine Z0u ?_
   refine Z18 ?_
   refine Z01 (wp_seq ?_)
   refine wp_region_lit ?_
   have hE := Env.refl a80 [36, 2, 3]
   refine sm 36 hE k e4 ?_
   intro a81 hE e36 kp
   refine sd 2 hE k (Z00 rfl e36) ?_
   intro a82 hE e2 kp
   refine sd 3 hE k (Z00 rfl rfl) ?_
   intro a83 hE e3 kp
   replace e2 := kt kp e2
   refine wpList_nil ?_
   replace k := k.env hE
   clear hE e0 e4 e5 e12
   refine Z01 ?_
   refine wp_ret ?_
   refine Z1s rfl k e2 e3 ?_
   exact (.inl ⟨hall, _, rfl, O.rowBase, O.below⟩)
set_option maxRecDepth 100000 in
set_option maxHeartbeats 4000000 in
theorem volsList_core {A : Option Addr} {n cp : Nat} (xs : List DdV) (W0 : World) (hl : xs.length = n) (hrow : Row W0 A 8 dvC xs) (hwf : ∀ x ∈ xs, dvOk x) : Calls Try.prog 10 #[.slice A n cp] W0 fun e w' => e = .returned (.bool true) ∧ Below W0.heap.size W0 w' := by
 have O := OwnT.start W0
 refine Z0b Try.func10 rfl 176 rfl (by rfl) ?_
 intro a1 k hargs
 have e0 : a1.eval (.tmp 0) = .slice A n cp := hargs 0 _ rfl
 clear hargs
 refine wp_seq ?_
 refine wp_region_lit ?_
 have hE := Env.refl a1 [2]
 refine sd 2 hE k (Z00 rfl rfl) ?_
 intro a2 hE e2 kp
 refine wpList_nil ?_
 replace e0 := hE.g e0
 replace k := k.env hE
 clear hE e2
 refine Z01 (wp_seq ?_)
 refine wp_seq ?_
 refine wp_region_lit ?_
 have hE := Env.refl a2 [22, 23]
 apply Z07 22 hE k rfl (by rfl) (by rfl) rfl
 case h =>
  simp [go_sem, ↓IntWalk.iteOmega]
  with_reducible exact ⟨rfl, rfl⟩
 case hc => exact awake11 _
 rintro e w4 ⟨rfl, R⟩
 replace O := OwnT.ext O R
 refine ⟨_, rfl, ?_⟩
 intro a3 hE e22 kp
 refine sd 23 hE k (Z1g rfl e22) ?_
 intro a5 hE e23 kp
 refine wpList_nil ?_
 replace e0 := hE.g e0
 replace k := k.env hE
 clear hE
 refine Z01 ?_
 refine Z05 e23 rfl ?_
 refine wp_skip ?_
 refine Z01 (wp_seq ?_)
 refine wp_region_lit ?_
 have hE := Env.refl a5 [24, 25, 3]
 apply Z02 24 hE k rfl rfl rfl rfl
 case h =>
  simp [go_sem, ↓IntWalk.iteOmega]
  with_reducible rfl
 intro a6 hE e24 kp
 refine Z0j O (cs := #[.slice none 0 0, .int .i64 511]) (t := 28) 25 hE k rfl (by rfl) (by rfl) rfl (by simp [go_sem, ↓IntWalk.iteOmega, ev e24]) ?_
 clear O
 intro sb a7 w8 O hE e25 kp
 refine sd 3 hE k (Z00 rfl e25) ?_
 intro a9 hE e3 kp
 refine wpList_nil ?_
 replace e0 := hE.g e0
 replace k := k.env hE
 clear hE e23
 refine Z01 ?_
 replace O := sh_nil O
 refine wp_seq ?_
 refine wp_region_lit ?_
 have hE := Env.refl a9 [4]
 refine sd 4 hE k (Z00 rfl rfl) ?_
 intro a10 hE e4 kp
 refine wpList_nil ?_
 replace e0 := hE.g e0
 replace e3 := hE.g e3
 replace k := k.env hE
 clear hE
 refine Z01 (wp_seq ?_)
 refine wp_region_lit ?_
 have hE := Env.refl a10 [26, 5]
 refine Z1c (m := 0) (c := 0) O (cs := #[]) (t := 38) 26 hE k rfl (by rfl) (by rfl) rfl (by simp [go_sem, ↓IntWalk.iteOmega]) ?_
 clear O
 intro g5 a11 w12 O hE e26 kp
 refine sd 5 hE k (Z00 rfl e26) ?_
 intro a13 hE e5 kp
 refine wpList_nil ?_
 replace e0 := hE.g e0
 replace e3 := hE.g e3
 replace e4 := hE.g e4
 replace k := k.env hE
 clear hE
 refine Z01 ?_
 replace O := OwnT.asRowE (k := 2) O
 replace O : OwnT _ _ (tPs (.slice (some ⟨g5, 0, none⟩) ([] : List Pr).length 0) [] :: _) w12 := O
 replace O : OwnT _ _ ((tBlk sb 28 #[.slice none (([]).length) 0, .int .i64 511]) :: (tRow 125 2 (.slice none ([]).length 0) ([]).length (leafV ([]) ([]))) :: (tPool ([]) ([])) :: (tPs (.slice (some ⟨g5, 0, none⟩) (([] : List Pr)).length 0) (([] : List Pr))) :: []) w12 := OwnT.pickR (L := [_, _, _, _]) (R := []) O [1, 2, 3, 0] (by decide)
 refine wp_seq ?_
 refine wp_seq ?_
 refine wp_region_lit ?_
 have hE := Env.refl a13 [6]
 refine sd 6 hE k (Z00 rfl rfl) ?_
 intro a14 hE e6 kp
 refine wpList_nil ?_
 replace e0 := hE.g e0
 replace e3 := hE.g e3
 replace e4 := hE.g e4
 replace e5 := hE.g e5
 replace k := k.env hE
 clear hE
 refine Z01 ?_
 refine wp_block ?_
 refine wp_loop (fun a w => Fr 176 a ∧ a.eval (.tmp 0) = .slice A n cp ∧ a.eval (.tmp 3) = .pointer (some ⟨sb, 0, none⟩) ∧ ∃ (i rt : Nat) (P : List Pr) (Bu : Option Addr) (cu : Nat) (N : List Nd) (B : Option Addr) (cap : Nat) (vs : List Value), a.eval (.tmp 4) = .int .i64 ↑rt ∧ a.eval (.tmp 5) = .slice Bu P.length cu ∧ a.eval (.tmp 6) = .int .i64 ↑i ∧ i ≤ 40 ∧ N.length ≤ 5 * i ∧ Tre N rt (8 + i) P ∧ OwnT W0.heap.size W0 ((tBlk sb 28 #[.slice B N.length cap, .int .i64 511]) :: (tRow 125 2 (.slice B N.length cap) N.length (leafV vs N)) :: (tPool vs N) :: (tPs (.slice Bu P.length cu) P) :: []) w) (fun a w => 40 - (intOf (a.eval (.tmp 6))).toNat) ?_ ?_
 · exact ⟨k, e0, e3, 0, 0, [], _, _, [], none, 0, [], e4, e5, e6, Nat.zero_le _, Nat.zero_le _, (Tre.zero []).le (by omega), O⟩
 intro a15 w16 hI
 clear k e0 e3
 obtain ⟨k, e0, e3, h_⟩ := hI
 clear O e4 e5 e6
 obtain ⟨i, rt, P, Bu, cu, N, B, cap, vs, e4, e5, e6, hi, hN, hT, O⟩ := h_
 have mi := e6
 by_cases hlt1 : i < n
 rotate_left
 · skip
   refine wp_seq ?_
   refine wp_seq ?_
   refine wp_region_lit ?_
   have hE := Env.refl a15 [27, 28, 29, 30, 31, 32, 33, 34]
   refine sm 27 hE k e6 ?_
   intro a17 hE e27 kp
   refine sm 28 hE k e0 ?_
   intro a18 hE e28 kp
   replace e27 := kt kp e27
   refine sd 29 hE k (Z0h Try.underlying87 rfl e28) ?_
   intro a19 hE e29 kp
   replace e27 := kt kp e27
   refine sd 30 hE k (Z06 (Z17 rfl e27 e29) (decide_eq_false (by omega))) ?_
   intro a20 hE e30 kp
   refine sd 31 hE k (Z03 rfl e30) ?_
   intro a21 hE e31 kp
   refine Z0d 32 hE k rfl (by rfl) (by rfl) rfl rfl (.inl e31) ?_
   intro a22 hE e32 kp
   replace e31 := kt kp e31
   refine Z0d 33 hE k rfl (by rfl) (by rfl) rfl rfl (.inl e31) ?_
   intro a23 hE e33 kp
   replace e31 := kt kp e31
   refine sd 34 hE k (Z0a rfl e31 rfl) ?_
   intro a24 hE e34 kp
   refine wpList_nil ?_
   replace e0 := hE.g e0
   replace e3 := hE.g e3
   replace e4 := hE.g e4
   replace e5 := hE.g e5
   replace e6 := hE.g e6
   replace k := k.env hE
   clear hE
   refine Z01 ?_
   refine Z05 e34 rfl ?_
   refine wp_exit ?_
   refine Z0u ?_
   refine Z0u ?_
   refine Z18 ?_
   refine Z01 (wp_seq ?_)
   refine wp_region_lit ?_
   have hE := Env.refl a24 [2]
   refine sd 2 hE k (Z00 rfl rfl) ?_
   intro a25 hE e2 kp
   refine wpList_nil ?_
   replace k := k.env hE
   clear hE e0 e3 e4 e5 e6 e34
   refine Z01 ?_
   refine wp_ret ?_
   refine Z0w rfl k e2 ?_
   exact ⟨rfl, O.below⟩
 by_cases hlt2 : i < 40
 rotate_left
 · skip
   refine wp_seq ?_
   refine wp_seq ?_
   refine wp_region_lit ?_
   have hE := Env.refl a15 [27, 28, 29, 30, 31, 32, 33, 34]
   refine sm 27 hE k e6 ?_
   intro a26 hE e27 kp
   refine sm 28 hE k e0 ?_
   intro a27 hE e28 kp
   replace e27 := kt kp e27
   refine sd 29 hE k (Z0h Try.underlying87 rfl e28) ?_
   intro a28 hE e29 kp
   replace e27 := kt kp e27
   refine sd 30 hE k (Z06 (Z17 rfl e27 e29) (decide_eq_true (by omega))) ?_
   intro a29 hE e30 kp
   refine sd 31 hE k (Z03 rfl e30) ?_
   intro a30 hE e31 kp
   apply Z04 32 hE k rfl rfl rfl rfl rfl e31
   case h =>
    exact Z03 rfl (hE.g e6)
   intro a31 hE e32 kp
   replace e31 := kt kp e31
   apply Z04 33 hE k rfl rfl rfl rfl rfl e31
   case h =>
    exact Z06 (Z17 rfl e32 rfl) (decide_eq_false (by omega))
   intro a32 hE e33 kp
   replace e31 := kt kp e31
   refine sd 34 hE k (Z0g rfl e31 e33) ?_
   intro a33 hE e34 kp
   refine wpList_nil ?_
   replace e0 := hE.g e0
   replace e3 := hE.g e3
   replace e4 := hE.g e4
   replace e5 := hE.g e5
   replace e6 := hE.g e6
   replace k := k.env hE
   clear hE
   refine Z01 ?_
   refine Z05 e34 rfl ?_
   refine wp_exit ?_
   refine Z0u ?_
   refine Z0u ?_
   refine Z18 ?_
   refine Z01 (wp_seq ?_)
   refine wp_region_lit ?_
   have hE := Env.refl a33 [2]
   refine sd 2 hE k (Z00 rfl rfl) ?_
   intro a34 hE e2 kp
   refine wpList_nil ?_
   replace k := k.env hE
   clear hE e0 e3 e4 e5 e6 e34
   refine Z01 ?_
   refine wp_ret ?_
   refine Z0w rfl k e2 ?_
   exact ⟨rfl, O.below⟩
 have hltI : (i : Int) < (n : Int) := by omega
 obtain ⟨x, hx⟩ : ∃ x, xs[i]? = some x := ⟨_, List.getElem?_eq_getElem (by omega)⟩
 have hxw := hwf x (List.mem_of_getElem? hx)
 obtain ⟨b, o, rfl, _, hc⟩ := (hrow.below O.below) i x hx
 obtain ⟨kd, ⟨i_, s, r, p, f⟩, pk, pv⟩ := x
 have hpk : pk < 18446744073709551616 := hxw.1
 have hpv : pv < 18446744073709551616 := hxw.2
 have d0 : w16.cell? ⟨b, o + i * 8, none⟩ = some (.int .i64 kd) := by have := hc 0 _ rfl; simpa using this
 have d1 := hc 1 _ rfl
 have d2 := hc 2 _ rfl
 have d3 := hc 3 _ rfl
 have d4 := hc 4 _ rfl
 have d5 := hc 5 _ rfl
 have d6 := hc 6 _ rfl
 have d7 := hc 7 _ rfl
 have hPl := hT.len
 have hup := hT.up
 clear hc hxw

 refine wp_seq ?_
 refine wp_seq ?_
 refine wp_region_lit ?_
 have hE := Env.refl a15 [27, 28, 29, 30, 31, 32, 33, 34]
 refine sm 27 hE k e6 ?_
 intro a35 hE e27 kp
 refine sm 28 hE k e0 ?_
 intro a36 hE e28 kp
 replace e27 := kt kp e27
 refine sd 29 hE k (Z0h Try.underlying87 rfl e28) ?_
 intro a37 hE e29 kp
 replace e27 := kt kp e27
 refine sd 30 hE k (Z06 (Z17 rfl e27 e29) (decide_eq_true (by omega))) ?_
 intro a38 hE e30 kp
 refine sd 31 hE k (Z03 rfl e30) ?_
 intro a39 hE e31 kp
 apply Z04 32 hE k rfl rfl rfl rfl rfl e31
 case h =>
  exact Z03 rfl (hE.g e6)
 intro a40 hE e32 kp
 replace e31 := kt kp e31
 apply Z04 33 hE k rfl rfl rfl rfl rfl e31
 case h =>
  exact Z06 (Z17 rfl e32 rfl) (decide_eq_true (by omega))
 intro a41 hE e33 kp
 replace e31 := kt kp e31
 refine sd 34 hE k (Z0g rfl e31 e33) ?_
 intro a42 hE e34 kp
 refine wpList_nil ?_
 replace e0 := hE.g e0
 replace e3 := hE.g e3
 replace e4 := hE.g e4
 replace e5 := hE.g e5
 replace e6 := hE.g e6
 replace k := k.env hE
 clear hE
 refine Z01 ?_
 refine Z08 e34 rfl ?_
 refine wp_skip ?_
 refine Z01 (wp_seq ?_)
 refine wp_block ?_
 refine wp_seq ?_
 refine wp_region_lit ?_
 have hE := Env.refl a42 [37, 38, 39, 40, 7]
 refine sm 37 hE k e0 ?_
 intro a43 hE e37 kp
 refine sm 38 hE k e6 ?_
 intro a44 hE e38 kp
 replace e37 := kt kp e37
 apply Z02 39 hE k rfl rfl rfl rfl
 case h =>
  simp [go_sem, ↓IntWalk.iteOmega, ev e37, ev e38]
  with_reducible rfl
 intro a45 hE e39 kp
 apply Z02 40 hE k rfl rfl rfl rfl
 case h =>
  simp [go_sem, ↓IntWalk.iteOmega, ev e39, d0, d1, d2, d3, d4, d5, d6, d7]
  with_reducible rfl
 intro a46 hE e40 kp
 refine Z0j O (cs := #[.int .i64 0, .int .i64 0, .int .i64 0, .int .i64 0, .bool false, .int .i64 0, .int .u64 0, .int .u64 0]) (t := 91) 7 hE k rfl (by rfl) (by rfl) rfl (by simp [go_sem, ↓IntWalk.iteOmega]) ?_
 clear O
 intro xb a47 w48 O hE e7 kp
 replace e40 := kt kp e40
 have q0 : w48.cell? ⟨xb, 0, none⟩ = some (.int .i64 0) := (OwnT.blk O 0 rfl).cell 0
 have z0 : w48.frozen? ⟨xb, 0, none⟩ = false := (OwnT.blk O 0 rfl).frozen 0
 have q1 : w48.cell? ⟨xb, 1, none⟩ = some (.int .i64 0) := (OwnT.blk O 0 rfl).cell 1
 have z1 : w48.frozen? ⟨xb, 1, none⟩ = false := (OwnT.blk O 0 rfl).frozen 1
 have q2 : w48.cell? ⟨xb, 2, none⟩ = some (.int .i64 0) := (OwnT.blk O 0 rfl).cell 2
 have z2 : w48.frozen? ⟨xb, 2, none⟩ = false := (OwnT.blk O 0 rfl).frozen 2
 have q3 : w48.cell? ⟨xb, 3, none⟩ = some (.int .i64 0) := (OwnT.blk O 0 rfl).cell 3
 have z3 : w48.frozen? ⟨xb, 3, none⟩ = false := (OwnT.blk O 0 rfl).frozen 3
 have q4 : w48.cell? ⟨xb, 4, none⟩ = some (.bool false) := (OwnT.blk O 0 rfl).cell 4
 have z4 : w48.frozen? ⟨xb, 4, none⟩ = false := (OwnT.blk O 0 rfl).frozen 4
 have q5 : w48.cell? ⟨xb, 5, none⟩ = some (.int .i64 0) := (OwnT.blk O 0 rfl).cell 5
 have z5 : w48.frozen? ⟨xb, 5, none⟩ = false := (OwnT.blk O 0 rfl).frozen 5
 have q6 : w48.cell? ⟨xb, 6, none⟩ = some (.int .u64 0) := (OwnT.blk O 0 rfl).cell 6
 have z6 : w48.frozen? ⟨xb, 6, none⟩ = false := (OwnT.blk O 0 rfl).frozen 6
 have q7 : w48.cell? ⟨xb, 7, none⟩ = some (.int .u64 0) := (OwnT.blk O 0 rfl).cell 7
 have z7 : w48.frozen? ⟨xb, 7, none⟩ = false := (OwnT.blk O 0 rfl).frozen 7
 refine Z0i (w' := ((((((((w48.setCell ⟨xb, 0, none⟩ (.int .i64 kd)).setCell ⟨xb, 1, none⟩ (.int .i64 i_)).setCell ⟨xb, 2, none⟩ (.int .i64 s)).setCell ⟨xb, 3, none⟩ (.int .i64 r)).setCell ⟨xb, 4, none⟩ (.bool p)).setCell ⟨xb, 5, none⟩ (.int .i64 f)).setCell ⟨xb, 6, none⟩ (.int .u64 ↑pk)).setCell ⟨xb, 7, none⟩ (.int .u64 ↑pv))) hE rfl rfl (by simp [go_sem, ↓IntWalk.iteOmega, ev e7, ev e40, q0, z0, q1, z1, q2, z2, q3, z3, q4, z4, q5, z5, q6, z6, q7, z7]) ?_
 replace O := OwnT.push 0 rfl (((((((((OwnT.pull O 0 rfl).set 0 (.int .i64 kd)).set 1 (.int .i64 i_)).set 2 (.int .i64 s)).set 3 (.int .i64 r)).set 4 (.bool p)).set 5 (.int .i64 f)).set 6 (.int .u64 ↑pk)).set 7 (.int .u64 ↑pv))
 clear q0 z0 q1 z1 q2 z2 q3 z3 q4 z4 q5 z5 q6 z6 q7 z7
 generalize ((((((((w48.setCell ⟨xb, 0, none⟩ (.int .i64 kd)).setCell ⟨xb, 1, none⟩ (.int .i64 i_)).setCell ⟨xb, 2, none⟩ (.int .i64 s)).setCell ⟨xb, 3, none⟩ (.int .i64 r)).setCell ⟨xb, 4, none⟩ (.bool p)).setCell ⟨xb, 5, none⟩ (.int .i64 f)).setCell ⟨xb, 6, none⟩ (.int .u64 ↑pk)).setCell ⟨xb, 7, none⟩ (.int .u64 ↑pv)) = w49 at O ⊢
 replace O : OwnT _ _ ((tBlk xb 91 #[.int .i64 kd, .int .i64 i_, .int .i64 s, .int .i64 r, .bool p, .int .i64 f, .int .u64 ↑pk, .int .u64 ↑pv]) :: (tBlk sb 28 #[.slice B N.length cap, .int .i64 511]) :: (tRow 125 2 (.slice B N.length cap) N.length (leafV vs N)) :: (tPool vs N) :: (tPs (.slice Bu P.length cu) P) :: []) w49 := O
 refine wpList_nil ?_
 replace e0 := hE.g e0
 replace e3 := hE.g e3
 replace e4 := hE.g e4
 replace e5 := hE.g e5
 replace e6 := hE.g e6
 replace k := k.env hE
 clear hE e34 e40
 refine Z01 ?_
 clear d0 d1 d2 d3 d4 d5 d6 d7
 replace O : OwnT _ _ ((tBlk sb 28 #[.slice B N.length cap, .int .i64 511]) :: (tRow 125 2 (.slice B N.length cap) N.length (leafV vs N)) :: (tPool vs N) :: (tPs (.slice Bu P.length cu) P) :: (tBlk xb 91 #[.int .i64 kd, .int .i64 i_, .int .i64 s, .int .i64 r, .bool p, .int .i64 f, .int .u64 ↑pk, .int .u64 ↑pv]) :: []) w49 := OwnT.pickR (L := [_, _, _, _, _]) (R := []) O [1, 2, 3, 4, 0] (by decide)
 refine wp_cutF (fun a w => Fr 176 a ∧ a.eval (.tmp 0) = .slice (some ⟨b, o, none⟩) n cp ∧ a.eval (.tmp 3) = .pointer (some ⟨sb, 0, none⟩) ∧ a.eval (.tmp 6) = .int .i64 ↑i ∧ ∃ (rt : Nat) (P : List Pr) (Bu : Option Addr) (cu : Nat) (N : List Nd) (B : Option Addr) (cap : Nat) (vs : List Value), a.eval (.tmp 4) = .int .i64 ↑rt ∧ a.eval (.tmp 5) = .slice Bu P.length cu ∧ N.length ≤ 5 * (i + 1) ∧ Tre N rt (8 + i + 1) P ∧ OwnT W0.heap.size W0 ((tBlk sb 28 #[.slice B N.length cap, .int .i64 511]) :: (tRow 125 2 (.slice B N.length cap) N.length (leafV vs N)) :: (tPool vs N) :: (tPs (.slice Bu P.length cu) P) :: []) w) ?_ ?_
 · skip
   by_cases hk12 : kd = 1 ∨ kd = 2
   · skip
     rcases hk12 with hk1 | hk2
     · skip
       by_cases hg : GoodVol i_ s r f
       · skip
         refine wp_seq ?_
         refine wp_region_lit ?_
         have hE := Env.refl a47 [41, 42]
         apply Z02 41 hE k rfl rfl rfl rfl
         case h =>
          simp [go_sem, ↓IntWalk.iteOmega, ev (hE.g e7)]
          with_reducible rfl
         intro a50 hE e41 kp
         apply Z02 42 hE k rfl rfl rfl rfl
         case h =>
          have q0 : w49.cell? ⟨xb, 0, none⟩ = some (.int .i64 kd) := (OwnT.blk O 4 rfl).cell 0
          simp [go_sem, ↓IntWalk.iteOmega, ev e41, q0]
          with_reducible rfl
         intro a51 hE e42 kp
         refine wpList_nil ?_
         replace e0 := hE.g e0
         replace e3 := hE.g e3
         replace e4 := hE.g e4
         replace e5 := hE.g e5
         replace e6 := hE.g e6
         replace e7 := hE.g e7
         replace k := k.env hE
         clear hE
         refine Z01 ?_
         refine wp_block ?_
         refine wp_seq ?_
         refine wp_seq ?_
         refine wp_region_lit ?_
         have hE := Env.refl a51 [66, 65]
         refine sd 66 hE k (Z06 (Z0q rfl (hE.g e42) rfl) (decide_eq_true hk1)) ?_
         intro a52 hE e66 kp
         refine sd 65 hE k (Z00 rfl e66) ?_
         intro a53 hE e65 kp
         refine wpList_nil ?_
         replace e0 := hE.g e0
         replace e3 := hE.g e3
         replace e4 := hE.g e4
         replace e5 := hE.g e5
         replace e6 := hE.g e6
         replace e7 := hE.g e7
         replace e42 := hE.g e42
         replace k := k.env hE
         clear hE
         refine Z01 ?_
         refine Z08 e65 rfl ?_
         refine wp_skip ?_
         refine Z01 ?_
         refine Z08 e65 rfl ?_
         refine wp_seq ?_
         refine wp_region_lit ?_
         have hE := Env.refl a53 [69, 70, 71, 72, 73, 74, 68, 75, 76, 8, 9]
         refine sm 69 hE k e3 ?_
         intro a54 hE e69 kp
         apply Z02 70 hE k rfl rfl rfl rfl
         case h =>
          simp [go_sem, ↓IntWalk.iteOmega, ev e69]
          with_reducible rfl
         intro a55 hE e70 kp
         refine sm 71 hE k e4 ?_
         intro a56 hE e71 kp
         replace e70 := kt kp e70
         apply Z02 72 hE k rfl rfl rfl rfl
         case h =>
          simp [go_sem, ↓IntWalk.iteOmega, ev (hE.g e7)]
          with_reducible rfl
         intro a57 hE e72 kp
         replace e70 := kt kp e70
         replace e71 := kt kp e71
         apply Z02 73 hE k rfl rfl rfl rfl
         case h =>
          have q0 : w49.cell? ⟨xb, 1, none⟩ = some (.int .i64 i_) := (OwnT.blk O 4 rfl).cell 1
          have q1 : w49.cell? ⟨xb, 2, none⟩ = some (.int .i64 s) := (OwnT.blk O 4 rfl).cell 2
          have q2 : w49.cell? ⟨xb, 3, none⟩ = some (.int .i64 r) := (OwnT.blk O 4 rfl).cell 3
          have q3 : w49.cell? ⟨xb, 4, none⟩ = some (.bool p) := (OwnT.blk O 4 rfl).cell 4
          have q4 : w49.cell? ⟨xb, 5, none⟩ = some (.int .i64 f) := (OwnT.blk O 4 rfl).cell 5
          simp [go_sem, ↓IntWalk.iteOmega, ev e72, q0, q1, q2, q3, q4]
          with_reducible rfl
         intro a58 hE e73 kp
         replace e70 := kt kp e70
         replace e71 := kt kp e71
         apply Z07 74 hE k rfl (by rfl) (by rfl) rfl
         case h =>
          simp [go_sem, ↓IntWalk.iteOmega, ev e70, ev e71, ev e73]
          with_reducible exact ⟨rfl, rfl⟩
         case hc => exact vPut (R := _ :: _ :: []) i_ s r f p _ O hg hT.norm (by split <;> omega) (by omega)
         clear O
         rintro e w60 ⟨N2, r2, er, B2, cap2, vs2, rfl, O, hPL⟩
         refine ⟨_, rfl, ?_⟩
         intro a59 hE e74 kp
         refine sd 68 hE k (Z03 rfl e74) ?_
         intro a61 hE e68 kp
         apply Z02 75 hE k rfl rfl rfl rfl
         case h =>
          simp [go_sem, ↓IntWalk.iteOmega, ev e68]
          with_reducible rfl
         intro a62 hE e75 kp
         replace e68 := kt kp e68
         apply Z02 76 hE k rfl rfl rfl rfl
         case h =>
          simp [go_sem, ↓IntWalk.iteOmega, ev e68]
          with_reducible rfl
         intro a63 hE e76 kp
         replace e75 := kt kp e75
         refine sd 8 hE k (Z00 rfl e75) ?_
         intro a64 hE e8 kp
         replace e76 := kt kp e76
         refine sd 9 hE k (Z00 rfl e76) ?_
         intro a65 hE e9 kp
         replace e8 := kt kp e8
         refine wpList_nil ?_
         replace e0 := hE.g e0
         replace e3 := hE.g e3
         replace e4 := hE.g e4
         replace e5 := hE.g e5
         replace e6 := hE.g e6
         replace e7 := hE.g e7
         replace k := k.env hE
         clear hE e42 e65
         refine Z01 (wp_seq ?_)
         refine wp_seq ?_
         refine wp_region_lit ?_
         have hE := Env.refl a65 [77, 78, 79, 80]
         apply Z02 77 hE k rfl rfl rfl rfl
         case h =>
          simp [go_sem, ↓IntWalk.iteOmega, ev (hE.g e7)]
          with_reducible rfl
         intro a66 hE e77 kp
         apply Z02 78 hE k rfl rfl rfl rfl
         case h =>
          have q0 : w60.cell? ⟨xb, 1, none⟩ = some (.int .i64 i_) := (OwnT.blk O 4 rfl).cell 1
          have q1 : w60.cell? ⟨xb, 2, none⟩ = some (.int .i64 s) := (OwnT.blk O 4 rfl).cell 2
          have q2 : w60.cell? ⟨xb, 3, none⟩ = some (.int .i64 r) := (OwnT.blk O 4 rfl).cell 3
          have q3 : w60.cell? ⟨xb, 4, none⟩ = some (.bool p) := (OwnT.blk O 4 rfl).cell 4
          have q4 : w60.cell? ⟨xb, 5, none⟩ = some (.int .i64 f) := (OwnT.blk O 4 rfl).cell 5
          simp [go_sem, ↓IntWalk.iteOmega, ev e77, q0, q1, q2, q3, q4]
          with_reducible rfl
         intro a67 hE e78 kp
         apply Z07 79 hE k rfl (by rfl) (by rfl) rfl
         case h =>
          simp [go_sem, ↓IntWalk.iteOmega, ev e78]
          with_reducible exact ⟨rfl, rfl⟩
         case hc => exact Z24 i_ s r f p _ hg
         rintro e w69 ⟨rfl, RE⟩
         replace O := OwnT.ext O RE
         refine ⟨_, rfl, ?_⟩
         intro a68 hE e79 kp
         refine sd 80 hE k (Z1g rfl e79) ?_
         intro a70 hE e80 kp
         refine wpList_nil ?_
         replace e0 := hE.g e0
         replace e3 := hE.g e3
         replace e4 := hE.g e4
         replace e5 := hE.g e5
         replace e6 := hE.g e6
         replace e7 := hE.g e7
         replace e8 := hE.g e8
         replace e9 := hE.g e9
         replace k := k.env hE
         clear hE
         refine Z01 ?_
         refine Z05 e80 rfl ?_
         refine wp_skip ?_
         refine Z01 ?_
         obtain ⟨ky, hky⟩ : ∃ k, vlKey i_ = k := ⟨_, rfl⟩
         obtain ⟨vl, hvl⟩ : ∃ v, vlVal s r p f = v := ⟨_, rfl⟩
         rw [hky, hvl] at hPL
         obtain ⟨⟨M, rfl, hM⟩, hPL⟩ := hPL
         have hk2 : 4294967296 + i_ = (ky : Int) := by rw [← hky]; exact vlKey_eq hg
         have hv2 : volPair s r p f = (vl : Int) := by rw [← hvl]; exact vlVal_eq p hg
         rcases hPL with ⟨rfl, rfl, -⟩ | ⟨rfl, r', rfl, hr1, hr2, hT2⟩

         · skip
           refine wp_seq ?_
           refine wp_seq ?_
           refine wp_region_lit ?_
           have hE := Env.refl a70 [87, 88]
           refine sm 87 hE k e9 ?_
           intro a71 hE e87 kp
           refine sd 88 hE k (Z06 (Z0q rfl e87 rfl) (decide_eq_true rfl)) ?_
           intro a72 hE e88 kp
           refine wpList_nil ?_
           replace e0 := hE.g e0
           replace e3 := hE.g e3
           replace e5 := hE.g e5
           replace e6 := hE.g e6
           replace e7 := hE.g e7
           replace e8 := hE.g e8
           replace e9 := hE.g e9
           replace k := k.env hE
           clear hE e4 e80
           refine Z01 ?_
           refine Z08 e88 rfl ?_
           refine wp_seq ?_
           refine wp_region_lit ?_
           have hE := Env.refl a72 [2]
           refine sd 2 hE k (Z00 rfl rfl) ?_
           intro a73 hE e2 kp
           refine wpList_nil ?_
           replace k := k.env hE
           clear hE e0 e3 e5 e6 e7 e8 e9 e88
           refine Z01 ?_
           refine wp_ret ?_
           refine Z09 ?_
           refine Z0r ?_
           refine Z09 ?_
           refine Z0r ?_
           refine Z09 ?_
           refine Z09 ?_
           refine Z0r ?_
           refine Z09 ?_
           refine Z0w rfl k e2 ?_
           exact ⟨rfl, O.below⟩
         · skip
           obtain ⟨_, _, eu, -, -, hur, -⟩ := Z0n (OwnT.get O 3 rfl : (tPs (.slice Bu P.length cu) P).holds _); injection eu with eu1 _ eu2; subst eu1 eu2
           refine wp_seq ?_
           refine wp_seq ?_
           refine wp_region_lit ?_
           have hE := Env.refl a70 [87, 88]
           refine sm 87 hE k e9 ?_
           intro a74 hE e87 kp
           refine sd 88 hE k (Z06 (Z0q rfl e87 rfl) (decide_eq_false (by omega))) ?_
           intro a75 hE e88 kp
           refine wpList_nil ?_
           replace e0 := hE.g e0
           replace e3 := hE.g e3
           replace e5 := hE.g e5
           replace e6 := hE.g e6
           replace e7 := hE.g e7
           replace e8 := hE.g e8
           replace e9 := hE.g e9
           replace k := k.env hE
           clear hE e4 e80
           refine Z01 ?_
           refine Z05 e88 rfl ?_
           refine wp_skip ?_
           refine Z01 (wp_seq ?_)
           refine wp_seq ?_
           refine wp_region_lit ?_
           have hE := Env.refl a75 [89, 90]
           refine sm 89 hE k e9 ?_
           intro a76 hE e89 kp
           refine sd 90 hE k (Z06 (Z0s rfl e89 rfl) (decide_eq_false (by omega))) ?_
           intro a77 hE e90 kp
           refine wpList_nil ?_
           replace e0 := hE.g e0
           replace e3 := hE.g e3
           replace e5 := hE.g e5
           replace e6 := hE.g e6
           replace e7 := hE.g e7
           replace e8 := hE.g e8
           replace k := k.env hE
           clear hE e9 e88
           refine Z01 ?_
           refine Z05 e90 rfl ?_
           refine wp_skip ?_
           refine Z01 (wp_seq ?_)
           refine wp_region_lit ?_
           have hE := Env.refl a77 [91, 4]
           refine sm 91 hE k e8 ?_
           intro a78 hE e91 kp
           refine sd 4 hE k (Z00 rfl e91) ?_
           intro a79 hE e4 kp
           refine wpList_nil ?_
           replace e0 := hE.g e0
           replace e3 := hE.g e3
           replace e5 := hE.g e5
           replace e6 := hE.g e6
           replace e7 := hE.g e7
           replace k := k.env hE
           clear hE e8 e90
           refine Z01 ?_
           refine wp_region_lit ?_
           have hE := Env.refl a79 [92, 93, 94, 95, 96, 5]
           refine sd 92 hE k (Z03 rfl e5) ?_
           intro a80 hE e92 kp
           replace e5 := kt kp e5
           apply Z02 93 hE k rfl rfl rfl rfl
           case h =>
            simp [go_sem, ↓IntWalk.iteOmega, ev (hE.g e7)]
            with_reducible rfl
           intro a81 hE e93 kp
           replace e5 := kt kp e5
           replace e92 := kt kp e92
           apply Z02 94 hE k rfl rfl rfl rfl
           case h =>
            have q0 : w69.cell? ⟨xb, 1, none⟩ = some (.int .i64 i_) := (OwnT.blk O 4 rfl).cell 1
            have q1 : w69.cell? ⟨xb, 2, none⟩ = some (.int .i64 s) := (OwnT.blk O 4 rfl).cell 2
            have q2 : w69.cell? ⟨xb, 3, none⟩ = some (.int .i64 r) := (OwnT.blk O 4 rfl).cell 3
            have q3 : w69.cell? ⟨xb, 4, none⟩ = some (.bool p) := (OwnT.blk O 4 rfl).cell 4
            have q4 : w69.cell? ⟨xb, 5, none⟩ = some (.int .i64 f) := (OwnT.blk O 4 rfl).cell 5
            simp [go_sem, ↓IntWalk.iteOmega, ev e93, q0, q1, q2, q3, q4]
            with_reducible rfl
           intro a82 hE e94 kp
           replace e5 := kt kp e5
           replace e92 := kt kp e92
           apply Z07 95 hE k rfl (by rfl) (by rfl) rfl
           case h =>
            simp [go_sem, ↓IntWalk.iteOmega, ev e94]
            with_reducible exact ⟨rfl, rfl⟩
           case hc => exact Z28 i_ s r f p _ hg
           rintro e w84 ⟨rfl, RE⟩
           replace hur := hur.below RE
           replace O := OwnT.ext O RE
           refine ⟨.agg #[.int .u64 ↑ky, .int .u64 ↑vl], by rw [hk2, hv2], ?_⟩
           intro a83 hE e95 kp
           replace e5 := kt kp e5
           replace e92 := kt kp e92
           apply Z07 96 hE k rfl (by rfl) (by rfl) rfl
           case h =>
            simp [go_sem, ↓IntWalk.iteOmega, ev e92, ev e95]
            with_reducible exact ⟨rfl, rfl⟩
           case hc => exact rput8 (x := (ky, vl)) P _ rfl hur (by omega) hup
           rintro e w86 ⟨v', rfl, hv, RE⟩
           replace O := O.newRow RE hv
           obtain ⟨Bu2, cu2, rfl⟩ := Z1r (OwnT.t0 O : World.ownsRow _ 0 38 2 v' (insP (ky, vl) P).length _)
           refine ⟨_, rfl, ?_⟩
           intro a85 hE e96 kp
           replace e5 := kt kp e5
           refine sd 5 hE k (Z00 rfl e96) ?_
           intro a87 hE e5 kp
           refine wpList_nil ?_
           replace e0 := hE.g e0
           replace e3 := hE.g e3
           replace e4 := hE.g e4
           replace e6 := hE.g e6
           replace k := k.env hE
           clear hE e7
           refine Z0m ?_
           refine Z01 ?_
           exact ⟨k, e0, e3, e6, r', insP (ky, vl) P, Bu2, cu2, N ++ M, B2, cap2, vs2, e4, e5, by rw [List.length_append]; omega, hT2.next (by omega), (OwnT.pickR (L := [_, _, _, _, _, _]) (R := []) O [1, 2, 3, 0] (by decide))⟩
       · skip
         refine wp_seq ?_
         refine wp_region_lit ?_
         have hE := Env.refl a47 [41, 42]
         apply Z02 41 hE k rfl rfl rfl rfl
         case h =>
          simp [go_sem, ↓IntWalk.iteOmega, ev (hE.g e7)]
          with_reducible rfl
         intro a88 hE e41 kp
         apply Z02 42 hE k rfl rfl rfl rfl
         case h =>
          have q0 : w49.cell? ⟨xb, 0, none⟩ = some (.int .i64 kd) := (OwnT.blk O 4 rfl).cell 0
          simp [go_sem, ↓IntWalk.iteOmega, ev e41, q0]
          with_reducible rfl
         intro a89 hE e42 kp
         refine wpList_nil ?_
         replace e0 := hE.g e0
         replace e3 := hE.g e3
         replace e4 := hE.g e4
         replace e5 := hE.g e5
         replace e6 := hE.g e6
         replace e7 := hE.g e7
         replace k := k.env hE
         clear hE
         refine Z01 ?_
         refine wp_block ?_
         refine wp_seq ?_
         refine wp_seq ?_
         refine wp_region_lit ?_
         have hE := Env.refl a89 [66, 65]
         refine sd 66 hE k (Z06 (Z0q rfl (hE.g e42) rfl) (decide_eq_true hk1)) ?_
         intro a90 hE e66 kp
         refine sd 65 hE k (Z00 rfl e66) ?_
         intro a91 hE e65 kp
         refine wpList_nil ?_
         replace e0 := hE.g e0
         replace e3 := hE.g e3
         replace e4 := hE.g e4
         replace e5 := hE.g e5
         replace e6 := hE.g e6
         replace e7 := hE.g e7
         replace e42 := hE.g e42
         replace k := k.env hE
         clear hE
         refine Z01 ?_
         refine Z08 e65 rfl ?_
         refine wp_skip ?_
         refine Z01 ?_
         refine Z08 e65 rfl ?_
         refine wp_seq ?_
         refine wp_region_lit ?_
         have hE := Env.refl a91 [69, 70, 71, 72, 73, 74, 68, 75, 76, 8, 9]
         refine sm 69 hE k e3 ?_
         intro a92 hE e69 kp
         apply Z02 70 hE k rfl rfl rfl rfl
         case h =>
          simp [go_sem, ↓IntWalk.iteOmega, ev e69]
          with_reducible rfl
         intro a93 hE e70 kp
         refine sm 71 hE k e4 ?_
         intro a94 hE e71 kp
         replace e70 := kt kp e70
         apply Z02 72 hE k rfl rfl rfl rfl
         case h =>
          simp [go_sem, ↓IntWalk.iteOmega, ev (hE.g e7)]
          with_reducible rfl
         intro a95 hE e72 kp
         replace e70 := kt kp e70
         replace e71 := kt kp e71
         apply Z02 73 hE k rfl rfl rfl rfl
         case h =>
          have q0 : w49.cell? ⟨xb, 1, none⟩ = some (.int .i64 i_) := (OwnT.blk O 4 rfl).cell 1
          have q1 : w49.cell? ⟨xb, 2, none⟩ = some (.int .i64 s) := (OwnT.blk O 4 rfl).cell 2
          have q2 : w49.cell? ⟨xb, 3, none⟩ = some (.int .i64 r) := (OwnT.blk O 4 rfl).cell 3
          have q3 : w49.cell? ⟨xb, 4, none⟩ = some (.bool p) := (OwnT.blk O 4 rfl).cell 4
          have q4 : w49.cell? ⟨xb, 5, none⟩ = some (.int .i64 f) := (OwnT.blk O 4 rfl).cell 5
          simp [go_sem, ↓IntWalk.iteOmega, ev e72, q0, q1, q2, q3, q4]
          with_reducible rfl
         intro a96 hE e73 kp
         replace e70 := kt kp e70
         replace e71 := kt kp e71
         apply Z07 74 hE k rfl (by rfl) (by rfl) rfl
         case h =>
          simp [go_sem, ↓IntWalk.iteOmega, ev e70, ev e71, ev e73]
          with_reducible exact ⟨rfl, rfl⟩
         case hc => exact vPut_bad i_ s r f p _ hg
         rintro e w98 ⟨rfl, RE⟩
         replace O := OwnT.ext O RE
         refine ⟨_, rfl, ?_⟩
         intro a97 hE e74 kp
         refine sd 68 hE k (Z03 rfl e74) ?_
         intro a99 hE e68 kp
         apply Z02 75 hE k rfl rfl rfl rfl
         case h =>
          simp [go_sem, ↓IntWalk.iteOmega, ev e68]
          with_reducible rfl
         intro a100 hE e75 kp
         replace e68 := kt kp e68
         apply Z02 76 hE k rfl rfl rfl rfl
         case h =>
          simp [go_sem, ↓IntWalk.iteOmega, ev e68]
          with_reducible rfl
         intro a101 hE e76 kp
         replace e75 := kt kp e75
         refine sd 8 hE k (Z00 rfl e75) ?_
         intro a102 hE e8 kp
         replace e76 := kt kp e76
         refine sd 9 hE k (Z00 rfl e76) ?_
         intro a103 hE e9 kp
         replace e8 := kt kp e8
         refine wpList_nil ?_
         replace e0 := hE.g e0
         replace e3 := hE.g e3
         replace e4 := hE.g e4
         replace e5 := hE.g e5
         replace e6 := hE.g e6
         replace e7 := hE.g e7
         replace k := k.env hE
         clear hE e42 e65
         refine Z01 (wp_seq ?_)
         refine wp_seq ?_
         refine wp_region_lit ?_
         have hE := Env.refl a103 [77, 78, 79, 80]
         apply Z02 77 hE k rfl rfl rfl rfl
         case h =>
          simp [go_sem, ↓IntWalk.iteOmega, ev (hE.g e7)]
          with_reducible rfl
         intro a104 hE e77 kp
         apply Z02 78 hE k rfl rfl rfl rfl
         case h =>
          have q0 : w98.cell? ⟨xb, 1, none⟩ = some (.int .i64 i_) := (OwnT.blk O 4 rfl).cell 1
          have q1 : w98.cell? ⟨xb, 2, none⟩ = some (.int .i64 s) := (OwnT.blk O 4 rfl).cell 2
          have q2 : w98.cell? ⟨xb, 3, none⟩ = some (.int .i64 r) := (OwnT.blk O 4 rfl).cell 3
          have q3 : w98.cell? ⟨xb, 4, none⟩ = some (.bool p) := (OwnT.blk O 4 rfl).cell 4
          have q4 : w98.cell? ⟨xb, 5, none⟩ = some (.int .i64 f) := (OwnT.blk O 4 rfl).cell 5
          simp [go_sem, ↓IntWalk.iteOmega, ev e77, q0, q1, q2, q3, q4]
          with_reducible rfl
         intro a105 hE e78 kp
         apply Z07 79 hE k rfl (by rfl) (by rfl) rfl
         case h =>
          simp [go_sem, ↓IntWalk.iteOmega, ev e78]
          with_reducible exact ⟨rfl, rfl⟩
         case hc => exact rgood11_no i_ s r f p _ hg
         rintro e w107 ⟨rfl, RE⟩
         replace O := OwnT.ext O RE
         refine ⟨_, rfl, ?_⟩
         intro a106 hE e79 kp
         refine sd 80 hE k (Z1g rfl e79) ?_
         intro a108 hE e80 kp
         refine wpList_nil ?_
         replace e0 := hE.g e0
         replace e3 := hE.g e3
         replace e4 := hE.g e4
         replace e5 := hE.g e5
         replace e6 := hE.g e6
         replace e7 := hE.g e7
         replace e8 := hE.g e8
         replace e9 := hE.g e9
         replace k := k.env hE
         clear hE
         refine Z01 ?_
         refine Z08 e80 rfl ?_
         refine wp_seq ?_
         refine wp_seq ?_
         refine wp_region_lit ?_
         have hE := Env.refl a108 [81, 82, 83, 84, 85, 86]
         refine sm 81 hE k e9 ?_
         intro a109 hE e81 kp
         refine sd 82 hE k (Z0s rfl e81 rfl) ?_
         intro a110 hE e82 kp
         refine sd 83 hE k (Z03 rfl e82) ?_
         intro a111 hE e83 kp
         apply Z04 84 hE k rfl rfl rfl rfl rfl e83
         case h =>
          exact Z03 rfl (hE.g e8)
         intro a112 hE e84 kp
         replace e83 := kt kp e83
         apply Z04 85 hE k rfl rfl rfl rfl rfl e83
         case h =>
          exact Z0s rfl e84 rfl
         intro a113 hE e85 kp
         replace e83 := kt kp e83
         refine sd 86 hE k (Z0a rfl e83 e85) ?_
         intro a114 hE e86 kp
         refine wpList_nil ?_
         replace e0 := hE.g e0
         replace e3 := hE.g e3
         replace e4 := hE.g e4
         replace e5 := hE.g e5
         replace e6 := hE.g e6
         replace k := k.env hE
         clear hE e7 e8 e9 e80
         refine Z01 ?_
         refine Z05 e86 rfl ?_
         refine wp_skip ?_
         refine Z01 ?_
         refine wp_exit ?_
         refine Z0u ?_
         refine block_o rfl ?_
         refine Z0u ?_
         refine Z18 ?_
         refine Z01 ?_
         refine wp_region_lit ?_
         have hE := Env.refl a114 [35, 36, 6]
         refine sd 35 hE k (Z03 rfl e6) ?_
         intro a115 hE e35 kp
         replace e6 := kt kp e6
         refine sd 36 hE k (Z13 rfl e35 rfl (by omega)) ?_
         intro a116 hE e36 kp
         replace e6 := kt kp e6
         refine sd 6 hE k (Z00 rfl e36) ?_
         intro a117 hE e6 kp
         refine wpList_nil ?_
         replace e0 := hE.g e0
         replace e3 := hE.g e3
         replace e4 := hE.g e4
         replace e5 := hE.g e5
         replace k := k.env hE
         clear hE e86
         refine Z01 ?_
         refine ⟨⟨k, e0, e3, i + 1, rt, P, Bu, cu, N, B, cap, vs, e4, e5, e6, by omega, by omega, hT.le (by omega), (OwnT.pickR (L := [_, _, _, _, _]) (R := []) O [0, 1, 2, 3] (by decide))⟩, ?_⟩
         rw [e6, mi]; simp only [intOf]; omega
     · have hk1 : ¬ kd = 1 := by omega
       by_cases hg : GoodVol i_ s r f
       · skip
         refine wp_seq ?_
         refine wp_region_lit ?_
         have hE := Env.refl a47 [41, 42]
         apply Z02 41 hE k rfl rfl rfl rfl
         case h =>
          simp [go_sem, ↓IntWalk.iteOmega, ev (hE.g e7)]
          with_reducible rfl
         intro a118 hE e41 kp
         apply Z02 42 hE k rfl rfl rfl rfl
         case h =>
          have q0 : w49.cell? ⟨xb, 0, none⟩ = some (.int .i64 kd) := (OwnT.blk O 4 rfl).cell 0
          simp [go_sem, ↓IntWalk.iteOmega, ev e41, q0]
          with_reducible rfl
         intro a119 hE e42 kp
         refine wpList_nil ?_
         replace e0 := hE.g e0
         replace e3 := hE.g e3
         replace e4 := hE.g e4
         replace e5 := hE.g e5
         replace e6 := hE.g e6
         replace e7 := hE.g e7
         replace k := k.env hE
         clear hE
         refine Z01 ?_
         refine wp_block ?_
         refine wp_seq ?_
         refine wp_seq ?_
         refine wp_region_lit ?_
         have hE := Env.refl a119 [66, 65]
         refine sd 66 hE k (Z06 (Z0q rfl (hE.g e42) rfl) (decide_eq_false hk1)) ?_
         intro a120 hE e66 kp
         refine sd 65 hE k (Z00 rfl e66) ?_
         intro a121 hE e65 kp
         refine wpList_nil ?_
         replace e0 := hE.g e0
         replace e3 := hE.g e3
         replace e4 := hE.g e4
         replace e5 := hE.g e5
         replace e6 := hE.g e6
         replace e7 := hE.g e7
         replace e42 := hE.g e42
         replace k := k.env hE
         clear hE
         refine Z01 ?_
         refine Z05 e65 rfl ?_
         refine wp_region_lit ?_
         have hE := Env.refl a121 [67, 65]
         refine sd 67 hE k (Z06 (Z0q rfl (hE.g e42) rfl) (decide_eq_true hk2)) ?_
         intro a122 hE e67 kp
         refine sd 65 hE k (Z00 rfl e67) ?_
         intro a123 hE e65 kp
         refine wpList_nil ?_
         replace e0 := hE.g e0
         replace e3 := hE.g e3
         replace e4 := hE.g e4
         replace e5 := hE.g e5
         replace e6 := hE.g e6
         replace e7 := hE.g e7
         replace e42 := hE.g e42
         replace k := k.env hE
         clear hE
         refine Z01 ?_
         refine Z08 e65 rfl ?_
         refine wp_seq ?_
         refine wp_region_lit ?_
         have hE := Env.refl a123 [69, 70, 71, 72, 73, 74, 68, 75, 76, 8, 9]
         refine sm 69 hE k e3 ?_
         intro a124 hE e69 kp
         apply Z02 70 hE k rfl rfl rfl rfl
         case h =>
          simp [go_sem, ↓IntWalk.iteOmega, ev e69]
          with_reducible rfl
         intro a125 hE e70 kp
         refine sm 71 hE k e4 ?_
         intro a126 hE e71 kp
         replace e70 := kt kp e70
         apply Z02 72 hE k rfl rfl rfl rfl
         case h =>
          simp [go_sem, ↓IntWalk.iteOmega, ev (hE.g e7)]
          with_reducible rfl
         intro a127 hE e72 kp
         replace e70 := kt kp e70
         replace e71 := kt kp e71
         apply Z02 73 hE k rfl rfl rfl rfl
         case h =>
          have q0 : w49.cell? ⟨xb, 1, none⟩ = some (.int .i64 i_) := (OwnT.blk O 4 rfl).cell 1
          have q1 : w49.cell? ⟨xb, 2, none⟩ = some (.int .i64 s) := (OwnT.blk O 4 rfl).cell 2
          have q2 : w49.cell? ⟨xb, 3, none⟩ = some (.int .i64 r) := (OwnT.blk O 4 rfl).cell 3
          have q3 : w49.cell? ⟨xb, 4, none⟩ = some (.bool p) := (OwnT.blk O 4 rfl).cell 4
          have q4 : w49.cell? ⟨xb, 5, none⟩ = some (.int .i64 f) := (OwnT.blk O 4 rfl).cell 5
          simp [go_sem, ↓IntWalk.iteOmega, ev e72, q0, q1, q2, q3, q4]
          with_reducible rfl
         intro a128 hE e73 kp
         replace e70 := kt kp e70
         replace e71 := kt kp e71
         apply Z07 74 hE k rfl (by rfl) (by rfl) rfl
         case h =>
          simp [go_sem, ↓IntWalk.iteOmega, ev e70, ev e71, ev e73]
          with_reducible exact ⟨rfl, rfl⟩
         case hc => exact vPut (R := _ :: _ :: []) i_ s r f p _ O hg hT.norm (by split <;> omega) (by omega)
         clear O
         rintro e w130 ⟨N2, r2, er, B2, cap2, vs2, rfl, O, hPL⟩
         refine ⟨_, rfl, ?_⟩
         intro a129 hE e74 kp
         refine sd 68 hE k (Z03 rfl e74) ?_
         intro a131 hE e68 kp
         apply Z02 75 hE k rfl rfl rfl rfl
         case h =>
          simp [go_sem, ↓IntWalk.iteOmega, ev e68]
          with_reducible rfl
         intro a132 hE e75 kp
         replace e68 := kt kp e68
         apply Z02 76 hE k rfl rfl rfl rfl
         case h =>
          simp [go_sem, ↓IntWalk.iteOmega, ev e68]
          with_reducible rfl
         intro a133 hE e76 kp
         replace e75 := kt kp e75
         refine sd 8 hE k (Z00 rfl e75) ?_
         intro a134 hE e8 kp
         replace e76 := kt kp e76
         refine sd 9 hE k (Z00 rfl e76) ?_
         intro a135 hE e9 kp
         replace e8 := kt kp e8
         refine wpList_nil ?_
         replace e0 := hE.g e0
         replace e3 := hE.g e3
         replace e4 := hE.g e4
         replace e5 := hE.g e5
         replace e6 := hE.g e6
         replace e7 := hE.g e7
         replace k := k.env hE
         clear hE e42 e65
         refine Z01 (wp_seq ?_)
         refine wp_seq ?_
         refine wp_region_lit ?_
         have hE := Env.refl a135 [77, 78, 79, 80]
         apply Z02 77 hE k rfl rfl rfl rfl
         case h =>
          simp [go_sem, ↓IntWalk.iteOmega, ev (hE.g e7)]
          with_reducible rfl
         intro a136 hE e77 kp
         apply Z02 78 hE k rfl rfl rfl rfl
         case h =>
          have q0 : w130.cell? ⟨xb, 1, none⟩ = some (.int .i64 i_) := (OwnT.blk O 4 rfl).cell 1
          have q1 : w130.cell? ⟨xb, 2, none⟩ = some (.int .i64 s) := (OwnT.blk O 4 rfl).cell 2
          have q2 : w130.cell? ⟨xb, 3, none⟩ = some (.int .i64 r) := (OwnT.blk O 4 rfl).cell 3
          have q3 : w130.cell? ⟨xb, 4, none⟩ = some (.bool p) := (OwnT.blk O 4 rfl).cell 4
          have q4 : w130.cell? ⟨xb, 5, none⟩ = some (.int .i64 f) := (OwnT.blk O 4 rfl).cell 5
          simp [go_sem, ↓IntWalk.iteOmega, ev e77, q0, q1, q2, q3, q4]
          with_reducible rfl
         intro a137 hE e78 kp
         apply Z07 79 hE k rfl (by rfl) (by rfl) rfl
         case h =>
          simp [go_sem, ↓IntWalk.iteOmega, ev e78]
          with_reducible exact ⟨rfl, rfl⟩
         case hc => exact Z24 i_ s r f p _ hg
         rintro e w139 ⟨rfl, RE⟩
         replace O := OwnT.ext O RE
         refine ⟨_, rfl, ?_⟩
         intro a138 hE e79 kp
         refine sd 80 hE k (Z1g rfl e79) ?_
         intro a140 hE e80 kp
         refine wpList_nil ?_
         replace e0 := hE.g e0
         replace e3 := hE.g e3
         replace e4 := hE.g e4
         replace e5 := hE.g e5
         replace e6 := hE.g e6
         replace e7 := hE.g e7
         replace e8 := hE.g e8
         replace e9 := hE.g e9
         replace k := k.env hE
         clear hE
         refine Z01 ?_
         refine Z05 e80 rfl ?_
         refine wp_skip ?_
         refine Z01 ?_
         obtain ⟨ky, hky⟩ : ∃ k, vlKey i_ = k := ⟨_, rfl⟩
         obtain ⟨vl, hvl⟩ : ∃ v, vlVal s r p f = v := ⟨_, rfl⟩
         rw [hky, hvl] at hPL
         obtain ⟨⟨M, rfl, hM⟩, hPL⟩ := hPL
         have hk2 : 4294967296 + i_ = (ky : Int) := by rw [← hky]; exact vlKey_eq hg
         have hv2 : volPair s r p f = (vl : Int) := by rw [← hvl]; exact vlVal_eq p hg
         rcases hPL with ⟨rfl, rfl, -⟩ | ⟨rfl, r', rfl, hr1, hr2, hT2⟩

         · skip
           refine wp_seq ?_
           refine wp_seq ?_
           refine wp_region_lit ?_
           have hE := Env.refl a140 [87, 88]
           refine sm 87 hE k e9 ?_
           intro a141 hE e87 kp
           refine sd 88 hE k (Z06 (Z0q rfl e87 rfl) (decide_eq_true rfl)) ?_
           intro a142 hE e88 kp
           refine wpList_nil ?_
           replace e0 := hE.g e0
           replace e3 := hE.g e3
           replace e5 := hE.g e5
           replace e6 := hE.g e6
           replace e7 := hE.g e7
           replace e8 := hE.g e8
           replace e9 := hE.g e9
           replace k := k.env hE
           clear hE e4 e80
           refine Z01 ?_
           refine Z08 e88 rfl ?_
           refine wp_seq ?_
           refine wp_region_lit ?_
           have hE := Env.refl a142 [2]
           refine sd 2 hE k (Z00 rfl rfl) ?_
           intro a143 hE e2 kp
           refine wpList_nil ?_
           replace k := k.env hE
           clear hE e0 e3 e5 e6 e7 e8 e9 e88
           refine Z01 ?_
           refine wp_ret ?_
           refine Z09 ?_
           refine Z0r ?_
           refine Z09 ?_
           refine Z0r ?_
           refine Z09 ?_
           refine Z09 ?_
           refine Z0r ?_
           refine Z09 ?_
           refine Z0w rfl k e2 ?_
           exact ⟨rfl, O.below⟩
         · skip
           obtain ⟨_, _, eu, -, -, hur, -⟩ := Z0n (OwnT.get O 3 rfl : (tPs (.slice Bu P.length cu) P).holds _); injection eu with eu1 _ eu2; subst eu1 eu2
           refine wp_seq ?_
           refine wp_seq ?_
           refine wp_region_lit ?_
           have hE := Env.refl a140 [87, 88]
           refine sm 87 hE k e9 ?_
           intro a144 hE e87 kp
           refine sd 88 hE k (Z06 (Z0q rfl e87 rfl) (decide_eq_false (by omega))) ?_
           intro a145 hE e88 kp
           refine wpList_nil ?_
           replace e0 := hE.g e0
           replace e3 := hE.g e3
           replace e5 := hE.g e5
           replace e6 := hE.g e6
           replace e7 := hE.g e7
           replace e8 := hE.g e8
           replace e9 := hE.g e9
           replace k := k.env hE
           clear hE e4 e80
           refine Z01 ?_
           refine Z05 e88 rfl ?_
           refine wp_skip ?_
           refine Z01 (wp_seq ?_)
           refine wp_seq ?_
           refine wp_region_lit ?_
           have hE := Env.refl a145 [89, 90]
           refine sm 89 hE k e9 ?_
           intro a146 hE e89 kp
           refine sd 90 hE k (Z06 (Z0s rfl e89 rfl) (decide_eq_false (by omega))) ?_
           intro a147 hE e90 kp
           refine wpList_nil ?_
           replace e0 := hE.g e0
           replace e3 := hE.g e3
           replace e5 := hE.g e5
           replace e6 := hE.g e6
           replace e7 := hE.g e7
           replace e8 := hE.g e8
           replace k := k.env hE
           clear hE e9 e88
           refine Z01 ?_
           refine Z05 e90 rfl ?_
           refine wp_skip ?_
           refine Z01 (wp_seq ?_)
           refine wp_region_lit ?_
           have hE := Env.refl a147 [91, 4]
           refine sm 91 hE k e8 ?_
           intro a148 hE e91 kp
           refine sd 4 hE k (Z00 rfl e91) ?_
           intro a149 hE e4 kp
           refine wpList_nil ?_
           replace e0 := hE.g e0
           replace e3 := hE.g e3
           replace e5 := hE.g e5
           replace e6 := hE.g e6
           replace e7 := hE.g e7
           replace k := k.env hE
           clear hE e8 e90
           refine Z01 ?_
           refine wp_region_lit ?_
           have hE := Env.refl a149 [92, 93, 94, 95, 96, 5]
           refine sd 92 hE k (Z03 rfl e5) ?_
           intro a150 hE e92 kp
           replace e5 := kt kp e5
           apply Z02 93 hE k rfl rfl rfl rfl
           case h =>
            simp [go_sem, ↓IntWalk.iteOmega, ev (hE.g e7)]
            with_reducible rfl
           intro a151 hE e93 kp
           replace e5 := kt kp e5
           replace e92 := kt kp e92
           apply Z02 94 hE k rfl rfl rfl rfl
           case h =>
            have q0 : w139.cell? ⟨xb, 1, none⟩ = some (.int .i64 i_) := (OwnT.blk O 4 rfl).cell 1
            have q1 : w139.cell? ⟨xb, 2, none⟩ = some (.int .i64 s) := (OwnT.blk O 4 rfl).cell 2
            have q2 : w139.cell? ⟨xb, 3, none⟩ = some (.int .i64 r) := (OwnT.blk O 4 rfl).cell 3
            have q3 : w139.cell? ⟨xb, 4, none⟩ = some (.bool p) := (OwnT.blk O 4 rfl).cell 4
            have q4 : w139.cell? ⟨xb, 5, none⟩ = some (.int .i64 f) := (OwnT.blk O 4 rfl).cell 5
            simp [go_sem, ↓IntWalk.iteOmega, ev e93, q0, q1, q2, q3, q4]
            with_reducible rfl
           intro a152 hE e94 kp
           replace e5 := kt kp e5
           replace e92 := kt kp e92
           apply Z07 95 hE k rfl (by rfl) (by rfl) rfl
           case h =>
            simp [go_sem, ↓IntWalk.iteOmega, ev e94]
            with_reducible exact ⟨rfl, rfl⟩
           case hc => exact Z28 i_ s r f p _ hg
           rintro e w154 ⟨rfl, RE⟩
           replace hur := hur.below RE
           replace O := OwnT.ext O RE
           refine ⟨.agg #[.int .u64 ↑ky, .int .u64 ↑vl], by rw [hk2, hv2], ?_⟩
           intro a153 hE e95 kp
           replace e5 := kt kp e5
           replace e92 := kt kp e92
           apply Z07 96 hE k rfl (by rfl) (by rfl) rfl
           case h =>
            simp [go_sem, ↓IntWalk.iteOmega, ev e92, ev e95]
            with_reducible exact ⟨rfl, rfl⟩
           case hc => exact rput8 (x := (ky, vl)) P _ rfl hur (by omega) hup
           rintro e w156 ⟨v', rfl, hv, RE⟩
           replace O := O.newRow RE hv
           obtain ⟨Bu2, cu2, rfl⟩ := Z1r (OwnT.t0 O : World.ownsRow _ 0 38 2 v' (insP (ky, vl) P).length _)
           refine ⟨_, rfl, ?_⟩
           intro a155 hE e96 kp
           replace e5 := kt kp e5
           refine sd 5 hE k (Z00 rfl e96) ?_
           intro a157 hE e5 kp
           refine wpList_nil ?_
           replace e0 := hE.g e0
           replace e3 := hE.g e3
           replace e4 := hE.g e4
           replace e6 := hE.g e6
           replace k := k.env hE
           clear hE e7
           refine Z0m ?_
           refine Z01 ?_
           exact ⟨k, e0, e3, e6, r', insP (ky, vl) P, Bu2, cu2, N ++ M, B2, cap2, vs2, e4, e5, by rw [List.length_append]; omega, hT2.next (by omega), (OwnT.pickR (L := [_, _, _, _, _, _]) (R := []) O [1, 2, 3, 0] (by decide))⟩
       · skip
         refine wp_seq ?_
         refine wp_region_lit ?_
         have hE := Env.refl a47 [41, 42]
         apply Z02 41 hE k rfl rfl rfl rfl
         case h =>
          simp [go_sem, ↓IntWalk.iteOmega, ev (hE.g e7)]
          with_reducible rfl
         intro a158 hE e41 kp
         apply Z02 42 hE k rfl rfl rfl rfl
         case h =>
          have q0 : w49.cell? ⟨xb, 0, none⟩ = some (.int .i64 kd) := (OwnT.blk O 4 rfl).cell 0
          simp [go_sem, ↓IntWalk.iteOmega, ev e41, q0]
          with_reducible rfl
         intro a159 hE e42 kp
         refine wpList_nil ?_
         replace e0 := hE.g e0
         replace e3 := hE.g e3
         replace e4 := hE.g e4
         replace e5 := hE.g e5
         replace e6 := hE.g e6
         replace e7 := hE.g e7
         replace k := k.env hE
         clear hE
         refine Z01 ?_
         refine wp_block ?_
         refine wp_seq ?_
         refine wp_seq ?_
         refine wp_region_lit ?_
         have hE := Env.refl a159 [66, 65]
         refine sd 66 hE k (Z06 (Z0q rfl (hE.g e42) rfl) (decide_eq_false hk1)) ?_
         intro a160 hE e66 kp
         refine sd 65 hE k (Z00 rfl e66) ?_
         intro a161 hE e65 kp
         refine wpList_nil ?_
         replace e0 := hE.g e0
         replace e3 := hE.g e3
         replace e4 := hE.g e4
         replace e5 := hE.g e5
         replace e6 := hE.g e6
         replace e7 := hE.g e7
         replace e42 := hE.g e42
         replace k := k.env hE
         clear hE
         refine Z01 ?_
         refine Z05 e65 rfl ?_
         refine wp_region_lit ?_
         have hE := Env.refl a161 [67, 65]
         refine sd 67 hE k (Z06 (Z0q rfl (hE.g e42) rfl) (decide_eq_true hk2)) ?_
         intro a162 hE e67 kp
         refine sd 65 hE k (Z00 rfl e67) ?_
         intro a163 hE e65 kp
         refine wpList_nil ?_
         replace e0 := hE.g e0
         replace e3 := hE.g e3
         replace e4 := hE.g e4
         replace e5 := hE.g e5
         replace e6 := hE.g e6
         replace e7 := hE.g e7
         replace e42 := hE.g e42
         replace k := k.env hE
         clear hE
         refine Z01 ?_
         refine Z08 e65 rfl ?_
         refine wp_seq ?_
         refine wp_region_lit ?_
         have hE := Env.refl a163 [69, 70, 71, 72, 73, 74, 68, 75, 76, 8, 9]
         refine sm 69 hE k e3 ?_
         intro a164 hE e69 kp
         apply Z02 70 hE k rfl rfl rfl rfl
         case h =>
          simp [go_sem, ↓IntWalk.iteOmega, ev e69]
          with_reducible rfl
         intro a165 hE e70 kp
         refine sm 71 hE k e4 ?_
         intro a166 hE e71 kp
         replace e70 := kt kp e70
         apply Z02 72 hE k rfl rfl rfl rfl
         case h =>
          simp [go_sem, ↓IntWalk.iteOmega, ev (hE.g e7)]
          with_reducible rfl
         intro a167 hE e72 kp
         replace e70 := kt kp e70
         replace e71 := kt kp e71
         apply Z02 73 hE k rfl rfl rfl rfl
         case h =>
          have q0 : w49.cell? ⟨xb, 1, none⟩ = some (.int .i64 i_) := (OwnT.blk O 4 rfl).cell 1
          have q1 : w49.cell? ⟨xb, 2, none⟩ = some (.int .i64 s) := (OwnT.blk O 4 rfl).cell 2
          have q2 : w49.cell? ⟨xb, 3, none⟩ = some (.int .i64 r) := (OwnT.blk O 4 rfl).cell 3
          have q3 : w49.cell? ⟨xb, 4, none⟩ = some (.bool p) := (OwnT.blk O 4 rfl).cell 4
          have q4 : w49.cell? ⟨xb, 5, none⟩ = some (.int .i64 f) := (OwnT.blk O 4 rfl).cell 5
          simp [go_sem, ↓IntWalk.iteOmega, ev e72, q0, q1, q2, q3, q4]
          with_reducible rfl
         intro a168 hE e73 kp
         replace e70 := kt kp e70
         replace e71 := kt kp e71
         apply Z07 74 hE k rfl (by rfl) (by rfl) rfl
         case h =>
          simp [go_sem, ↓IntWalk.iteOmega, ev e70, ev e71, ev e73]
          with_reducible exact ⟨rfl, rfl⟩
         case hc => exact vPut_bad i_ s r f p _ hg
         rintro e w170 ⟨rfl, RE⟩
         replace O := OwnT.ext O RE
         refine ⟨_, rfl, ?_⟩
         intro a169 hE e74 kp
         refine sd 68 hE k (Z03 rfl e74) ?_
         intro a171 hE e68 kp
         apply Z02 75 hE k rfl rfl rfl rfl
         case h =>
          simp [go_sem, ↓IntWalk.iteOmega, ev e68]
          with_reducible rfl
         intro a172 hE e75 kp
         replace e68 := kt kp e68
         apply Z02 76 hE k rfl rfl rfl rfl
         case h =>
          simp [go_sem, ↓IntWalk.iteOmega, ev e68]
          with_reducible rfl
         intro a173 hE e76 kp
         replace e75 := kt kp e75
         refine sd 8 hE k (Z00 rfl e75) ?_
         intro a174 hE e8 kp
         replace e76 := kt kp e76
         refine sd 9 hE k (Z00 rfl e76) ?_
         intro a175 hE e9 kp
         replace e8 := kt kp e8
         refine wpList_nil ?_
         replace e0 := hE.g e0
         replace e3 := hE.g e3
         replace e4 := hE.g e4
         replace e5 := hE.g e5
         replace e6 := hE.g e6
         replace e7 := hE.g e7
         replace k := k.env hE
         clear hE e42 e65
         refine Z01 (wp_seq ?_)
         refine wp_seq ?_
         refine wp_region_lit ?_
         have hE := Env.refl a175 [77, 78, 79, 80]
         apply Z02 77 hE k rfl rfl rfl rfl
         case h =>
          simp [go_sem, ↓IntWalk.iteOmega, ev (hE.g e7)]
          with_reducible rfl
         intro a176 hE e77 kp
         apply Z02 78 hE k rfl rfl rfl rfl
         case h =>
          have q0 : w170.cell? ⟨xb, 1, none⟩ = some (.int .i64 i_) := (OwnT.blk O 4 rfl).cell 1
          have q1 : w170.cell? ⟨xb, 2, none⟩ = some (.int .i64 s) := (OwnT.blk O 4 rfl).cell 2
          have q2 : w170.cell? ⟨xb, 3, none⟩ = some (.int .i64 r) := (OwnT.blk O 4 rfl).cell 3
          have q3 : w170.cell? ⟨xb, 4, none⟩ = some (.bool p) := (OwnT.blk O 4 rfl).cell 4
          have q4 : w170.cell? ⟨xb, 5, none⟩ = some (.int .i64 f) := (OwnT.blk O 4 rfl).cell 5
          simp [go_sem, ↓IntWalk.iteOmega, ev e77, q0, q1, q2, q3, q4]
          with_reducible rfl
         intro a177 hE e78 kp
         apply Z07 79 hE k rfl (by rfl) (by rfl) rfl
         case h =>
          simp [go_sem, ↓IntWalk.iteOmega, ev e78]
          with_reducible exact ⟨rfl, rfl⟩
         case hc => exact rgood11_no i_ s r f p _ hg
         rintro e w179 ⟨rfl, RE⟩
         replace O := OwnT.ext O RE
         refine ⟨_, rfl, ?_⟩
         intro a178 hE e79 kp
         refine sd 80 hE k (Z1g rfl e79) ?_
         intro a180 hE e80 kp
         refine wpList_nil ?_
         replace e0 := hE.g e0
         replace e3 := hE.g e3
         replace e4 := hE.g e4
         replace e5 := hE.g e5
         replace e6 := hE.g e6
         replace e7 := hE.g e7
         replace e8 := hE.g e8
         replace e9 := hE.g e9
         replace k := k.env hE
         clear hE
         refine Z01 ?_
         refine Z08 e80 rfl ?_
         refine wp_seq ?_
         refine wp_seq ?_
         refine wp_region_lit ?_
         have hE := Env.refl a180 [81, 82, 83, 84, 85, 86]
         refine sm 81 hE k e9 ?_
         intro a181 hE e81 kp
         refine sd 82 hE k (Z0s rfl e81 rfl) ?_
         intro a182 hE e82 kp
         refine sd 83 hE k (Z03 rfl e82) ?_
         intro a183 hE e83 kp
         apply Z04 84 hE k rfl rfl rfl rfl rfl e83
         case h =>
          exact Z03 rfl (hE.g e8)
         intro a184 hE e84 kp
         replace e83 := kt kp e83
         apply Z04 85 hE k rfl rfl rfl rfl rfl e83
         case h =>
          exact Z0s rfl e84 rfl
         intro a185 hE e85 kp
         replace e83 := kt kp e83
         refine sd 86 hE k (Z0a rfl e83 e85) ?_
         intro a186 hE e86 kp
         refine wpList_nil ?_
         replace e0 := hE.g e0
         replace e3 := hE.g e3
         replace e4 := hE.g e4
         replace e5 := hE.g e5
         replace e6 := hE.g e6
         replace k := k.env hE
         clear hE e7 e8 e9 e80
         refine Z01 ?_
         refine Z05 e86 rfl ?_
         refine wp_skip ?_
         refine Z01 ?_
         refine wp_exit ?_
         refine Z0u ?_
         refine block_o rfl ?_
         refine Z0u ?_
         refine Z18 ?_
         refine Z01 ?_
         refine wp_region_lit ?_
         have hE := Env.refl a186 [35, 36, 6]
         refine sd 35 hE k (Z03 rfl e6) ?_
         intro a187 hE e35 kp
         replace e6 := kt kp e6
         refine sd 36 hE k (Z13 rfl e35 rfl (by omega)) ?_
         intro a188 hE e36 kp
         replace e6 := kt kp e6
         refine sd 6 hE k (Z00 rfl e36) ?_
         intro a189 hE e6 kp
         refine wpList_nil ?_
         replace e0 := hE.g e0
         replace e3 := hE.g e3
         replace e4 := hE.g e4
         replace e5 := hE.g e5
         replace k := k.env hE
         clear hE e86
         refine Z01 ?_
         refine ⟨⟨k, e0, e3, i + 1, rt, P, Bu, cu, N, B, cap, vs, e4, e5, e6, by omega, by omega, hT.le (by omega), (OwnT.pickR (L := [_, _, _, _, _]) (R := []) O [0, 1, 2, 3] (by decide))⟩, ?_⟩
         rw [e6, mi]; simp only [intOf]; omega
   · have hk1 : ¬ kd = 1 := fun h => hk12 (.inl h)
     have hk2 : ¬ kd = 2 := fun h => hk12 (.inr h)
     by_cases hk3 : kd = 3
     · obtain ⟨ky, hky⟩ : ∃ k, vkeyN i_ = k := ⟨_, rfl⟩
       refine wp_seq ?_
       refine wp_region_lit ?_
       have hE := Env.refl a47 [41, 42]
       apply Z02 41 hE k rfl rfl rfl rfl
       case h =>
        simp [go_sem, ↓IntWalk.iteOmega, ev (hE.g e7)]
        with_reducible rfl
       intro a190 hE e41 kp
       apply Z02 42 hE k rfl rfl rfl rfl
       case h =>
        have q0 : w49.cell? ⟨xb, 0, none⟩ = some (.int .i64 kd) := (OwnT.blk O 4 rfl).cell 0
        simp [go_sem, ↓IntWalk.iteOmega, ev e41, q0]
        with_reducible rfl
       intro a191 hE e42 kp
       refine wpList_nil ?_
       replace e0 := hE.g e0
       replace e3 := hE.g e3
       replace e4 := hE.g e4
       replace e5 := hE.g e5
       replace e6 := hE.g e6
       replace e7 := hE.g e7
       replace k := k.env hE
       clear hE
       refine Z01 ?_
       refine wp_block ?_
       refine wp_seq ?_
       refine wp_seq ?_
       refine wp_region_lit ?_
       have hE := Env.refl a191 [66, 65]
       refine sd 66 hE k (Z06 (Z0q rfl (hE.g e42) rfl) (decide_eq_false hk1)) ?_
       intro a192 hE e66 kp
       refine sd 65 hE k (Z00 rfl e66) ?_
       intro a193 hE e65 kp
       refine wpList_nil ?_
       replace e0 := hE.g e0
       replace e3 := hE.g e3
       replace e4 := hE.g e4
       replace e5 := hE.g e5
       replace e6 := hE.g e6
       replace e7 := hE.g e7
       replace e42 := hE.g e42
       replace k := k.env hE
       clear hE
       refine Z01 ?_
       refine Z05 e65 rfl ?_
       refine wp_region_lit ?_
       have hE := Env.refl a193 [67, 65]
       refine sd 67 hE k (Z06 (Z0q rfl (hE.g e42) rfl) (decide_eq_false hk2)) ?_
       intro a194 hE e67 kp
       refine sd 65 hE k (Z00 rfl e67) ?_
       intro a195 hE e65 kp
       refine wpList_nil ?_
       replace e0 := hE.g e0
       replace e3 := hE.g e3
       replace e4 := hE.g e4
       replace e5 := hE.g e5
       replace e6 := hE.g e6
       replace e7 := hE.g e7
       replace e42 := hE.g e42
       replace k := k.env hE
       clear hE
       refine Z01 ?_
       refine Z05 e65 rfl ?_
       refine wp_seq ?_
       refine wp_region_lit ?_
       have hE := Env.refl a195 [98, 97]
       refine sd 98 hE k (Z06 (Z0q rfl (hE.g e42) rfl) (decide_eq_true hk3)) ?_
       intro a196 hE e98 kp
       refine sd 97 hE k (Z00 rfl e98) ?_
       intro a197 hE e97 kp
       refine wpList_nil ?_
       replace e0 := hE.g e0
       replace e3 := hE.g e3
       replace e4 := hE.g e4
       replace e5 := hE.g e5
       replace e6 := hE.g e6
       replace e7 := hE.g e7
       replace k := k.env hE
       clear hE e42 e65
       refine Z01 ?_
       refine Z08 e97 rfl ?_
       refine wp_seq ?_
       refine wp_region_lit ?_
       have hE := Env.refl a197 [100, 101, 102, 103, 104, 105, 106, 99, 107, 108, 109, 10, 11, 12]
       refine sm 100 hE k e3 ?_
       intro a198 hE e100 kp
       apply Z02 101 hE k rfl rfl rfl rfl
       case h =>
        simp [go_sem, ↓IntWalk.iteOmega, ev e100]
        with_reducible rfl
       intro a199 hE e101 kp
       refine sm 102 hE k e4 ?_
       intro a200 hE e102 kp
       replace e101 := kt kp e101
       apply Z02 103 hE k rfl rfl rfl rfl
       case h =>
        simp [go_sem, ↓IntWalk.iteOmega, ev (hE.g e7)]
        with_reducible rfl
       intro a201 hE e103 kp
       replace e101 := kt kp e101
       replace e102 := kt kp e102
       apply Z02 104 hE k rfl rfl rfl rfl
       case h =>
        simp [go_sem, ↓IntWalk.iteOmega, ev e103]
        with_reducible rfl
       intro a202 hE e104 kp
       replace e101 := kt kp e101
       replace e102 := kt kp e102
       apply Z02 105 hE k rfl rfl rfl rfl
       case h =>
        have q0 : w49.cell? ⟨xb, 1, none⟩ = some (.int .i64 i_) := (OwnT.blk O 4 rfl).cell 1
        simp [go_sem, ↓IntWalk.iteOmega, ev e104, q0]
        with_reducible rfl
       intro a203 hE e105 kp
       replace e101 := kt kp e101
       replace e102 := kt kp e102
       apply Z07 106 hE k rfl (by rfl) (by rfl) rfl
       case h =>
        simp [go_sem, ↓IntWalk.iteOmega, ev e101, ev e102, ev e105]
        with_reducible exact ⟨rfl, rfl⟩
       case hc => exact vDrop (R := _ :: _ :: []) i_ _ O hT (by omega)
       clear O
       rintro e w205 ⟨N2, r2, ok, er, B2, cap2, vs2, rfl, O, hDL⟩
       refine ⟨_, rfl, ?_⟩
       intro a204 hE e106 kp
       refine sd 99 hE k (Z03 rfl e106) ?_
       intro a206 hE e99 kp
       apply Z02 107 hE k rfl rfl rfl rfl
       case h =>
        simp [go_sem, ↓IntWalk.iteOmega, ev e99]
        with_reducible rfl
       intro a207 hE e107 kp
       replace e99 := kt kp e99
       apply Z02 108 hE k rfl rfl rfl rfl
       case h =>
        simp [go_sem, ↓IntWalk.iteOmega, ev e99]
        with_reducible rfl
       intro a208 hE e108 kp
       replace e99 := kt kp e99
       replace e107 := kt kp e107
       apply Z02 109 hE k rfl rfl rfl rfl
       case h =>
        simp [go_sem, ↓IntWalk.iteOmega, ev e99]
        with_reducible rfl
       intro a209 hE e109 kp
       replace e107 := kt kp e107
       replace e108 := kt kp e108
       refine sd 10 hE k (Z00 rfl e107) ?_
       intro a210 hE e10 kp
       replace e108 := kt kp e108
       replace e109 := kt kp e109
       refine sd 11 hE k (Z00 rfl e108) ?_
       intro a211 hE e11 kp
       replace e109 := kt kp e109
       replace e10 := kt kp e10
       refine sd 12 hE k (Z00 rfl e109) ?_
       intro a212 hE e12 kp
       replace e10 := kt kp e10
       replace e11 := kt kp e11
       refine wpList_nil ?_
       replace e0 := hE.g e0
       replace e3 := hE.g e3
       replace e5 := hE.g e5
       replace e6 := hE.g e6
       replace e7 := hE.g e7
       replace k := k.env hE
       clear hE e4 e97
       refine Z01 ?_
       rw [hky] at hDL
       obtain ⟨⟨M, rfl, hM⟩, hDL⟩ := hDL
       have hX : (er = 6) ∨ (er = 0 ∧ ok = (lookP ky P).isSome ∧ ∃ r : Nat, r2 = r ∧ Tre (N ++ M) r (8 + i + 1) (delP ky P)) := by
        rcases hDL with ⟨h1, h2, h3, h4, h5⟩ | ⟨h1, _⟩ | ⟨h1, h2, h3, r, h4, h5⟩
        · exact .inr ⟨h1, by rw [h2, h5]; rfl, rt, h3, by rw [del_none h5]; exact (hT.mono M).le (by omega)⟩
        · exact .inl h1
        · exact .inr ⟨h1, by rw [h2, h3], r, h4, h5.le (by omega)⟩
       clear hDL
       rcases hX with rfl | ⟨rfl, hok, r', rfl, hT2⟩

       · skip
         refine wp_seq ?_
         refine wp_seq ?_
         refine wp_region_lit ?_
         have hE := Env.refl a212 [110, 111]
         refine sm 110 hE k e12 ?_
         intro a213 hE e110 kp
         refine sd 111 hE k (Z06 (Z0q rfl e110 rfl) (decide_eq_true rfl)) ?_
         intro a214 hE e111 kp
         refine wpList_nil ?_
         replace e0 := hE.g e0
         replace e3 := hE.g e3
         replace e5 := hE.g e5
         replace e6 := hE.g e6
         replace e7 := hE.g e7
         replace e10 := hE.g e10
         replace e11 := hE.g e11
         replace e12 := hE.g e12
         replace k := k.env hE
         clear hE
         refine Z01 ?_
         refine Z08 e111 rfl ?_
         refine wp_seq ?_
         refine wp_region_lit ?_
         have hE := Env.refl a214 [2]
         refine sd 2 hE k (Z00 rfl rfl) ?_
         intro a215 hE e2 kp
         refine wpList_nil ?_
         replace k := k.env hE
         clear hE e0 e3 e5 e6 e7 e10 e11 e12 e111
         refine Z01 ?_
         refine wp_ret ?_
         refine Z09 ?_
         refine Z0r ?_
         refine Z09 ?_
         refine Z0r ?_
         refine Z09 ?_
         refine Z09 ?_
         refine Z0r ?_
         refine Z09 ?_
         refine Z0w rfl k e2 ?_
         exact ⟨rfl, O.below⟩
       · skip
         obtain ⟨_, _, eu, -, -, hur, -⟩ := Z0n (OwnT.get O 3 rfl : (tPs (.slice Bu P.length cu) P).holds _); injection eu with eu1 _ eu2; subst eu1 eu2
         refine wp_seq ?_
         refine wp_seq ?_
         refine wp_region_lit ?_
         have hE := Env.refl a212 [110, 111]
         refine sm 110 hE k e12 ?_
         intro a216 hE e110 kp
         refine sd 111 hE k (Z06 (Z0q rfl e110 rfl) (decide_eq_false (by omega))) ?_
         intro a217 hE e111 kp
         refine wpList_nil ?_
         replace e0 := hE.g e0
         replace e3 := hE.g e3
         replace e5 := hE.g e5
         replace e6 := hE.g e6
         replace e7 := hE.g e7
         replace e10 := hE.g e10
         replace e11 := hE.g e11
         replace e12 := hE.g e12
         replace k := k.env hE
         clear hE
         refine Z01 ?_
         refine Z05 e111 rfl ?_
         refine wp_skip ?_
         refine Z01 (wp_seq ?_)
         refine wp_region_lit ?_
         have hE := Env.refl a217 [113, 114, 115, 116, 117, 118, 119, 112, 120, 121, 13, 14]
         refine sm 113 hE k e5 ?_
         intro a218 hE e113 kp
         apply Z02 114 hE k rfl rfl rfl rfl
         case h =>
          simp [go_sem, ↓IntWalk.iteOmega, ev (hE.g e7)]
          with_reducible rfl
         intro a219 hE e114 kp
         replace e113 := kt kp e113
         apply Z02 115 hE k rfl rfl rfl rfl
         case h =>
          simp [go_sem, ↓IntWalk.iteOmega, ev e114]
          with_reducible rfl
         intro a220 hE e115 kp
         replace e113 := kt kp e113
         apply Z02 116 hE k rfl rfl rfl rfl
         case h =>
          have q0 : w205.cell? ⟨xb, 1, none⟩ = some (.int .i64 i_) := (OwnT.blk O 4 rfl).cell 1
          simp [go_sem, ↓IntWalk.iteOmega, ev e115, q0]
          with_reducible rfl
         intro a221 hE e116 kp
         replace e113 := kt kp e113
         refine sd 117 hE k (Z2b rfl e116 (conv_u64w i_ _)) ?_
         intro a222 hE e117 kp
         replace e113 := kt kp e113
         refine sd 118 hE k (x_addU (m := 4294967296) (n := uN i_) rfl rfl e117) ?_
         intro a223 hE e118 kp
         replace e113 := kt kp e113
         replace e118 := e118.trans (Z12 (show ((vkeyN i_ : Nat) : Int) = (ky : Int) by rw [hky]))
         apply Z07 119 hE k rfl (by rfl) (by rfl) rfl
         case h =>
          simp [go_sem, ↓IntWalk.iteOmega, ev e113, ev e118]
          with_reducible exact ⟨rfl, rfl⟩
         case hc => exact rdrop8 (ky := ky) P _ rfl hur (by omega)
         rintro e w225 ⟨v', rfl, hv, RE⟩
         replace O := O.newRow RE hv
         obtain ⟨Bu2, cu2, rfl⟩ := Z1r (OwnT.t0 O : World.ownsRow _ 0 38 2 v' (delP ky P).length _)
         refine ⟨.tuple #[.slice Bu2 ((delP ky P).length) cu2, .bool ok], by rw [hok], ?_⟩
         intro a224 hE e119 kp
         refine sd 112 hE k (Z03 rfl e119) ?_
         intro a226 hE e112 kp
         apply Z02 120 hE k rfl rfl rfl rfl
         case h =>
          simp [go_sem, ↓IntWalk.iteOmega, ev e112]
          with_reducible rfl
         intro a227 hE e120 kp
         replace e112 := kt kp e112
         apply Z02 121 hE k rfl rfl rfl rfl
         case h =>
          simp [go_sem, ↓IntWalk.iteOmega, ev e112]
          with_reducible rfl
         intro a228 hE e121 kp
         replace e120 := kt kp e120
         refine sd 13 hE k (Z00 rfl e120) ?_
         intro a229 hE e13 kp
         replace e121 := kt kp e121
         refine sd 14 hE k (Z00 rfl e121) ?_
         intro a230 hE e14 kp
         replace e13 := kt kp e13
         refine wpList_nil ?_
         replace e0 := hE.g e0
         replace e3 := hE.g e3
         replace e6 := hE.g e6
         replace e10 := hE.g e10
         replace e11 := hE.g e11
         replace e12 := hE.g e12
         replace k := k.env hE
         clear hE e5 e7 e111
         refine Z01 (wp_seq ?_)
         refine wp_seq ?_
         refine wp_region_lit ?_
         have hE := Env.refl a230 [122, 123, 124, 125, 126, 127, 128]
         refine sm 122 hE k e12 ?_
         intro a231 hE e122 kp
         refine sd 123 hE k (Z06 (Z0s rfl e122 rfl) (decide_eq_false (by omega))) ?_
         intro a232 hE e123 kp
         refine sd 124 hE k (Z03 rfl e123) ?_
         intro a233 hE e124 kp
         apply Z04 125 hE k rfl rfl rfl rfl rfl e124
         case h =>
          exact Z03 rfl (hE.g e11)
         intro a234 hE e125 kp
         replace e124 := kt kp e124
         apply Z04 126 hE k rfl rfl rfl rfl rfl e124
         case h =>
          exact Z03 rfl (hE.g e14)
         intro a235 hE e126 kp
         replace e124 := kt kp e124
         replace e125 := kt kp e125
         apply Z04 127 hE k rfl rfl rfl rfl rfl e124
         case h =>
          exact x_neB2 (c := false) rfl e125 e126 (by simp)
         intro a236 hE e127 kp
         replace e124 := kt kp e124
         refine sd 128 hE k (Z0a rfl e124 e127) ?_
         intro a237 hE e128 kp
         refine wpList_nil ?_
         replace e0 := hE.g e0
         replace e3 := hE.g e3
         replace e6 := hE.g e6
         replace e10 := hE.g e10
         replace e13 := hE.g e13
         replace k := k.env hE
         clear hE e11 e12 e14
         refine Z01 ?_
         refine Z05 e128 rfl ?_
         refine wp_skip ?_
         refine Z01 (wp_seq ?_)
         refine wp_region_lit ?_
         have hE := Env.refl a237 [129, 4]
         refine sm 129 hE k e10 ?_
         intro a238 hE e129 kp
         refine sd 4 hE k (Z00 rfl e129) ?_
         intro a239 hE e4 kp
         refine wpList_nil ?_
         replace e0 := hE.g e0
         replace e3 := hE.g e3
         replace e6 := hE.g e6
         replace e13 := hE.g e13
         replace k := k.env hE
         clear hE e10 e128
         refine Z01 ?_
         refine wp_region_lit ?_
         have hE := Env.refl a239 [130, 5]
         refine sm 130 hE k e13 ?_
         intro a240 hE e130 kp
         refine sd 5 hE k (Z00 rfl e130) ?_
         intro a241 hE e5 kp
         refine wpList_nil ?_
         replace e0 := hE.g e0
         replace e3 := hE.g e3
         replace e4 := hE.g e4
         replace e6 := hE.g e6
         replace k := k.env hE
         clear hE e13
         refine Z0m ?_
         refine Z01 ?_
         exact ⟨k, e0, e3, e6, r', delP ky P, Bu2, cu2, N ++ M, B2, cap2, vs2, e4, e5, by rw [List.length_append]; omega, hT2, (OwnT.pickR (L := [_, _, _, _, _, _]) (R := []) O [1, 2, 3, 0] (by decide))⟩
     · skip
       refine wp_seq ?_
       refine wp_region_lit ?_
       have hE := Env.refl a47 [41, 42]
       apply Z02 41 hE k rfl rfl rfl rfl
       case h =>
        simp [go_sem, ↓IntWalk.iteOmega, ev (hE.g e7)]
        with_reducible rfl
       intro a242 hE e41 kp
       apply Z02 42 hE k rfl rfl rfl rfl
       case h =>
        have q0 : w49.cell? ⟨xb, 0, none⟩ = some (.int .i64 kd) := (OwnT.blk O 4 rfl).cell 0
        simp [go_sem, ↓IntWalk.iteOmega, ev e41, q0]
        with_reducible rfl
       intro a243 hE e42 kp
       refine wpList_nil ?_
       replace e0 := hE.g e0
       replace e3 := hE.g e3
       replace e4 := hE.g e4
       replace e5 := hE.g e5
       replace e6 := hE.g e6
       replace e7 := hE.g e7
       replace k := k.env hE
       clear hE
       refine Z01 ?_
       refine wp_block ?_
       refine wp_seq ?_
       refine wp_seq ?_
       refine wp_region_lit ?_
       have hE := Env.refl a243 [66, 65]
       refine sd 66 hE k (Z06 (Z0q rfl (hE.g e42) rfl) (decide_eq_false hk1)) ?_
       intro a244 hE e66 kp
       refine sd 65 hE k (Z00 rfl e66) ?_
       intro a245 hE e65 kp
       refine wpList_nil ?_
       replace e0 := hE.g e0
       replace e3 := hE.g e3
       replace e4 := hE.g e4
       replace e5 := hE.g e5
       replace e6 := hE.g e6
       replace e7 := hE.g e7
       replace e42 := hE.g e42
       replace k := k.env hE
       clear hE
       refine Z01 ?_
       refine Z05 e65 rfl ?_
       refine wp_region_lit ?_
       have hE := Env.refl a245 [67, 65]
       refine sd 67 hE k (Z06 (Z0q rfl (hE.g e42) rfl) (decide_eq_false hk2)) ?_
       intro a246 hE e67 kp
       refine sd 65 hE k (Z00 rfl e67) ?_
       intro a247 hE e65 kp
       refine wpList_nil ?_
       replace e0 := hE.g e0
       replace e3 := hE.g e3
       replace e4 := hE.g e4
       replace e5 := hE.g e5
       replace e6 := hE.g e6
       replace e7 := hE.g e7
       replace e42 := hE.g e42
       replace k := k.env hE
       clear hE
       refine Z01 ?_
       refine Z05 e65 rfl ?_
       refine wp_seq ?_
       refine wp_region_lit ?_
       have hE := Env.refl a247 [98, 97]
       refine sd 98 hE k (Z06 (Z0q rfl (hE.g e42) rfl) (decide_eq_false hk3)) ?_
       intro a248 hE e98 kp
       refine sd 97 hE k (Z00 rfl e98) ?_
       intro a249 hE e97 kp
       refine wpList_nil ?_
       replace e0 := hE.g e0
       replace e3 := hE.g e3
       replace e4 := hE.g e4
       replace e5 := hE.g e5
       replace e6 := hE.g e6
       replace e7 := hE.g e7
       replace k := k.env hE
       clear hE e42 e65
       refine Z01 ?_
       refine Z05 e97 rfl ?_
       refine wp_seq ?_
       refine wp_region_lit ?_
       have hE := Env.refl a249 [44, 45, 46, 47, 48, 49, 50, 51, 52, 53, 43, 54, 55, 15, 16]
       refine sm 44 hE k e3 ?_
       intro a250 hE e44 kp
       apply Z02 45 hE k rfl rfl rfl rfl
       case h =>
        simp [go_sem, ↓IntWalk.iteOmega, ev e44]
        with_reducible rfl
       intro a251 hE e45 kp
       refine sm 46 hE k e4 ?_
       intro a252 hE e46 kp
       replace e45 := kt kp e45
       apply Z02 47 hE k rfl rfl rfl rfl
       case h =>
        simp [go_sem, ↓IntWalk.iteOmega, ev (hE.g e7)]
        with_reducible rfl
       intro a253 hE e47 kp
       replace e45 := kt kp e45
       replace e46 := kt kp e46
       apply Z02 48 hE k rfl rfl rfl rfl
       case h =>
        simp [go_sem, ↓IntWalk.iteOmega, ev e47]
        with_reducible rfl
       intro a254 hE e48 kp
       replace e45 := kt kp e45
       replace e46 := kt kp e46
       apply Z02 49 hE k rfl rfl rfl rfl
       case h =>
        have q0 : w49.cell? ⟨xb, 6, none⟩ = some (.int .u64 ↑pk) := (OwnT.blk O 4 rfl).cell 6
        simp [go_sem, ↓IntWalk.iteOmega, ev e48, q0]
        with_reducible rfl
       intro a255 hE e49 kp
       replace e45 := kt kp e45
       replace e46 := kt kp e46
       apply Z02 50 hE k rfl rfl rfl rfl
       case h =>
        simp [go_sem, ↓IntWalk.iteOmega, ev (hE.g e7)]
        with_reducible rfl
       intro a256 hE e50 kp
       replace e45 := kt kp e45
       replace e46 := kt kp e46
       replace e49 := kt kp e49
       apply Z02 51 hE k rfl rfl rfl rfl
       case h =>
        simp [go_sem, ↓IntWalk.iteOmega, ev e50]
        with_reducible rfl
       intro a257 hE e51 kp
       replace e45 := kt kp e45
       replace e46 := kt kp e46
       replace e49 := kt kp e49
       apply Z02 52 hE k rfl rfl rfl rfl
       case h =>
        have q0 : w49.cell? ⟨xb, 7, none⟩ = some (.int .u64 ↑pv) := (OwnT.blk O 4 rfl).cell 7
        simp [go_sem, ↓IntWalk.iteOmega, ev e51, q0]
        with_reducible rfl
       intro a258 hE e52 kp
       replace e45 := kt kp e45
       replace e46 := kt kp e46
       replace e49 := kt kp e49
       apply Z07 53 hE k rfl (by rfl) (by rfl) rfl
       case h =>
        simp [go_sem, ↓IntWalk.iteOmega, ev e45, ev e46, ev e49, ev e52]
        with_reducible exact ⟨rfl, rfl⟩
       case hc => exact lPut (R := _ :: _ :: []) (ky := pk) (vl := pv) _ O hT.norm (by split <;> omega) (by omega) hpk hpv
       clear O
       rintro e w260 ⟨N2, r2, er, B2, cap2, vs2, rfl, O, hPL⟩
       refine ⟨_, rfl, ?_⟩
       intro a259 hE e53 kp
       refine sd 43 hE k (Z03 rfl e53) ?_
       intro a261 hE e43 kp
       apply Z02 54 hE k rfl rfl rfl rfl
       case h =>
        simp [go_sem, ↓IntWalk.iteOmega, ev e43]
        with_reducible rfl
       intro a262 hE e54 kp
       replace e43 := kt kp e43
       apply Z02 55 hE k rfl rfl rfl rfl
       case h =>
        simp [go_sem, ↓IntWalk.iteOmega, ev e43]
        with_reducible rfl
       intro a263 hE e55 kp
       replace e54 := kt kp e54
       refine sd 15 hE k (Z00 rfl e54) ?_
       intro a264 hE e15 kp
       replace e55 := kt kp e55
       refine sd 16 hE k (Z00 rfl e55) ?_
       intro a265 hE e16 kp
       replace e15 := kt kp e15
       refine wpList_nil ?_
       replace e0 := hE.g e0
       replace e3 := hE.g e3
       replace e5 := hE.g e5
       replace e6 := hE.g e6
       replace e7 := hE.g e7
       replace k := k.env hE
       clear hE e4 e97
       refine Z01 ?_
       obtain ⟨⟨M, rfl, hM⟩, hPL⟩ := hPL
       rcases hPL with ⟨rfl, rfl, -⟩ | ⟨rfl, r', rfl, hr1, hr2, hT2⟩

       · skip
         refine wp_seq ?_
         refine wp_seq ?_
         refine wp_region_lit ?_
         have hE := Env.refl a265 [56, 57]
         refine sm 56 hE k e16 ?_
         intro a266 hE e56 kp
         refine sd 57 hE k (Z06 (Z0s rfl e56 rfl) (decide_eq_true (by omega))) ?_
         intro a267 hE e57 kp
         refine wpList_nil ?_
         replace e0 := hE.g e0
         replace e3 := hE.g e3
         replace e5 := hE.g e5
         replace e6 := hE.g e6
         replace e7 := hE.g e7
         replace e15 := hE.g e15
         replace e16 := hE.g e16
         replace k := k.env hE
         clear hE
         refine Z01 ?_
         refine Z08 e57 rfl ?_
         refine wp_seq ?_
         refine wp_region_lit ?_
         have hE := Env.refl a267 [58, 59, 2]
         refine sm 58 hE k e16 ?_
         intro a268 hE e58 kp
         refine sd 59 hE k (Z06 (Z0q rfl e58 rfl) (decide_eq_true rfl)) ?_
         intro a269 hE e59 kp
         refine sd 2 hE k (Z00 rfl e59) ?_
         intro a270 hE e2 kp
         refine wpList_nil ?_
         replace k := k.env hE
         clear hE e0 e3 e5 e6 e7 e15 e16 e57
         refine Z01 ?_
         refine wp_ret ?_
         refine Z09 ?_
         refine Z0r ?_
         refine Z09 ?_
         refine Z0r ?_
         refine Z09 ?_
         refine Z09 ?_
         refine Z0r ?_
         refine Z09 ?_
         refine Z0w rfl k e2 ?_
         exact ⟨rfl, O.below⟩
       · skip
         obtain ⟨_, _, eu, -, -, hur, -⟩ := Z0n (OwnT.get O 3 rfl : (tPs (.slice Bu P.length cu) P).holds _); injection eu with eu1 _ eu2; subst eu1 eu2
         refine wp_seq ?_
         refine wp_seq ?_
         refine wp_region_lit ?_
         have hE := Env.refl a265 [56, 57]
         refine sm 56 hE k e16 ?_
         intro a271 hE e56 kp
         refine sd 57 hE k (Z06 (Z0s rfl e56 rfl) (decide_eq_false (by omega))) ?_
         intro a272 hE e57 kp
         refine wpList_nil ?_
         replace e0 := hE.g e0
         replace e3 := hE.g e3
         replace e5 := hE.g e5
         replace e6 := hE.g e6
         replace e7 := hE.g e7
         replace e15 := hE.g e15
         replace e16 := hE.g e16
         replace k := k.env hE
         clear hE
         refine Z01 ?_
         refine Z05 e57 rfl ?_
         refine wp_skip ?_
         refine Z01 (wp_seq ?_)
         refine wp_region_lit ?_
         have hE := Env.refl a272 [60, 4]
         refine sm 60 hE k e15 ?_
         intro a273 hE e60 kp
         refine sd 4 hE k (Z00 rfl e60) ?_
         intro a274 hE e4 kp
         refine wpList_nil ?_
         replace e0 := hE.g e0
         replace e3 := hE.g e3
         replace e5 := hE.g e5
         replace e6 := hE.g e6
         replace e7 := hE.g e7
         replace k := k.env hE
         clear hE e15 e16 e57
         refine Z01 ?_
         refine wp_region_lit ?_
         have hE := Env.refl a274 [61, 62, 63, 64, 5]
         refine sd 61 hE k (Z03 rfl e5) ?_
         intro a275 hE e61 kp
         replace e5 := kt kp e5
         apply Z02 62 hE k rfl rfl rfl rfl
         case h =>
          simp [go_sem, ↓IntWalk.iteOmega, ev (hE.g e7)]
          with_reducible rfl
         intro a276 hE e62 kp
         replace e5 := kt kp e5
         replace e61 := kt kp e61
         apply Z02 63 hE k rfl rfl rfl rfl
         case h =>
          have q0 : w260.cell? ⟨xb, 6, none⟩ = some (.int .u64 ↑pk) := (OwnT.blk O 4 rfl).cell 6
          have q1 : w260.cell? ⟨xb, 7, none⟩ = some (.int .u64 ↑pv) := (OwnT.blk O 4 rfl).cell 7
          simp [go_sem, ↓IntWalk.iteOmega, ev e62, q0, q1]
          with_reducible rfl
         intro a277 hE e63 kp
         replace e5 := kt kp e5
         replace e61 := kt kp e61
         apply Z07 64 hE k rfl (by rfl) (by rfl) rfl
         case h =>
          simp [go_sem, ↓IntWalk.iteOmega, ev e61, ev e63]
          with_reducible exact ⟨rfl, rfl⟩
         case hc => exact rput8 (x := (pk, pv)) P _ rfl hur (by omega) hup
         rintro e w279 ⟨v', rfl, hv, RE⟩
         replace O := O.newRow RE hv
         obtain ⟨Bu2, cu2, rfl⟩ := Z1r (OwnT.t0 O : World.ownsRow _ 0 38 2 v' (insP (pk, pv) P).length _)
         refine ⟨_, rfl, ?_⟩
         intro a278 hE e64 kp
         replace e5 := kt kp e5
         refine sd 5 hE k (Z00 rfl e64) ?_
         intro a280 hE e5 kp
         refine wpList_nil ?_
         replace e0 := hE.g e0
         replace e3 := hE.g e3
         replace e4 := hE.g e4
         replace e6 := hE.g e6
         replace k := k.env hE
         clear hE e7
         refine Z0m ?_
         refine Z01 ?_
         exact ⟨k, e0, e3, e6, r', insP (pk, pv) P, Bu2, cu2, N ++ M, B2, cap2, vs2, e4, e5, by rw [List.length_append]; omega, hT2.next (by omega), (OwnT.pickR (L := [_, _, _, _, _, _]) (R := []) O [1, 2, 3, 0] (by decide))⟩
 · clear k e0 e3 e4 e5 e6 e7 O
   intro a281 w282 h_
   obtain ⟨k, e0, e3, e6, rt2, P2, Bu2, cu2, N2, B2, cap2, vs2, e4, e5, hN2, hT2, O⟩ := h_
   obtain ⟨Q, hQ⟩ : ∃ Q, cutP 4294967296 8589934591 P2 = Q := ⟨_, rfl⟩
   have hP2l := hT2.len
   have hQl : Q.length ≤ P2.length := by rw [← hQ]; exact List.length_filter_le _ _

   have hPL : ∀ W, OwnT W0.heap.size W0 ((tBlk sb 28 #[.slice B2 N2.length cap2, .int .i64 511]) :: (tRow 125 2 (.slice B2 N2.length cap2) N2.length (leafV vs2 N2)) :: (tPool vs2 N2) :: (tPs (.slice Bu2 P2.length cu2) P2) :: []) W → Calls Try.prog 44 #[.iface 24 (.pointer (some ⟨sb, 0, none⟩)), .int .i64 rt2] W fun e w' => ∃ (lv : Value) (gv : Int), e = .returned (.tuple #[lv, .int .i64 gv]) ∧ ((Q.all vlOkB = true ∧ gv = 0 ∧ ∃ B' c', lv = .slice B' Q.length c' ∧ OwnT W0.heap.size W0 (shT sb 511 B2 cap2 vs2 N2 (tVls (.slice B' Q.length c') (Q.map vlOf) :: tPs (.slice Bu2 P2.length cu2) P2 :: [])) w') ∨ (Q.all vlOkB = false ∧ gv = 3 ∧ lv = .slice none 0 0 ∧ OwnT W0.heap.size W0 ((tBlk sb 28 #[.slice B2 N2.length cap2, .int .i64 511]) :: (tRow 125 2 (.slice B2 N2.length cap2) N2.length (leafV vs2 N2)) :: (tPool vs2 N2) :: (tPs (.slice Bu2 P2.length cu2) P2) :: []) w')) := fun W O => by
    refine (vList (R := _ :: []) hQ W O hT2 (by omega) (by omega)).mono ?_
    rintro e w' (⟨h1, B', c', rfl, h2⟩ | ⟨h1, rfl, h2⟩)
    · exact ⟨_, _, rfl, .inl ⟨h1, rfl, B', c', by rw [List.length_map], by rw [List.length_map] at h2; exact h2⟩⟩
    · exact ⟨_, _, rfl, .inr ⟨h1, rfl, rfl, h2⟩⟩
   refine wp_seq ?_
   refine wp_region_lit ?_
   have hE := Env.refl a281 [132, 133, 134, 135, 131, 136, 137, 17, 18]
   refine sm 132 hE k e3 ?_
   intro a283 hE e132 kp
   apply Z02 133 hE k rfl rfl rfl rfl
   case h =>
    simp [go_sem, ↓IntWalk.iteOmega, ev e132]
    with_reducible rfl
   intro a284 hE e133 kp
   refine sm 134 hE k e4 ?_
   intro a285 hE e134 kp
   replace e133 := kt kp e133
   apply Z07 135 hE k rfl (by rfl) (by rfl) rfl
   case h =>
    simp [go_sem, ↓IntWalk.iteOmega, ev e133, ev e134]
    with_reducible exact ⟨rfl, rfl⟩
   case hc => exact hPL _ O
   rintro e w287 ⟨lv, gv, rfl, hLv⟩
   refine ⟨_, rfl, ?_⟩
   intro a286 hE e135 kp
   refine sd 131 hE k (Z03 rfl e135) ?_
   intro a288 hE e131 kp
   apply Z02 136 hE k rfl rfl rfl rfl
   case h =>
    simp [go_sem, ↓IntWalk.iteOmega, ev e131]
    with_reducible rfl
   intro a289 hE e136 kp
   replace e131 := kt kp e131
   apply Z02 137 hE k rfl rfl rfl rfl
   case h =>
    simp [go_sem, ↓IntWalk.iteOmega, ev e131]
    with_reducible rfl
   intro a290 hE e137 kp
   replace e136 := kt kp e136
   refine sd 17 hE k (Z00 rfl e136) ?_
   intro a291 hE e17 kp
   replace e137 := kt kp e137
   refine sd 18 hE k (Z00 rfl e137) ?_
   intro a292 hE e18 kp
   replace e17 := kt kp e17
   refine wpList_nil ?_
   replace e0 := hE.g e0
   replace e3 := hE.g e3
   replace e4 := hE.g e4
   replace e5 := hE.g e5
   replace e6 := hE.g e6
   replace k := k.env hE
   clear hE
   refine Z01 ?_
   rcases hLv with ⟨hall, rfl, Bl, cl, rfl, O⟩ | ⟨hall, rfl, rfl, O⟩
   · skip
     obtain ⟨_, _, eu, -, -, hur, -⟩ := Z0n (OwnT.get O 4 rfl : (tPs (.slice Bu2 P2.length cu2) P2).holds _); injection eu with eu1 _ eu2; subst eu1 eu2
     refine wp_seq ?_
     refine wp_region_lit ?_
     have hE := Env.refl a292 [139, 140, 138, 141, 142, 19, 20]
     refine sm 139 hE k e5 ?_
     intro a293 hE e139 kp
     apply Z07 140 hE k rfl (by rfl) (by rfl) rfl
     case h =>
      simp [go_sem, ↓IntWalk.iteOmega, ev e139]
      with_reducible exact ⟨rfl, rfl⟩
     case hc => exact rvlist P2 hQ hT2.wf _ rfl hur (by omega)
     rintro e w295 hRL
     obtain ⟨-, v', rfl, hv, RE⟩ := hRL.resolve_right (fun h => absurd (hall.symm.trans h.1) Bool.noConfusion)
     clear hRL
     replace O := O.newRow RE hv
     obtain ⟨Bw, cw, rfl⟩ := Z1r (OwnT.t0 O : World.ownsRow _ 0 89 5 v' Q.length _)
     refine ⟨_, rfl, ?_⟩
     intro a294 hE e140 kp
     refine sd 138 hE k (Z03 rfl e140) ?_
     intro a296 hE e138 kp
     apply Z02 141 hE k rfl rfl rfl rfl
     case h =>
      simp [go_sem, ↓IntWalk.iteOmega, ev e138]
      with_reducible rfl
     intro a297 hE e141 kp
     replace e138 := kt kp e138
     apply Z02 142 hE k rfl rfl rfl rfl
     case h =>
      simp [go_sem, ↓IntWalk.iteOmega, ev e138]
      with_reducible rfl
     intro a298 hE e142 kp
     replace e141 := kt kp e141
     refine sd 19 hE k (Z00 rfl e141) ?_
     intro a299 hE e19 kp
     replace e142 := kt kp e142
     refine sd 20 hE k (Z00 rfl e142) ?_
     intro a300 hE e20 kp
     replace e19 := kt kp e19
     refine wpList_nil ?_
     replace e0 := hE.g e0
     replace e3 := hE.g e3
     replace e4 := hE.g e4
     replace e5 := hE.g e5
     replace e6 := hE.g e6
     replace e17 := hE.g e17
     replace e18 := hE.g e18
     replace k := k.env hE
     clear hE
     refine Z01 (wp_seq ?_)
     refine wp_seq ?_
     refine wp_region_lit ?_
     have hE := Env.refl a300 [143, 144]
     refine sm 143 hE k e20 ?_
     intro a301 hE e143 kp
     refine sd 144 hE k (Z1g rfl e143) ?_
     intro a302 hE e144 kp
     refine wpList_nil ?_
     replace e0 := hE.g e0
     replace e3 := hE.g e3
     replace e4 := hE.g e4
     replace e5 := hE.g e5
     replace e6 := hE.g e6
     replace e17 := hE.g e17
     replace e18 := hE.g e18
     replace e19 := hE.g e19
     replace k := k.env hE
     clear hE e20
     refine Z01 ?_
     refine Z05 e144 rfl ?_
     refine wp_skip ?_
     refine Z01 (wp_seq ?_)
     refine wp_seq ?_
     refine wp_region_lit ?_
     have hE := Env.refl a302 [152, 153, 154, 155, 156, 157, 158, 159, 160]
     refine sm 152 hE k e18 ?_
     intro a303 hE e152 kp
     refine sd 153 hE k (Z06 (Z0s rfl e152 rfl) (decide_eq_false (by omega))) ?_
     intro a304 hE e153 kp
     refine sd 154 hE k (Z03 rfl e153) ?_
     intro a305 hE e154 kp
     apply Z04 155 hE k rfl rfl rfl rfl rfl e154
     case h =>
      exact Z03 rfl (hE.g e17)
     intro a306 hE e155 kp
     replace e154 := kt kp e154
     apply Z04 156 hE k rfl rfl rfl rfl rfl e154
     case h =>
      exact Z0h Try.underlying96 rfl e155
     intro a307 hE e156 kp
     replace e154 := kt kp e154
     apply Z04 157 hE k rfl rfl rfl rfl rfl e154
     case h =>
      exact Z03 rfl (hE.g e19)
     intro a308 hE e157 kp
     replace e154 := kt kp e154
     replace e156 := kt kp e156
     apply Z04 158 hE k rfl rfl rfl rfl rfl e154
     case h =>
      exact Z0h Try.underlying96 rfl e157
     intro a309 hE e158 kp
     replace e154 := kt kp e154
     replace e156 := kt kp e156
     apply Z04 159 hE k rfl rfl rfl rfl rfl e154
     case h =>
      exact Z06 (Z0s rfl e156 e158) (decide_eq_false (fun h => h rfl))
     intro a310 hE e159 kp
     replace e154 := kt kp e154
     refine sd 160 hE k (Z0a rfl e154 e159) ?_
     intro a311 hE e160 kp
     refine wpList_nil ?_
     replace e0 := hE.g e0
     replace e3 := hE.g e3
     replace e4 := hE.g e4
     replace e5 := hE.g e5
     replace e6 := hE.g e6
     replace e17 := hE.g e17
     replace e19 := hE.g e19
     replace k := k.env hE
     clear hE e18 e144
     refine Z01 ?_
     refine Z05 e160 rfl ?_
     refine wp_skip ?_
     refine Z01 ?_
     replace O : OwnT W0.heap.size W0 (tVls (.slice Bw Q.length cw) (Q.map vlOf) :: shT sb 511 B2 cap2 vs2 N2 (tVls (.slice Bl Q.length cl) (Q.map vlOf) :: tPs (.slice Bu2 P2.length cu2) P2 :: [])) w295 := by have h := O; unfold tVls at h ⊢; rw [List.length_map] at h ⊢; exact h
     refine wp_seq ?_
     refine wp_region_lit ?_
     have hE := Env.refl a311 [21]
     refine sd 21 hE k (Z00 rfl rfl) ?_
     intro a312 hE e21 kp
     refine wpList_nil ?_
     replace e0 := hE.g e0
     replace e3 := hE.g e3
     replace e4 := hE.g e4
     replace e5 := hE.g e5
     replace e6 := hE.g e6
     replace e17 := hE.g e17
     replace e19 := hE.g e19
     replace k := k.env hE
     clear hE e160
     refine Z01 ?_
     refine wp_block ?_
     refine wp_loop (fun a w => Fr 176 a ∧ a.eval (.tmp 0) = .slice (some ⟨b, o, none⟩) n cp ∧ a.eval (.tmp 3) = .pointer (some ⟨sb, 0, none⟩) ∧ a.eval (.tmp 4) = .int .i64 ↑rt2 ∧ a.eval (.tmp 5) = .slice Bu2 P2.length cu2 ∧ a.eval (.tmp 6) = .int .i64 ↑i ∧ a.eval (.tmp 17) = .slice Bl Q.length cl ∧ a.eval (.tmp 19) = .slice Bw Q.length cw ∧ ∃ (j : Nat), a.eval (.tmp 21) = .int .i64 ↑j ∧ j ≤ Q.length ∧ OwnT W0.heap.size W0 ((tVls (.slice Bw Q.length cw) (Q.map vlOf)) :: (tBlk sb 28 #[.slice B2 N2.length cap2, .int .i64 511]) :: (tRow 125 2 (.slice B2 N2.length cap2) N2.length (leafV vs2 N2)) :: (tPool vs2 N2) :: (tVls (.slice Bl Q.length cl) (Q.map vlOf)) :: (tPs (.slice Bu2 P2.length cu2) P2) :: []) w) (fun a w => Q.length - (intOf (a.eval (.tmp 21))).toNat) ?_ ?_
     · exact ⟨k, e0, e3, e4, e5, e6, e17, e19, 0, e21, Nat.zero_le _, O⟩
     intro a313 w314 hI
     clear k e0 e3 e4 e5 e6 e17 e19
     obtain ⟨k, e0, e3, e4, e5, e6, e17, e19, h_⟩ := hI
     clear O e21 hur
     obtain ⟨j, e21, hj, O⟩ := h_
     have mj := e21
     by_cases hltj : j < Q.length
     · have hltjI : (j : Int) < (Q.length : Int) := by omega
       obtain ⟨y, hy⟩ : ∃ y, (Q.map vlOf)[j]? = some y := ⟨_, List.getElem?_eq_getElem (by rw [List.length_map]; omega)⟩
       obtain ⟨i_, s, r, p, f⟩ := y
       obtain ⟨gw, rfl, -⟩ : ∃ gl, Bw = some ⟨gl, 0, none⟩ ∧ True := by obtain ⟨g, h, _⟩ := vl_cells (OwnT.get O 0 rfl) hy; exact ⟨g, h, trivial⟩
       obtain ⟨gl, rfl, -⟩ : ∃ gl, Bl = some ⟨gl, 0, none⟩ ∧ True := by obtain ⟨g, h, _⟩ := vl_cells (OwnT.get O 4 rfl) hy; exact ⟨g, h, trivial⟩

       refine wp_seq ?_
       refine wp_seq ?_
       refine wp_region_lit ?_
       have hE := Env.refl a313 [161, 162, 163, 164]
       refine sm 161 hE k e21 ?_
       intro a315 hE e161 kp
       refine sm 162 hE k e17 ?_
       intro a316 hE e162 kp
       replace e161 := kt kp e161
       refine sd 163 hE k (Z0h Try.underlying96 rfl e162) ?_
       intro a317 hE e163 kp
       replace e161 := kt kp e161
       refine sd 164 hE k (Z06 (Z17 rfl e161 e163) (decide_eq_true (by omega))) ?_
       intro a318 hE e164 kp
       refine wpList_nil ?_
       replace e0 := hE.g e0
       replace e3 := hE.g e3
       replace e4 := hE.g e4
       replace e5 := hE.g e5
       replace e6 := hE.g e6
       replace e17 := hE.g e17
       replace e19 := hE.g e19
       replace e21 := hE.g e21
       replace k := k.env hE
       clear hE
       refine Z01 ?_
       refine Z08 e164 rfl ?_
       refine wp_skip ?_
       refine Z01 (wp_seq ?_)
       refine wp_block ?_
       refine wp_seq ?_
       refine Z0e (R := Ext) (w0 := w314) [[], [], [0, 1], [0, 1, 2], [], [], [4, 5], [4, 5, 6], [0, 1, 2, 3, 4, 5, 6, 7]] [167, 168, 169, 170, 171, 172, 173, 174, 175] Ext.refl (fun _ _ _ => Ext.trans) (Ext.drew _) (by kernel_rfl) ?_
       apply bd 167 k rfl rfl rfl
       case h =>
        intro ax wx hE hR hF
        exact Z03 rfl (hE.g e17)
       apply bd 168 k rfl rfl rfl
       case h =>
        intro ax wx hE hR hF
        exact Z03 rfl (hE.g e21)
       apply bd 169 k rfl rfl rfl
       case h =>
        intro ax wx hE hR hF
        have e167 := hF 0 (det 167 _) (by decide) (.tail _ (.head _))
        have e168 := hF 1 (det 168 _) (by decide) (.head _)
        simp [go_sem, ↓IntWalk.iteOmega, ev e167, ev e168]
        with_reducible rfl
       apply bd 170 k rfl rfl rfl
       case h =>
        intro ax wx hE hR hF
        have e169 := hF 2 (det 169 _) (by decide) (.head _)
        obtain ⟨_, e, n0, n1, n2, n3, n4⟩ := vl_cells (OwnT.get (OwnT.ext O hR) 4 rfl : (tVls (.slice (some ⟨gl, 0, none⟩) Q.length cl) (Q.map vlOf)).holds _) hy; injection e with e; injection e with e; subst e
        simp [go_sem, ↓IntWalk.iteOmega, ev e169, n0, n1, n2, n3, n4]
        with_reducible rfl
       apply bd 171 k rfl rfl rfl
       case h =>
        intro ax wx hE hR hF
        exact Z03 rfl (hE.g e19)
       apply bd 172 k rfl rfl rfl
       case h =>
        intro ax wx hE hR hF
        exact Z03 rfl (hE.g e21)
       apply bd 173 k rfl rfl rfl
       case h =>
        intro ax wx hE hR hF
        have e171 := hF 4 (det 171 _) (by decide) (.tail _ (.head _))
        have e172 := hF 5 (det 172 _) (by decide) (.head _)
        simp [go_sem, ↓IntWalk.iteOmega, ev e171, ev e172]
        with_reducible rfl
       apply bd 174 k rfl rfl rfl
       case h =>
        intro ax wx hE hR hF
        have e173 := hF 6 (det 173 _) (by decide) (.head _)
        obtain ⟨_, e, n0, n1, n2, n3, n4⟩ := vl_cells (OwnT.get (OwnT.ext O hR) 0 rfl : (tVls (.slice (some ⟨gw, 0, none⟩) Q.length cw) (Q.map vlOf)).holds _) hy; injection e with e; injection e with e; subst e
        simp [go_sem, ↓IntWalk.iteOmega, ev e173, n0, n1, n2, n3, n4]
        with_reducible rfl
       apply bd 175 k rfl rfl rfl
       case h =>
        intro ax wx hE hR hF
        have e170 := hF 3 (det 170 _) (by decide) (.tail _ (.tail _ (.tail _ (.tail _ (.head _)))))
        have e174 := hF 7 (det 174 _) (by decide) (.head _)
        exact x_neVl rfl e170 e174
       apply Build.stop
       refine ⟨by kernel_rfl, .inl ⟨rfl, ?_⟩⟩
       intro a319 w320 hE R hF
       have e175 : a319.eval (.tmp 175) = _ := hF 8 (det 175 _) (.head _)
       clear hF
       replace O := OwnT.ext O R
       clear R
       replace e0 := hE.g e0
       replace e3 := hE.g e3
       replace e4 := hE.g e4
       replace e5 := hE.g e5
       replace e6 := hE.g e6
       replace e17 := hE.g e17
       replace e19 := hE.g e19
       replace e21 := hE.g e21
       replace k := k.env hE
       clear hE e164
       refine Z01 ?_
       refine Z05 e175 rfl ?_
       refine wp_skip ?_
       refine Z0m ?_
       refine Z01 ?_
       refine wp_region_lit ?_
       have hE := Env.refl a319 [165, 166, 21]
       refine sd 165 hE k (Z03 rfl e21) ?_
       intro a321 hE e165 kp
       replace e21 := kt kp e21
       refine sd 166 hE k (Z13 rfl e165 rfl (by omega)) ?_
       intro a322 hE e166 kp
       replace e21 := kt kp e21
       refine sd 21 hE k (Z00 rfl e166) ?_
       intro a323 hE e21 kp
       refine wpList_nil ?_
       replace e0 := hE.g e0
       replace e3 := hE.g e3
       replace e4 := hE.g e4
       replace e5 := hE.g e5
       replace e6 := hE.g e6
       replace e17 := hE.g e17
       replace e19 := hE.g e19
       replace k := k.env hE
       clear hE e175
       refine Z01 ?_
       refine ⟨⟨k, e0, e3, e4, e5, e6, e17, e19, j + 1, e21, by omega, O⟩, ?_⟩
       rw [e21, mj]; simp only [intOf]; omega
     · skip
       refine wp_seq ?_
       refine wp_seq ?_
       refine wp_region_lit ?_
       have hE := Env.refl a313 [161, 162, 163, 164]
       refine sm 161 hE k e21 ?_
       intro a324 hE e161 kp
       refine sm 162 hE k e17 ?_
       intro a325 hE e162 kp
       replace e161 := kt kp e161
       refine sd 163 hE k (Z0h Try.underlying96 rfl e162) ?_
       intro a326 hE e163 kp
       replace e161 := kt kp e161
       refine sd 164 hE k (Z06 (Z17 rfl e161 e163) (decide_eq_false (by omega))) ?_
       intro a327 hE e164 kp
       refine wpList_nil ?_
       replace e0 := hE.g e0
       replace e3 := hE.g e3
       replace e4 := hE.g e4
       replace e5 := hE.g e5
       replace e6 := hE.g e6
       replace e17 := hE.g e17
       replace e19 := hE.g e19
       replace e21 := hE.g e21
       replace k := k.env hE
       clear hE
       refine Z01 ?_
       refine Z05 e164 rfl ?_
       refine wp_exit ?_
       refine Z0u ?_
       refine Z0u ?_
       refine Z18 ?_
       refine Z0m ?_
       refine Z01 ?_
       refine wp_region_lit ?_
       have hE := Env.refl a327 [35, 36, 6]
       refine sd 35 hE k (Z03 rfl e6) ?_
       intro a328 hE e35 kp
       replace e6 := kt kp e6
       refine sd 36 hE k (Z13 rfl e35 rfl (by omega)) ?_
       intro a329 hE e36 kp
       replace e6 := kt kp e6
       refine sd 6 hE k (Z00 rfl e36) ?_
       intro a330 hE e6 kp
       refine wpList_nil ?_
       replace e0 := hE.g e0
       replace e3 := hE.g e3
       replace e4 := hE.g e4
       replace e5 := hE.g e5
       replace k := k.env hE
       clear hE e17 e19 e21 e164
       refine Z01 ?_
       refine ⟨⟨k, e0, e3, i + 1, rt2, P2, Bu2, cu2, N2, B2, cap2, vs2, e4, e5, e6, by omega, hN2, hT2.le (by omega), (OwnT.pickR (L := [_, _, _, _, _, _]) (R := []) O [1, 2, 3, 5] (by decide))⟩, ?_⟩
       rw [e6, mi]; simp only [intOf]; omega
   · skip
     obtain ⟨_, _, eu, -, -, hur, -⟩ := Z0n (OwnT.get O 3 rfl : (tPs (.slice Bu2 P2.length cu2) P2).holds _); injection eu with eu1 _ eu2; subst eu1 eu2
     refine wp_seq ?_
     refine wp_region_lit ?_
     have hE := Env.refl a292 [139, 140, 138, 141, 142, 19, 20]
     refine sm 139 hE k e5 ?_
     intro a331 hE e139 kp
     apply Z07 140 hE k rfl (by rfl) (by rfl) rfl
     case h =>
      simp [go_sem, ↓IntWalk.iteOmega, ev e139]
      with_reducible exact ⟨rfl, rfl⟩
     case hc => exact rvlist P2 hQ hT2.wf _ rfl hur (by omega)
     rintro e w333 hRL
     obtain ⟨-, rfl, RE⟩ := hRL.resolve_left (fun h => absurd (hall.symm.trans h.1) Bool.noConfusion)
     clear hRL
     replace O := OwnT.ext O RE
     refine ⟨_, rfl, ?_⟩
     intro a332 hE e140 kp
     refine sd 138 hE k (Z03 rfl e140) ?_
     intro a334 hE e138 kp
     apply Z02 141 hE k rfl rfl rfl rfl
     case h =>
      simp [go_sem, ↓IntWalk.iteOmega, ev e138]
      with_reducible rfl
     intro a335 hE e141 kp
     replace e138 := kt kp e138
     apply Z02 142 hE k rfl rfl rfl rfl
     case h =>
      simp [go_sem, ↓IntWalk.iteOmega, ev e138]
      with_reducible rfl
     intro a336 hE e142 kp
     replace e141 := kt kp e141
     refine sd 19 hE k (Z00 rfl e141) ?_
     intro a337 hE e19 kp
     replace e142 := kt kp e142
     refine sd 20 hE k (Z00 rfl e142) ?_
     intro a338 hE e20 kp
     replace e19 := kt kp e19
     refine wpList_nil ?_
     replace e0 := hE.g e0
     replace e3 := hE.g e3
     replace e4 := hE.g e4
     replace e5 := hE.g e5
     replace e6 := hE.g e6
     replace e17 := hE.g e17
     replace e18 := hE.g e18
     replace k := k.env hE
     clear hE
     refine Z01 (wp_seq ?_)
     refine wp_seq ?_
     refine wp_region_lit ?_
     have hE := Env.refl a338 [143, 144]
     refine sm 143 hE k e20 ?_
     intro a339 hE e143 kp
     refine sd 144 hE k (Z1g rfl e143) ?_
     intro a340 hE e144 kp
     refine wpList_nil ?_
     replace e0 := hE.g e0
     replace e3 := hE.g e3
     replace e4 := hE.g e4
     replace e5 := hE.g e5
     replace e6 := hE.g e6
     replace e17 := hE.g e17
     replace e18 := hE.g e18
     replace e19 := hE.g e19
     replace k := k.env hE
     clear hE e20
     refine Z01 ?_
     refine Z08 e144 rfl ?_
     refine wp_seq ?_
     refine wp_seq ?_
     refine wp_region_lit ?_
     have hE := Env.refl a340 [145, 146, 147, 148, 149, 150, 151]
     refine sm 145 hE k e18 ?_
     intro a341 hE e145 kp
     refine sd 146 hE k (Z06 (Z0s rfl e145 rfl) (decide_eq_false (by omega))) ?_
     intro a342 hE e146 kp
     refine sd 147 hE k (Z03 rfl e146) ?_
     intro a343 hE e147 kp
     apply Z04 148 hE k rfl rfl rfl rfl rfl e147
     case h =>
      exact Z03 rfl (hE.g e17)
     intro a344 hE e148 kp
     replace e147 := kt kp e147
     apply Z04 149 hE k rfl rfl rfl rfl rfl e147
     case h =>
      exact Z0h Try.underlying96 rfl e148
     intro a345 hE e149 kp
     replace e147 := kt kp e147
     apply Z04 150 hE k rfl rfl rfl rfl rfl e147
     case h =>
      exact Z06 (Z0s rfl e149 rfl) (decide_eq_false (by omega))
     intro a346 hE e150 kp
     replace e147 := kt kp e147
     refine sd 151 hE k (Z0a rfl e147 e150) ?_
     intro a347 hE e151 kp
     refine wpList_nil ?_
     replace e0 := hE.g e0
     replace e3 := hE.g e3
     replace e4 := hE.g e4
     replace e5 := hE.g e5
     replace e6 := hE.g e6
     replace k := k.env hE
     clear hE e17 e18 e19 e144
     refine Z01 ?_
     refine Z05 e151 rfl ?_
     refine wp_skip ?_
     refine Z01 ?_
     refine wp_exit ?_
     refine Z0u ?_
     refine Z18 ?_
     refine Z01 ?_
     refine wp_region_lit ?_
     have hE := Env.refl a347 [35, 36, 6]
     refine sd 35 hE k (Z03 rfl e6) ?_
     intro a348 hE e35 kp
     replace e6 := kt kp e6
     refine sd 36 hE k (Z13 rfl e35 rfl (by omega)) ?_
     intro a349 hE e36 kp
     replace e6 := kt kp e6
     refine sd 6 hE k (Z00 rfl e36) ?_
     intro a350 hE e6 kp
     refine wpList_nil ?_
     replace e0 := hE.g e0
     replace e3 := hE.g e3
     replace e4 := hE.g e4
     replace e5 := hE.g e5
     replace k := k.env hE
     clear hE e151
     refine Z01 ?_
     refine ⟨⟨k, e0, e3, i + 1, rt2, P2, Bu2, cu2, N2, B2, cap2, vs2, e4, e5, e6, by omega, hN2, hT2.le (by omega), (OwnT.pickR (L := [_, _, _, _]) (R := []) O [0, 1, 2, 3] (by decide))⟩, ?_⟩
     rw [e6, mi]; simp only [intOf]; omega
theorem volsList_walk (w : World) (v0 : Value) (h0 : Arg Try.prog w 87 v0) :
 Calls Try.prog 10 #[v0] w fun e w' => e = .returned (.bool true) ∧ Below w.heap.size w w' := by
 obtain ⟨A, n, c, xs, rfl, _, _, a3, a4, a5⟩ := arg_dvs h0
 exact volsList_core xs w a3 a5 a4
end Go.Proofs.Ytngehbhhpkkijaa
