/- volumes' law: VolsList (printed by XVlL.gen.py). -/
import Derived.Test.YtngehbhhpkkijaaKVolsApart30
import Derived.Test.YtngehbhhpkkijaaKVolsApart33
namespace Go.Proofs.Ytngehbhhpkkijaa
attribute [local simp] BigFrame.eval_const BigFrame.eval_global BigFrame.eval_func
set_option linter.unusedVariables false
set_option linter.unusedSimpArgs false
open Go.RowKit Go.Maps


theorem Z57 : Try.prog.underlying 89 = some (.struct (Try.prog.fieldsOf 89)) := by kernel_rfl
theorem Z7k : Try.prog.stoodInHeld 89 = false := by kernel_rfl
theorem Z86 (w : World) (x y z u v : Value) : (part 3 #[x, y, z, u, v] 0).run Try.prog w = .ok x w := by kernel_rfl
theorem Z85 (w : World) (x y z u v : Value) : (part 3 #[x, y, z, u, v] 1).run Try.prog w = .ok y w := by kernel_rfl
theorem Z84 (w : World) (x y z u v : Value) : (part 3 #[x, y, z, u, v] 2).run Try.prog w = .ok z w := by kernel_rfl
theorem Z83 (w : World) (x y z u v : Value) : (part 4 #[x, y, z, u, v] 3).run Try.prog w = .ok u w := by kernel_rfl
theorem Z82 (w : World) (x y z u v : Value) : (part 3 #[x, y, z, u, v] 4).run Try.prog w = .ok v w := by kernel_rfl
/-- A volume is its own. -/
theorem eq_vl (d : Nat) (i s r f : Int) (p : Bool) (w : World) : (Op.equalIn (d + 2) 89 (.agg #[.int .i64 i, .int .i64 s, .int .i64 r, .bool p, .int .i64 f]) (.agg #[.int .i64 i, .int .i64 s, .int .i64 r, .bool p, .int .i64 f])).run Try.prog w = .ok true w := by
 have h0 := fun W x y => run_equalIn_int (P := Try.prog) W d 3 .i64 .i64 x y Try.underlying3
 have h1 := fun W x y => run_equalIn_bool (P := Try.prog) W d 4 x y Try.underlying4
 rw [run_equalIn_struct w (d + 1) _ _ _ Z57 Z7k]
 have hf : (Try.prog.fieldsOf 89).toList.map (fun f => (f.name, f.type, f.offset)) = [("Id", 3, 0), ("Size", 3, 1), ("Root", 3, 2), ("Pinned", 4, 3), ("From", 3, 4)] := by kernel_rfl
 generalize (Try.prog.fieldsOf 89).toList = L at hf ⊢
 obtain ⟨f1, f2, f3, f4, f5, rfl⟩ : ∃ f1 f2 f3 f4 f5, L = [f1, f2, f3, f4, f5] := by
  have hl : L.length = 5 := by have := congrArg List.length hf; simpa using this
  match L, hl with
  | [f1, f2, f3, f4, f5], _ => exact ⟨f1, f2, f3, f4, f5, rfl⟩
 simp only [List.map_cons, List.map_nil, List.cons.injEq, Prod.mk.injEq, and_true] at hf
 obtain ⟨⟨n1, t1, o1⟩, ⟨n2, t2, o2⟩, ⟨n3, t3, o3⟩, ⟨n4, t4, o4⟩, n5, t5, o5⟩ := hf
 simp [Op.eqFields, n1, n2, n3, n4, n5, t1, t2, t3, t4, t5, o1, o2, o3, o4, o5, Sem.run_bind, Sem.run_ite, Z86, Z85, Z84, Z83, Z82, h0, h1]
section
variable {w : World} {o : Oper} {ρ : Operand → Value} {t u : TypeId} {x y : Operand}
theorem x_neVl {i s r f : Int} {p : Bool} (ho : o.op = .binOp .neq 89 x y u) (hx : ρ x = .agg #[.int .i64 i, .int .i64 s, .int .i64 r, .bool p, .int .i64 f]) (hy : ρ y = .agg #[.int .i64 i, .int .i64 s, .int .i64 r, .bool p, .int .i64 f]) : (execOp ρ o).run Try.prog w = .ok (.value (.bool false)) w := by
 have h := eq_vl 9998 i s r f p w
 unfold execOp
 simp only [ho, hx, hy]
 simp [go_sem, h]
theorem x_neB2 {a b c : Bool} (ho : o.op = .binOp .neq 4 x y u) (hx : ρ x = .bool a) (hy : ρ y = .bool b) (h : decide (a ≠ b) = c) : (execOp ρ o).run Try.prog w = .ok (.value (.bool c)) w := by
 subst h
 unfold execOp
 simp only [ho, hx, hy]
 cases a <;> cases b <;> kernel_rfl
end
theorem vl_row {w : World} {B : Option Addr} {n c : Nat} {ps : List VlD} (h : (tVls (.slice B n c) ps).holds w) : Row w B 5 vlC ps := by
 obtain ⟨B2, c2, e, _, _, _, hr⟩ := Z2w (enc := vlC) (X := ps) (fun _ => rfl) (by decide) h
 injection e with e1
 subst e1
 exact hr
theorem Z68 {w : World} {B : Option Addr} {n c : Nat} {ps : List VlD} (h : (tVls (.slice B n c) ps).holds w) {j : Nat} {i s r f : Int} {p : Bool} (hi : ps[j]? = some (i, s, r, p, f)) : ∃ g, B = some ⟨g, 0, none⟩ ∧ w.cell? ⟨g, j * 5, none⟩ = some (.int .i64 i) ∧ w.cell? ⟨g, j * 5 + 1, none⟩ = some (.int .i64 s) ∧ w.cell? ⟨g, j * 5 + 2, none⟩ = some (.int .i64 r) ∧ w.cell? ⟨g, j * 5 + 3, none⟩ = some (.bool p) ∧ w.cell? ⟨g, j * 5 + 4, none⟩ = some (.int .i64 f) := by
 have hl := (List.getElem?_eq_some_iff.1 hi).1
 obtain ⟨g, cap', cur, e, -⟩ := Z11 h (by omega)
 injection e with e1 e2 e3
 subst e1
 obtain ⟨b, o, e, _, hc⟩ := vl_row h j _ hi
 injection e with e
 injection e with e e'
 subst e e'
 refine ⟨g, rfl, ?_, ?_, ?_, ?_, ?_⟩
 · have := hc 0 _ rfl; simpa using this
 · have := hc 1 _ rfl; simpa using this
 · have := hc 2 _ rfl; simpa using this
 · have := hc 3 _ rfl; simpa using this
 · have := hc 4 _ rfl; simpa using this
theorem Z35 : Try.prog.cellsOf 3 = 1 := by kernel_rfl
theorem cells_b11 : Try.prog.cellsOf 4 = 1 := by kernel_rfl
theorem Z5m : Try.prog.cellsOf 89 = 5 := by kernel_rfl
theorem vlVal_eq {i s r f : Int} (p : Bool) (h : GoodVol i s r f) : volPair s r p f = (vlVal s r p f : Int) := by
 obtain ⟨_, _, _, _, _, h6, _⟩ := Z24 p h
 unfold vlVal
 omega
end Go.Proofs.Ytngehbhhpkkijaa
