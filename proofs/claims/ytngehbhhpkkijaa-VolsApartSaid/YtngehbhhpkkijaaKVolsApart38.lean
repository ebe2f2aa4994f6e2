/- volumes' law: VolsApart, what its walk uses: a table of volumes, volumes and pairs compared. -/
import Derived.Test.YtngehbhhpkkijaaKVolsApart34
import Derived.Test.YtngehbhhpkkijaaKVolsApart37
import Derived.Deep.MidRow
import Derived.Great.FillDense
import Derived.Laws.Tables
import Derived.Laws.CopyRow
namespace Go.Proofs.Ytngehbhhpkkijaa
set_option linter.unusedVariables false
set_option linter.unusedSimpArgs false
open Go.RowKit Go.Maps
/-! A table of 17 volumes. -/
def zD : VlD := (0, 0, 0, false, 0)
def vtA (t : Nat → VlD) : Array Value := ((List.range 17).flatMap fun j => vlC (t j)).toArray
theorem Z4p (t : Nat → VlD) {i : Nat} (hi : i < 85) : (vtA t)[i]? = (vlC (t (i / 5)))[i % 5]? := by
  have h := Great.flat_get (s := 5) (by decide) ((List.range 17).map fun j => Value.agg (vlC (t j)).toArray) (fun v hv => by
    obtain ⟨j, _, rfl⟩ := List.mem_map.1 hv
    rfl) i
  rw [List.flatMap_map] at h
  unfold vtA
  rw [List.getElem?_toArray]
  refine Eq.trans h ?_
  rw [List.getElem?_map, List.getElem?_range (by omega)]
  show (vlC (t (i / 5))).toArray[i % 5]? = _
  rw [List.getElem?_toArray]
theorem Z22 (t : Nat → VlD) : (vtA t).size = 85 := by
  unfold vtA
  rw [List.size_toArray, List.length_flatMap]
  simp only [vlC, List.length_cons, List.length_nil]
  decide
theorem Z56 (t : Nat → VlD) {j q : Nat} (hj : j < 17) (hq : q < 5) : (vtA t)[j * 5 + q]? = (vlC (t j))[q]? := by
  rw [Z4p t (by omega), show (j * 5 + q) / 5 = j by omega, show (j * 5 + q) % 5 = q by omega]
theorem vtA_one (t : Nat → VlD) : (vtA t).all (·.oneCell') = true := by
  rw [Array.all_eq_true]
  intro i hi
  rw [Z22] at hi
  have h := Z4p t hi
  rw [Array.getElem?_eq_getElem (by rw [Z22]; exact hi)] at h
  have h2 : (vtA t)[i]'(by rw [Z22]; exact hi) ∈ vlC (t (i / 5)) := List.mem_of_getElem? h.symm
  simp only [vlC, List.mem_cons, List.not_mem_nil, or_false] at h2
  rcases h2 with h2 | h2 | h2 | h2 | h2 <;> rw [h2] <;> rfl
def setL (cs : Array Value) (off : Nat) : List Value → Array Value
  | [] => cs
  | v :: r => setL (cs.setIfInBounds off v) (off + 1) r
theorem Z7w : ∀ (vs : List Value) (cs : Array Value) (off i : Nat), (setL cs off vs)[i]? = if off ≤ i ∧ i < off + vs.length ∧ i < cs.size then vs[i - off]? else cs[i]?
  | [], cs, off, i => by rw [if_neg (by simp; omega)]; rfl
  | v :: r, cs, off, i => by
    show (setL (cs.setIfInBounds off v) (off + 1) r)[i]? = _
    rw [Z7w r, Array.size_setIfInBounds, Array.getElem?_setIfInBounds]
    simp only [List.length_cons]
    by_cases h1 : off = i
    · subst h1
      rw [if_neg (by omega), if_pos rfl]
      by_cases h2 : off < cs.size
      · rw [if_pos h2, if_pos (by omega), Nat.sub_self]; rfl
      · rw [if_neg h2, if_neg (by omega), Array.getElem?_eq_none (by omega)]
    · rw [if_neg h1]
      by_cases h2 : off + 1 ≤ i ∧ i < off + 1 + r.length ∧ i < cs.size
      · rw [if_pos h2, if_pos (by omega), show i - off = (i - (off + 1)) + 1 by omega, List.getElem?_cons_succ]
      · rw [if_neg h2, if_neg (by omega)]
theorem Z7i (t : Nat → VlD) {j : Nat} (x : VlD) (hj : j < 17) : setL (vtA t) (j * 5) (vlC x) = vtA (fun i => if i = j then x else t i) := by
  apply Array.ext_getElem?
  intro i
  have hl : (vlC x).length = 5 := rfl
  rw [Z7w, Z22, hl]
  by_cases hi : i < 85
  · rw [Z4p _ hi, Z4p _ hi]
    by_cases h : j * 5 ≤ i ∧ i < j * 5 + 5 ∧ i < 85
    · rw [if_pos h, if_pos (show i / 5 = j by omega), show i - j * 5 = i % 5 by omega]
    · rw [if_neg h, if_neg (show ¬ i / 5 = j by omega)]
  · rw [if_neg (by omega), Array.getElem?_eq_none (by rw [Z22]; omega), Array.getElem?_eq_none (by rw [Z22]; omega)]
theorem OwnT.setCs {H : Nat} {A : World} {L : List Thing} {b : Nat} {ty : TypeId} : ∀ (vs : List Value) {w : World} {cs : Array Value} {off : Nat}, OwnT H A (tBlk b ty cs :: L) w → OwnT H A (tBlk b ty (setL cs off vs) :: L) (w.setCells b off vs)
  | [], _, _, _, O => O
  | v :: r, _, _, off, O => OwnT.setCs r (O.set off v)
theorem Z4o {w : World} {g : Nat} {ty : TypeId} {t : Nat → VlD} (h : Blk w g ty (vtA t)) {j : Nat} (hj : j < 17) {i s r f : Int} {p : Bool} (hx : t j = (i, s, r, p, f)) : w.cell? ⟨g, j * 5, none⟩ = some (.int .i64 i) ∧ w.cell? ⟨g, j * 5 + 1, none⟩ = some (.int .i64 s) ∧ w.cell? ⟨g, j * 5 + 2, none⟩ = some (.int .i64 r) ∧ w.cell? ⟨g, j * 5 + 3, none⟩ = some (.bool p) ∧ w.cell? ⟨g, j * 5 + 4, none⟩ = some (.int .i64 f) := by
  have h0 := Z56 t hj (q := 0) (by decide)
  rw [Nat.add_zero] at h0
  refine ⟨?_, ?_, ?_, ?_, ?_⟩
  · rw [h.cell, h0, hx]; rfl
  · rw [h.cell, Z56 t hj (by decide), hx]; rfl
  · rw [h.cell, Z56 t hj (by decide), hx]; rfl
  · rw [h.cell, Z56 t hj (by decide), hx]; rfl
  · rw [h.cell, Z56 t hj (by decide), hx]; rfl
theorem Z67 {w : World} {g : Nat} {ty : TypeId} {t : Nat → VlD} (h : Blk w g ty (vtA t)) {j : Nat} (hj : j < 17) : w.there g (j * 5) 5 := fun q hq => by
  refine ⟨?_, h.frozen _⟩
  rw [h.cell, Array.getElem?_eq_getElem (by rw [Z22]; omega)]
  rfl
section
variable {w : World} {o : Oper} {ρ : Operand → Value} {x y : Operand}
theorem x_zeroV (ho : o.op = .build 102 #[]) : (execOp ρ o).run Try.prog w = .ok (.value (.agg (vtA fun _ => zD))) w := by
  unfold execOp
  simp only [ho]
  kernel_rfl
theorem x_allocV (ho : o.op = .alloc 102) : (execOp ρ o).run Try.prog w = .ok (.value (.pointer (some ⟨w.heap.size, 0, none⟩))) (w.alloc (.cells (vtA fun _ => zD) 102)) := by
  unfold execOp
  simp only [ho]
  kernel_rfl
theorem x_st5 {g off : Nat} {x0 : VlD} (ho : o.op = .store 89 x y) (hx : ρ x = .pointer (some ⟨g, off, none⟩)) (hy : ρ y = .agg (vlC x0).toArray) (ht : w.there g off 5) : (execOp ρ o).run Try.prog w = .ok .skip (w.setCells g off (vlC x0)) := by
  have hi : (Try.prog.info? 89).map (·.size) = some (vlC x0).toArray.size := by
    show _ = some 5
    kernel_rfl
  have h := run_storeAt_mid (P := Try.prog) w g off 89 (vlC x0).toArray ht hi (all_oneCell_toArray (fun v hv => by simp only [vlC, List.mem_cons, List.not_mem_nil, or_false] at hv; rcases hv with rfl | rfl | rfl | rfl | rfl <;> rfl))
  unfold execOp
  simp only [ho, hx, hy, Sem.run_bind, Sem.run_pure, Result.andThen_ok, h]
end
theorem sq_zeroV {ops : Array Oper} {rest : List Oper} {o : Oper} {a : Act} {w : World} {Q : Exit → Act → World → Prop} (hgd : o.guard = none) (hd : o.dst = none) (ty : TypeId) (x y : Operand) (ho : o.op = .store ty x y) {g : Nat} {Z : Array Value} {t : TypeId} (hx : a.eval x = .pointer (some ⟨g, 0, none⟩)) (hy : a.eval y = .agg Z) (hb : Blk w g t Z) (hi : (Try.prog.info? ty).map (·.size) = some Z.size) (h1 : Z.all (·.oneCell') = true) (h : wpList Try.prog ops Q rest a w) : wpList Try.prog ops Q (o :: rest) a w := by
  refine wpList_store_row hgd ty x y ho g Z hx hy t Z hb hi rfl h1 ?_
  rw [setRow_self _ _ _ _ _ hb, hd]
  exact h
/-! Volumes, pairs compared. -/
theorem Z71 : Try.prog.underlying 38 = some (.struct (Try.prog.fieldsOf 38)) := by kernel_rfl
theorem pr_heldV : Try.prog.stoodInHeld 38 = false := by kernel_rfl
theorem part_q0 (w : World) (x y : Value) : (part 30 #[x, y] 0).run Try.prog w = .ok x w := by kernel_rfl
theorem part_q1 (w : World) (x y : Value) : (part 30 #[x, y] 1).run Try.prog w = .ok y w := by kernel_rfl
theorem eq_prV (d : Nat) (a b a' b' : Int) (w : World) : (Op.equalIn (d + 2) 38 (.agg #[.int .u64 a, .int .u64 b]) (.agg #[.int .u64 a', .int .u64 b'])).run Try.prog w = .ok (decide (a = a' ∧ b = b')) w := by
  have h0 := fun W x y => run_equalIn_int (P := Try.prog) W d 30 .u64 .u64 x y Try.underlying30
  rw [run_equalIn_struct w (d + 1) _ _ _ Z71 pr_heldV]
  have hf : (Try.prog.fieldsOf 38).toList.map (fun f => (f.name, f.type, f.offset)) = [("Key", 30, 0), ("Val", 30, 1)] := by kernel_rfl
  generalize (Try.prog.fieldsOf 38).toList = L at hf ⊢
  obtain ⟨f, g, rfl⟩ : ∃ f g, L = [f, g] := by
    have hl : L.length = 2 := by have := congrArg List.length hf; simpa using this
    match L, hl with
    | [f1, f2], _ => exact ⟨f1, f2, rfl⟩
  simp only [List.map_cons, List.map_nil, List.cons.injEq, Prod.mk.injEq, and_true] at hf
  obtain ⟨⟨n1, t1, o1⟩, n2, t2, o2⟩ := hf
  by_cases ha : a = a' <;> by_cases hb : b = b' <;> simp [Op.eqFields, n1, n2, t1, t2, o1, o2, Sem.run_bind, Sem.run_ite, part_q0, part_q1, h0, ha, hb]
theorem eq_vlG (d : Nat) (i s r f : Int) (p : Bool) (i' s' r' f' : Int) (p' : Bool) (w : World) : (Op.equalIn (d + 2) 89 (.agg #[.int .i64 i, .int .i64 s, .int .i64 r, .bool p, .int .i64 f]) (.agg #[.int .i64 i', .int .i64 s', .int .i64 r', .bool p', .int .i64 f'])).run Try.prog w = .ok (decide (i = i' ∧ s = s' ∧ r = r' ∧ p = p' ∧ f = f')) w := by
  have h0 := fun W x y => run_equalIn_int (P := Try.prog) W d 3 .i64 .i64 x y Try.underlying3
  have h1 := fun W x y => run_equalIn_bool (P := Try.prog) W d 4 x y Try.underlying4
  rw [run_equalIn_struct w (d + 1) _ _ _ Z57 Z7k]
  have hf : (Try.prog.fieldsOf 89).toList.map (fun f => (f.name, f.type, f.offset)) = [("Id", 3, 0), ("Size", 3, 1), ("Root", 3, 2), ("Pinned", 4, 3), ("From", 3, 4)] := by kernel_rfl
  generalize (Try.prog.fieldsOf 89).toList = L at hf ⊢
  obtain ⟨f1, f2, f3, f4, f5, rfl⟩ : ∃ f1 f2 f3 f4 f5, L = [f1, f2, f3, f4, f5] := by
    have hl : L.length = 5 := by have := congrArg List.length hf; simpa using this
    match L, hl with
    | [f1, f2, f3, f4, f5], _ => exact ⟨f1, f2, f3, f4, f5, rfl⟩
  simp only [List.map_cons, List.map_nil, List.cons.injEq, Prod.mk.injEq, and_true] at hf
  obtain ⟨⟨n1, t1, o1⟩, ⟨n2, t2, o2⟩, ⟨n3, t3, o3⟩, ⟨n4, t4, o4⟩, n5, t5, o5⟩ := hf
  by_cases ha : i = i' <;> by_cases hb : s = s' <;> by_cases hc : r = r' <;> by_cases hd : p = p' <;> by_cases he : f = f' <;> simp [Op.eqFields, n1, n2, n3, n4, n5, t1, t2, t3, t4, t5, o1, o2, o3, o4, o5, Sem.run_bind, Sem.run_ite, Z86, Z85, Z84, Z83, Z82, h0, h1, ha, hb, hc, hd, he]
section
variable {w : World} {o : Oper} {ρ : Operand → Value} {u : TypeId} {x y : Operand}
theorem x_eqPrV {a b a' b' : Int} {c : Bool} (ho : o.op = .binOp .eql 38 x y u) (hx : ρ x = .agg #[.int .u64 a, .int .u64 b]) (hy : ρ y = .agg #[.int .u64 a', .int .u64 b']) (hc : decide (a = a' ∧ b = b') = c) : (execOp ρ o).run Try.prog w = .ok (.value (.bool c)) w := by
  have h := eq_prV 9998 a b a' b' w
  subst hc
  unfold execOp
  simp only [ho, hx, hy]
  by_cases e1 : a = a' <;> by_cases e2 : b = b' <;> simp [go_sem, h, e1, e2]
theorem x_eqVlG {i s r f : Int} {p : Bool} {i' s' r' f' : Int} {p' : Bool} {c : Bool} (ho : o.op = .binOp .eql 89 x y u) (hx : ρ x = .agg #[.int .i64 i, .int .i64 s, .int .i64 r, .bool p, .int .i64 f]) (hy : ρ y = .agg #[.int .i64 i', .int .i64 s', .int .i64 r', .bool p', .int .i64 f']) (hc : decide (i = i' ∧ s = s' ∧ r = r' ∧ p = p' ∧ f = f') = c) : (execOp ρ o).run Try.prog w = .ok (.value (.bool c)) w := by
  have h := eq_vlG 9998 i s r f p i' s' r' f' p' w
  subst hc
  unfold execOp
  simp only [ho, hx, hy]
  by_cases e1 : i = i' <;> by_cases e2 : s = s' <;> by_cases e3 : r = r' <;> by_cases e4 : p = p' <;> by_cases e5 : f = f' <;> simp [go_sem, h, e1, e2, e3, e4, e5]
end
theorem vol_inj {i s r f i' s' r' f' : Int} (p p' : Bool) (h : GoodVol i s r f) (h' : GoodVol i' s' r' f') : decide (4294967296 + i = 4294967296 + i' ∧ volPair s r p f = volPair s' r' p' f') = decide (i = i' ∧ s = s' ∧ r = r' ∧ p = p' ∧ f = f') := by
  rw [decide_eq_decide]
  obtain ⟨-, a2, a3, a4, a5, -, -⟩ := Z24 p h
  obtain ⟨-, b2, b3, b4, b5, -, -⟩ := Z24 p' h'
  constructor
  · rintro ⟨e1, e2⟩
    rw [e2] at a2 a3 a4 a5
    exact ⟨by omega, a2.symm.trans b2, a3.symm.trans b3, a4.symm.trans b4, a5.symm.trans b5⟩
  · rintro ⟨rfl, rfl, rfl, rfl, rfl⟩
    exact ⟨rfl, rfl⟩
theorem vkeyN_of {k : Nat} (h : k ≤ 16) : vkeyN (k : Int) = 4294967296 + k := by
  unfold vkeyN uN
  rw [show IntKind.u64.wrap (k : Int) = (k : Int) from by show (k : Int) % 18446744073709551616 = k; omega]
  omega
/-! Pairs and the table. -/
def GoodD (x : VlD) : Prop := GoodVol x.1 x.2.1 x.2.2.1 x.2.2.2.2
def vValD (x : VlD) : Nat := vlVal x.2.1 x.2.2.1 x.2.2.2.1 x.2.2.2.2
structure VT (P : List Pr) (t : Nat → VlD) : Prop where
  key : ∀ y ∈ P, 4294967297 ≤ y.1 ∧ y.1 ≤ 4294967312
  yes : ∀ j : Nat, 1 ≤ j → j ≤ 16 → (t j).1 = (j : Int) → GoodD (t j) ∧ lookP (4294967296 + j) P = some (vValD (t j))
  no : ∀ j : Nat, 1 ≤ j → j ≤ 16 → (t j).1 ≠ (j : Int) → lookP (4294967296 + j) P = none
theorem VT.zero : VT [] (fun _ => zD) := ⟨(fun y hy => by cases hy), (fun j h1 _ h => by have h : (0 : Int) = (j : Int) := h; omega), (fun _ _ _ _ => rfl)⟩
theorem VT.put {P : List Pr} {t : Nat → VlD} (h : VT P t) {k : Nat} (h1 : 1 ≤ k) (h2 : k ≤ 16) {x : VlD} (hx : GoodD x) (hk : x.1 = (k : Int)) : VT (insP (4294967296 + k, vValD x) P) (fun i => if i = k then x else t i) := by
  refine ⟨fun y hy => ?_, fun j g1 g2 g => ?_, fun j g1 g2 g => ?_⟩
  · rcases Z6e hy with rfl | hy
    · exact ⟨by show 4294967297 ≤ 4294967296 + k; omega, by show 4294967296 + k ≤ 4294967312; omega⟩
    · exact h.key y hy
  · by_cases e : j = k
    · subst e
      rw [if_pos rfl]
      exact ⟨hx, Z75⟩
    · rw [if_neg e] at g ⊢
      rw [Z44 (by omega)]
      exact h.yes j g1 g2 g
  · by_cases e : j = k
    · subst e
      rw [if_pos rfl] at g
      exact absurd hk g
    · rw [if_neg e] at g
      rw [Z44 (by omega)]
      exact h.no j g1 g2 g
theorem Z6f {k k' : Nat} {P : List Pr} (h : k' ≠ k) : lookP k' (delP k P) = lookP k' P := by
  unfold lookP delP
  rw [Z2g (fun y hy => by simp at hy ⊢; omega)]
theorem VT.drop {P : List Pr} {t : Nat → VlD} (h : VT P t) {k : Nat} : VT (delP (4294967296 + k) P) (fun i => if i = k then zD else t i) := by
  refine ⟨fun y hy => h.key y (Z8a.1 hy).1, fun j g1 g2 g => ?_, fun j g1 g2 g => ?_⟩
  · by_cases e : j = k
    · subst e
      rw [if_pos rfl] at g
      have g : (0 : Int) = (j : Int) := g
      omega
    · rw [if_neg e] at g ⊢
      rw [Z6f (by omega)]
      exact h.yes j g1 g2 g
  · by_cases e : j = k
    · subst e
      exact Z28.2 fun y hy => (Z8a.1 hy).2
    · rw [if_neg e] at g
      rw [Z6f (by omega)]
      exact h.no j g1 g2 g
theorem VT.mem {P : List Pr} {t : Nat → VlD} (h : VT P t) (hu : Up P) {y : Pr} (hy : y ∈ P) : ∃ j : Nat, 1 ≤ j ∧ j ≤ 16 ∧ y.1 = 4294967296 + j ∧ (t j).1 = (j : Int) ∧ GoodD (t j) ∧ y.2 = vValD (t j) := by
  have hk := h.key y hy
  have hl := look_mem hu hy
  obtain ⟨j, hj⟩ : ∃ j, y.1 = 4294967296 + j := ⟨y.1 - 4294967296, by omega⟩
  rw [hj] at hl
  by_cases e : (t j).1 = (j : Int)
  · obtain ⟨h1, h2⟩ := h.yes j (by omega) (by omega) e
    rw [h2] at hl
    exact ⟨j, by omega, by omega, hj, e, h1, (Option.some.inj hl).symm⟩
  · rw [h.no j (by omega) (by omega) e] at hl
    cases hl
theorem Z58 {y : Pr} {x : VlD} {j : Nat} (h1 : y.1 = 4294967296 + j) (h2 : x.1 = (j : Int)) (h3 : GoodD x) (h4 : y.2 = vValD x) : vlOkB y = true ∧ vlOf y = x := by
  obtain ⟨i, s, r, p, f⟩ := x
  obtain ⟨y1, y2⟩ := y
  have h3 : GoodVol i s r f := h3
  have h2 : i = (j : Int) := h2
  obtain ⟨q1, q2, q3, q4, q5, q6, q7⟩ := Z24 p h3
  have e1 : ((y1 : Nat) : Int) = 4294967296 + i := by have h1 : y1 = 4294967296 + j := h1; omega
  have e2 : ((y2 : Nat) : Int) = volPair s r p f := by rw [vlVal_eq p h3]; have h4 : y2 = vlVal s r p f := h4; rw [h4]
  constructor
  · refine decide_eq_true ?_
    show VolOk ((y1 : Nat) : Int) ((y2 : Nat) : Int)
    rw [e1, e2]
    unfold VolOk
    rw [q1, q2, q3, q4, q5]
    exact ⟨h3, rfl, rfl⟩
  · show ((((y1 : Nat) : Int) % 4294967296, ((y2 : Nat) : Int) / 65536 % 65536, ((y2 : Nat) : Int) % 65536, ((y2 : Nat) : Int) / 4294967296 % 256 == 1, ((y2 : Nat) : Int) / 1099511627776) : VlD) = (i, s, r, p, f)
    rw [e1, e2, q1, q2, q3, q4, q5]
theorem VT.all {P : List Pr} {t : Nat → VlD} (h : VT P t) (hu : Up P) : P.all vlOkB = true := List.all_eq_true.2 fun y hy => by
  obtain ⟨j, _, _, h1, h2, h3, h4⟩ := h.mem hu hy
  exact (Z58 h1 h2 h3 h4).1
theorem VT.cut {P : List Pr} {t : Nat → VlD} (h : VT P t) : cutP 4294967296 8589934591 P = P := Z1p fun y hy => by
  have := h.key y hy
  rw [decide_eq_true (by omega : 4294967296 ≤ y.1), decide_eq_true (by omega : y.1 ≤ 8589934591)]
  rfl
/-- What is listed, walked through by numbers. -/
theorem VT.start {P : List Pr} {t : Nat → VlD} (h : VT P t) : Seen P 4294967297 0 := ⟨Nat.zero_le _, fun j y hj => by
  have := h.key y (List.mem_of_getElem? hj)
  omega⟩
theorem VT.skip {P : List Pr} {t : Nat → VlD} (h : VT P t) {j n : Nat} (hs : Seen P (4294967296 + j) n) (h1 : 1 ≤ j) (h2 : j ≤ 16) (hn : (t j).1 ≠ (j : Int)) : Seen P (4294967296 + (j + 1)) n := hs.skip (Z28.1 (h.no j h1 h2 hn))
theorem VT.next {P : List Pr} {t : Nat → VlD} (h : VT P t) (hu : Up P) {j n : Nat} (hs : Seen P (4294967296 + j) n) (h1 : 1 ≤ j) (h2 : j ≤ 16) (hn : (t j).1 = (j : Int)) : n < P.length ∧ (P.map vlOf)[n]? = some (t j) ∧ Seen P (4294967296 + (j + 1)) (n + 1) := by
  obtain ⟨hg, hl⟩ := h.yes j h1 h2 hn
  unfold lookP at hl
  cases e2 : P.find? fun y => decide (y.1 = 4294967296 + j) with
  | none => rw [e2] at hl; cases hl
  | some z =>
    rw [e2] at hl
    have hl : z.2 = vValD (t j) := Option.some.inj hl
    have hz := List.mem_of_find?_eq_some e2
    have hk : z.1 = 4294967296 + j := by have hf := List.find?_some e2; simpa using hf
    obtain ⟨q, hq⟩ := List.getElem?_of_mem hz
    obtain ⟨z1, z2⟩ := z
    have hk' : z1 = 4294967296 + j := hk
    subst hk'
    obtain ⟨rfl, h3⟩ := hs.next hu hq
    refine ⟨(List.getElem?_eq_some_iff.1 hq).1, ?_, h3⟩
    rw [List.getElem?_map, hq]
    exact congrArg some (Z58 rfl hn hg hl).2
theorem VT.done {P : List Pr} {t : Nat → VlD} (h : VT P t) {n : Nat} (hs : Seen P (4294967296 + 17) n) : n = P.length := by
  have hk := hs.1
  rcases Nat.lt_or_ge n P.length with h1 | h1
  · exfalso
    obtain ⟨y, hy⟩ : ∃ y, P[n]? = some y := ⟨_, List.getElem?_eq_getElem h1⟩
    have h2 := hs.2 n y hy
    have h3 := h.key y (List.mem_of_getElem? hy)
    omega
  · omega
/-! The argument. -/
theorem arg_vls {w : World} {v : Value} (h : Arg Try.prog w 96 v) :
    ∃ A len cap, ∃ xs : List VlD, v = .slice A len cap ∧ len ≤ cap ∧ cap ≤ maxLen ∧ xs.length = len ∧ (∀ x ∈ xs, True) ∧ Row w A 5 vlC xs :=
  fit_row vlC (fun _ => True) Try.underlying96 Z5m (by decide) (fun cs _ hf => by
    obtain ⟨hl, hv⟩ := Z7d 5 Try.underlying89 Z5m hf
    obtain ⟨i, e1, _⟩ := Z3r Try.underlying3 (hv 0 0 3 1 rfl Z35)
    obtain ⟨s, e2, _⟩ := Z3r Try.underlying3 (hv 1 1 3 1 rfl Z35)
    obtain ⟨r, e3, _⟩ := Z3r Try.underlying3 (hv 2 2 3 1 rfl Z35)
    obtain ⟨p, e4⟩ := cell_bool Try.underlying4 (hv 3 3 4 1 rfl cells_b11)
    obtain ⟨f, e5, _⟩ := Z3r Try.underlying3 (hv 4 4 3 1 rfl Z35)
    refine ⟨(i, s, r, p, f), ?_, trivial⟩
    match cs, hl with
    | [u1, u2, u3, u4, u5], _ =>
      simp at e1 e2 e3 e4 e5
      subst e1 e2 e3 e4 e5
      rfl) (arg_slice Try.underlying96 h)
theorem Z3u {W0 w : World} {B : Option Addr} {l : List VlD} (h : Row W0 B 5 vlC l) (hb : Below W0.heap.size W0 w) {z : Nat} {i s r f : Int} {p : Bool} (hy : l[z]? = some (i, s, r, p, f)) : ∃ b o, B = some ⟨b, o, none⟩ ∧ w.cell? ⟨b, o + z * 5, none⟩ = some (.int .i64 i) ∧ w.cell? ⟨b, o + z * 5 + 1, none⟩ = some (.int .i64 s) ∧ w.cell? ⟨b, o + z * 5 + 2, none⟩ = some (.int .i64 r) ∧ w.cell? ⟨b, o + z * 5 + 3, none⟩ = some (.bool p) ∧ w.cell? ⟨b, o + z * 5 + 4, none⟩ = some (.int .i64 f) := by
  obtain ⟨b, o, e, _, hc⟩ := (h.below hb) z _ hy
  exact ⟨b, o, e, by have := hc 0 _ rfl; simpa using this, hc 1 _ rfl, hc 2 _ rfl, hc 3 _ rfl, hc 4 _ rfl⟩
theorem vl_at0 {W0 w : World} {B : Option Addr} {l : List VlD} (h : Row W0 B 5 vlC l) (hb : Below W0.heap.size W0 w) {i s r f : Int} {p : Bool} (hy : l[0]? = some (i, s, r, p, f)) : ∃ b o, B = some ⟨b, o, none⟩ ∧ w.cell? ⟨b, o, none⟩ = some (.int .i64 i) ∧ w.cell? ⟨b, o + 1, none⟩ = some (.int .i64 s) ∧ w.cell? ⟨b, o + 2, none⟩ = some (.int .i64 r) ∧ w.cell? ⟨b, o + 3, none⟩ = some (.bool p) ∧ w.cell? ⟨b, o + 4, none⟩ = some (.int .i64 f) := by
  obtain ⟨b, o, e, h0, h1, h2, h3, h4⟩ := Z3u h hb hy
  simp only [Nat.zero_mul, Nat.add_zero] at h0 h1 h2 h3 h4
  exact ⟨b, o, e, h0, h1, h2, h3, h4⟩
end Go.Proofs.Ytngehbhhpkkijaa
