/- Walks by facts: the frame is a letter, what its slots hold stands in facts. No function of the program in sight. -/
import Derived.Test.YtdeocidlkpbhcaaKReachShares06
import Derived.Test.YtdeocidlkpbhcaaKReachShares05
import Derived.Laws.CopyOwn
import Derived.Laws.OwnMore
import Derived.Lib.AppendZerosOnto
namespace Go.Proofs.Ytdeocidlkpbhcaa
set_option linter.unusedVariables false
set_option linter.unusedSimpArgs false
open Go.RowKit

structure Fr (n : Nat) (a : Act) : Prop where
  size : a.tmps.size = n
  defers : a.defers = []
section
variable {P : Program} {Q : Exit → Act → World → Prop} {next : Act → World → Prop} {a a0 a' : Act} {w w' w0 : World} {n id id' : Nat} {D : List Tmp} {fn : Func} {R : Ending → World → Prop}
theorem Fr.env (k : Fr n a0) (h : Env a0 D a) : Fr n a := ⟨h.size.trans k.size, h.defers.trans k.defers⟩
theorem Env.refl (a : Act) (D : List Tmp) : Env a D a := ⟨rfl, rfl, fun _ _ => rfl⟩
theorem Z01 (h : next a w) : Exit.then next Q .normal a w := h
theorem Z12 (h : Q (.exit id) a w) : Exit.then next Q (.exit id) a w := h
theorem Z0l (h : Q .ret a w) : Exit.then next Q .ret a w := h
theorem Z0s (h : Q .normal a w) : Exit.inBlock id Q .normal a w := h
theorem Z1o (h : Q .normal a w) : Exit.inBlock id Q (.exit id) a w := by
  simp only [Exit.inBlock, if_true]
  exact h
theorem Z1j (h : Q .ret a w) : Exit.inBlock id Q .ret a w := h
/-- A cut: what is left behind the first part is proved once. -/
theorem Z7e {x y : Code} (K : Act → World → Prop) (hx : x.wp P (Exit.then K Q) a w) (hy : ∀ a w, K a w → y.wp P Q a w) : (Code.seq x y).wp P Q a w :=
  wp_seq (Code.wp_mono (fun e a w h => by
    cases e with
    | normal => exact hy a w h
    | _ => exact h) hx)
theorem Z0b {f : FuncId} {c : Code} {args : Array Value} (hf : P.funcs[f]? = some fn) (hb : fn.body = some c) (n : Nat) (hn : fn.ntmps = n) (hle : Nat.ble args.size n = true)
    (h : ∀ a, Fr n a → (∀ i v, args[i]? = some v → a.eval (.tmp i) = v) → c.wp P (bodyPost P fn R) a w) : Calls P f args w R := by
  refine calls_of_wp hf hb (h _ ⟨?_, rfl⟩ fun i v hv => ?_)
  · have := Nat.le_of_ble_eq_true hle
    subst hn
    simp only [Array.size_append, Array.size_replicate]
    omega
  · have hi : i < args.size := (Array.getElem?_eq_some_iff.1 hv).1
    rw [Z15, Array.getD_eq_getD_getElem?, Array.getElem?_append_left hi, hv]
    rfl
theorem Z0z {t : Tmp} {v : Value} (hr : fn.results = #[.tmp t]) (k : Fr n a) (e : a.eval (.tmp t) = v) (h : R (.returned v) w) : bodyPost P fn R .ret a w := by
  refine bodyPost_ret (v := v) ?_ k.defers h
  rw [← e, Z15]
  simp [results, hr]
theorem Z1y {t u : Tmp} {v x : Value} (hr : fn.results = #[.tmp t, .tmp u]) (k : Fr n a) (e : a.eval (.tmp t) = v) (e' : a.eval (.tmp u) = x) (h : R (.returned (.tuple #[v, x])) w) : bodyPost P fn R .ret a w := by
  refine bodyPost_ret (v := .tuple #[v, x]) ?_ k.defers h
  rw [← e, ← e', Z15, Z15]
  simp [results, hr]
/-- Results that lie in a cell: the first one. -/
theorem Z3g {t u : Tmp} {T : TypeId} {v x : Value} {p : Addr} (hr : fn.results = #[.cell t T, .tmp u]) (k : Fr n a) (e : a.eval (.tmp t) = .pointer (some p)) (e' : a.eval (.tmp u) = x) (hl : (loadVar T p).run P w = .ok v w) (h : R (.returned (.tuple #[v, x])) w) : bodyPost P fn R .ret a w := by
  refine bodyPost_ret (v := .tuple #[v, x]) ?_ k.defers h
  simp only [Z15, Array.getD_eq_getD_getElem?] at e e'
  simp [results, hr, e, e', hl, asAddr]
theorem Z3f {t u s : Tmp} {T : TypeId} {v x y : Value} {p : Addr} (hr : fn.results = #[.cell t T, .tmp u, .tmp s]) (k : Fr n a) (e : a.eval (.tmp t) = .pointer (some p)) (e' : a.eval (.tmp u) = x) (e'' : a.eval (.tmp s) = y) (hl : (loadVar T p).run P w = .ok v w) (h : R (.returned (.tuple #[v, x, y])) w) : bodyPost P fn R .ret a w := by
  refine bodyPost_ret (v := .tuple #[v, x, y]) ?_ k.defers h
  simp only [Z15, Array.getD_eq_getD_getElem?] at e e' e''
  simp [results, hr, e, e', e'', hl, asAddr]
theorem Z1x {t u s : Tmp} {v x y : Value} (hr : fn.results = #[.tmp t, .tmp u, .tmp s]) (k : Fr n a) (e : a.eval (.tmp t) = v) (e' : a.eval (.tmp u) = x) (e'' : a.eval (.tmp s) = y) (h : R (.returned (.tuple #[v, x, y])) w) : bodyPost P fn R .ret a w := by
  refine bodyPost_ret (v := .tuple #[v, x, y]) ?_ k.defers h
  simp only [Z15, Array.getD_eq_getD_getElem?] at e e' e''
  simp [results, hr, e, e', e'']
theorem ret_F0 (hr : fn.results = #[]) (k : Fr n a) (h : R (.returned (.tuple #[])) w) : bodyPost P fn R .ret a w :=
  bodyPost_ret (results_none hr _ _ _) k.defers h
theorem end_F0 (hr : fn.results = #[]) (k : Fr n a) (h : R (.returned (.tuple #[])) w) : bodyPost P fn R .normal a w :=
  bodyPost_end (results_none hr _ _ _) k.defers h
theorem Z0a {c : Operand} {x y : Code} {v : Value} (hc : a.eval c = v) (hv : v = .bool true) (h : x.wp P Q a w) : (Code.cond c x y).wp P Q a w := wp_cond_true (hc.trans hv) h
theorem Z06 {c : Operand} {x y : Code} {v : Value} (hc : a.eval c = v) (hv : v = .bool false) (h : y.wp P Q a w) : (Code.cond c x y).wp P Q a w := wp_cond_false (hc.trans hv) h
/-! Operations, in order. -/
variable {ops : Array Oper} {rest : List Oper} {o : Oper} {v : Value}
theorem Env.put (hE : Env a0 D a) {d : Tmp} (hD : D.contains d = true) (v : Value) : Env a0 D (a.put (some d) v) := by
  obtain ⟨h1, h2, h3⟩ := hE
  refine ⟨by simp [Act.put, h1], h2, fun t ht => ?_⟩
  have : d ≠ t := fun e => ht (by subst e; simpa using hD)
  rw [← h3 t ht]
  simp [Act.put, Array.getElem?_setIfInBounds_ne this]
theorem Z0q {d t : Tmp} (h : Nat.beq t d = false) (v : Value) : (a.put (some d) v).eval (.tmp t) = a.eval (.tmp t) := by
  have : d ≠ t := fun e => Nat.ne_of_beq_eq_false h e.symm
  simp [Act.put, Z15, Array.getD_eq_getD_getElem?, Array.getElem?_setIfInBounds_ne this]
theorem Z22 (d : Tmp) (hE : Env a0 D a) (k : Fr n a0) (hd : o.dst = some d) (hn : Nat.blt d n = true) (hD : D.contains d = true) (hg : o.guard = none)
    (h : (execOp a.eval o).run P w = .ok (.value v) w')
    (hk : ∀ a', Env a0 D a' → a'.eval (.tmp d) = v → (∀ t, Nat.beq t d = false → a'.eval (.tmp t) = a.eval (.tmp t)) → wpList P ops Q rest a' w') : wpList P ops Q (o :: rest) a w := by
  refine wpList_plain hg fun K hK => Z1v h (hK _ _ ?_)
  rw [hd]
  exact hk _ (hE.put hD v) (Z0h (by rw [hE.size, k.size]; exact Nat.le_of_ble_eq_true hn)) (fun t ht => Z0q ht v)
theorem Z02 (d : Tmp) (hE : Env a0 D a) (k : Fr n a0) (hd : o.dst = some d) (hn : Nat.blt d n = true) (hD : D.contains d = true) (hg : o.guard = none)
    (h : (execOp a.eval o).run P w = .ok (.value v) w)
    (hk : ∀ a', Env a0 D a' → a'.eval (.tmp d) = v → (∀ t, Nat.beq t d = false → a'.eval (.tmp t) = a.eval (.tmp t)) → wpList P ops Q rest a' w) : wpList P ops Q (o :: rest) a w := Z22 d hE k hd hn hD hg h hk
theorem Z0g (hE : Env a0 D a) (hd : o.dst = none) (hg : o.guard = none) (h : (execOp a.eval o).run P w = .ok .skip w') (hk : wpList P ops Q rest a w') : wpList P ops Q (o :: rest) a w := by
  refine wpList_plain hg fun K hK => Z3b h (hK _ _ ?_)
  rw [hd]
  exact hk
theorem Z07 {f : FuncId} {args : Array Value} {S : Ending → World → Prop} (d : Tmp) (hE : Env a0 D a) (k : Fr n a0) (hd : o.dst = some d) (hn : Nat.blt d n = true) (hD : D.contains d = true) (hg : o.guard = none)
    (h : (execOp a.eval o).run P w = .ok (.enter f args) w) (hc : Calls P f args w S)
    (hk : ∀ e w'', S e w'' → ∃ v, e = .returned v ∧ ∀ a', Env a0 D a' → a'.eval (.tmp d) = v → (∀ t, Nat.beq t d = false → a'.eval (.tmp t) = a.eval (.tmp t)) → wpList P ops Q rest a' w'') : wpList P ops Q (o :: rest) a w := by
  refine wpList_plain hg fun K hK => Z40 h hc fun e w'' hS => ?_
  obtain ⟨v, he, hk⟩ := hk e w'' hS
  refine ⟨v, he, hK _ _ ?_⟩
  rw [hd]
  exact hk _ (hE.put hD v) (Z0h (by rw [hE.size, k.size]; exact Nat.le_of_ble_eq_true hn)) (fun t ht => Z0q ht v)
theorem sq_valg {j dj : Nat} {b : Bool} (d : Tmp) (hE : Env a0 D a) (k : Fr n a0) (hd : o.dst = some d) (hn : Nat.blt d n = true) (hD : D.contains d = true) (hg : o.guard = some (j, b)) (hj : (ops[j]?).bind (·.dst) = some dj) (hb : a.eval (.tmp dj) = .bool b)
    (h : (execOp a.eval o).run P w = .ok (.value v) w')
    (hk : ∀ a', Env a0 D a' → a'.eval (.tmp d) = v → (∀ t, Nat.beq t d = false → a'.eval (.tmp t) = a.eval (.tmp t)) → wpList P ops Q rest a' w') : wpList P ops Q (o :: rest) a w := by
  refine wpList_step fun K hK => ?_
  rw [if_pos ((Z1h hg hj hb).trans (by simp))]
  refine Z1v h (hK _ _ ?_)
  rw [hd]
  exact hk _ (hE.put hD v) (Z0h (by rw [hE.size, k.size]; exact Nat.le_of_ble_eq_true hn)) (fun t ht => Z0q ht v)
theorem Z04 {j dj : Nat} {b : Bool} (d : Tmp) (hE : Env a0 D a) (k : Fr n a0) (hd : o.dst = some d) (hn : Nat.blt d n = true) (hD : D.contains d = true) (hg : o.guard = some (j, b)) (hj : (ops[j]?).bind (·.dst) = some dj) (hb : a.eval (.tmp dj) = .bool b)
    (h : (execOp a.eval o).run P w = .ok (.value v) w)
    (hk : ∀ a', Env a0 D a' → a'.eval (.tmp d) = v → (∀ t, Nat.beq t d = false → a'.eval (.tmp t) = a.eval (.tmp t)) → wpList P ops Q rest a' w) : wpList P ops Q (o :: rest) a w := sq_valg d hE k hd hn hD hg hj hb h hk
theorem Z3r {j dj : Nat} {b : Bool} {f : FuncId} {args : Array Value} {S : Ending → World → Prop} (d : Tmp) (hE : Env a0 D a) (k : Fr n a0) (hd : o.dst = some d) (hn : Nat.blt d n = true) (hD : D.contains d = true) (hg : o.guard = some (j, b)) (hj : (ops[j]?).bind (·.dst) = some dj) (hb : a.eval (.tmp dj) = .bool b)
    (h : (execOp a.eval o).run P w = .ok (.enter f args) w) (hc : Calls P f args w S)
    (hk : ∀ e w'', S e w'' → ∃ v, e = .returned v ∧ ∀ a', Env a0 D a' → a'.eval (.tmp d) = v → (∀ t, Nat.beq t d = false → a'.eval (.tmp t) = a.eval (.tmp t)) → wpList P ops Q rest a' w'') : wpList P ops Q (o :: rest) a w := by
  refine wpList_step fun K hK => ?_
  rw [if_pos ((Z1h hg hj hb).trans (by simp))]
  refine Z40 h hc fun e w'' hS => ?_
  obtain ⟨v, he, hk⟩ := hk e w'' hS
  refine ⟨v, he, hK _ _ ?_⟩
  rw [hd]
  exact hk _ (hE.put hD v) (Z0h (by rw [hE.size, k.size]; exact Nat.le_of_ble_eq_true hn)) (fun t ht => Z0q ht v)
theorem Z09 {j dj : Nat} {b : Bool} (d : Tmp) (hE : Env a0 D a) (k : Fr n a0) (hd : o.dst = some d) (hn : Nat.blt d n = true) (hD : D.contains d = true) (hg : o.guard = some (j, b)) (hj : (ops[j]?).bind (·.dst) = some dj) (hb : a.eval (.tmp dj) = .bool (!b) ∨ a.eval (.tmp dj) = undef)
    (hk : ∀ a', Env a0 D a' → a'.eval (.tmp d) = undef → (∀ t, Nat.beq t d = false → a'.eval (.tmp t) = a.eval (.tmp t)) → wpList P ops Q rest a' w) : wpList P ops Q (o :: rest) a w := by
  refine wpList_step fun K hK => ?_
  have hw : Region.wanted o (yielded ops a.tmps) = false := by
    rcases hb with hb | hb
    · exact (Z1h hg hj hb).trans (by simp)
    · exact Z5a hg hj hb
  rw [hw]
  simp only [Bool.false_eq_true, if_false]
  refine hK _ _ ?_
  rw [hd]
  exact hk _ (hE.put hD undef) (Z0h (by rw [hE.size, k.size]; exact Nat.le_of_ble_eq_true hn)) (fun t ht => Z0q ht undef)
/-! What single operations yield. -/
variable {ρ : Operand → Value}
theorem Z03 {x : Operand} (ho : o.op = .move x) (hx : ρ x = v) : (execOp ρ o).run P w = .ok (.value v) w := by simp [execOp, ho, hx]
theorem Z00 {x : Operand} (ho : o.op = .assign x) (hx : ρ x = v) : (execOp ρ o).run P w = .ok (.value v) w := by simp [execOp, ho, hx]
theorem Z0m {c x y : Operand} (ho : o.op = .pick c x y) (hc : ρ c = .bool true) (hx : ρ x = v) : (execOp ρ o).run P w = .ok (.value v) w := by simp [execOp, ho, hc, hx, asBool]
theorem Z08 {c x y : Operand} (ho : o.op = .pick c x y) (hc : ρ c = .bool false) (hx : ρ y = v) : (execOp ρ o).run P w = .ok (.value v) w := by simp [execOp, ho, hc, hx, asBool]
theorem Z1b {x : Operand} {ad : Addr} (ho : o.op = .nilCheck x) (hx : ρ x = .pointer (some ad)) : (execOp ρ o).run P w = .ok (.value (.pointer (some ad))) w := by simp [execOp, ho, hx]
theorem Z4q {op : BinOp} {t u : TypeId} {x y : Operand} {k : IntKind} {m n : Int} (ho : o.op = .binOp op t x y u) (hx : ρ x = .int k m) (hy : ρ y = .int k n) (h : (binOp op t (.int k m) (.int k n)).run P w = .ok v w) : (execOp ρ o).run P w = .ok (.value v) w := by
  unfold execOp
  simp only [ho, hx, hy]
  have hg : (eqGuard op t x y (.int k m) (.int k n)).run P w = .ok () w := by
    cases op <;> simp [eqGuard]
  simp [hg, h]
section
variable {t u : TypeId} {x y : Operand} {k : IntKind} {m n : Int}
theorem Z0x (ho : o.op = .binOp .add t x y u) (hx : ρ x = .int .i64 m) (hy : ρ y = .int .i64 n) (h : -9223372036854775808 ≤ m + n ∧ m + n ≤ 9223372036854775807) : (execOp ρ o).run P w = .ok (.value (.int .i64 (m + n))) w :=
  Z4q ho hx hy (by simp [binOp, Op.intArith, IntWalk.i64_in _ h])
theorem Z3y (ho : o.op = .binOp .sub t x y u) (hx : ρ x = .int .i64 m) (hy : ρ y = .int .i64 n) (h : -9223372036854775808 ≤ m - n ∧ m - n ≤ 9223372036854775807) : (execOp ρ o).run P w = .ok (.value (.int .i64 (m - n))) w :=
  Z4q ho hx hy (by simp [binOp, Op.intArith, IntWalk.i64_in _ h])
theorem Z17 (ho : o.op = .binOp .lss t x y u) (hx : ρ x = .int k m) (hy : ρ y = .int k n) : (execOp ρ o).run P w = .ok (.value (.bool (decide (m < n)))) w := Z4q ho hx hy (by simp [binOp, Op.intCmp])
theorem x_leq (ho : o.op = .binOp .leq t x y u) (hx : ρ x = .int k m) (hy : ρ y = .int k n) : (execOp ρ o).run P w = .ok (.value (.bool (decide (m ≤ n)))) w := Z4q ho hx hy (by simp [binOp, Op.intCmp])
theorem Z1r (ho : o.op = .binOp .gtr t x y u) (hx : ρ x = .int k m) (hy : ρ y = .int k n) : (execOp ρ o).run P w = .ok (.value (.bool (decide (n < m)))) w := Z4q ho hx hy (by simp [binOp, Op.intCmp])
theorem Z5v (ho : o.op = .binOp .geq t x y u) (hx : ρ x = .int k m) (hy : ρ y = .int k n) : (execOp ρ o).run P w = .ok (.value (.bool (decide (n ≤ m)))) w := Z4q ho hx hy (by simp [binOp, Op.intCmp])
theorem Z0v (ho : o.op = .binOp .eql t x y u) (hx : ρ x = .int k m) (hy : ρ y = .int k n) : (execOp ρ o).run P w = .ok (.value (.bool (decide (m = n)))) w := Z4q ho hx hy (by simp [binOp, Op.intCmp, BEq.beq])
theorem Z0j (ho : o.op = .binOp .neq t x y u) (hx : ρ x = .int k m) (hy : ρ y = .int k n) : (execOp ρ o).run P w = .ok (.value (.bool (decide (m ≠ n)))) w := Z4q ho hx hy (by simp [binOp, Op.intCmp, bne, BEq.beq])
theorem Z20 {b : Bool} (ho : o.op = .unOp .not t x) (hx : ρ x = .bool b) : (execOp ρ o).run P w = .ok (.value (.bool (!b))) w := by simp [execOp, ho, hx, Op.unary]
theorem Z0i {A : Option Addr} {l c : Nat} {e : TypeId} (hu : P.underlying t = some (.slice e)) (ho : o.op = .call { callee := .builtin .len, args := #[x], argTypes := #[t] }) (hx : ρ x = .slice A l c) : (execOp ρ o).run P w = .ok (.value (.int .i64 (l : Int))) w := by
  simp [execOp, ho, hx, resolve, invoke, builtin, Builtin.len_, Builtin.lenOf, run_underlying hu, goInt]
end
theorem Z05 {b c : Bool} (h : (execOp ρ o).run P w = .ok (.value (.bool b)) w) (e : b = c) : (execOp ρ o).run P w = .ok (.value (.bool c)) w := e ▸ h
theorem Z16 {v' : Value} (h : (execOp ρ o).run P w = .ok (.value v') w) (e : v' = v) : (execOp ρ o).run P w = .ok (.value v) w := e ▸ h
theorem Z0p {k : IntKind} {m n : Int} (h : m = n) : Value.int k m = .int k n := by rw [h]
end
/-! Things by their place in the row. -/
section
variable {H : Nat} {A w : World} {L : List Thing} {T T' : Thing}
theorem OwnT.get (h : OwnT H A L w) (i : Nat) (hi : L[i]? = some T) : T.holds w := h.all.mem (List.mem_of_getElem? hi)
theorem OwnT.blk (h : OwnT H A L w) (i : Nat) {b : Nat} {t : TypeId} {cs : Array Value} (hi : L[i]? = some (tBlk b t cs)) : Blk w b t cs := h.get i hi
theorem Z4n {α : Type} : ∀ (L : List α) (i : Nat) (x : α), L[i]? = some x → L.Perm (x :: L.eraseIdx i)
  | [], i, x, h => by simp at h
  | y :: L, 0, x, h => by simp at h; subst h; exact .refl _
  | y :: L, i + 1, x, h => by
    simp at h
    exact ((Z4n L i x h).cons y).trans (.swap _ _ _)
theorem Z6j {α : Type} : ∀ (L : List α) (i : Nat) (x y : α), L[i]? = some x → (y :: L.eraseIdx i).Perm (L.set i y)
  | [], i, x, y, h => by simp at h
  | z :: L, 0, x, y, h => by simp
  | z :: L, i + 1, x, y, h => by
    simp at h
    exact (List.Perm.swap _ _ _).trans ((Z6j L i x y h).cons z)
/-- The thing at place i ahead of the others. -/
theorem OwnT.pull (h : OwnT H A L w) (i : Nat) (hi : L[i]? = some T) : OwnT H A (T :: L.eraseIdx i) w := h.perm (Z4n L i T hi)
/-- .. and back, turned. -/
theorem OwnT.push {w' : World} (i : Nat) (hi : L[i]? = some T) (h : OwnT H A (T' :: L.eraseIdx i) w') : OwnT H A (L.set i T') w' := h.perm (Z6j L i T T' hi)
/-- Some of the things, in whatever order. -/
theorem OwnT.pick (h : OwnT H A L w) (is : List Nat) (hn : is.Nodup) : OwnT H A (is.filterMap fun i => L[i]?) w := by
  have hm : ∀ x ∈ is.filterMap (fun i => L[i]?), x ∈ L := fun x hx => by
    obtain ⟨i, _, hi⟩ := List.mem_filterMap.1 hx
    exact List.mem_of_getElem? hi
  refine ⟨h.below, h.size, Ths.of fun x hx => h.all.mem (hm x hx), fun x hx => h.high x (hm x hx), ?_⟩
  rw [List.pairwise_filterMap]
  refine (List.nodup_iff_pairwise_ne.1 hn).imp fun {i j} hij x hx y hy k hk hk' => ?_
  have hd := List.pairwise_iff_getElem.1 h.diff
  obtain ⟨hi, rfl⟩ := List.getElem?_eq_some_iff.1 hx
  obtain ⟨hj, rfl⟩ := List.getElem?_eq_some_iff.1 hy
  rcases Nat.lt_or_gt_of_ne hij with h1 | h1
  · exact hd i j hi hj h1 k hk hk'
  · exact hd j i hj hi h1 k hk' hk
/-- .. ahead of others. -/
theorem OwnT.pickR {R : List Thing} (h : OwnT H A (L ++ R) w) (is : List Nat) (hn : is.Nodup) : OwnT H A ((is.filterMap fun i => L[i]?) ++ R) w := by
  obtain ⟨d1, d2, d3⟩ := List.pairwise_append.1 h.diff
  have hp := OwnT.pick (h.sub (List.sublist_append_left L R)) is hn
  have hm : ∀ x ∈ is.filterMap (fun i => L[i]?), x ∈ L := fun x hx => by
    obtain ⟨i, _, hi⟩ := List.mem_filterMap.1 hx
    exact List.mem_of_getElem? hi
  have hmm : ∀ x ∈ (is.filterMap fun i => L[i]?) ++ R, x ∈ L ++ R := fun x hx => by
    rcases List.mem_append.1 hx with hx | hx
    · exact List.mem_append_left _ (hm x hx)
    · exact List.mem_append_right _ hx
  exact ⟨h.below, h.size, Ths.of fun x hx => h.all.mem (hmm x hx), fun x hx => h.high x (hmm x hx), List.pairwise_append.2 ⟨hp.diff, d2, fun x hx y hy => d3 x (hm x hx) y hy⟩⟩
end
section
variable {P : Program} {Q : Exit → Act → World → Prop} {a a0 a' : Act} {w w' : World} {n : Nat} {D : List Tmp} {ops : Array Oper} {rest : List Oper} {o : Oper} {v : Value}
/-- A store into a block of one's own. -/
theorem Z1k {H : Nat} {A : World} {L : List Thing} {b off : Nat} {t : TypeId} {cs : Array Value} (O : OwnT H A L w) (i : Nat) (hi : L[i]? = some (tBlk b t cs)) (hE : Env a0 D a) (hd : o.dst = none) (hg : o.guard = none)
    (h : (execOp a.eval o).run P w = .ok .skip (w.setCell ⟨b, off, none⟩ v)) (hk : ∀ w', OwnT H A (L.set i (tBlk b t (cs.setIfInBounds off v))) w' → wpList P ops Q rest a w') : wpList P ops Q (o :: rest) a w :=
  Z0g hE hd hg h (hk _ (OwnT.push i hi ((OwnT.pull O i hi).set off v)))
/-- A new block. -/
theorem Z0k {H : Nat} {A : World} {L : List Thing} {t : TypeId} {cs : Array Value} (O : OwnT H A L w) (d : Tmp) (hE : Env a0 D a) (k : Fr n a0) (hd : o.dst = some d) (hn : Nat.blt d n = true) (hD : D.contains d = true) (hg : o.guard = none)
    (h : (execOp a.eval o).run P w = .ok (.value (.pointer (some ⟨w.heap.size, 0, none⟩))) (w.alloc (.cells cs t)))
    (hk : ∀ g a' w', OwnT H A (tBlk g t cs :: L) w' → Env a0 D a' → a'.eval (.tmp d) = .pointer (some ⟨g, 0, none⟩) → (∀ t, Nat.beq t d = false → a'.eval (.tmp t) = a.eval (.tmp t)) → wpList P ops Q rest a' w') : wpList P ops Q (o :: rest) a w :=
  Z22 d hE k hd hn hD hg h (fun a' h1 h2 h3 => hk _ a' _ (O.new t cs) h1 h2 h3)
/-- .. and nothing else has turned. -/
theorem sq_newE {H : Nat} {A : World} {L : List Thing} {t : TypeId} {cs : Array Value} (O : OwnT H A L w) (d : Tmp) (hE : Env a0 D a) (k : Fr n a0) (hd : o.dst = some d) (hn : Nat.blt d n = true) (hD : D.contains d = true) (hg : o.guard = none)
    (h : (execOp a.eval o).run P w = .ok (.value (.pointer (some ⟨w.heap.size, 0, none⟩))) (w.alloc (.cells cs t)))
    (hk : ∀ g a' w', Ext w w' → OwnT H A (tBlk g t cs :: L) w' → Env a0 D a' → a'.eval (.tmp d) = .pointer (some ⟨g, 0, none⟩) → (∀ t, Nat.beq t d = false → a'.eval (.tmp t) = a.eval (.tmp t)) → wpList P ops Q rest a' w') : wpList P ops Q (o :: rest) a w :=
  Z22 d hE k hd hn hD hg h (fun a' h1 h2 h3 => hk _ a' _ (Ext.alloc w _) (O.new t cs) h1 h2 h3)
theorem Z1i {H : Nat} {A : World} {L : List Thing} {t : TypeId} {cs : Array Value} {m c : Nat} (O : OwnT H A L w) (d : Tmp) (hE : Env a0 D a) (k : Fr n a0) (hd : o.dst = some d) (hn : Nat.blt d n = true) (hD : D.contains d = true) (hg : o.guard = none)
    (h : (execOp a.eval o).run P w = .ok (.value (.slice (some ⟨w.heap.size, 0, none⟩) m c)) (w.alloc (.cells cs t)))
    (hk : ∀ g a' w', OwnT H A (tBlk g t cs :: L) w' → Env a0 D a' → a'.eval (.tmp d) = .slice (some ⟨g, 0, none⟩) m c → (∀ t, Nat.beq t d = false → a'.eval (.tmp t) = a.eval (.tmp t)) → wpList P ops Q rest a' w') : wpList P ops Q (o :: rest) a w :=
  Z22 d hE k hd hn hD hg h (fun a' h1 h2 h3 => hk _ a' _ (O.new t cs) h1 h2 h3)
/-- The last operation of a region whose others are done. -/
theorem Z4p {H : Nat} {A : World} {L : List Thing} {b off : Nat} {t : TypeId} {cs : Array Value} (O : OwnT H A L w) (i : Nat) (hi : L[i]? = some (tBlk b t cs)) (hd : o.dst = none)
    (h : (execOp a.eval o).run P w = .ok .skip (w.setCell ⟨b, off, none⟩ v)) (hk : ∀ w', OwnT H A (L.set i (tBlk b t (cs.setIfInBounds off v))) w' → Q .normal a w') : o.wp P a w (fun a w => Q .normal a w) Q := by
  refine Z3b h ?_
  rw [hd]
  exact hk _ (OwnT.push i hi ((OwnT.pull O i hi).set off v))
theorem Env.mono {D' : List Tmp} (hE : Env a0 D a) (h : D.all (fun d => D'.contains d) = true) : Env a0 D' a :=
  ⟨hE.size, hE.defers, fun t ht => hE.keep t (fun hd => ht (by have := List.all_eq_true.1 h t hd; simpa using this))⟩
theorem Z3w (d : Tmp) (D' : List Tmp) (hE : Env a0 D a) (k : Fr n a0) (hd : o.dst = some d) (hn : Nat.blt d n = true) (hs : D.all (fun d => D'.contains d) = true) (hD : D'.contains d = true)
    (h : (execOp a.eval o).run P w = .ok (.value v) w')
    (hk : ∀ a', Env a0 D' a' → a'.eval (.tmp d) = v → (∀ t, Nat.beq t d = false → a'.eval (.tmp t) = a.eval (.tmp t)) → Q .normal a' w') : o.wp P a w (fun a w => Q .normal a w) Q := by
  refine Z1v h ?_
  rw [hd]
  exact hk _ ((hE.mono hs).put hD v) (Z0h (by rw [hE.size, k.size]; exact Nat.le_of_ble_eq_true hn)) (fun t ht => Z0q ht v)
theorem Z1u {ρ : Operand → Value} {x y : Operand} {t t' : TypeId} {u u' : Value} (ho : o.op = .call { callee := .builtin .append, args := #[x, y], argTypes := #[t, t'] }) (hx : ρ x = u) (hy : ρ y = u') (hr : (Builtin.append_ #[t, t'] o.type #[u, u']).run P w = .ok v w') :
    (execOp ρ o).run P w = .ok (.value v) w' := by
  unfold execOp
  simp only [ho, resolve, invoke, builtin, Sem.run_bind, Sem.run_pure, Result.andThen_ok, List.map_toArray, List.map_cons, List.map_nil, hx, hy, hr]
end
/-! Short forms. -/
section
variable {P : Program} {Q : Exit → Act → World → Prop} {a a0 : Act} {w : World} {n : Nat} {D : List Tmp} {ops : Array Oper} {rest : List Oper} {o : Oper} {v : Value}
theorem sd (d : Tmp) (hE : Env a0 D a) (k : Fr n a0) (h : (execOp a.eval o).run P w = .ok (.value v) w)
    (hk : ∀ a', Env a0 D a' → a'.eval (.tmp d) = v → (∀ t, Nat.beq t d = false → a'.eval (.tmp t) = a.eval (.tmp t)) → wpList P ops Q rest a' w)
    (hd : o.dst = some d := by rfl) (hn : Nat.blt d n = true := by rfl) (hD : D.contains d = true := by rfl) (hg : o.guard = none := by rfl) : wpList P ops Q (o :: rest) a w := Z22 d hE k hd hn hD hg h hk
theorem bd {w0 : World} {A : List (List Nat)} {G : List (Nat × TFact Ext) → Prop} {i : Nat} {os : List Oper} {done : List (Nat × TFact Ext)} (d : Tmp) (k : Fr n a0) (hd : o.dst = some d) (hn : Nat.blt d n = true) (hg : o.guard = none)
    (h : ∀ a w, Env a0 D a → Ext w0 w → (∀ (j : Nat) (S' : TFact Ext), j ∈ A.getD i [] → (j, S') ∈ done → S'.T a w) → (execOp a.eval o).run P w = .ok (.value v) w)
    (hr : Build P ops Ext w0 a0 D A G (i + 1) os ((i, det d v) :: done)) : Build P ops Ext w0 a0 D A G i (o :: os) done :=
  Build.det d Ext.refl hd (by rw [k.size]; exact hn) hg h hr
theorem bdg {w0 : World} {A : List (List Nat)} {G : List (Nat × TFact Ext) → Prop} {i : Nat} {os : List Oper} {done : List (Nat × TFact Ext)} {j dj : Nat} {b : Bool} (d : Tmp) (k : Fr n a0) (hd : o.dst = some d) (hn : Nat.blt d n = true) (hg : o.guard = some (j, b)) (hj : (ops[j]?).bind (·.dst) = some dj)
    (h : ∀ a w, Env a0 D a → Ext w0 w → (∀ (j : Nat) (S' : TFact Ext), j ∈ A.getD i [] → (j, S') ∈ done → S'.T a w) → a.eval (.tmp dj) = .bool b ∧ (execOp a.eval o).run P w = .ok (.value v) w)
    (hr : Build P ops Ext w0 a0 D A G (i + 1) os ((i, det d v) :: done)) : Build P ops Ext w0 a0 D A G i (o :: os) done :=
  Build.detg d Ext.refl hd (by rw [k.size]; exact hn) hg hj h hr
theorem kt {a' : Act} {d t : Tmp} (kp : ∀ t, Nat.beq t d = false → a'.eval (.tmp t) = a.eval (.tmp t)) (e : a.eval (.tmp t) = v) (h : Nat.beq t d = false := by rfl) : a'.eval (.tmp t) = v := (kp t h).trans e
theorem Env.g {t : Tmp} (hE : Env a0 D a) (e : a0.eval (.tmp t) = v) (h : D.contains t = false := by rfl) : a.eval (.tmp t) = v := hE.eval t h e
theorem zm {t : Tmp} (d : Tmp) (hE : Env a0 D a) (k : Fr n a0) (e : a0.eval (.tmp t) = v)
    (hk : ∀ a', Env a0 D a' → a'.eval (.tmp d) = v → (∀ t, Nat.beq t d = false → a'.eval (.tmp t) = a.eval (.tmp t)) → wpList P ops Q rest a' w)
    (ho : o.op = .move (.tmp t) := by rfl) (ht : D.contains t = false := by rfl) (hd : o.dst = some d := by rfl) (hn : Nat.blt d n = true := by rfl) (hD : D.contains d = true := by rfl) (hg : o.guard = none := by rfl) : wpList P ops Q (o :: rest) a w := Z22 d hE k hd hn hD hg (Z03 ho (hE.eval t ht e)) hk
end
theorem ml0 {α : Type _} {x : α} {l : List α} : x ∈ x :: l := .head _
theorem ml1 {α : Type _} {x y0 : α} {l : List α} : x ∈ y0 :: x :: l := .tail _ ml0
theorem ml2 {α : Type _} {x y0 y1 : α} {l : List α} : x ∈ y0 :: y1 :: x :: l := .tail _ ml1
theorem ml3 {α : Type _} {x y0 y1 y2 : α} {l : List α} : x ∈ y0 :: y1 :: y2 :: x :: l := .tail _ ml2
theorem ml4 {α : Type _} {x y0 y1 y2 y3 : α} {l : List α} : x ∈ y0 :: y1 :: y2 :: y3 :: x :: l := .tail _ ml3
theorem ml5 {α : Type _} {x y0 y1 y2 y3 y4 : α} {l : List α} : x ∈ y0 :: y1 :: y2 :: y3 :: y4 :: x :: l := .tail _ ml4
theorem ml6 {α : Type _} {x y0 y1 y2 y3 y4 y5 : α} {l : List α} : x ∈ y0 :: y1 :: y2 :: y3 :: y4 :: y5 :: x :: l := .tail _ ml5
theorem ml7 {α : Type _} {x y0 y1 y2 y3 y4 y5 y6 : α} {l : List α} : x ∈ y0 :: y1 :: y2 :: y3 :: y4 :: y5 :: y6 :: x :: l := .tail _ ml6
theorem ml8 {α : Type _} {x y0 y1 y2 y3 y4 y5 y6 y7 : α} {l : List α} : x ∈ y0 :: y1 :: y2 :: y3 :: y4 :: y5 :: y6 :: y7 :: x :: l := .tail _ ml7
theorem ml9 {α : Type _} {x y0 y1 y2 y3 y4 y5 y6 y7 y8 : α} {l : List α} : x ∈ y0 :: y1 :: y2 :: y3 :: y4 :: y5 :: y6 :: y7 :: y8 :: x :: l := .tail _ ml8
theorem ml10 {α : Type _} {x y0 y1 y2 y3 y4 y5 y6 y7 y8 y9 : α} {l : List α} : x ∈ y0 :: y1 :: y2 :: y3 :: y4 :: y5 :: y6 :: y7 :: y8 :: y9 :: x :: l := .tail _ ml9
theorem ml11 {α : Type _} {x y0 y1 y2 y3 y4 y5 y6 y7 y8 y9 y10 : α} {l : List α} : x ∈ y0 :: y1 :: y2 :: y3 :: y4 :: y5 :: y6 :: y7 :: y8 :: y9 :: y10 :: x :: l := .tail _ ml10
theorem ml12 {α : Type _} {x y0 y1 y2 y3 y4 y5 y6 y7 y8 y9 y10 y11 : α} {l : List α} : x ∈ y0 :: y1 :: y2 :: y3 :: y4 :: y5 :: y6 :: y7 :: y8 :: y9 :: y10 :: y11 :: x :: l := .tail _ ml11
theorem ml13 {α : Type _} {x y0 y1 y2 y3 y4 y5 y6 y7 y8 y9 y10 y11 y12 : α} {l : List α} : x ∈ y0 :: y1 :: y2 :: y3 :: y4 :: y5 :: y6 :: y7 :: y8 :: y9 :: y10 :: y11 :: y12 :: x :: l := .tail _ ml12
theorem ml14 {α : Type _} {x y0 y1 y2 y3 y4 y5 y6 y7 y8 y9 y10 y11 y12 y13 : α} {l : List α} : x ∈ y0 :: y1 :: y2 :: y3 :: y4 :: y5 :: y6 :: y7 :: y8 :: y9 :: y10 :: y11 :: y12 :: y13 :: x :: l := .tail _ ml13
theorem ml15 {α : Type _} {x y0 y1 y2 y3 y4 y5 y6 y7 y8 y9 y10 y11 y12 y13 y14 : α} {l : List α} : x ∈ y0 :: y1 :: y2 :: y3 :: y4 :: y5 :: y6 :: y7 :: y8 :: y9 :: y10 :: y11 :: y12 :: y13 :: y14 :: x :: l := .tail _ ml14
theorem zhF {R : World → World → Prop} {X : List Nat} {done : List (Nat × TFact R)} {a : Act} {w : World} {v : Value} (hF : ∀ (j : Nat) (S' : TFact R), j ∈ X → (j, S') ∈ done → S'.T a w) (i : Nat) (d : Tmp) (m : (i, det d v) ∈ done) (h : i ∈ X := by decide) : a.eval (.tmp d) = v := hF i _ h m
end Go.Proofs.Ytdeocidlkpbhcaa

/- Rows of elements of k cells: copy, clear, append at a place; rows as things. No function of the program in sight. -/
namespace Go.Proofs.Ytdeocidlkpbhcaa
set_option linter.unusedVariables false
set_option linter.unusedSimpArgs false
open Go.RowKit Go.Maps Go.ChangeMaps Go.MapKept Go.WideShapes

theorem Blk.setRow {w : World} {g : Nat} {t : TypeId} {cs : Array Value} (h : Blk w g t cs) (cs' : Array Value) : Blk (w.setRow g cs') g t cs' := setRow_heap w g cs cs' t (0, 0) h
theorem Z1e (w : World) (g : Nat) (cs : Array Value) : Chg [g] w (w.setRow g cs) := ⟨rfl, rfl, rfl, by simp, fun i _ hn => setRow_other w g i cs (by simpa using hn)⟩
/-- A row of one's own as a thing. -/
def tRow (T : TypeId) (k : Nat) (v : Value) (n : Nat) (xs : List Value) : Thing where
  foot := v.ownBlock.toList
  holds := fun w => w.ownsRow 0 T k v n xs
  keep := fun w w' _ h hb => by
    refine ⟨hb.1, ?_⟩
    rcases hb.2 with hn | ⟨g, cap, cur, rfl, hg, hgb, rest⟩
    · exact .inl hn
    · exact .inr ⟨g, cap, cur, rfl, hg, (h g (by simp [Value.ownBlock])).trans hgb, rest⟩
  lt := fun w h i hi => (h.lt i (by simpa using hi)).2
/-- What a row that is not nil is. -/
theorem Z11 {w : World} {T : TypeId} {k n : Nat} {v : Value} {xs : List Value} (h : w.ownsRow 0 T k v n xs) (hn : 0 < n) : ∃ g cap cur, v = .slice (some ⟨g, 0, none⟩) n cap ∧ Blk w g T cur ∧ n ≤ cap ∧ cap ≤ maxLen ∧ cur.size = cap * k ∧ cur.toList.take (n * k) = xs := by
  rcases h.2 with ⟨_, rfl⟩ | ⟨g, cap, cur, rfl, _, h1, h2, h3, h4, h5⟩
  · omega
  · exact ⟨g, cap, cur, rfl, h1, h2, h3, h4, h5⟩
theorem Z4m {w : World} {T : TypeId} {k n g cap : Nat} {cur : Array Value} {xs : List Value} (h1 : Blk w g T cur) (h2 : n ≤ cap) (h3 : cap ≤ maxLen) (h4 : cur.size = cap * k) (h5 : cur.toList.take (n * k) = xs) :
    w.ownsRow 0 T k (.slice (some ⟨g, 0, none⟩) n cap) n xs := by
  have hc : n * k ≤ cap * k := Nat.mul_le_mul_right k h2
  refine ⟨?_, .inr ⟨g, cap, cur, rfl, Nat.zero_le _, h1, h2, h3, h4, h5⟩⟩
  rw [← h5, List.length_take, Array.length_toList, h4]
  omega
theorem OwnT.row {H : Nat} {A w w' : World} {L : List Thing} {T : TypeId} {k n n' : Nat} {v v' : Value} {xs xs' : List Value} (h : OwnT H A (tRow T k v n xs :: L) w) (hr : w'.ownsRow 0 T k v' n' xs') (hg : w.grownBy w' v.ownBlock)
    (hf : v'.ownBlock = v.ownBlock ∨ ∃ j, v'.ownBlock = some j ∧ w.heap.size ≤ j) : OwnT H A (tRow T k v' n' xs' :: L) w' := by
  refine h.call (F := v.ownBlock.toList) ⟨hg.os, hg.tape, hg.output, hg.size, fun i hi hn => hg.block i hi (fun e => hn (by rw [← e]; simp))⟩ (fun i hi => hi) (tRow T k v' n' xs') hr (fun i hi => ?_)
  rcases hf with e | ⟨j, e, hj⟩
  · exact .inl (by simp only [tRow] at hi ⊢; rw [← e]; exact hi)
  · simp only [tRow, e, Option.toList_some, List.mem_singleton] at hi
    exact .inr (by omega)
theorem OwnT.r0 {H : Nat} {A w : World} {L : List Thing} {T : TypeId} {k n : Nat} {v : Value} {xs : List Value} (h : OwnT H A (tRow T k v n xs :: L) w) : w.ownsRow 0 T k v n xs := h.all.1
theorem OwnT.b0 {H : Nat} {A w : World} {L : List Thing} {b : Nat} {t : TypeId} {cs : Array Value} (h : OwnT H A (tBlk b t cs :: L) w) : Blk w b t cs := h.all.1
theorem OwnT.b1 {H : Nat} {A w : World} {X : Thing} {L : List Thing} {b : Nat} {t : TypeId} {cs : Array Value} (h : OwnT H A (X :: tBlk b t cs :: L) w) : Blk w b t cs := h.all.2.1
theorem OwnT.b2 {H : Nat} {A w : World} {X Y : Thing} {L : List Thing} {b : Nat} {t : TypeId} {cs : Array Value} (h : OwnT H A (X :: Y :: tBlk b t cs :: L) w) : Blk w b t cs := h.all.2.2.1
section
variable {P : Program}
/-- copy of elements of k cells. -/
theorem Z25 (w : World) (dT sT ty elem : TypeId) (i : TypeInfo) (k : Nat) (hu : P.underlying dT = some (.slice elem)) (hi : P.info? elem = some i) (hk : i.size = k) (g o dLen dCap : Nat) (a : Addr) (sLen sCap : Nat) (cur : Array Value) (t : TypeId) (cs : List Value)
    (hg : Blk w g t cur) (hn : cs.length = Nat.min sLen dLen * k) (hsrc : ∀ j v, cs[j]? = some v → w.cell? (a.add j) = some v) (hfit : o + cs.length ≤ cur.size) (h1 : ∀ v ∈ cs, v.oneCell' = true) :
    (Builtin.copy_ #[dT, sT] ty #[.slice (some ⟨g, o, none⟩) dLen dCap, .slice (some a) sLen sCap]).run P w = .ok (goInt (Nat.min sLen dLen)) (w.setRow g (splice cur.toList o cs).toArray) := by
  have hl := run_loadCells_list (P := P) w a cs hsrc
  have hst := run_storeCells_at P g o t cs 0 cur w hg (by simpa using hfit) h1
  subst hk
  simp [Builtin.copy_, run_underlying hu, Builtin.lenOf, Builtin.firstCells, sizeOf, typeInfo, hi, ← hn, hl, hst, splice]
theorem Z4v (w : World) (dT sT ty elem : TypeId) (i : TypeInfo) (hu : P.underlying dT = some (.slice elem)) (hi : P.info? elem = some i) (A B : Option Addr) (dLen dCap sLen sCap : Nat) (hn : Nat.min sLen dLen = 0) :
    (Builtin.copy_ #[dT, sT] ty #[.slice A dLen dCap, .slice B sLen sCap]).run P w = .ok (goInt 0) w := by
  cases A <;> cases B <;> simp [Builtin.copy_, run_underlying hu, Builtin.lenOf, Builtin.firstCells, sizeOf, typeInfo, hi, hn, storeCells, loadCells, loadCellsFrom]
/-- clear of elements of k cells. -/
theorem Z2x (w : World) (t elem ty : TypeId) (i : TypeInfo) (z : Value) (hu : P.underlying t = some (.slice elem)) (hi : P.info? elem = some i) (hz : i.zero = some z) (g o n c : Nat) (cur : Array Value) (T : TypeId)
    (hg : Blk w g T cur) (hn : 0 < n) (hfit : o + n * z.cells.size ≤ cur.size) (h1 : ∀ v ∈ (Builtin.zeroCells z.cells n).toList, v.oneCell' = true) :
    (Builtin.clear_ #[t] ty #[.slice (some ⟨g, o, none⟩) n c]).run P w = .ok (.tuple #[]) (w.setRow g (splice cur.toList o (Builtin.zeroCells z.cells n).toList).toArray) := by
  have hl : (Builtin.zeroCells z.cells n).toList.length = n * z.cells.size := by simp [Builtin.zeroCells]
  have hst := run_storeCells_at P g o T (Builtin.zeroCells z.cells n).toList 0 cur w hg (by rw [hl]; simpa using hfit) h1
  obtain ⟨m, rfl⟩ : ∃ m, n = m + 1 := ⟨n - 1, by omega⟩
  simp [Builtin.clear_, run_underlying hu, zeroValue, typeInfo, hi, hz, hst, splice]
theorem Z4h (w : World) (t elem ty : TypeId) (hu : P.underlying t = some (.slice elem)) (A : Option Addr) (c : Nat) :
    (Builtin.clear_ #[t] ty #[.slice A 0 c]).run P w = .ok (.tuple #[]) w := by
  cases A <;> simp [Builtin.clear_, run_underlying hu]
/-- append to a row of one's own: which block it lies in then. -/
theorem Z1t (w : World) (t ty e : TypeId) (i : TypeInfo) (z : Value) (size bytes : Nat) (ht : P.underlying t = some (.slice e)) (hi : P.info? e = some i) (hz : i.zero = some z)
    (hsize : i.size = size) (hby : i.bytes = bytes) (hzs : z.cells.size = size) (hsz : 0 < size) (v : Value) (n : Nat) (xs : List Value) (hown : w.ownsRow 0 e size v n xs)
    (a : Addr) (m c : Nat) (news : List Value) (hl : news.length = m * size) (hnews : ∀ j u, news[j]? = some u → w.cell? (a.add j) = some u) (h1 : ∀ u ∈ news, u.oneCell' = true)
    (h63 : n + m ≤ maxLen) (hbytes : (n + m) * bytes ≤ 140737488355328) :
    ∃ v' w', (Builtin.append_ #[t, t] ty #[v, .slice (some a) m c]).run P w = .ok v' w' ∧ w'.ownsRow 0 e size v' (n + m) (xs ++ news) ∧ w.grownBy w' v.ownBlock ∧
      (v'.ownBlock = v.ownBlock ∨ ∃ k, v'.ownBlock = some k ∧ w.heap.size ≤ k) := by
  obtain ⟨v', w', hrun, h2, h3, h4⟩ := run_append_own (P := P) w 0 t ty e i z size bytes ht hi hz hsize hby hzs hsz v n xs hown a m c news hl hnews h1 h63 hbytes (Nat.zero_le _)
  refine ⟨v', w', hrun, h2, h3, ?_⟩
  subst hsize hby
  rcases hown.2 with ⟨rfl, rfl⟩ | ⟨g, cap, cur, rfl, hbg, hg, hnc, hcm, hcs, htake⟩
  · by_cases hm : m = 0
    · obtain rfl := (h4.2 ⟨rfl, hm⟩)
      exact .inl rfl
    · have hr := run_append_nil (P := P) w t ty e i z ht hi hz a m c news hl hnews (by omega) (by have := h63; unfold maxLen at this; omega) (by have hb := hbytes; simp only [Nat.zero_add] at hb; omega)
      rw [hr] at hrun
      injection hrun with e1 e2
      subst e1
      exact .inr ⟨w.heap.size, rfl, Nat.le_refl _⟩
  · by_cases hroom : n + m ≤ cap
    · have hfit : n * i.size + news.length ≤ cur.size := by rw [hl, hcs, ← Nat.add_mul]; exact Nat.mul_le_mul_right _ hroom
      have hr := run_append_room (P := P) w t ty e i ht hi g n cap cur hg a m c news hl hnews h1 hroom hfit
      rw [hr] at hrun
      injection hrun with e1 e2
      subst e1
      exact .inl rfl
    · have holds : ∀ j u, xs[j]? = some u → w.cell? ((⟨g, 0, none⟩ : Addr).add j) = some u := hown.cells (g := g) rfl
      have hr := run_append_grow (P := P) w t ty e i z ht hi hz ⟨g, 0, none⟩ n cap xs hown.1 holds a m c news hl hnews (by omega) (by have := h63; unfold maxLen at this; omega) (growslice_fits (by omega) hbytes)
      rw [hr] at hrun
      injection hrun with e1 e2
      subst e1
      exact .inr ⟨w.heap.size, rfl, Nat.le_refl _⟩
/-- copy, append, clear at an operation, by their runs. -/
theorem Z2u {w : World} {o : Oper} {a : Act} {K : Act → World → Prop} {Q : Exit → Act → World → Prop} (d s : Operand) (t t' : TypeId)
    (ho : o.op = .call { callee := .builtin .copy, args := #[d, s], argTypes := #[t, t'] }) (v u : Value) (hd : a.eval d = v) (hs : a.eval s = u) {v' : Value} {w' : World}
    (hr : (Builtin.copy_ #[t, t'] o.type #[v, u]).run P w = .ok v' w') (h : K (a.put o.dst v') w') : o.wp P a w K Q := by
  unfold Oper.wp execOp
  simp only [ho, resolve, invoke, builtin, Sem.run_bind, Sem.run_pure, Result.andThen_ok, List.map_toArray, List.map_cons, List.map_nil, hd, hs, hr]
  exact h
theorem Z18 {w : World} {ops : Array Oper} {rest : List Oper} {o : Oper} {a : Act} {Q : Exit → Act → World → Prop} (hgd : o.guard = none) (d s : Operand) (t t' : TypeId)
    (ho : o.op = .call { callee := .builtin .copy, args := #[d, s], argTypes := #[t, t'] }) (v u : Value) (hd : a.eval d = v) (hs : a.eval s = u) {v' : Value} {w' : World}
    (hr : (Builtin.copy_ #[t, t'] o.type #[v, u]).run P w = .ok v' w') (h : wpList P ops Q rest (a.put o.dst v') w') : wpList P ops Q (o :: rest) a w :=
  wpList_plain hgd fun _ hK => Z2u d s t t' ho v u hd hs hr (hK _ _ h)
theorem Z2d {w : World} {o : Oper} {a : Act} {K : Act → World → Prop} {Q : Exit → Act → World → Prop} (d s : Operand) (t t' : TypeId)
    (ho : o.op = .call { callee := .builtin .append, args := #[d, s], argTypes := #[t, t'] }) (v u : Value) (hd : a.eval d = v) (hs : a.eval s = u) {v' : Value} {w' : World}
    (hr : (Builtin.append_ #[t, t'] o.type #[v, u]).run P w = .ok v' w') (h : K (a.put o.dst v') w') : o.wp P a w K Q := by
  unfold Oper.wp execOp
  simp only [ho, resolve, invoke, builtin, Sem.run_bind, Sem.run_pure, Result.andThen_ok, List.map_toArray, List.map_cons, List.map_nil, hd, hs, hr]
  exact h
theorem Z0t {w : World} {ops : Array Oper} {rest : List Oper} {o : Oper} {a : Act} {Q : Exit → Act → World → Prop} (hgd : o.guard = none) (d s : Operand) (t t' : TypeId)
    (ho : o.op = .call { callee := .builtin .append, args := #[d, s], argTypes := #[t, t'] }) (v u : Value) (hd : a.eval d = v) (hs : a.eval s = u) {v' : Value} {w' : World}
    (hr : (Builtin.append_ #[t, t'] o.type #[v, u]).run P w = .ok v' w') (h : wpList P ops Q rest (a.put o.dst v') w') : wpList P ops Q (o :: rest) a w :=
  wpList_plain hgd fun _ hK => Z2d d s t t' ho v u hd hs hr (hK _ _ h)
theorem Z2h {w : World} {ops : Array Oper} {rest : List Oper} {o : Oper} {a : Act} {Q : Exit → Act → World → Prop} (hgd : o.guard = none) (d : Operand) (t : TypeId)
    (ho : o.op = .call { callee := .builtin .clear, args := #[d], argTypes := #[t] }) (v : Value) (hd : a.eval d = v) {v' : Value} {w' : World}
    (hr : (Builtin.clear_ #[t] o.type #[v]).run P w = .ok v' w') (h : wpList P ops Q rest (a.put o.dst v') w') : wpList P ops Q (o :: rest) a w := by
  refine wpList_plain hgd fun _ hK => ?_
  unfold Oper.wp execOp
  simp only [ho, resolve, invoke, builtin, Sem.run_bind, Sem.run_pure, Result.andThen_ok, List.map_toArray, List.map_cons, List.map_nil, hd, hr]
  exact hK _ _ h
end
end Go.Proofs.Ytdeocidlkpbhcaa
