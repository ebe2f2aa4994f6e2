/- Maps with int keys and whatever elements: what they say of each int. -/
import Derived.Test.YtdeocidlkpbhcaaKReachShares05
import Derived.Maps.RangeWalk
import Derived.Maps.OwnSet
import Derived.Maps.OwnOps
import Derived.Test.YtdeocidlkpbhcaaKReachShares03
import Derived.Test.YtdeocidlkpbhcaaKReachShares01
namespace Go.Proofs.Ytdeocidlkpbhcaa
set_option linter.unusedVariables false
set_option linter.unusedSimpArgs false
open Go.RowKit Go.Maps

/-- An element reads as itself. -/
def heldE (v : Value) : Option (DataW Value × List MemPlace) := some (.held v, [])
theorem Z3v : Keyed Try.prog 3 := int_keyed Try.underlying3
abbrev wfV (i : Int) : Prop := (Lit.int .i64 i).wf = true
theorem Z59 {a : Int} (h0 : -9223372036854775808 ≤ a) (h1 : a ≤ 9223372036854775807) : wfV a := WalkArith.wf_i64 (by omega)
theorem Z52 {i : Int} (h : wfV i) : keyOf Try.prog 3 (.int .i64 i) = some (.int .i64 i) := keyOf_int_mk Try.underlying3 h
theorem keyV (i : Int) : WideAt.IsKeyLit (.int .i64 i) := trivial
theorem Z51 {i c : Int} (h : i ≠ c) : (Lit.int .i64 i) ≠ (Lit.int .i64 c) := fun e => h (by injection e)
def orV (o : Option Value) (z : DataW Value) : DataW Value := match o with | some v => .held v | none => z
def SaysV (D : DataW Value) (m : Int → Option Value) : Prop := ∀ i, wfV i → (∀ z, D.atKey (.int .i64 i) z = orV (m i) z) ∧ Maps.has D (.int .i64 i) = (m i).isSome
/-- Block b is a map of at most n entries that says m. -/
def VM (w : World) (b n : Nat) (m : Int → Option Value) : Prop := ∃ D : DataW Value, w.ownsMap Try.prog 3 heldE b n D ∧ SaysV D m
def putV (m : Int → Option Value) (c : Int) (v : Value) : Int → Option Value := fun i => if i = c then some v else m i
def delV (m : Int → Option Value) (c : Int) : Int → Option Value := fun i => if i = c then none else m i
section
variable {w w' : World} {b n : Nat} {m : Int → Option Value}
theorem VM.made (w : World) : VM (w.alloc (.map #[] 0)) w.heap.size 0 (fun _ => none) :=
  ⟨.map [], World.ownsMap_made _ _ _ _, fun _ _ => ⟨fun _ => rfl, rfl⟩⟩
theorem VM.lt (h : VM w b n m) : b < w.heap.size := by
  obtain ⟨D, h1, h2⟩ := h
  exact h1.lt
theorem VM.same (h : VM w b n m) (hb : w'.heap[b]? = w.heap[b]?) : VM w' b n m := by
  obtain ⟨D, ⟨es, clock, h1, h2⟩, h3⟩ := h
  exact ⟨D, ⟨es, clock, hb.trans h1, h2⟩, h3⟩
theorem VM.ext (h : VM w b n m) (k : Ext w w') : VM w' b n m := h.same (k.block b h.lt)
theorem VM.chg {F : List Nat} (h : VM w b n m) (k : Chg F w w') (hb : b ∉ F) : VM w' b n m := h.same (k.block b h.lt hb)
theorem VM.mono (h : VM w b n m) {k : Nat} (hk : n ≤ k) : VM w b k m := by
  obtain ⟨D, h1, h2⟩ := h
  exact ⟨D, h1.mono hk, h2⟩
theorem VM.congr {m' : Int → Option Value} (h : VM w b n m) (hm : ∀ i, wfV i → m i = m' i) : VM w b n m' := by
  obtain ⟨D, h1, h2⟩ := h
  exact ⟨D, h1, fun i hi => by rw [← hm i hi]; exact h2 i hi⟩
theorem SaysV.put {D : DataW Value} (h : SaysV D m) (hm : IsMap D) (c : Int) (v : Value) : SaysV (D.put (.int .i64 c) (.held v)) (putV m c v) := by
  intro i hi
  unfold putV
  by_cases e : i = c
  · subst e
    rw [if_pos rfl, has_put_same hm (keyV i)]
    exact ⟨fun z => atKey_put_same hm (keyV i) _ _, rfl⟩
  · rw [if_neg e, has_put_other (Z51 e)]
    exact ⟨fun z => by rw [atKey_put_other (Z51 e)]; exact (h i hi).1 z, (h i hi).2⟩
theorem SaysV.del {D : DataW Value} (h : SaysV D m) (c : Int) : SaysV (D.del (.int .i64 c)) (delV m c) := by
  intro i hi
  unfold delV
  by_cases e : i = c
  · subst e
    rw [if_pos rfl, has_del_same]
    exact ⟨fun z => atKey_del_same _, rfl⟩
  · rw [if_neg e, has_del_other (Z51 e)]
    exact ⟨fun z => by rw [atKey_del_other (Z51 e)]; exact (h i hi).1 z, (h i hi).2⟩
variable {t e : TypeId} {z : Value}
theorem VM.look (h : VM w b n m) (ht : Try.prog.underlying t = some (.map 3 e)) (hz : (zeroValue e).run Try.prog w = .ok z w) {c : Int} (hc : wfV c) :
    (Instr.lookup t (.map (some b)) (.int .i64 c) false).run Try.prog w = .ok ((m c).getD z) w := by
  obtain ⟨D, h1, h2⟩ := h
  obtain ⟨v, ps, hrun, hv⟩ := h1.lookup Z3v ht hz (zd := .held z) (zp := []) rfl (Z52 hc)
  rw [(h2 c hc).1] at hv
  unfold heldE at hv
  rw [hrun]
  cases hm : m c with
  | none => rw [hm] at hv; simp [orV] at hv; rw [hv.1]; rfl
  | some x => rw [hm] at hv; simp [orV] at hv; rw [hv.1]; rfl
theorem VM.store (h : VM w b n m) (ht : Try.prog.underlying t = some (.map 3 e)) (hn : n < maxLen) {c : Int} (hc : wfV c) (v : Value) :
    ∃ w', (Instr.mapUpdate t (.map (some b)) (.int .i64 c) v).run Try.prog w = .ok () w' ∧ VM w' b (n + 1) (putV m c v) ∧ Chg [b] w w' := by
  obtain ⟨D, h1, h2⟩ := h
  obtain ⟨w', hrun, h3, h4⟩ := h1.update Z3v ht hn (Z52 hc) (d := .held v) (ps := []) rfl
  exact ⟨w', hrun, ⟨_, h3, h2.put h1.isMap c v⟩, Chg.of_grown h4⟩
theorem VM.drop (h : VM w b n m) (ht : Try.prog.underlying t = some (.map 3 e)) {c : Int} (hc : wfV c) (ty : TypeId) :
    ∃ w', (Builtin.delete_ #[t, 3] ty #[.map (some b), .int .i64 c]).run Try.prog w = .ok (.tuple #[]) w' ∧ VM w' b n (delV m c) ∧ Chg [b] w w' := by
  obtain ⟨D, h1, h2⟩ := h
  obtain ⟨w', hrun, h3, h4⟩ := h1.drop Z3v ht (Z52 hc) ty
  exact ⟨w', hrun, ⟨_, h3, h2.del c⟩, Chg.of_grown h4.grown⟩
end
section
variable {ops : Array Oper} {rest : List Oper} {o : Oper} {a : Act} {Q : Exit → Act → World → Prop} {K : Act → World → Prop} {w : World} {b n : Nat} {m : Int → Option Value}
end
/-- 'for k, v := range m' under way: 'left' are to come. -/
def VR (w : World) (b r n : Nat) (m : Int → Option Value) (left : Int → Bool) (cnt : Nat) : Prop :=
  ∃ (D : DataW Value) (l : Lit → Bool), w.ranges Try.prog 3 heldE b r n D l cnt ∧ SaysV D m ∧ ∀ i, wfV i → l (.int .i64 i) = left i
section
variable {w w' : World} {b r n cnt : Nat} {m : Int → Option Value} {left : Int → Bool}
theorem VR.vm (h : VR w b r n m left cnt) : VM w b n m := by
  obtain ⟨D, l, h1, h2, h3⟩ := h
  exact ⟨D, h1.owns, h2⟩
theorem VR.ne (h : VR w b r n m left cnt) : r ≠ b := by
  obtain ⟨D, l, h1, h2, h3⟩ := h
  exact h1.ne
theorem VR.lt (h : VR w b r n m left cnt) : r < w.heap.size := by
  obtain ⟨D, l, h1, h2, h3⟩ := h
  exact h1.lt
theorem VR.same (h : VR w b r n m left cnt) (hb : w'.heap[b]? = w.heap[b]?) (hr : w'.heap[r]? = w.heap[r]?) : VR w' b r n m left cnt := by
  obtain ⟨D, l, ⟨es, clock, since, seen, c0, h1, h2, h3, h4, h5, h6⟩, h7⟩ := h
  exact ⟨D, l, ⟨es, clock, since, seen, c0, hb.trans h1, h2, h3, h4, hr.trans h5, h6⟩, h7⟩
theorem VR.chg {F : List Nat} (h : VR w b r n m left cnt) (k : Chg F w w') (hb : b ∉ F) (hr : r ∉ F) : VR w' b r n m left cnt := h.same (k.block b h.vm.lt hb) (k.block r h.lt hr)
theorem VR.ext (h : VR w b r n m left cnt) (k : Ext w w') : VR w' b r n m left cnt := h.same (k.block b h.vm.lt) (k.block r h.lt)
variable {ops : Array Oper} {rest : List Oper} {o : Oper} {a : Act} {Q : Exit → Act → World → Prop}
end
/-- A map as a thing. -/
def tMap (b n : Nat) (m : Int → Option Value) : Thing where
  foot := [b]
  holds := fun w => VM w b n m
  keep := fun w w' _ h hb => hb.same (h b (by simp))
  lt := fun w h i hi => by
    simp at hi
    subst hi
    exact h.lt
end Go.Proofs.Ytdeocidlkpbhcaa

/- Reach, plain: which pages trees need, and how often each is led to. -/
namespace Go.Proofs.Ytdeocidlkpbhcaa
set_option linter.unusedVariables false
set_option linter.unusedSimpArgs false
open Go.RowKit Go.Maps
/-! Sums over the numbers 1 .. 1023. -/
def sumL : List Nat → Nat
  | [] => 0
  | x :: l => x + sumL l
theorem Z21 : ∀ (a b : List Nat), sumL (a ++ b) = sumL a + sumL b
  | [], b => by simp [sumL]
  | x :: a, b => by rw [List.cons_append, sumL, sumL, Z21 a b]; omega
def sumN (f : Nat → Nat) : Nat → Nat
  | 0 => 0
  | n + 1 => sumN f n + f (n + 1)
theorem Z0y {f g : Nat → Nat} : ∀ (n : Nat), (∀ i, 1 ≤ i → i ≤ n → f i = g i) → sumN f n = sumN g n
  | 0, _ => rfl
  | n + 1, h => by rw [sumN, sumN, Z0y n (fun i h1 h2 => h i h1 (by omega)), h (n + 1) (by omega) (Nat.le_refl _)]
theorem Z31 (f g : Nat → Nat) : ∀ (n : Nat), sumN (fun i => f i + g i) n = sumN f n + sumN g n
  | 0 => rfl
  | n + 1 => by rw [sumN, sumN, sumN, Z31 f g n]; omega
theorem Z1w : ∀ (n : Nat), sumN (fun _ => 0) n = 0
  | 0 => rfl
  | n + 1 => by rw [sumN, Z1w n]
theorem Z3q {p k : Nat} (hp : 1 ≤ p) : ∀ (n : Nat), sumN (fun i => if i = p then k else 0) n = if p ≤ n then k else 0
  | 0 => by rw [if_neg (by omega)]; rfl
  | n + 1 => by
    rw [sumN, Z3q hp n]
    by_cases e : n + 1 = p
    · rw [if_pos e, if_neg (by omega), if_pos (by omega)]; omega
    · rw [if_neg e]
      by_cases h : p ≤ n
      · rw [if_pos h, if_pos (by omega)]; rfl
      · rw [if_neg h, if_neg (by omega)]
theorem Z3p {f : Nat → Nat} : ∀ (n : Nat), sumN f n ≠ 0 ↔ ∃ i, 1 ≤ i ∧ i ≤ n ∧ f i ≠ 0
  | 0 => ⟨fun h => absurd rfl h, fun ⟨i, h1, h2, _⟩ => by omega⟩
  | n + 1 => by
    rw [sumN]
    constructor
    · intro h
      by_cases e : sumN f n = 0
      · exact ⟨n + 1, by omega, Nat.le_refl _, by omega⟩
      · obtain ⟨i, h1, h2, h3⟩ := (Z3p n).1 e
        exact ⟨i, h1, by omega, h3⟩
    · rintro ⟨i, h1, h2, h3⟩
      by_cases e : i = n + 1
      · subst e; omega
      · have := (Z3p n).2 ⟨i, h1, by omega, h3⟩
        omega
/-! Counts. -/
/-- How often a node leads to a page. -/
def cntX (xs : List Pr) (q : Nat) : Nat := xs.countP fun x => decide (x.2 = q)
def cntIn (N : List Nd) (p q : Nat) : Nat := match ndAt N p with
  | some (l, xs) => if l = 0 then 0 else cntX xs q
  | none => 0
/-- How often pages are led to: by roots, and by the nodes that were gone through. -/
def ldF (N : List Nd) (rs : List Nat) (sn : Nat → Bool) (q : Nat) : Nat := rs.countP (fun r => decide (r = q)) + sumN (fun p => if sn p then cntIn N p q else 0) 1023
def insB (p : Nat) (sn : Nat → Bool) : Nat → Bool := fun i => decide (i = p) || sn i
def unB (g : List Nat) (sn : Nat → Bool) : Nat → Bool := fun i => decide (i ∈ g) || sn i
theorem insB_seen {p : Nat} {sn : Nat → Bool} (h : sn p = true) : insB p sn = sn := by
  funext i
  unfold insB
  by_cases e : i = p
  · subst e; rw [h, Bool.or_true]
  · rw [decide_eq_false e, Bool.false_or]
theorem Z7f (sn : Nat → Bool) : unB [] sn = sn := by funext i; simp [unB]
theorem unB_step {g : List Nat} {j p : Nat} (sn : Nat → Bool) (h : g[j]? = some p) : insB p (unB (g.take j) sn) = unB (g.take (j + 1)) sn := by
  funext i
  unfold insB unB
  rw [List.take_add_one, h]
  by_cases e : i = p <;> by_cases e2 : i ∈ g.take j <;> simp [e, e2]
theorem ldF_root (N : List Nd) (rs : List Nat) (sn : Nat → Bool) (r : Nat) : ldF N (rs ++ [r]) sn = fun q => if q = r then ldF N rs sn r + 1 else ldF N rs sn q := by
  funext q
  unfold ldF
  rw [List.countP_append]
  by_cases e : q = r
  · subst e
    rw [if_pos rfl]
    simp [List.countP_cons]
    omega
  · have e' : ¬ r = q := fun h => e h.symm
    rw [if_neg e]
    simp [List.countP_cons, e']
theorem Z6m {N : List Nd} {rs : List Nat} {sn : Nat → Bool} {p : Nat} (h : sn p = false) (h1 : 1 ≤ p) (h2 : p ≤ 1023) (q : Nat) : ldF N rs (insB p sn) q = ldF N rs sn q + cntIn N p q := by
  unfold ldF
  have e1 : sumN (fun i => if insB p sn i = true then cntIn N i q else 0) 1023 = sumN (fun i => (if sn i then cntIn N i q else 0) + (if i = p then cntIn N p q else 0)) 1023 := Z0y 1023 fun i _ _ => by
    unfold insB
    by_cases e : i = p
    · subst e; simp [h]
    · simp [e]
  have e2 : sumN (fun i => if i = p then cntIn N p q else 0) 1023 = cntIn N p q := by rw [Z3q h1, if_pos h2]
  rw [e1, Z31, e2, Nat.add_assoc]
def SnOk (N : List Nd) (sn : Nat → Bool) : Prop := ∀ p, sn p = true → ∃ l xs, ndAt N p = some (l, xs) ∧ xs.length ≤ 15
theorem Z7r {f : Nat → Nat} {k : Nat} : ∀ (n : Nat), (∀ i, f i ≤ k) → sumN f n ≤ n * k
  | 0, _ => by simp [sumN]
  | n + 1, h => by
    have h1 := Z7r n h
    have h2 := h (n + 1)
    rw [sumN, Nat.succ_mul]
    omega
theorem ldF_le {N : List Nd} {rs : List Nat} {sn : Nat → Bool} (h : SnOk N sn) (q : Nat) : ldF N rs sn q ≤ rs.length + 1023 * 15 := by
  unfold ldF
  have h1 := List.countP_le_length (p := fun r => decide (r = q)) (l := rs)
  have h2 : sumN (fun p => if sn p = true then cntIn N p q else 0) 1023 ≤ 1023 * 15 := Z7r 1023 fun i => by
    show (if sn i = true then cntIn N i q else 0) ≤ 15
    split
    · rename_i hs
      obtain ⟨l, xs, e1, e2⟩ := h i hs
      unfold cntIn
      rw [e1]
      show (if l = 0 then 0 else cntX xs q) ≤ 15
      split
      · omega
      · exact Nat.le_trans List.countP_le_length e2
    · omega
  exact Nat.add_le_add h1 h2
theorem SnOk.un {N : List Nd} {sn : Nat → Bool} {g : List Nat} (h : SnOk N sn) (hg : ∀ z ∈ g, ∃ l xs, ndAt N z = some (l, xs) ∧ xs.length ≤ 15) : SnOk N (unB g sn) := fun p hp => by
  unfold unB at hp
  rcases Bool.or_eq_true_iff.1 hp with h1 | h1
  · exact hg p (of_decide_eq_true h1)
  · exact h p h1
/-- Behind so many pairs of a node. -/
def addX (f : Nat → Nat) (xs : List Pr) (j : Nat) : Nat → Nat := fun q => f q + cntX (xs.take j) q
theorem addX_zero (f : Nat → Nat) (xs : List Pr) : addX f xs 0 = f := by funext q; simp [addX, cntX]
theorem addX_step (f : Nat → Nat) {xs : List Pr} {j : Nat} {y : Pr} (h : xs[j]? = some y) : (fun q => if q = y.2 then addX f xs j y.2 + 1 else addX f xs j q) = addX f xs (j + 1) := by
  funext q
  unfold addX cntX
  rw [List.take_add_one, h, List.countP_append]
  by_cases e : q = y.2
  · subst e
    rw [if_pos rfl]
    simp [List.countP_cons]
    omega
  · have e' : ¬ y.2 = q := fun h => e h.symm
    rw [if_neg e]
    simp [List.countP_cons, e']
theorem ldF_leaf {N : List Nd} {rs : List Nat} {sn : Nat → Bool} {p : Nat} {xs : List Pr} (h : sn p = false) (h1 : 1 ≤ p) (h2 : p ≤ 1023) (hn : ndAt N p = some (0, xs)) : ldF N rs (insB p sn) = ldF N rs sn := by
  funext q
  rw [Z6m h h1 h2]
  unfold cntIn
  rw [hn]
  rfl
theorem Z86 {N : List Nd} {rs : List Nat} {sn : Nat → Bool} {p l : Nat} {xs : List Pr} (h : sn p = false) (h1 : 1 ≤ p) (h2 : p ≤ 1023) (hn : ndAt N p = some (l, xs)) (hl : l ≠ 0) : ldF N rs (insB p sn) = addX (ldF N rs sn) xs xs.length := by
  funext q
  rw [Z6m h h1 h2]
  unfold cntIn addX
  rw [hn, List.take_length]
  show _ + (if l = 0 then 0 else cntX xs q) = _
  rw [if_neg hl]
/-! As maps. -/
def mapL (f : Nat → Nat) : Int → Option Value := fun i => if 1 ≤ i ∧ f i.toNat ≠ 0 then some (.int .i64 (f i.toNat : Nat)) else none
def mapS (sn : Nat → Bool) : Int → Option Value := fun i => if 1 ≤ i ∧ sn i.toNat = true then some (.bool true) else none
theorem Z4b (f : Nat → Nat) {q : Nat} (hq : 1 ≤ q) : (mapL f (q : Int)).getD (.int .i64 0) = .int .i64 (f q : Nat) := by
  unfold mapL
  rw [Int.toNat_natCast]
  by_cases e : f q = 0
  · rw [if_neg (by simp [e]), e]; rfl
  · rw [if_pos ⟨by omega, e⟩]; rfl
theorem Z5h (sn : Nat → Bool) {q : Nat} (hq : 1 ≤ q) : (mapS sn (q : Int)).getD (.bool false) = .bool (sn q) := by
  unfold mapS
  rw [Int.toNat_natCast]
  cases e : sn q with
  | false => rw [if_neg (by simp)]; rfl
  | true => rw [if_pos ⟨by omega, rfl⟩]; rfl
theorem Z6k (f : Nat → Nat) {q v : Nat} (hq : 1 ≤ q) (hv : v ≠ 0) : putV (mapL f) (q : Int) (.int .i64 (v : Nat)) = mapL (fun i => if i = q then v else f i) := by
  funext i
  unfold putV mapL
  by_cases e : i = (q : Int)
  · subst e
    rw [if_pos rfl, Int.toNat_natCast]
    show _ = if 1 ≤ (q : Int) ∧ (if q = q then v else f q) ≠ 0 then some (Value.int .i64 ((if q = q then v else f q : Nat) : Int)) else none
    rw [if_pos (show q = q from rfl), if_pos ⟨by omega, hv⟩]
  · rw [if_neg e]
    by_cases h : 1 ≤ i
    · have e2 : ¬ i.toNat = q := by omega
      show _ = if 1 ≤ i ∧ (if i.toNat = q then v else f i.toNat) ≠ 0 then some (Value.int .i64 ((if i.toNat = q then v else f i.toNat : Nat) : Int)) else none
      rw [if_neg e2]
    · rw [if_neg (fun x => h x.1), if_neg (fun x => h x.1)]
theorem mapS_put (sn : Nat → Bool) {q : Nat} (hq : 1 ≤ q) : putV (mapS sn) (q : Int) (.bool true) = mapS (insB q sn) := by
  funext i
  unfold putV mapS insB
  by_cases e : i = (q : Int)
  · subst e
    rw [if_pos rfl, Int.toNat_natCast, if_pos ⟨by omega, by simp⟩]
  · rw [if_neg e]
    by_cases h : 1 ≤ i
    · have e2 : ¬ i.toNat = q := by omega
      rw [decide_eq_false e2, Bool.false_or]
    · rw [if_neg (fun x => h x.1), if_neg (fun x => h x.1)]
theorem mapL_nil (N : List Nd) : mapL (ldF N [] fun _ => false) = fun _ => none := by
  funext i
  unfold mapL ldF
  rw [if_neg]
  rintro ⟨_, h⟩
  refine h ?_
  show 0 + sumN (fun _ => 0) 1023 = 0
  rw [Z1w]
theorem mapS_nil : mapS (fun _ => false) = fun _ => none := by
  funext i
  unfold mapS
  rw [if_neg (fun h => by cases h.2)]
/-! Sound trees: a page is the root, or an inner one leads to it. -/
theorem Kids.down {T : Nat → List (List Pr) → List Nat → Prop} (hT : ∀ p L g, T p L g → p ∈ g) : ∀ {xs : List Pr} {L : List (List Pr)} {g : List Nat}, Kids T xs L g → ∀ x ∈ xs, x.2 ∈ g
  | [], _, _, _, x, hx => by cases hx
  | y :: xs, _, _, ⟨L1, g1, L2, g2, h1, h2, h3, rfl, rfl⟩, x, hx => by
    rcases List.mem_cons.1 hx with rfl | hx
    · exact List.mem_append_left _ (hT _ _ _ h1)
    · exact List.mem_append_right _ (h3.down hT x hx)
theorem Kids.sub {T : Nat → List (List Pr) → List Nat → Prop} : ∀ {xs : List Pr} {L : List (List Pr)} {g : List Nat}, Kids T xs L g → ∀ q ∈ g, ∃ x ∈ xs, ∃ L1 g1, T x.2 L1 g1 ∧ q ∈ g1 ∧ ∀ z ∈ g1, z ∈ g
  | [], _, _, ⟨_, rfl⟩, q, hq => by cases hq
  | y :: xs, _, _, ⟨L1, g1, L2, g2, h1, h2, h3, rfl, rfl⟩, q, hq => by
    rcases List.mem_append.1 hq with hq | hq
    · exact ⟨y, by simp, L1, g1, h1, hq, fun z hz => List.mem_append_left _ hz⟩
    · obtain ⟨x, hx, L', g', k1, k2, k3⟩ := h3.sub q hq
      exact ⟨x, by simp [hx], L', g', k1, k2, fun z hz => List.mem_append_right _ (k3 z hz)⟩
theorem Tr.self {N : List Nd} {l p : Nat} {L : List (List Pr)} {g : List Nat} (h : Tr N l p L g) : p ∈ g := by
  obtain ⟨r, e⟩ := Tr.one h
  rw [e]
  exact List.mem_cons_self
/-- Each page is a node; an inner one leads to pages. -/
theorem Tr.closed {N : List Nd} : ∀ {l p : Nat} {L : List (List Pr)} {g : List Nat}, Tr N l p L g → ∀ z ∈ g, ∃ l' xs, ndAt N z = some (l', xs) ∧ xs.length ≤ 15 ∧ (l' ≠ 0 → ∀ x ∈ xs, x.2 ∈ g)
  | 0, p, L, g, ⟨xs, h, h1, h2, h3, h4, h5⟩, z, hz => by
    obtain ⟨_, rfl⟩ := Z0e.1 h4
    rw [h5] at hz
    obtain rfl := List.mem_singleton.1 hz
    exact ⟨0, xs, h1, h3, fun h => absurd rfl h⟩
  | l + 1, p, L, g, ⟨xs, h, h1, h2, h3, h4, h5⟩, z, hz => by
    have hk := Z0f.1 h4
    subst h5
    rcases List.mem_cons.1 hz with rfl | hz
    · exact ⟨l + 1, xs, h1, h3, fun _ x hx => List.mem_cons_of_mem _ (hk.down (fun p L g h => Tr.self h) x hx)⟩
    · obtain ⟨x, hx, L1, g1, k1, k2, k3⟩ := hk.sub z hz
      obtain ⟨l', xs', e1, e2, e3⟩ := Tr.closed k1 z k2
      exact ⟨l', xs', e1, e2, fun h0 y hy => List.mem_cons_of_mem _ (k3 _ (e3 h0 y hy))⟩
theorem Tr.from_ {N : List Nd} : ∀ {l p : Nat} {L : List (List Pr)} {g : List Nat}, Tr N l p L g → ∀ q ∈ g, q = p ∨ ∃ z ∈ g, ∃ l' xs, ndAt N z = some (l', xs) ∧ l' ≠ 0 ∧ ∃ x ∈ xs, x.2 = q
  | 0, p, L, g, ⟨xs, h, h1, h2, h3, h4, h5⟩, q, hq => by
    obtain ⟨_, rfl⟩ := Z0e.1 h4
    rw [h5] at hq
    exact .inl (List.mem_singleton.1 hq)
  | l + 1, p, L, g, ⟨xs, h, h1, h2, h3, h4, h5⟩, q, hq => by
    have hk := Z0f.1 h4
    subst h5
    rcases List.mem_cons.1 hq with rfl | hq
    · exact .inl rfl
    · obtain ⟨x, hx, L1, g1, k1, k2, k3⟩ := hk.sub q hq
      rcases Tr.from_ k1 q k2 with e | ⟨z, hz, l', xs', e1, e2, e3⟩
      · exact .inr ⟨p, List.mem_cons_self, l + 1, xs, h1, by omega, x, hx, e.symm⟩
      · exact .inr ⟨z, List.mem_cons_of_mem _ (k3 z hz), l', xs', e1, e2, e3⟩
/-! Several trees. -/
/-- Roots and the pages of their trees. -/
abbrev Tg := List (Nat × List Nat)
def TgOk (N : List Nd) (tg : Tg) : Prop := ∀ x ∈ tg, ∃ m L, RT m N x.1 L x.2 ∧ m ≤ 7 ∧ x.2.length ≤ 600 ∧ L.flatten.length ≤ 100000
def snF (tg : Tg) : Nat → Bool := fun i => tg.any fun x => decide (i ∈ x.2)
def rsF (tg : Tg) : List Nat := (tg.map Prod.fst).filter fun r => decide (r ≠ 0)
theorem snF_app (tg : Tg) (x : Nat × List Nat) : snF (tg ++ [x]) = unB x.2 (snF tg) := by
  funext i
  simp [snF, unB, Bool.or_comm]
theorem rsF_app (tg : Tg) (x : Nat × List Nat) : rsF (tg ++ [x]) = if x.1 = 0 then rsF tg else rsF tg ++ [x.1] := by
  unfold rsF
  rw [List.map_append, List.filter_append]
  by_cases e : x.1 = 0
  · rw [if_pos e]; simp [e]
  · rw [if_neg e]; simp [e]
theorem Z4t {N : List Nd} {tg : Tg} (h : TgOk N tg) {i : Nat} (hi : snF tg i = true) : 1 ≤ i ∧ i ≤ N.length := by
  obtain ⟨x, hx, hm⟩ := List.any_eq_true.1 hi
  obtain ⟨m, L, hR, _⟩ := h x hx
  rcases hR.rt with ⟨_, _, e⟩ | ⟨l, _, hT, _⟩
  · rw [e] at hm; cases of_decide_eq_true hm
  · exact Tr.pages hT i (of_decide_eq_true hm)
/-- Those that are led to are the pages. -/
theorem ld_pages {N : List Nd} {tg : Tg} (h : TgOk N tg) (hN : N.length ≤ 1023) (q : Nat) : ldF N (rsF tg) (snF tg) q ≠ 0 ↔ snF tg q = true := by
  constructor
  · intro h0
    unfold ldF at h0
    by_cases e : (rsF tg).countP (fun r => decide (r = q)) = 0
    · have h1 : sumN (fun p => if snF tg p then cntIn N p q else 0) 1023 ≠ 0 := by omega
      obtain ⟨p, _, _, hp⟩ := (Z3p 1023).1 h1
      cases hs : snF tg p with
      | false => rw [hs] at hp; exact absurd rfl hp
      | true =>
        rw [hs, if_pos rfl] at hp
        obtain ⟨x, hx, hm⟩ := List.any_eq_true.1 hs
        obtain ⟨m, L, hR, _⟩ := h x hx
        rcases hR.rt with ⟨_, _, e⟩ | ⟨l, _, hT, _⟩
        · rw [e] at hm; cases of_decide_eq_true hm
        · obtain ⟨l', xs, e1, _, e3⟩ := Tr.closed hT p (of_decide_eq_true hm)
          unfold cntIn at hp
          rw [e1] at hp
          by_cases hl : l' = 0
          · exact absurd (if_pos hl) hp
          · have hp : (if l' = 0 then 0 else cntX xs q) ≠ 0 := hp
            rw [if_neg hl] at hp
            obtain ⟨y, hy, hyq⟩ := List.countP_pos_iff.1 (Nat.pos_of_ne_zero hp)
            have := e3 hl y hy
            rw [of_decide_eq_true hyq] at this
            exact List.any_eq_true.2 ⟨x, hx, decide_eq_true this⟩
    · obtain ⟨r, hr, hrq⟩ := List.countP_pos_iff.1 (Nat.pos_of_ne_zero e)
      obtain rfl := of_decide_eq_true hrq
      obtain ⟨hr1, hr2⟩ := List.mem_filter.1 hr
      obtain ⟨x, hx, rfl⟩ := List.mem_map.1 hr1
      obtain ⟨m, L, hR, _⟩ := h x hx
      rcases hR.rt with ⟨e, _, _⟩ | ⟨l, _, hT, _⟩
      · rw [e] at hr2; simp at hr2
      · exact List.any_eq_true.2 ⟨x, hx, decide_eq_true (Tr.self hT)⟩
  · intro hs
    obtain ⟨x, hx, hm⟩ := List.any_eq_true.1 hs
    have hm := of_decide_eq_true hm
    obtain ⟨m, L, hR, _⟩ := h x hx
    rcases hR.rt with ⟨_, _, e⟩ | ⟨l, _, hT, _⟩
    · rw [e] at hm; cases hm
    · have hxr := Tr.pages hT x.1 (Tr.self hT)
      unfold ldF
      rcases Tr.from_ hT q hm with rfl | ⟨z, hz, l', xs, e1, e2, y, hy, hyq⟩
      · have : 0 < (rsF tg).countP (fun r => decide (r = x.1)) := List.countP_pos_iff.2 ⟨x.1, List.mem_filter.2 ⟨List.mem_map.2 ⟨x, hx, rfl⟩, decide_eq_true (by omega)⟩, by simp⟩
        omega
      · have hzr := Tr.pages hT z hz
        have : sumN (fun p => if snF tg p then cntIn N p q else 0) 1023 ≠ 0 := (Z3p 1023).2 ⟨z, hzr.1, by omega, by
          rw [if_pos (show snF tg z = true from List.any_eq_true.2 ⟨x, hx, decide_eq_true hz⟩)]
          unfold cntIn
          rw [e1]
          show (if l' = 0 then 0 else cntX xs q) ≠ 0
          rw [if_neg e2]
          have : 0 < cntX xs q := List.countP_pos_iff.2 ⟨y, hy, decide_eq_true hyq⟩
          omega⟩
        omega
/-- The pages, rising. -/
def keysN (sn : Nat → Bool) : List Nat := ((List.range 1023).map (· + 1)).filter sn
theorem Z2k {sn : Nat → Bool} {q : Nat} : q ∈ keysN sn ↔ (1 ≤ q ∧ q ≤ 1023) ∧ sn q = true := by
  unfold keysN
  rw [List.mem_filter, List.mem_map]
  refine and_congr_left fun _ => ⟨?_, fun h => ⟨q - 1, by rw [List.mem_range]; omega, by omega⟩⟩
  rintro ⟨i, hi, rfl⟩
  rw [List.mem_range] at hi
  omega
theorem Z2l (sn : Nat → Bool) : (keysN sn).Pairwise (fun a b => a < b) :=
  List.Pairwise.filter _ (by rw [List.pairwise_map]; exact List.pairwise_lt_range.imp (fun {a b} h => by omega))
theorem Z3x (sn : Nat → Bool) : (keysN sn).length ≤ 1023 := by
  have := List.length_filter_le sn ((List.range 1023).map (· + 1))
  simpa [keysN] using this
end Go.Proofs.Ytdeocidlkpbhcaa

/- Regions by facts: an operation guarded by one that was skipped. -/
namespace Go.Proofs.Ytdeocidlkpbhcaa
set_option linter.unusedVariables false
set_option linter.unusedSimpArgs false
open Go.RowKit

section
variable {P : Program} {R : World → World → Prop} {ops : Array Oper} {w0 : World} {a0 : Act} {D : List Tmp} {A : List (List Nat)} {G : List (Nat × TFact R) → Prop} {k : Nat} {o : Oper} {os : List Oper} {done : List (Nat × TFact R)}
theorem Z5a {a : Act} {j dj : Nat} {b : Bool} (hg : o.guard = some (j, b)) (hj : (ops[j]?).bind (·.dst) = some dj) (he : a.eval (.tmp dj) = undef) : Region.wanted o (yielded ops a.tmps) = false := by
  have h : yielded ops a.tmps j = none := by
    unfold yielded
    rw [hj]
    rw [Z15, Array.getD_eq_getD_getElem?] at he
    cases hx : a.tmps[dj]? with
    | none => simp [hx]
    | some x =>
      rw [hx] at he
      have he : x = undef := he
      subst he
      simp [hx]
      rfl
  unfold Region.wanted
  rw [hg]
  simp [h]
end
end Go.Proofs.Ytdeocidlkpbhcaa

/- Regions by facts: a guarded call that hands back something new. No function of the program in sight. -/
namespace Go.Proofs.Ytdeocidlkpbhcaa
set_option linter.unusedVariables false
set_option linter.unusedSimpArgs false
open Go.RowKit
section
variable {R : World → World → Prop}
variable {P : Program} {ops : Array Oper} {w0 : World} {a0 : Act} {D : List Tmp} {A : List (List Nat)}
variable {o : Oper}
variable {G : List (Nat × TFact R) → Prop} {k : Nat} {os : List Oper} {done : List (Nat × TFact R)}
end
end Go.Proofs.Ytdeocidlkpbhcaa
