/- Reflection: what one operation yields, worked out of what is known of the frame. No function of the program in sight. -/
import Derived.Test.YtbfgacmfjfbooaaKReachExact01
import Derived.OrdersHeld
namespace Go.Proofs.Ytbfgacmfjfbooaa
set_option linter.unusedVariables false
set_option linter.unusedSimpArgs false
open Go.RowKit

/-- Hints: a test is so (t, f), stays open (s); a known truth value is so (T, F); the place of a thing (n); the value's better form (v); the things that stay in a region that draws (k). -/
inductive Ht where
  | t | f | s | T | F
  | n (k : Nat)
  | v (x : Value)
  | k (is : List Nat)
instance (k : Nat) : OfNat Ht k := ⟨.n k⟩
abbrev Mp := List (Nat × Value)
def lookM : Mp → Nat → Option Value
  | [], _ => none
  | (t, v) :: m, x => match Nat.beq t x with
    | true => some v
    | false => lookM m x
def Al (a : Act) (m : Mp) : Prop := ∀ t v, lookM m t = some v → a.eval (.tmp t) = v
def opv (m : Mp) : Operand → Option Value
  | .tmp t => lookM m t
  | .const v => some v
  | .func f => some (.func (.func f) #[] #[])
  | .global g => some (.pointer (some ⟨g, 0, none⟩))
def AllP : List Prop → Prop
  | [] => True
  | p :: ps => p ∧ AllP ps
/-- The layouts of types. -/
inductive Td where
  | st (z : Nat) (fs : List (Nat × Nat × Bool))
  | ar (z n e : Nat) (r : Bool)
  | sl (e : Nat) (r : Bool)
  | i (k : IntKind)
  | str | bo | pt | itf | mp | fu | oth
def nthT {α : Type} : List α → Nat → Option α
  | [], _ => none
  | x :: _, 0 => some x
  | _ :: l, n + 1 => nthT l n
theorem Z0w {α : Type} : ∀ (l : List α) (n : Nat), nthT l n = l[n]?
  | [], _ => by simp [nthT]
  | _ :: _, 0 => by simp [nthT]
  | _ :: l, n + 1 => by simp [nthT, Z0w l n]
def sizP (P : Program) (t : TypeId) : Nat := ((P.info? t).map (·.size)).getD 0
def rowP (P : Program) (t : TypeId) : Bool := match P.underlying t with
  | some (.struct _) | some (.array _ _) | none => true
  | _ => false
def somP (P : Program) (t : TypeId) : Bool := (P.underlying t).isSome && (P.info? t).isSome
def tdOf (P : Program) (t : TypeId) : Td := match P.underlying t with
  | some (.struct fs) => if fs.toList.all (fun f => somP P f.type) = true then .st (sizP P t) (fs.toList.map fun f => (f.offset, sizP P f.type, rowP P f.type)) else .oth
  | some (.array n e) => if somP P e = true then .ar (sizP P t) n (sizP P e) (rowP P e) else .oth
  | some (.slice e) => if somP P e = true then .sl (sizP P e) (rowP P e) else .oth
  | some (.int k) => .i k
  | some .string => .str
  | some .bool => .bo
  | some (.pointer _) => .pt
  | some (.interface _) => .itf
  | some (.map _ _) => .mp
  | some (.func _ _ _) => .fu
  | _ => .oth
def zerP (P : Program) (t : TypeId) : Option Value := (P.info? t).bind (·.zero)
abbrev TbG := List (Td × Option Value × Nat)
/-- The table is the program's. -/
structure TOk (P : Program) (T : TbG) : Prop where
  at_ : ∀ t d, nthT T t = some d → tdOf P t = d.1 ∧ somP P t = true ∧ (∀ z, d.2.1 = some z → zerP P t = some z) ∧ sizP P t = d.2.2
abbrev R1 := Option (Value × List Ht × List Prop)
def inK : IntKind → Int → Prop
  | .i8, z => -128 ≤ z ∧ z ≤ 127
  | .i16, z => -32768 ≤ z ∧ z ≤ 32767
  | .i32, z => -2147483648 ≤ z ∧ z ≤ 2147483647
  | .i64, z => -9223372036854775808 ≤ z ∧ z ≤ 9223372036854775807
  | .u8, z => 0 ≤ z ∧ z ≤ 255
  | .u16, z => 0 ≤ z ∧ z ≤ 65535
  | .u32, z => 0 ≤ z ∧ z ≤ 4294967295
  | .u64, z => 0 ≤ z ∧ z ≤ 18446744073709551615
theorem Z3t {k : IntKind} {z : Int} (h : inK k z) : k.wrap z = z := by
  cases k
  · exact IntWalk.i8_in _ h
  · exact IntWalk.i16_in _ h
  · exact IntWalk.i32_in _ h
  · exact IntWalk.i64_in _ h
  · exact IntWalk.u8_in _ h
  · exact IntWalk.u16_in _ h
  · exact IntWalk.u32_in _ h
  · exact IntWalk.u64_in _ h
def kN : IntKind → Nat
  | .i8 => 0 | .i16 => 1 | .i32 => 2 | .i64 => 3 | .u8 => 4 | .u16 => 5 | .u32 => 6 | .u64 => 7
theorem kN_eq {k k' : IntKind} (h : Nat.beq (kN k) (kN k') = true) : k = k' := by
  cases k <;> cases k' <;> first | rfl | (exfalso; revert h; decide)
/-- A truth value; a test; a number. -/
def boo (b : Bool) (hs : List Ht) (vc : List Prop) : R1 := match hs with
  | .t :: hs => some (.bool true, hs, (b = true) :: vc)
  | .f :: hs => some (.bool false, hs, (b = false) :: vc)
  | .s :: hs => some (.bool b, hs, vc)
  | hs => some (.bool b, hs, vc)
def pro (p : Prop) [Decidable p] (hs : List Ht) (vc : List Prop) : R1 := match hs with
  | .t :: hs => some (.bool true, hs, p :: vc)
  | .f :: hs => some (.bool false, hs, (¬ p) :: vc)
  | .s :: hs => some (.bool (decide p), hs, vc)
  | hs => some (.bool (decide p), hs, vc)
def itg (k : IntKind) (z : Int) (hs : List Ht) (vc : List Prop) : R1 := match hs with
  | .v (.int _ e) :: hs => some (.int k e, hs, (z = e) :: vc)
  | hs => some (.int k z, hs, vc)
def stg (l : List UInt8) (hs : List Ht) (vc : List Prop) : R1 := match hs with
  | .v (.string ⟨⟨e⟩⟩) :: hs => some (.string (sB e), hs, (l = e) :: vc)
  | hs => some (.string (sB l), hs, vc)
def bin (op : BinOp) (x y : Value) (hs : List Ht) (vc : List Prop) : R1 := match x with
  | .int k a => match y with
    | .int k' b => match Nat.beq (kN k) (kN k') with
      | false => none
      | true => match op with
        | .add => itg k (a + b) hs (inK k (a + b) :: vc)
        | .sub => itg k (a - b) hs (inK k (a - b) :: vc)
        | .mul => itg k (a * b) hs (inK k (a * b) :: vc)
        | .quo => itg k (a / b) hs ((0 ≤ a ∧ 0 < b ∧ inK k a) :: vc)
        | .rem => itg k (a % b) hs ((0 ≤ a ∧ 0 < b) :: vc)
        | .lss => pro (a < b) hs vc
        | .leq => pro (a ≤ b) hs vc
        | .gtr => pro (b < a) hs vc
        | .geq => pro (b ≤ a) hs vc
        | .eql => pro (a = b) hs vc
        | .neq => pro (a ≠ b) hs vc
        | _ => none
    | _ => none
  | .string ⟨⟨l⟩⟩ => match y with
    | .string ⟨⟨m⟩⟩ => match op with
      | .add => stg (l ++ m) hs ((l.length + m.length ≤ 9223372036854775807) :: vc)
      | .eql => pro (l = m) hs vc
      | .neq => pro (l ≠ m) hs vc
      | _ => none
    | _ => none
  | _ => none
/-- What is shown of an operation. -/
def Good (P : Program) (o : Oper) (ρ : Operand → Value) (L : List Thing) (vc : List Prop) (r : R1) : Prop :=
  ∀ v hs' vc', r = some (v, hs', vc') → AllP vc' → AllP vc ∧ ∀ w, Ths w L → (execOp ρ o).run P w = .ok (.value v) w
section
variable {P : Program} {o : Oper} {ρ : Operand → Value} {L : List Thing} {vc : List Prop} {hs : List Ht}
theorem Good.none : Good P o ρ L vc none := fun _ _ _ h => by cases h
theorem Good.one {v : Value} {ps : List Prop} (h : AllP ps → AllP vc ∧ ∀ w, Ths w L → (execOp ρ o).run P w = .ok (.value v) w) : Good P o ρ L vc (some (v, hs, ps)) := fun v' hs' vc' e hv => by
  cases e
  exact h hv
theorem Good.pro {p : Prop} [Decidable p] (h : ∀ w, Ths w L → (execOp ρ o).run P w = .ok (.value (.bool (decide p))) w) : Good P o ρ L vc (pro p hs vc) := by
  unfold Proofs.Ytbfgacmfjfbooaa.pro
  split
  · exact .one fun hv => ⟨hv.2, fun w hw => by rw [h w hw, decide_eq_true hv.1]⟩
  · exact .one fun hv => ⟨hv.2, fun w hw => by rw [h w hw, decide_eq_false hv.1]⟩
  · exact .one fun hv => ⟨hv, h⟩
  · exact .one fun hv => ⟨hv, h⟩
theorem Good.boo {b : Bool} (h : ∀ w, Ths w L → (execOp ρ o).run P w = .ok (.value (.bool b)) w) : Good P o ρ L vc (boo b hs vc) := by
  unfold Proofs.Ytbfgacmfjfbooaa.boo
  split
  · exact .one fun hv => ⟨hv.2, fun w hw => by rw [h w hw, hv.1]⟩
  · exact .one fun hv => ⟨hv.2, fun w hw => by rw [h w hw, hv.1]⟩
  · exact .one fun hv => ⟨hv, h⟩
  · exact .one fun hv => ⟨hv, h⟩
theorem Good.itg {k : IntKind} {z : Int} {ps : List Prop} (h : AllP ps → AllP vc ∧ ∀ w, Ths w L → (execOp ρ o).run P w = .ok (.value (.int k z)) w) : Good P o ρ L vc (itg k z hs ps) := by
  unfold Proofs.Ytbfgacmfjfbooaa.itg
  split
  · exact .one fun hv => ⟨(h hv.2).1, fun w hw => by rw [(h hv.2).2 w hw, hv.1]⟩
  · exact .one h
theorem Good.stg {l : List UInt8} {ps : List Prop} (h : AllP ps → AllP vc ∧ ∀ w, Ths w L → (execOp ρ o).run P w = .ok (.value (.string (sB l))) w) : Good P o ρ L vc (stg l hs ps) := by
  unfold Proofs.Ytbfgacmfjfbooaa.stg
  split
  · exact .one fun hv => ⟨(h hv.2).1, fun w hw => by rw [(h hv.2).2 w hw, hv.1]⟩
  · exact .one h
section
variable {t u : TypeId} {x y : Operand}
theorem bin_ok {op : BinOp} {vx vy : Value} (ho : o.op = .binOp op t x y u) (hx : ρ x = vx) (hy : ρ y = vy) : Good P o ρ L vc (bin op vx vy hs vc) := by
  unfold bin
  cases vx <;> try exact .none
  · rename_i k a
    cases vy <;> try exact .none
    rename_i k' b
    dsimp only
    cases hk : Nat.beq (kN k) (kN k') with
    | false => exact .none
    | true =>
      obtain rfl := kN_eq hk
      cases op <;> try exact .none
      · exact .itg fun hv => ⟨hv.2, fun w _ => Z36 ho hx hy (by simp [binOp, Op.intArith, Z3t hv.1])⟩
      · exact .itg fun hv => ⟨hv.2, fun w _ => Z36 ho hx hy (by simp [binOp, Op.intArith, Z3t hv.1])⟩
      · exact .itg fun hv => ⟨hv.2, fun w _ => Z36 ho hx hy (by simp [binOp, Op.intArith, Z3t hv.1])⟩
      · refine .itg fun hv => ⟨hv.2, fun w _ => Z36 ho hx hy ?_⟩
        have h0 : ¬ b = 0 := by have := hv.1.2.1; omega
        have h1 : a.tdiv b = a / b := Int.tdiv_eq_ediv_of_nonneg hv.1.1
        have h2 : 0 ≤ a / b := Int.ediv_nonneg hv.1.1 (by have := hv.1.2.1; omega)
        have h3 : a / b ≤ a := Int.ediv_le_self _ hv.1.1
        have h4 : inK k (a / b) := by
          have := hv.1.2.2
          generalize a / b = z at h2 h3
          cases k <;> simp only [inK] at this ⊢ <;> omega
        simp [binOp, Op.intDiv, h0, h1, Z3t h4]
      · refine .itg fun hv => ⟨hv.2, fun w _ => Z36 ho hx hy ?_⟩
        have h0 : ¬ b = 0 := by have := hv.1.2; omega
        simp [binOp, Op.intDiv, h0, Int.tmod_eq_emod_of_nonneg hv.1.1]
      · exact .pro fun w _ => Z12 ho hx hy
      · exact .pro fun w _ => Z0q ho hx hy
      · exact .pro fun w _ => Z1d ho hx hy
      · exact .pro fun w _ => x_leq ho hx hy
      · exact .pro fun w _ => Z2b ho hx hy
      · exact .pro fun w _ => Z6m ho hx hy
  · rename_i s
    cases vy <;> try exact .none
    rename_i s'
    obtain ⟨⟨l⟩⟩ := s
    obtain ⟨⟨m⟩⟩ := s'
    dsimp only
    cases op <;> try exact .none
    · exact .stg fun hv => ⟨hv.2, fun w _ => x_cat (l := l) (m := m) ho hx hy hv.1⟩
    · exact .pro fun w _ => x_eqs (l := l) (m := m) ho hx hy
    · exact .pro fun w _ => x_nes (l := l) (m := m) ho hx hy
end
end

theorem Ths.nth {w : World} : ∀ (L : List Thing) (i : Nat) (T : Thing), nthT L i = some T → Ths w L → T.holds w
  | x :: L, 0, T, h, hw => by simp [nthT] at h; subst h; exact hw.1
  | x :: L, i + 1, T, h, hw => Ths.nth L i T (by simpa [nthT] using h) hw.2
def takeL : Nat → List Value → Option (List Value)
  | 0, _ => some []
  | n + 1, x :: l => match takeL n l with
    | some r => some (x :: r)
    | none => none
  | _ + 1, [] => none
theorem Z2i : ∀ (n : Nat) (l r : List Value), takeL n l = some r → l.take n = r ∧ r.length = n
  | 0, l, r, h => by simp [takeL] at h; subst h; simp
  | n + 1, [], r, h => by simp [takeL] at h
  | n + 1, x :: l, r, h => by
    simp only [takeL] at h
    cases h1 : takeL n l with
    | none => rw [h1] at h; cases h
    | some r' =>
      rw [h1] at h
      cases h
      obtain ⟨h2, h3⟩ := Z2i n l r' h1
      simp [h2, h3]
def dropL : Nat → List Value → Option (List Value)
  | 0, l => some l
  | n + 1, _ :: l => dropL n l
  | _ + 1, [] => none
theorem Z2n : ∀ (n : Nat) (l r : List Value), dropL n l = some r → l.drop n = r
  | 0, l, r, h => by simp [dropL] at h; subst h; simp
  | n + 1, [], r, h => by simp [dropL] at h
  | n + 1, x :: l, r, h => by simp only [dropL] at h; simpa using Z2n n l r h
/-- The size of a row's type; none: one cell. -/
def rowD : Td → Option Nat
  | .st z _ => some z
  | .ar z _ _ _ => some z
  | _ => none
/-- The cells from a place on. -/
def cellsAt (A : World) (b : Nat) : Nat → List Value → Prop
  | _, [] => True
  | off, v :: vs => A.cell? ⟨b, off, none⟩ = some v ∧ cellsAt A b (off + 1) vs
theorem Z47 {A : World} {b : Nat} : ∀ {off : Nat} {vs : List Value}, cellsAt A b off vs → ∀ j u, vs[j]? = some u → A.cell? ⟨b, off + j, none⟩ = some u
  | off, [], _, j, u, h => by simp at h
  | off, v :: vs, ⟨h1, h2⟩, 0, u, h => by simp at h; subst h; exact h1
  | off, v :: vs, ⟨h1, h2⟩, j + 1, u, h => by
    have := Z47 h2 j u (by simpa using h)
    rwa [show off + (j + 1) = off + 1 + j by omega]
/-- A load of what is as it was in a thing's world: hints .k [thing], .v value. -/
def exLdB (T : TbG) (L : List Thing) (i : Nat) (t : TypeId) (b off : Nat) (hs : List Ht) (vc : List Prop) : R1 := match nthT L i with
  | some th => match th.bas with
    | some A => match nthT T t with
      | some (d, _) => match rowD d with
        | some z => match hs with
          | .v (.agg ⟨vs⟩) :: hs => some (.agg ⟨vs⟩, hs, (vs.length = z ∧ cellsAt A b off vs) :: vc)
          | _ => none
        | none => match d with
          | .oth => none
          | _ => match hs with
            | .v x :: hs => some (x, hs, (A.cell? ⟨b, off, none⟩ = some x) :: vc)
            | _ => none
      | none => none
    | none => none
  | none => none
def exLd (T : TbG) (L : List Thing) (t : TypeId) (p : Value) (hs : List Ht) (vc : List Prop) : R1 := match p with
  | .pointer (some ⟨b, off, none⟩) => match hs with
    | .n i :: hs => match nthT L i with
      | some th => match th.cel with
        | some (b', cs) => match nthT T t with
          | some (d, _) => match rowD d with
            | some z => match hs with
              | .v (.agg ⟨vs⟩) :: hs => some (.agg ⟨vs⟩, hs, (b = b' ∧ (cs.drop off).take z = vs ∧ vs.length = z) :: vc)
              | hs => match dropL off cs with
                | some r => match takeL z r with
                  | some vs => some (.agg ⟨vs⟩, hs, (b = b') :: vc)
                  | none => none
                | none => none
            | none => match d with
              | .oth => none
              | _ => match hs with
                | .v x :: hs => some (x, hs, (b = b' ∧ cs[off]? = some x) :: vc)
                | hs => match nthT cs off with
                  | some v => some (v, hs, (b = b') :: vc)
                  | none => none
          | none => none
        | none => none
      | none => none
    | .k (i :: _) :: hs => exLdB T L i t b off hs vc
    | _ => none
  | _ => none
section
variable {P : Program} {o : Oper} {ρ : Operand → Value} {L : List Thing} {vc : List Prop} {hs : List Ht} {T : TbG} {t u : TypeId} {x y : Operand} {p q : Value}
theorem rowP_of {d : TypeDesc} (hu : P.underlying t = some d) : rowP P t = d.isRow := by unfold rowP; rw [hu]; cases d <;> rfl
theorem Z7g (z : Nat) (h : rowD (tdOf P t) = some z) : rowP P t = true ∧ z = sizP P t := by
  unfold tdOf at h
  unfold rowP
  split at h <;> try (cases h; done)
  · split at h <;> cases h
    rename_i hg _
    rw [hg]; exact ⟨rfl, rfl⟩
  · split at h <;> cases h
    rename_i hg _
    rw [hg]; exact ⟨rfl, rfl⟩
  · split at h <;> cases h
theorem Z7h {d : TypeDesc} (hu : P.underlying t = some d) (hn : tdOf P t ≠ .oth) (h : rowD (tdOf P t) = none) : d.isRow = false := by
  unfold tdOf at h hn
  rw [hu] at h hn
  cases d <;> first | rfl | (exfalso; dsimp only at h hn; split at h; (cases h); (rename_i hc; rw [if_neg hc] at hn; exact hn rfl))
theorem TOk.under (h : TOk P T) {d : Td × Option Value × Nat} (hd : nthT T t = some d) : ∃ e, P.underlying t = some e := Option.isSome_iff_exists.1 (by have := (h.at_ t d hd).2.1; simp [somP] at this; exact this.1)
theorem TOk.size (h : TOk P T) {d : Td × Option Value × Nat} (hd : nthT T t = some d) : (P.info? t).map (·.size) = some (sizP P t) := by
  obtain ⟨i, hi⟩ := Option.isSome_iff_exists.1 (show (P.info? t).isSome = true by have := (h.at_ t d hd).2.1; simp [somP] at this; exact this.2)
  unfold sizP
  rw [hi]; rfl
theorem Z6h {w : World} {b off : Nat} {v : Value} {d : TypeDesc} (hc : w.cell? ⟨b, off, none⟩ = some v) (hu : P.underlying t = some d) (hd : d.isRow = false) : (loadVar t ⟨b, off, none⟩).run P w = .ok v w := by
  have hagg : (isAgg t).run P w = .ok false w := by
    unfold isAgg
    rw [Sem.run_bind, run_underlying hu w]
    cases d <;> simp_all
  simp [loadVar, Sem.run_bind, hagg, hc]
theorem Z84 {A w : World} {b off : Nat} {v : Value} (h : ∀ i, i < A.heap.size → w.heap[i]? = A.heap[i]?) (hc : A.cell? ⟨b, off, none⟩ = some v) : w.cell? ⟨b, off, none⟩ = some v := by
  have hlt : b < A.heap.size := by
    rcases Nat.lt_or_ge b A.heap.size with h1 | h1
    · exact h1
    · simp [World.cell?, Array.getElem?_eq_none h1] at hc
  unfold World.cell? at hc ⊢
  rw [h b hlt]
  exact hc
theorem exLdB_ok {i b off : Nat} (hT : TOk P T) (ho : o.op = .load t x) (hx : ρ x = .pointer (some ⟨b, off, none⟩)) : Good P o ρ L vc (exLdB T L i t b off hs vc) := by
  intro v hs' vc' h hv
  unfold exLdB at h
  split at h
  case h_2 => cases h
  rename_i th hi
  split at h
  case h_2 => cases h
  rename_i A hb
  split at h
  case h_2 => cases h
  rename_i d zv hd
  obtain ⟨e, he⟩ := hT.under hd
  have htd : tdOf P t = d := (hT.at_ _ _ hd).1
  have hbs := fun (w : World) (hw : Ths w L) => th.basOk w A hb (Ths.nth _ _ _ hi hw)
  split at h
  · rename_i z hz
    split at h
    case h_2 => cases h
    rename_i vs hs2
    cases h
    refine ⟨hv.2, fun w hw => ?_⟩
    obtain ⟨⟨h3, h4⟩, -⟩ := hv
    rw [← htd] at hz
    obtain ⟨h1, hzz⟩ := Z7g z hz
    have hrg : w.rangeAt b off vs := fun j u hj => Z84 (hbs w hw) (Z47 h4 j u hj)
    unfold execOp
    simp only [ho, hx, Instr.loadAt, Instr.sureAddr, Sem.run_bind, Sem.run_pure, Result.andThen_ok, run_loadVar_mid w b off t vs e hrg he (by rw [← rowP_of he]; exact h1) (by rw [hT.size hd, h3, hzz])]
  · rename_i hz
    split at h
    case h_1 => cases h
    rename_i hno
    split at h
    case h_2 => cases h
    cases h
    refine ⟨hv.2, fun w hw => ?_⟩
    rw [← htd] at hz
    have hc := Z84 (hbs w hw) hv.1
    unfold execOp
    simp only [ho, hx, Instr.loadAt, Instr.sureAddr, Sem.run_bind, Sem.run_pure, Result.andThen_ok, Z6h hc he (Z7h he (by rw [htd]; exact fun e => hno e) hz)]
theorem exLd_ok (hT : TOk P T) (ho : o.op = .load t x) (hx : ρ x = p) : Good P o ρ L vc (exLd T L t p hs vc) := by
  intro v hs' vc' h hv
  unfold exLd at h
  split at h
  case h_2 => cases h
  rename_i b off
  split at h
  case h_3 => cases h
  case h_2 => exact exLdB_ok hT ho hx v hs' vc' h hv
  rename_i i hs
  split at h
  case h_2 => cases h
  rename_i th hi
  split at h
  case h_2 => cases h
  rename_i b' cs hb
  split at h
  case h_2 => cases h
  rename_i d zv hd
  obtain ⟨e, he⟩ := hT.under hd
  have htd : tdOf P t = d := (hT.at_ _ _ hd).1
  have hcel := fun (w : World) (hw : Ths w L) => th.celOk w b' cs hb (Ths.nth _ _ _ hi hw)
  have hrow : ∀ (vs : List Value) (z : Nat), rowD d = some z → b = b' → (cs.drop off).take z = vs → vs.length = z → ∀ w, Ths w L → (execOp ρ o).run P w = .ok (.value (.agg ⟨vs⟩)) w := fun vs z hz hbb h2 h3 w hw => by
    rw [← htd] at hz
    obtain ⟨h1, hzz⟩ := Z7g z hz
    have hrg : w.rangeAt b off vs := fun j u hj => by
      rw [hbb]
      refine hcel w hw _ _ ?_
      rw [← h2, List.getElem?_take] at hj
      split at hj
      · rw [List.getElem?_drop] at hj
        exact hj
      · cases hj
    unfold execOp
    simp only [ho, hx, Instr.loadAt, Instr.sureAddr, Sem.run_bind, Sem.run_pure, Result.andThen_ok, run_loadVar_mid w b off t vs e hrg he (by rw [← rowP_of he]; exact h1) (by rw [hT.size hd, h3, hzz])]
  have hone : ∀ (x0 : Value), rowD d = none → d ≠ .oth → b = b' → cs[off]? = some x0 → ∀ w, Ths w L → (execOp ρ o).run P w = .ok (.value x0) w := fun x0 hz hno hbb h2 w hw => by
    rw [← htd] at hz hno
    have hc := hcel w hw off x0 h2
    rw [← hbb] at hc
    unfold execOp
    simp only [ho, hx, Instr.loadAt, Instr.sureAddr, Sem.run_bind, Sem.run_pure, Result.andThen_ok, Z6h hc he (Z7h he hno hz)]
  split at h
  · rename_i z hz
    split at h
    · cases h
      exact ⟨hv.2, hrow _ _ hz hv.1.1 hv.1.2.1 hv.1.2.2⟩
    · split at h
      case h_2 => cases h
      rename_i r hr
      split at h
      case h_2 => cases h
      rename_i vs hvs
      cases h
      obtain ⟨h2, h3⟩ := Z2i _ _ _ hvs
      have h4 := Z2n _ _ _ hr
      exact ⟨hv.2, hrow _ _ hz hv.1 (by rw [h4]; exact h2) h3⟩
  · rename_i hz
    split at h
    case h_1 => cases h
    rename_i hno
    split at h
    · cases h
      exact ⟨hv.2, hone _ hz (fun e => hno e) hv.1.1 hv.1.2⟩
    · split at h
      case h_2 => cases h
      rename_i v0 hcv
      cases h
      rw [Z0w] at hcv
      exact ⟨hv.2, hone _ hz (fun e => hno e) hv.1 hcv⟩
/-! Addresses and parts. -/
def exFA (T : TbG) (t : TypeId) (i : Nat) (p : Value) (hs : List Ht) (vc : List Prop) : R1 := match p with
  | .pointer (some ⟨b, off, none⟩) => match nthT T t with
    | some (.st _ fs, _) => match nthT fs i with
      | some (fo, z, _) => match z with
        | 0 => none
        | _ + 1 => some (.pointer (some ⟨b, off + fo, none⟩), hs, vc)
      | none => none
    | _ => none
  | _ => none
theorem Z6q {z : Nat} {fs : List (Nat × Nat × Bool)} (h : tdOf P t = .st z fs) : ∃ gs : Array Field, P.underlying t = some (.struct gs) ∧ fs = gs.toList.map (fun f => (f.offset, sizP P f.type, rowP P f.type)) ∧ z = sizP P t ∧ ∀ f ∈ gs.toList, somP P f.type = true := by
  unfold tdOf at h
  split at h <;> try (cases h; done)
  · split at h <;> cases h
    rename_i gs hg hc
    exact ⟨gs, hg, rfl, rfl, List.all_eq_true.1 hc⟩
  · split at h <;> cases h
  · split at h <;> cases h
theorem tdOf_ar {z n e : Nat} {r : Bool} (h : tdOf P t = .ar z n e r) : ∃ el, P.underlying t = some (.array n el) ∧ e = sizP P el ∧ r = rowP P el ∧ z = sizP P t ∧ somP P el = true := by
  unfold tdOf at h
  split at h <;> try (cases h; done)
  · split at h <;> cases h
  · split at h <;> cases h
    rename_i hc hg
    exact ⟨_, hg, rfl, rfl, rfl, hc⟩
  · split at h <;> cases h
theorem tdOf_sl {e : Nat} {r : Bool} (h : tdOf P t = .sl e r) : ∃ el, P.underlying t = some (.slice el) ∧ e = sizP P el ∧ r = rowP P el ∧ somP P el = true := by
  unfold tdOf at h
  split at h <;> try (cases h; done)
  · split at h <;> cases h
  · split at h <;> cases h
  · split at h <;> cases h
    rename_i hg hc
    exact ⟨_, hg, rfl, rfl, hc⟩
theorem tdOf_int {k : IntKind} (h : tdOf P t = .i k) : P.underlying t = some (.int k) := by
  unfold tdOf at h
  split at h <;> try (cases h; done)
  · split at h <;> cases h
  · split at h <;> cases h
  · split at h <;> cases h
  · cases h; assumption
theorem Z3j (h : tdOf P t = .str) : P.underlying t = some .string := by
  unfold tdOf at h
  split at h <;> try (cases h; done)
  · split at h <;> cases h
  · split at h <;> cases h
  · split at h <;> cases h
  · assumption
theorem Z3m {n : Nat} (h : sizP P t = n + 1) (w : World) : (sizeOf t).run P w = .ok (n + 1) w := by
  unfold sizP at h
  cases hi : P.info? t with
  | none => rw [hi] at h; simp at h
  | some i =>
    rw [hi] at h
    simp at h
    simp [sizeOf, typeInfo, hi, h]
theorem Z5m (b off n : Nat) : (⟨b, off, none⟩ : Addr).add n = ⟨b, off + n, none⟩ := by
  unfold Addr.add
  split <;> simp_all
theorem exFA_ok {i : Nat} (hT : TOk P T) (ho : o.op = .fieldAddr t x i) (hx : ρ x = p) : Good P o ρ L vc (exFA T t i p hs vc) := by
  intro v hs' vc' h hv
  unfold exFA at h
  split at h
  case h_2 => cases h
  rename_i b off
  split at h
  case h_2 => cases h
  rename_i z fs zv hd
  split at h
  case h_2 => cases h
  rename_i fo fz fr hf
  split at h
  case h_1 => cases h
  rename_i n
  cases h
  refine ⟨hv, fun w _ => ?_⟩
  obtain ⟨gs, hu, hfs, _⟩ := Z6q (hT.at_ _ _ hd).1
  rw [Z0w, hfs, List.getElem?_map] at hf
  cases hg : gs.toList[i]? with
  | none => rw [hg] at hf; cases hf
  | some g =>
    rw [hg] at hf
    simp only [Option.map_some, Option.some.injEq, Prod.mk.injEq] at hf
    have hg' : gs[i]? = some g := by simpa using hg
    unfold execOp
    simp [ho, hx, Instr.fieldAt, run_underlying hu, hg', Instr.sureAddr, fieldPlace, Z3m hf.2.1, Z5m, hf.1]
def exIA (T : TbG) (t : TypeId) (p q : Value) (hs : List Ht) (vc : List Prop) : R1 := match q with
  | .int _ i => match p with
    | .slice (some ⟨b, off, none⟩) len _ => match nthT T t with
      | some (.sl e _, _) => match e with
        | 0 => none
        | 1 => match hs with
          | .v (.pointer (some ⟨_, j, _⟩)) :: hs => some (.pointer (some ⟨b, j, none⟩), hs, (0 ≤ i ∧ i < len ∧ off + i.toNat = j) :: vc)
          | hs => some (.pointer (some ⟨b, off + i.toNat, none⟩), hs, (0 ≤ i ∧ i < len) :: vc)
        | e + 2 => match hs with
          | .v (.pointer (some ⟨_, j, _⟩)) :: hs => some (.pointer (some ⟨b, j, none⟩), hs, (0 ≤ i ∧ i < len ∧ off + i.toNat * (e + 2) = j) :: vc)
          | hs => some (.pointer (some ⟨b, off + i.toNat * (e + 2), none⟩), hs, (0 ≤ i ∧ i < len) :: vc)
      | _ => none
    | .pointer (some ⟨b, off, none⟩) => match nthT T t with
      | some (.ar _ len e _, _) => match e with
        | 0 => none
        | 1 => match hs with
          | .v (.pointer (some ⟨_, j, _⟩)) :: hs => some (.pointer (some ⟨b, j, none⟩), hs, (0 ≤ i ∧ i < len ∧ off + i.toNat = j) :: vc)
          | hs => some (.pointer (some ⟨b, off + i.toNat, none⟩), hs, (0 ≤ i ∧ i < len) :: vc)
        | e + 2 => match hs with
          | .v (.pointer (some ⟨_, j, _⟩)) :: hs => some (.pointer (some ⟨b, j, none⟩), hs, (0 ≤ i ∧ i < len ∧ off + i.toNat * (e + 2) = j) :: vc)
          | hs => some (.pointer (some ⟨b, off + i.toNat * (e + 2), none⟩), hs, (0 ≤ i ∧ i < len) :: vc)
      | _ => none
    | _ => none
  | _ => none
theorem Z5w {el : TypeId} {b off len cap e : Nat} {k : IntKind} {i : Int} (ho : o.op = .indexAddr t x y) (hx : ρ x = .slice (some ⟨b, off, none⟩) len cap) (hy : ρ y = .int k i) (hu : P.underlying t = some (.slice el)) (he : sizP P el = e + 1) (h : 0 ≤ i ∧ i < len) (w : World) :
    (execOp ρ o).run P w = .ok (.value (.pointer (some ⟨b, off + i.toNat * (e + 1), none⟩))) w := by
  unfold execOp
  simp [ho, hx, hy, Instr.indexAt, asIntOf, run_underlying hu, h, Z3m he, Z5m]
theorem Z5x {el : TypeId} {b off len e : Nat} {k : IntKind} {i : Int} (ho : o.op = .indexAddr t x y) (hx : ρ x = .pointer (some ⟨b, off, none⟩)) (hy : ρ y = .int k i) (hu : P.underlying t = some (.array len el)) (he : sizP P el = e + 1) (h : 0 ≤ i ∧ i < len) (w : World) :
    (execOp ρ o).run P w = .ok (.value (.pointer (some ⟨b, off + i.toNat * (e + 1), none⟩))) w := by
  unfold execOp
  simp [ho, hx, hy, Instr.indexAt, Instr.sureAddr, asIntOf, run_underlying hu, h, Z3m he, Z5m]
theorem exIA_ok (hT : TOk P T) (ho : o.op = .indexAddr t x y) (hx : ρ x = p) (hy : ρ y = q) : Good P o ρ L vc (exIA T t p q hs vc) := by
  intro v hs' vc' h hv
  unfold exIA at h
  split at h
  case h_2 => cases h
  rename_i k i
  split at h
  case h_3 => cases h
  · rename_i b off len cap
    split at h
    case h_2 => cases h
    rename_i e r zv hd
    obtain ⟨el, hu, he, _⟩ := tdOf_sl (hT.at_ _ _ hd).1
    split at h
    case h_1 => cases h
    all_goals
      split at h <;> cases h
      · refine ⟨hv.2, fun w _ => ?_⟩
        rw [Z5w ho hx hy hu he.symm ⟨hv.1.1, hv.1.2.1⟩ w]
        simp only [← hv.1.2.2, Nat.mul_one, Nat.zero_add]
      · refine ⟨hv.2, fun w _ => ?_⟩
        rw [Z5w ho hx hy hu he.symm hv.1 w] <;> simp only [Nat.mul_one, Nat.zero_add]
  · rename_i b off
    split at h
    case h_2 => cases h
    rename_i z len e r zv hd
    obtain ⟨el, hu, he, _⟩ := tdOf_ar (hT.at_ _ _ hd).1
    split at h
    case h_1 => cases h
    all_goals
      split at h <;> cases h
      · refine ⟨hv.2, fun w _ => ?_⟩
        rw [Z5x ho hx hy hu he.symm ⟨hv.1.1, hv.1.2.1⟩ w]
        simp only [← hv.1.2.2, Nat.mul_one, Nat.zero_add]
      · refine ⟨hv.2, fun w _ => ?_⟩
        rw [Z5x ho hx hy hu he.symm hv.1 w] <;> simp only [Nat.mul_one, Nat.zero_add]
def exIx (T : TbG) (t : TypeId) (p q : Value) (hs : List Ht) (vc : List Prop) : R1 := match q with
  | .int _ i => match p with
    | .string ⟨⟨l⟩⟩ => match nthT T t with
      | some (.str, _) => itg .u8 ((l[i.toNat]?.getD 0).toNat : Int) hs ((0 ≤ i ∧ i < l.length) :: vc)
      | _ => none
    | .agg ⟨cs⟩ => match nthT T t with
      | some (.ar _ len 1 false, _) => match nthT cs i.toNat with
        | some v => some (v, hs, (0 ≤ i ∧ i < len) :: vc)
        | none => none
      | _ => none
    | _ => none
  | _ => none
theorem exIx_ok (hT : TOk P T) (ho : o.op = .index t x y) (hx : ρ x = p) (hy : ρ y = q) : Good P o ρ L vc (exIx T t p q hs vc) := by
  unfold exIx
  split
  case h_2 => exact .none
  rename_i k i
  split
  case h_3 => exact .none
  · rename_i l
    split
    case h_2 => exact .none
    rename_i zv hd
    refine .itg fun hv => ⟨hv.2, fun w _ => ?_⟩
    have hu := Z3j (hT.at_ _ _ hd).1
    have hl : i.toNat < l.length := by have := hv.1; omega
    unfold execOp
    simp [ho, hx, hy, Instr.index, asIntOf, run_underlying hu, hv.1.1]
    have h2 : (⟨⟨l⟩⟩ : ByteArray)[i.toNat]? = some (l[i.toNat]'hl) := by
      show (if h : i.toNat < (⟨⟨l⟩⟩ : ByteArray).size then some ((⟨⟨l⟩⟩ : ByteArray)[i.toNat]'h) else none) = _
      have h3 : i.toNat < (⟨⟨l⟩⟩ : ByteArray).size := hl
      rw [dif_pos h3]
      rfl
    rw [h2]
    simp [List.getElem?_eq_getElem hl]
  · rename_i cs
    split
    case h_2 => exact .none
    rename_i z len zv hd
    split
    case h_2 => exact .none
    rename_i v hv0
    refine .one fun hv => ⟨hv.2, fun w _ => ?_⟩
    obtain ⟨el, hu, he, hr, _⟩ := tdOf_ar (hT.at_ _ _ hd).1
    rw [Z0w] at hv0
    have hagg : (isAgg el).run P w = .ok false w := by
      unfold rowP at hr
      unfold isAgg
      cases hue : P.underlying el with
      | none => rw [hue] at hr; cases hr
      | some d =>
        rw [hue] at hr
        rw [Sem.run_bind, run_underlying hue w]
        revert hr
        cases d <;> first | (intro _; rfl) | (intro hr; cases hr)
    unfold execOp
    simp only [ho, hx, hy, Instr.index, asIntOf, Sem.run_bind, Sem.run_pure, Result.andThen_ok, run_underlying hu, hv.1, and_self, if_true, Z3m he.symm, part, hagg, Nat.zero_add, Nat.mul_one]
    simp [hv0]
end

section
variable {P : Program} {o : Oper} {ρ : Operand → Value} {L : List Thing} {vc : List Prop} {hs : List Ht} {T : TbG} {t u : TypeId} {x y : Operand} {p q : Value}
def exFl (T : TbG) (t : TypeId) (i : Nat) (p : Value) (hs : List Ht) (vc : List Prop) : R1 := match p with
  | .agg ⟨cs⟩ => match nthT T t with
    | some (.st _ fs, _) => match nthT fs i with
      | some (fo, z, r) => match r with
        | true => match dropL fo cs with
          | some l => match takeL z l with
            | some vs => some (.agg ⟨vs⟩, hs, vc)
            | none => none
          | none => none
        | false => match nthT cs fo with
          | some v => some (v, hs, vc)
          | none => none
      | none => none
    | _ => none
  | _ => none
theorem somP_under (h : somP P t = true) : ∃ e, P.underlying t = some e := Option.isSome_iff_exists.1 (by simp [somP] at h; exact h.1)
theorem somP_size (h : somP P t = true) (w : World) : (sizeOf t).run P w = .ok (sizP P t) w := by
  obtain ⟨i, hi⟩ := Option.isSome_iff_exists.1 (show (P.info? t).isSome = true by simp [somP] at h; exact h.2)
  simp [sizeOf, typeInfo, hi, sizP]
theorem Z6b (h : somP P t = true) (w : World) : (isAgg t).run P w = .ok (rowP P t) w := by
  obtain ⟨e, he⟩ := somP_under h
  unfold isAgg rowP
  rw [Sem.run_bind, run_underlying he w, he]
  cases e <;> rfl
theorem exFl_ok {i : Nat} (hT : TOk P T) (ho : o.op = .field t x i) (hx : ρ x = p) : Good P o ρ L vc (exFl T t i p hs vc) := by
  intro v hs' vc' h hv
  unfold exFl at h
  split at h
  case h_2 => cases h
  rename_i cs
  split at h
  case h_2 => cases h
  rename_i z0 fs zv hd
  obtain ⟨gs, hu, hfs, _, hall⟩ := Z6q (hT.at_ _ _ hd).1
  split at h
  case h_2 => cases h
  rename_i fo z r hf
  rw [Z0w, hfs, List.getElem?_map] at hf
  cases hg : gs.toList[i]? with
  | none => rw [hg] at hf; cases hf
  | some g =>
    rw [hg] at hf
    simp only [Option.map_some, Option.some.injEq, Prod.mk.injEq] at hf
    obtain ⟨rfl, rfl, hr⟩ := hf
    have hg' : gs[i]? = some g := by simpa using hg
    have hsm := hall g (List.mem_of_getElem? hg)
    have key : ∀ (w : World) (v : Value), (part g.type ⟨cs⟩ g.offset).run P w = .ok v w → (execOp ρ o).run P w = .ok (.value v) w := fun w v hp => by
      unfold execOp
      simp only [ho, hx, Instr.field, Sem.run_bind, run_underlying hu, Result.andThen_ok, hg', asAgg, Sem.run_pure, hp]
    split at h
    · split at h
      case h_2 => cases h
      rename_i l hl
      split at h
      case h_2 => cases h
      rename_i vs hvs
      cases h
      refine ⟨hv, fun w _ => key w _ ?_⟩
      obtain ⟨h2, h3⟩ := Z2i _ _ _ hvs
      have h4 := Z2n _ _ _ hl
      have h5 : (⟨cs⟩ : Array Value).extract g.offset (g.offset + sizP P g.type) = ⟨vs⟩ := by
        rw [← h2, ← h4]
        apply Array.ext'
        simp [List.drop_take]
      unfold part
      simp only [Sem.run_bind, Z6b hsm, hr, Result.andThen_ok, if_true, somP_size hsm, Sem.run_pure, h5]
    · split at h
      case h_2 => cases h
      rename_i v0 hv0
      cases h
      refine ⟨hv, fun w _ => key w _ ?_⟩
      rw [Z0w] at hv0
      have hv1 : (⟨cs⟩ : Array Value)[g.offset]? = some v := by simpa using hv0
      unfold part
      simp only [Sem.run_bind, Z6b hsm, hr, Result.andThen_ok, Bool.false_eq_true, if_false, hv1, Sem.run_pure]
def exExt (i : Nat) (p : Value) (hs : List Ht) (vc : List Prop) : R1 := match p with
  | .tuple ⟨vs⟩ => match nthT vs i with
    | some v => some (v, hs, vc)
    | none => none
  | _ => none
theorem exExt_ok {i : Nat} (ho : o.op = .extract x i) (hx : ρ x = p) : Good P o ρ L vc (exExt i p hs vc) := by
  unfold exExt
  split
  case h_2 => exact .none
  rename_i vs
  split
  case h_2 => exact .none
  rename_i v hv
  refine .one fun h => ⟨h, fun w _ => ?_⟩
  rw [Z0w] at hv
  unfold execOp
  simp [ho, hx, Instr.extract, hv]
def exCv (T : TbG) (s d : TypeId) (p : Value) (hs : List Ht) (vc : List Prop) : R1 := match p with
  | .int _ n => match nthT T d with
    | some (.i k, _) => match nthT T s with
      | some _ => itg k n hs (inK k n :: vc)
      | none => none
    | _ => none
  | .string ⟨⟨l⟩⟩ => match nthT T d with
    | some (.str, _) => match nthT T s with
      | some _ => some (.string (sB l), hs, vc)
      | none => none
    | _ => none
  | _ => none
theorem exCv_ok (hT : TOk P T) (ho : o.op = .convert t u x) (hx : ρ x = p) : Good P o ρ L vc (exCv T t u p hs vc) := by
  unfold exCv
  split
  case h_3 => exact .none
  · rename_i k0 n
    split
    case h_2 => exact .none
    rename_i k zv hd
    split
    case h_2 => exact .none
    rename_i ds hs'
    refine .itg fun hv => ⟨hv.2, fun w _ => ?_⟩
    obtain ⟨e, he⟩ := hT.under hs'
    have hu := tdOf_int (hT.at_ _ _ hd).1
    unfold execOp
    simp only [ho, hx, convert, Sem.run_bind, run_underlying he, run_underlying hu, Result.andThen_ok]
    cases e <;> simp [Conv.intToInt, Z3t hv.1]
  · rename_i l
    split
    case h_2 => exact .none
    rename_i zv hd
    split
    case h_2 => exact .none
    rename_i ds hs'
    refine .one fun hv => ⟨hv, fun w _ => ?_⟩
    obtain ⟨e, he⟩ := hT.under hs'
    have hu := Z3j (hT.at_ _ _ hd).1
    unfold execOp
    simp only [ho, hx, convert, Sem.run_bind, run_underlying he, run_underlying hu, Result.andThen_ok]
    cases e <;> simp [sB]
def exMI (T : TbG) (t : TypeId) (p : Value) (hs : List Ht) (vc : List Prop) : R1 := match nthT T t with
  | some (.itf, _) => none
  | some (.oth, _) => none
  | some _ => some (.iface t p, hs, vc)
  | none => none
theorem Z3v {d : TypeDesc} (hu : P.underlying t = some d) (h : tdOf P t ≠ .itf) : ∀ ms, d ≠ .interface ms := by
  rintro ms rfl
  apply h
  unfold tdOf
  rw [hu]
theorem exMI_ok (hT : TOk P T) (ho : o.op = .makeInterface t x) (hx : ρ x = p) : Good P o ρ L vc (exMI T t p hs vc) := by
  unfold exMI
  split
  case h_1 => exact .none
  case h_2 => exact .none
  case h_4 => exact .none
  rename_i d hn1 hn2 hd
  refine .one fun hv => ⟨hv, fun w _ => ?_⟩
  obtain ⟨e, he⟩ := hT.under hd
  have hni := Z3v he (by
    rw [(hT.at_ _ _ hd).1]
    intro h
    obtain ⟨d1, d2⟩ := d
    exact hn1 d2 (by cases h; rfl))
  unfold execOp
  simp only [ho, hx, Instr.makeInterface, Sem.run_bind, run_underlying he, Result.andThen_ok]
  cases e <;> first | rfl | exact absurd rfl (hni _)
def exNil (p : Value) (hs : List Ht) (vc : List Prop) : R1 := match p with
  | .pointer (some a) => some (.pointer (some a), hs, vc)
  | .func (.func f) a b => some (.func (.func f) a b, hs, vc)
  | .iface t v => some (.iface t v, hs, vc)
  | _ => none
theorem exNil_ok (ho : o.op = .nilCheck x) (hx : ρ x = p) : Good P o ρ L vc (exNil p hs vc) := by
  unfold exNil
  split
  case h_4 => exact .none
  all_goals
    refine .one fun hv => ⟨hv, fun w _ => ?_⟩
    unfold execOp
    simp [ho, hx]
def exNot (p : Value) (hs : List Ht) (vc : List Prop) : R1 := match p with
  | .bool b => boo (!b) hs vc
  | _ => none
theorem exNot_ok (ho : o.op = .unOp .not t x) (hx : ρ x = p) : Good P o ρ L vc (exNot p hs vc) := by
  unfold exNot
  split
  case h_2 => exact .none
  exact .boo fun w _ => Z2a ho hx
def exLen (T : TbG) (t : TypeId) (p : Value) (hs : List Ht) (vc : List Prop) : R1 := match p with
  | .slice _ l _ => match nthT T t with
    | some (.sl _ _, _) => itg .i64 (l : Int) hs vc
    | _ => none
  | .string ⟨⟨l⟩⟩ => match nthT T t with
    | some (.str, _) => itg .i64 (l.length : Int) hs vc
    | _ => none
  | _ => none
theorem exLen_ok (hT : TOk P T) (ho : o.op = .call { callee := .builtin .len, args := #[x], argTypes := #[t] }) (hx : ρ x = p) : Good P o ρ L vc (exLen T t p hs vc) := by
  unfold exLen
  split
  case h_3 => exact .none
  · split
    case h_2 => exact .none
    rename_i hd
    obtain ⟨el, hu, _⟩ := tdOf_sl (hT.at_ _ _ hd).1
    exact .itg fun hv => ⟨hv, fun w _ => Z0j hu ho hx⟩
  · split
    case h_2 => exact .none
    rename_i l _ zv hd
    exact .itg fun hv => ⟨hv, fun w _ => x_len_l (l := l) (Z3j (hT.at_ _ _ hd).1) ho hx⟩
def exMM (mx : Bool) (p q : Value) (hs : List Ht) (vc : List Prop) : R1 := match p with
  | .int k a => match q with
    | .int _ b => match mx with
      | true => itg k (max a b) hs vc
      | false => itg k (min a b) hs vc
    | _ => none
  | _ => none
theorem exMin_ok {ts : Array TypeId} (ho : o.op = .call { callee := .builtin .min, args := #[x, y], argTypes := ts }) (hx : ρ x = p) (hy : ρ y = q) : Good P o ρ L vc (exMM false p q hs vc) := by
  unfold exMM
  split
  case h_2 => exact .none
  split
  case h_2 => exact .none
  rename_i k a _ k' b
  refine .itg fun hv => ⟨hv, fun w _ => ?_⟩
  unfold execOp
  simp only [ho, resolve, invoke, builtin, Sem.run_bind, Sem.run_pure, Result.andThen_ok, List.map_toArray, List.map_cons, List.map_nil, hx, hy]
  simp [Builtin.min_, Builtin.min2]
  split <;> omega
theorem exMax_ok {ts : Array TypeId} (ho : o.op = .call { callee := .builtin .max, args := #[x, y], argTypes := ts }) (hx : ρ x = p) (hy : ρ y = q) : Good P o ρ L vc (exMM true p q hs vc) := by
  unfold exMM
  split
  case h_2 => exact .none
  split
  case h_2 => exact .none
  rename_i k a _ k' b
  refine .itg fun hv => ⟨hv, fun w _ => ?_⟩
  unfold execOp
  simp only [ho, resolve, invoke, builtin, Sem.run_bind, Sem.run_pure, Result.andThen_ok, List.map_toArray, List.map_cons, List.map_nil, hx, hy]
  simp [Builtin.max_, Builtin.max2]
  split <;> omega
end

def setLv : List Value → Nat → Value → Option (List Value)
  | _ :: l, 0, v => some (v :: l)
  | x :: l, n + 1, v => match setLv l n v with
    | some r => some (x :: r)
    | none => none
  | [], _, _ => none
theorem Z53 : ∀ (l : List Value) (n : Nat) (v : Value) (r : List Value), setLv l n v = some r → l.set n v = r ∧ n < l.length
  | [], n, v, r, h => by cases n <;> simp [setLv] at h
  | x :: l, 0, v, r, h => by simp [setLv] at h; subst h; simp
  | x :: l, n + 1, v, r, h => by
    simp only [setLv] at h
    cases h1 : setLv l n v with
    | none => rw [h1] at h; cases h
    | some r' =>
      rw [h1] at h
      cases h
      obtain ⟨h2, h3⟩ := Z53 l n v r' h1
      simp [h2, h3]
def putsL : List Value → Nat → List Value → Option (List Value)
  | [], _, cs => some cs
  | v :: vs, off, cs => match setLv cs off v with
    | some cs => putsL vs (off + 1) cs
    | none => none
theorem Z3o : ∀ (vs : List Value) (off : Nat) (cs r : List Value), putsL vs off cs = some r → off ≤ cs.length → puts vs off ⟨cs⟩ = ⟨r⟩ ∧ off + vs.length ≤ cs.length ∧ r.length = cs.length
  | [], off, cs, r, h, ho => by simp [putsL] at h; subst h; exact ⟨rfl, by simpa using ho, rfl⟩
  | v :: vs, off, cs, r, h, ho => by
    simp only [putsL] at h
    cases h1 : setLv cs off v with
    | none => rw [h1] at h; cases h
    | some cs' =>
      rw [h1] at h
      obtain ⟨h2, h3⟩ := Z53 cs off v cs' h1
      have hl : cs'.length = cs.length := by rw [← h2]; simp
      obtain ⟨h4, h5, h6⟩ := Z3o vs (off + 1) cs' r h (by omega)
      refine ⟨?_, by simp only [List.length_cons]; omega, by omega⟩
      rw [puts]
      have : (⟨cs⟩ : Array Value).setIfInBounds off v = ⟨cs'⟩ := by rw [← h2]; simp
      rw [this, h4]
def cellsV : Value → Option (List Value)
  | .agg ⟨vs⟩ => some vs
  | .tuple _ => none
  | v => some [v]
theorem Z1z {v : Value} {vs : List Value} (h : cellsV v = some vs) : v.cells = ⟨vs⟩ := by
  unfold cellsV at h
  split at h <;> cases h
  · rfl
  · rename_i h1 h2
    cases v <;> first | rfl | (exact absurd rfl (h1 _)) | (exact absurd rfl (h2 _))
def oneV : List Value → Bool
  | [] => true
  | .agg _ :: _ => false
  | .tuple _ :: _ => false
  | _ :: l => oneV l
theorem oneV_ok : ∀ (l : List Value), oneV l = true → l.all (·.oneCell') = true
  | [], _ => rfl
  | v :: l, h => by
    cases v <;> first | (simp [oneV] at h; done) | (simp only [oneV] at h; simp only [List.all_cons, Value.oneCell', Bool.true_and]; exact oneV_ok l h)
def ovs (m : Mp) : List Operand → Option (List Value)
  | [] => some []
  | x :: xs => match opv m x with
    | some v => match ovs m xs with
      | some vs => some (v :: vs)
      | none => none
    | none => none
section
variable {P : Program} {o : Oper} {ρ : Operand → Value} {L : List Thing} {vc : List Prop} {hs : List Ht} {T : TbG} {t u : TypeId} {x y : Operand} {p q : Value} {m : Mp}
theorem Z63 (hρ : ∀ x v, opv m x = some v → ρ x = v) : ∀ (xs : List Operand) (vs : List Value), ovs m xs = some vs → xs.map ρ = vs
  | [], vs, h => by simp [ovs] at h; subst h; rfl
  | x :: xs, vs, h => by
    simp only [ovs] at h
    cases h1 : opv m x with
    | none => rw [h1] at h; cases h
    | some v =>
      rw [h1] at h
      cases h2 : ovs m xs with
      | none => simp [h2] at h
      | some vs' =>
        simp [h2] at h
        subst h
        simp [hρ x v h1, Z63 hρ xs vs' h2]
def exSl (T : TbG) (t : TypeId) (p : Value) (lo hi mx : Option (Option Value)) (hs : List Ht) (vc : List Prop) : R1 := match mx with
  | none => match p with
    | .string ⟨⟨l⟩⟩ => match nthT T t with
      | some (.str, _) => match lo with
        | none => match hi with
          | some (some (.int _ h)) => stg (l.take h.toNat) hs ((0 ≤ h ∧ h ≤ l.length) :: vc)
          | _ => none
        | some (some (.int _ a)) => match hi with
          | none => stg (l.drop a.toNat) hs ((0 ≤ a ∧ a ≤ l.length) :: vc)
          | some (some (.int _ h)) => stg ((l.take h.toNat).drop a.toNat) hs ((0 ≤ a ∧ a ≤ h ∧ h ≤ l.length) :: vc)
          | _ => none
        | _ => none
      | _ => none
    | _ => none
  | _ => none
theorem run_sl {l : List UInt8} {lo hi : Option Operand} {a b : Nat} (hu : P.underlying t = some .string) (ho : o.op = .slice t x lo hi none) (hx : ρ x = .string (sB l))
    (hl : match lo with | none => a = 0 | some z => ∃ k, ρ z = .int k (a : Nat)) (hh : match hi with | none => b = l.length | some z => ∃ k, ρ z = .int k (b : Nat)) (hab : a ≤ b) (hb : b ≤ l.length) (w : World) :
    (execOp ρ o).run P w = .ok (.value (.string (sB ((l.take b).drop a)))) w := by
  have hb' : ((b : Int) ≤ (sB l).size) := by rw [Z22]; omega
  have hab' : (a : Int) ≤ (b : Int) := by omega
  have ha' : ((a : Int) ≤ (sB l).size) := by rw [Z22]; omega
  unfold execOp
  cases lo with
  | none =>
    cases hi with
    | none =>
      dsimp only at hl hh
      subst hl hh
      simp only [ho, Option.map_none, hx]
      simp [Instr.sliceAt, Instr.slice, Instr.sliceBounds, run_underlying hu, Z7m, Z22]
    | some z =>
      dsimp only at hl
      subst hl
      obtain ⟨k, hk⟩ := hh
      simp only [ho, Option.map_none, Option.map_some, hx, hk]
      simp [Instr.sliceAt, Instr.slice, Instr.sliceBounds, Instr.sliceBound, run_underlying hu, asIntOf, hb', Z7m]
      intro h; rw [Z22] at h; omega
  | some y =>
    obtain ⟨j, hj⟩ := hl
    cases hi with
    | none =>
      dsimp only at hh
      subst hh
      simp only [ho, Option.map_none, Option.map_some, hx, hj]
      simp [Instr.sliceAt, Instr.slice, Instr.sliceBounds, Instr.sliceBound, run_underlying hu, asIntOf, ha', Z7m, Z22]
      intro h; omega
    | some z =>
      obtain ⟨k, hk⟩ := hh
      simp only [ho, Option.map_some, hx, hk, hj]
      simp [Instr.sliceAt, Instr.slice, Instr.sliceBounds, Instr.sliceBound, run_underlying hu, asIntOf, hb', hab, Z7m]
      intro h; rw [Z22] at h; omega
def exTA (T : TbG) (asserted : TypeId) (ok : Bool) (p : Value) (hs : List Ht) (vc : List Prop) : R1 := match nthT T asserted with
  | some (.itf, _) => none
  | some (.oth, _) => none
  | some (_, z, _) => match p with
    | .iface t v => match Nat.beq t asserted with
      | true => match ok with
        | true => some (.tuple ⟨[v, .bool true]⟩, hs, vc)
        | false => some (v, hs, vc)
      | false => match ok with
        | true => match z with
          | some z => some (.tuple ⟨[z, .bool false]⟩, hs, vc)
          | none => none
        | false => none
    | .nilIface => match ok with
      | true => match z with
        | some z => some (.tuple ⟨[z, .bool false]⟩, hs, vc)
        | none => none
      | false => none
    | _ => none
  | none => none
theorem zer_run {z : Value} (h : zerP P t = some z) (w : World) : (zeroValue t).run P w = .ok z w := by
  unfold zerP at h
  cases hi : P.info? t with
  | none => rw [hi] at h; cases h
  | some i =>
    rw [hi] at h
    have h : i.zero = some z := by simpa using h
    simp [zeroValue, typeInfo, hi, h]
theorem exTA_ok {at_ : TypeId} {ok : Bool} (hT : TOk P T) (ho : o.op = .typeAssert x t at_ ok) (hx : ρ x = p) : Good P o ρ L vc (exTA T at_ ok p hs vc) := by
  unfold exTA
  split
  case h_1 => exact .none
  case h_2 => exact .none
  case h_4 => exact .none
  rename_i d zv zn hn1 hn2 hd
  obtain ⟨e, he⟩ := hT.under hd
  have hni := Z3v he (by
    rw [(hT.at_ _ _ hd).1]
    intro h
    exact hn1 (by simpa using h))
  have hz := fun z (h : zv = some z) (w : World) => zer_run (P := P) ((hT.at_ _ _ hd).2.2.1 z h) w
  split
  case h_3 => exact .none
  · rename_i t' v
    split
    · rename_i hb
      have hb := Nat.eq_of_beq_eq_true hb
      split
      all_goals
        refine .one fun hv => ⟨hv, fun w _ => ?_⟩
        unfold execOp
        simp only [ho, hx, Instr.typeAssert, Sem.run_bind, run_underlying he, Result.andThen_ok]
        cases e <;> first | (exact absurd rfl (hni _)) | (simp [hb])
    · rename_i hb
      have hb : ¬ t' = at_ := Nat.ne_of_beq_eq_false hb
      split
      case h_2 => exact .none
      split
      case h_2 => exact .none
      rename_i z
      refine .one fun hv => ⟨hv, fun w _ => ?_⟩
      unfold execOp
      simp only [ho, hx, Instr.typeAssert, Sem.run_bind, run_underlying he, Result.andThen_ok]
      cases e <;> first | (exact absurd rfl (hni _)) | (simp [hb, hz z rfl])
  · split
    case h_2 => exact .none
    split
    case h_2 => exact .none
    rename_i z
    refine .one fun hv => ⟨hv, fun w _ => ?_⟩
    unfold execOp
    simp only [ho, hx, Instr.typeAssert, Sem.run_bind, run_underlying he, Result.andThen_ok]
    cases e <;> first | (exact absurd rfl (hni _)) | (simp [hz z rfl])
/-- Equality of what isn't a number or text. -/
def exEq (T : TbG) (t : TypeId) (ne : Bool) (p q : Value) (hs : List Ht) (vc : List Prop) : R1 := match nthT T t with
  | some (.pt, _) => match p with
    | .pointer none => match q with
      | .pointer none => some (.bool (!ne), hs, vc)
      | .pointer (some _) => some (.bool ne, hs, vc)
      | _ => none
    | .pointer (some _) => match q with
      | .pointer none => some (.bool ne, hs, vc)
      | _ => none
    | _ => none
  | some (.itf, _) => match p with
    | .nilIface => match q with
      | .iface _ _ => some (.bool ne, hs, vc)
      | _ => none
    | .iface _ _ => match q with
      | .nilIface => some (.bool ne, hs, vc)
      | _ => none
    | _ => none
  | some (.bo, _) => match p with
    | .bool a => match q with
      | .bool b => match ne with
        | true => boo (a != b) hs vc
        | false => boo (a == b) hs vc
      | _ => none
    | _ => none
  | _ => none
theorem tdOf_pt (h : tdOf P t = .pt) : ∃ e, P.underlying t = some (.pointer e) := by
  unfold tdOf at h
  split at h <;> try (cases h; done)
  · split at h <;> cases h
  · split at h <;> cases h
  · split at h <;> cases h
  · exact ⟨_, by assumption⟩
theorem tdOf_itf (h : tdOf P t = .itf) : ∃ e, P.underlying t = some (.interface e) := by
  unfold tdOf at h
  split at h <;> try (cases h; done)
  · split at h <;> cases h
  · split at h <;> cases h
  · split at h <;> cases h
  · exact ⟨_, by assumption⟩
theorem tdOf_bo (h : tdOf P t = .bo) : P.underlying t = some .bool := by
  unfold tdOf at h
  split at h <;> try (cases h; done)
  · split at h <;> cases h
  · split at h <;> cases h
  · split at h <;> cases h
  · assumption
theorem Z3w {b : Bool} (ne : Bool) (ho : o.op = .binOp (match ne with | true => .neq | false => .eql) t x y u) (hx : ρ x = p) (hy : ρ y = q) (hg : ∀ op w, (eqGuard op t x y p q).run P w = .ok () w)
    (h1 : binOp .eql t p q = (do pure (.bool (← Op.equal t p q)))) (h2 : binOp .neq t p q = (do pure (.bool (!(← Op.equal t p q))))) (h : ∀ w, (Op.equal t p q).run P w = .ok b w) (w : World) : (execOp ρ o).run P w = .ok (.value (.bool (match ne with | true => !b | false => b))) w := by
  unfold execOp
  cases ne
  · simp only [ho, hx, hy, h1]
    simp [hg, h w]
  · simp only [ho, hx, hy, h2]
    simp [hg, h w]
theorem Z16 (t : TypeId) (p q : Value) : ∃ d, Op.equal t p q = Op.equalIn (d + 1) t p q := ⟨9999, rfl⟩
theorem exEq_ok (ne : Bool) (hT : TOk P T) (ho : o.op = .binOp (match ne with | true => .neq | false => .eql) t x y u) (hx : ρ x = p) (hy : ρ y = q) : Good P o ρ L vc (exEq T t ne p q hs vc) := by
  unfold exEq
  split
  · rename_i zv hd
    obtain ⟨e, he⟩ := tdOf_pt (hT.at_ _ _ hd).1
    split
    case h_3 => exact .none
    · split
      case h_3 => exact .none
      · refine .one fun hv => ⟨hv, fun w _ => ?_⟩
        rw [Z3w (b := true) ne ho hx hy (fun op w => by cases op <;> simp [eqGuard]) rfl rfl (fun w => by obtain ⟨d, hd⟩ := Z16 t _ _; rw [hd]; simp [Op.equalIn, run_underlying he]) w]
        cases ne <;> rfl
      · refine .one fun hv => ⟨hv, fun w _ => ?_⟩
        rw [Z3w (b := false) ne ho hx hy (fun op w => by cases op <;> simp [eqGuard]) rfl rfl (fun w => by obtain ⟨d, hd⟩ := Z16 t _ _; rw [hd]; simp [Op.equalIn, run_underlying he]) w]
        cases ne <;> rfl
    · split
      case h_2 => exact .none
      refine .one fun hv => ⟨hv, fun w _ => ?_⟩
      rw [Z3w (b := false) ne ho hx hy (fun op w => by cases op <;> simp [eqGuard]) rfl rfl (fun w => by obtain ⟨d, hd⟩ := Z16 t _ _; rw [hd]; simp [Op.equalIn, run_underlying he]) w]
      cases ne <;> rfl
  · rename_i zv hd
    obtain ⟨e, he⟩ := tdOf_itf (hT.at_ _ _ hd).1
    split
    case h_3 => exact .none
    · split
      case h_2 => exact .none
      refine .one fun hv => ⟨hv, fun w _ => ?_⟩
      rw [Z3w (b := false) ne ho hx hy (fun op w => by cases op <;> simp [eqGuard]) rfl rfl (fun w => by obtain ⟨d, hd⟩ := Z16 t _ _; rw [hd]; simp [Op.equalIn, run_underlying he]) w]
      cases ne <;> rfl
    · split
      case h_2 => exact .none
      refine .one fun hv => ⟨hv, fun w _ => ?_⟩
      rw [Z3w (b := false) ne ho hx hy (fun op w => by cases op <;> simp [eqGuard]) rfl rfl (fun w => by obtain ⟨d, hd⟩ := Z16 t _ _; rw [hd]; simp [Op.equalIn, run_underlying he]) w]
      cases ne <;> rfl
  · rename_i zv hd
    have he := tdOf_bo (hT.at_ _ _ hd).1
    split
    case h_2 => exact .none
    rename_i a
    split
    case h_2 => exact .none
    rename_i b
    split
    · refine .boo fun w _ => ?_
      rw [Z3w (b := a == b) true ho hx hy (fun op w => by cases op <;> simp [eqGuard]) rfl rfl (fun w => by obtain ⟨d, hd⟩ := Z16 t _ _; rw [hd]; simp [Op.equalIn, run_underlying he]) w]
      rfl
    · refine .boo fun w _ => ?_
      rw [Z3w (b := a == b) false ho hx hy (fun op w => by cases op <;> simp [eqGuard]) rfl rfl (fun w => by obtain ⟨d, hd⟩ := Z16 t _ _; rw [hd]; simp [Op.equalIn, run_underlying he]) w]
  · exact .none
end

section
variable {P : Program} {o : Oper} {ρ : Operand → Value} {L : List Thing} {vc : List Prop} {hs : List Ht} {T : TbG} {t u : TypeId} {x y : Operand} {p q : Value} {m : Mp}
def oov (m : Mp) : Option Operand → Option (Option (Option Value))
  | none => some none
  | some x => match opv m x with
    | some v => some (some (some v))
    | none => none
theorem Z4j (hρ : ∀ x v, opv m x = some v → ρ x = v) {z : Option Operand} {r : Option (Option Value)} (h : oov m z = some r) : (z = none ∧ r = none) ∨ ∃ x v, z = some x ∧ r = some (some v) ∧ ρ x = v := by
  cases z with
  | none => simp [oov] at h; exact .inl ⟨rfl, h.symm⟩
  | some x =>
    simp only [oov] at h
    cases h1 : opv m x with
    | none => rw [h1] at h; cases h
    | some v => rw [h1] at h; cases h; exact .inr ⟨x, v, rfl, rfl, hρ _ _ h1⟩
theorem exSl_ok {lo hi mx : Option Operand} {rl rh rm : Option (Option Value)} (hT : TOk P T) (ho : o.op = .slice t x lo hi mx) (hρ : ∀ x v, opv m x = some v → ρ x = v) (hx : ρ x = p) (hl : oov m lo = some rl) (hh : oov m hi = some rh) (hm : oov m mx = some rm) : Good P o ρ L vc (exSl T t p rl rh rm hs vc) := by
  unfold exSl
  split
  case h_2 => exact .none
  obtain ⟨rfl, -⟩ | ⟨_, _, _, hc, _⟩ := Z4j hρ hm
  case inr => cases hc
  split
  case h_2 => exact .none
  rename_i l
  split
  case h_2 => exact .none
  rename_i zv hd
  have hu := Z3j (hT.at_ _ _ hd).1
  split
  case h_3 => exact .none
  · obtain ⟨rfl, -⟩ | ⟨_, _, _, hc, _⟩ := Z4j hρ hl
    case inr => cases hc
    split
    case h_2 => exact .none
    rename_i k h
    obtain ⟨_, hc⟩ | ⟨z, v, rfl, hv, hz⟩ := Z4j hρ hh
    · cases hc
    cases hv
    refine .stg fun hv => ⟨hv.2, fun w _ => ?_⟩
    have hh' : ((h.toNat : Nat) : Int) = h := Int.toNat_of_nonneg hv.1.1
    have := run_sl (a := 0) (b := h.toNat) (l := l) hu ho hx rfl ⟨k, by rw [hh']; exact hz⟩ (Nat.zero_le _) (by have := hv.1.2; omega) w
    simpa using this
  · rename_i k a
    obtain ⟨_, hc⟩ | ⟨z, v, rfl, hv, hz⟩ := Z4j hρ hl
    · cases hc
    cases hv
    split
    case h_3 => exact .none
    · obtain ⟨rfl, -⟩ | ⟨_, _, _, hc, _⟩ := Z4j hρ hh
      case inr => cases hc
      refine .stg fun hv => ⟨hv.2, fun w _ => ?_⟩
      have ha' : ((a.toNat : Nat) : Int) = a := Int.toNat_of_nonneg hv.1.1
      have := run_sl (a := a.toNat) (b := l.length) (l := l) hu ho hx ⟨k, by rw [ha']; exact hz⟩ rfl (by have := hv.1.2; omega) (Nat.le_refl _) w
      simpa using this
    · rename_i k' h
      obtain ⟨_, hc⟩ | ⟨z', v', rfl, hv', hz'⟩ := Z4j hρ hh
      · cases hc
      cases hv'
      refine .stg fun hv => ⟨hv.2, fun w _ => ?_⟩
      have ha' : ((a.toNat : Nat) : Int) = a := Int.toNat_of_nonneg hv.1.1
      have hh' : ((h.toNat : Nat) : Int) = h := Int.toNat_of_nonneg (by have := hv.1; omega)
      exact run_sl (a := a.toNat) (b := h.toNat) (l := l) hu ho hx ⟨k, by rw [ha']; exact hz⟩ ⟨k', by rw [hh']; exact hz'⟩ (by have := hv.1; omega) (by have := hv.1; omega) w
/-! A struct of parts. -/
def bdL (m : Mp) (fs : List (Nat × Nat × Bool)) : List (Nat × Operand) → List Value → Option (List Value)
  | [], cs => some cs
  | (i, x) :: ps, cs => match opv m x with
    | some v => match nthT fs i with
      | some (fo, z, _) => match z with
        | 0 => none
        | z + 1 => match cellsV v with
          | some vs => match takeL (z + 1) vs with
            | some vs' => match dropL (z + 1) vs with
              | some [] => match putsL vs' fo cs with
                | some cs' => bdL m fs ps cs'
                | none => none
              | _ => none
            | none => none
          | none => none
      | none => none
    | none => none
def exBd (T : TbG) (m : Mp) (t : TypeId) (ps : List (Nat × Operand)) (hs : List Ht) (vc : List Prop) : R1 := match nthT T t with
  | some (.st _ fs, some z, _) => match cellsV z with
    | some zs => match bdL m fs ps zs with
      | some cs => some (.agg ⟨cs⟩, hs, vc)
      | none => none
    | none => none
  | _ => none
theorem Z7d (off : Nat) : ∀ (vs : List Value) (k : Nat) (cs : Array Value), (vs.zipIdx k).foldl (fun cs (c, j) => cs.setIfInBounds (off + j) c) cs = puts vs (off + k) cs
  | [], _, _ => rfl
  | v :: vs, k, cs => by
    rw [List.zipIdx_cons, List.foldl_cons, Z7d off vs (k + 1), puts]
    rfl
theorem puts_none : ∀ (vs : List Value) (off : Nat) (cs : List Value), off ≤ cs.length ∨ vs ≠ [] → ∀ r, putsL vs off cs = some r → off + vs.length ≤ cs.length
  | [], off, cs, h, r, _ => by rcases h with h | h <;> simp_all
  | v :: vs, off, cs, _, r, h => by
    simp only [putsL] at h
    cases h1 : setLv cs off v with
    | none => rw [h1] at h; cases h
    | some cs' =>
      obtain ⟨h2, h3⟩ := Z53 cs off v cs' h1
      exact (Z3o (v :: vs) off cs r (by simp only [putsL, h1]; rw [h1] at h; exact h) (by omega)).2.1
theorem bdL_ok {fs : List (Nat × Nat × Bool)} {pl : Nat → Option (Nat × Nat)} (hρ : ∀ x v, opv m x = some v → ρ x = v) (hpl : ∀ i fo z r, nthT fs i = some (fo, z, r) → pl i = some (fo, z)) :
    ∀ (ps : List (Nat × Operand)) (cs r : List Value), bdL m fs ps cs = some r → Instr.fill pl ⟨cs⟩ (ps.map fun (i, x) => (i, ρ x)) = some ⟨r⟩
  | [], cs, r, h => by simp [bdL] at h; subst h; rfl
  | (i, x) :: ps, cs, r, h => by
    simp only [bdL] at h
    split at h
    case h_2 => cases h
    rename_i v hv
    split at h
    case h_2 => cases h
    rename_i fo z0 fr hf
    split at h
    case h_1 => cases h
    rename_i z
    split at h
    case h_2 => cases h
    rename_i vs hvs
    split at h
    case h_2 => cases h
    rename_i vs' ht
    split at h
    case h_2 => cases h
    rename_i hdr
    split at h
    case h_2 => cases h
    rename_i cs' hp
    obtain ⟨t1, t2⟩ := Z2i _ _ _ ht
    have t3 := Z2n _ _ _ hdr
    have hvv : vs' = vs := by
      have := List.take_append_drop (z + 1) vs
      rw [t1, t3, List.append_nil] at this
      exact this
    subst hvv
    have h1 := hpl i fo (z + 1) fr hf
    have hne : vs' ≠ [] := by rintro rfl; simp at t2
    have hle := puts_none vs' fo cs (.inr hne) cs' hp
    have hc := Z1z hvs
    have hput := (Z3o vs' fo cs cs' hp (by omega)).1
    simp only [List.map_cons, hρ x v hv, Instr.fill, h1, hc]
    refine (if_neg (show ¬ ((decide (vs'.length ≠ z + 1) || decide (fo + vs'.length > cs.length)) = true) by simp; omega)).trans ?_
    have e3 : ((⟨vs'⟩ : Array Value).zipIdx.foldl (fun (cs : Array Value) (q : Value × Nat) => cs.setIfInBounds (fo + q.2) q.1) (⟨cs⟩ : Array Value)) = (⟨cs'⟩ : Array Value) := by
      rw [← Array.foldl_toList, Array.toList_zipIdx]
      exact (Z7d fo vs' 0 _).trans (by rw [Nat.add_zero, hput])
    exact (congrArg (fun z => Instr.fill pl z _) e3).trans (bdL_ok hρ hpl ps cs' r h)
theorem mapM_sm {α β : Type} {f : α → Option β} {g : α → β} : ∀ (l : List α), (∀ x ∈ l, f x = some (g x)) → l.mapM f = some (l.map g)
  | [], _ => by simp
  | x :: l, h => by
    rw [List.mapM_cons, h x (by simp), mapM_sm l fun y hy => h y (by simp [hy])]
    rfl
theorem exBd_ok {ps : List (Nat × Operand)} (hT : TOk P T) (ho : o.op = .build t ⟨ps⟩) (hρ : ∀ x v, opv m x = some v → ρ x = v) : Good P o ρ L vc (exBd T m t ps hs vc) := by
  unfold exBd
  split
  case h_2 => exact .none
  rename_i z0 fs z zn hd
  obtain ⟨gs, hu, hfs, _, hall⟩ := Z6q (hT.at_ _ _ hd).1
  have hzr : zerP P t = some z := (hT.at_ _ _ hd).2.2.1 z rfl
  split
  case h_2 => exact .none
  rename_i zs hzs
  split
  case h_2 => exact .none
  rename_i cs hcs
  refine .one fun hv => ⟨hv, fun w _ => ?_⟩
  have hpl : gs.toList.mapM (fun f => (P.info? f.type).map fun i => (f.offset, i.size)) = some (gs.toList.map fun f => (f.offset, sizP P f.type)) := by
    refine mapM_sm _ fun f hf => ?_
    obtain ⟨i, hi⟩ := Option.isSome_iff_exists.1 (show (P.info? f.type).isSome = true by have := hall f hf; simp [somP] at this; exact this.2)
    simp [hi, sizP]
  have hb : P.built t (ps.map fun (i, x) => (i, ρ x)) = some ⟨cs⟩ := by
    unfold Program.built
    unfold zerP at hzr
    cases hi : P.info? t with
    | none => rw [hi] at hzr; cases hzr
    | some it =>
      rw [hi] at hzr
      have hz : it.zero = some z := by simpa using hzr
      simp only [hu, hz, hpl, Z1z hzs]
      refine bdL_ok hρ (fun i fo z r hn => ?_) ps zs cs hcs
      rw [Z0w, hfs, List.getElem?_map] at hn
      cases hg : gs.toList[i]? with
      | none => rw [hg] at hn; cases hn
      | some g =>
        rw [hg] at hn
        cases hn
        simp [hg]
  unfold execOp
  simp only [ho, Sem.run_bind, Sem.run_pure]
  rw [run_build w t _ ⟨cs⟩ (by simpa using hb)]
  rfl
def exMF (fn : Fn) (m : Mp) (xs ys : List Operand) (hs : List Ht) (vc : List Prop) : R1 := match ovs m xs with
  | some vs => match ovs m ys with
    | some us => some (.func fn ⟨vs⟩ ⟨us⟩, hs, vc)
    | none => none
  | none => none
theorem exMF_ok {fn : Fn} {xs ys : List Operand} (ho : o.op = .makeFunc fn ⟨xs⟩ ⟨ys⟩) (hρ : ∀ x v, opv m x = some v → ρ x = v) : Good P o ρ L vc (exMF fn m xs ys hs vc) := by
  unfold exMF
  split
  case h_2 => exact .none
  rename_i vs hvs
  split
  case h_2 => exact .none
  rename_i us hus
  refine .one fun hv => ⟨hv, fun w _ => ?_⟩
  have e1 : (⟨xs⟩ : Array Operand).map ρ = ⟨vs⟩ := by rw [← Z63 hρ xs vs hvs]; simp
  have e2 : (⟨ys⟩ : Array Operand).map ρ = ⟨us⟩ := by rw [← Z63 hρ ys us hus]; simp
  unfold execOp
  simp only [ho, e1, e2]
  simp [Instr.makeFunc]
end

/-- A value known of an operand, on to what follows. -/
@[inline] def wi {α : Type} (m : Mp) (x : Operand) (k : Value → Option α) : Option α := match opv m x with
  | some v => k v
  | none => none
def exPk (m : Mp) (p : Value) (x y : Operand) (hs : List Ht) (vc : List Prop) : R1 := match p with
  | .bool q => match hs with
    | .T :: hs => wi m x fun v => some (v, hs, (q = true) :: vc)
    | .F :: hs => wi m y fun v => some (v, hs, (q = false) :: vc)
    | hs => match q with
      | true => wi m x fun v => some (v, hs, vc)
      | false => wi m y fun v => some (v, hs, vc)
  | _ => none
def exCall (T : TbG) (m : Mp) (c : Builtin) (xs : List Operand) (ts : List TypeId) (hs : List Ht) (vc : List Prop) : R1 := match c with
  | .len => match xs with
    | [x] => match ts with
      | [t] => wi m x fun p => exLen T t p hs vc
      | _ => none
    | _ => none
  | .min => match xs with
    | [x, y] => wi m x fun p => wi m y fun q => exMM false p q hs vc
    | _ => none
  | .max => match xs with
    | [x, y] => wi m x fun p => wi m y fun q => exMM true p q hs vc
    | _ => none
  | _ => none
def exBin (T : TbG) (op : BinOp) (t : TypeId) (p q : Value) (hs : List Ht) (vc : List Prop) : R1 := match p with
  | .int _ _ => bin op p q hs vc
  | .string _ => bin op p q hs vc
  | _ => match op with
    | .eql => exEq T t false p q hs vc
    | .neq => exEq T t true p q hs vc
    | _ => none
def ex1 (T : TbG) (m : Mp) (L : List Thing) (op : Op) (hs : List Ht) (vc : List Prop) : R1 := match op with
  | .move x => wi m x fun v => some (v, hs, vc)
  | .assign x => wi m x fun v => some (v, hs, vc)
  | .pick c x y => wi m c fun p => exPk m p x y hs vc
  | .nilCheck x => wi m x fun p => exNil p hs vc
  | .load t x => wi m x fun p => exLd T L t p hs vc
  | .binOp op t x y _ => wi m x fun p => wi m y fun q => exBin T op t p q hs vc
  | .unOp .not _ x => wi m x fun p => exNot p hs vc
  | .convert s d x => wi m x fun p => exCv T s d p hs vc
  | .makeInterface t x => wi m x fun p => exMI T t p hs vc
  | .makeFunc fn ⟨xs⟩ ⟨ys⟩ => exMF fn m xs ys hs vc
  | .fieldAddr t x i => wi m x fun p => exFA T t i p hs vc
  | .field t x i => wi m x fun p => exFl T t i p hs vc
  | .indexAddr t x y => wi m x fun p => wi m y fun q => exIA T t p q hs vc
  | .index t x y => wi m x fun p => wi m y fun q => exIx T t p q hs vc
  | .extract x i => wi m x fun p => exExt i p hs vc
  | .slice t x lo hi mx => wi m x fun p => match oov m lo with
    | some rl => match oov m hi with
      | some rh => match oov m mx with
        | some rm => exSl T t p rl rh rm hs vc
        | none => none
      | none => none
    | none => none
  | .build t ⟨ps⟩ => exBd T m t ps hs vc
  | .typeAssert x _ a ok => wi m x fun p => exTA T a ok p hs vc
  | .call ⟨.builtin c, ⟨xs⟩, ⟨ts⟩⟩ => exCall T m c xs ts hs vc
  | _ => none
section
variable {P : Program} {o : Oper} {ρ : Operand → Value} {L : List Thing} {vc : List Prop} {hs : List Ht} {T : TbG} {t u : TypeId} {x y : Operand} {p q : Value} {m : Mp}
theorem Good.wi {k : Value → R1} (h : ∀ v, opv m x = some v → Good P o ρ L vc (k v)) : Good P o ρ L vc (wi m x k) := by
  unfold Proofs.Ytbfgacmfjfbooaa.wi
  split
  · exact h _ (by assumption)
  · exact .none
theorem exPk_ok {c : Operand} (ho : o.op = .pick c x y) (hρ : ∀ x v, opv m x = some v → ρ x = v) (hc : ρ c = p) : Good P o ρ L vc (exPk m p x y hs vc) := by
  unfold exPk
  split
  case h_2 => exact .none
  rename_i q
  split
  · exact .wi fun v hv => .one fun h => ⟨h.2, fun w _ => Z0n ho (by rw [hc, h.1]) (hρ _ _ hv)⟩
  · exact .wi fun v hv => .one fun h => ⟨h.2, fun w _ => Z07 ho (by rw [hc, h.1]) (hρ _ _ hv)⟩
  · split
    · exact .wi fun v hv => .one fun h => ⟨h, fun w _ => Z0n ho hc (hρ _ _ hv)⟩
    · exact .wi fun v hv => .one fun h => ⟨h, fun w _ => Z07 ho hc (hρ _ _ hv)⟩
theorem exCall_ok {c : Builtin} {xs : List Operand} {ts : List TypeId} (hT : TOk P T) (ho : o.op = .call ⟨.builtin c, ⟨xs⟩, ⟨ts⟩⟩) (hρ : ∀ x v, opv m x = some v → ρ x = v) : Good P o ρ L vc (exCall T m c xs ts hs vc) := by
  unfold exCall
  split
  case h_4 => exact .none
  · split
    case h_2 => exact .none
    split
    case h_2 => exact .none
    exact .wi fun v hv => exLen_ok hT ho (hρ _ _ hv)
  · split
    case h_2 => exact .none
    exact .wi fun v hv => .wi fun u hu => exMin_ok ho (hρ _ _ hv) (hρ _ _ hu)
  · split
    case h_2 => exact .none
    exact .wi fun v hv => .wi fun u hu => exMax_ok ho (hρ _ _ hv) (hρ _ _ hu)
theorem exBin_ok {op : BinOp} (hT : TOk P T) (ho : o.op = .binOp op t x y u) (hx : ρ x = p) (hy : ρ y = q) : Good P o ρ L vc (exBin T op t p q hs vc) := by
  unfold exBin
  split
  · exact bin_ok ho hx hy
  · exact bin_ok ho hx hy
  · split
    · exact exEq_ok false hT ho hx hy
    · exact exEq_ok true hT ho hx hy
    · exact .none
theorem ex1_ok (hT : TOk P T) (hρ : ∀ x v, opv m x = some v → ρ x = v) : Good P o ρ L vc (ex1 T m L o.op hs vc) := by
  unfold ex1
  split
  case h_20 => exact .none
  all_goals rename_i ho
  · exact .wi fun v hv => .one fun h => ⟨h, fun w _ => Z02 ho (hρ _ _ hv)⟩
  · exact .wi fun v hv => .one fun h => ⟨h, fun w _ => Z01 ho (hρ _ _ hv)⟩
  · exact .wi fun v hv => exPk_ok ho hρ (hρ _ _ hv)
  · exact .wi fun v hv => exNil_ok ho (hρ _ _ hv)
  · exact .wi fun v hv => exLd_ok hT ho (hρ _ _ hv)
  · exact .wi fun v hv => .wi fun u hu => exBin_ok hT ho (hρ _ _ hv) (hρ _ _ hu)
  · exact .wi fun v hv => exNot_ok ho (hρ _ _ hv)
  · exact .wi fun v hv => exCv_ok hT ho (hρ _ _ hv)
  · exact .wi fun v hv => exMI_ok hT ho (hρ _ _ hv)
  · exact exMF_ok ho hρ
  · exact .wi fun v hv => exFA_ok hT ho (hρ _ _ hv)
  · exact .wi fun v hv => exFl_ok hT ho (hρ _ _ hv)
  · exact .wi fun v hv => .wi fun u hu => exIA_ok hT ho (hρ _ _ hv) (hρ _ _ hu)
  · exact .wi fun v hv => .wi fun u hu => exIx_ok hT ho (hρ _ _ hv) (hρ _ _ hu)
  · exact .wi fun v hv => exExt_ok ho (hρ _ _ hv)
  · refine .wi fun v hv => ?_
    split
    case h_2 => exact .none
    split
    case h_2 => exact .none
    split
    case h_2 => exact .none
    exact exSl_ok hT ho hρ (hρ _ _ hv) (by assumption) (by assumption) (by assumption)
  · exact exBd_ok hT ho hρ
  · exact .wi fun v hv => exTA_ok hT ho (hρ _ _ hv)
  · exact exCall_ok hT ho hρ
/-! A store into a block of one's own. -/
def setTh : List Thing → Nat → Thing → Option (List Thing)
  | _ :: l, 0, v => some (v :: l)
  | x :: l, n + 1, v => match setTh l n v with
    | some r => some (x :: r)
    | none => none
  | [], _, _ => none
theorem Z3n : ∀ (l : List Thing) (n : Nat) (v : Thing) (r : List Thing), setTh l n v = some r → r = l.set n v
  | [], n, v, r, h => by cases n <;> simp [setTh] at h
  | x :: l, 0, v, r, h => by simp [setTh] at h; subst h; simp
  | x :: l, n + 1, v, r, h => by
    simp only [setTh] at h
    cases h1 : setTh l n v with
    | none => rw [h1] at h; cases h
    | some r' =>
      rw [h1] at h
      cases h
      simp [Z3n l n v r' h1]
def exSt (T : TbG) (L : List Thing) (t : TypeId) (p v : Value) (hs : List Ht) (vc : List Prop) : Option (List Thing × List Ht × List Prop) := match p with
  | .pointer (some ⟨b, off, none⟩) => match hs with
    | .n i :: hs => match nthT L i with
      | some th => match th.blk with
        | some (b', tt, ⟨cs⟩) => match cellsV v with
          | some vs => match oneV vs with
            | true => match putsL vs off cs with
              | some cs' => match setTh L i (tBlk b' tt ⟨cs'⟩) with
                | some L' => match nthT T t with
                  | some (_, _, z) => match takeL z vs with
                    | some _ => match dropL z vs with
                      | some [] => some (L', hs, (b = b' ∧ off ≤ cs.length) :: vc)
                      | _ => none
                    | none => none
                  | none => none
                | none => none
              | none => none
            | false => none
          | none => none
        | none => none
      | none => none
    | _ => none
  | _ => none
theorem Z79 {H : Nat} {A : World} {v : Value} {L' : List Thing} {hs' : List Ht} {vc' : List Prop} (hT : TOk P T) (ho : o.op = .store t x y) (h : exSt T L t p v hs vc = some (L', hs', vc')) (hv : AllP vc') :
    AllP vc ∧ ∀ (ρ : Operand → Value) (w : World), ρ x = p → ρ y = v → OwnT H A L w → ∃ w', (execOp ρ o).run P w = .ok .skip w' ∧ OwnT H A L' w' := by
  unfold exSt at h
  split at h
  case h_2 => cases h
  rename_i b off
  split at h
  case h_2 => cases h
  rename_i i hs
  split at h
  case h_2 => cases h
  rename_i th hi
  split at h
  case h_2 => cases h
  rename_i b' tt cs hb
  split at h
  case h_2 => cases h
  rename_i vs hvs
  split at h
  case h_2 => cases h
  rename_i h1
  split at h
  case h_2 => cases h
  rename_i cs' hp
  split at h
  case h_2 => cases h
  rename_i L1 hL
  split at h
  case h_2 => cases h
  rename_i td zv z hd
  split at h
  case h_2 => cases h
  rename_i vs' ht
  split at h
  case h_2 => cases h
  rename_i hdr
  cases h
  refine ⟨hv.2, fun ρ w hx hy O => ?_⟩
  obtain ⟨rfl, hoff⟩ := hv.1
  obtain ⟨t1, t2⟩ := Z2i _ _ _ ht
  have t3 := Z2n _ _ _ hdr
  have hvv : vs' = vs := by
    have := List.take_append_drop z vs
    rw [t1, t3, List.append_nil] at this
    exact this
  subst hvv
  obtain ⟨p1, p2, p3⟩ := Z3o _ _ _ _ hp hoff
  have hc := Z1z hvs
  rw [Z0w] at hi
  have hB : Blk w b tt ⟨cs⟩ := Thing.blkOk _ w _ _ _ hb (O.all.mem (List.mem_of_getElem? hi))
  have hsz : (P.info? t).map (·.size) = some v.cells.size := by
    rw [hT.size hd, (hT.at_ _ _ hd).2.2.2, hc]
    exact congrArg some t2.symm
  have hrun := run_st (P := P) (t := t) (v := v) (off := off) hB hsz (by rw [hc]; exact oneV_ok _ h1) (by rw [hc]; exact Nat.ble_eq_true_of_le p2)
  refine ⟨w.setCells b off v.cells.toList, ?_, ?_⟩
  · unfold execOp
    simp only [ho, hx, hy, Instr.storeAt, Instr.sureAddr, Sem.run_bind, Sem.run_pure, Result.andThen_ok, hrun]
  · have O2 := OwnT.pull O i hi
    have hft : th.foot = [b] := th.blkFoot _ _ _ hb
    have O3 : OwnT H A (tBlk b tt ⟨cs⟩ :: L.eraseIdx i) w := O2.call (Chg.refl [] w) (fun _ h => by cases h) _ hB (fun k hk => .inl (by rw [hft]; exact hk))
    have O4 := OwnT.sets v.cells.toList off ⟨cs⟩ w O3
    rw [hc] at O4 ⊢
    rw [p1] at O4
    rw [Z3n _ _ _ _ hL]
    exact OwnT.push i hi O4
end

def memN : List Nat → Nat → Bool
  | [], _ => false
  | x :: l, y => match Nat.beq x y with
    | true => true
    | false => memN l y
/-- Operations still to come, in this order; the free ones (fr) yield in whatever world meets I. -/
def Sq (P : Program) (ops : Array Oper) (Q : Exit → Act → World → Prop) (fr : List Nat) (I : World → Prop) : List Nat → Act → World → Prop
  | [], a, w => Q .normal a w
  | i :: is, a, w => ∃ o, ops[i]? = some o ∧ match memN fr i with
    | true => ∃ v, YieldsIf P ops I o v a ∧ Sq P ops Q fr I is (a.put o.dst v) w
    | false => wpOp P ops Q i (fun a' w' => I w' ∧ Sq P ops Q fr I is a' w') a w
def okS (ops : Array Oper) (fr : List Nat) : Array Bool → List Nat → Bool
  | listed, [] => (Region.ready .any ops listed).isEmpty
  | listed, i :: is => (match memN fr i with
    | true => Region.free .any ops listed i && (Region.ready .any ops listed).contains i
    | false => Region.ready .any ops listed == [i]) && okS ops fr (listed.setIfInBounds i true) is
section
variable {P : Program} {ops : Array Oper} {Q : Exit → Act → World → Prop} {fr : List Nat} {I : World → Prop}
theorem sq_ops : ∀ (is : List Nat) (a : Act) (w : World), Sq P ops Q [] I is a w → wpOps P ops Q is a w
  | [], _, _, h => h
  | i :: is, a, w, ⟨_, _, h⟩ => by
    rw [wpOps_cons]
    exact wpOp_mono (fun a w h => sq_ops is a w h.2) h
theorem sq_any (hsel : Region.noSelect ops = true) (hQ : ∀ c a d v w, Q (.panic c) (Act.put a d v) w → Q (.panic c) a w) : ∀ (is : List Nat) (listed : Array Bool) (a : Act) (w : World), okS ops fr listed is = true → I w → Sq P ops Q fr I is a w → wpAnyH P .any ops Q I is.length listed a w
  | [], listed, a, w, h, _, hq => by
    simp only [okS, List.isEmpty_iff] at h
    exact ⟨h, hq⟩
  | i :: is, listed, a, w, h, hI, ⟨o, ho, hq⟩ => by
    simp only [okS, Bool.and_eq_true] at h
    obtain ⟨h, h2⟩ := h
    cases hm : memN fr i with
    | true =>
      rw [hm] at h hq
      simp only [Bool.and_eq_true] at h
      obtain ⟨v, hy, hq⟩ := hq
      exact wpAnyH_take ho hsel h.1 h.2 (fun c a w hp => hQ c a _ _ w hp) hy hI (sq_any hsel hQ is _ _ _ h2 hI hq)
    | false =>
      rw [hm] at h hq
      have h : Region.ready .any ops listed = [i] := by simpa using h
      refine wpAnyH_all h (by simp) fun j hj => ?_
      obtain rfl : j = i := by simpa using hj
      exact wpOp_mono (fun a' w' hh => ⟨hh.1, sq_any hsel hQ is _ _ _ h2 hh.1 hh.2⟩) hq
end
/-! A region whose last operation waits for all free ones: that one need not keep what they lean on. -/
def wpAnyE (P : Program) (ops : Array Oper) (Q : Exit → Act → World → Prop) (S : World → Prop) (e : Nat) : Nat → Array Bool → Act → World → Prop
  | 0, listed, a, w => Region.ready .any ops listed = [] ∧ Q .normal a w
  | fuel + 1, listed, a, w => (Region.ready .any ops listed = [] → Q .normal a w) ∧
    ∀ i ∈ Region.ready .any ops listed, wpOp P ops Q i (fun a' w' => (i = e ∨ S w') ∧ wpAnyE P ops Q S e fuel (listed.setIfInBounds i true) a' w') a w
def waitsB (ops : Array Oper) (e i : Nat) : Bool := match ops[e]? with
  | some oe => oe.after.any fun x => Region.binds .any x && x.on == i
  | none => false
section
variable {P : Program} {ops : Array Oper} {Q Q' : Exit → Act → World → Prop} {S : World → Prop} {e : Nat}
theorem Z4d : ∀ (fuel : Nat) (listed : Array Bool) (a : Act) (w : World), wpAnyE P ops Q S e fuel listed a w → wpAny P .any ops Q fuel listed a w
  | 0, _, _, _, h => h
  | fuel + 1, _, _, _, h => ⟨h.1, fun i hi => wpOp_mono (fun a' w' h' => Z4d fuel _ a' w' h'.2) (h.2 i hi)⟩
theorem waits_not {i : Nat} {listed : Array Bool} (h : waitsB ops e i = true) (hi : i ∈ Region.ready .any ops listed) : ¬ e ∈ Region.ready .any ops listed := by
  intro he
  unfold waitsB at h
  split at h
  case h_2 => cases h
  rename_i oe hoe
  obtain ⟨x, hx, hb⟩ := Array.any_eq_true'.1 h
  simp only [Bool.and_eq_true, beq_iff_eq] at hb
  obtain ⟨_, oe', hoe', hall⟩ := mem_ready.1 he
  rw [hoe] at hoe'
  cases hoe'
  have h1 := hall x hx hb.1
  have h0 := (mem_ready.1 hi).1
  rw [hb.2] at h1
  rcases Nat.lt_or_ge i listed.size with h' | h'
  · simp [h'] at h0 h1; rw [h0] at h1; cases h1
  · simp [Array.getElem?_eq_none h'] at h1
theorem Z5t {i : Nat} {oi : Oper} {v : Value} (hi : ops[i]? = some oi) (hsel : ∀ (j : Nat) (o : Oper) cs b, ops[j]? = some o → o.op ≠ .select cs b) (hQ : ∀ c a w, Q (.panic c) (a.put oi.dst v) w → Q (.panic c) a w) (hwt : waitsB ops e i = true) :
    ∀ (fuel : Nat) (listed : Array Bool) (a : Act) (w : World), (∀ j oj, ops[j]? = some oj → j ≠ i → listed.getD j true = false → (∀ x ∈ oj.after, Region.binds .any x = true → x.on ≠ i) → oi.apart ops oj = true) →
      i ∈ Region.ready .any ops listed → YieldsIf P ops S oi v a → S w → wpAnyE P ops Q S e fuel (listed.setIfInBounds i true) (a.put oi.dst v) w → wpAnyE P ops Q S e (fuel + 1) listed a w := by
  intro fuel
  induction fuel with
  | zero =>
    intro listed a w _ hr hy hS H
    refine ⟨fun h => absurd hr (by simp [h]), fun j hj => ?_⟩
    by_cases hji : j = i
    · subst hji; exact hy.wpOp hi hS ⟨.inr hS, H⟩
    · exact absurd (ready_mono hj hji) (by simp [H.1])
  | succ fuel ih =>
    intro listed a w hfree hr hy hS H
    refine ⟨fun h => absurd hr (by simp [h]), fun j hj => ?_⟩
    by_cases hji : j = i
    · subst hji; exact hy.wpOp hi hS ⟨.inr hS, H⟩
    have hje : j ≠ e := fun h => waits_not hwt hr (h ▸ hj)
    have h1 := H.2 j (ready_mono hj hji)
    obtain ⟨hjun, oj, hoj, hall⟩ := mem_ready.1 hj
    have hnot : ∀ x ∈ oj.after, Region.binds .any x = true → x.on ≠ i := fun x hx hb heq => by
      have h2 := hall x hx hb
      have h3 := (mem_ready.1 hr).1
      rw [heq] at h2
      rcases Nat.lt_or_ge i listed.size with h' | h'
      · simp [h'] at h2 h3; rw [h3] at h2; cases h2
      · simp [Array.getElem?_eq_none h'] at h2
    have h2 := wpOp_putIf hoj (hfree j oj hoj hji hjun hnot) (fun cs b => hsel i oi cs b hi) (fun cs b => hsel j oj cs b hoj) hQ hy h1
    refine wpOp_mono (fun a' w' h3 => ?_) h2
    have hS' := h3.2.1.resolve_left hje
    refine ⟨.inr hS', ih (listed.setIfInBounds j true) a' w' (fun k ok hk hki hun hno => hfree k ok hk hki ?_ hno) (ready_mono hr (Ne.symm hji)) h3.1 hS' ?_⟩
    · by_cases hjk : j = k
      · subst hjk; exact hjun
      · rwa [getD_set_ne true hjk] at hun
    · rw [Array.setIfInBounds_comm _ _ hji]
      exact h3.2.2
/-- What an operation leads to asks of the region's end only what panics. -/
theorem wpOp_end {i : Nat} {K : Act → World → Prop} {a : Act} {w : World} (hQ : ∀ c a w, Q' (.panic c) a w → Q (.panic c) a w) (hL : LetsOut Q' → LetsOut Q) (h : wpOp P ops Q' i K a w) : wpOp P ops Q i K a w := by
  unfold Go.wpOp at *
  cases ho : ops[i]? with
  | none => rw [ho] at h; exact h
  | some o =>
    rw [ho] at h
    simp only at h ⊢
    by_cases hw : Region.wanted o (yielded ops a.tmps) = true
    · simp only [hw, if_true] at h ⊢
      rcases h with h | h
      · refine .inl ?_
        unfold Oper.wp at *
        cases hr : (execOp a.eval o).run P w with
        | ok n w' =>
          rw [hr] at h
          cases n <;> simp only [Oper.upon] at h ⊢ <;> try exact h
          case enter f args =>
            refine Calls.mono h fun x w'' hx => ?_
            cases x with
            | panicked c => exact hQ _ _ _ hx
            | outgrown => exact hL hx
            | returned v => exact hx
        | halt x w' =>
          rw [hr] at h
          cases x <;> simp only [Oper.upon] at h ⊢ <;> first | exact h | exact hQ _ _ _ h
      · exact .inr ⟨h.1, hL h.2⟩
    · simp only [hw] at h ⊢
      exact h
theorem Z6r {fr : List Nat} (hsel : Region.noSelect ops = true) (hQ : ∀ c a d v w, Q (.panic c) (Act.put a d v) w → Q (.panic c) a w) (hQ' : ∀ c a w, Q' (.panic c) a w → Q (.panic c) a w) (hL : LetsOut Q' → LetsOut Q) (hwt : ∀ i, memN fr i = true → waitsB ops e i = true) (he : memN fr e = false) (hN : ∀ a w, Q' .normal a w → Sq P ops Q [] (fun _ => True) [e] a w) : ∀ (is : List Nat) (listed : Array Bool) (a : Act) (w : World), okS ops fr listed (is ++ [e]) = true → S w → Sq P ops Q' fr S is a w → wpAnyE P ops Q S e (is.length + 1) listed a w
  | [], listed, a, w, h, _, hq => by
    simp only [List.nil_append, okS, he, Bool.and_eq_true, List.isEmpty_iff] at h
    have h1 : Region.ready .any ops listed = [e] := by simpa using h.1
    obtain ⟨o, ho, hq⟩ := hN a w hq
    refine ⟨fun h0 => absurd (h1 ▸ h0) (by simp), fun j hj => ?_⟩
    rw [h1] at hj
    obtain rfl : j = e := by simpa using hj
    exact wpOp_mono (fun a' w' hh => ⟨.inl rfl, h.2, hh.2⟩) hq
  | i :: is, listed, a, w, h, hS, ⟨o, ho, hq⟩ => by
    simp only [List.cons_append, okS, Bool.and_eq_true] at h
    obtain ⟨h, h2⟩ := h
    cases hm : memN fr i with
    | true =>
      rw [hm] at h hq
      simp only [Bool.and_eq_true] at h
      obtain ⟨v, hy, hq⟩ := hq
      exact Z5t ho (Region.noSelect_spec hsel) (fun c a w hp => hQ c a _ _ w hp) (hwt i hm) _ _ _ _ (Region.free_spec ho h.1) (by simpa using h.2) hy hS (Z6r hsel hQ hQ' hL hwt he hN is _ _ _ h2 hS hq)
    | false =>
      rw [hm] at h hq
      have h : Region.ready .any ops listed = [i] := by simpa using h
      refine ⟨fun h0 => absurd (h ▸ h0) (by simp), fun j hj => ?_⟩
      rw [h] at hj
      obtain rfl : j = i := by simpa using hj
      exact wpOp_mono (fun a' w' hh => ⟨.inr hh.1, Z6r hsel hQ hQ' hL hwt he hN is _ _ _ h2 hh.1 hh.2⟩) (wpOp_end hQ' hL hq)
end
/-! The order in which a region that draws is gone through. -/
def isEff (T : TbG) (op : Op) : Bool := match op with
  | .call ⟨.builtin .len, _, _⟩ => false
  | .call ⟨.builtin .min, _, _⟩ => false
  | .call ⟨.builtin .max, _, _⟩ => false
  | .call ⟨.builtin .cap, _, _⟩ => false
  | .call _ => true
  | .alloc _ => true
  | .box _ _ => true
  | .buildSlice _ _ _ => true
  | .insert _ _ _ _ => true
  | .store _ _ _ => true
  | .makeMap _ _ => true
  | .makeChan _ _ => true
  | .makeSlice _ _ _ => true
  | .mapUpdate _ _ _ _ => true
  | .mapEntry _ _ _ => true
  | .entryStore _ _ _ _ => true
  | .range _ _ => true
  | .next _ _ => true
  | .panic _ => true
  | .go _ => true
  | .defer _ => true
  | .convert s d _ => match nthT T s with
    | some (.sl _ _, _) => true
    | some _ => match nthT T d with
      | some (.sl _ _, _) => true
      | _ => false
    | none => true
  | _ => false
def hung (bl : List Nat) : List Edge → Bool
  | [] => false
  | ⟨j, _⟩ :: es => match memN bl j with
    | true => true
    | false => hung bl es
def pass (T : TbG) (X : List Nat) : List (Nat × Oper) → List Nat → Option (List Nat × List (Nat × Oper))
  | [], _ => some ([], [])
  | (i, o) :: l, bl => match o with
    | ⟨_, op, _, _, ⟨es⟩, _⟩ => match isEff T op || memN X i with
      | true => match pass T X l (i :: bl) with
        | some (tk, lf) => some (tk, (i, o) :: lf)
        | none => none
      | false => match hung bl es with
        | true => match pass T X l (i :: bl) with
          | some (tk, lf) => some (tk, (i, o) :: lf)
          | none => none
        | false => match pass T X l bl with
          | some (tk, lf) => some (i :: tk, lf)
          | none => none
def appK : List Nat → List Nat → Option (List Nat)
  | [], r => some r
  | x :: l, r => match appK l r with
    | some z => some (x :: z)
    | none => none
/-- The order, the free ones, whether there are others. -/
def plan (T : TbG) (X : List Nat) : Nat → List (Nat × Oper) → Option (List Nat × List Nat × Bool)
  | 0, _ => none
  | n + 1, l => match pass T X l [] with
    | some (tk, []) => some (tk, tk, false)
    | some (tk, (i, _) :: lf) => match plan T X n lf with
      | some (is, fr, _) => match appK tk (i :: is) with
        | some r => match appK tk fr with
          | some f => some (r, f, true)
          | none => none
        | none => none
      | none => none
    | none => none
/-- Of a hint .k: places of things; from 1000 on the numbers of loads that are gone through in order, among the effects. -/
def lowK : List Nat → List Nat
  | [] => []
  | j :: js => match Nat.ble 1000 j with
    | true => lowK js
    | false => j :: lowK js
def effJ : List Nat → List Nat
  | [] => []
  | j :: js => match Nat.ble 1000 j with
    | true => (j - 1000) :: effJ js
    | false => effJ js
def effK : List Ht → List Nat
  | .k js :: _ => effJ js
  | _ => []
def numO : Nat → List Oper → Option (List (Nat × Oper))
  | _, [] => some []
  | n, o :: l => match numO (n + 1) l with
    | some r => some ((n, o) :: r)
    | none => none
def idxs : Nat → List Oper → Option (List Nat)
  | _, [] => some []
  | n, _ :: l => match idxs (n + 1) l with
    | some r => some (n :: r)
    | none => none
theorem idxs_ok : ∀ (n : Nat) (l : List Oper) (r : List Nat), idxs n l = some r → r = List.range' n l.length
  | _, [], r, h => by simp [idxs] at h; subst h; rfl
  | n, o :: l, r, h => by
    simp only [idxs] at h
    cases h1 : idxs (n + 1) l with
    | none => rw [h1] at h; cases h
    | some r' =>
      rw [h1] at h
      cases h
      rw [idxs_ok (n + 1) l r' h1, List.length_cons, List.range'_succ]
def waitsA (ops : Array Oper) (e : Nat) : List Nat → Bool
  | [] => true
  | i :: is => waitsB ops e i && waitsA ops e is
def okE (ops : List Oper) (fr is : List Nat) (e : Nat) : Bool := okS ⟨ops⟩ fr (Array.replicate ops.length false) (is ++ [e]) && Nat.beq (is.length + 1) ops.length && Region.noSelect ⟨ops⟩ && waitsA ⟨ops⟩ e fr && !(memN fr e)
def cutL : List Nat → Option (List Nat × Nat)
  | [] => none
  | [e] => some ([], e)
  | i :: j :: is => match cutL (j :: is) with
    | some (r, e) => some (i :: r, e)
    | none => none
def okD (ops : List Oper) (fr is : List Nat) : Bool := okS ⟨ops⟩ fr (Array.replicate ops.length false) is && Nat.beq is.length ops.length && Region.noSelect ⟨ops⟩
/-! The machine. -/
inductive Kf where
  | th (c : Code)
  | bl (id : Nat)
  | sc
  | lp (K : Act → World → Prop)
  | st (ops : List Oper) (e : Nat)
inductive Pc where
  | c (c : Code)
  | s (ops : List Oper) (fr : List Nat) (LI : List Thing) (is : List Nat)
  | x (e : Exit)
def post (P : Program) (fn : Func) (R : Ending → World → Prop) : List Kf → Exit → Act → World → Prop
  | [] => bodyPost P fn R
  | .th c :: ks => Exit.then (c.wp P (post P fn R ks)) (post P fn R ks)
  | .bl id :: ks => Exit.inBlock id (post P fn R ks)
  | .sc :: ks => Exit.noGoto (post P fn R ks)
  | .lp K :: ks => Exit.then K (post P fn R ks)
  | .st ops e :: ks => fun x a w => match x with
    | .normal => Sq P ⟨ops⟩ (post P fn R ks) [] (fun w => Ths w []) [e] a w
    | x => post P fn R ks x a w
def At (P : Program) (fn : Func) (R : Ending → World → Prop) (ks : List Kf) : Pc → Act → World → Prop
  | .c c => c.wp P (post P fn R ks)
  | .s ops fr LI is => Sq P ⟨ops⟩ (post P fn R ks) fr (fun w => Ths w LI) is
  | .x e => post P fn R ks e
def Inv : Pc → World → Prop
  | .s _ _ LI _, w => Ths w LI
  | _, _ => True
/-- What is known at a place. -/
structure Hold (H : Nat) (A : World) (L : List Thing) (n : Nat) (m : Mp) (pc : Pc) (a : Act) (w : World) : Prop where
  O : OwnT H A L w
  k : Fr n a
  M : Al a m
  J : Inv pc w
structure St where
  pc : Pc
  ks : List Kf
  L : List Thing
  m : Mp
  hs : List Ht
  vc : List Prop
  kb : Bool
def pickT (L : List Thing) : List Nat → Option (List Thing)
  | [] => some []
  | i :: is => match nthT L i with
    | some t => match pickT L is with
      | some r => some (t :: r)
      | none => none
    | none => none
def gd (m : Mp) (ops : List Oper) (g : Option (Nat × Bool)) (hs : List Ht) (vc : List Prop) : Option (Bool × List Ht × List Prop) := match g with
  | none => some (true, hs, vc)
  | some (j, want) => match nthT ops j with
    | some ⟨some dj, _, _, _, _, _⟩ => match lookM m dj with
      | some (.bool q) => match hs with
        | .T :: hs => some (want, hs, (q = true) :: vc)
        | .F :: hs => match want with
          | true => some (false, hs, (q = false) :: vc)
          | false => some (true, hs, (q = false) :: vc)
        | hs => match q with
          | true => some (want, hs, vc)
          | false => match want with
            | true => some (false, hs, vc)
            | false => some (true, hs, vc)
      | some (.tuple ⟨[]⟩) => some (false, hs, vc)
      | _ => none
    | _ => none
/-- One operation, wanted. -/
def stOp (T : TbG) (n : Nat) (ops : List Oper) (fr : List Nat) (LI : List Thing) (i : Nat) (is : List Nat) (dst : Option Tmp) (op : Op) (ks : List Kf) (L : List Thing) (m : Mp) (hs : List Ht) (vc : List Prop) (kb : Bool) : Option St := match dst with
  | some d => match memN fr i with
    | true => match ex1 T m LI op hs vc with
      | some (v, hs, vc) => some ⟨.s ops fr LI is, ks, L, (d, v) :: m, hs, vc, Nat.blt d n && kb⟩
      | none => none
    | false => match ex1 T m L op hs vc with
      | some (v, hs, vc) => some ⟨.s ops fr LI is, ks, L, (d, v) :: m, hs, vc, Nat.blt d n && kb⟩
      | none => none
  | none => match memN fr i with
    | true => none
    | false => match LI with
      | [] => match op with
        | .store t x y => match opv m x with
          | some p => match opv m y with
            | some v => match exSt T L t p v hs vc with
              | some (L, hs, vc) => some ⟨.s ops fr [] is, ks, L, m, hs, vc, kb⟩
              | none => none
            | none => none
          | none => none
        | _ => none
      | _ => none
def stp (T : TbG) (n : Nat) (pc : Pc) (ks : List Kf) (L : List Thing) (m : Mp) (hs : List Ht) (vc : List Prop) (kb : Bool) : Option St := match pc with
  | .c c => match c with
    | .skip => some ⟨.x .normal, ks, L, m, hs, vc, kb⟩
    | .label _ => some ⟨.x .normal, ks, L, m, hs, vc, kb⟩
    | .ret => some ⟨.x .ret, ks, L, m, hs, vc, kb⟩
    | .exit id => some ⟨.x (.exit id), ks, L, m, hs, vc, kb⟩
    | .seq x y => some ⟨.c x, .th y :: ks, L, m, hs, vc, kb⟩
    | .block id x => some ⟨.c x, .bl id :: ks, L, m, hs, vc, kb⟩
    | .scope x => some ⟨.c x, .sc :: ks, L, m, hs, vc, kb⟩
    | .cond o x y => match opv m o with
      | some (.bool q) => match hs with
        | .T :: hs => some ⟨.c x, ks, L, m, hs, (q = true) :: vc, kb⟩
        | .F :: hs => some ⟨.c y, ks, L, m, hs, (q = false) :: vc, kb⟩
        | hs => match q with
          | true => some ⟨.c x, ks, L, m, hs, vc, kb⟩
          | false => some ⟨.c y, ks, L, m, hs, vc, kb⟩
      | _ => none
    | .region _ ⟨ops⟩ d => match d with
      | false => match idxs 0 ops with
        | some is => some ⟨.s ops [] [] is, ks, L, m, hs, vc, kb⟩
        | none => none
      | true => match numO 0 ops with
        | some l => match plan T (effK hs) 99 l with
          | some (is, fr, ef) => match ef with
            | false => some ⟨.s ops fr L is, ks, L, m, hs, vc, okD ops fr is && kb⟩
            | true => match hs with
              | .k js :: hs => match pickT L (lowK js) with
                | some LI => match memN js 2000 with
                  | true => match cutL is with
                    | some (is, e) => some ⟨.s ops fr LI is, .st ops e :: ks, L, m, hs, vc, okE ops fr is e && kb⟩
                    | none => none
                  | false => some ⟨.s ops fr LI is, ks, L, m, hs, vc, okD ops fr is && kb⟩
                | none => none
              | hs => some ⟨.s ops fr [] is, ks, L, m, hs, vc, okD ops fr is && kb⟩
          | none => none
        | none => none
    | _ => none
  | .x e => match ks with
    | [] => none
    | .th c :: ks => match e with
      | .normal => some ⟨.c c, ks, L, m, hs, vc, kb⟩
      | .exit id => some ⟨.x (.exit id), ks, L, m, hs, vc, kb⟩
      | .ret => some ⟨.x .ret, ks, L, m, hs, vc, kb⟩
      | _ => none
    | .bl id :: ks => match e with
      | .normal => some ⟨.x .normal, ks, L, m, hs, vc, kb⟩
      | .exit id' => match Nat.beq id' id with
        | true => some ⟨.x .normal, ks, L, m, hs, vc, kb⟩
        | false => some ⟨.x (.exit id'), ks, L, m, hs, vc, kb⟩
      | .ret => some ⟨.x .ret, ks, L, m, hs, vc, kb⟩
      | _ => none
    | .sc :: ks => match e with
      | .normal => some ⟨.x .normal, ks, L, m, hs, vc, kb⟩
      | .exit id => some ⟨.x (.exit id), ks, L, m, hs, vc, kb⟩
      | .ret => some ⟨.x .ret, ks, L, m, hs, vc, kb⟩
      | _ => none
    | .lp _ :: ks => match e with
      | .exit id => some ⟨.x (.exit id), ks, L, m, hs, vc, kb⟩
      | .ret => some ⟨.x .ret, ks, L, m, hs, vc, kb⟩
      | _ => none
    | .st ops i :: ks => match e with
      | .normal => some ⟨.s ops [] [] [i], ks, L, m, hs, vc, kb⟩
      | _ => none
  | .s ops fr LI is => match is with
    | [] => some ⟨.x .normal, ks, L, m, hs, vc, kb⟩
    | i :: is => match nthT ops i with
      | some ⟨dst, op, _, _, _, g⟩ => match gd m ops g hs vc with
        | some (true, hs, vc) => stOp T n ops fr LI i is dst op ks L m hs vc kb
        | some (false, hs, vc) => match dst with
          | some d => some ⟨.s ops fr LI is, ks, L, (d, .tuple ⟨[]⟩) :: m, hs, vc, Nat.blt d n && kb⟩
          | none => some ⟨.s ops fr LI is, ks, L, m, hs, vc, kb⟩
        | none => none
      | none => none
def run (T : TbG) (n : Nat) : Nat → Pc → List Kf → List Thing → Mp → List Ht → List Prop → Bool → Option St
  | 0, pc, ks, L, m, hs, vc, kb => some ⟨pc, ks, L, m, hs, vc, kb⟩
  | f + 1, pc, ks, L, m, hs, vc, kb => match stp T n pc ks L m hs vc kb with
    | some ⟨pc, ks, L, m, hs, vc, kb⟩ => run T n f pc ks L m hs vc kb
    | none => some ⟨pc, ks, L, m, hs, vc, kb⟩
end Go.Proofs.Ytbfgacmfjfbooaa
