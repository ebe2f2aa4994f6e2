/- Words for memory: a block known whole; only one block (and what is new) has turned. Plain lemmas over worlds, no program in sight. -/
import Derived.Test.YtoiifcmjmjkcaaaRows
import Derived.WalkKit
import Derived.WalkSpells
import Derived.WalkLawsBesides
import Derived.Lib.Hide
import Derived.Deep.QuietTactic
import Derived.BigQuiet
import Derived.Deep.DeepCutAuto
import Derived.Deep.LoopGhost
import Derived.Laws.IdiomStrings
import Derived.Laws.BytesArg
import Derived.Lib.FrozenHead2
namespace Go.Proofs.Ytoiifcmjmjkcaaa
set_option linter.unusedVariables false
set_option linter.unusedSimpArgs false
open Go.RowKit

/-- Block g is just the cells cs of type t, none frozen. -/
def Blk (w : World) (g : Nat) (t : TypeId) (cs : Array Value) : Prop := w.heap[g]? = some (.cells cs t (0, 0))

section
variable {w w' : World} {g : Nat} {t : TypeId} {cs : Array Value}
theorem Blk.lt (h : Blk w g t cs) : g < w.heap.size := by
  rcases Nat.lt_or_ge g w.heap.size with hlt | hge
  · exact hlt
  · unfold Blk at h; rw [Array.getElem?_eq_none hge] at h; cases h
theorem Blk.cell (h : Blk w g t cs) (i : Nat) : w.cell? ⟨g, i, none⟩ = cs[i]? := cell_of_row w g i cs t (0, 0) h
theorem Blk.frozen (h : Blk w g t cs) (i : Nat) : w.frozen? ⟨g, i, none⟩ = false := by
  unfold Blk at h
  simp [World.frozen?, h]
theorem Blk.new (w : World) (t : TypeId) (cs : Array Value) : Blk (w.alloc (.cells cs t)) w.heap.size t cs := heap_alloc_new w _
theorem blk_new {w : World} {t : TypeId} {cs : Array Value} {g : Nat} (hg : g = w.heap.size) : Blk (w.alloc (.cells cs t)) g t cs := by subst hg; exact Blk.new _ _ _
theorem Blk.drew (h : Blk w g t cs) : Blk w.drew g t cs := h
theorem Blk.drewN (h : Blk w g t cs) (n : Nat) : Blk (w.drewN n) g t cs := h
theorem Blk.alloc (h : Blk w g t cs) (o : Obj) : Blk (w.alloc o) g t cs := (Below.heap_alloc w o g h.lt).trans h
theorem Blk.set_ (h : Blk w g t cs) (i : Nat) (u : Value) : Blk (w.setCell ⟨g, i, none⟩ u) g t (cs.setIfInBounds i u) := by
  unfold Blk at h ⊢
  simp [World.setCell, Array.getElem?_modify, h]
theorem Blk.far (h : Blk w g t cs) {p : Addr} (hp : g ≠ p.block) (u : Value) : Blk (w.setCell p u) g t cs := (Below.heap_setCell w p u g hp).trans h
theorem Blk.below {B : Nat} (h : Blk w g t cs) (hb : Below B w w') (hg : g < B) : Blk w' g t cs := (hb.block g hg).trans h
theorem Blk.grown {row : Option Nat} (h : Blk w g t cs) (hb : w.grownBy w' row) (hg : some g ≠ row) : Blk w' g t cs := (hb.block g h.lt hg).trans h
end

/-- Behind a deed on block g: it holds cs; of what was there nothing else has turned. -/
structure Upd (w : World) (g : Nat) (t : TypeId) (cs : Array Value) (w' : World) : Prop where
  blk : Blk w' g t cs
  grown : w.grownBy w' (some g)

section
variable {a w w' : World} {g : Nat} {t : TypeId} {cs cs' : Array Value} {row : Option Nat}
theorem grown_trans' {a b c : World} {row : Option Nat} (h : a.grownBy b row) (k : b.grownBy c row) : a.grownBy c row :=
  ⟨k.os.trans h.os, k.tape.trans h.tape, k.output.trans h.output, Nat.le_trans h.size k.size, fun i hi hne => (k.block i (Nat.lt_of_lt_of_le hi h.size) hne).trans (h.block i hi hne)⟩
theorem only_drewN (h : a.grownBy w row) (n : Nat) : a.grownBy (w.drewN n) row := ⟨h.os, h.tape, h.output, h.size, h.block⟩
theorem only_drew (h : a.grownBy w row) : a.grownBy w.drew row := ⟨h.os, h.tape, h.output, h.size, h.block⟩
theorem only_alloc (h : a.grownBy w row) (o : Obj) : a.grownBy (w.alloc o) row :=
  ⟨h.os, h.tape, h.output, Nat.le_trans h.size (by simp), fun i hi hne => (Below.heap_alloc w o i (Nat.lt_of_lt_of_le hi h.size)).trans (h.block i hi hne)⟩
theorem only_setCell {g : Nat} (h : a.grownBy w (some g)) {p : Addr} (hp : p.block = g ∨ a.heap.size ≤ p.block) (u : Value) : a.grownBy (w.setCell p u) (some g) :=
  ⟨h.os, h.tape, h.output, by simpa [World.setCell] using h.size, fun i hi hne => (Below.heap_setCell w p u i (by
    rintro rfl
    rcases hp with hp | hp
    · exact hne (by rw [hp])
    · omega)).trans (h.block i hi hne)⟩
theorem only_of_below (h : Below a.heap.size a w) (row : Option Nat) : a.grownBy w row := ⟨h.os, h.tape, h.output, h.size, fun i hi _ => h.block i hi⟩

theorem grown_cell (h : w.grownBy w' row) {p : Addr} (hp : p.block < w.heap.size) (hne : some p.block ≠ row) : w'.cell? p = w.cell? p := World.cell?_of_block (h.block p.block hp hne)

theorem Upd.refl (h : Blk w g t cs) : Upd w g t cs w := ⟨h, World.grownBy.refl w _⟩
theorem Upd.set (h : Upd a g t cs w) (i : Nat) (u : Value) : Upd a g t (cs.setIfInBounds i u) (w.setCell ⟨g, i, none⟩ u) :=
  ⟨h.blk.set_ i u, only_setCell h.grown (.inl rfl) u⟩
theorem Upd.drew (h : Upd a g t cs w) : Upd a g t cs w.drew := ⟨h.blk, only_drew h.grown⟩
theorem Upd.trans {b : World} (h : Upd a g t cs b) (k : Upd b g t cs' w) : Upd a g t cs' w := ⟨k.blk, grown_trans' h.grown k.grown⟩
/-- The deed was on a block of the call's own. -/
theorem Upd.below {B : Nat} {A : World} (h : Upd w g t cs w') (hA : Below B A w) (hg : B ≤ g) (hB : B ≤ w.heap.size) : Below B A w' :=
  hA.grown h.grown hB (fun k e => by injection e with e; omega)
end

theorem quiet_add_left {P : Program} {f : FuncId} {args : Array Value} {w : World} {a n : Nat} {v : Value}
    (h : Calls P f args (w.drewN (a + n)) fun e w' => e = .returned v ∧ w.drewN (a + n) = w') :
    Calls P f args (w.drewN (a + n)) fun e w'' => e = .returned v ∧ ∃ m, w'' = w.drewN (a + m) :=
  h.mono fun _ _ ⟨he, hm⟩ => ⟨he, n, hm.symm⟩
theorem quiet_left {P : Program} {f : FuncId} {args : Array Value} {w : World} {n : Nat} {v : Value}
    (h : Calls P f args (w.drewN n) fun e w' => e = .returned v ∧ w.drewN n = w') : Calls P f args (w.drewN n) fun e w'' => e = .returned v ∧ ∃ m, w'' = w.drewN m :=
  h.mono fun _ _ ⟨he, hm⟩ => ⟨he, n, hm.symm⟩
theorem below_drewN {B : Nat} {a w : World} (h : Below B a w) (n : Nat) : Below B a (w.drewN n) := ⟨h.os, h.tape, h.output, h.size, h.block⟩

theorem below_set {B : Nat} {a w : World} {p : Addr} {u : Value} (hp : B ≤ p.block) (h : Below B a w) : Below B a (w.setCell p u) := h.setCell hp u
theorem below_new {B : Nat} {a w : World} {o : Obj} (hB : B ≤ w.heap.size) (h : Below B a w) : Below B a (w.alloc o) := h.alloc hB o
theorem bcell {W w1 : World} (hb : Below W.heap.size W w1) : (∀ b o, b < W.heap.size → w1.cell? ⟨b, o, none⟩ = W.cell? ⟨b, o, none⟩) ∧ (∀ b o, b < W.heap.size → w1.frozen? ⟨b, o, none⟩ = W.frozen? ⟨b, o, none⟩) :=
  ⟨fun b o h => hb.cell (p := ⟨b, o, none⟩) h, fun b o h => hb.frozen (p := ⟨b, o, none⟩) h⟩
theorem ret_v {a b : Value} (h : a = b) : Ending.returned a = .returned b := by rw [h]

theorem ret_int {k : IntKind} {a b : Int} (h : a = b) : Ending.returned (.int k a) = .returned (.int k b) := by rw [h]
theorem ret_bool {a b : Bool} (h : a = b) : Ending.returned (.bool a) = .returned (.bool b) := by rw [h]
end Go.Proofs.Ytoiifcmjmjkcaaa

/- Plain: bytes of numbers, the sum of bytes (CRC) as a linear, one-to-one step. No program in sight. -/
namespace Go.Proofs.Ytoiifcmjmjkcaaa
set_option linter.unusedVariables false
set_option linter.unusedSimpArgs false

/-- The lowest k bytes of n, the lowest first. -/
def le (n : Nat) : Nat → List UInt8
  | 0 => []
  | k + 1 => le n k ++ [UInt8.ofNat (n / 256 ^ k)]
theorem le_length (n k : Nat) : (le n k).length = k := by
  induction k with
  | zero => rfl
  | succ k ih => simp [le, ih]
theorem le_get (n k i : Nat) (h : i < k) : (le n k)[i]? = some (UInt8.ofNat (n / 256 ^ i)) := by
  induction k with
  | zero => omega
  | succ k ih =>
    simp only [le]
    by_cases hi : i < k
    · rw [List.getElem?_append_left (by rw [le_length]; exact hi)]
      exact ih hi
    · have : i = k := by omega
      subst this
      rw [List.getElem?_append_right (by rw [le_length]; omega), le_length]
      simp

/-- One bit. -/
def crcT (c : Nat) : Nat := if c % 2 = 1 then (c / 2) ^^^ 2197175160 else c / 2
def crcIt : Nat → Nat → Nat
  | 0, c => c
  | k + 1, c => crcT (crcIt k c)
/-- One byte. -/
def crcStep (c b : Nat) : Nat := crcIt 8 (c ^^^ b)
def crcState (c : Nat) (l : List UInt8) : Nat := l.foldl (fun c b => crcStep c b.toNat) c
def crcSum (l : List UInt8) : Nat := crcState 4294967295 l ^^^ 4294967295

theorem crcT_lt {c : Nat} (h : c < 4294967296) : crcT c < 4294967296 := by
  unfold crcT
  split
  · exact Nat.xor_lt_two_pow (n := 32) (by omega) (by decide)
  · omega
theorem crcIt_lt {c : Nat} (k : Nat) (h : c < 4294967296) : crcIt k c < 4294967296 := by
  induction k with
  | zero => exact h
  | succ k ih => exact crcT_lt ih
theorem crcStep_lt {c b : Nat} (h : c < 4294967296) (hb : b < 256) : crcStep c b < 4294967296 :=
  crcIt_lt 8 (Nat.xor_lt_two_pow (n := 32) h (by omega))
theorem crcState_lt {c : Nat} (l : List UInt8) (h : c < 4294967296) : crcState c l < 4294967296 := by
  induction l generalizing c with
  | nil => exact h
  | cons b l ih => exact ih (crcStep_lt h b.toNat_lt)
theorem crcSum_lt (l : List UInt8) : crcSum l < 4294967296 := Nat.xor_lt_two_pow (n := 32) (crcState_lt l (by decide)) (by decide)

theorem xor_half (a b : Nat) : (a ^^^ b) / 2 = a / 2 ^^^ b / 2 := by
  have := @Nat.shiftRight_xor_distrib 1 a b
  simpa [Nat.shiftRight_eq_div_pow] using this
theorem xor_par (a b : Nat) : (a ^^^ b) % 2 = (a % 2 + b % 2) % 2 := by
  have h : ∀ x : Nat, x % 2 = (x.testBit 0).toNat := by intro x; simp [Nat.testBit_zero]; rcases Nat.mod_two_eq_zero_or_one x with h | h <;> simp [h]
  rw [h, h a, h b, Nat.testBit_xor]
  cases a.testBit 0 <;> cases b.testBit 0 <;> rfl
theorem crcT_xor (a b : Nat) : crcT (a ^^^ b) = crcT a ^^^ crcT b := by
  unfold crcT
  rw [xor_par, xor_half]
  rcases Nat.mod_two_eq_zero_or_one a with ha | ha <;> rcases Nat.mod_two_eq_zero_or_one b with hb | hb <;> simp only [ha, hb]
  · simp
  · simp [Nat.xor_assoc]
  · simp only [Nat.reduceAdd, Nat.reduceMod, Nat.zero_ne_one, ↓reduceIte]
    rw [Nat.xor_assoc, Nat.xor_assoc, Nat.xor_comm (b / 2) 2197175160]
  · simp only [Nat.reduceAdd, Nat.reduceMod, Nat.zero_ne_one, ↓reduceIte]
    rw [Nat.xor_assoc (a / 2), ← Nat.xor_assoc 2197175160 (b / 2), Nat.xor_comm 2197175160, Nat.xor_assoc (b / 2), Nat.xor_self, Nat.xor_zero]
theorem crcIt_xor (k a b : Nat) : crcIt k (a ^^^ b) = crcIt k a ^^^ crcIt k b := by
  induction k with
  | zero => rfl
  | succ k ih => simp only [crcIt, ih, crcT_xor]
theorem crcT_zero {c : Nat} (h : c < 4294967296) (h0 : crcT c = 0) : c = 0 := by
  unfold crcT at h0
  split at h0
  · have : c / 2 = 2197175160 := by
      have e : c / 2 ^^^ 2197175160 ^^^ 2197175160 = 0 ^^^ 2197175160 := by rw [h0]
      simpa [Nat.xor_assoc] using e
    omega
  · omega
theorem crcIt_zero {c : Nat} (k : Nat) (h : c < 4294967296) (h0 : crcIt k c = 0) : c = 0 := by
  induction k with
  | zero => exact h0
  | succ k ih => exact ih (crcT_zero (crcIt_lt k h) h0)
theorem xor_eq_zero' {a b : Nat} (h : a ^^^ b = 0) : a = b := by
  have e : a ^^^ b ^^^ b = 0 ^^^ b := by rw [h]
  simpa [Nat.xor_assoc] using e
theorem crcIt_inj {a b : Nat} (k : Nat) (ha : a < 4294967296) (hb : b < 4294967296) (h : crcIt k a = crcIt k b) : a = b := by
  apply xor_eq_zero'
  refine crcIt_zero k (Nat.xor_lt_two_pow (n := 32) ha hb) ?_
  rw [crcIt_xor, h, Nat.xor_self]
theorem xor_right_inj' {a b c : Nat} (h : a ^^^ c = b ^^^ c) : a = b := by
  have e : a ^^^ c ^^^ c = b ^^^ c ^^^ c := by rw [h]
  simpa [Nat.xor_assoc] using e
theorem xor_left_inj' {a b c : Nat} (h : c ^^^ a = c ^^^ b) : a = b := by
  rw [Nat.xor_comm c, Nat.xor_comm c] at h
  exact xor_right_inj' h
theorem crcStep_inj {a c b : Nat} (ha : a < 4294967296) (hc : c < 4294967296) (hb : b < 256) (h : crcStep a b = crcStep c b) : a = c :=
  xor_right_inj' (crcIt_inj 8 (Nat.xor_lt_two_pow (n := 32) ha (by omega)) (Nat.xor_lt_two_pow (n := 32) hc (by omega)) h)
theorem crcState_inj {a c : Nat} (l : List UInt8) (ha : a < 4294967296) (hc : c < 4294967296) (h : crcState a l = crcState c l) : a = c := by
  induction l generalizing a c with
  | nil => exact h
  | cons b l ih => exact crcStep_inj ha hc b.toNat_lt (ih (crcStep_lt ha b.toNat_lt) (crcStep_lt hc b.toNat_lt) h)
theorem crcState_append (c : Nat) (a b : List UInt8) : crcState c (a ++ b) = crcState (crcState c a) b := by simp [crcState]
/-- Texts with the same beginning and end, and one byte between them. -/
theorem crcSum_parts (a b : List UInt8) (x y : UInt8) : crcSum (a ++ [x] ++ b) = crcSum (a ++ [y] ++ b) ↔ x = y := by
  constructor
  · intro h
    have h1 := xor_right_inj' h
    simp only [crcState_append] at h1
    have ha := crcState_lt a (c := 4294967295) (by decide)
    have h2 := crcState_inj b (crcState_lt [x] ha) (crcState_lt [y] ha) h1
    have h3 : crcStep (crcState 4294967295 a) x.toNat = crcStep (crcState 4294967295 a) y.toNat := h2
    have h4 := xor_left_inj' (crcIt_inj 8 (Nat.xor_lt_two_pow (n := 32) ha (by have := x.toNat_lt; omega)) (Nat.xor_lt_two_pow (n := 32) ha (by have := y.toNat_lt; omega)) h3)
    exact UInt8.toNat.inj h4
  · rintro rfl; rfl
end Go.Proofs.Ytoiifcmjmjkcaaa

/- Plain: what is turned within four bytes of a sealed text isn't opened. No program in sight. -/
namespace Go.Proofs.Ytoiifcmjmjkcaaa
set_option linter.unusedVariables false
set_option linter.unusedSimpArgs false

def xorL (a e : List UInt8) : List UInt8 := List.zipWith (· ^^^ ·) a e
theorem xorL_length (a e : List UInt8) (h : a.length = e.length) : (xorL a e).length = a.length := by simp [xorL, h]

theorem crcStep_xor (c d : Nat) (b f : Nat) : crcStep (c ^^^ d) (b ^^^ f) = crcStep c b ^^^ crcStep d f := by
  unfold crcStep
  rw [← crcIt_xor]
  congr 1
  rw [Nat.xor_assoc, Nat.xor_assoc, ← Nat.xor_assoc d, Nat.xor_comm d b, Nat.xor_assoc b]
theorem crcState_xor (c d : Nat) : ∀ (a e : List UInt8), a.length = e.length → crcState (c ^^^ d) (xorL a e) = crcState c a ^^^ crcState d e := by
  intro a
  induction a generalizing c d with
  | nil =>
    intro e h
    cases e with
    | nil => rfl
    | cons => simp at h
  | cons x a ih =>
    intro e h
    cases e with
    | nil => simp at h
    | cons y e =>
      simp only [xorL, List.zipWith_cons_cons, crcState, List.foldl_cons]
      rw [UInt8.toNat_xor, crcStep_xor]
      exact ih _ _ e (by simpa using h)

theorem crcIt_add (i j c : Nat) : crcIt (i + j) c = crcIt i (crcIt j c) := by
  induction i with
  | zero => simp [crcIt]
  | succ i ih => rw [Nat.add_right_comm]; simp only [crcIt, ih]
theorem crcIt_even (j y : Nat) : crcIt j (2 ^ j * y) = y := by
  induction j generalizing y with
  | zero => simp [crcIt]
  | succ j ih =>
    have e : 2 ^ (j + 1) * y = 2 ^ j * (2 * y) := by rw [Nat.pow_succ, Nat.mul_assoc]
    simp only [crcIt]
    rw [e, ih (2 * y)]
    unfold crcT
    rw [if_neg (by omega)]
    omega

/-- The number of bytes, by xor. -/
def num : List UInt8 → Nat
  | [] => 0
  | b :: l => b.toNat ^^^ (256 * num l)
theorem crcState_num (S : Nat) (l : List UInt8) : crcState S l = crcIt (8 * l.length) (S ^^^ num l) := by
  induction l generalizing S with
  | nil => simp [crcState, crcIt, num]
  | cons b l ih =>
    have h1 : crcState S (b :: l) = crcState (crcStep S b.toNat) l := rfl
    rw [h1, ih, List.length_cons, Nat.mul_add, crcIt_add]
    congr 1
    have h2 : num l = crcIt 8 (256 * num l) := (crcIt_even 8 (num l)).symm
    conv => lhs; rw [h2]
    simp only [num, crcStep]
    rw [← crcIt_xor, Nat.xor_assoc]
theorem num_lt (l : List UInt8) : num l < 256 ^ l.length := by
  induction l with
  | nil => simp [num]
  | cons b l ih =>
    have e : 256 ^ (l.length + 1) = 2 ^ (8 * (l.length + 1)) := by
      rw [show (256 : Nat) = 2 ^ 8 from rfl, ← Nat.pow_mul]
    have e' : 256 ^ (l.length + 1) = 256 * 256 ^ l.length := by rw [Nat.pow_succ, Nat.mul_comm]
    simp only [num, List.length_cons]
    rw [e]
    refine Nat.xor_lt_two_pow ?_ ?_
    · rw [← e, e']
      have := b.toNat_lt
      have : 0 < 256 ^ l.length := Nat.pow_pos (by decide)
      omega
    · rw [← e, e']
      omega
theorem num_zero {l : List UInt8} (h : num l = 0) : ∀ b ∈ l, b = 0 := by
  induction l with
  | nil => simp
  | cons b l ih =>
    simp only [num] at h
    have h1 := xor_eq_zero' h
    have := b.toNat_lt
    have hb : b.toNat = 0 := by omega
    have hl : num l = 0 := by omega
    intro x hx
    rcases List.mem_cons.1 hx with rfl | hx
    · exact UInt8.toNat.inj hb
    · exact ih hl x hx

theorem crcState_zeros (c n : Nat) : crcState c (List.replicate n 0) = crcIt (8 * n) c := by
  induction n generalizing c with
  | zero => rfl
  | succ n ih =>
    have h1 : crcState c (List.replicate (n + 1) 0) = crcState (crcStep c 0) (List.replicate n 0) := rfl
    rw [h1, ih, Nat.mul_add, crcIt_add]
    simp [crcStep]
theorem crcIt_0 (k : Nat) : crcIt k 0 = 0 := by
  induction k with
  | zero => rfl
  | succ k ih => simp [crcIt, ih, crcT]

/-- The turning: mask bytes from place k on. -/
def err (n k m : Nat) : List UInt8 := List.replicate k 0 ++ le m 4 ++ List.replicate (n - k) 0
theorem err_length (n k m : Nat) (h : k ≤ n) : (err n k m).length = n + 4 := by simp [err, le_length]; omega

theorem le_four (m : Nat) : le m 4 = [UInt8.ofNat m, UInt8.ofNat (m / 256), UInt8.ofNat (m / 65536), UInt8.ofNat (m / 16777216)] := by
  simp [le]

theorem err_zero {n k m : Nat} (hk : k ≤ n) (hm : m < 4294967296) (h : crcState 0 (err n k m) = 0) : m = 0 := by
  unfold err at h
  rw [crcState_append, crcState_append, crcState_zeros, crcState_zeros, crcIt_0, crcState_num] at h
  have hl := num_lt (le m 4)
  rw [le_length] at hl
  simp only [Nat.zero_xor] at h
  have h1 := crcIt_zero _ (crcIt_lt _ (by simpa using hl)) h
  have h2 := crcIt_zero _ (by simpa using hl) h1
  have h3 := num_zero h2
  rw [le_four] at h3
  have a0 := congrArg UInt8.toNat (h3 (UInt8.ofNat m) (by simp))
  have a1 := congrArg UInt8.toNat (h3 (UInt8.ofNat (m / 256)) (by simp))
  have a2 := congrArg UInt8.toNat (h3 (UInt8.ofNat (m / 65536)) (by simp))
  have a3 := congrArg UInt8.toNat (h3 (UInt8.ofNat (m / 16777216)) (by simp))
  simp only [UInt8.toNat_ofNat', UInt8.toNat_ofNat] at a0 a1 a2 a3
  omega

theorem ofNat_xor (a b : Nat) : UInt8.ofNat (a ^^^ b) = UInt8.ofNat a ^^^ UInt8.ofNat b := by
  apply UInt8.toNat.inj
  rw [UInt8.toNat_xor, UInt8.toNat_ofNat', UInt8.toNat_ofNat', UInt8.toNat_ofNat']
  exact Nat.xor_mod_two_pow (n := 8)
theorem le_xor (a b : Nat) : le (a ^^^ b) 4 = xorL (le a 4) (le b 4) := by
  have d : ∀ j, (a ^^^ b) / 2 ^ j = a / 2 ^ j ^^^ b / 2 ^ j := by
    intro j
    have := @Nat.shiftRight_xor_distrib j a b
    simpa [Nat.shiftRight_eq_div_pow] using this
  have d8 := d 8
  have d16 := d 16
  have d24 := d 24
  simp only [Nat.reducePow] at d8 d16 d24
  rw [le_four, le_four, le_four, d8, d16, d24]
  simp [xorL, ofNat_xor]
theorem le_inj {a b : Nat} (ha : a < 4294967296) (hb : b < 4294967296) (h : le a 4 = le b 4) : a = b := by
  rw [le_four, le_four] at h
  simp only [List.cons.injEq, and_true] at h
  obtain ⟨h0, h1, h2, h3⟩ := h
  have a0 := congrArg UInt8.toNat h0
  have a1 := congrArg UInt8.toNat h1
  have a2 := congrArg UInt8.toNat h2
  have a3 := congrArg UInt8.toNat h3
  simp only [UInt8.toNat_ofNat'] at a0 a1 a2 a3
  omega

theorem xorL_append (a b c d : List UInt8) (h : a.length = c.length) : xorL (a ++ b) (c ++ d) = xorL a c ++ xorL b d := by
  simp [xorL, List.zipWith_append h]

/-- Where the sum that stands there fits what stands ahead of it, the residue of the turning is nought. -/
theorem num_four (S : Nat) (l : List UInt8) (hl : l.length = 4) (hS : S < 4294967296) (h : le S 4 = l) : crcState S l = 0 := by
  rw [crcState_num, ← h]
  have hn : num (le S 4) = S := by
    rw [le_four]
    simp only [num, UInt8.toNat_ofNat', Nat.mul_zero, Nat.xor_zero]
    have x : ∀ b y : Nat, b < 256 → b ^^^ (256 * y) = b + 256 * y := by
      intro b y hb
      apply Nat.eq_of_testBit_eq
      intro i
      rw [Nat.testBit_xor]
      have e : b + 256 * y = 2 ^ 8 * y + b := by omega
      rw [e, Nat.testBit_two_pow_mul_add y hb, show (256 : Nat) = 2 ^ 8 from rfl, Nat.testBit_two_pow_mul]
      by_cases hi : i < 8
      · simp [hi, show ¬ 8 ≤ i by omega]
      · have : b.testBit i = false := Nat.testBit_lt_two_pow (Nat.lt_of_lt_of_le hb (show (256 : Nat) ≤ 2 ^ i from by
          have := Nat.pow_le_pow_right (show 0 < 2 by decide) (show 8 ≤ i by omega)
          simpa using this))
        simp [hi, this, show 8 ≤ i by omega]
    rw [x _ _ (by omega), x _ _ (by omega), x _ _ (by omega)]
    omega
  rw [hn, Nat.xor_self, crcIt_0]

/-- WHAT WAS TURNED WITHIN FOUR BYTES OF A SEALED TEXT ISN'T OPENED. -/
theorem turned_closed (s : List UInt8) (k m : Nat) (hk : k ≤ s.length) (hm : m < 4294967296) (h0 : m ≠ 0) :
    ¬ (let t := xorL (s ++ le (crcSum s) 4) (err s.length k m); t.take s.length ++ le (crcSum (t.take s.length)) 4 = t) := by
  intro h
  simp only at h
  apply h0
  have hel := err_length s.length k m hk
  obtain ⟨e1, e2, he, hl1⟩ : ∃ e1 e2, err s.length k m = e1 ++ e2 ∧ e1.length = s.length := ⟨(err s.length k m).take s.length, (err s.length k m).drop s.length, (List.take_append_drop _ _).symm, by rw [List.length_take, hel]; omega⟩
  have hl2 : e2.length = 4 := by
    have := congrArg List.length he
    rw [hel, List.length_append] at this
    omega
  rw [he, xorL_append _ _ _ _ hl1.symm] at h
  have ht : (xorL s e1 ++ xorL (le (crcSum s) 4) e2).take s.length = xorL s e1 := by
    rw [List.take_append_of_le_length (by rw [xorL_length _ _ hl1.symm]; omega), List.take_of_length_le (by rw [xorL_length _ _ hl1.symm]; omega)]
  rw [ht] at h
  have h2 := List.append_cancel_left h
  have h3 : crcSum (xorL s e1) = crcSum s ^^^ crcState 0 e1 := by
    have := crcState_xor 4294967295 0 s e1 hl1.symm
    rw [Nat.xor_zero] at this
    unfold crcSum
    rw [this, Nat.xor_assoc, Nat.xor_comm (crcState 0 e1), ← Nat.xor_assoc]
  rw [h3, le_xor] at h2
  have h4 : le (crcState 0 e1) 4 = e2 := by
    apply List.ext_getElem?
    intro i
    have := congrArg (fun l => l[i]?) h2
    simp only [xorL, List.getElem?_zipWith] at this
    by_cases hi : i < 4
    · have a1 : i < (le (crcSum s) 4).length := by rw [le_length]; exact hi
      have a2 : i < (le (crcState 0 e1) 4).length := by rw [le_length]; exact hi
      have a3 : i < e2.length := by omega
      rw [List.getElem?_eq_getElem a1, List.getElem?_eq_getElem a2, List.getElem?_eq_getElem a3] at this
      rw [List.getElem?_eq_getElem a2, List.getElem?_eq_getElem a3]
      simp only [Option.some.injEq] at this ⊢
      have x := congrArg ((le (crcSum s) 4)[i] ^^^ ·) this
      simpa [← UInt8.xor_assoc] using x
    · rw [List.getElem?_eq_none (by rw [le_length]; omega), List.getElem?_eq_none (by omega)]
  apply err_zero hk hm
  rw [he, crcState_append]
  exact num_four _ _ hl2 (crcState_lt e1 (by decide)) h4
end Go.Proofs.Ytoiifcmjmjkcaaa

/- '[]byte(s)' and 'string(b)': what the walk needs of them. -/
namespace Go.Proofs.Ytoiifcmjmjkcaaa
set_option linter.unusedVariables false
set_option linter.unusedSimpArgs false
open Go.RowKit

/-- '[]byte(s)': a new block of the bytes. -/
theorem conv_bytes (s : ByteArray) (w : World) (hs : s.size ≤ maxLen) : ∃ (C : Array Value) (c : Nat) (fz : Nat × Nat),
    (convert 9 22 (.string s)).run Try.prog w = .ok (.slice (some ⟨w.heap.size, 0, none⟩) s.size c) (w.drew.alloc (.cells C 5 fz)) ∧
    (∀ i, C[i]? = if i < s.size then some (.int .u8 ((s.data.toList.getD i 0).toNat : Int)) else if i < c then some (.int .u8 0) else none) ∧ s.size ≤ c ∧ c ≤ maxLen ∧ C.size = c ∧ fz = (c, c + 1) := by
  have hge := grownCap_ge w s.size 0 5
  have hle := grownCap_le_maxLen w s.size 0 5 hs
  have hsz : (bytesRow s (grownCap w s.size 0 5)).size = grownCap w s.size 0 5 := by
    simp only [bytesRow, Array.size_append, Array.size_map, Array.size_replicate]
    have : s.data.size = s.size := rfl
    omega
  refine ⟨_, _, _, run_bytes_of_string w 9 22 5 s Try.underlying9 Try.underlying22 Try.underlying5, fun i => ?_, hge, hle, hsz, by rw [hsz]⟩
  have hd : s.data.size = s.size := rfl
  by_cases hi : i < s.size
  · rw [if_pos hi, bytesRow_at s _ i (by omega)]
    congr 3
    simp [List.getD, Array.getElem?_toList, hd, hi]
  · rw [if_neg hi]
    by_cases hc : i < grownCap w s.size 0 5
    · rw [if_pos hc]
      simp only [bytesRow]
      rw [Array.getElem?_append_right (by simp only [Array.size_map]; omega), Array.getElem?_replicate, if_pos (by simp only [Array.size_map]; omega)]
    · rw [if_neg hc]
      exact Array.getElem?_eq_none (by omega)

/-- 'string(b)': of a row whose cells are the bytes l. -/
theorem conv_string (w : World) (g off cap : Nat) (l : List UInt8) (n : Nat) (hn : l.length = n) (h : ∀ i, i < n → w.cell? ⟨g, off + i, none⟩ = some (.int .u8 ((l.getD i 0).toNat : Int))) :
    (convert 22 9 (.slice (some ⟨g, off, none⟩) n cap)).run Try.prog w = .ok (.string ⟨l.toArray⟩) w := by
  have hr := run_convert_bytes_arg (P := Try.prog) w 22 5 Try.underlying22 Try.underlying5 g off n cap (l.map fun b => (b.toNat : Int)) (by simpa using hn) (fun i hi => by
    have hil : i < l.length := by omega
    rw [h i hi]
    simp [List.getD, hil]) 9 Try.underlying9
  have hst : strOfNums (l.map fun b => (b.toNat : Int)) = ⟨l.toArray⟩ := by
    simp [strOfNums, List.map_map, Function.comp_def]
  rw [hr, hst]
end Go.Proofs.Ytoiifcmjmjkcaaa

/- append onto a row of the call's own whose head may be frozen: as the library's laws (Lib/FrozenHead, FrozenHead2), and besides: the new row is the old one or a new block. No program in sight. -/
namespace Go.Proofs.Ytoiifcmjmjkcaaa
set_option linter.unusedVariables false
set_option linter.unusedSimpArgs false
open Go Go.RowKit Go.Lib

theorem ownsF_mono {w : World} {base base' : Nat} {e : TypeId} {size : Nat} {v : Value} {n : Nat} {xs : List Value} (h : w.ownsRowF base e size v n xs) (hb : base' ≤ base) : w.ownsRowF base' e size v n xs := by
  refine ⟨h.1, ?_⟩
  rcases h.2 with hn | ⟨g, cap, cur, fz, hv, hg, rest⟩
  · exact .inl hn
  · exact .inr ⟨g, cap, cur, fz, hv, Nat.le_trans hb hg, rest⟩
theorem ownsF_fresh {w w' : World} {e : TypeId} {size : Nat} {v : Value} {n : Nat} {xs : List Value} (h : w'.ownsRowF w.heap.size e size v n xs) : v.ownBlock = (Value.slice none 0 0).ownBlock ∨ ∃ k, v.ownBlock = some k ∧ w.heap.size ≤ k := by
  rcases h.2 with ⟨rfl, _⟩ | ⟨g, cap, cur, fz, rfl, hg, _⟩
  · exact .inl rfl
  · exact .inr ⟨g, rfl, hg⟩

section
variable {P : Program} (w : World)

theorem buf_append_string (base : Nat) (t u ty e : TypeId) (i : TypeInfo) (ht : P.underlying t = some (.slice e)) (hu : P.underlying u = some .string) (hi : P.info? e = some i) (hz : i.zero = some (.int .u8 0))
    (hsize : i.size = 1) (hby : i.bytes = 1)
    (v : Value) (n : Nat) (xs : List Value) (hown : w.ownsRowF base e 1 v n xs) (s : ByteArray)
    (h63 : n + s.size ≤ maxLen) (hbytes : n + s.size ≤ 140737488355328) (hbase : base ≤ w.heap.size) :
    ∃ v' w', (Builtin.append_ #[t, u] ty #[v, .string s]).run P w = .ok v' w' ∧ w'.ownsRowF base e 1 v' (n + s.size) (xs ++ strCells s) ∧ w.grownBy w' v.ownBlock ∧
      (v'.ownBlock = v.ownBlock ∨ ∃ k, v'.ownBlock = some k ∧ w.heap.size ≤ k) := by
  rcases hown.2 with ⟨rfl, rfl⟩ | ⟨g, cap, cur, fz, rfl, hbg, hg, hfz, hnc, hcm, hcs, htake⟩
  · -- no row yet: the elder law
    obtain ⟨v', w', h1, h2, h3, h4⟩ := run_append_own_string (P := P) w w.heap.size t u ty e i ht hu hi hz hsize hby (.slice none 0 0) 0 xs ⟨hown.1, .inl ⟨rfl, rfl⟩⟩ s h63 hbytes (Nat.le_refl _)
    exact ⟨v', w', h1, ownsF_mono (World.ownsRowF_of h2) hbase, h3, ownsF_fresh (World.ownsRowF_of h2)⟩
  · have hsmall : n + s.size ≤ 9223372036854775807 := by simp only [maxLen] at h63; omega
    have hxl : xs.length = n := by simpa using hown.1
    have hlen : (xs ++ strCells s).length = (n + s.size) * 1 := by rw [List.length_append, hxl, strCells_length, Nat.mul_one]
    by_cases hroom : n + s.size ≤ cap
    · have hcs' : cur.size = cap := by simpa using hcs
      have hr := run_append_room_stringF (P := P) w t u ty e i ht hu hi hsize g n cap cur fz hg (by simpa using hfz) s hroom (by omega)
      refine ⟨_, _, hr, ⟨hlen, .inr ⟨g, cap, _, fz, rfl, hbg, setRow_heap w g cur _ e _ hg, by omega, hroom, hcm, ?_, ?_⟩⟩, ⟨rfl, rfl, rfl, by simp, fun k _ hk => setRow_other w g k _ (fun e => hk (by simp [Value.ownBlock, e]))⟩, .inl rfl⟩
      · simp only [List.size_toArray, List.length_append, List.length_take, List.length_drop, Array.length_toList, strCells_length]
        omega
      · have ht' : cur.toList.take n = xs := by simpa using htake
        rw [ht', ← hlen]
        exact List.take_left
    · have holds : ∀ j u, xs[j]? = some u → w.cell? ((⟨g, 0, none⟩ : Addr).add j) = some u := hown.cells (g := g) rfl
      have hr := run_append_grow_string (P := P) w t u ty e i (.int .u8 0) ht hu hi hz ⟨g, 0, none⟩ n cap xs (by rw [hsize]; simpa using hxl) holds s (by omega) (by omega) (by rw [hby]; exact growslice_fits (by omega) (by omega))
      have hge := grownCap_ge w (n + s.size) cap e
      have hcm2 : grownCap w (n + s.size) cap e ≤ maxLen := grownCap_le_maxLen w (n + s.size) cap e h63
      refine ⟨_, _, hr, ⟨hlen, .inr ⟨w.heap.size, _, _, (0, 0), rfl, hbase, _root_.Go.heap_alloc_new w.drew _, Nat.zero_le _, hge, hcm2, ?_, ?_⟩⟩, ⟨rfl, rfl, rfl, by simp, fun k hk _ => _root_.Go.heap_alloc_old w.drew _ hk⟩, .inr ⟨_, rfl, Nat.le_refl _⟩⟩
      · have hz1 : (Value.int IntKind.u8 0).cells.size = 1 := rfl
        simp only [Array.size_append, List.size_toArray, size_zeroCells, hz1, hxl, strCells_length]
        omega
      · simp only [Array.toList_append, List.append_assoc]
        rw [← List.append_assoc, ← hlen]
        exact List.take_left

theorem wp_buf_string {ops : Array Oper} {rest : List Oper} {o : Oper} {a : Act} {Q : Exit → Act → World → Prop} (hgd : o.guard = none) (sl x : Operand) (t u : TypeId)
    (ho : o.op = .call { callee := .builtin .append, args := #[sl, x], argTypes := #[t, u] })
    (base : Nat) (e : TypeId) (i : TypeInfo) (ht : P.underlying t = some (.slice e)) (hu : P.underlying u = some .string) (hi : P.info? e = some i) (hz : i.zero = some (.int .u8 0))
    (hsize : i.size = 1) (hby : i.bytes = 1)
    (v : Value) (n : Nat) (xs : List Value) (hs : a.eval sl = v) (hown : w.ownsRowF base e 1 v n xs) (s : ByteArray) (hx : a.eval x = .string s)
    (h63 : n + s.size ≤ maxLen) (hbytes : n + s.size ≤ 140737488355328) (hbase : base ≤ w.heap.size)
    (h : ∀ v' w', w'.ownsRowF base e 1 v' (n + s.size) (xs ++ strCells s) → w.grownBy w' v.ownBlock → (v'.ownBlock = v.ownBlock ∨ ∃ k, v'.ownBlock = some k ∧ w.heap.size ≤ k) → wpList P ops Q rest (a.put o.dst v') w') : wpList P ops Q (o :: rest) a w := by
  refine wpList_plain hgd fun K hK => ?_
  obtain ⟨v', w', hr, h2, h3, h4⟩ := buf_append_string (P := P) w base t u o.type e i ht hu hi hz hsize hby v n xs hown s h63 hbytes hbase
  unfold Oper.wp execOp
  simp only [ho, resolve, invoke, builtin, Sem.run_bind, Sem.run_pure, Result.andThen_ok, List.map_toArray, List.map_cons, List.map_nil, hs, hx, hr]
  exact hK _ _ (h v' w' h2 h3 h4)


theorem buf_append_cells (base : Nat) (t ty e : TypeId) (i : TypeInfo) (z : Value) (size bytes : Nat) (ht : P.underlying t = some (.slice e)) (hi : P.info? e = some i) (hz : i.zero = some z)
    (hsize : i.size = size) (hby : i.bytes = bytes) (hzs : z.cells.size = size) (hsz : 0 < size)
    (v : Value) (n : Nat) (xs : List Value) (hown : w.ownsRowF base e size v n xs)
    (a : Addr) (m c : Nat) (news : List Value) (hl : news.length = m * size) (hnews : ∀ j u, news[j]? = some u → w.cell? (a.add j) = some u) (h1 : ∀ u ∈ news, u.oneCell' = true)
    (h63 : n + m ≤ maxLen) (hbytes : (n + m) * bytes ≤ 140737488355328) (hbase : base ≤ w.heap.size) :
    ∃ v' w', (Builtin.append_ #[t, t] ty #[v, .slice (some a) m c]).run P w = .ok v' w' ∧ w'.ownsRowF base e size v' (n + m) (xs ++ news) ∧ w.grownBy w' v.ownBlock ∧
      (v'.ownBlock = v.ownBlock ∨ ∃ k, v'.ownBlock = some k ∧ w.heap.size ≤ k) := by
  rcases hown.2 with ⟨rfl, rfl⟩ | ⟨g, cap, cur, fz, rfl, hbg, hg, hfz, hnc, hcm, hcs, htake⟩
  · obtain ⟨v', w', r1, r2, r3, r4⟩ := run_append_own (P := P) w w.heap.size t ty e i z size bytes ht hi hz hsize hby hzs hsz (.slice none 0 0) 0 xs ⟨hown.1, .inl ⟨rfl, rfl⟩⟩ a m c news hl hnews h1 h63 hbytes (Nat.le_refl _)
    exact ⟨v', w', r1, ownsF_mono (World.ownsRowF_of r2) hbase, r3, ownsF_fresh (World.ownsRowF_of r2)⟩
  · subst hsize
    subst hby
    have hsmall : n + m ≤ 9223372036854775807 := by simp only [maxLen] at h63; omega
    have hlen : (xs ++ news).length = (n + m) * i.size := by rw [List.length_append, hown.1, hl, Nat.add_mul]
    by_cases hroom : n + m ≤ cap
    · have hfit : n * i.size + news.length ≤ cur.size := by rw [hl, hcs, ← Nat.add_mul]; exact Nat.mul_le_mul_right _ hroom
      have hr := run_append_roomF (P := P) w t ty e i ht hi g n cap cur fz hg hfz a m c news hl hnews h1 hroom hfit
      refine ⟨_, _, hr, ⟨hlen, .inr ⟨g, cap, _, fz, rfl, hbg, setRow_heap w g cur _ e _ hg, Nat.le_trans hfz (Nat.mul_le_mul_right _ (Nat.le_add_right n m)), hroom, hcm, ?_, ?_⟩⟩, ⟨rfl, rfl, rfl, by simp, fun k _ hk => setRow_other w g k _ (fun e => hk (by simp [Value.ownBlock, e]))⟩, .inl rfl⟩
      · simp only [List.size_toArray, List.length_append, List.length_take, List.length_drop, Array.length_toList]
        omega
      · rw [htake, ← hlen]
        exact List.take_left
    · have holds : ∀ j u, xs[j]? = some u → w.cell? ((⟨g, 0, none⟩ : Addr).add j) = some u := hown.cells (g := g) rfl
      have hr := run_append_grow (P := P) w t ty e i z ht hi hz ⟨g, 0, none⟩ n cap xs hown.1 holds a m c news hl hnews (by omega) (by omega) (growslice_fits (by omega) hbytes)
      have hge := grownCap_ge w (n + m) cap e
      have hcm2 : grownCap w (n + m) cap e ≤ maxLen := grownCap_le_maxLen w (n + m) cap e h63
      refine ⟨_, _, hr, ⟨hlen, .inr ⟨w.heap.size, _, _, (0, 0), rfl, hbase, _root_.Go.heap_alloc_new w.drew _, Nat.zero_le _, hge, hcm2, ?_, ?_⟩⟩, ⟨rfl, rfl, rfl, by simp, fun k hk _ => _root_.Go.heap_alloc_old w.drew _ hk⟩, .inr ⟨_, rfl, Nat.le_refl _⟩⟩
      · simp only [Array.size_append, List.size_toArray, size_zeroCells, hzs, hown.1, hl, ← Nat.add_mul]
        congr 1
        omega
      · simp only [Array.toList_append, List.append_assoc]
        rw [← List.append_assoc, ← hlen]
        exact List.take_left

theorem wp_buf_cells {ops : Array Oper} {rest : List Oper} {o : Oper} {a : Act} {Q : Exit → Act → World → Prop} (hgd : o.guard = none) (s x : Operand) (t : TypeId)
    (ho : o.op = .call { callee := .builtin .append, args := #[s, x], argTypes := #[t, t] })
    (base : Nat) (e : TypeId) (i : TypeInfo) (z : Value) (size bytes : Nat) (ht : P.underlying t = some (.slice e)) (hi : P.info? e = some i) (hz : i.zero = some z)
    (hsize : i.size = size) (hby : i.bytes = bytes) (hzs : z.cells.size = size) (hsz : 0 < size)
    (v : Value) (n : Nat) (xs : List Value) (hs : a.eval s = v) (hown : w.ownsRowF base e size v n xs)
    (ad : Addr) (m c : Nat) (news : List Value) (hx : a.eval x = .slice (some ad) m c) (hl : news.length = m * size) (hnews : ∀ j u, news[j]? = some u → w.cell? (ad.add j) = some u) (h1 : ∀ u ∈ news, u.oneCell' = true)
    (h63 : n + m ≤ maxLen) (hbytes : (n + m) * bytes ≤ 140737488355328) (hbase : base ≤ w.heap.size)
    (h : ∀ v' w', w'.ownsRowF base e size v' (n + m) (xs ++ news) → w.grownBy w' v.ownBlock → (v'.ownBlock = v.ownBlock ∨ ∃ k, v'.ownBlock = some k ∧ w.heap.size ≤ k) → wpList P ops Q rest (a.put o.dst v') w') : wpList P ops Q (o :: rest) a w := by
  refine wpList_plain hgd fun K hK => ?_
  obtain ⟨v', w', hr, h2, h3, h4⟩ := buf_append_cells (P := P) w base t o.type e i z size bytes ht hi hz hsize hby hzs hsz v n xs hown ad m c news hl hnews h1 h63 hbytes hbase
  unfold Oper.wp execOp
  simp only [ho, resolve, invoke, builtin, Sem.run_bind, Sem.run_pure, Result.andThen_ok, List.map_toArray, List.map_cons, List.map_nil, hs, hx, hr]
  exact hK _ _ (h v' w' h2 h3 h4)
end
end Go.Proofs.Ytoiifcmjmjkcaaa
