/- disc's law: numbers turned, texts of sectors, slices of slices; writes as the law sees them. -/
import Derived.Test.YtdpohbaeopidmaaKDiscExact19
namespace Go.Proofs.Ytdpohbaeopidmaa
set_option linter.unusedVariables false
set_option linter.unusedSimpArgs false
open Go.RowKit Go.Maps

/-- 'uint(N)'. -/
def uN (N : Int) : Nat := (IntKind.u64.wrap N).toNat
theorem conv_uint (N : Int) (w : World) : (convert 3 86 (.int .i64 N)).run Try.prog w = .ok (.int .u64 ((uN N : Nat) : Int)) w := by
  have h : ((uN N : Nat) : Int) = IntKind.u64.wrap N := by
    unfold uN
    have : 0 ≤ IntKind.u64.wrap N := by
      show 0 ≤ N % 18446744073709551616
      omega
    omega
  rw [h]
  simp [convert, run_underlying Try.underlying3, run_underlying Try.underlying86, Conv.intToInt]
theorem conv_int (m : Nat) (w : World) (h : m ≤ 1000000) : (convert 86 3 (.int .u64 ((m : Nat) : Int))).run Try.prog w = .ok (.int .i64 ((m : Nat) : Int)) w := by
  simp [convert, run_underlying Try.underlying3, run_underlying Try.underlying86, Conv.intToInt, IntWalk.i64_in _ (show -9223372036854775808 ≤ (m : Int) ∧ (m : Int) ≤ 9223372036854775807 by omega)]
theorem conv_u8 (m : Nat) (w : World) (h : m ≤ 255) : (convert 3 5 (.int .i64 ((m : Nat) : Int))).run Try.prog w = .ok (.int .u8 ((m : Nat) : Int)) w := by
  have e : IntKind.u8.wrap (m : Int) = m := by
    show (m : Int) % 256 = m
    omega
  simp [convert, run_underlying Try.underlying3, run_underlying Try.underlying5, Conv.intToInt, e]
section
variable {w : World} {o : Oper} {ρ : Operand → Value} {t u : TypeId} {x y : Operand}
theorem x_remU {m j : Nat} {k : Int} (ho : o.op = .binOp .rem t x y u) (hx : ρ x = .int .u64 (m : Nat)) (hy : ρ y = .int .u64 k) (hk : k = (j : Nat)) (hj : 0 < j) : (execOp ρ o).run Try.prog w = .ok (.value (.int .u64 ((m % j : Nat) : Int))) w := by
  subst hk
  refine x_bin ho hx hy ?_
  have h0 : ¬ ((j : Int) = 0) := by omega
  have h2 : (m : Int).tmod (j : Int) = ((m % j : Nat) : Int) := rfl
  simp only [binOp, Op.intDiv, if_neg h0, h2]
  rfl
theorem x_add8 {b : UInt8} {i : Nat} (ho : o.op = .binOp .add t x y u) (hx : ρ x = .int .u8 (b.toNat : Int)) (hy : ρ y = .int .u8 (i : Nat)) (hi : i ≤ 255) : (execOp ρ o).run Try.prog w = .ok (.value (.int .u8 ((b + UInt8.ofNat i).toNat : Int))) w := by
  have e : IntKind.u8.wrap ((b.toNat : Int) + (i : Int)) = ((b + UInt8.ofNat i).toNat : Int) := by
    rw [UInt8.toNat_add, UInt8.toNat_ofNat']
    show ((b.toNat : Int) + (i : Int)) % 256 = _
    omega
  refine x_bin ho hx hy ?_
  rw [← e]
  simp [binOp, Op.intArith]
end
/-- The text of a write: so many sectors of a byte and its followers. -/
def wT (b : UInt8) : Nat → List UInt8
  | 0 => []
  | j + 1 => wT b j ++ secB (b + UInt8.ofNat j)
theorem wT_len (b : UInt8) (j : Nat) : (wT b j).length = 16 * j := by
  induction j with
  | zero => rfl
  | succ j ih => rw [wT, List.length_append, ih, List.length_replicate]; omega
theorem wT_sec (b : UInt8) {m j : Nat} (h : j < m) : secOf (wT b m) j = secB (b + UInt8.ofNat j) := by
  induction m with
  | zero => omega
  | succ m ih =>
    unfold secOf
    rw [wT]
    by_cases e : j = m
    · subst e
      rw [List.drop_append_of_le_length (by rw [wT_len]; omega), List.drop_of_length_le (by rw [wT_len]; omega), List.nil_append, List.take_of_length_le (by simp)]
    · rw [List.drop_append_of_le_length (by rw [wT_len]; omega), List.take_append_of_le_length (by rw [List.length_drop, wT_len]; omega)]
      exact ih (by omega)
theorem wr_step {b : UInt8} {m x i : Nat} (h : i < m) (L : Int → Option Sec) : wrS (wT b m) x L (i + 1) = putS (wrS (wT b m) x L i) ((x + i : Nat) : Int) (secB (b + UInt8.ofNat i)) := by
  show putS _ _ _ = _
  rw [wT_sec b h]
  congr 1
section
variable {M : Mn} {H : Nat} {A0 : World} {R : List Thing} {p mb n cap bm : Nat} {B : Option Addr} {S : List Sec} {L : Int → Option Sec} {c : Int}
theorem useN_uses : ∀ j, (∀ i, i < j → (M.useN i).up = true) → (M.useN j).uses = M.uses + j
  | 0, _ => by show M.uses = _; omega
  | j + 1, h => by
    show (M.useN j).use.uses = _
    have hu := h j (by omega)
    unfold Mn.use
    rw [hu]
    show (M.useN j).uses + 1 = _
    rw [useN_uses j (fun i hi => h i (by omega))]
    omega
theorem use_dn (h : M.up = false) : M.use.uses = M.uses ∧ M.use.away = true := by
  unfold Mn.use
  rw [h]
  exact ⟨rfl, rfl⟩
theorem dwrite_k (m : Nat) (x : Int) (l : List UInt8) (w : World) (O : OwnT H A0 (tDisc p mb B n cap bm S L :: tMn mb M :: R) w) (hl : l.length = 16 * m) (hm : m ≤ 100000) (hf : fitsB n x (m : Int) = true) (hM : M.Ok c) (hc : c ≤ 100000000) :
    Calls Try.prog 36 #[.pointer (some ⟨p, 0, none⟩), .int .i64 x, .string (sB l)] w fun e w' => ∃ (j : Nat) (M' : Mn), e = .returned (.int .i64 (if j = m then 0 else 4)) ∧ j ≤ m ∧ M'.uses = M.uses + j ∧ (j < m → M'.away = true) ∧ M'.Ok (c + (m + 1 : Nat)) ∧ OwnT H A0 (tDisc p mb B n cap bm S (wrS l x L j) :: tMn mb M' :: R) w' := by
  have e1 : l.length / 16 = m := by omega
  have h := dwrite_go x l w O (by omega) (by omega) (by rw [e1]; exact hf) hM (by omega)
  rw [e1] at h
  refine h.mono ?_
  rintro e w' ⟨j, hj, hup, ⟨rfl, he, hO⟩ | ⟨hlt, hu, he, hO⟩⟩
  · exact ⟨j, _, by rw [if_pos rfl]; exact he, Nat.le_refl _, useN_uses j hup, fun h => absurd h (Nat.lt_irrefl _), (hM.useN j).mono (by omega), hO⟩
  · refine ⟨j, _, by rw [if_neg (by omega)]; exact he, hj, ?_, fun _ => (use_dn hu).2, (hM.useN (j + 1)).mono (by omega), hO⟩
    show (M.useN j).use.uses = _
    rw [(use_dn hu).1, useN_uses j hup]
end
theorem Strs.ext {w w' : World} {A : Option Addr} {xs : List Sec} (h : Strs w A xs) (hE : Ext w w') : Strs w' A xs := by
  intro i s hi
  obtain ⟨b, o, h1, h2⟩ := h i s hi
  exact ⟨b, o, h1, cellB hE h2⟩
theorem x_sliceg {w : World} {o : Oper} {ρ : Operand → Value} {t : TypeId} {x lo hi : Operand} {v vl vh r : Value} (ho : o.op = .slice t x (some lo) (some hi) none) (hx : ρ x = v) (hl : ρ lo = vl) (hh : ρ hi = vh) (h : (Instr.sliceAt t v (some vl) (some vh) none).run Try.prog w = .ok r w) : (execOp ρ o).run Try.prog w = .ok (.value r) w := by
  unfold execOp
  simp only [ho, Option.map_some, Option.map_none, hx, hl, hh]
  simp [h]
/-- A slice of a row of strings. -/
theorem slice_strs {w : World} {B : Option Addr} {n cap a y : Nat} {xs : List Sec} (h : w.ownsRow 0 9 1 (.slice B n cap) n (strsV xs)) (hn : n ≤ cap) (ha : a + y ≤ n) :
    ∃ A', (∀ W, (Instr.sliceAt 77 (.slice B n cap) (some (.int .i64 ((a : Nat) : Int))) (some (.int .i64 ((a + y : Nat) : Int))) none).run Try.prog W = .ok (.slice A' y (cap - a)) W) ∧ Strs w A' ((xs.drop a).take y) := by
  have h1 : (0 ≤ ((a + y : Nat) : Int) ∧ ((a + y : Nat) : Int) ≤ (cap : Int)) := by omega
  have h2 : (0 ≤ ((a : Nat) : Int) ∧ ((a : Nat) : Int) ≤ ((a + y : Nat) : Int)) := by omega
  have hs : (sizeOf 9).run Try.prog = fun W => .ok 1 W := by
    funext W
    obtain ⟨i, z, hi, hz, hsz, hby, hzs⟩ := elemS.info
    simp [sizeOf, typeInfo, hi, hsz]
  refine ⟨if cap = a then B else B.map (·.add a), fun W => ?_, ?_⟩
  · have hs' := congrFun hs W
    simp only [Instr.sliceAt, Instr.slice, Instr.sliceBounds, Instr.sliceBound, run_underlying Try.underlying77, asIntOf, Sem.run_bind, Sem.run_pure, Result.andThen_ok, Int.toNat_natCast, if_pos h1, if_pos h2, hs', Option.isSome_none, Bool.false_eq_true, if_false, Nat.mul_one, Nat.add_sub_cancel_left]
  · intro i s hi
    have hlt : i < y := by
      have := (List.getElem?_eq_some_iff.1 hi).1
      rw [List.length_take] at this
      omega
    rw [List.getElem?_take_of_lt hlt, List.getElem?_drop] at hi
    obtain ⟨b, o, rfl, hc⟩ := strs_row h _ _ hi
    rw [if_neg (by omega)]
    refine ⟨b, o + a, ?_, ?_⟩
    · simp [Addr.add]
    · rw [Nat.add_assoc]; exact hc
theorem read_now {S : List Sec} {L : Int → Option Sec} {a y : Nat} (h : a + y ≤ S.length) : (((nowL S L).drop a).take y).flatten = readL S L a y := by
  unfold readL
  congr 1
  apply List.ext_getElem?
  intro i
  by_cases hi : i < y
  · rw [List.getElem?_take_of_lt hi, List.getElem?_drop, nowL_at (by omega)]
    simp [hi]
  · rw [List.getElem?_eq_none (by rw [List.length_take]; omega), List.getElem?_eq_none (by simp; omega)]
section
variable {H : Nat} {A w : World} {R : List Thing} {X1 X2 X3 Y1 Y2 Y3 Y4 : Thing}
theorem OwnT.rot34 (h : OwnT H A (X1 :: X2 :: X3 :: Y1 :: Y2 :: Y3 :: Y4 :: R) w) : OwnT H A (Y1 :: Y2 :: Y3 :: Y4 :: X1 :: X2 :: X3 :: R) w :=
  h.perm ((List.perm_append_comm (l₁ := [X1, X2, X3]) (l₂ := [Y1, Y2, Y3, Y4])).append_right R)
theorem OwnT.rot43 (h : OwnT H A (Y1 :: Y2 :: Y3 :: Y4 :: X1 :: X2 :: X3 :: R) w) : OwnT H A (X1 :: X2 :: X3 :: Y1 :: Y2 :: Y3 :: Y4 :: R) w :=
  h.perm ((List.perm_append_comm (l₁ := [Y1, Y2, Y3, Y4]) (l₂ := [X1, X2, X3])).append_right R)
end
end Go.Proofs.Ytdpohbaeopidmaa
