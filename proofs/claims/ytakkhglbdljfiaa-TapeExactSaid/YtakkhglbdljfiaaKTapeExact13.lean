/- Texts on a device, plain. -/
import Derived.Test.YtakkhglbdljfiaaKTapeExact02
import Derived.Test.YtakkhglbdljfiaaKTapeExact12
import Derived.Test.YtakkhglbdljfiaaKTapeExact11
namespace Go.Proofs.Ytakkhglbdljfiaa
set_option linter.unusedVariables false
set_option linter.unusedSimpArgs false
/-- How many sectors a text has; its bytes there, as the k-th. -/
def szT (l : List UInt8) : Nat := (l.length + 25) / 16
def headT (k : Nat) (l : List UInt8) : List UInt8 := le k 4 ++ (le l.length 2 ++ l)
def tapeL (k : Nat) (l : List UInt8) : List UInt8 := sealL (headT k l) ++ List.replicate (16 * szT l - (l.length + 10)) 0
theorem Z34 (k : Nat) (l : List UInt8) : (headT k l).length = l.length + 6 := by
  unfold headT
  rw [List.length_append, List.length_append, Z0m, Z0m]
  omega
theorem Z11 (k : Nat) (l : List UInt8) : (tapeL k l).length = 16 * szT l := by
  unfold tapeL
  rw [List.length_append, Z1d, Z34, List.length_replicate]
  unfold szT
  omega
theorem Z2v (l : List UInt8) : 1 ≤ szT l := by unfold szT; omega
/-- The text with which an image begins. -/
def numT (im : List UInt8) : Nat := numL ((im.drop 4).take 2)
def txtT (im : List UInt8) : List UInt8 := (im.drop 6).take (numT im)
def fstT (k : Nat) (im : List UInt8) : Option (List UInt8) :=
  if 16 ≤ im.length ∧ numT im ≤ 600 ∧ 6 + numT im ≤ im.length ∧ im.take (16 * szT (txtT im)) = tapeL k (txtT im) then some (txtT im) else none
theorem Z5u {k : Nat} {im s : List UInt8} (h : fstT k im = some s) : s.length ≤ 600 ∧ 16 * szT s ≤ im.length ∧ im.take (16 * szT s) = tapeL k s ∧ s = txtT im := by
  unfold fstT at h
  split at h
  · rename_i hc
    injection h with h
    subst h
    refine ⟨?_, ?_, hc.2.2.2, rfl⟩
    · unfold txtT; rw [List.length_take]; omega
    · have := congrArg List.length hc.2.2.2
      rw [List.length_take, Z11] at this
      omega
  · cases h
theorem Z4u {k : Nat} {im : List UInt8} (h : im.length < 16) : fstT k im = none := by
  unfold fstT
  rw [if_neg (by omega)]
/-- As the code has it. -/
def codeS (im : List UInt8) : List UInt8 :=
  let a := getN (im, false) 4
  let b := getN a.2 2
  if b.1 ≤ b.2.1.length then b.2.1.take b.1 else []
theorem Z7m {im : List UInt8} (h : 16 ≤ im.length) : getN (getN (im, false) 4).2 2 = (numT im, (im.drop 6, false)) := by
  unfold getN
  rw [if_pos (show 4 ≤ (im, false).1.length by show 4 ≤ im.length; omega)]
  show (if 2 ≤ (im.drop 4).length then _ else _) = _
  rw [if_pos (by rw [List.length_drop]; omega)]
  show (numL ((im.drop 4).take 2), ((im.drop 4).drop 2, false)) = _
  rw [List.drop_drop]
  rfl
theorem code_is (k : Nat) (im : List UInt8) : fstT k im = if (codeS im).length ≤ 600 ∧ (tapeL k (codeS im)).isPrefixOf im = true then some (codeS im) else none := by
  by_cases h : 16 ≤ im.length
  · have e : codeS im = if numT im ≤ (im.drop 6).length then txtT im else [] := by
      unfold codeS
      simp only
      rw [Z7m h]
      rfl
    by_cases hm : numT im ≤ (im.drop 6).length
    · rw [e, if_pos hm]
      rw [List.length_drop] at hm
      have hl : (txtT im).length = numT im := by unfold txtT; rw [List.length_take, List.length_drop]; omega
      have hp : (tapeL k (txtT im)).isPrefixOf im = true ↔ im.take (16 * szT (txtT im)) = tapeL k (txtT im) := by
        rw [List.isPrefixOf_iff_prefix]
        constructor
        · intro hp
          rw [← Z11 k]
          exact (List.prefix_iff_eq_take.1 hp).symm
        · intro hp
          rw [← hp]
          exact List.take_prefix _ _
      unfold fstT
      by_cases hc : numT im ≤ 600 ∧ im.take (16 * szT (txtT im)) = tapeL k (txtT im)
      · rw [if_pos ⟨h, hc.1, by omega, hc.2⟩, if_pos ⟨by omega, hp.2 hc.2⟩]
      · rw [if_neg (fun x => hc ⟨x.2.1, x.2.2.2⟩), if_neg (fun x => hc ⟨by omega, hp.1 x.2⟩)]
    · rw [e, if_neg hm]
      rw [List.length_drop] at hm
      unfold fstT
      rw [if_neg (fun x => hm (by omega)), if_neg]
      rintro ⟨-, hp⟩
      rw [List.isPrefixOf_iff_prefix] at hp
      obtain ⟨t, ht⟩ := hp
      have h2 : (im.drop 4).take 2 = [0, 0] := by
        rw [← ht]
        unfold tapeL sealL headT
        have h4 : (le k 4).length = 4 := Z0m _ _
        obtain ⟨a, b, c, d, e4⟩ : ∃ a b c d, le k 4 = [a, b, c, d] := by
          match hq : le k 4, h4 with
          | [a, b, c, d], _ => exact ⟨a, b, c, d, rfl⟩
        rw [e4]
        rfl
      have : numT im = 0 := by unfold numT; rw [h2]; rfl
      omega
  · rw [Z4u (by omega), if_neg]
    rintro ⟨-, hp⟩
    rw [List.isPrefixOf_iff_prefix] at hp
    have := hp.length_le
    rw [Z11] at this
    have := Z2v (codeS im)
    omega
/-- All that stand there, one behind the other; how many sectors they have. -/
def rdT (im : List UInt8) : Nat → List (List UInt8) → Nat → List (List UInt8) × Nat
  | 0, T, a => (T, a)
  | f + 1, T, a => match fstT (T.length + 1) (im.drop (16 * a)) with
    | none => (T, a)
    | some s => rdT im f (T ++ [s]) (a + szT s)
/-- On the way. -/
structure OnT (im : List UInt8) (T : List (List UInt8)) (a : Nat) : Prop where
  go : ∃ f, rdT im f T a = rdT im im.length [] 0 ∧ im.length ≤ 16 * (a + f)
  le : 16 * a ≤ im.length
  len : T.length ≤ a
  small : ∀ s ∈ T, s.length ≤ 600
theorem OnT.start (im : List UInt8) : OnT im [] 0 := ⟨⟨im.length, rfl, by omega⟩, Nat.zero_le _, Nat.le_refl _, fun s h => by cases h⟩
theorem OnT.step {im : List UInt8} {T : List (List UInt8)} {a : Nat} {s : List UInt8} (h : OnT im T a) (hs : fstT (T.length + 1) (im.drop (16 * a)) = some s) : OnT im (T ++ [s]) (a + szT s) := by
  obtain ⟨⟨f, h1, h2⟩, h3, h4, h5⟩ := h
  obtain ⟨s1, s2, s3, _⟩ := Z5u hs
  rw [List.length_drop] at s2
  have hp := Z2v s
  refine ⟨?_, by omega, by rw [List.length_append]; simp only [List.length_cons, List.length_nil]; omega, fun t ht => ?_⟩
  · cases f with
    | zero => omega
    | succ f =>
      refine ⟨f, ?_, by omega⟩
      rw [← h1]
      show _ = match fstT (T.length + 1) (im.drop (16 * a)) with
        | none => (T, a)
        | some s => rdT im f (T ++ [s]) (a + szT s)
      rw [hs]
  · rcases List.mem_append.1 ht with ht | ht
    · exact h5 t ht
    · obtain rfl := List.mem_singleton.1 ht
      exact s1
theorem OnT.stop {im : List UInt8} {T : List (List UInt8)} {a : Nat} (h : OnT im T a) (hs : fstT (T.length + 1) (im.drop (16 * a)) = none) : rdT im im.length [] 0 = (T, a) := by
  obtain ⟨⟨f, h1, h2⟩, _⟩ := h
  rw [← h1]
  cases f with
  | zero => rfl
  | succ f =>
    show (match fstT (T.length + 1) (im.drop (16 * a)) with
        | none => (T, a)
        | some s => rdT im f (T ++ [s]) (a + szT s)) = _
    rw [hs]
end Go.Proofs.Ytakkhglbdljfiaa

/- The walk of tierceref01.Number. -/
namespace Go.Proofs.Ytakkhglbdljfiaa
set_option linter.unusedVariables false
set_option linter.unusedSimpArgs false
open Go.RowKit

theorem Z78 (l : List UInt8) (k : Nat) (h : k < l.length) : numL (l.drop k) = (l.getD k 0).toNat + 256 * numL (l.drop (k + 1)) := by
  rw [List.drop_eq_getElem_cons h, numL]
  simp [List.getD, List.getElem?_eq_getElem h]

set_option maxRecDepth 10000 in
set_option maxHeartbeats 1000000 in
theorem Z68 (s : ByteArray) (w : World) (hs : s.size ≤ 8) :
    Calls Try.prog 25 #[.string s] w fun e w' => e = .returned (.int .u64 (numL s.data.toList)) ∧ w = w' := by
  have hsl : s.data.toList.length = s.size := by simp
  go_enter Try.func25, Try.ntmps25
  go_wp2_with fail
  go_loop [3, 4] (fun x i => ∃ (k X : Nat), k ≤ s.size ∧ i = .int .i64 ((k : Int) - 1) ∧ x = .int .u64 X ∧ Hid (X = numL (s.data.toList.drop k))) (fun _ i => (intOf i + 1).toNat)
  case atStart => exact ⟨s.size, 0, by omega, rfl, rfl, by show 0 = _; rw [List.drop_of_length_le (by omega)]; rfl⟩
  case round =>
    obtain ⟨k, X, hk, rfl, rfl, HX⟩ := hrel
    by_cases hlt : 0 < k
    · obtain ⟨j, rfl⟩ : ∃ j, k = j + 1 := ⟨k - 1, by omega⟩
      have hj : j < s.size := by omega
      have hd := Z78 s.data.toList j (by omega)
      have hl := Z31 (s.data.toList.drop (j + 1))
      have hl2 := Z31 (s.data.toList.drop j)
      rw [← HX.out] at hd hl
      rw [List.length_drop, hsl] at hl hl2
      have hp : 256 ^ (s.size - j) ≤ 256 ^ 8 := Nat.pow_le_pow_right (by decide) (by omega)
      simp only [Nat.reducePow] at hp
      rw [hd] at hl2
      have hb := Z3q s j hj
      have hx : ((j + 1 : Nat) : Int) - 1 = (j : Int) := by omega
      rw [hx]
      rw [← hb] at hd hl2
      have HD := Lib.hid hd
      have hbound : (s[j]'hj).toNat + 256 * X < 18446744073709551616 := by omega
      clear hl hl2 hd hp hb hx
      go_wp2_with fail
      go_round
      case rel => exact ⟨j, (s[j]'hj).toNat + 256 * X, by omega, by first | rfl | go_num, by first | rfl | go_num, by show _ = _; rw [HD.out]⟩
      case measure => simp [intOf]
    · obtain rfl : k = 0 := by omega
      go_wp2_with fail
      go_ret
      exact ⟨Z19 (by rw [HX.out, List.drop_zero]), rfl⟩
end Go.Proofs.Ytakkhglbdljfiaa

/- Writers, readers, castles, by lists of bytes; writers as things. -/
namespace Go.Proofs.Ytakkhglbdljfiaa
set_option linter.unusedVariables false
set_option linter.unusedSimpArgs false
open Go.RowKit Go.Maps

/-- A writer. -/
def tOw (b : Nat) (g : Option Nat) (l : List UInt8) : Thing where
  foot := b :: g.toList
  holds := fun w => Wr w b g l
  keep := fun w w' _ h hb => hb.keep (h b (by simp)) (fun k hk => h k (by simp [hk]))
  lt := fun w h i hi => by
    rcases List.mem_cons.1 hi with rfl | hi
    · exact h.lt
    · exact h.own_lt i (by simpa using hi)
section
variable {H : Nat} {A w w' : World} {R : List Thing} {b r : Nat} {g g' : Option Nat} {l l' : List UInt8}
theorem OwnT.asOw (O : OwnT H A (tBlk b 85 #[.pointer none, .slice none 0 0] :: R) w) : OwnT H A (tOw b none [] :: R) w :=
  O.call (F := []) (Chg.refl [] w) (by simp) (tOw b none []) (.inl ⟨.slice none 0 0, O.b0, ⟨rfl, .inl ⟨rfl, rfl⟩⟩, rfl⟩) (fun i hi => .inl (by simpa [tOw, tBlk] using hi))
theorem OwnT.owrote (O : OwnT H A (tOw b g l :: R) w) (h : Wr w' b g' l') (k : Wrote w b g g' w') : OwnT H A (tOw b g' l' :: R) w' := by
  refine O.call (F := b :: g.toList) ⟨k.os, k.tape, k.output, k.size, fun i hi hn => k.block i hi (fun e => hn (by simp [e])) (fun e => hn (by simp [← e]))⟩ (fun i hi => hi) (tOw b g' l') h (fun i hi => ?_)
  rcases List.mem_cons.1 hi with rfl | hi
  · exact .inl (by simp [tOw])
  · rcases k.own with e | ⟨j, e, hj⟩
    · exact .inl (by rw [e] at hi; exact List.mem_cons_of_mem _ hi)
    · exact .inr (by rw [e] at hi; simp at hi; omega)
theorem Z5y (k : Nat) (h : 1 ≤ k ∧ k ≤ 8) : clampSize (k : Int) = k := by unfold clampSize; omega
theorem ow_put (n k : Nat) (O : OwnT H A (tOw b g l :: R) w) (hn : n < 18446744073709551616) (hk : 1 ≤ k ∧ k ≤ 8) (hl : l.length ≤ 1000000000) :
    Calls Try.prog 49 #[.pointer (some ⟨b, 0, none⟩), .int .u64 (n : Nat), .int .i64 (k : Nat)] w fun e w' => e = .returned (.tuple #[]) ∧ ∃ g', OwnT H A (tOw b g' (l ++ le n k) :: R) w' := by
  refine (Z74 b g l n (k : Int) w hn O.all.1 (by omega)).mono ?_
  rintro e w' ⟨rfl, g', h1, h2⟩
  rw [Z5y k hk] at h1
  exact ⟨rfl, g', O.owrote h1 h2⟩
theorem ow_text (s : List UInt8) (O : OwnT H A (tOw b g l :: R) w) (hl : l.length + s.length ≤ 1000000000) :
    Calls Try.prog 50 #[.pointer (some ⟨b, 0, none⟩), .string (sB s)] w fun e w' => e = .returned (.tuple #[]) ∧ ∃ g', OwnT H A (tOw b g' (l ++ s) :: R) w' := by
  refine (Z5n b g l (sB s) w O.all.1 (by rw [Z0l]; omega)).mono ?_
  rintro e w' ⟨rfl, g', h1, h2⟩
  exact ⟨rfl, g', O.owrote h1 h2⟩
theorem ow_str (O : OwnT H A (tOw b g l :: R) w) (h0 : l ≠ []) :
    Calls Try.prog 52 #[.pointer (some ⟨b, 0, none⟩)] w fun e w' => e = .returned (.string (sB l)) ∧ OwnT H A (tOw b g l :: R) w' := by
  refine (Z2f b g l w O.all.1 h0).mono ?_
  rintro e w' ⟨rfl, h1, h2⟩
  exact ⟨rfl, O.owrote h1 h2⟩
/-- A castle's sum put behind. -/
theorem seal_l (l : List UInt8) (w : World) (hl : l.length ≤ 1000000000) : Calls Try.prog 51 #[.string (sB l)] w fun e w' => e = .returned (.string (sB (sealL l))) ∧ Ext w w' := by
  refine (Z82 (sB l) w (by rw [Z0l]; omega)).mono ?_
  rintro e w' ⟨rfl, h⟩
  exact ⟨rfl, h⟩
theorem rseal_l (l : List UInt8) (w : World) (hl : l.length ≤ 1000000000) : Calls Try.prog 34 #[.string (sB l)] w fun e w' => e = .returned (.string (sB (sealL l))) ∧ Ext w w' := by
  refine (Z6z (sB l) _ w (by rw [Z0l]; omega) rfl).mono ?_
  rintro e w' ⟨rfl, h⟩
  exact ⟨rfl, h⟩
theorem Z5r (n k : Nat) (w : World) (hn : n < 18446744073709551616) (hk : 1 ≤ k ∧ k ≤ 8) : Calls Try.prog 35 #[.int .u64 (n : Nat), .int .i64 (k : Nat)] w fun e w' => e = .returned (.string (sB (le n k))) ∧ Ext w w' := by
  refine (Z3n n (k : Int) w hn).mono ?_
  rintro e w' ⟨rfl, h⟩
  rw [Z5y k hk]
  exact ⟨rfl, h⟩
theorem Z72 (l : List UInt8) (w : World) (hl : l.length ≤ 8) : Calls Try.prog 25 #[.string (sB l)] w fun e w' => e = .returned (.int .u64 (numL l : Nat)) ∧ Ext w w' := by
  refine (Z68 (sB l) w (by rw [Z0l]; exact hl)).mono ?_
  rintro e w' ⟨rfl, rfl⟩
  exact ⟨rfl, Ext.refl _⟩
/-! Readers. -/
theorem OwnT.newUpd {t : TypeId} {cs : Array Value} (O : OwnT H A R w) (h : Upd w w.heap.size t cs w') : OwnT H A (tBlk w.heap.size t cs :: R) w' :=
  O.cons ⟨h.grown.os, h.grown.tape, h.grown.output, h.grown.size, fun i hi => h.grown.block i hi (fun e => by injection e with e; omega)⟩ (tBlk w.heap.size t cs) h.blk (fun i hi => by simp [tBlk] at hi; omega)
abbrev tRd (r : Nat) (l : List UInt8) (short : Bool) : Thing := tBlk r 110 #[.string (sB l), .bool short]
theorem or_of (l : List UInt8) (O : OwnT H A R w) : Calls Try.prog 59 #[.string (sB l)] w fun e w' => ∃ r, e = .returned (.pointer (some ⟨r, 0, none⟩)) ∧ OwnT H A (tRd r l false :: R) w' := by
  refine (of_any (sB l) w).mono ?_
  rintro e w' ⟨rfl, h⟩
  exact ⟨w.heap.size, rfl, O.newUpd h⟩
theorem or_get (k : Nat) {short : Bool} (O : OwnT H A (tRd r l short :: R) w) (hk : 1 ≤ k ∧ k ≤ 8) (hl : l.length ≤ 1000000) :
    Calls Try.prog 60 #[.pointer (some ⟨r, 0, none⟩), .int .i64 (k : Nat)] w fun e w' => e = .returned (.int .u64 ((getN (l, short) k).1 : Nat)) ∧ OwnT H A (tRd r (getN (l, short) k).2.1 (getN (l, short) k).2.2 :: R) w' := by
  refine (get_any r (l, short) k w hk.1 hk.2 O.b0 hl).mono ?_
  rintro e w' ⟨rfl, h⟩
  exact ⟨rfl, O.upd h⟩
theorem or_got (k : Nat) {short : Bool} {m : Nat} {l2 : List UInt8} {s2 : Bool} (h : getN (l, short) k = (m, l2, s2)) (O : OwnT H A (tRd r l short :: R) w) (hk : 1 ≤ k ∧ k ≤ 8) (hl : l.length ≤ 1000000) :
    Calls Try.prog 60 #[.pointer (some ⟨r, 0, none⟩), .int .i64 (k : Nat)] w fun e w' => e = .returned (.int .u64 (m : Nat)) ∧ OwnT H A (tRd r l2 s2 :: R) w' := by
  have := or_get k O hk hl
  rw [h] at this
  exact this
theorem or_take (n : Nat) {short : Bool} (O : OwnT H A (tRd r l short :: R) w) (hl : l.length ≤ 1000000) (hn : n ≤ 1000000) :
    Calls Try.prog 61 #[.pointer (some ⟨r, 0, none⟩), .int .i64 (n : Nat)] w fun e w' => e = .returned (.string (sB (if n ≤ l.length then l.take n else []))) ∧ ∃ l2 s2, OwnT H A (tRd r l2 s2 :: R) w' := by
  by_cases h : n ≤ l.length
  · rw [if_pos h]
    refine (Z5o r (sB l) short n w O.b0 (by rw [Z0l]; exact h) (by rw [Z0l]; omega)).mono ?_
    rintro e w' ⟨rfl, h⟩
    rw [Z4m, Z0l] at h
    rw [Z4m, List.drop_zero]
    exact ⟨rfl, _, _, O.upd h⟩
  · rw [if_neg h]
    refine (Z3h r (sB l) short n w O.b0 (by rw [Z0l]; omega) (by omega)).mono ?_
    rintro e w' ⟨rfl, h⟩
    exact ⟨rfl, [], true, O.upd h⟩
end
end Go.Proofs.Ytakkhglbdljfiaa
