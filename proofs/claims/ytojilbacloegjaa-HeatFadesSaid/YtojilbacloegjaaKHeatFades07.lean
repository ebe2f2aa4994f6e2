/- HeatFades: its walk. -/
import Derived.Test.YtojilbacloegjaaKHeatFades06
import Derived.Test.YtojilbacloegjaaKHeatFades04
import Derived.Deep.CutBlock
namespace Go.Proofs.Ytojilbacloegjaa
set_option linter.unusedVariables false
set_option linter.unusedSimpArgs false
open Go.RowKit Go.Maps Go.ChangeShapes Go.WideShapes Go.ChangeAt

/-- Heats of 1 and 2 alone, 2 no colder. -/
def Fade (u : Int → Int) : Prop := Heats u ∧ (∀ i, u i ≠ 0 → i = 1 ∨ i = 2) ∧ u 1 ≤ u 2
theorem Fade.zero : Fade (fun _ => 0) := ⟨Heats.zero, fun i h => absurd rfl h, Int.le_refl _⟩
theorem Fade.half {u : Int → Int} (h : Fade u) : Fade (fun i => u i / 2) := by
  refine ⟨h.1.half, fun i hi => h.2.1 i (fun e => hi ?_), ?_⟩
  · show u i / 2 = 0
    rw [e]; rfl
  · have := h.2.2
    show u 1 / 2 ≤ u 2 / 2
    omega
theorem touch_at (u : Int → Int) (c n i : Int) (h1 : 1 ≤ c) (h2 : c ≤ 1023) (hH : Heats u) (hn : 0 ≤ n) : touchU u c n i = if i = c then min (u c + min n 1048576) 1048576 else u i := by
  unfold touchU
  have := hH c
  by_cases h : n ≤ 0
  · rw [if_pos (.inr (.inr h))]
    obtain rfl : n = 0 := by omega
    by_cases hi : i = c
    · subst hi; rw [if_pos rfl]; omega
    · rw [if_neg hi]
  · rw [if_neg (by omega)]
    rfl
theorem Fade.touch2 {u : Int → Int} (h : Fade u) (n : Int) (hn : 0 ≤ n) : Fade (touchU u 2 n) := by
  refine ⟨h.1.touch 2 n, fun i hi => ?_, ?_⟩
  · rw [touch_at u 2 n i (by omega) (by omega) h.1 hn] at hi
    split at hi
    · omega
    · exact h.2.1 i hi
  · rw [touch_at u 2 n 1 (by omega) (by omega) h.1 hn, touch_at u 2 n 2 (by omega) (by omega) h.1 hn]
    have := h.2.2
    have := h.1 2
    simp
    omega
theorem Fade.both {u : Int → Int} (h : Fade u) (n : Int) (hn : 0 ≤ n) : Fade (touchU (touchU u 1 n) 2 n) := by
  have h1 := h.1.touch 1 n
  refine ⟨h1.touch 2 n, fun i hi => ?_, ?_⟩
  · rw [touch_at _ 2 n i (by omega) (by omega) h1 hn] at hi
    split at hi
    · omega
    · rw [touch_at u 1 n i (by omega) (by omega) h.1 hn] at hi
      split at hi
      · omega
      · exact h.2.1 i hi
  · rw [touch_at _ 2 n 1 (by omega) (by omega) h1 hn, touch_at _ 2 n 2 (by omega) (by omega) h1 hn, touch_at u 1 n 1 (by omega) (by omega) h.1 hn, touch_at u 1 n 2 (by omega) (by omega) h.1 hn]
    have := h.2.2
    have := h.1 2
    have := h.1 1
    simp
    omega
theorem Fade.sum {u : Int → Int} (h : Fade u) : sumU u = u 1 + u 2 := by
  have e1 := sumI_upd (f := updU u 2 0) (g := u) (x := 2) (by omega) (fun i hi => by unfold updU; rw [if_neg hi]) 1023 (by omega)
  have e2 := sumI_upd (f := fun _ => 0) (g := updU u 2 0) (x := 1) (by omega) (fun i hi => by
    unfold updU
    by_cases h2 : i = 2
    · rw [if_pos h2]
    · rw [if_neg h2]
      by_cases e : u i = 0
      · exact e
      · have := h.2.1 i e; omega) 1023 (by omega)
  have e3 := sumI_zero (f := fun _ => 0) 1023 (fun _ _ _ => rfl)
  unfold sumU
  rw [e1, e2, e3]
  unfold updU
  simp
theorem Fade.none {u : Int → Int} (h : Fade u) (h2 : u 2 = 0) : hotL u = [] ∧ sumU u = 0 := by
  have h1 : u 1 = 0 := by have := h.2.2; have := h.1 1; omega
  refine ⟨?_, by rw [h.sum, h1, h2]; rfl⟩
  unfold hotL
  rw [List.filter_eq_nil_iff]
  intro i hi
  have : u i = 0 := by
    by_cases e : u i = 0
    · exact e
    · rcases h.2.1 i e with e1 | e1
      · rw [e1]; exact h1
      · rw [e1]; exact h2
  simp [this]

def Cold (w : World) (pb mb n i : Nat) (wx : World) : Prop := ∃ u : Int → Int, OwnT w.heap.size w [tBook pb mb n u] wx ∧ Fade u ∧ u 2 * ((2 ^ i : Nat) : Int) ≤ 1048576
theorem cold_step (a : Int) (i : Nat) (h0 : 0 ≤ a) (h : a * ((2 ^ i : Nat) : Int) ≤ 1048576) : a / 2 * ((2 ^ (i + 1) : Nat) : Int) ≤ 1048576 := by
  have e : ((2 ^ (i + 1) : Nat) : Int) = 2 * ((2 ^ i : Nat) : Int) := by rw [Nat.pow_succ]; omega
  have h2 : a / 2 * 2 ≤ a := by omega
  have h3 : a / 2 * 2 * ((2 ^ i : Nat) : Int) ≤ a * ((2 ^ i : Nat) : Int) := Int.mul_le_mul_of_nonneg_right h2 (Int.natCast_nonneg _)
  rw [e, ← Int.mul_assoc]
  exact Int.le_trans h3 h
def BothF (w : World) (pb mb k : Nat) (wx : World) : Prop := ∃ (n : Nat) (u : Int → Int), n ≤ k ∧ OwnT w.heap.size w [tBook pb mb n u] wx ∧ Fade u

set_option maxRecDepth 100000 in
set_option maxHeartbeats 4000000 in
theorem heatFades_core (A A' : Option Addr) (len cap len' cap' : Nat) (xs ys : List Int) (d : Int) (w : World) (hlen : xs.length = len) (hlen' : ys.length = len') (hrow : Row1 w A (Value.int .i64) xs) (hrow' : Row1 w A' (Value.int .i64) ys)
    (hw : ∀ x ∈ xs, wfI x) (hw' : ∀ x ∈ ys, wfI x) (hm : len ≤ maxLen) (hm' : len' ≤ maxLen) (hd : wfI d) :
    Calls Try.prog 4 #[.slice A len cap, .slice A' len' cap', .int .i64 d] w fun e w' => e = .returned (.bool true) ∧ Below w.heap.size w w' := by
  unfold maxLen at hm hm'
  have Hlen := Lib.hid hlen
  have Hlen' := Lib.hid hlen'
  have Hw := Lib.hid hw
  have Hw' := Lib.hid hw'
  have Hrow := Lib.hid hrow
  have Hrow' := Lib.hid hrow'
  have hdb := bounds_i64 hd
  clear hlen hlen' hw hw' hrow hrow' hd
  go_enter Try.func4, Try.ntmps4
  go_wp2_with fail
  refine (awake15 _).mono ?_
  rintro e w1 ⟨rfl, hx1⟩
  have HO1 := Lib.hid ((OwnT.start w).ext hx1)
  clear hx1
  by_cases hbig : 60 < len ∨ 60 < len'
  · by_cases h1 : 60 < len
    · clear hbig
      go_wp2_with fail
      go_ret
      exact ⟨rfl, HO1.out.below⟩
    · have h2 : 60 < len' := by omega
      clear hbig
      go_wp2_with fail
      go_ret
      exact ⟨rfl, HO1.out.below⟩
  have hs1 : len ≤ 60 := by omega
  have hs2 : len' ≤ 60 := by omega
  clear hbig
  go_wp2_with fail
  refine (new_any _).mono ?_
  rintro e w2 ⟨rfl, hx2, hB2⟩
  have O2 := HO1.out.newBook hx2 hB2
  clear hx2 hB2 HO1
  generalize w1.heap.size + 1 = pb at O2 ⊢
  generalize w1.heap.size = mb at O2
  have hJ : BothF w pb mb 0 w2 := ⟨0, _, Nat.le_refl _, O2, Fade.zero⟩
  clear O2
  go_wp2_with fail
  go_loopw [8] (fun i wr => ∃ k : Nat, k ≤ len ∧ i = .int .i64 k ∧ BothF w pb mb (3 * k) wr) (fun i _ => len - (intOf i).toNat)
  case atStart => exact ⟨0, by omega, rfl, hJ⟩
  case round =>
    obtain ⟨k, hk, rfl, n, u, hn, O, hF⟩ := hrel
    clear hJ
    by_cases hlt : k < len
    · obtain ⟨b, off, rfl, hbl, hc⟩ := Hrow.out.in_ O.below (i := k) (by have := Hlen.out; omega)
      have hwf := bounds_i64 (Hw.out (xs[k]'(by have := Hlen.out; omega)) (List.getElem_mem _))
      generalize xs[k]'(by have := Hlen.out; omega) = x at hc hwf
      obtain ⟨y, hy⟩ : ∃ y, max x 0 = y := ⟨_, rfl⟩
      have hy0 : 0 ≤ y := by omega
      have hyw : wfI y := wfI_of (by omega) (by omega)
      have HY := Lib.hid hy
      have HO := Lib.hid O
      have HF := Lib.hid hF
      clear O hF
      go_wp2_with fail
      refine (touch_any _ pb mb n u 1 y hyw (by omega) HO.out.bk HF.out.1).mono ?_
      rintro e w3 ⟨rfl, hB3, hg3⟩
      have HO3 := Lib.hid (HO.out.book hB3 hg3)
      clear hB3 hg3
      go_wp2_with fail
      refine (touch_any _ pb mb (n + 1) _ 2 y hyw (by omega) HO3.out.bk (HF.out.1.touch 1 y)).mono ?_
      rintro e w4 ⟨rfl, hB4, hg4⟩
      have HO4 := Lib.hid (HO3.out.book hB4 hg4)
      have HF4 := Lib.hid (HF.out.both y hy0)
      clear hB4 hg4 hc HO HF
      obtain ⟨u4, hu4⟩ : ∃ u4, touchU (touchU u 1 y) 2 y = u4 := ⟨_, rfl⟩
      rw [hu4] at HO4 HF4
      clear hu4 HO3
      by_cases hk2 : k < len'
      · obtain ⟨b', off', rfl, hbl', hc'⟩ := Hrow'.out.in_ HO4.out.below (i := k) (by have := Hlen'.out; omega)
        have hwf' := Hw'.out (ys[k]'(by have := Hlen'.out; omega)) (List.getElem_mem _)
        have hwb' := bounds_i64 hwf'
        generalize ys[k]'(by have := Hlen'.out; omega) = z at hc' hwf' hwb'
        have HZ := Lib.hid hwf'
        clear hwf'
        by_cases hz : 0 < z
        · go_wp2_with fail
          refine (touch_any _ pb mb (n + 1 + 1) _ 2 z HZ.out (by omega) HO4.out.bk HF4.out.1).mono ?_
          rintro e w5 ⟨rfl, hB5, hg5⟩
          have HO5 := Lib.hid (HO4.out.book hB5 hg5)
          have HF5 := Lib.hid (HF4.out.touch2 z (by omega))
          have hn5 : n + 1 + 1 + 1 ≤ 3 * (k + 1) := by omega
          clear hB5 hg5 HO4 HF4 hc'
          generalize touchU u4 2 z = u5 at HO5 HF5
          generalize n + 1 + 1 + 1 = n5 at HO5 hn5
          go_upto_if 63 with fail
          go_cut [] (fun wx => ∃ u6, OwnT w.heap.size w [tBook pb mb n5 u6] wx ∧ Fade u6)
          case first =>
            go_wp2_with fail
            all_goals first
              | (refine (decay_any _ pb mb n5 u5 HO5.out.bk HF5.out.1).mono ?_
                 rintro e w6 ⟨rfl, hB6, hg6⟩
                 have HO6 := Lib.hid (HO5.out.book hB6 hg6)
                 clear hB6 hg6
                 go_wp2_with fail
                 go_meet
                 case rel => exact ⟨_, HO6.out, HF5.out.half⟩)
              | (go_meet
                 case rel => exact ⟨_, HO5.out, HF5.out⟩)
          case rest =>
            obtain ⟨u6, O6, F6⟩ := hcut
            clear HO5 HF5
            have e1 := F6.sum
            have e2 := F6.1 1
            have e3 := F6.1 2
            have e4 := F6.2.2
            obtain ⟨a, ha⟩ : ∃ a, u6 1 = a := ⟨_, rfl⟩
            obtain ⟨b2, hb2⟩ : ∃ b2, u6 2 = b2 := ⟨_, rfl⟩
            rw [ha, hb2] at e1
            rw [ha] at e2 e4
            rw [hb2] at e3 e4
            have A1 := Lib.hid (show ∀ W, Bk W pb mb n5 u6 → Calls Try.prog 19 #[.pointer (some ⟨pb, 0, none⟩), .int .i64 1] W fun e w' => e = .returned (.int .i64 a) ∧ W = w' from fun W hB => ha ▸ of_any W pb mb n5 u6 1 hB (by decide))
            have A2 := Lib.hid (show ∀ W, Bk W pb mb n5 u6 → Calls Try.prog 19 #[.pointer (some ⟨pb, 0, none⟩), .int .i64 2] W fun e w' => e = .returned (.int .i64 b2) ∧ W = w' from fun W hB => hb2 ▸ of_any W pb mb n5 u6 2 hB (by decide))
            have AS := Lib.hid (show ∀ W, Bk W pb mb n5 u6 → Calls Try.prog 20 #[.pointer (some ⟨pb, 0, none⟩)] W fun e w' => e = .returned (.int .i64 (a + b2)) ∧ Ext W w' from fun W hB => e1 ▸ sum_any W pb mb n5 u6 hB F6.1)
            have HO6 := Lib.hid O6
            have HF6 := Lib.hid F6
            have e5 : ¬ b2 < a := by omega
            have e6 : ¬ a < 0 := by omega
            have e7 : IntKind.i64.wrap (a + b2) = a + b2 := IntWalk.i64_in _ (by omega)
            clear O6 F6 ha hb2 e1
            go_wp2_with fail
            refine (A2.out _ HO6.out.bk).mono ?_
            rintro e w7 ⟨rfl, rfl⟩
            go_wp2_with fail
            refine (A1.out _ HO6.out.bk).mono ?_
            rintro e w7 ⟨rfl, rfl⟩
            go_wp2_with fail
            refine (A1.out _ HO6.out.bk).mono ?_
            rintro e w7 ⟨rfl, rfl⟩
            go_wp2_with fail
            refine (AS.out _ HO6.out.bk).mono ?_
            rintro e w7 ⟨rfl, hx7⟩
            have HO7 := Lib.hid (HO6.out.ext hx7)
            clear hx7
            go_wp2_with fail
            refine (A1.out _ HO7.out.bk).mono ?_
            rintro e w8 ⟨rfl, rfl⟩
            go_wp2_with fail
            refine (A2.out _ HO7.out.bk).mono ?_
            rintro e w8 ⟨rfl, rfl⟩
            go_wp2_with fail
            go_roundw
            case rel => exact ⟨k + 1, by omega, by go_num, n5, u6, hn5, HO7.out, HF6.out⟩
            case measure => simp [intOf]; omega
        · have HO5 := HO4
          have HF5 := HF4
          obtain ⟨w5, rfl⟩ : ∃ w5, w5 = w4 := ⟨_, rfl⟩
          have hn5 : n + 1 + 1 ≤ 3 * (k + 1) := by omega
          clear HO4 HF4
          generalize n + 1 + 1 = n5 at HO5 hn5
          obtain ⟨u5, rfl⟩ : ∃ u5, u5 = u4 := ⟨_, rfl⟩
          go_upto_if 63 with fail
          go_cut [] (fun wx => ∃ u6, OwnT w.heap.size w [tBook pb mb n5 u6] wx ∧ Fade u6)
          case first =>
            go_wp2_with fail
            all_goals first
              | (refine (decay_any _ pb mb n5 u5 HO5.out.bk HF5.out.1).mono ?_
                 rintro e w6 ⟨rfl, hB6, hg6⟩
                 have HO6 := Lib.hid (HO5.out.book hB6 hg6)
                 clear hB6 hg6
                 go_wp2_with fail
                 go_meet
                 case rel => exact ⟨_, HO6.out, HF5.out.half⟩)
              | (go_meet
                 case rel => exact ⟨_, HO5.out, HF5.out⟩)
          case rest =>
            obtain ⟨u6, O6, F6⟩ := hcut
            clear HO5 HF5
            have e1 := F6.sum
            have e2 := F6.1 1
            have e3 := F6.1 2
            have e4 := F6.2.2
            obtain ⟨a, ha⟩ : ∃ a, u6 1 = a := ⟨_, rfl⟩
            obtain ⟨b2, hb2⟩ : ∃ b2, u6 2 = b2 := ⟨_, rfl⟩
            rw [ha, hb2] at e1
            rw [ha] at e2 e4
            rw [hb2] at e3 e4
            have A1 := Lib.hid (show ∀ W, Bk W pb mb n5 u6 → Calls Try.prog 19 #[.pointer (some ⟨pb, 0, none⟩), .int .i64 1] W fun e w' => e = .returned (.int .i64 a) ∧ W = w' from fun W hB => ha ▸ of_any W pb mb n5 u6 1 hB (by decide))
            have A2 := Lib.hid (show ∀ W, Bk W pb mb n5 u6 → Calls Try.prog 19 #[.pointer (some ⟨pb, 0, none⟩), .int .i64 2] W fun e w' => e = .returned (.int .i64 b2) ∧ W = w' from fun W hB => hb2 ▸ of_any W pb mb n5 u6 2 hB (by decide))
            have AS := Lib.hid (show ∀ W, Bk W pb mb n5 u6 → Calls Try.prog 20 #[.pointer (some ⟨pb, 0, none⟩)] W fun e w' => e = .returned (.int .i64 (a + b2)) ∧ Ext W w' from fun W hB => e1 ▸ sum_any W pb mb n5 u6 hB F6.1)
            have HO6 := Lib.hid O6
            have HF6 := Lib.hid F6
            have e5 : ¬ b2 < a := by omega
            have e6 : ¬ a < 0 := by omega
            have e7 : IntKind.i64.wrap (a + b2) = a + b2 := IntWalk.i64_in _ (by omega)
            clear O6 F6 ha hb2 e1
            go_wp2_with fail
            refine (A2.out _ HO6.out.bk).mono ?_
            rintro e w7 ⟨rfl, rfl⟩
            go_wp2_with fail
            refine (A1.out _ HO6.out.bk).mono ?_
            rintro e w7 ⟨rfl, rfl⟩
            go_wp2_with fail
            refine (A1.out _ HO6.out.bk).mono ?_
            rintro e w7 ⟨rfl, rfl⟩
            go_wp2_with fail
            refine (AS.out _ HO6.out.bk).mono ?_
            rintro e w7 ⟨rfl, hx7⟩
            have HO7 := Lib.hid (HO6.out.ext hx7)
            clear hx7
            go_wp2_with fail
            refine (A1.out _ HO7.out.bk).mono ?_
            rintro e w8 ⟨rfl, rfl⟩
            go_wp2_with fail
            refine (A2.out _ HO7.out.bk).mono ?_
            rintro e w8 ⟨rfl, rfl⟩
            go_wp2_with fail
            go_roundw
            case rel => exact ⟨k + 1, by omega, by go_num, n5, u6, hn5, HO7.out, HF6.out⟩
            case measure => simp [intOf]; omega
      · have HO5 := HO4
        have HF5 := HF4
        obtain ⟨w5, rfl⟩ : ∃ w5, w5 = w4 := ⟨_, rfl⟩
        have hn5 : n + 1 + 1 ≤ 3 * (k + 1) := by omega
        clear HO4 HF4
        generalize n + 1 + 1 = n5 at HO5 hn5
        obtain ⟨u5, rfl⟩ : ∃ u5, u5 = u4 := ⟨_, rfl⟩
        go_upto_if 63 with fail
        go_cut [] (fun wx => ∃ u6, OwnT w.heap.size w [tBook pb mb n5 u6] wx ∧ Fade u6)
        case first =>
          go_wp2_with fail
          all_goals first
            | (refine (decay_any _ pb mb n5 u5 HO5.out.bk HF5.out.1).mono ?_
               rintro e w6 ⟨rfl, hB6, hg6⟩
               have HO6 := Lib.hid (HO5.out.book hB6 hg6)
               clear hB6 hg6
               go_wp2_with fail
               go_meet
               case rel => exact ⟨_, HO6.out, HF5.out.half⟩)
            | (go_meet
               case rel => exact ⟨_, HO5.out, HF5.out⟩)
        case rest =>
          obtain ⟨u6, O6, F6⟩ := hcut
          clear HO5 HF5
          have e1 := F6.sum
          have e2 := F6.1 1
          have e3 := F6.1 2
          have e4 := F6.2.2
          obtain ⟨a, ha⟩ : ∃ a, u6 1 = a := ⟨_, rfl⟩
          obtain ⟨b2, hb2⟩ : ∃ b2, u6 2 = b2 := ⟨_, rfl⟩
          rw [ha, hb2] at e1
          rw [ha] at e2 e4
          rw [hb2] at e3 e4
          have A1 := Lib.hid (show ∀ W, Bk W pb mb n5 u6 → Calls Try.prog 19 #[.pointer (some ⟨pb, 0, none⟩), .int .i64 1] W fun e w' => e = .returned (.int .i64 a) ∧ W = w' from fun W hB => ha ▸ of_any W pb mb n5 u6 1 hB (by decide))
          have A2 := Lib.hid (show ∀ W, Bk W pb mb n5 u6 → Calls Try.prog 19 #[.pointer (some ⟨pb, 0, none⟩), .int .i64 2] W fun e w' => e = .returned (.int .i64 b2) ∧ W = w' from fun W hB => hb2 ▸ of_any W pb mb n5 u6 2 hB (by decide))
          have AS := Lib.hid (show ∀ W, Bk W pb mb n5 u6 → Calls Try.prog 20 #[.pointer (some ⟨pb, 0, none⟩)] W fun e w' => e = .returned (.int .i64 (a + b2)) ∧ Ext W w' from fun W hB => e1 ▸ sum_any W pb mb n5 u6 hB F6.1)
          have HO6 := Lib.hid O6
          have HF6 := Lib.hid F6
          have e5 : ¬ b2 < a := by omega
          have e6 : ¬ a < 0 := by omega
          have e7 : IntKind.i64.wrap (a + b2) = a + b2 := IntWalk.i64_in _ (by omega)
          clear O6 F6 ha hb2 e1
          go_wp2_with fail
          refine (A2.out _ HO6.out.bk).mono ?_
          rintro e w7 ⟨rfl, rfl⟩
          go_wp2_with fail
          refine (A1.out _ HO6.out.bk).mono ?_
          rintro e w7 ⟨rfl, rfl⟩
          go_wp2_with fail
          refine (A1.out _ HO6.out.bk).mono ?_
          rintro e w7 ⟨rfl, rfl⟩
          go_wp2_with fail
          refine (AS.out _ HO6.out.bk).mono ?_
          rintro e w7 ⟨rfl, hx7⟩
          have HO7 := Lib.hid (HO6.out.ext hx7)
          clear hx7
          go_wp2_with fail
          refine (A1.out _ HO7.out.bk).mono ?_
          rintro e w8 ⟨rfl, rfl⟩
          go_wp2_with fail
          refine (A2.out _ HO7.out.bk).mono ?_
          rintro e w8 ⟨rfl, rfl⟩
          go_wp2_with fail
          go_roundw
          case rel => exact ⟨k + 1, by omega, by go_num, n5, u6, hn5, HO7.out, HF6.out⟩
          case measure => simp [intOf]; omega
    · obtain rfl : len = k := by omega
      have hJ2 : ∃ i : Nat, i ≤ 21 ∧ (Value.int .i64 0 = .int .i64 i) ∧ Cold w pb mb n i wr := ⟨0, by omega, rfl, u, O, hF, by have := hF.1 2; omega⟩
      clear O hF
      go_wp2_with fail
      go_loopw [10] (fun t wr => ∃ i : Nat, i ≤ 21 ∧ t = .int .i64 i ∧ Cold w pb mb n i wr) (fun t _ => 21 - (intOf t).toNat)
      case atStart => exact hJ2
      case round =>
        obtain ⟨i, hi, rfl, u, O, hF, hz⟩ := hrel
        clear hJ2
        by_cases hlt : i < 21
        · have hst := cold_step (u 2) i (hF.1 2).1 hz
          have e3 := hF.1 2
          have F2 := Lib.hid hF.half
          obtain ⟨b2, hb2⟩ : ∃ b2, u 2 = b2 := ⟨_, rfl⟩
          rw [hb2] at hst e3
          have hq : (fun i => u i / 2) 2 = b2 / 2 := by show u 2 / 2 = _; rw [hb2]
          have A1 := Lib.hid (show ∀ W, Bk W pb mb n u → Calls Try.prog 19 #[.pointer (some ⟨pb, 0, none⟩), .int .i64 2] W fun e w' => e = .returned (.int .i64 b2) ∧ W = w' from fun W hB => hb2 ▸ of_any W pb mb n u 2 hB (by decide))
          have A2 := Lib.hid (show ∀ W, Bk W pb mb n (fun i => u i / 2) → Calls Try.prog 19 #[.pointer (some ⟨pb, 0, none⟩), .int .i64 2] W fun e w' => e = .returned (.int .i64 (b2 / 2)) ∧ W = w' from fun W hB => hq ▸ of_any W pb mb n (fun i => u i / 2) 2 hB (by decide))
          have HO := Lib.hid O
          have HST := Lib.hid (show (fun i => u i / 2) 2 * ((2 ^ (i + 1) : Nat) : Int) ≤ 1048576 by rw [hq]; exact hst)
          have HF := Lib.hid hF
          have e7 : IntKind.i64.wrap (2 * (b2 / 2)) = 2 * (b2 / 2) := IntWalk.i64_in _ (by omega)
          have e8 : ¬ b2 < b2 / 2 := by omega
          have e9 : ¬ b2 < 2 * (b2 / 2) := by omega
          clear hst hb2 hq O hF hz
          go_wp2_with fail
          refine (A1.out _ HO.out.bk).mono ?_
          rintro e w7 ⟨rfl, rfl⟩
          go_wp2_with fail
          refine (decay_any _ pb mb n u HO.out.bk HF.out.1).mono ?_
          rintro e w6 ⟨rfl, hB6, hg6⟩
          have HO6 := Lib.hid (HO.out.book hB6 hg6)
          clear hB6 hg6
          go_wp2_with fail
          refine (A2.out _ HO6.out.bk).mono ?_
          rintro e w7 ⟨rfl, rfl⟩
          go_wp2_with fail
          refine (A2.out _ HO6.out.bk).mono ?_
          rintro e w7 ⟨rfl, rfl⟩
          go_wp2_with fail
          go_roundw
          case rel => exact ⟨i + 1, by omega, by go_num, _, HO6.out, F2.out, HST.out⟩
          case measure => simp [intOf]; omega
        · obtain rfl : 21 = i := by omega
          have h0 : u 2 = 0 := by have := (hF.1 2).1; omega
          obtain ⟨hh, hsu⟩ := hF.none h0
          have AS := Lib.hid (show ∀ W, Bk W pb mb n u → Calls Try.prog 20 #[.pointer (some ⟨pb, 0, none⟩)] W fun e w' => e = .returned (.int .i64 0) ∧ Ext W w' from fun W hB => hsu ▸ sum_any W pb mb n u hB hF.1)
          have AH := Lib.hid (show ∀ W, Bk W pb mb n u → Calls Try.prog 21 #[.pointer (some ⟨pb, 0, none⟩)] W fun e w' => ∃ B cap, e = .returned (.slice B 0 cap) ∧ Ext W w' from fun W hB => (hot_any W pb mb n u hB hF.1 (by omega)).mono (fun e w' ⟨B, cap, h1, _, _, _, h2⟩ => ⟨B, cap, by rw [h1, hh]; rfl, h2⟩))
          have HO := Lib.hid O
          clear hh hsu h0 hz hF O
          go_wp2_with fail
          refine (AS.out _ HO.out.bk).mono ?_
          rintro e w6 ⟨rfl, hx6⟩
          have HO6 := Lib.hid (HO.out.ext hx6)
          clear hx6
          go_wp2_with fail
          refine (AH.out _ HO6.out.bk).mono ?_
          rintro e w7 ⟨B, cap, rfl, hx7⟩
          have HO7 := Lib.hid (HO6.out.ext hx7)
          clear hx7
          go_wp2_with fail
          go_ret
          exact ⟨rfl, HO7.out.below⟩
theorem heatFades_walk (w : World) (v0 v1 v2 : Value) (h0 : Arg Try.prog w 41 v0) (h1 : Arg Try.prog w 41 v1) (h2 : Arg Try.prog w 3 v2) :
    Calls Try.prog 4 #[v0, v1, v2] w fun e w' => e = .returned (.bool true) ∧ Below w.heap.size w w' := by
  obtain ⟨A, len, cap, xs, rfl, a1, a2, a3, a4, a5⟩ := arg_ints Try.underlying41 Try.underlying3 (by kernel_rfl) h0
  obtain ⟨A', len', cap', ys, rfl, b1, b2, b3, b4, b5⟩ := arg_ints Try.underlying41 Try.underlying3 (by kernel_rfl) h1
  obtain ⟨d, rfl, hd⟩ := arg_int Try.underlying3 h2
  exact heatFades_core A A' len cap len' cap' xs ys d w a3 b3 a5 b5 a4 b4 (by omega) (by omega) hd
end Go.Proofs.Ytojilbacloegjaa
