/- The walk of VolsExact: the reference's Read. -/
import Derived.Test.YtkeloklncjfddaaVolsD
import Derived.Deep.RegionHeld3
namespace Go.Proofs.Ytkeloklncjfddaa
set_option linter.unusedVariables false
set_option linter.unusedSimpArgs false
open Go.RowKit

set_option maxHeartbeats 1000000 in
theorem rgood11_yes (i s r f : Int) (p : Bool) (w : World) (h : GoodVol i s r f) :
    Calls Try.prog 16 #[volV i s r p f] w fun e w' => e = .returned (.bool true) ∧ Below w.heap.size w w' :=
  (rgood11_any i s r f p w).mono fun _ _ ⟨he, hb⟩ => ⟨by rw [he]; exact ret_bool (by unfold volB; unfold GoodVol at h; simpa using h), hb⟩
theorem rgood11_no (i s r f : Int) (p : Bool) (w : World) (h : ¬ GoodVol i s r f) :
    Calls Try.prog 16 #[volV i s r p f] w fun e w' => e = .returned (.bool false) ∧ Below w.heap.size w w' :=
  (rgood11_any i s r f p w).mono fun _ _ ⟨he, hb⟩ => ⟨by rw [he]; exact ret_bool (by unfold volB; unfold GoodVol at h; simpa only [decide_eq_false_iff_not] using h), hb⟩
theorem rpair11_yes' (i s r f : Int) (p : Bool) (w : World) (h : GoodVol i s r f) :
    Calls Try.prog 18 #[volV i s r p f] w fun e w' => e = .returned (.agg #[.int .u64 (4294967296 + i), .int .u64 (volPair s r p f)]) ∧ Below w.heap.size w w' := by
  obtain ⟨h0, h1, h2, h3, h4, h5, h6, h7⟩ := h
  exact rpair11_yes i s r f p w h0 h1 h2 h3 h4 h5 h6 h7

set_option maxHeartbeats 2000000 in
theorem rread11_yes (k v : Int) (w : World) (h0 : 0 ≤ k) (h1 : k ≤ 18446744073709551615) (h2 : 0 ≤ v) (h3 : v ≤ 18446744073709551615) (h : VolOk k v) :
    Calls Try.prog 19 #[.agg #[.int .u64 k, .int .u64 v]] w fun e w' => e = .returned (.tuple #[volV (k % 4294967296) (v / 65536 % 65536) (v % 65536) (v / 4294967296 % 256 == 1) (v / 1099511627776), .bool true]) ∧ Below w.heap.size w w' := by
  obtain ⟨hg, hk, hv⟩ := h
  have Hg := Lib.hid hg
  have HP : ∀ W : World, Calls Try.prog 18 #[volV (k % 4294967296) (v / 65536 % 65536) (v % 65536) (v / 4294967296 % 256 == 1) (v / 1099511627776)] W fun e w' => e = .returned (.agg #[.int .u64 k, .int .u64 v]) ∧ Below W.heap.size W w' := by
    intro W
    have := rpair11_yes' (k % 4294967296) (v / 65536 % 65536) (v % 65536) (v / 1099511627776) (v / 4294967296 % 256 == 1) W hg
    rwa [hk, hv] at this
  have HP' := Lib.hid HP
  clear hg hk hv HP
  go_enter Try.func19, Try.ntmps19
  go_wp2_with fail
  go_region_with (first
      | (go_at_call 16; go_must (refine (rgood11_yes _ _ _ _ _ _ Hg.out).mono ?_; rintro e w1 ⟨rfl, hw1⟩; obtain ⟨hcw1, hfw1⟩ := bcell hw1; have hsw1 := hw1.size; (try simp at hsw1); have z0 : w.heap.size < w1.heap.size := (by omega); have z1 : w.heap.size + 1 < w1.heap.size := (by omega); have z2 : w.heap.size + 1 + 1 < w1.heap.size := (by omega)))
      | (go_at_call 18; go_must (refine (HP'.out _).mono ?_; rintro e w2 ⟨rfl, hw2⟩; obtain ⟨hcw2, hfw2⟩ := bcell hw2; have hsw2 := hw2.size; (try simp at hsw2); have y0 : w.heap.size < w2.heap.size := (by omega); have y1 : w.heap.size + 1 < w2.heap.size := (by omega); have y2 : w.heap.size + 1 + 1 < w2.heap.size := (by omega))))
  all_goals
    have hb : Below w.heap.size w w2 := Below.trans (Below.trans (by (repeat (first | with_reducible exact Below.refl _ _ | with_reducible assumption | with_reducible apply Below.drew | with_reducible apply below_drewN | (with_reducible refine below_set ?_ ?_; focus ((try simp); (try omega); done)) | (with_reducible refine below_new ?_ ?_; focus ((try simp); (try omega); done))))) (hw1.mono (by (try simp); omega))) (hw2.mono (by omega))
    go_wp2_with fail
    exact bodyPost_ret (v := .tuple #[volV (k % 4294967296) (v / 65536 % 65536) (v % 65536) (v / 4294967296 % 256 == 1) (v / 1099511627776), .bool true]) (by simp [results, Try.results19, go_sem, hcw1, hcw2, z0, z1, z2, y0, y1, y2]) rfl ⟨rfl, by (repeat (first | with_reducible exact Below.refl _ _ | with_reducible assumption | with_reducible apply Below.drew | with_reducible apply below_drewN | (with_reducible refine below_set ?_ ?_; focus ((try simp); (try omega); done)) | (with_reducible refine below_new ?_ ?_; focus ((try simp); (try omega); done))))⟩

set_option maxHeartbeats 2000000 in
theorem rread11_no1 (k v : Int) (w : World) (h0 : 0 ≤ k) (h1 : k ≤ 18446744073709551615) (h2 : 0 ≤ v) (h3 : v ≤ 18446744073709551615) (h : ¬ GoodVol (k % 4294967296) (v / 65536 % 65536) (v % 65536) (v / 1099511627776)) :
    Calls Try.prog 19 #[.agg #[.int .u64 k, .int .u64 v]] w fun e w' => e = .returned (.tuple #[volV 0 0 0 false 0, .bool false]) ∧ Below w.heap.size w w' := by
  have Hg := Lib.hid h
  clear h
  go_enter Try.func19, Try.ntmps19
  go_wp2_with fail
  go_region_with (go_at_call 16; go_must (refine (rgood11_no _ _ _ _ _ _ Hg.out).mono ?_; rintro e w1 ⟨rfl, hw1⟩; obtain ⟨hcw1, hfw1⟩ := bcell hw1; have hsw1 := hw1.size; (try simp at hsw1); have z0 : w.heap.size < w1.heap.size := (by omega); have z1 : w.heap.size + 1 < w1.heap.size := (by omega); have z2 : w.heap.size + 1 + 1 < w1.heap.size := (by omega)))
  all_goals
    have hb : Below w.heap.size w w1 := Below.trans (by (repeat (first | with_reducible exact Below.refl _ _ | with_reducible assumption | with_reducible apply Below.drew | with_reducible apply below_drewN | (with_reducible refine below_set ?_ ?_; focus ((try simp); (try omega); done)) | (with_reducible refine below_new ?_ ?_; focus ((try simp); (try omega); done))))) (hw1.mono (by (try simp); omega))
    go_wp2_with fail
    exact bodyPost_ret (v := .tuple #[volV 0 0 0 false 0, .bool false]) (by simp [results, Try.results19, go_sem, hcw1, z0, z1, z2]) rfl ⟨rfl, by (repeat (first | with_reducible exact Below.refl _ _ | with_reducible assumption | with_reducible apply Below.drew | with_reducible apply below_drewN | (with_reducible refine below_set ?_ ?_; focus ((try simp); (try omega); done)) | (with_reducible refine below_new ?_ ?_; focus ((try simp); (try omega); done))))⟩

set_option maxHeartbeats 2000000 in
theorem rread11_no2 (k v y x : Int) (w : World) (h0 : 0 ≤ k) (h1 : k ≤ 18446744073709551615) (h2 : 0 ≤ v) (h3 : v ≤ 18446744073709551615) (h : GoodVol (k % 4294967296) (v / 65536 % 65536) (v % 65536) (v / 1099511627776))
    (ha : 4294967296 + k % 4294967296 = y) (hx : volPair (v / 65536 % 65536) (v % 65536) (v / 4294967296 % 256 == 1) (v / 1099511627776) = x) (hd : ¬ (y = k ∧ x = v)) :
    Calls Try.prog 19 #[.agg #[.int .u64 k, .int .u64 v]] w fun e w' => e = .returned (.tuple #[volV 0 0 0 false 0, .bool false]) ∧ Below w.heap.size w w' := by
  have Hg := Lib.hid h
  have HP : ∀ W : World, Calls Try.prog 18 #[volV (k % 4294967296) (v / 65536 % 65536) (v % 65536) (v / 4294967296 % 256 == 1) (v / 1099511627776)] W fun e w' => e = .returned (.agg #[.int .u64 y, .int .u64 x]) ∧ Below W.heap.size W w' := by
    intro W
    have := rpair11_yes' (k % 4294967296) (v / 65536 % 65536) (v % 65536) (v / 1099511627776) (v / 4294967296 % 256 == 1) W h
    rwa [ha, hx] at this
  have HP' := Lib.hid HP
  clear h HP ha hx
  by_cases hy : y = k
  · subst hy
    have hx : ¬ x = v := fun e => hd ⟨rfl, e⟩
    clear hd
    go_enter Try.func19, Try.ntmps19
    go_wp2_with fail
    go_region_with (first
        | (go_at_call 16; go_must (refine (rgood11_yes _ _ _ _ _ _ Hg.out).mono ?_; rintro e w1 ⟨rfl, hw1⟩; obtain ⟨hcw1, hfw1⟩ := bcell hw1; have hsw1 := hw1.size; (try simp at hsw1); have z0 : w.heap.size < w1.heap.size := (by omega); have z1 : w.heap.size + 1 < w1.heap.size := (by omega); have z2 : w.heap.size + 1 + 1 < w1.heap.size := (by omega)))
        | (go_at_call 18; go_must (refine (HP'.out _).mono ?_; rintro e w2 ⟨rfl, hw2⟩; obtain ⟨hcw2, hfw2⟩ := bcell hw2; have hsw2 := hw2.size; (try simp at hsw2); have y0 : w.heap.size < w2.heap.size := (by omega); have y1 : w.heap.size + 1 < w2.heap.size := (by omega); have y2 : w.heap.size + 1 + 1 < w2.heap.size := (by omega))))
    all_goals
      have hb : Below w.heap.size w w2 := Below.trans (Below.trans (by (repeat (first | with_reducible exact Below.refl _ _ | with_reducible assumption | with_reducible apply Below.drew | with_reducible apply below_drewN | (with_reducible refine below_set ?_ ?_; focus ((try simp); (try omega); done)) | (with_reducible refine below_new ?_ ?_; focus ((try simp); (try omega); done))))) (hw1.mono (by (try simp); omega))) (hw2.mono (by omega))
      go_wp2_with fail
      exact bodyPost_ret (v := .tuple #[volV 0 0 0 false 0, .bool false]) (by simp [results, Try.results19, go_sem, hcw1, hcw2, z0, z1, z2, y0, y1, y2]) rfl ⟨rfl, by (repeat (first | with_reducible exact Below.refl _ _ | with_reducible assumption | with_reducible apply Below.drew | with_reducible apply below_drewN | (with_reducible refine below_set ?_ ?_; focus ((try simp); (try omega); done)) | (with_reducible refine below_new ?_ ?_; focus ((try simp); (try omega); done))))⟩
  · clear hd
    go_enter Try.func19, Try.ntmps19
    go_wp2_with fail
    go_region_with (first
        | (go_at_call 16; go_must (refine (rgood11_yes _ _ _ _ _ _ Hg.out).mono ?_; rintro e w1 ⟨rfl, hw1⟩; obtain ⟨hcw1, hfw1⟩ := bcell hw1; have hsw1 := hw1.size; (try simp at hsw1); have z0 : w.heap.size < w1.heap.size := (by omega); have z1 : w.heap.size + 1 < w1.heap.size := (by omega); have z2 : w.heap.size + 1 + 1 < w1.heap.size := (by omega)))
        | (go_at_call 18; go_must (refine (HP'.out _).mono ?_; rintro e w2 ⟨rfl, hw2⟩; obtain ⟨hcw2, hfw2⟩ := bcell hw2; have hsw2 := hw2.size; (try simp at hsw2); have y0 : w.heap.size < w2.heap.size := (by omega); have y1 : w.heap.size + 1 < w2.heap.size := (by omega); have y2 : w.heap.size + 1 + 1 < w2.heap.size := (by omega))))
    all_goals
      have hb : Below w.heap.size w w2 := Below.trans (Below.trans (by (repeat (first | with_reducible exact Below.refl _ _ | with_reducible assumption | with_reducible apply Below.drew | with_reducible apply below_drewN | (with_reducible refine below_set ?_ ?_; focus ((try simp); (try omega); done)) | (with_reducible refine below_new ?_ ?_; focus ((try simp); (try omega); done))))) (hw1.mono (by (try simp); omega))) (hw2.mono (by omega))
      go_wp2_with fail
      exact bodyPost_ret (v := .tuple #[volV 0 0 0 false 0, .bool false]) (by simp [results, Try.results19, go_sem, hcw1, hcw2, z0, z1, z2, y0, y1, y2]) rfl ⟨rfl, by (repeat (first | with_reducible exact Below.refl _ _ | with_reducible assumption | with_reducible apply Below.drew | with_reducible apply below_drewN | (with_reducible refine below_set ?_ ?_; focus ((try simp); (try omega); done)) | (with_reducible refine below_new ?_ ?_; focus ((try simp); (try omega); done))))⟩

theorem rread11_no (k v : Int) (w : World) (h0 : 0 ≤ k) (h1 : k ≤ 18446744073709551615) (h2 : 0 ≤ v) (h3 : v ≤ 18446744073709551615) (h : ¬ VolOk k v) :
    Calls Try.prog 19 #[.agg #[.int .u64 k, .int .u64 v]] w fun e w' => e = .returned (.tuple #[volV 0 0 0 false 0, .bool false]) ∧ Below w.heap.size w w' := by
  by_cases hg : GoodVol (k % 4294967296) (v / 65536 % 65536) (v % 65536) (v / 1099511627776)
  · exact rread11_no2 k v _ _ w h0 h1 h2 h3 hg rfl rfl (fun hd => h ⟨hg, hd⟩)
  · exact rread11_no1 k v w h0 h1 h2 h3 hg
end Go.Proofs.Ytkeloklncjfddaa
