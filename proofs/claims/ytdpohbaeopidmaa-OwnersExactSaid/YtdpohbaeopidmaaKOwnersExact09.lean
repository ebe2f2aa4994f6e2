/- owners: a book; New, Was, List, Count. -/
import Derived.Test.YtdpohbaeopidmaaKOwnersExact08
namespace Go.Proofs.Ytdpohbaeopidmaa
set_option linter.unusedVariables false
set_option linter.unusedSimpArgs false
open Go.RowKit Go.Maps

def SortedL (L : Int → List OwD) : Prop := ∀ c, (L c).Pairwise ltO
def OkM (m : Int → Option Value) (L : Int → List OwD) : Prop := ∀ c, L c = [] → m c = none
/-- A book: who owns what now (N), and at the last commit (W). -/
def BookS (w : World) (pb : Nat) (F : List Nat) (N W : Int → List OwD) : Prop := ∃ nb wb F1 F2 m m',
  Blk w pb 114 #[.map (some nb), .map (some wb)] ∧ ChS w nb F1 m N ∧ ChS w wb F2 m' W ∧ OkM m N ∧ OkM m' W ∧ SortedL N ∧ SortedL W ∧ F = pb :: nb :: F1 ++ wb :: F2 ∧ pb ≠ nb ∧ pb ≠ wb ∧ nb ≠ wb ∧ (∀ i ∈ F1, i ≠ pb ∧ i ≠ wb ∧ i ∉ F2) ∧ ∀ i ∈ F2, i ≠ pb ∧ i ≠ nb
def tOB (pb : Nat) (F : List Nat) (N W : Int → List OwD) : Thing where
  foot := F
  holds := fun w => BookS w pb F N W
  keep := fun w w' hs h hb => by
    obtain ⟨nb, wb, F1, F2, m, m', h1, h2, h3, h4, h5, h6, h7, rfl, h9⟩ := hb
    exact ⟨nb, wb, F1, F2, m, m', (tBlk pb _ _).keep w w' hs (fun i hi => h i (by simp [tBlk] at hi; simp [hi])) h1, (tCh nb F1 m N).keep w w' hs (fun i hi => h i (by rcases List.mem_cons.1 hi with rfl | hi <;> simp [*])) h2,
      (tCh wb F2 m' W).keep w w' hs (fun i hi => h i (by rcases List.mem_cons.1 hi with rfl | hi <;> simp [*])) h3, h4, h5, h6, h7, rfl, h9⟩
  lt := fun w h i hi => by
    obtain ⟨nb, wb, F1, F2, m, m', h1, h2, h3, h4, h5, h6, h7, rfl, h9⟩ := h
    simp only [List.mem_append, List.mem_cons, List.cons_append] at hi
    rcases hi with rfl | rfl | hi | rfl | hi
    · exact h1.lt
    · exact h2.vm.lt
    · exact h2.lt i hi
    · exact h3.vm.lt
    · exact h3.lt i hi
section
variable {H : Nat} {A w w' : World} {R : List Thing} {pb : Nat} {F : List Nat} {N W : Int → List OwD}
theorem OwnT.ob (h : OwnT H A (tOB pb F N W :: R) w) : BookS w pb F N W := h.all.1
theorem OwnT.openB (h : OwnT H A (tOB pb F N W :: R) w) : ∃ nb wb F1 F2 m m', OwnT H A (tBlk pb 114 #[.map (some nb), .map (some wb)] :: tCh nb F1 m N :: tCh wb F2 m' W :: R) w ∧ OkM m N ∧ OkM m' W ∧ SortedL N ∧ SortedL W := by
  obtain ⟨nb, wb, F1, F2, m, m', h1, h2, h3, h4, h5, h6, h7, rfl, h9, h10, h11, h12, h13⟩ := h.ob
  have k1 := h.split (tBlk pb 114 #[.map (some nb), .map (some wb)]) ⟨nb :: F1 ++ wb :: F2, fun w => ChS w nb F1 m N ∧ ChS w wb F2 m' W, fun w w' hs h hb =>
      ⟨(tCh nb F1 m N).keep w w' hs (fun i hi => h i (List.mem_append_left _ hi)) hb.1, (tCh wb F2 m' W).keep w w' hs (fun i hi => h i (List.mem_append_right _ hi)) hb.2⟩,
      fun w h i hi => by
        simp only [List.mem_append, List.mem_cons, List.cons_append] at hi
        rcases hi with rfl | hi | rfl | hi
        · exact h.1.vm.lt
        · exact h.1.lt i hi
        · exact h.2.vm.lt
        · exact h.2.lt i hi⟩ h1 ⟨h2, h3⟩ (fun i hi => by simp [tBlk] at hi; simp [tOB, hi]) (fun i hi => by simp only [tOB]; exact List.mem_cons_of_mem _ hi) (fun i hi hj => by
        simp [tBlk] at hi
        subst hi
        simp only [List.mem_append, List.mem_cons, List.cons_append] at hj
        rcases hj with e | hj | e | hj
        · exact h9 e
        · exact (h12 _ hj).1 rfl
        · exact h10 e
        · exact (h13 _ hj).1 rfl)
  have k2 := (k1.tail).split (tCh nb F1 m N) (tCh wb F2 m' W) h2 h3 (fun i hi => List.mem_append_left _ hi) (fun i hi => List.mem_append_right _ hi) (fun i hi hj => by
    rcases List.mem_cons.1 hi with rfl | hi
    · rcases List.mem_cons.1 hj with e | hj
      · exact h11 e
      · exact (h13 _ hj).2 rfl
    · rcases List.mem_cons.1 hj with e | hj
      · exact (h12 _ hi).2.1 e
      · exact (h12 _ hi).2.2 hj)
  refine ⟨nb, wb, F1, F2, m, m', ?_, h4, h5, h6, h7⟩
  refine ⟨k2.below, k2.size, ⟨h1, k2.all⟩, fun x hx i hi => ?_, List.Pairwise.cons (fun y hy i hi hj => ?_) k2.diff⟩
  · rcases List.mem_cons.1 hx with rfl | hx
    · exact k1.high _ (by simp) i hi
    · exact k2.high x hx i hi
  · have hp := List.pairwise_cons.1 k1.diff
    have hq : i ∉ nb :: F1 ++ wb :: F2 := hp.1 _ (.head _) i hi
    rcases List.mem_cons.1 hy with rfl | hy
    · exact hq (List.mem_append_left _ hj)
    · rcases List.mem_cons.1 hy with rfl | hy
      · exact hq (List.mem_append_right _ hj)
      · exact hp.1 y (.tail _ hy) i hi hj
theorem OwnT.closeB {nb wb : Nat} {F1 F2 : List Nat} {m m' : Int → Option Value} (h : OwnT H A (tBlk pb 114 #[.map (some nb), .map (some wb)] :: tCh nb F1 m N :: tCh wb F2 m' W :: R) w) (h4 : OkM m N) (h5 : OkM m' W) (h6 : SortedL N) (h7 : SortedL W) : ∃ F, OwnT H A (tOB pb F N W :: R) w := by
  have p1 := List.pairwise_cons.1 h.diff
  have p2 := List.pairwise_cons.1 p1.2
  have p3 := List.pairwise_cons.1 p2.2
  have d1 := p1.1 (tCh nb F1 m N) (by simp) pb (by simp [tBlk])
  have d2 := p1.1 (tCh wb F2 m' W) (by simp) pb (by simp [tBlk])
  have d3 := p2.1 (tCh wb F2 m' W) (by simp)
  simp only [tCh, List.mem_cons, not_or] at d1 d2 d3
  have hS : BookS w pb (pb :: nb :: F1 ++ wb :: F2) N W := ⟨nb, wb, F1, F2, m, m', h.all.1, h.all.2.1, h.all.2.2.1, h4, h5, h6, h7, rfl, d1.1, d2.1, (d3 nb (.inl rfl)).1,
    fun i hi => ⟨fun e => d1.2 (e ▸ hi), (d3 i (.inr hi)).1, (d3 i (.inr hi)).2⟩, fun i hi => ⟨fun e => d2.2 (e ▸ hi), fun e => (d3 nb (.inl rfl)).2 (e ▸ hi)⟩⟩
  refine ⟨pb :: nb :: F1 ++ wb :: F2, ?_⟩
  have hf : ∀ i ∈ (tOB pb (pb :: nb :: F1 ++ wb :: F2) N W).foot, i ∈ (tBlk pb 114 #[.map (some nb), .map (some wb)]).foot ∨ i ∈ (tCh nb F1 m N).foot ∨ i ∈ (tCh wb F2 m' W).foot := fun i hi => by
    simp only [tOB, List.mem_append, List.mem_cons, List.cons_append] at hi
    simp only [tBlk, tCh, List.mem_cons, List.not_mem_nil, or_false]
    rcases hi with rfl | rfl | hi | rfl | hi <;> simp [*]
  refine ⟨h.below, h.size, ⟨hS, h.all.2.2.2⟩, fun x hx i hi => ?_, List.Pairwise.cons (fun y hy i hi hj => ?_) p3.2⟩
  · rcases List.mem_cons.1 hx with rfl | hx
    · rcases hf i hi with h1 | h1 | h1
      · exact h.high _ (by simp) i h1
      · exact h.high _ (by simp) i h1
      · exact h.high _ (by simp) i h1
    · exact h.high x (by simp [hx]) i hi
  · rcases hf i hi with h1 | h1 | h1
    · exact p1.1 y (by simp [hy]) i h1 hj
    · exact p2.1 y (by simp [hy]) i h1 hj
    · exact p3.1 y hy i h1 hj
end
theorem ChS.row {w : World} {nb : Nat} {F : List Nat} {m : Int → Option Value} {L : Int → List OwD} (h : ChS w nb F m L) (ok : OkM m L) (c : Int) : w.ownsRow 0 31 3 ((m c).getD (.slice none 0 0)) (L c).length ((L c).flatMap ownC) := by
  by_cases hc : L c = []
  · rw [ok c hc, hc]
    exact World.ownsRow_nil _ _ _ _
  · obtain ⟨β, h1, _⟩ := h.rows
    obtain ⟨v, e1, e2, _⟩ := h1 c hc
    rw [e1]
    exact e2
theorem zero_owners (w : World) : (zeroValue 42).run Try.prog w = .ok (.slice none 0 0) w := by kernel_rfl
theorem ChS.look {w : World} {nb : Nat} {F : List Nat} {m : Int → Option Value} {L : Int → List OwD} (h : ChS w nb F m L) {c : Int} (hc : wfV c) :
    (Instr.lookup 112 (.map (some nb)) (.int .i64 c) false).run Try.prog w = .ok ((m c).getD (.slice none 0 0)) w := h.vm.look Try.underlying112 (zero_owners w) hc
theorem ChS.ext {w w' : World} {nb : Nat} {F : List Nat} {m : Int → Option Value} {L : Int → List OwD} (h : ChS w nb F m L) (k : Ext w w') : ChS w' nb F m L := (tCh nb F m L).chg h (Chg.of_ext k []) (by simp)

set_option maxHeartbeats 1000000 in
theorem newO_any {H : Nat} {A w : World} {R : List Thing} (hO : OwnT H A R w) : Calls Try.prog 13 #[] w fun e w' => ∃ pb F, e = .returned (.pointer (some ⟨pb, 0, none⟩)) ∧ OwnT H A (tOB pb F (fun _ => []) (fun _ => []) :: R) w' ∧ Ext w w' := by
  have hmm := @run_makeMap Try.prog
  have HO := Lib.hid hO
  clear hO
  go_enter Try.func13, Try.ntmps13
  go_wp2
  go_ret
  have c0 : ∀ (w : World) (b : Nat), VM w b 0 (fun _ => none) → ChS w b [] (fun _ => none) (fun _ => []) := fun w b h => ⟨h.mono (by omega), (fun c _ h => by cases h), by simp, (fun i hi => by cases hi), (fun c h => absurd rfl h), fun _ => 0, (fun c h => absurd rfl h), fun c _ h => absurd rfl h⟩
  have O1 := HO.out.cons (Ext.alloc w (.map #[] 0)) (tCh w.heap.size [] (fun _ => none) (fun _ => [])) (c0 _ _ (VM.made w)) (fun i hi => by simp [tCh] at hi; omega)
  have O2 := O1.cons (Ext.alloc _ (.map #[] 0)) (tCh (w.alloc (.map #[] 0)).heap.size [] (fun _ => none) (fun _ => [])) (c0 _ _ (VM.made _)) (fun i hi => by simp [tCh] at hi; simp; omega)
  have O3 := O2.new 114 #[.map (some w.heap.size), .map (some (w.alloc (.map #[] 0)).heap.size)]
  have O4 := O3.perm (.cons _ (.swap _ _ _))
  obtain ⟨F, O5⟩ := O4.closeB (fun _ _ => rfl) (fun _ _ => rfl) (fun _ => List.Pairwise.nil) (fun _ => List.Pairwise.nil)
  simp only [World.size_alloc] at O5
  exact ⟨_, F, rfl, O5, by (repeat (first | with_reducible exact Below.refl _ _ | with_reducible assumption | with_reducible apply Below.drew | with_reducible apply below_drewN | (with_reducible refine below_set ?_ ?_; focus ((try simp); (try omega); done)) | (with_reducible refine below_new ?_ ?_; focus ((try simp); (try omega); done))))⟩
end Go.Proofs.Ytdpohbaeopidmaa

/- owners: what only reads a book. -/
namespace Go.Proofs.Ytdpohbaeopidmaa
set_option linter.unusedVariables false
set_option linter.unusedSimpArgs false
open Go.RowKit Go.Maps

section
variable {w : World} {pb : Nat} {F : List Nat} {N W : Int → List OwD}
/-- The cells and look-ups of a book, in every world that has it. -/
theorem BookS.uses (h : BookS w pb F N W) : ∃ nb wb, ∃ mN mW : Int → Value, ∀ W', Ext w W' → W'.cell? ⟨pb, 0, none⟩ = some (.map (some nb)) ∧ W'.cell? ⟨pb, 1, none⟩ = some (.map (some wb)) ∧
    (∀ c, wfV c → (Instr.lookup 112 (.map (some nb)) (.int .i64 c) false).run Try.prog W' = .ok (mN c) W' ∧ W'.ownsRow 0 31 3 (mN c) (N c).length ((N c).flatMap ownC)) ∧
    (∀ c, wfV c → (Instr.lookup 112 (.map (some wb)) (.int .i64 c) false).run Try.prog W' = .ok (mW c) W' ∧ W'.ownsRow 0 31 3 (mW c) (W c).length ((W c).flatMap ownC)) := by
  obtain ⟨nb, wb, F1, F2, m, m', h1, h2, h3, h4, h5, h6⟩ := h
  refine ⟨nb, wb, fun c => (m c).getD (.slice none 0 0), fun c => (m' c).getD (.slice none 0 0), fun W' hE => ⟨?_, ?_, fun c hc => ⟨(h2.ext hE).look hc, (h2.ext hE).row h4 c⟩, fun c hc => ⟨(h3.ext hE).look hc, (h3.ext hE).row h5 c⟩⟩⟩
  · exact (h1.ext hE).cell 0
  · exact (h1.ext hE).cell 1
end
theorem was_nil (c : Int) (w : World) : Calls Try.prog 25 #[.pointer none, .int .i64 c] w fun e w' => e = .returned (.bool false) ∧ w = w' := by
  go_enter Try.func25, Try.ntmps25
  go_wp2
  go_ret
  exact ⟨rfl, rfl⟩
theorem was_any (w : World) (pb : Nat) (F : List Nat) (N W : Int → List OwD) (c : Int) (hB : BookS w pb F N W) (hc : wfV c) : Calls Try.prog 25 #[.pointer (some ⟨pb, 0, none⟩), .int .i64 c] w fun e w' => e = .returned (.bool (decide (0 < (W c).length))) ∧ w = w' := by
  obtain ⟨nb, wb, mN, mW, hu⟩ := hB.uses
  obtain ⟨q0, q1, -, h2⟩ := hu w (Ext.refl _)
  obtain ⟨hl, hr⟩ := h2 c hc
  obtain ⟨B, cap, hv, hcap, hmax, hlen, -⟩ := row_Row hr
  obtain ⟨n, hn⟩ : ∃ n, (W c).length = n := ⟨_, rfl⟩
  rw [hv] at hl
  rw [hn] at hl hcap ⊢
  clear hu h2 hr hv hB hn hlen
  go_enter Try.func25, Try.ntmps25
  go_wp2
  go_ret
  exact ⟨rfl, rfl⟩
theorem list_nil (c : Int) (w : World) : Calls Try.prog 21 #[.pointer none, .int .i64 c] w fun e w' => e = .returned (.slice none 0 0) ∧ w = w' := by
  go_enter Try.func21, Try.ntmps21
  go_wp2
  go_ret
  exact ⟨rfl, rfl⟩
theorem list_any (w : World) (pb : Nat) (F : List Nat) (N W : Int → List OwD) (c : Int) (hB : BookS w pb F N W) (hc : wfV c) (hn : (N c).length ≤ 1000000000000) : Calls Try.prog 21 #[.pointer (some ⟨pb, 0, none⟩), .int .i64 c] w fun e w' => ∃ B cap, e = .returned (.slice B (N c).length cap) ∧ (N c).length ≤ cap ∧ cap ≤ maxLen ∧ Row w' B 3 ownC (N c) ∧ Ext w w' := by
  obtain ⟨nb, wb, mN, mW, hu⟩ := hB.uses
  obtain ⟨q0, q1, h2, -⟩ := hu w (Ext.refl _)
  obtain ⟨hl, hr⟩ := h2 c hc
  have HC := Lib.hid (clone_raw (mN c) _ _ w hr hn (flat_one _))
  clear hu h2 hr hB
  generalize mN c = v at hl HC
  go_enter Try.func21, Try.ntmps21
  go_wp2_with fail
  refine HC.out.mono ?_
  rintro e w1 ⟨v', rfl, h3, h4⟩
  have HR := Lib.hid (And.intro (row_Row h3) h4)
  clear h3 h4
  go_wp2_with fail
  go_ret
  obtain ⟨⟨B, cap, rfl, hcap, hmax, hlen, hrow⟩, hE⟩ := HR.out
  exact ⟨B, cap, rfl, hcap, hmax, hrow, hE⟩
theorem count_nil (c : Int) (w : World) : Calls Try.prog 22 #[.pointer none, .int .i64 c] w fun e w' => e = .returned (.int .i64 0) ∧ w = w' := by
  go_enter Try.func22, Try.ntmps22
  go_wp2_with fail
  refine (list_nil c _).mono ?_
  rintro e w1 ⟨rfl, rfl⟩
  go_wp2_with fail
  go_ret
  exact ⟨rfl, rfl⟩
theorem count_any (w : World) (pb : Nat) (F : List Nat) (N W : Int → List OwD) (c : Int) (hB : BookS w pb F N W) (hc : wfV c) (hn : (N c).length ≤ 1000000000000) : Calls Try.prog 22 #[.pointer (some ⟨pb, 0, none⟩), .int .i64 c] w fun e w' => e = .returned (.int .i64 (N c).length) ∧ Ext w w' := by
  have HL := Lib.hid (list_any w pb F N W c hB hc hn)
  obtain ⟨n, hnn⟩ : ∃ n, (N c).length = n := ⟨_, rfl⟩
  rw [hnn] at hn HL ⊢
  clear hB hc hnn
  go_enter Try.func22, Try.ntmps22
  go_wp2_with fail
  refine HL.out.mono ?_
  rintro e w1 ⟨B, cap, rfl, h1, h2, h3, h4⟩
  have HE := Lib.hid h4
  clear h4 h3
  go_wp2_with fail
  go_ret
  exact ⟨rfl, HE.out⟩

def aloneB (N W : Int → List OwD) (c : Int) (o : OwD) : Bool := decide ((N c).length = 1) && !othersB (N c) o && !othersB (W c) o
theorem alone_nil (c : Int) (o : OwD) (w : World) : Calls Try.prog 23 #[.pointer none, .int .i64 c, ownV o] w fun e w' => e = .returned (.bool false) ∧ Ext w w' := by
  unfold ownV
  go_enter Try.func23, Try.ntmps23
  go_wp2
  go_ret
  exact ⟨rfl, by (repeat (first | with_reducible exact Below.refl _ _ | with_reducible assumption | with_reducible apply Below.drew | with_reducible apply below_drewN | (with_reducible refine below_set ?_ ?_; focus ((try simp); (try omega); done)) | (with_reducible refine below_new ?_ ?_; focus ((try simp); (try omega); done))))⟩
set_option maxRecDepth 100000 in
set_option maxHeartbeats 4000000 in
theorem alone_any (w : World) (pb : Nat) (F : List Nat) (N W : Int → List OwD) (c : Int) (o : OwD) (hB : BookS w pb F N W) (hc : wfV c) (hn : (N c).length ≤ 1000000000000) (hm : (W c).length ≤ 1000000000000) :
    Calls Try.prog 23 #[.pointer (some ⟨pb, 0, none⟩), .int .i64 c, ownV o] w fun e w' => e = .returned (.bool (aloneB N W c o)) ∧ Ext w w' := by
  have hlt : pb < w.heap.size := by obtain ⟨_, _, _, _, _, _, h, _⟩ := hB; exact h.lt
  obtain ⟨nb, wb, mN, mW, hu⟩ := hB.uses
  obtain ⟨-, -, h1, h2⟩ := hu w (Ext.refl _)
  obtain ⟨-, hr1⟩ := h1 c hc
  obtain ⟨-, hr2⟩ := h2 c hc
  obtain ⟨B1, cap1, hv1, hcap1, hmax1, -, hrow1⟩ := row_Row hr1
  obtain ⟨B2, cap2, hv2, hcap2, hmax2, -, hrow2⟩ := row_Row hr2
  have HU := Lib.hid (show ∀ W', Ext w W' → W'.cell? ⟨pb, 0, none⟩ = some (.map (some nb)) ∧ W'.cell? ⟨pb, 1, none⟩ = some (.map (some wb)) ∧ (Instr.lookup 112 (.map (some nb)) (.int .i64 c) false).run Try.prog W' = .ok (.slice B1 (N c).length cap1) W' ∧ (Instr.lookup 112 (.map (some wb)) (.int .i64 c) false).run Try.prog W' = .ok (.slice B2 (W c).length cap2) W' from fun W' hE => by
    obtain ⟨a, b, c1, c2⟩ := hu W' hE
    exact ⟨a, b, hv1 ▸ (c1 c hc).1, hv2 ▸ (c2 c hc).1⟩)
  obtain ⟨g, hg⟩ : ∃ g, w.heap.size = g := ⟨_, rfl⟩
  have HC1 := Lib.hid (fun W' (hE : Ext w W') (hB : Blk W' g 31 (ownC o).toArray) => containsO_any B1 (N c).length cap1 (N c) o g W' rfl hn (hrow1.below hE) hB)
  have HC2 := Lib.hid (fun W' (hE : Ext w W') (hB : Blk W' g 31 (ownC o).toArray) => containsO_any B2 (W c).length cap2 (W c) o g W' rfl hm (hrow2.below hE) hB)
  unfold aloneB
  generalize othersB (N c) o = z1 at HC1 ⊢
  generalize othersB (W c) o = z2 at HC2 ⊢
  generalize (N c).length = n1 at HC1 HU hcap1 ⊢
  generalize (W c).length = n2 at HC2 HU hcap2 ⊢
  clear hu h1 h2 hr1 hr2 hv1 hv2 hrow1 hrow2 hB hn hm
  obtain ⟨o1, o2, o3⟩ := o
  unfold ownV
  have O1 := (Own.start w).new 31 #[.int .i64 o1, .int .i64 o2, .int .i64 o3]
  have hE1 := Ext.alloc w (.cells #[.int .i64 o1, .int .i64 o2, .int .i64 o3] 31)
  rw [hg] at O1
  have HE1 := Lib.hid hE1
  have HB1 := Lib.hid (show Blk _ g 31 (ownC (o1, o2, o3)).toArray from O1.all.1)
  obtain ⟨q0, q1, l1, l2⟩ := HU.out _ hE1
  by_cases hn1 : n1 = 1
  · subst hn1
    have e1 : (((1 : Nat) : Int) == 1) = true := rfl
    clear hE1 O1
    go_enter Try.func23, Try.ntmps23
    go_wp2_with fail
    refine (HC1.out _ HE1.out HB1.out).mono ?_
    rintro e w1 ⟨rfl, h3⟩
    have HE2 := Lib.hid (HE1.out.trans h3)
    have HB2 := Lib.hid (HB1.out.ext h3)
    clear q0 q1 l1 l2 h3
    obtain ⟨q0, q1, l1, l2⟩ := HU.out _ HE2.out
    cases z1
    · go_wp2_with fail
      refine (HC2.out _ HE2.out HB2.out).mono ?_
      rintro e w2 ⟨rfl, h3⟩
      have HE3 := Lib.hid (HE2.out.trans h3)
      clear q0 q1 l1 l2 h3
      go_wp2_with fail
      go_ret
      exact ⟨by cases z2 <;> rfl, HE3.out⟩
    · go_wp2_with fail
      go_ret
      exact ⟨by cases z2 <;> rfl, HE2.out⟩
  · have e1 : (((n1 : Nat) : Int) == 1) = false := by simp; omega
    have hd : (decide (n1 = 1)) = false := by simpa using hn1
    rw [hd]
    clear hE1 O1 hd
    go_enter Try.func23, Try.ntmps23
    go_wp2_with fail
    go_ret
    exact ⟨rfl, HE1.out⟩

/-- r is the lowest number of 1 to 1023 that has no owners, now and at the last commit; 0: there is none. -/
def FreeIs (N W : Int → List OwD) (r : Int) : Prop := (1 ≤ r ∧ r ≤ 1023 ∧ N r = [] ∧ W r = [] ∧ ∀ j, 1 ≤ j → j < r → ¬ (N j = [] ∧ W j = [])) ∨ (r = 0 ∧ ∀ j, 1 ≤ j → j ≤ 1023 → ¬ (N j = [] ∧ W j = []))
theorem free_nil (w : World) : Calls Try.prog 26 #[.pointer none] w fun e w' => e = .returned (.int .i64 0) ∧ Ext w w' := by
  go_enter Try.func26, Try.ntmps26
  go_wp2_with fail
  go_loopw [3] (fun i wr => i = .int .i64 1 ∧ wr = w) (fun _ _ => 0)
  case atStart => exact ⟨rfl, rfl⟩
  case round =>
    obtain ⟨rfl, rfl⟩ := hrel
    go_wp2_with fail
    go_ret
    exact ⟨rfl, Ext.refl _⟩
set_option maxRecDepth 100000 in
set_option maxHeartbeats 4000000 in
theorem free_any (w : World) (pb : Nat) (F : List Nat) (N W : Int → List OwD) (r : Int) (hB : BookS w pb F N W) (hr : FreeIs N W r) (hn : ∀ c, (N c).length ≤ 1000000000000) (hm : ∀ c, (W c).length ≤ 1000000000000) :
    Calls Try.prog 26 #[.pointer (some ⟨pb, 0, none⟩)] w fun e w' => e = .returned (.int .i64 r) ∧ Ext w w' := by
  have HB := Lib.hid hB
  have HR := Lib.hid hr
  have HN := Lib.hid (And.intro hn hm)
  clear hB hr hn hm
  go_enter Try.func26, Try.ntmps26
  go_wp2_with fail
  go_loopw [3] (fun i wr => ∃ k : Nat, 1 ≤ k ∧ k ≤ 1024 ∧ i = .int .i64 k ∧ Hid (∀ j : Int, 1 ≤ j → j < k → ¬ (N j = [] ∧ W j = [])) ∧ Ext w wr) (fun i _ => 1024 - (intOf i).toNat)
  case atStart => exact ⟨1, by omega, by omega, rfl, fun j h1 h2 => by omega, Ext.refl _⟩
  case round =>
    obtain ⟨k, hk1, hk2, rfl, HJ, hE⟩ := hrel
    have HE := Lib.hid hE
    clear hE
    by_cases hlt : k ≤ 1023
    · obtain ⟨nb, wb, mN, mW, hu⟩ := HB.out.uses
      have hwf : wfV (k : Int) := wfV_of (by omega) (by omega)
      obtain ⟨-, -, h1, h2⟩ := hu w (Ext.refl _)
      obtain ⟨B1, cap1, hv1, hcap1, hmax1, -, -⟩ := row_Row (h1 k hwf).2
      obtain ⟨B2, cap2, hv2, hcap2, hmax2, -, -⟩ := row_Row (h2 k hwf).2
      have HU := Lib.hid (show ∀ W', Ext wr W' → W'.cell? ⟨pb, 0, none⟩ = some (.map (some nb)) ∧ W'.cell? ⟨pb, 1, none⟩ = some (.map (some wb)) ∧ (Instr.lookup 112 (.map (some nb)) (.int .i64 (k : Int)) false).run Try.prog W' = .ok (.slice B1 (N k).length cap1) W' ∧ (Instr.lookup 112 (.map (some wb)) (.int .i64 (k : Int)) false).run Try.prog W' = .ok (.slice B2 (W k).length cap2) W' from fun W' hE => by
        obtain ⟨a, b, c1, c2⟩ := hu W' (HE.out.trans hE)
        exact ⟨a, b, hv1 ▸ (c1 k hwf).1, hv2 ▸ (c2 k hwf).1⟩)
      have hb1 := HN.out.1 k
      have hb2 := HN.out.2 k
      have HZ := Lib.hid (show ((N k).length + (W k).length = 0) ↔ (N k = [] ∧ W k = []) by
        rw [Nat.add_eq_zero_iff, List.length_eq_zero_iff, List.length_eq_zero_iff])
      clear hu h1 h2 hv1 hv2
      generalize (N k).length = n1 at HU hcap1 hb1 HZ
      generalize (W k).length = n2 at HU hcap2 hb2 HZ
      have hsum : IntKind.i64.wrap ((n1 : Int) + (n2 : Int)) = (n1 : Int) + (n2 : Int) := IntWalk.i64_in _ (by omega)
      obtain ⟨z, hz⟩ : ∃ z : Bool, ((n1 : Int) + (n2 : Int) == 0) = z := ⟨_, rfl⟩
      have HZ2 := Lib.hid (show z = true ↔ (N k = [] ∧ W k = []) by
        rw [← HZ.out, ← hz, beq_iff_eq]
        omega)
      go_upto_region 4 with fail
      refine wp_typed (R := Ext) (w0 := wr) [[], [0], [0, 1], [0, 1, 2], [], [0, 1, 2, 3, 4], [0, 1, 2, 3, 4, 5], [], [7], [7, 8], [7, 8, 9], [], [7, 8, 9, 10, 11], [7, 8, 9, 10, 11, 12], [0, 1, 2, 3, 4, 5, 6, 7, 8, 9, 10, 11, 12, 13], [0, 1, 2, 3, 4, 5, 6, 7, 8, 9, 10, 11, 12, 13, 14]] [12, 13, 14, 15, 16, 17, 18, 19, 20, 21, 22, 23, 24, 25, 26, 27] Ext.refl (fun _ _ _ => Ext.trans) (Ext.drew _) (by kernel_rfl) ?_
      apply Build.det 12 Ext.refl (by rfl) (by rfl) rfl
      case h =>   -- 0: t12 := Op.move (tmp 0)
        intro ax wx hE hR hF
        have e0 : ax.eval (.tmp 0) = .pointer (some ⟨pb, 0, none⟩) := hE.eval 0 (by rfl) rfl
        simp [go_sem, BigFrame.eval_const, BigFrame.eval_global, BigFrame.eval_func, ↓IntWalk.iteOmega, ev e0]
        with_reducible rfl
      apply Build.det 13 Ext.refl (by rfl) (by rfl) rfl
      case h =>   -- 1: t13 := Op.nilCheck (tmp 12)
        intro ax wx hE hR hF
        have e12 : ax.eval (.tmp 12) = _ := hF 0 (det 12 _) (by decide) (.head _)
        simp [go_sem, BigFrame.eval_const, BigFrame.eval_global, BigFrame.eval_func, ↓IntWalk.iteOmega, ev e12]
        with_reducible rfl
      apply Build.det 14 Ext.refl (by rfl) (by rfl) rfl
      case h =>   -- 2: t14 := Op.fieldAddr 114 (tmp 13) 0
        intro ax wx hE hR hF
        have e13 : ax.eval (.tmp 13) = _ := hF 1 (det 13 _) (by decide) (.head _)
        simp [go_sem, BigFrame.eval_const, BigFrame.eval_global, BigFrame.eval_func, ↓IntWalk.iteOmega, ev e13]
        with_reducible rfl
      apply Build.det 15 Ext.refl (by rfl) (by rfl) rfl
      case h =>   -- 3: t15 := Op.load 112 (tmp 14)
        intro ax wx hE hR hF
        have e14 : ax.eval (.tmp 14) = _ := hF 2 (det 14 _) (by decide) (.head _)
        obtain ⟨q0, q1, l1, l2⟩ := HU.out wx hR
        simp [go_sem, BigFrame.eval_const, BigFrame.eval_global, BigFrame.eval_func, ↓IntWalk.iteOmega, ev e14, q0, q1, l1, l2]
        with_reducible rfl
      apply Build.det 16 Ext.refl (by rfl) (by rfl) rfl
      case h =>   -- 4: t16 := Op.move (tmp 3)
        intro ax wx hE hR hF
        have e3 : ax.eval (.tmp 3) = .int .i64 k := hE.eval 3 (by rfl) rfl
        simp [go_sem, BigFrame.eval_const, BigFrame.eval_global, BigFrame.eval_func, ↓IntWalk.iteOmega, ev e3]
        with_reducible rfl
      apply Build.det 17 Ext.refl (by rfl) (by rfl) rfl
      case h =>   -- 5: t17 := Op.lookup 112 (tmp 15) (tmp 16) false
        intro ax wx hE hR hF
        have e15 : ax.eval (.tmp 15) = _ := hF 3 (det 15 _) (by decide) (.tail _ (.head _))
        have e16 : ax.eval (.tmp 16) = _ := hF 4 (det 16 _) (by decide) (.head _)
        obtain ⟨q0, q1, l1, l2⟩ := HU.out wx hR
        simp [go_sem, BigFrame.eval_const, BigFrame.eval_global, BigFrame.eval_func, ↓IntWalk.iteOmega, ev e15, ev e16, l1]
        with_reducible rfl
      apply Build.det 18 Ext.refl (by rfl) (by rfl) rfl
      case h =>   -- 6: t18 := Op.call {callee := Callee.builtin Builtin.len, args := #[tmp 17], argT
        intro ax wx hE hR hF
        have e17 : ax.eval (.tmp 17) = _ := hF 5 (det 17 _) (by decide) (.head _)
        simp [go_sem, BigFrame.eval_const, BigFrame.eval_global, BigFrame.eval_func, ↓IntWalk.iteOmega, ev e17]
        with_reducible rfl
      apply Build.det 19 Ext.refl (by rfl) (by rfl) rfl
      case h =>   -- 7: t19 := Op.move (tmp 0)
        intro ax wx hE hR hF
        have e0 : ax.eval (.tmp 0) = .pointer (some ⟨pb, 0, none⟩) := hE.eval 0 (by rfl) rfl
        simp [go_sem, BigFrame.eval_const, BigFrame.eval_global, BigFrame.eval_func, ↓IntWalk.iteOmega, ev e0]
        with_reducible rfl
      apply Build.det 20 Ext.refl (by rfl) (by rfl) rfl
      case h =>   -- 8: t20 := Op.nilCheck (tmp 19)
        intro ax wx hE hR hF
        have e19 : ax.eval (.tmp 19) = _ := hF 7 (det 19 _) (by decide) (.head _)
        simp [go_sem, BigFrame.eval_const, BigFrame.eval_global, BigFrame.eval_func, ↓IntWalk.iteOmega, ev e19]
        with_reducible rfl
      apply Build.det 21 Ext.refl (by rfl) (by rfl) rfl
      case h =>   -- 9: t21 := Op.fieldAddr 114 (tmp 20) 1
        intro ax wx hE hR hF
        have e20 : ax.eval (.tmp 20) = _ := hF 8 (det 20 _) (by decide) (.head _)
        simp [go_sem, BigFrame.eval_const, BigFrame.eval_global, BigFrame.eval_func, ↓IntWalk.iteOmega, ev e20]
        with_reducible rfl
      apply Build.det 22 Ext.refl (by rfl) (by rfl) rfl
      case h =>   -- 10: t22 := Op.load 112 (tmp 21)
        intro ax wx hE hR hF
        have e21 : ax.eval (.tmp 21) = _ := hF 9 (det 21 _) (by decide) (.head _)
        obtain ⟨q0, q1, l1, l2⟩ := HU.out wx hR
        simp [go_sem, BigFrame.eval_const, BigFrame.eval_global, BigFrame.eval_func, ↓IntWalk.iteOmega, ev e21, q0, q1, l1, l2]
        with_reducible rfl
      apply Build.det 23 Ext.refl (by rfl) (by rfl) rfl
      case h =>   -- 11: t23 := Op.move (tmp 3)
        intro ax wx hE hR hF
        have e3 : ax.eval (.tmp 3) = .int .i64 k := hE.eval 3 (by rfl) rfl
        simp [go_sem, BigFrame.eval_const, BigFrame.eval_global, BigFrame.eval_func, ↓IntWalk.iteOmega, ev e3]
        with_reducible rfl
      apply Build.det 24 Ext.refl (by rfl) (by rfl) rfl
      case h =>   -- 12: t24 := Op.lookup 112 (tmp 22) (tmp 23) false
        intro ax wx hE hR hF
        have e22 : ax.eval (.tmp 22) = _ := hF 10 (det 22 _) (by decide) (.tail _ (.head _))
        have e23 : ax.eval (.tmp 23) = _ := hF 11 (det 23 _) (by decide) (.head _)
        obtain ⟨q0, q1, l1, l2⟩ := HU.out wx hR
        simp [go_sem, BigFrame.eval_const, BigFrame.eval_global, BigFrame.eval_func, ↓IntWalk.iteOmega, ev e22, ev e23, l2]
        with_reducible rfl
      apply Build.det 25 Ext.refl (by rfl) (by rfl) rfl
      case h =>   -- 13: t25 := Op.call {callee := Callee.builtin Builtin.len, args := #[tmp 24], argT
        intro ax wx hE hR hF
        have e24 : ax.eval (.tmp 24) = _ := hF 12 (det 24 _) (by decide) (.head _)
        simp [go_sem, BigFrame.eval_const, BigFrame.eval_global, BigFrame.eval_func, ↓IntWalk.iteOmega, ev e24]
        with_reducible rfl
      apply Build.det 26 Ext.refl (by rfl) (by rfl) rfl
      case h =>   -- 14: t26 := Op.binOp BinOp.add 3 (tmp 18) (tmp 25) 3
        intro ax wx hE hR hF
        have e18 : ax.eval (.tmp 18) = _ := hF 6 (det 18 _) (by decide) (.tail _ (.tail _ (.tail _ (.tail _ (.tail _ (.tail _ (.tail _ (.head _))))))))
        have e25 : ax.eval (.tmp 25) = _ := hF 13 (det 25 _) (by decide) (.head _)
        simp [go_sem, BigFrame.eval_const, BigFrame.eval_global, BigFrame.eval_func, ↓IntWalk.iteOmega, ev e18, ev e25, hsum]
        with_reducible rfl
      apply Build.det 27 Ext.refl (by rfl) (by rfl) rfl
      case h =>   -- 15: t27 := Op.binOp BinOp.eql 3 (tmp 26) (const (Value.int IntKind.i64 0)) 3
        intro ax wx hE hR hF
        have e26 : ax.eval (.tmp 26) = _ := hF 14 (det 26 _) (by decide) (.head _)
        simp [go_sem, BigFrame.eval_const, BigFrame.eval_global, BigFrame.eval_func, ↓IntWalk.iteOmega, ev e26, hz]
        with_reducible rfl
      apply Build.stop
      refine ⟨by kernel_rfl, .inl ⟨rfl, ?_⟩⟩
      intro ax w3 hE R3 hF
      have e12 : ax.eval (.tmp 12) = _ := hF 0 (det 12 _) (.tail _ (.tail _ (.tail _ (.tail _ (.tail _ (.tail _ (.tail _ (.tail _ (.tail _ (.tail _ (.tail _ (.tail _ (.tail _ (.tail _ (.tail _ (.head _))))))))))))))))
      have e13 : ax.eval (.tmp 13) = _ := hF 1 (det 13 _) (.tail _ (.tail _ (.tail _ (.tail _ (.tail _ (.tail _ (.tail _ (.tail _ (.tail _ (.tail _ (.tail _ (.tail _ (.tail _ (.tail _ (.head _)))))))))))))))
      have e14 : ax.eval (.tmp 14) = _ := hF 2 (det 14 _) (.tail _ (.tail _ (.tail _ (.tail _ (.tail _ (.tail _ (.tail _ (.tail _ (.tail _ (.tail _ (.tail _ (.tail _ (.tail _ (.head _))))))))))))))
      have e15 : ax.eval (.tmp 15) = _ := hF 3 (det 15 _) (.tail _ (.tail _ (.tail _ (.tail _ (.tail _ (.tail _ (.tail _ (.tail _ (.tail _ (.tail _ (.tail _ (.tail _ (.head _)))))))))))))
      have e16 : ax.eval (.tmp 16) = _ := hF 4 (det 16 _) (.tail _ (.tail _ (.tail _ (.tail _ (.tail _ (.tail _ (.tail _ (.tail _ (.tail _ (.tail _ (.tail _ (.head _))))))))))))
      have e17 : ax.eval (.tmp 17) = _ := hF 5 (det 17 _) (.tail _ (.tail _ (.tail _ (.tail _ (.tail _ (.tail _ (.tail _ (.tail _ (.tail _ (.tail _ (.head _)))))))))))
      have e18 : ax.eval (.tmp 18) = _ := hF 6 (det 18 _) (.tail _ (.tail _ (.tail _ (.tail _ (.tail _ (.tail _ (.tail _ (.tail _ (.tail _ (.head _))))))))))
      have e19 : ax.eval (.tmp 19) = _ := hF 7 (det 19 _) (.tail _ (.tail _ (.tail _ (.tail _ (.tail _ (.tail _ (.tail _ (.tail _ (.head _)))))))))
      have e20 : ax.eval (.tmp 20) = _ := hF 8 (det 20 _) (.tail _ (.tail _ (.tail _ (.tail _ (.tail _ (.tail _ (.tail _ (.head _))))))))
      have e21 : ax.eval (.tmp 21) = _ := hF 9 (det 21 _) (.tail _ (.tail _ (.tail _ (.tail _ (.tail _ (.tail _ (.head _)))))))
      have e22 : ax.eval (.tmp 22) = _ := hF 10 (det 22 _) (.tail _ (.tail _ (.tail _ (.tail _ (.tail _ (.head _))))))
      have e23 : ax.eval (.tmp 23) = _ := hF 11 (det 23 _) (.tail _ (.tail _ (.tail _ (.tail _ (.head _)))))
      have e24 : ax.eval (.tmp 24) = _ := hF 12 (det 24 _) (.tail _ (.tail _ (.tail _ (.head _))))
      have e25 : ax.eval (.tmp 25) = _ := hF 13 (det 25 _) (.tail _ (.tail _ (.head _)))
      have e26 : ax.eval (.tmp 26) = _ := hF 14 (det 26 _) (.tail _ (.head _))
      have e27 : ax.eval (.tmp 27) = _ := hF 15 (det 27 _) (.head _)
      rw [AllEq.frame (D := [12, 13, 14, 15, 16, 17, 18, 19, 20, 21, 22, 23, 24, 25, 26, 27]) (AllEq.cons e12 (AllEq.cons e13 (AllEq.cons e14 (AllEq.cons e15 (AllEq.cons e16 (AllEq.cons e17 (AllEq.cons e18 (AllEq.cons e19 (AllEq.cons e20 (AllEq.cons e21 (AllEq.cons e22 (AllEq.cons e23 (AllEq.cons e24 (AllEq.cons e25 (AllEq.cons e26 (AllEq.cons e27 (AllEq.nil))))))))))))))))) hE rfl]
      clear hF hE e12 e13 e14 e15 e16 e17 e18 e19 e20 e21 e22 e23 e24 e25 e26 e27
      simp only [List.foldl_cons, List.foldl_nil, Act.put, List.setIfInBounds_toArray, List.set_cons_succ, List.set_cons_zero]
      have HE3 := Lib.hid (HE.out.trans R3)
      clear R3 hsum hz
      cases z
      · have HJ2 : Hid (∀ j : Int, 1 ≤ j → j < ((k + 1 : Nat) : Int) → ¬ (N j = [] ∧ W j = [])) := Lib.hid (fun j h1 h2 => by
          by_cases e : j = (k : Int)
          · subst e
            intro h
            have := HZ2.out.2 h
            cases this
          · exact HJ.out j h1 (by omega))
        go_wp2_with fail
        go_roundw
        case rel => exact ⟨k + 1, by omega, by omega, by go_num, HJ2, HE3.out⟩
        case measure => simp [intOf]; omega
      · have hrk : r = (k : Int) := by
          have he := HZ2.out.1 rfl
          rcases HR.out with ⟨a1, a2, a3, a4, a5⟩ | ⟨_, a5⟩
          · rcases Int.lt_trichotomy r k with h | h | h
            · exact absurd ⟨a3, a4⟩ (HJ.out r a1 h)
            · exact h
            · exact absurd he (a5 k (by omega) h)
          · exact absurd he (a5 k (by omega) (by omega))
        have HRK := Lib.hid hrk
        clear hrk
        go_wp2_with fail
        go_ret
        exact ⟨ret_int HRK.out.symm, HE3.out⟩
    · obtain rfl : 1024 = k := by omega
      have hrk : r = 0 := by
        rcases HR.out with ⟨a1, a2, a3, a4, a5⟩ | ⟨h, _⟩
        · exact absurd ⟨a3, a4⟩ (HJ.out r a1 (by omega))
        · exact h
      have HRK := Lib.hid hrk
      clear hrk
      go_wp2_with fail
      go_ret
      exact ⟨ret_int HRK.out.symm, HE.out⟩
end Go.Proofs.Ytdpohbaeopidmaa
