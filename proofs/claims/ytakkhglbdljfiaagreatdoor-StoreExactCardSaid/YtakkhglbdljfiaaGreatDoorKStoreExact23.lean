/- What a crash leaves of a store (plain); rows of rows of pages. -/
import Derived.Test.YtakkhglbdljfiaaGreatDoorKStoreExact20
import Derived.Test.YtakkhglbdljfiaaGreatDoorKStoreExact22
import Derived.Test.YtakkhglbdljfiaaGreatDoorKStoreExact02
namespace Go.Proofs.YtakkhglbdljfiaaGreatDoor
set_option linter.unusedVariables false
set_option linter.unusedSimpArgs false
open Go.RowKit Go.Maps

section
variable {P n : Nat} {S : List Sec} {L : Int → Option Sec} {q : List UInt8} {K : Int → Bool} {F : Int → Option Nd} {g : Nat → Int} {h : Hd} {o at_ : Nat} {ps xs : List Int}
theorem pgS_same {T : List Sec} {c : Nat} (h : ∀ j, j < 16 → sc T (16 * c + j) = sc S (16 * c + j)) : pgS T c = pgS S c := by
  rw [Z55, Z55]
  congr 1
  exact List.map_congr_left (fun j hj => h j (List.mem_range.1 hj))
/-- A head and just its pages lie whole on a device. -/
structure Held (P : Nat) (S : List Sec) (h : Hd) (o at_ : Nat) (ps : List Int) : Prop where
  hd : HeadsAt S h o
  gen : h.g = at_ + 1
  r0 : at_ = 0 → h.r = 0
  r1 : 0 < at_ → ps[0]? = some h.r
  pg : ∀ (j : Nat) c, ps[j]? = some c → (1 ≤ c ∧ c < (P : Nat)) ∧ pgS S c.toNat = pgB (node (100 * ((at_ : Int) - 1) + j))
theorem HeadsAt.same {T : List Sec} (hh : HeadsAt S h o) (h0 : sc T 0 = sc S 0) (h1 : sc T 1 = sc S 1) : HeadsAt T h o := by
  obtain ⟨a1, a2, a3, a4⟩ := hh
  have e : ∀ i, i = 0 ∨ i = 1 → sc T i = sc S i := fun i hi => by rcases hi with rfl | rfl <;> assumption
  refine ⟨a1, a2, (e o a1).trans a3, ?_⟩
  rw [e (1 - o) (by omega)]
  exact a4
/-- Other pages have been written. -/
theorem Held.other {T : List Sec} (hh : Held P S h o at_ ps) (h0 : sc T 0 = sc S 0) (h1 : sc T 1 = sc S 1) (hp : ∀ c ∈ ps, ∀ j, j < 16 → sc T (16 * c.toNat + j) = sc S (16 * c.toNat + j)) : Held P T h o at_ ps :=
  ⟨hh.hd.same h0 h1, hh.gen, hh.r0, hh.r1, fun j c hj => ⟨(hh.pg j c hj).1, (pgS_same (hp c (List.mem_of_getElem? hj))).trans (hh.pg j c hj).2⟩⟩
/-- The pages are written, and flushed. -/
abbrev wrS7 (P : Nat) (S : List Sec) (F : Int → Option Nd) (xs : List Int) : List Sec := nowL S (wrF F noL (todo P F xs))
theorem Held.flushed (hh : Held P S h o at_ ps) (hS : S.length = n) (hP : 16 * P ≤ n) (hP1 : 1 ≤ P) (hk : ∀ c ∈ ps, K c = true) (hA : Adds P K F xs g) : Held P (wrS7 P S F xs) h o at_ ps := by
  have htd : ∀ c ∈ todo P F xs, 1 ≤ c := fun c hc => (hA.free c (Z26.1 hc).2).2.1
  refine hh.other (hd_old (by omega) (by decide) htd) (hd_old (by omega) (by decide) htd) (fun c hc j hj => ?_)
  obtain ⟨jc, hjc⟩ := List.getElem?_of_mem hc
  have hbc := (hh.pg jc c hjc).1
  have hno : ((c.toNat : Nat) : Int) ∉ todo P F xs := fun hm => by
    have h1 := (hA.free _ (Z26.1 hm).2).1
    rw [Int.toNat_of_nonneg (by omega), hk c hc] at h1
    cases h1
  rw [Z4a (by omega)]
  unfold nowAt
  rw [Z86 hno hj]
  rfl
theorem Z7v {j : Nat} {c : Int} (hS : S.length = n) (hP : 16 * P ≤ n) (hA : Adds P K F xs g) (hj : xs[j]? = some c) : pgS (wrS7 P S F xs) c.toNat = pgB (node (g j)) := by
  have hm := List.mem_of_getElem? hj
  obtain ⟨_, h1, h2⟩ := hA.free c hm
  have e : ((c.toNat : Nat) : Int) = c := Int.toNat_of_nonneg (by omega)
  exact pg_new (nd := node (g j)) (by omega) (by rw [e]; exact hA.todo hm) (by rw [e]; exact hA.at_ j c hj) (Z3g _)
/-- The next head is there: all of the next commit is. -/
theorem Held.next {T : List Sec} {root : Int} (hh : Held P S h o at_ ps) (hS : S.length = n) (hn : 16 * P ≤ n) (hP1 : 1 ≤ P) (hA : Adds P K F xs (fun j => 100 * (at_ : Int) + j)) (ok : (nextHd h root).Ok) (hr : xs[0]? = some root)
    (hT : ∀ i, i < n → i ≠ 1 - o → sc T i = sc (wrS7 P S F xs) i) (hT1 : sc T (1 - o) = hdB (nextHd h root)) : Held P T (nextHd h root) (1 - o) (at_ + 1) xs := by
  obtain ⟨a1, a2, a3, a4⟩ := hh.hd
  have htd : ∀ c ∈ todo P F xs, 1 ≤ c := fun c hc => (hA.free c (Z26.1 hc).2).2.1
  refine ⟨⟨by omega, ok, hT1, .inr ⟨h, ?_, a2, ?_⟩⟩, ?_, fun e => by omega, fun _ => hr, fun j c hj => ?_⟩
  · rw [show 1 - (1 - o) = o by omega, hT o (by omega) (by omega), hd_old (by omega) (by omega) htd]
    exact a3
  · show h.g < h.g + 1
    omega
  · show h.g + 1 = _
    have := hh.gen
    omega
  · have hm := List.mem_of_getElem? hj
    obtain ⟨_, h1, h2⟩ := hA.free c hm
    refine ⟨⟨h1, h2⟩, ?_⟩
    rw [pgS_same (S := wrS7 P S F xs) (fun i hi => hT _ (by omega) (by omega)), Z7v hS hn hA hj]
    congr 2
    omega
/-- Behind a whole commit. -/
theorem Held.commit {root : Int} (hh : Held P S h o at_ ps) (hS : S.length = n) (hn : 16 * P ≤ n) (hP1 : 1 ≤ P) (hA : Adds P K F xs (fun j => 100 * (at_ : Int) + j)) (ok : (nextHd h root).Ok) (hr : xs[0]? = some root) :
    Held P (cmS S F (todo P F xs) (1 - o) (hdB (nextHd h root))) (nextHd h root) (1 - o) (at_ + 1) xs := by
  have ho := hh.hd.1
  refine hh.next hS hn hP1 hA ok hr (fun i hi hne => ?_) ?_
  · unfold cmS
    exact hd_else (by rw [Z2f]; omega) hne
  · exact cm_hd (by omega) (Z2n _)
/-- Whatever stays, it is the last commit that was sure, or the next one. -/
def Sound7 (P n : Nat) (Qs : List (List Int)) (sure : Nat) (S : List Sec) (L : Int → Option Sec) : Prop :=
  ∀ q : List UInt8, ∃ (at_ : Nat) (h : Hd) (o : Nat) (ps : List Int), (at_ = sure ∨ at_ = sure + 1) ∧ Qs[at_]? = some ps ∧ Held P (setK q L (looL n L) 0 S) h o at_ ps
theorem Held.sound {Qs : List (List Int)} (hh : Held P S h o at_ ps) (hq : Qs[at_]? = some ps) : Sound7 P n Qs at_ S noL := fun q => by
  refine ⟨at_, h, o, ps, .inl rfl, hq, ?_⟩
  rw [looL_no7]
  exact hh
end
/-! A pool of rows of numbers. -/
section
variable {H : Nat} {A w : World} {R : List Thing}
end
theorem OwnT.asRowN {g k n : Nat} {T : TypeId} {H : Nat} {A w : World} {L : List Thing} {cs : List Value} (h : OwnT H A (tBlk g T cs.toArray :: L) w) (hn : cs.length = n * k) (hm : n ≤ maxLen) : OwnT H A (tRow T k (.slice (some ⟨g, 0, none⟩) n n) n cs :: L) w :=
  h.call (F := []) (Chg.refl [] w) (by simp) (tRow T k (.slice (some ⟨g, 0, none⟩) n n) n cs) (row_of h.b0 (Nat.le_refl _) hm (by simpa using hn) (by rw [← hn]; simp)) (fun i hi => .inl (by simpa [tRow, tBlk, Value.ownBlock] using hi))
section
variable {H : Nat} {A0 : World} {R : List Thing} {sb p kb fb mb n cap bm : Nat} {B : Option Addr} {S : List Sec} {h : Hd} {K : Int → Bool} {m : Int → Option Value} {F : Int → Option Nd} {vs : List Value} {N : List Nd} {M : Mn}
end

theorem own_blk {w : World} {base : Nat} {T : TypeId} {k n g : Nat} {xs : List Value} (h : w.ownsRow base T k (.slice (some ⟨g, 0, none⟩) n n) n xs) : Blk w g T xs.toArray ∧ base ≤ g := by
  rcases h.2 with ⟨e, _⟩ | ⟨g', cap, cur, e, hg, hb, _, _, h4, h5⟩
  · cases e
  · injection e with e1 e2 e3
    injection e1 with e1
    injection e1 with e1
    subst e1
    subst e3
    have : cur.toList.length = n * k := by rw [Array.length_toList, h4]
    rw [List.take_of_length_le (by omega)] at h5
    subst h5
    exact ⟨hb, hg⟩
theorem info_bool7 : ∃ i : TypeInfo, Tryz.prog.info? 4 = some i ∧ i.zero = some (.bool false) ∧ i.size = 1 ∧ i.bytes = 1 := by
  have h : (Tryz.prog.info? 4).map (fun i => (i.zero, i.size, i.bytes)) = some (some (.bool false), 1, 1) := by kernel_rfl
  exact info_parts h
theorem info_leaf7 : ∃ i : TypeInfo, Tryz.prog.info? 47 = some i ∧ i.zero = some (.agg #[.int .i64 0, .slice none 0 0]) ∧ i.size = 2 ∧ i.bytes = 32 := by
  have h : (Tryz.prog.info? 47).map (fun i => (i.zero, i.size, i.bytes)) = some (some (.agg #[.int .i64 0, .slice none 0 0]), 2, 32) := by kernel_rfl
  exact info_parts h
theorem Z7o (w : World) (n : Nat) (hn : n ≤ 10000000) : ∃ g w', (Instr.makeSlice 59 (.int .i64 n) (.int .i64 n)).run Tryz.prog w = .ok (.slice (some ⟨g, 0, none⟩) n n) w' ∧ Ext w w' ∧ Blk w' g 4 (boA n fun _ => false) ∧ w.heap.size ≤ g := by
  obtain ⟨i, hi, hz, hs, hb⟩ := info_bool7
  obtain ⟨w', h1, h2, h3⟩ := run_makeSlice_full (P := Tryz.prog) w w.heap.size 59 4 i (.bool false) 1 Tryz.underlying59 hi hz hs .i64 .i64 n (by omega) (by rw [hb]; omega) (by unfold maxLen; omega) (Nat.le_refl _)
  obtain ⟨hk, hg⟩ := own_blk h2
  refine ⟨_, w', h1, ⟨h3.os, h3.tape, h3.output, h3.size, fun i hi => h3.block i hi (by simp)⟩, ?_, hg⟩
  have e : (madeCells (Value.bool false).cells (n * 1)).toList = boV n fun _ => false := by
    have := h2.1
    apply List.ext_getElem?
    intro i
    by_cases hi : i < n
    · rw [boV_at hi]
      simp [madeCells, Value.cells, hi, Nat.mod_one]
    · rw [List.getElem?_eq_none (by rw [this]; omega), List.getElem?_eq_none (by rw [Z71]; omega)]
  rw [e] at hk
  exact hk
theorem mk_leaves7 (w : World) (n : Nat) (hn : n ≤ 1000000) : ∃ g w', (Instr.makeSlice 60 (.int .i64 n) (.int .i64 n)).run Tryz.prog w = .ok (.slice (some ⟨g, 0, none⟩) n n) w' ∧ Ext w w' ∧ Blk w' g 47 (ndA n fun _ => .slice none 0 0) ∧ w.heap.size ≤ g := by
  obtain ⟨i, hi, hz, hs, hb⟩ := info_leaf7
  obtain ⟨w', h1, h2, h3⟩ := run_makeSlice_full (P := Tryz.prog) w w.heap.size 60 47 i (.agg #[.int .i64 0, .slice none 0 0]) 2 Tryz.underlying60 hi hz hs .i64 .i64 n (by omega) (by rw [hb]; omega) (by unfold maxLen; omega) (Nat.le_refl _)
  obtain ⟨hk, hg⟩ := own_blk h2
  refine ⟨_, w', h1, ⟨h3.os, h3.tape, h3.output, h3.size, fun i hi => h3.block i hi (by simp)⟩, ?_, hg⟩
  have e : (madeCells (Value.agg #[.int .i64 0, .slice none 0 0]).cells (n * 2)).toList = ndV n fun _ => .slice none 0 0 := by
    have := h2.1
    apply List.ext_getElem?
    intro i
    by_cases hi : i < n * 2
    · rcases (show i % 2 = 0 ∨ i % 2 = 1 by omega) with h0 | h0
      · obtain ⟨z, rfl⟩ : ∃ z, i = 2 * z := ⟨i / 2, by omega⟩
        rw [(Z7n (show z < n by omega)).1]
        simp [madeCells, Value.cells, hi, h0]
      · obtain ⟨z, rfl⟩ : ∃ z, i = 2 * z + 1 := ⟨i / 2, by omega⟩
        rw [(Z7n (show z < n by omega)).2]
        simp [madeCells, Value.cells, hi, h0]
    · rw [List.getElem?_eq_none (by rw [this]; omega), List.getElem?_eq_none (by rw [Z43]; omega)]
  rw [e] at hk
  exact hk
/-- What New makes. -/
def mkU (P : Nat) : List MkT := [⟨2, 7, fun g => tBlk g 4 (boA P fun _ => false), fun g => .slice (some ⟨g, 0, none⟩) P P⟩, ⟨4, 9, fun g => tBlk g 4 (boA P fun _ => false), fun g => .slice (some ⟨g, 0, none⟩) P P⟩, ⟨6, 11, fun g => tBlk g 47 (ndA P fun _ => .slice none 0 0), fun g => .slice (some ⟨g, 0, none⟩) P P⟩]
theorem mkU_k (P : Nat) : ((mkU P).map (·.k)).Nodup := show ([2, 4, 6] : List Nat).Nodup by decide
theorem mkU_d (P : Nat) : ((mkU P).map (·.d)).Nodup := show ([7, 9, 11] : List Nat).Nodup by decide
theorem Z72 {g H : Nat} {t : TypeId} {cs : Array Value} (h : H ≤ g) : ∀ i ∈ (tBlk g t cs).foot, H ≤ i := fun i hi => by
  have hi : i ∈ [g] := hi
  rw [List.mem_singleton.1 hi]
  exact h
end Go.Proofs.YtakkhglbdljfiaaGreatDoor

/- the reference's store: New; node (printed by XStW.gen.py). -/
namespace Go.Proofs.YtakkhglbdljfiaaGreatDoor
attribute [local simp] BigFrame.eval_const BigFrame.eval_global BigFrame.eval_func
set_option linter.unusedVariables false
set_option linter.unusedSimpArgs false
open Go.RowKit Go.Maps

set_option maxRecDepth 100000 in
set_option maxHeartbeats 8000000 in
theorem node_own (n : Int) (W0 : World) : Calls Tryz.prog 14 #[.int .i64 n] W0 fun e w' => ∃ g, e = .returned (.agg #[.int .i64 0, .slice (some ⟨g, 0, none⟩) 1 1]) ∧ OwnT W0.heap.size W0 [tPs (.slice (some ⟨g, 0, none⟩) 1 1) (nodeP n)] w' := by
 have O := OwnT.start W0
 refine Z0c Tryz.func14 rfl 10 rfl (by rfl) ?_
 intro a1 k hargs; have e0 : a1.eval (.tmp 0) = .int .i64 n := hargs 0 _ rfl
 clear hargs; refine wp_seq ?_; refine wp_region_lit ?_
 have hE := Env.refl a1 [2]; refine Z0v O (cs := #[.int .i64 0, .slice none 0 0]) (t := 47) 2 hE k rfl (by rfl) (by rfl) rfl (by simp [go_sem, ↓IntWalk.iteOmega]) ?_
 clear O; intro rb a2 w3 O hE e2 kp; refine wpList_nil ?_; replace e0 := hE.g e0; replace k := k.env hE; clear hE; refine Z00 (wp_seq ?_); refine wp_region_lit ?_
 have hE := Env.refl a2 [3, 4, 5, 6, 7, 8, 9]; refine zm 3 hE k e0 ?_; intro a4 hE e3 kp; refine sd 4 hE k (Z4s rfl e3 (Z3p n _)) ?_; intro a5 hE e4 kp; refine zm 5 hE k e0 ?_; intro a6 hE e5 kp; replace e4 := kt kp e4; refine sd 6 hE k (Z4s rfl e5 (Z3p n _)) ?_; intro a7 hE e6 kp; replace e4 := kt kp e4; apply Z03 7 hE k rfl rfl rfl rfl; case h =>
  simp [go_sem, ↓IntWalk.iteOmega, ev e4, ev e6]
  with_reducible rfl
 intro a8 hE e7 kp; refine Z3z (m := 1) (c := 1) O (cs := #[.int .u64 (↑(uN n)), .int .u64 (↑(uN n))]) (t := 98) 8 hE k rfl (by rfl) (by rfl) rfl (by simp [go_sem, ↓IntWalk.iteOmega, ev e7]) ?_
 clear O; intro pb a9 w10 O hE e8 kp; apply Z03 9 hE k rfl rfl rfl rfl; case h =>
  simp [go_sem, ↓IntWalk.iteOmega, ev e8]
  with_reducible rfl
 intro a11 hE e9 kp; refine Z1b O 1 0 hE (hE.g e2) e9 ?_
 clear O; intro w12 O; replace O : OwnT _ _ (_ :: (tBlk rb 47 #[.int .i64 0, .slice (some ⟨pb, 0, none⟩) 1 1]) :: _) w12 := O
 refine wpList_nil ?_; replace e2 := hE.g e2; replace k := k.env hE; clear hE e0 e9; refine Z00 ?_; refine wp_ret ?_
 replace O : OwnT _ _ ([tBlk pb 98 #[.int .u64 (↑(uN n)), .int .u64 (↑(uN n))], tBlk rb 47 #[.int .i64 0, .slice (some ⟨pb, 0, none⟩) 1 1]]) w12 := OwnT.pick O [0, 1] (by decide)
 have O2 : OwnT W0.heap.size W0 [tPs (.slice (some ⟨pb, 0, none⟩) 1 1) (nodeP n)] w12 := OwnT.asRowN (k := 2) (n := 1) (cs := [.int .u64 (↑(uN n)), .int .u64 (↑(uN n))]) (OwnT.pick O [0] (by decide)) rfl (by decide)
 have q0 : w12.cell? ⟨rb, 0, none⟩ = some (.int .i64 0) := (OwnT.blk O 1 rfl).cell 0
 have q1 : w12.cell? ⟨rb, 1, none⟩ = some (.slice (some ⟨pb, 0, none⟩) 1 1) := (OwnT.blk O 1 rfl).cell 1
 refine Z6r rfl k e2 (v := .agg #[.int .i64 0, .slice (some ⟨pb, 0, none⟩) 1 1]) (by simp [go_sem, ↓IntWalk.iteOmega, q0, q1]) ?_
 exact ⟨pb, rfl, O2⟩
set_option maxRecDepth 100000 in
set_option maxHeartbeats 8000000 in
theorem unew_any {H : Nat} {A0 : World} {R : List Thing} (P : Nat) (h : Hd) (w : World) (O : OwnT H A0 R w) (hP : P ≤ 512) : Calls Tryz.prog 12 #[.int .i64 P, h.v] w fun e w' => ∃ ub g1 g2 g3, e = .returned (.pointer (some ⟨ub, 0, none⟩)) ∧ OwnT H A0 (usL ub P g1 g2 g3 h (fun _ => false) (fun _ => false) (fun _ => .slice none 0 0) R) w' := by
 refine Z0c Tryz.func12 rfl 15 rfl (by rfl) ?_
 intro a1 k hargs; have e0 : a1.eval (.tmp 0) = .int .i64 ↑P := hargs 0 _ rfl
 have e1 : a1.eval (.tmp 1) = .agg #[.int .u64 h.g, .int .i64 h.r, .int .i64 h.a, .int .i64 h.b, .int .i64 h.c] := hargs 1 _ rfl
 clear hargs; refine wp_seq ?_; refine wp_region_lit ?_
 have hE := Env.refl a1 [3, 4]; refine Z0v O (cs := #[.int .u64 h.g, .int .i64 h.r, .int .i64 h.a, .int .i64 h.b, .int .i64 h.c]) (t := 39) 3 hE k rfl (by rfl) (by rfl) rfl (by simp [go_sem, ↓IntWalk.iteOmega, ev (hE.g e1)]) ?_
 clear O; intro hb a2 w3 O hE e3 kp; refine sd 4 hE k (Z01 rfl rfl) ?_; intro a4 hE e4 kp; replace e3 := kt kp e3; refine wpList_nil ?_; replace e0 := hE.g e0; replace k := k.env hE; clear hE e1 e4; refine Z00 (wp_seq ?_); refine wp_makes (base := (tBlk hb 39 #[.int .u64 h.g, .int .i64 h.r, .int .i64 h.a, .int .i64 h.b, .int .i64 h.c]) :: R) (mkU P) [[], [], [1], [], [3], [], [5], [], rg 8, rg 9, rg 10] [5, 6, 7, 8, 9, 10, 11, 12, 13, 14, 4] O (by kernel_rfl) ?_
 apply MkB.det 5 (by kernel_rfl) rfl (by rw [k.size]; rfl) rfl
 case h =>
  intro lx ax wx hE hI hF; exact Z02 rfl (hE.g e0)
 apply MkB.det 6 (by kernel_rfl) rfl (by rw [k.size]; rfl) rfl
 case h =>
  intro lx ax wx hE hI hF; exact Z02 rfl (hE.g e0)
 refine MkB.make ((mkU P).getD 0 ⟨0, 0, fun _ => tBlk 0 0 #[], fun _ => undef⟩) ml0 (mkU_k P) (mkU_d P) rfl rfl (by rw [k.size]; rfl) rfl ?_ ?_
 · intro ax wx hE hF; have e6 := hF 1 (detL 1 6 _) (by decide) ml0
   obtain ⟨g, w', hrun, hE2, hb, hg⟩ := Z7o wx P (by omega)
   exact ⟨g, w', x_make rfl e6 e6 hrun, hE2, hb, Z72 hg⟩
 apply MkB.det 8 (by kernel_rfl) rfl (by rw [k.size]; rfl) rfl
 case h =>
  intro lx ax wx hE hI hF; exact Z02 rfl (hE.g e0)
 refine MkB.make ((mkU P).getD 1 ⟨0, 0, fun _ => tBlk 0 0 #[], fun _ => undef⟩) ml1 (mkU_k P) (mkU_d P) rfl rfl (by rw [k.size]; rfl) rfl ?_ ?_
 · intro ax wx hE hF; have e8 := hF 3 (detL 3 8 _) (by decide) ml0
   obtain ⟨g, w', hrun, hE2, hb, hg⟩ := Z7o wx P (by omega)
   exact ⟨g, w', x_make rfl e8 e8 hrun, hE2, hb, Z72 hg⟩
 apply MkB.det 10 (by kernel_rfl) rfl (by rw [k.size]; rfl) rfl
 case h =>
  intro lx ax wx hE hI hF; exact Z02 rfl (hE.g e0)
 refine MkB.make ((mkU P).getD 2 ⟨0, 0, fun _ => tBlk 0 0 #[], fun _ => undef⟩) ml2 (mkU_k P) (mkU_d P) rfl rfl (by rw [k.size]; rfl) rfl ?_ ?_
 · intro ax wx hE hF; have e10 := hF 5 (detL 5 10 _) (by decide) ml0
   obtain ⟨g, w', hrun, hE2, hb, hg⟩ := mk_leaves7 wx P (by omega)
   exact ⟨g, w', x_make rfl e10 e10 hrun, hE2, hb, Z72 hg⟩
 apply MkB.det 12 (by kernel_rfl) rfl (by rw [k.size]; rfl) rfl
 case h =>
  intro lx ax wx hE hI hF; obtain ⟨γ, OX, -⟩ := hI
  have hbk : Blk wx hb 39 _ := OwnT.at_ OX (T := tBlk hb 39 #[.int .u64 h.g, .int .i64 h.r, .int .i64 h.a, .int .i64 h.b, .int .i64 h.c]) (List.mem_append.2 (.inr ml0))
  have q0 : wx.cell? ⟨hb, 0, none⟩ = some (.int .u64 h.g) := hbk.cell 0
  have q1 : wx.cell? ⟨hb, 1, none⟩ = some (.int .i64 h.r) := hbk.cell 1
  have q2 : wx.cell? ⟨hb, 2, none⟩ = some (.int .i64 h.a) := hbk.cell 2
  have q3 : wx.cell? ⟨hb, 3, none⟩ = some (.int .i64 h.b) := hbk.cell 3
  have q4 : wx.cell? ⟨hb, 4, none⟩ = some (.int .i64 h.c) := hbk.cell 4
  simp [go_sem, ↓IntWalk.iteOmega, ev (hE.g e3), q0, q1, q2, q3, q4]
  with_reducible rfl
 apply BuildM.stop
 refine ⟨by kernel_rfl, ?_⟩
 intro lx a9 w9 hE hI hL hF; clear O; obtain ⟨γ, O, hs⟩ := hI.all (fun m hm => by
  have hm : m = _ ∨ m ∈ _ := List.mem_cons.1 hm
  rcases hm with rfl | hm
  · exact hL 2 (Nat.le_of_ble_eq_true rfl)
  have hm : m = _ ∨ m ∈ _ := List.mem_cons.1 hm
  rcases hm with rfl | hm
  · exact hL 4 (Nat.le_of_ble_eq_true rfl)
  obtain rfl := List.mem_singleton.1 hm
  exact hL 6 (Nat.le_of_ble_eq_true rfl))
 obtain ⟨g1, hg1⟩ : ∃ z, γ 2 = z := ⟨_, rfl⟩
 obtain ⟨g2, hg2⟩ : ∃ z, γ 4 = z := ⟨_, rfl⟩
 obtain ⟨g3, hg3⟩ : ∃ z, γ 6 = z := ⟨_, rfl⟩
 have e7 : a9.eval (.tmp 7) = .slice (some ⟨γ 2, 0, none⟩) P P := hs _ ml0
 have e9 : a9.eval (.tmp 9) = .slice (some ⟨γ 4, 0, none⟩) P P := hs _ ml1
 have e11 : a9.eval (.tmp 11) = .slice (some ⟨γ 6, 0, none⟩) P P := hs _ ml2

 replace O : OwnT H A0 (tBlk (γ 2) 4 (boA P fun _ => false) :: tBlk (γ 4) 4 (boA P fun _ => false) :: tBlk (γ 6) 47 (ndA P (fun _ => .slice none 0 0)) :: tBlk hb 39 #[.int .u64 h.g, .int .i64 h.r, .int .i64 h.a, .int .i64 h.b, .int .i64 h.c] :: R) w9 := O
 have e5 : a9.eval (.tmp 5) = _ := hF 0 (detL 0 5 _) ml7
 have e12 : a9.eval (.tmp 12) = _ := hF 7 (detL 7 12 _) ml0
 rw [hg1, hg2, hg3] at O
 rw [hg1] at e7; rw [hg2] at e9; rw [hg3] at e11
 clear hF hI hL hs hg1 hg2 hg3; simp only [List.length_cons, List.length_nil, Nat.zero_add, Nat.reduceAdd, List.drop_succ_cons, List.drop_zero, List.drop_nil, tailOps]
 apply Z4k (w' := w9) 13 [5, 6, 7, 8, 9, 10, 11, 12, 13, 14, 4] hE k rfl (by rfl) (by rfl) (by rfl)
 case h => simp [go_sem, ↓IntWalk.iteOmega, ev e5, ev e7, ev e9, ev e11, ev e12]; with_reducible rfl
 intro a10 hE e13 kp; apply Z4k (w' := w9.alloc (.cells (#[.int .i64 P, .slice (some ⟨g1, 0, none⟩) P P, .slice (some ⟨g2, 0, none⟩) P P, .slice (some ⟨g3, 0, none⟩) P P, .int .u64 h.g, .int .i64 h.r, .int .i64 h.a, .int .i64 h.b, .int .i64 h.c]) 62)) 14 [5, 6, 7, 8, 9, 10, 11, 12, 13, 14, 4] hE k rfl (by rfl) (by rfl) (by rfl)
 case h => simp [go_sem, ↓IntWalk.iteOmega, ev e13]; with_reducible rfl
 intro a11 hE e14 kp; replace O := OwnT.new O 62 (#[.int .i64 P, .slice (some ⟨g1, 0, none⟩) P P, .slice (some ⟨g2, 0, none⟩) P P, .slice (some ⟨g3, 0, none⟩) P P, .int .u64 h.g, .int .i64 h.r, .int .i64 h.a, .int .i64 h.b, .int .i64 h.c])
 obtain ⟨ub, hub⟩ : ∃ z, w9.heap.size = z := ⟨_, rfl⟩
 rw [hub] at O e14
 generalize w9.alloc (.cells (#[.int .i64 P, .slice (some ⟨g1, 0, none⟩) P P, .slice (some ⟨g2, 0, none⟩) P P, .slice (some ⟨g3, 0, none⟩) P P, .int .u64 h.g, .int .i64 h.r, .int .i64 h.a, .int .i64 h.b, .int .i64 h.c]) 62) = wN at O ⊢
 apply Z4k (w' := wN) 4 [5, 6, 7, 8, 9, 10, 11, 12, 13, 14, 4] hE k rfl (by rfl) (by rfl) (by rfl)
 case h => exact Z01 rfl e14
 intro a12 hE e4 kp; replace k := k.env hE; refine Z00 ?_; refine wp_ret ?_
 refine Z0k rfl k e4 ?_
 exact ⟨ub, g1, g2, g3, rfl, OwnT.pickR (L := [_, _, _, _, _]) (R := R) O [0, 1, 2, 3] (by decide)⟩
end Go.Proofs.YtakkhglbdljfiaaGreatDoor

/- StoreExact, plain: the store and its reference's, side by side. -/
namespace Go.Proofs.YtakkhglbdljfiaaGreatDoor
set_option linter.unusedVariables false
set_option linter.unusedSimpArgs false
open Go.RowKit Go.Maps

/-- What the reference's nodes are. -/
def Rel7 (P : Nat) (K : Int → Bool) (F : Int → Option Nd) (S : List Sec) (T : Int → Value) (us : List Value) (QN : List Nd) : Prop :=
  ∀ c : Nat, 1 ≤ c → c < P → (K c = true ∨ (F c).isSome = true) → ∃ (i g : Nat) (nn : Int), T c = .slice (some ⟨g, 0, none⟩) 1 1 ∧ us[i]? = some (.slice (some ⟨g, 0, none⟩) 1 1) ∧ QN[i]? = some (0, nodeP nn) ∧ (∀ nd, F c = some nd → nd = node nn) ∧ (K c = true → pgS S c = pgB (node nn))
section
variable {P : Nat} {K : Int → Bool} {F : Int → Option Nd} {S : List Sec} {T : Int → Value} {us : List Value} {QN : List Nd} {xs : List Int}
theorem Rel7.nil : Rel7 P (fun _ => false) (fun _ => none) S T us QN := fun c _ _ h => by
  rcases h with h | h
  · cases h
  · cases h
theorem Rel7.add {d g : Nat} {nn : Int} (r : Rel7 P K F S T us QN) (hl : us.length = QN.length) (hd : FirstFree P K F d) : Rel7 P K (putF F (d : Nat) (node nn)) S (putT T (d : Nat) (.slice (some ⟨g, 0, none⟩) 1 1)) (us ++ [.slice (some ⟨g, 0, none⟩) 1 1]) (QN ++ [(0, nodeP nn)]) := fun c h1 h2 h => by
  by_cases e : c = d
  · subst e
    refine ⟨us.length, g, nn, by unfold putT; rw [if_pos rfl], by rw [List.getElem?_append_right (Nat.le_refl _), Nat.sub_self]; rfl, by rw [List.getElem?_append_right (by omega), hl, Nat.sub_self]; rfl, fun nd hnd => ?_, fun hk => ?_⟩
    · unfold putF at hnd
      rw [if_pos rfl] at hnd
      injection hnd with hnd
      exact hnd.symm
    · rw [(Z6y hd.2.2.1).2] at hk
      cases hk
  · have ec : ¬ ((c : Nat) : Int) = ((d : Nat) : Int) := by omega
    have eF : putF F (d : Nat) (node nn) (c : Nat) = F (c : Nat) := by unfold putF; rw [if_neg ec]
    rw [eF] at h
    obtain ⟨i, g', n', a1, a2, a3, a4, a5⟩ := r c h1 h2 h
    have b2 := (List.getElem?_eq_some_iff.1 a2).1
    have b3 := (List.getElem?_eq_some_iff.1 a3).1
    exact ⟨i, g', n', by unfold putT; rw [if_neg ec]; exact a1, by rw [List.getElem?_append_left b2]; exact a2, by rw [List.getElem?_append_left b3]; exact a3, by rw [eF]; exact a4, a5⟩
theorem Rel7.less {K' : Int → Bool} {F' : Int → Option Nd} (r : Rel7 P K F S T us QN) (hK : ∀ c, K' c = true → K c = true) (hF : ∀ c nd, F' c = some nd → F c = some nd) : Rel7 P K' F' S T us QN := fun c h1 h2 h => by
  obtain ⟨i, g', n', a1, a2, a3, a4, a5⟩ := r c h1 h2 (by
    rcases h with h | h
    · exact .inl (hK _ h)
    · obtain ⟨nd, hnd⟩ := Option.isSome_iff_exists.1 h
      exact .inr (by rw [hF _ _ hnd]; rfl))
  exact ⟨i, g', n', a1, a2, a3, fun nd hnd => a4 nd (hF _ _ hnd), fun hk => a5 (hK _ hk)⟩
theorem Rel7.commit {o : Nat} {hb : List UInt8} (r : Rel7 P K F S T us QN) (hS : 16 * P ≤ S.length) (ho : o < 16) (hl : xs.any (lostB P K F) = false) (hd : ∀ c, K c = true → F c = none) : Rel7 P (inP P xs) (fun _ => none) (cmS S F (todo P F xs) o hb) T us QN := fun c h1 h2 h => by
  have hc : ((c : Nat) : Int) ∈ xs := by
    rcases h with h | h
    · exact (of_decide_eq_true h).1
    · cases h
  rw [List.any_eq_false] at hl
  have h3 := hl _ hc
  rw [lost_in (by omega)] at h3
  unfold freeB at h3
  have hor : K (c : Nat) = true ∨ (F (c : Nat)).isSome = true := by
    cases hk : K (c : Nat) with
    | true => exact .inl rfl
    | false =>
      cases hf : (F (c : Nat)).isSome with
      | true => exact .inr rfl
      | false => rw [hk, hf] at h3; exact absurd rfl h3
  obtain ⟨i, g', n', a1, a2, a3, a4, a5⟩ := r c h1 h2 hor
  refine ⟨i, g', n', a1, a2, a3, (fun nd hnd => by cases hnd), fun _ => ?_⟩
  cases hf : F (c : Nat) with
  | some nd =>
    have e := a4 nd hf
    subst e
    exact cm_new (nd := node n') (by omega) ho h1 (Z26.2 ⟨⟨by omega, by rw [hf]; rfl⟩, hc⟩) hf (Z3g _)
  | none =>
    have hk : K (c : Nat) = true := by
      rcases hor with h | h
      · exact h
      · rw [hf] at h; cases h
    rw [cm_old (by omega) ho h1 (fun hm => by have := (Z26.1 hm).1.2; rw [hf] at this; cases this)]
    exact a5 hk
/-! The reference's rows, turned. -/
theorem Z3q {K' : Int → Bool} (h : ∀ i : Nat, i < P → K (i : Nat) = K' (i : Nat)) : boA P K = boA P K' := by
  show (boV P K).toArray = (boV P K').toArray
  rw [boV_congr h]
theorem isF_put {d : Nat} {nd : Nd} : putB (isF F) (d : Nat) true = isF (putF F (d : Nat) nd) := by
  funext c
  unfold putB isF putF
  split <;> rfl
theorem isF_sweep (h0 : F 0 = none) : boA P (swG xs (isF F) P) = boA P (isF fun i => if (!decide (i ∈ xs)) = true then none else F i) := Z3q fun i hi => by
  unfold swG isF
  dsimp only
  by_cases e : i = 0
  · subst e
    rw [if_neg (by omega)]
    have : (if (!decide (((0 : Nat) : Int) ∈ xs)) = true then none else F ((0 : Nat) : Int)) = (none : Option Nd) := by split; rfl; exact h0
    rw [this]
    show (F 0).isSome = _
    rw [h0]
  · rw [if_pos (by omega)]
    by_cases hm : ((i : Nat) : Int) ∈ xs <;> simp [hm]
theorem kept_kp (h0 : K 0 = false) : boA P (kpK xs K P) = boA P (inP P xs) := Z3q fun i hi => by
  unfold kpK inP
  by_cases e : i = 0
  · subst e
    rw [if_neg (by omega)]
    show K 0 = _
    rw [h0]
    exact (decide_eq_false (fun h => absurd h.2.1 (by decide))).symm
  · rw [if_pos (by omega)]
    exact decide_eq_decide.2 ⟨fun h => ⟨h, by omega⟩, fun h => h.1⟩
theorem isF_kp (h0 : F 0 = none) : boA P (kpG xs (isF F) P) = boA P (isF fun i => if inP P xs i = true then none else F i) := Z3q fun i hi => by
  unfold kpG isF inP
  dsimp only
  by_cases e : i = 0
  · subst e
    rw [if_neg (by omega)]
    have : (if decide (((0 : Nat) : Int) ∈ xs ∧ 1 ≤ ((0 : Nat) : Int) ∧ ((0 : Nat) : Int) < (P : Nat)) = true then none else F ((0 : Nat) : Int)) = (none : Option Nd) := by split; rfl; exact h0
    rw [this]
    show (F 0).isSome = _
    rw [h0]
  · rw [if_pos (by omega)]
    by_cases hm : ((i : Nat) : Int) ∈ xs
    · rw [decide_eq_true hm, decide_eq_true (show ((i : Nat) : Int) ∈ xs ∧ 1 ≤ ((i : Nat) : Int) ∧ ((i : Nat) : Int) < (P : Nat) from ⟨hm, by omega, by omega⟩)]
      simp
    · rw [decide_eq_false hm, decide_eq_false (fun h => hm h.1)]
      simp
theorem isF_cm (h0 : F 0 = none) : boA P (cmG (isF F) P) = boA P (isF fun _ => none) := Z3q fun i hi => by
  unfold cmG isF
  by_cases e : i = 0
  · subst e
    rw [if_neg (by omega)]
    show (F 0).isSome = _
    rw [h0]
  · rw [if_pos (by omega)]
    rfl
end
/-- A deed. -/
structure ActD where
  kd : Int
  nn : Int
  rt : Int
  A : Option Addr
  ca : Nat
  ls : List Int
def actC (x : ActD) : List Value := [.int .i64 x.kd, .int .i64 x.nn, .int .i64 x.rt, .slice x.A x.ls.length x.ca]
theorem Z6e : Tryz.prog.cellsOf 42 = 4 := by kernel_rfl
theorem Z30 : Tryz.prog.cellsOf 3 = 1 := by kernel_rfl
theorem cells_is7 : Tryz.prog.cellsOf 40 = 1 := by kernel_rfl
set_option maxRecDepth 100000 in
theorem arg_acts7 {w : World} {v : Value} (h : Arg Tryz.prog w 22 v) :
    ∃ A len cap, ∃ xs : List ActD, v = .slice A len cap ∧ len ≤ cap ∧ cap ≤ maxLen ∧ xs.length = len ∧ (∀ x ∈ xs, Row1 w x.A (Value.int .i64) x.ls) ∧ Row w A 4 actC xs :=
  fit_row actC (fun x => Row1 w x.A (Value.int .i64) x.ls) Tryz.underlying22 Z6e (by decide) (fun cs _ hf => by
    obtain ⟨hl, hx⟩ := fit_fields 4 Tryz.underlying42 Z6e hf
    obtain ⟨a, e0, _⟩ := Z70 Tryz.underlying3 (hx 0 0 3 1 rfl Z30)
    obtain ⟨b, e1, _⟩ := Z70 Tryz.underlying3 (hx 1 1 3 1 rfl Z30)
    obtain ⟨c, e2, _⟩ := Z70 Tryz.underlying3 (hx 2 2 3 1 rfl Z30)
    have h3 := hx 3 3 40 1 rfl cells_is7
    clear hx
    match cs, hl with
    | [u0, u1, u2, u3], _ =>
      have e0 : u0 = .int .i64 a := by simpa using e0
      have e1 : u1 = .int .i64 b := by simpa using e1
      have e2 : u2 = .int .i64 c := by simpa using e2
      have h3 : Fit Tryz.prog w 40 [u3] := h3
      obtain ⟨A, len, cap, ls, e3, _, _, hl3, _, hr⟩ := fit_row1 _ _ Tryz.underlying40 Z30 (fun _ hf => fit_int Tryz.underlying3 hf) h3
      exact ⟨⟨a, b, c, A, cap, ls⟩, by rw [e0, e1, e2, e3, ← hl3]; rfl, hr⟩) (arg_slice Tryz.underlying22 h)
theorem act_at {w w' : World} {A : Option Addr} {xs : List ActD} (h : Row w A 4 actC xs) (hb : Below w.heap.size w w') {i : Nat} {x : ActD} (hx : xs[i]? = some x) : ∃ b o, A = some ⟨b, o, none⟩ ∧ w'.cell? ⟨b, o + i * 4, none⟩ = some (.int .i64 x.kd) ∧ w'.cell? ⟨b, o + i * 4 + 1, none⟩ = some (.int .i64 x.nn) ∧ w'.cell? ⟨b, o + i * 4 + 2, none⟩ = some (.int .i64 x.rt) ∧ w'.cell? ⟨b, o + i * 4 + 3, none⟩ = some (.slice x.A x.ls.length x.ca) := by
  obtain ⟨b, o, e, hlt, hc⟩ := h i x hx
  have k : ∀ j u, (actC x)[j]? = some u → w'.cell? ⟨b, o + i * 4 + j, none⟩ = some u := fun j u hu => (hb.cell (p := ⟨b, _, none⟩) hlt).trans (hc j u hu)
  exact ⟨b, o, e, k 0 _ rfl, k 1 _ rfl, k 2 _ rfl, k 3 _ rfl⟩
section
variable {H : Nat} {A0 : World} {R : List Thing} {ub P g1 g2 g3 : Nat} {h : Hd} {K : Int → Bool} {F : Int → Option Nd} {T : Int → Value}
theorem uadd_two (nn : Int) {g : Nat} (w : World) (O : OwnT H A0 (usL ub P g1 g2 g3 h K (isF F) T R) w) (hrow : Row w (some ⟨g, 0, none⟩) 2 pairC (nodeP nn)) (hP : 1 ≤ P ∧ P ≤ 512) :
    Calls Tryz.prog 15 #[.pointer (some ⟨ub, 0, none⟩), .agg #[.int .i64 0, .slice (some ⟨g, 0, none⟩) 1 1]] w fun e w' => ∃ (c2 e2 : Int) (G' : Int → Bool) (T' : Int → Value), e = .returned (.tuple #[.int .i64 e2, .int .i64 c2]) ∧ OwnT H A0 (usL ub P g1 g2 g3 h K G' T' R) w' ∧
      ((∃ d : Nat, FirstFree P K F d ∧ c2 = d ∧ e2 = 0 ∧ G' = putB (isF F) (d : Nat) true ∧ T' = putT T (d : Nat) (.slice (some ⟨g, 0, none⟩) 1 1)) ∨ (NoFree P K F ∧ c2 = 0 ∧ e2 = 6 ∧ G' = isF F ∧ T' = T)) := by
  refine (uadd_any nn w O hrow hP).mono ?_
  rintro e w' (⟨d, hd, rfl, O'⟩ | ⟨hn, rfl, O'⟩)
  · exact ⟨_, _, _, _, rfl, O', .inl ⟨d, hd, rfl, rfl, rfl, rfl⟩⟩
  · exact ⟨_, _, _, _, rfl, O', .inr ⟨hn, rfl, rfl, rfl, rfl⟩⟩
theorem usweep_F {A : Option Addr} {ca : Nat} {xs : List Int} (w : World) (O : OwnT H A0 (usL ub P g1 g2 g3 h K (isF F) T R) w) (hrow : ∀ W, OwnT H A0 R W → Row1 W A (Value.int .i64) xs) (hn : xs.length ≤ 1000000) (hP : 1 ≤ P ∧ P ≤ 512) (h0 : F 0 = none) :
    Calls Tryz.prog 17 #[.pointer (some ⟨ub, 0, none⟩), .slice A xs.length ca] w fun e w' => e = .returned (.tuple #[]) ∧ OwnT H A0 (usL ub P g1 g2 g3 h K (isF fun i => if (!decide (i ∈ xs)) = true then none else F i) T R) w' :=
  (usweep_any w O hrow hn hP).mono fun e w' hh => by unfold usL at hh ⊢; rw [isF_sweep h0] at hh; exact hh
theorem ukeep_F {A : Option Addr} {ca : Nat} {xs : List Int} (w : World) (O : OwnT H A0 (usL ub P g1 g2 g3 h K (isF F) T R) w) (hrow : ∀ W, OwnT H A0 R W → Row1 W A (Value.int .i64) xs) (hn : xs.length ≤ 1000000) (hP : 1 ≤ P ∧ P ≤ 512) (h0K : K 0 = false) (h0 : F 0 = none) :
    Calls Tryz.prog 24 #[.pointer (some ⟨ub, 0, none⟩), .slice A xs.length ca] w fun e w' => e = .returned (.tuple #[]) ∧ OwnT H A0 (usL ub P g1 g2 g3 h (inP P xs) (isF fun i => if inP P xs i = true then none else F i) T R) w' :=
  (ukeep_any w O hrow hn hP).mono fun e w' hh => by unfold usL at hh ⊢; rw [kept_kp h0K, isF_kp h0] at hh; exact hh
theorem ucommit_F {A : Option Addr} {ca : Nat} {xs : List Int} (w : World) (O : OwnT H A0 (usL ub P g1 g2 g3 h K (isF F) T R) w) (hrow : ∀ W, OwnT H A0 R W → Row1 W A (Value.int .i64) xs) (hn : xs.length ≤ 1000000) (hP : 1 ≤ P ∧ P ≤ 512) (h2 : Hd) (h0K : K 0 = false) (h0 : F 0 = none) :
    Calls Tryz.prog 20 #[.pointer (some ⟨ub, 0, none⟩), h2.v, .slice A xs.length ca] w fun e w' => e = .returned (.tuple #[]) ∧ OwnT H A0 (usL ub P g1 g2 g3 h2 (inP P xs) (isF fun _ => none) T R) w' :=
  (Z88 h2 w O hrow hn hP).mono fun e w' hh => by unfold usL at hh ⊢; rw [kept_kp h0K, isF_cm h0] at hh; exact hh
end
theorem sread_some {sb p kb fb mb n cap bm : Nat} {B : Option Addr} {S : List Sec} {h : Hd} {at_ : Int} {K : Int → Bool} {m : Int → Option Value} {F : Int → Option Nd} {vs : List Value} {N : List Nd} {M : Mn} (q : Nat) (W0 : World) (hs : StR sb p h at_ kb fb K m W0) (hd : DiscR p mb B n cap bm S noL W0) (ok : StOk (pgs n) K F vs N m) (hx : 1 ≤ (q : Int) ∧ (q : Int) < (pgs n : Nat)) (hF : F (q : Int) = none) (hmn : (tMn mb M).holds W0) (ha : M.away = false) :
    Calls Tryz.prog 21 #[.pointer (some ⟨sb, 0, none⟩), .int .i64 (q : Int)] W0 fun e w' => ∃ (lv ct : Nat) (By : Option Addr) (cy : Nat) (ef : Int), e = .returned (.tuple #[.agg #[.int .i64 lv, .slice By ct cy], .int .i64 ef]) ∧ Ext W0 w' := by
  cases hr : readB (readL S noL (16 * q) 16) with
  | false =>
    refine (sread_form (M := M) q (q : Int) W0 hs hd ok hx hF rfl hmn ha hr).mono ?_
    rintro e w' ⟨rfl, hE⟩
    exact ⟨0, 0, none, 0, 3, rfl, hE⟩
  | true =>
    refine (Z5u (M := M) q (q : Int) W0 hs hd ok hx hF rfl hmn ha hr).mono ?_
    rintro e w' ⟨By, cy, rfl, _, hE⟩
    exact ⟨_, _, By, cy, 0, rfl, hE⟩
end Go.Proofs.YtakkhglbdljfiaaGreatDoor
