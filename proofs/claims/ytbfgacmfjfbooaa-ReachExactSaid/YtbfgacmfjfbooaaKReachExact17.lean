/- nodes as an argument: the shelf reads them (by the machine). -/
import Derived.Test.YtbfgacmfjfbooaaKReachExact16
import Derived.Test.YtbfgacmfjfbooaaKReachExact06
import Derived.Test.YtbfgacmfjfbooaaKReachExact00
import Derived.Test.YtbfgacmfjfbooaaKReachExact01
import Derived.Test.YtbfgacmfjfbooaaKReachExact03
namespace Go.Proofs.Ytbfgacmfjfbooaa
set_option linter.unusedVariables false
set_option linter.unusedSimpArgs false
set_option linter.unusedVariables false
set_option linter.unusedSimpArgs false
open Go.RowKit

/-- A node of an argument: its level, its slice, its pairs. -/
abbrev Na := Int × Value × List Pr
def leafC (x : Na) : List Value := [.int .i64 x.1, x.2.1]
def NaOk (w : World) (x : Na) : Prop := ∃ A cap, x.2.1 = .slice A x.2.2.length cap ∧ x.2.2.length ≤ maxLen ∧ (∀ y ∈ x.2.2, y.1 < 18446744073709551616 ∧ y.2 < 18446744073709551616) ∧ Row w A 2 pairC x.2.2
theorem fit_node {w : World} {cs : List Value} (hf : Fit Try.prog w 46 cs) : ∃ x : Na, cs = leafC x ∧ NaOk w x := by
  obtain ⟨hl, hx⟩ := Z4o 2 Try.underlying46 Z4s hf
  obtain ⟨lv, e0, _⟩ := Z5k Try.underlying3 (hx 0 0 3 1 rfl cells_li)
  have h1 := hx 1 1 44 1 rfl cells_ls
  obtain ⟨v, hv⟩ : ∃ v, (cs.drop 1).take 1 = [v] := by
    match cs, hl with
    | [x0, x1], _ => exact ⟨x1, rfl⟩
  rw [hv] at h1
  obtain ⟨A, len, cap, xs, rfl, g1, g2, rfl, g4, g5⟩ := Z78 pairC (fun x => x.1 < 18446744073709551616 ∧ x.2 < 18446744073709551616) Try.underlying44 Z4r (by decide) (fun _ _ hf => fit_pair hf) h1
  have e1 := Z4f hv
  exact ⟨(lv, _, xs), Z7v hl e0 e1, A, cap, rfl, Nat.le_trans g1 g2, g4, g5⟩
theorem arg_nodes {w : World} {v : Value} (h : Arg Try.prog w 42 v) :
    ∃ A cap, ∃ X : List Na, v = .slice A X.length cap ∧ X.length ≤ maxLen ∧ (∀ x ∈ X, NaOk w x) ∧ Row w A 2 leafC X := by
  obtain ⟨A, len, cap, xs, rfl, h1, h2, rfl, h4, h5⟩ := Z78 leafC (NaOk w) Try.underlying42 Z4s (by decide) (fun _ _ hf => fit_node hf) (Z6j Try.underlying42 h)
  exact ⟨A, cap, xs, rfl, Nat.le_trans h1 h2, h4, h5⟩
theorem NaOk.ext {w w' : World} {x : Na} (h : NaOk w x) (E : Ext w w') : NaOk w' x := by
  obtain ⟨A, cap, h1, h2, h3, h4⟩ := h
  exact ⟨A, cap, h1, h2, h3, h4.below E⟩
/-- Where the nodes are. -/
def ndF (X : List Na) : Nfn := fun q => if 1 ≤ q then (X[(q - 1).toNat]?).map fun x => (x.1, x.2.2) else none
theorem eqN (cap : Nat) (w : World) : (binOp .eql 44 (.slice none 0 cap) (.slice none 0 0)).run Try.prog w = .ok (.bool true) w := by kernel_rfl
theorem eqS (ad : Addr) (n cap : Nat) (w : World) : (binOp .eql 44 (.slice (some ad) n cap) (.slice none 0 0)).run Try.prog w = .ok (.bool false) w := by kernel_rfl
theorem x_binX {o : Oper} {ρ : Operand → Value} {x y : Operand} {t u : TypeId} {op : BinOp} {p q v : Value} {w : World} (ho : o.op = .binOp op t x y u) (hx : ρ x = p) (hy : ρ y = q) (hg : ∀ op w, (eqGuard op t x y p q).run Try.prog w = .ok () w) (h : (binOp op t p q).run Try.prog w = .ok v w) : (execOp ρ o).run Try.prog w = .ok (.value v) w := by
  unfold execOp
  simp [ho, hx, hy, hg, h]
set_option maxRecDepth 10000 in
theorem cloneX {B : Option Addr} {cap : Nat} (ps : List Pr) (w0 : World) (hrow : Row w0 B 2 pairC ps) (hl : ps.length ≤ 1000000) :
    Calls Try.prog 150 #[.slice B ps.length cap] w0 fun e w' => ∃ v, e = .returned v ∧ OwnT w0.heap.size w0 [tPs v ps] w' := by
  refine fnG (OwnT.start w0) 8 Try.func150 rfl rfl rfl fun a h => ?_
  refine gX h [] rfl fun a w h => ?_
  cases B with
  | none =>
    obtain rfl : ps = [] := by
      rcases ps with _ | ⟨x, ps⟩
      · rfl
      · obtain ⟨b, o, e, -⟩ := hrow 0 x rfl
        cases e
    refine spG h [] rfl rfl rfl (x_binX rfl (h.M.opv _ _ rfl) (h.M.opv _ _ rfl) (fun op w => by cases op <;> simp [eqGuard]) (eqN cap w)) h.O trivial fun a h => ?_
    refine gX h [] rfl fun a w h => ?_
    exact gR h rfl ⟨_, rfl, h.O.cons (Ext.refl _) (tPs (.slice none 0 0) []) tps0 (fun i hi => by simp [tRow, Value.ownBlock] at hi)⟩
  | some ad =>
    refine spG h [] rfl rfl rfl (x_binX rfl (h.M.opv _ _ rfl) (h.M.opv _ _ rfl) (fun op w => by cases op <;> simp [eqGuard]) (eqS ad _ cap w)) h.O trivial fun a h => ?_
    refine gX h [] rfl fun a w h => ?_
    refine gZ h 103 2 rfl rfl rfl rfl fun g0 a w h => ?_
    refine gX h [] rfl fun a w h => ?_
    have hcell : ∀ j u, (flatP ps)[j]? = some u → w.cell? (ad.add j) = some u := by
      rcases ps with _ | ⟨x, ps⟩
      · intro j u h; simp [flatP] at h
      · obtain ⟨b, o, e, -⟩ := hrow 0 x rfl
        cases e
        exact Z27 (hrow.below h.O.below)
    obtain ⟨v4, w4, hrun, O4⟩ := Z34 (P := Try.prog) h.O elemPr (by decide) (m := ps.length) (c := cap) (news := flatP ps) (by rw [Z0t]) hcell (ps_one ps) (by unfold maxLen; omega) (by omega)
    refine spG h [] rfl rfl rfl (Z1e rfl (h.M.opv _ _ rfl) (h.M.opv _ _ rfl) (hrun _)) O4 trivial fun a h => ?_
    refine gX h [] rfl fun a w h => ?_
    refine gR h rfl ⟨v4, rfl, ?_⟩
    have := h.O
    rw [List.nil_append, Nat.zero_add] at this
    exact this
abbrev tSh (sb : Nat) (B : Option Addr) (n c : Nat) (room : Int) : Thing := tBlk sb 49 ⟨[.slice B n c, .int .i64 room]⟩
set_option maxRecDepth 10000 in
theorem reads_arg {A : World} {sb cn' : Nat} {Bn : Option Addr} {room : Int} {X : List Na} (h0 : A.cell? ⟨sb, 0, none⟩ = some (.slice Bn X.length cn')) (hrow : Row A Bn 2 leafC X) (hok : ∀ x ∈ X, NaOk A x) (hl : X.length ≤ 1000) (h20 : ∀ x ∈ X, x.2.2.length ≤ 1000) :
    Reads A (.iface 47 (.pointer (some ⟨sb, 0, none⟩))) (ndF X) := by
  have hat : ∀ q l ps, ndF X q = some (l, ps) → 1 ≤ q ∧ q ≤ X.length ∧ ∃ v, (l, v, ps) ∈ X ∧ X[(q - 1).toNat]? = some (l, v, ps) := by
    intro q l ps h
    unfold ndF at h
    split at h
    · rename_i h1
      cases hx : X[(q - 1).toNat]? with
      | none => rw [hx] at h; cases h
      | some x =>
        rw [hx] at h
        cases h
        have := (List.getElem?_eq_some_iff.1 hx).1
        exact ⟨h1, by omega, x.2.1, List.mem_of_getElem? hx, rfl⟩
    · cases h
  refine ⟨fun w hE q => ⟨149, _, fun w => Z2h _ _ w, ?_⟩, fun q l ps h => ?_⟩
  rotate_left
  · obtain ⟨h1, h2, v, h3, -⟩ := hat q l ps h
    obtain ⟨B, c, -, -, h4, -⟩ := hok _ h3
    exact ⟨h1, by omega, by have := h20 _ h3; simp only at this; omega, h4⟩
  have c0 : w.cell? ⟨sb, 0, none⟩ = some (.slice Bn X.length cn') := cellB hE h0
  have hrow2 := hrow.below hE
  refine fnG (aw0 w) 37 Try.func149 rfl rfl rfl fun a h => ?_
  refine gX h [] rfl fun a w1 h => ?_
  refine gW h rfl fun g4 a w1 E h => ?_
  cases hN : ndF X q with
  | none =>
    have hbad : ¬ (1 ≤ q ∧ q ≤ X.length) := fun hh => by
      unfold ndF at hN
      rw [if_pos hh.1, List.getElem?_eq_getElem (by omega)] at hN
      cases hN
    by_cases h1 : q < 1
    · refine gX h [.t, 0] rfl fun a w1 h => ?_
      exact rtG Z2t h [0] rfl ⟨rfl, trivial⟩ ⟨rfl, h.O.awE (L := [_])⟩
    · refine gX h [.f, .k [1], .v (.slice Bn X.length cn'), .t, 0] rfl fun a w1 h => ?_
      exact rtG Z2t h [0] rfl ⟨rfl, trivial⟩ ⟨rfl, h.O.awE (L := [_])⟩
  | some x =>
    obtain ⟨l, ps⟩ := x
    obtain ⟨h1, h2, v, h3, h4⟩ := hat q l ps hN
    obtain ⟨B, c, hv, h5, h6, hps⟩ := hok _ h3
    simp only at hv h5 h6 hps
    subst hv
    have h7 := h20 _ h3
    simp only at h7
    obtain ⟨i, hi⟩ : ∃ i : Nat, q = i + 1 := ⟨(q - 1).toNat, by omega⟩
    subst hi
    rw [show ((i : Int) + 1 - 1).toNat = i by omega] at h4
    obtain ⟨b, o, rfl, -, hc⟩ := hrow2 i _ h4
    have d0 := hc 0 _ rfl
    have d1 := hc 1 _ rfl
    rw [Nat.add_zero] at d0
    refine gX h [.f, .k [1], .v (.slice (some ⟨b, o, none⟩) X.length cn'), .f, .k [1], .v (.slice (some ⟨b, o, none⟩) X.length cn'), vI i, vj (o + i * 2), .k [1], .v (.agg ⟨[.int .i64 l, .slice B ps.length c]⟩)] rfl fun a w1 h => ?_
    refine gW h rfl fun g6 a w1 E h => ?_
    refine gX h [0, 0] rfl fun a w1 h => ?_
    refine gC h rfl (cloneX ps w1 ((hps.below hE).below (h.O.awE (L := [_, _]))) (by omega)) ?_
    rintro e w2 ⟨v, rfl, O2⟩
    obtain ⟨B2, c2, rfl⟩ := Z0c O2.r0
    refine ⟨_, rfl, _, h.O.graft O2, trivial, fun a h => ?_⟩
    refine gX h [1, 1, 2] rfl fun a w1 h => ?_
    exact rtG Z2t h [2] rfl ⟨rfl, trivial⟩ ⟨_, rfl, (OwnT.pick h.O [0, 3] (by decide) : OwnT 0 w ([tPs _ ps] ++ [tAw w]) _).unAw⟩

def valAt (xs : List (Nat × Nat)) (i : Nat) : Nat := (xs.getD i (0, 0)).2
theorem Row.val_at {w w' : World} {b o : Nat} {xs : List (Nat × Nat)} (h : Row w (some ⟨b, o, none⟩) 2 pairC xs) (hb : Below w.heap.size w w') {j : Nat} (hj : j < xs.length) : w'.cell? ⟨b, o + j * 2 + 1, none⟩ = some (.int .u64 (valAt xs j)) := by
  obtain ⟨b', o', he, _, _, hc⟩ := h.pair_in hb hj
  cases he
  rw [hc]
  simp [valAt, List.getD, hj]
/-- A pair may stand there. -/
def okAt (lv : Int) (xs : List (Nat × Nat)) (i : Nat) : Prop := (i = 0 ∨ keyAt xs (i - 1) < keyAt xs i) ∧ (lv ≤ 0 ∨ farB (valAt xs i) = false)
theorem Z1x (lv : Int) (xs : List (Nat × Nat)) : goodB lv xs = true ↔ (0 ≤ lv ∧ lv < 8 ∧ xs.length ≤ 15) ∧ (lv ≤ 0 ∨ 0 < xs.length) ∧ ∀ i, i < xs.length → okAt lv xs i := by
  have hany : (xs.any (fun x => farB x.2) = false) ↔ ∀ i, i < xs.length → farB (valAt xs i) = false := by
    rw [List.any_eq_false]
    constructor
    · intro h i hi
      have := h xs[i] (List.getElem_mem hi)
      simpa [valAt, List.getD, hi] using this
    · intro h x hx
      obtain ⟨i, hi, rfl⟩ := List.getElem_of_mem hx
      have := h i hi
      simpa [valAt, List.getD, hi] using this
  unfold goodB riseB okAt
  simp only [Bool.and_eq_true, Bool.or_eq_true, decide_eq_true_eq, Bool.not_eq_true', hany]
  constructor
  · rintro ⟨h1, h2, h3⟩
    refine ⟨h1, ?_, fun i hi => ⟨?_, ?_⟩⟩
    · rcases h3 with h3 | h3
      · exact .inl (by omega)
      · exact .inr h3.1
    · by_cases h0 : i = 0
      · exact .inl h0
      · have := h2 (i - 1) (by omega) (by omega)
        rw [show i - 1 + 1 = i by omega] at this
        exact .inr this
    · rcases h3 with h3 | h3
      · exact .inl (by omega)
      · exact .inr (h3.2 i hi)
  · rintro ⟨h1, h2, h3⟩
    refine ⟨h1, fun i hi hi2 => ?_, ?_⟩
    · rcases (h3 (i + 1) hi2).1 with h | h
      · omega
      · exact h
    · by_cases h0 : lv = 0
      · exact .inl h0
      · refine .inr ⟨by omega, fun i hi => ?_⟩
        rcases (h3 i hi).2 with h | h
        · omega
        · exact h

theorem Z32 {lv : Int} {xs : List Pr} (h : ¬ ((0 ≤ lv ∧ lv < 8 ∧ xs.length ≤ 15) ∧ (lv ≤ 0 ∨ 0 < xs.length))) : goodB lv xs = false := by
  cases hb : goodB lv xs with
  | false => rfl
  | true => exact absurd ⟨((Z1x lv xs).1 hb).1, ((Z1x lv xs).1 hb).2.1⟩ h
theorem Z6d {lv : Int} {xs : List Pr} {j : Nat} (hj : j < xs.length) (h : ¬ okAt lv xs j) : goodB lv xs = false := by
  cases hb : goodB lv xs with
  | false => rfl
  | true => exact absurd (((Z1x lv xs).1 hb).2.2 j hj) h
set_option maxRecDepth 10000 in
theorem rgoodX (lv : Int) (B : Option Addr) (c : Nat) (ps : List Pr) (w0 : World) (hrow : Row w0 B 2 pairC ps) (hl : ps.length ≤ 1000000) :
    Calls Try.prog 82 #[.agg #[.int .i64 lv, .slice B ps.length c]] w0 fun e w' => e = .returned (.bool (goodB lv ps)) ∧ Ext w0 w' := by
  refine fnG (aw0 w0) 77 Try.func82 rfl rfl rfl fun a h => ?_
  refine gX h [] rfl fun a w h => ?_
  refine gW h rfl fun g1 a w E h => ?_
  by_cases h0 : lv < 0
  · refine gX h [0, .v (.int .i64 lv), .t] rfl fun a w h => ?_
    exact gR h rfl ⟨by rw [Z32 (by omega)], h.O.awE (L := [_])⟩
  by_cases h1 : 7 < lv
  · refine gX h [0, .v (.int .i64 lv), .f, 0, .v (.int .i64 lv), .t] rfl fun a w h => ?_
    exact gR h rfl ⟨by rw [Z32 (by omega)], h.O.awE (L := [_])⟩
  by_cases h2 : 15 < ps.length
  · refine gX h [0, .v (.int .i64 lv), .f, 0, .v (.int .i64 lv), .f, 0, .v (.slice B ps.length c), vI ps.length, .t] rfl fun a w h => ?_
    exact gR h rfl ⟨by rw [Z32 (by omega)], h.O.awE (L := [_])⟩
  by_cases hp : 0 < lv
  · by_cases h3 : ps.length = 0
    · refine gX h [0, .v (.int .i64 lv), .f, 0, .v (.int .i64 lv), .f, 0, .v (.slice B ps.length c), vI ps.length, .f, 0, .v (.int .i64 lv), .t, 0, .v (.slice B ps.length c), vI ps.length, .t] rfl fun a w h => ?_
      exact gR h rfl ⟨by rw [Z32 (by omega)], h.O.awE (L := [_])⟩
    refine gX h [0, .v (.int .i64 lv), .f, 0, .v (.int .i64 lv), .f, 0, .v (.slice B ps.length c), vI ps.length, .f, 0, .v (.int .i64 lv), .t, 0, .v (.slice B ps.length c), vI ps.length, .f] rfl fun a w h => ?_
    refine lpG (G := Nat) (fun j => [(1, .pointer (some ⟨g1, 0, none⟩)), (3, .int .i64 j)]) (fun _ => [tBlk g1 46 ⟨[.int .i64 lv, .slice B ps.length c]⟩, tAw w0]) (fun j => j ≤ ps.length ∧ ∀ i, i < j → okAt lv ps i) (fun j => ps.length - j) 0 h ⟨rfl, rfl, trivial⟩ h.O ⟨Nat.zero_le _, fun i hi => absurd hi (Nat.not_lt_zero i)⟩ fun j ⟨hj, hok⟩ a w h => ?_
    by_cases h4 : j < ps.length
    rotate_left
    · refine gX h [0, .v (.slice B ps.length c), vI ps.length, .f] rfl fun a w h => ?_
      exact gR h rfl ⟨by rw [(Z1x lv ps).2 ⟨by omega, by omega, fun i hi => hok i (by omega)⟩], h.O.awE (L := [_])⟩
    obtain ⟨b, o, rfl, -, -⟩ := hrow.pair_in (Below.refl _ _) h4
    have q1 := hrow.key_at (Below.refl _ _) h4
    have q2 := hrow.val_at (Below.refl _ _) h4
    have hno : ¬ okAt lv ps j → goodB lv ps = false := Z6d h4
    have hyes : okAt lv ps j → ∀ i, i < j + 1 → okAt lv ps i := fun hh i hi => by
      by_cases hij : i = j
      · subst hij; exact hh
      · exact hok i (by omega)
    have hkj : ∃ k, keyAt ps j = k := ⟨_, rfl⟩
    have hvj : ∃ k, valAt ps j = k := ⟨_, rfl⟩
    obtain ⟨kj, hkj⟩ := hkj
    obtain ⟨x, hvj⟩ := hvj
    rw [hkj] at q1
    rw [hvj] at q2
    by_cases hj0 : j = 0
    · skip
      by_cases h6 : x < 1
      · refine gX h [0, .v (.slice (some ⟨b, o, none⟩) ps.length c), vI ps.length, .t, .f, 0, .v (.int .i64 lv), .t, 0, .v (.slice (some ⟨b, o, none⟩) ps.length c), vj (o + j * 2), .k [1], .v (.int .u64 (x : Nat)), .t] rfl fun a w h => ?_
        exact gR h rfl ⟨by rw [hno fun hh => by unfold okAt farB at hh; simp at hh; omega], h.O.awE (L := [_])⟩
      by_cases h7 : 511 < x
      · refine gX h [0, .v (.slice (some ⟨b, o, none⟩) ps.length c), vI ps.length, .t, .f, 0, .v (.int .i64 lv), .t, 0, .v (.slice (some ⟨b, o, none⟩) ps.length c), vj (o + j * 2), .k [1], .v (.int .u64 (x : Nat)), .f, 0, .v (.slice (some ⟨b, o, none⟩) ps.length c), vj (o + j * 2), .k [1], .v (.int .u64 (x : Nat)), .t] rfl fun a w h => ?_
        exact gR h rfl ⟨by rw [hno fun hh => by unfold okAt farB at hh; simp at hh; omega], h.O.awE (L := [_])⟩
      refine gX h [0, .v (.slice (some ⟨b, o, none⟩) ps.length c), vI ps.length, .t, .f, 0, .v (.int .i64 lv), .t, 0, .v (.slice (some ⟨b, o, none⟩) ps.length c), vj (o + j * 2), .k [1], .v (.int .u64 (x : Nat)), .f, 0, .v (.slice (some ⟨b, o, none⟩) ps.length c), vj (o + j * 2), .k [1], .v (.int .u64 (x : Nat)), .f, vI (j + 1 : Nat)] rfl fun a w h => ?_
      exact reG (j + 1) h ⟨rfl, rfl, trivial⟩ h.O ⟨h4, hyes (by unfold okAt farB; simp; omega)⟩ (by omega)
    obtain ⟨i, hi⟩ : ∃ i, j = i + 1 := ⟨j - 1, by omega⟩
    have q3 := hrow.key_at (Below.refl _ _) (j := i) (by omega)
    have hki : ∃ k, keyAt ps (j - 1) = k := ⟨_, rfl⟩
    obtain ⟨ki, hki⟩ := hki
    rw [show i = j - 1 by omega, hki] at q3
    rw [show j - 1 = i by omega] at q3
    by_cases h5 : kj ≤ ki
    · refine gX h [0, .v (.slice (some ⟨b, o, none⟩) ps.length c), vI ps.length, .t, .t, 0, .v (.slice (some ⟨b, o, none⟩) ps.length c), vI i, vj (o + i * 2), .k [1], .v (.int .u64 (ki : Nat)), 0, .v (.slice (some ⟨b, o, none⟩) ps.length c), vj (o + j * 2), .k [1], .v (.int .u64 (kj : Nat)), .t] rfl fun a w h => ?_
      exact gR h rfl ⟨by rw [hno fun hh => by unfold okAt farB at hh; simp at hh; omega], h.O.awE (L := [_])⟩
    by_cases h6 : x < 1
    · refine gX h [0, .v (.slice (some ⟨b, o, none⟩) ps.length c), vI ps.length, .t, .t, 0, .v (.slice (some ⟨b, o, none⟩) ps.length c), vI i, vj (o + i * 2), .k [1], .v (.int .u64 (ki : Nat)), 0, .v (.slice (some ⟨b, o, none⟩) ps.length c), vj (o + j * 2), .k [1], .v (.int .u64 (kj : Nat)), .f, 0, .v (.int .i64 lv), .t, 0, .v (.slice (some ⟨b, o, none⟩) ps.length c), vj (o + j * 2), .k [1], .v (.int .u64 (x : Nat)), .t] rfl fun a w h => ?_
      exact gR h rfl ⟨by rw [hno fun hh => by unfold okAt farB at hh; simp at hh; omega], h.O.awE (L := [_])⟩
    by_cases h7 : 511 < x
    · refine gX h [0, .v (.slice (some ⟨b, o, none⟩) ps.length c), vI ps.length, .t, .t, 0, .v (.slice (some ⟨b, o, none⟩) ps.length c), vI i, vj (o + i * 2), .k [1], .v (.int .u64 (ki : Nat)), 0, .v (.slice (some ⟨b, o, none⟩) ps.length c), vj (o + j * 2), .k [1], .v (.int .u64 (kj : Nat)), .f, 0, .v (.int .i64 lv), .t, 0, .v (.slice (some ⟨b, o, none⟩) ps.length c), vj (o + j * 2), .k [1], .v (.int .u64 (x : Nat)), .f, 0, .v (.slice (some ⟨b, o, none⟩) ps.length c), vj (o + j * 2), .k [1], .v (.int .u64 (x : Nat)), .t] rfl fun a w h => ?_
      exact gR h rfl ⟨by rw [hno fun hh => by unfold okAt farB at hh; simp at hh; omega], h.O.awE (L := [_])⟩
    refine gX h [0, .v (.slice (some ⟨b, o, none⟩) ps.length c), vI ps.length, .t, .t, 0, .v (.slice (some ⟨b, o, none⟩) ps.length c), vI i, vj (o + i * 2), .k [1], .v (.int .u64 (ki : Nat)), 0, .v (.slice (some ⟨b, o, none⟩) ps.length c), vj (o + j * 2), .k [1], .v (.int .u64 (kj : Nat)), .f, 0, .v (.int .i64 lv), .t, 0, .v (.slice (some ⟨b, o, none⟩) ps.length c), vj (o + j * 2), .k [1], .v (.int .u64 (x : Nat)), .f, 0, .v (.slice (some ⟨b, o, none⟩) ps.length c), vj (o + j * 2), .k [1], .v (.int .u64 (x : Nat)), .f, vI (j + 1 : Nat)] rfl fun a w h => ?_
    exact reG (j + 1) h ⟨rfl, rfl, trivial⟩ h.O ⟨h4, hyes (by unfold okAt farB; simp; omega)⟩ (by omega)
  · refine gX h [0, .v (.int .i64 lv), .f, 0, .v (.int .i64 lv), .f, 0, .v (.slice B ps.length c), vI ps.length, .f, 0, .v (.int .i64 lv), .f] rfl fun a w h => ?_
    refine lpG (G := Nat) (fun j => [(1, .pointer (some ⟨g1, 0, none⟩)), (3, .int .i64 j)]) (fun _ => [tBlk g1 46 ⟨[.int .i64 lv, .slice B ps.length c]⟩, tAw w0]) (fun j => j ≤ ps.length ∧ ∀ i, i < j → okAt lv ps i) (fun j => ps.length - j) 0 h ⟨rfl, rfl, trivial⟩ h.O ⟨Nat.zero_le _, fun i hi => absurd hi (Nat.not_lt_zero i)⟩ fun j ⟨hj, hok⟩ a w h => ?_
    by_cases h4 : j < ps.length
    rotate_left
    · refine gX h [0, .v (.slice B ps.length c), vI ps.length, .f] rfl fun a w h => ?_
      exact gR h rfl ⟨by rw [(Z1x lv ps).2 ⟨by omega, by omega, fun i hi => hok i (by omega)⟩], h.O.awE (L := [_])⟩
    obtain ⟨b, o, rfl, -, -⟩ := hrow.pair_in (Below.refl _ _) h4
    have q1 := hrow.key_at (Below.refl _ _) h4
    have q2 := hrow.val_at (Below.refl _ _) h4
    have hno : ¬ okAt lv ps j → goodB lv ps = false := Z6d h4
    have hyes : okAt lv ps j → ∀ i, i < j + 1 → okAt lv ps i := fun hh i hi => by
      by_cases hij : i = j
      · subst hij; exact hh
      · exact hok i (by omega)
    have hkj : ∃ k, keyAt ps j = k := ⟨_, rfl⟩
    have hvj : ∃ k, valAt ps j = k := ⟨_, rfl⟩
    obtain ⟨kj, hkj⟩ := hkj
    obtain ⟨x, hvj⟩ := hvj
    rw [hkj] at q1
    rw [hvj] at q2
    by_cases hj0 : j = 0
    · skip
      refine gX h [0, .v (.slice (some ⟨b, o, none⟩) ps.length c), vI ps.length, .t, .f, 0, .v (.int .i64 lv), .f, vI (j + 1 : Nat)] rfl fun a w h => ?_
      exact reG (j + 1) h ⟨rfl, rfl, trivial⟩ h.O ⟨h4, hyes (by unfold okAt farB; simp; omega)⟩ (by omega)
    obtain ⟨i, hi⟩ : ∃ i, j = i + 1 := ⟨j - 1, by omega⟩
    have q3 := hrow.key_at (Below.refl _ _) (j := i) (by omega)
    have hki : ∃ k, keyAt ps (j - 1) = k := ⟨_, rfl⟩
    obtain ⟨ki, hki⟩ := hki
    rw [show i = j - 1 by omega, hki] at q3
    rw [show j - 1 = i by omega] at q3
    by_cases h5 : kj ≤ ki
    · refine gX h [0, .v (.slice (some ⟨b, o, none⟩) ps.length c), vI ps.length, .t, .t, 0, .v (.slice (some ⟨b, o, none⟩) ps.length c), vI i, vj (o + i * 2), .k [1], .v (.int .u64 (ki : Nat)), 0, .v (.slice (some ⟨b, o, none⟩) ps.length c), vj (o + j * 2), .k [1], .v (.int .u64 (kj : Nat)), .t] rfl fun a w h => ?_
      exact gR h rfl ⟨by rw [hno fun hh => by unfold okAt farB at hh; simp at hh; omega], h.O.awE (L := [_])⟩
    refine gX h [0, .v (.slice (some ⟨b, o, none⟩) ps.length c), vI ps.length, .t, .t, 0, .v (.slice (some ⟨b, o, none⟩) ps.length c), vI i, vj (o + i * 2), .k [1], .v (.int .u64 (ki : Nat)), 0, .v (.slice (some ⟨b, o, none⟩) ps.length c), vj (o + j * 2), .k [1], .v (.int .u64 (kj : Nat)), .f, 0, .v (.int .i64 lv), .f, vI (j + 1 : Nat)] rfl fun a w h => ?_
    exact reG (j + 1) h ⟨rfl, rfl, trivial⟩ h.O ⟨h4, hyes (by unfold okAt farB; simp; omega)⟩ (by omega)

abbrev trB (gt : Nat) (v1 v2 : Value) (bad : Bool) : Thing := tBlk gt 100 ⟨[v1, v2, .bool bad]⟩
def LkQ (A : World) (R : List Thing) (gt : Nat) (o : Option (List Nat)) (e : Ending) (w' : World) : Prop :=
  e = .returned (.tuple ⟨[]⟩) ∧ ∃ (v1 v2 : Value) (bad : Bool) (P : List Nat) (Q : List Pr), OwnT 0 A (tAw A :: trB gt v1 v2 bad :: tNs v1 P :: tPs v2 Q :: R) w' ∧ WkI P Q ∧ match o with
    | none => bad = true
    | some P2 => bad = false ∧ P = P2
theorem rskipX {A : World} {R : List Thing} {gt : Nat} {v1 v2 nv : Value} {q lv : Int} {f0 h0 : Nat} {hb : Bool} (w : World) (O : OwnT 0 A (tAw A :: trB gt v1 v2 true :: R) w) :
    Calls Try.prog 66 #[.pointer (some ⟨gt, 0, none⟩), nv, .int .i64 q, .int .i64 lv, .int .u64 f0, .bool hb, .int .u64 h0] w fun e w' => e = .returned (.tuple ⟨[]⟩) ∧ OwnT 0 A (tAw A :: trB gt v1 v2 true :: R) w' := by
  refine fnG O 189 Try.func66 rfl rfl rfl fun a h => ?_
  refine gX h [1, 1] rfl fun a w h => ?_
  exact gR h rfl ⟨rfl, h.O⟩
theorem memI_nth {q : Int} {P : List Nat} {j y : Nat} (hy : P[j]? = some y) (h : (y : Int) = q) : memI q P = true := List.any_eq_true.2 ⟨y, List.mem_of_getElem? hy, by simpa using h⟩
theorem memI_no {q : Int} {P : List Nat} (h : ∀ (i y : Nat), P[i]? = some y → (y : Int) ≠ q) : memI q P = false := by
  refine List.any_eq_false.2 fun y hy => ?_
  obtain ⟨i, hi⟩ := List.mem_iff_getElem?.1 hy
  simpa using h i y hi
theorem Z80 {l : Int} {ps : List Pr} (hg : goodB l ps = true) : ∀ d j, j + d < ps.length → keyAt ps j ≤ keyAt ps (j + d)
  | 0, j, h => Nat.le_refl _
  | d + 1, j, h => by
    have h1 := Z80 hg d j (by omega)
    have h2 := (((Z1x l ps).1 hg).2.2 (j + (d + 1)) h).1
    rw [show j + (d + 1) - 1 = j + d by omega] at h2
    omega
set_option maxRecDepth 20000 in
theorem rlookX {A : World} {Bn : Option Addr} {cn' : Nat} {X : List Na} (hrow : Row A Bn 2 leafC X) (hok : ∀ x ∈ X, NaOk A x) (hl : X.length ≤ 1000) (h20 : ∀ x ∈ X, x.2.2.length ≤ 1000) : ∀ (k : Nat) (q lv : Int) (f0 h0 : Nat) (hb : Bool) (gt : Nat) (v1 v2 : Value) (P : List Nat) (Q : List Pr) (R : List Thing) (w : World) (O : OwnT 0 A (tAw A :: trB gt v1 v2 false :: tNs v1 P :: tPs v2 Q :: R) w) (hI : WkI P Q) (hk : (0 ≤ lv → lv < k) ∧ (lv < 0 → 8 ≤ k)) (hf0 : f0 < 18446744073709551616) (hh0 : h0 < 18446744073709551616),
    Calls Try.prog 66 #[.pointer (some ⟨gt, 0, none⟩), .slice Bn X.length cn', .int .i64 q, .int .i64 lv, .int .u64 f0, .bool hb, .int .u64 h0] w (LkQ A R gt (vis (ndF X) k q lv f0 (decide (0 ≤ lv)) h0 hb P)) := by
  intro k
  induction k with
  | zero => intro q lv f0 h0 hb gt v1 v2 P Q R w O hI hk; omega
  | succ k ih =>
  intro q lv f0 h0 hb gt v1 v2 P Q R w O hI hk hf0 hh0
  obtain ⟨B1, c1, rfl⟩ := Z0c (show w.ownsRow 0 _ _ _ _ _ from O.all.2.2.1)
  obtain ⟨B2, c2, rfl⟩ := Z0c (show w.ownsRow 0 _ _ _ _ _ from O.all.2.2.2.1)
  have hplen := hI.len
  unfold vis
  refine fnG O 189 Try.func66 rfl rfl rfl fun a h => ?_
  by_cases hq1 : q < 1
  · rw [show nodeG (ndF X) q lv = none by unfold nodeG ndF; rw [if_neg (by omega)]]
    refine gX h [1, .t, 1] rfl fun a w h => ?_
    exact gR h rfl ⟨rfl, _, _, _, P, Q, h.O, hI, rfl⟩
  by_cases hq2 : (X.length : Int) < q
  · rw [show nodeG (ndF X) q lv = none by unfold nodeG ndF; rw [if_pos (by omega), List.getElem?_eq_none (by omega)]; rfl]
    refine gX h [1, .f, .t, 1] rfl fun a w h => ?_
    exact gR h rfl ⟨rfl, _, _, _, P, Q, h.O, hI, rfl⟩
  obtain ⟨i, hqi⟩ : ∃ i : Nat, q = i + 1 := ⟨(q - 1).toNat, by omega⟩
  obtain ⟨x, hx0⟩ : ∃ x, X[i]? = some x := ⟨_, List.getElem?_eq_getElem (by omega)⟩
  obtain ⟨l, nv, ps⟩ := x
  have hN : ndF X q = some (l, ps) := by unfold ndF; rw [if_pos (by omega), show (q - 1).toNat = i by omega, hx0]; rfl
  obtain ⟨B, c, hnv, h5, hx, hps⟩ := hok _ (List.mem_of_getElem? hx0)
  have hps20 := h20 _ (List.mem_of_getElem? hx0)
  simp only at hnv h5 hx hps hps20
  subst hnv
  obtain ⟨bn, on, rfl, -, hc⟩ := hrow i _ hx0
  have d0 := hc 0 _ rfl
  have d1 := hc 1 _ rfl
  rw [Nat.add_zero] at d0
  refine gX h [1, .f, .f] rfl fun a w h => ?_
  refine lpG (G := Nat) (fun j => [(0, .pointer (some ⟨gt, 0, none⟩)), (1, .slice (some ⟨bn, on, none⟩) X.length cn'), (2, .int .i64 q), (3, .int .i64 lv), (4, .int .u64 f0), (5, .bool hb), (6, .int .u64 h0), (14, .int .i64 j)])
    (fun _ => tAw A :: trB gt (.slice B1 P.length c1) (.slice B2 Q.length c2) false :: tNs (.slice B1 P.length c1) P :: tPs (.slice B2 Q.length c2) Q :: R) (fun j => j ≤ P.length ∧ ∀ i y, i < j → P[i]? = some y → (y : Int) ≠ q) (fun j => P.length - j) 0 h ⟨rfl, rfl, rfl, rfl, rfl, rfl, rfl, rfl, trivial⟩ h.O ⟨Nat.zero_le _, fun i y hi => absurd hi (Nat.not_lt_zero i)⟩ fun j ⟨hj, hno⟩ a w h => ?_
  by_cases h1 : j < P.length
  · obtain ⟨y, hy⟩ : ∃ y, P[j]? = some y := ⟨_, List.getElem?_eq_getElem h1⟩
    have qy : (P.flatMap encN)[j]? = some (Value.int .i64 (y : Int)) := by rw [Z4k, hy]; rfl
    obtain ⟨b1, rfl⟩ : ∃ b, B1 = some ⟨b, 0, none⟩ := by
      rcases (show World.ownsRow _ 0 _ _ _ _ _ from h.O.all.2.2.1).2 with ⟨-, h0⟩ | ⟨g, cap, cur, hv, -⟩
      · omega
      · injection hv with h1; exact ⟨g, h1⟩
    by_cases h2 : (y : Int) = q
    · have hm := memI_nth hy h2
      refine gX h [1, .v (.slice (some ⟨b1, 0, none⟩) P.length c1), vI P.length, .t, 1, .v (.slice (some ⟨b1, 0, none⟩) P.length c1), vj j, 2, .v (.int .i64 (y : Nat)), .t, 1] rfl fun a w h => ?_
      refine gR h rfl ⟨rfl, _, _, _, P, Q, h.O, hI, ?_⟩
      cases hG : nodeG (ndF X) q lv with
      | none => rfl
      | some z =>
        obtain ⟨l', ps'⟩ := z
        simp only
        rw [if_pos (.inl hm)]
        trivial
    · refine gX h [1, .v (.slice (some ⟨b1, 0, none⟩) P.length c1), vI P.length, .t, 1, .v (.slice (some ⟨b1, 0, none⟩) P.length c1), vj j, 2, .v (.int .i64 (y : Nat)), .f, vI (j + 1 : Nat)] rfl fun a w h => ?_
      exact reG (j + 1) h ⟨rfl, rfl, rfl, rfl, rfl, rfl, rfl, rfl, trivial⟩ h.O ⟨h1, fun i z hi hz => by
        by_cases hij : i = j
        · subst hij; rw [hy] at hz; cases hz; exact h2
        · exact hno i z (by omega) hz⟩ (by omega)
  have hm : memI q P = false := memI_no fun i y hy => hno i y (by have := (List.getElem?_eq_some_iff.1 hy).1; omega) hy
  clear hno
  refine gX h [1, .v (.slice B1 P.length c1), vI P.length, .f, 1] rfl fun a w h => ?_
  refine gS (bytes := 8) h 3 1 rfl fun gs a w hE h => ?_
  refine gA (bytes := 8) h rfl 2 rfl (fun _ _ => rfl) (by omega) (fun _ _ _ _ => trivial) fun B3 c3 a w h => ?_
  have hI2 := hI.page hm ⟨by omega, by omega⟩
  have hP2 : (P ++ [q.toNat]).length = P.length + 1 := by simp
  rw [Z71 P (by omega), ← hP2] at h
  generalize P ++ [q.toNat] = P2 at h hI2 hP2 ⊢
  refine gX h [1, vI i, vj (on + i * 2), .k [0], .v (.agg ⟨[.int .i64 l, .slice B ps.length c]⟩)] rfl fun a w h => ?_
  refine gW h rfl fun g15 a w E h => ?_
  refine gX h [0, 0] rfl fun a w h => ?_
  have hps1 : ps.length ≤ 1000000 := by omega
  refine gE h rfl (rgoodX l B c ps w (hps.below (allE 1 h.O rfl)) hps1) fun a w E h => ?_
  have hG0 : ¬ (goodB l ps = true ∧ ps ≠ [] ∧ (lv < 0 ∨ l = lv)) → nodeG (ndF X) q lv = none := fun hh => by unfold nodeG; rw [hN]; simp only; rw [if_neg hh]
  have hG1 : goodB l ps = true ∧ ps ≠ [] ∧ (lv < 0 ∨ l = lv) → nodeG (ndF X) q lv = some (l, ps) := fun hh => by unfold nodeG; rw [hN]; simp only; rw [if_pos hh]
  cases hg : goodB l ps with
  | false =>
    rw [hg] at h
    rw [hG0 (by simp [hg])]
    refine gX h [.t, 2] rfl fun a w h => ?_
    exact gR h rfl ⟨rfl, _, _, _, P2, Q, h.O.tail, ⟨hI2.nd, hI2.bd, by have := hI.q; omega⟩, rfl⟩
  | true =>
  rw [hg] at h
  have hQ2 : WkI P2 Q := ⟨hI2.nd, hI2.bd, by have := hI.q; omega⟩
  by_cases hn0 : ps.length = 0
  · rw [hG0 (fun hh => hh.2.1 (List.length_eq_zero_iff.1 hn0))]
    refine gX h [.f, 0, .v (.slice B ps.length c), vI ps.length, .t, 2] rfl fun a w h => ?_
    exact gR h rfl ⟨rfl, _, _, _, P2, Q, h.O.tail, hQ2, rfl⟩
  have hne : ps ≠ [] := fun e => hn0 (by rw [e]; rfl)
  obtain ⟨b, o, rfl, -, -⟩ := hps.pair_in (Below.refl _ _) (j := 0) (by omega)
  have q0 := hps.key_at (Below.refl _ _) (j := 0) (by omega)
  rw [Nat.zero_mul, Nat.add_zero] at q0
  have hrg : rgt f0 (decide (0 ≤ lv)) h0 hb l ps = (decide (¬ (0 ≤ lv ∧ keyAt ps 0 ≠ f0) ∧ ¬ (lv < 0 ∧ 0 < l ∧ ps.length < 2)) && decide (hb = true → keyAt ps (ps.length - 1) < h0)) := by
    unfold rgt
    congr 2
    simp only [decide_eq_true_eq, decide_eq_false_iff_not, Int.not_le]
  obtain ⟨k0, hk0⟩ : ∃ k0, keyAt ps 0 = k0 := ⟨_, rfl⟩
  rw [hk0] at q0 hrg
  apply joinG (H := 0) (n := 189) (A := A) (tAw A :: trB gt (.slice (some ⟨B3, 0, none⟩) P2.length c3) (.slice B2 Q.length c2) false :: tNs (.slice (some ⟨B3, 0, none⟩) P2.length c3) P2 :: tPs (.slice B2 Q.length c2) Q :: tBlk g15 46 ⟨[.int .i64 l, .slice (some ⟨b, o, none⟩) ps.length c]⟩ :: R) [(0, .pointer (some ⟨gt, 0, none⟩)), (1, .slice (some ⟨bn, on, none⟩) X.length cn'), (5, .bool hb), (6, .int .u64 h0), (15, .pointer (some ⟨g15, 0, none⟩)), (16, .int .i64 0)] ((lv < 0 ∨ l = lv) ∧ ¬ (0 ≤ lv ∧ k0 ≠ f0) ∧ ¬ (lv < 0 ∧ 0 < l ∧ ps.length < 2))
  case main =>
    intro tail
    have O7 : ∀ {w}, OwnT 0 A (tBlk g15 46 ⟨[.int .i64 l, .slice (some ⟨b, o, none⟩) ps.length c]⟩ :: tAw A :: trB gt (.slice (some ⟨B3, 0, none⟩) P2.length c3) (.slice B2 Q.length c2) false :: tNs (.slice (some ⟨B3, 0, none⟩) P2.length c3) P2 :: tPs (.slice B2 Q.length c2) Q :: R) w → OwnT 0 A (tAw A :: trB gt (.slice (some ⟨B3, 0, none⟩) P2.length c3) (.slice B2 Q.length c2) false :: tNs (.slice (some ⟨B3, 0, none⟩) P2.length c3) P2 :: tPs (.slice B2 Q.length c2) Q :: tBlk g15 46 ⟨[.int .i64 l, .slice (some ⟨b, o, none⟩) ps.length c]⟩ :: R) w := fun O => OwnT.pickR (L := [_, _, _, _, _]) (R := R) O [1, 2, 3, 4, 0] (by decide)
    by_cases h3 : 0 ≤ lv
    · by_cases h4 : l = lv
      · by_cases h6 : k0 = f0
        · refine gX h [.f, 0, .v (.slice (some ⟨b, o, none⟩) ps.length c), vI ps.length, .f, .t, 0, .v (.int .i64 l), .f, 0, .v (.slice (some ⟨b, o, none⟩) ps.length c), vj o, .k [1], .v (.int .u64 (k0 : Nat)), .f, .f] rfl fun a w h => ?_
          exact tail _ _ _ (h.with (O7 h.O)) ⟨rfl, rfl, rfl, rfl, rfl, rfl, trivial⟩ ⟨.inr h4, by omega, by omega⟩
        · rw [hG1 ⟨hg, hne, .inr h4⟩]
          simp only
          rw [if_pos (.inr (by rw [hrg, decide_eq_false (fun hh => hh.1 ⟨h3, h6⟩)]; rfl))]
          refine gX h [.f, 0, .v (.slice (some ⟨b, o, none⟩) ps.length c), vI ps.length, .f, .t, 0, .v (.int .i64 l), .f, 0, .v (.slice (some ⟨b, o, none⟩) ps.length c), vj o, .k [1], .v (.int .u64 (k0 : Nat)), .t, 2] rfl fun a w h => ?_
          exact gR h rfl ⟨rfl, _, _, _, P2, Q, h.O.tail, hQ2, rfl⟩
      · rw [hG0 (fun hh => by rcases hh.2.2 with h | h <;> omega)]
        refine gX h [.f, 0, .v (.slice (some ⟨b, o, none⟩) ps.length c), vI ps.length, .f, .t, 0, .v (.int .i64 l), .t, 2] rfl fun a w h => ?_
        exact gR h rfl ⟨rfl, _, _, _, P2, Q, h.O.tail, hQ2, rfl⟩
    · by_cases h4 : 0 < l
      · by_cases h6 : ps.length < 2
        · rw [hG1 ⟨hg, hne, .inl (by omega)⟩]
          simp only
          rw [if_pos (.inr (by rw [hrg, decide_eq_false (fun hh => hh.2 ⟨by omega, h4, h6⟩)]; rfl))]
          refine gX h [.f, 0, .v (.slice (some ⟨b, o, none⟩) ps.length c), vI ps.length, .f, .f, .t, 0, .v (.int .i64 l), .t, 0, .v (.slice (some ⟨b, o, none⟩) ps.length c), vI ps.length, .t, 2] rfl fun a w h => ?_
          exact gR h rfl ⟨rfl, _, _, _, P2, Q, h.O.tail, hQ2, rfl⟩
        · refine gX h [.f, 0, .v (.slice (some ⟨b, o, none⟩) ps.length c), vI ps.length, .f, .f, .t, 0, .v (.int .i64 l), .t, 0, .v (.slice (some ⟨b, o, none⟩) ps.length c), vI ps.length, .f] rfl fun a w h => ?_
          exact tail _ _ _ (h.with (O7 h.O)) ⟨rfl, rfl, rfl, rfl, rfl, rfl, trivial⟩ ⟨.inl (by omega), by omega, by omega⟩
      · refine gX h [.f, 0, .v (.slice (some ⟨b, o, none⟩) ps.length c), vI ps.length, .f, .f, .t, 0, .v (.int .i64 l), .f] rfl fun a w h => ?_
        exact tail _ _ _ (h.with (O7 h.O)) ⟨rfl, rfl, rfl, rfl, rfl, rfl, trivial⟩ ⟨.inl (by omega), by omega, by omega⟩
  case tail =>
    intro m a w h hs ⟨hlv, hr1, hr2⟩
    replace h := h.cut hs
    clear hs
    rw [hG1 ⟨hg, hne, hlv⟩]
    simp only [hm, hrg, decide_eq_true (show ¬ (0 ≤ lv ∧ k0 ≠ f0) ∧ ¬ (lv < 0 ∧ 0 < l ∧ ps.length < 2) from ⟨hr1, hr2⟩), Bool.true_and, Bool.false_eq_true, false_or, decide_eq_false_iff_not]
    obtain ⟨f, hf⟩ : ∃ f : Int → Nat → Bool → Nat → List Nat → Option (List Nat), f = fun c f0 hb h0 P => vis (ndF X) k c (l - 1) f0 true h0 hb P := ⟨_, rfl⟩
    rw [← hf]
    obtain ⟨K, hK⟩ : ∃ K, kidsV f hb h0 ps P2 = K := ⟨_, rfl⟩
    rw [hK]
    obtain ⟨F, hF⟩ : ∃ F, (if ¬ (hb = true → keyAt ps (ps.length - 1) < h0) then none else if l = 0 then some P2 else K) = F := ⟨_, rfl⟩
    rw [hF]
    obtain ⟨⟨hl0, hl8, h15⟩, hv512⟩ := Z2m hg
    have hql := hI.q
    refine lpG (G := Nat × List Nat × List Pr × Bool × Value × Value) (fun g => [(0, .pointer (some ⟨gt, 0, none⟩)), (1, .slice (some ⟨bn, on, none⟩) X.length cn'), (5, .bool hb), (6, .int .u64 h0), (15, .pointer (some ⟨g15, 0, none⟩)), (16, .int .i64 g.1)])
      (fun g => tAw A :: trB gt g.2.2.2.2.1 g.2.2.2.2.2 g.2.2.2.1 :: tNs g.2.2.2.2.1 g.2.1 :: tPs g.2.2.2.2.2 g.2.2.1 :: tBlk g15 46 ⟨[.int .i64 l, .slice (some ⟨b, o, none⟩) ps.length c]⟩ :: R)
      (fun g => g.1 ≤ ps.length ∧ WkI g.2.1 g.2.2.1 ∧ (l = 0 → g.2.1 = P2 ∧ g.2.2.2.1 = false ∧ g.2.2.1.length ≤ 15 * P.length + g.1) ∧ (∀ j, j < g.1 → hb = true → keyAt ps j < h0) ∧ (l ≠ 0 → (g.2.2.2.1 = false ∧ K = kidsV f hb h0 (ps.drop g.1) g.2.1) ∨ (g.2.2.2.1 = true ∧ K = none))) (fun g => ps.length - g.1) (0, P2, Q, false, _, _) h ⟨rfl, rfl, rfl, rfl, rfl, rfl, trivial⟩ h.O ⟨Nat.zero_le _, hQ2, (fun _ => ⟨rfl, rfl, hql⟩), (fun j hj => absurd hj (Nat.not_lt_zero j)), fun _ => .inl ⟨rfl, hK.symm⟩⟩ fun g ⟨hi, hI3, hz, hkeys, hor⟩ a w h => ?_
    obtain ⟨i, P3, Q3, bad, v1, v2⟩ := g
    simp only at hi hI3 hz hkeys hor h ⊢
    clear hK hG0 hG1 hN hx0 hrow hc d0 d1 hQ2 hI2
    obtain ⟨B4, c4, rfl⟩ := Z0c (show w.ownsRow 0 _ _ _ _ _ from h.O.all.2.2.1)
    obtain ⟨B5, c5, rfl⟩ := Z0c (show w.ownsRow 0 _ _ _ _ _ from h.O.all.2.2.2.1)
    by_cases h1 : i < ps.length
    rotate_left
    · obtain rfl : i = ps.length := by omega
      refine gX h [4, .v (.slice (some ⟨b, o, none⟩) ps.length c), vI ps.length, .f] rfl fun a w h => ?_
      refine gN h rfl ⟨rfl, _, _, bad, P3, Q3, h.O.pickR (L := [_, _, _, _, _]) (R := R) [0, 1, 2, 3] (by decide), hI3, ?_⟩
      rw [if_neg (fun hh => hh (hkeys _ (by omega)))] at hF
      by_cases h8 : l = 0
      · rw [if_pos h8] at hF
        subst hF
        exact ⟨(hz h8).2.1, (hz h8).1⟩
      · rw [if_neg h8] at hF
        subst hF
        rw [List.drop_length] at hor
        rcases hor h8 with ⟨rfl, hKe⟩ | ⟨rfl, hKe⟩
        · rw [hKe]; exact ⟨rfl, rfl⟩
        · rw [hKe]
    obtain ⟨x, hx0⟩ : ∃ x, ps[i]? = some x := ⟨_, List.getElem?_eq_getElem h1⟩
    have hxm := List.mem_of_getElem? hx0
    have hx1 := hx x hxm
    have q1 := hps.key_at (Below.refl _ _) h1
    have q2 := hps.val_at (Below.refl _ _) h1
    have hkx : keyAt ps i = x.1 := by simp [keyAt, List.getD, hx0]
    have hvx : valAt ps i = x.2 := by simp [valAt, List.getD, hx0]
    rw [hkx] at q1
    rw [hvx] at q2
    refine gX h [4, .v (.slice (some ⟨b, o, none⟩) ps.length c), vI ps.length, .t, 4, .v (.slice (some ⟨b, o, none⟩) ps.length c), vj (o + i * 2), .k [0], .v (.agg ⟨[.int .u64 (x.1 : Nat), .int .u64 (x.2 : Nat)]⟩)] rfl fun a w h => ?_
    refine gW h rfl fun g17 a w E h => ?_
    by_cases h7 : hb = true ∧ h0 ≤ x.1
    · obtain ⟨rfl, h7⟩ := h7
      refine gX h [0, 0, .t, 2] rfl fun a w h => ?_
      refine gR h rfl ⟨rfl, _, _, true, P3, Q3, h.O.pickR (L := [_, _, _, _, _, _]) (R := R) [1, 2, 3, 4] (by decide), hI3, ?_⟩
      rw [if_pos (fun hh => by
        have h9 := Z80 hg (ps.length - 1 - i) i (by omega)
        rw [show i + (ps.length - 1 - i) = ps.length - 1 by omega, hkx] at h9
        have := hh rfl
        omega)] at hF
      subst hF
      rfl
    have hkeys' : ∀ j, j < i + 1 → hb = true → keyAt ps j < h0 := fun j hj hbt => by
      by_cases hij : j = i
      · subst hij; rw [hkx]; exact Nat.lt_of_not_le fun hh => h7 ⟨hbt, hh⟩
      · exact hkeys j (by omega) hbt
    apply joinG (H := 0) (n := 189) (A := A) (tBlk g17 103 ⟨[.int .u64 (x.1 : Nat), .int .u64 (x.2 : Nat)]⟩ :: tAw A :: trB gt (.slice B4 P3.length c4) (.slice B5 Q3.length c5) bad :: tNs (.slice B4 P3.length c4) P3 :: tPs (.slice B5 Q3.length c5) Q3 :: tBlk g15 46 ⟨[.int .i64 l, .slice (some ⟨b, o, none⟩) ps.length c]⟩ :: R) [(0, .pointer (some ⟨gt, 0, none⟩)), (1, .slice (some ⟨bn, on, none⟩) X.length cn'), (5, .bool hb), (6, .int .u64 h0), (15, .pointer (some ⟨g15, 0, none⟩)), (16, .int .i64 i), (17, .pointer (some ⟨g17, 0, none⟩)), (139, .pointer (some ⟨g15, 0 + 0, none⟩))] True
    case main =>
      intro tail
      by_cases hbt : hb = true
      · have hlt : ¬ h0 ≤ x.1 := fun hh => h7 ⟨hbt, hh⟩
        refine gX h [0, .T, .T, 0, .T, .T, .f, .T, .f] rfl fun a w h => ?_
        exact tail _ _ _ h ⟨rfl, rfl, rfl, rfl, rfl, rfl, rfl, rfl, trivial⟩ trivial
      · have hbf : hb = false := by simpa using hbt
        refine gX h [0, .F, .F, .F, .F, .F, .f] rfl fun a w h => ?_
        exact tail _ _ _ h ⟨rfl, rfl, rfl, rfl, rfl, rfl, rfl, rfl, trivial⟩ trivial
    case tail =>
      intro m a w h hs _
      replace h := h.cut hs
      clear hs
      by_cases h8 : l = 0
      · obtain ⟨rfl, rfl, hq3⟩ := hz h8
        refine gX h [5, .v (.int .i64 l), .t, .k [2000, 1008, 2, 0], 0, 1] rfl fun a w h => ?_
        refine gS (bytes := 16) h 103 2 rfl fun gs a w hE h => ?_
        refine gA (bytes := 16) h rfl 4 rfl (fun _ _ => rfl) (by omega) (fun _ _ _ O => ⟨O.all.2.2.1, O.all.1, trivial⟩) fun B6 c6 a w h => ?_
        refine gX h [2, vI (i + 1 : Nat)] rfl fun a w h => ?_
        have hfl : flatP Q3 ++ [.int .u64 (x.1 : Nat), .int .u64 (x.2 : Nat)] = flatP (Q3 ++ [x]) := by simp [flatP, pairC]
        have O7 := h.O
        rw [hfl, show Q3.length + 1 = (Q3 ++ [x]).length by simp] at O7
        exact reG (i + 1, P3, Q3 ++ [x], false, _, _) h ⟨rfl, rfl, rfl, rfl, rfl, rfl, trivial⟩ (OwnT.pickR (L := [_, _, _, _, _, _]) (R := R) O7 [1, 2, 3, 4, 5] (by decide)) ⟨h1, ⟨hI3.nd, hI3.bd, by simp only [List.length_append, List.length_singleton]; omega⟩, fun _ => ⟨rfl, rfl, by simp only [List.length_append, List.length_singleton]; omega⟩, hkeys', fun hh => absurd h8 hh⟩ (by simp only; omega)
      obtain ⟨hx3, hx4⟩ := hv512 (by omega) x hxm
      have hdr : ps.drop i = x :: ps.drop (i + 1) := by
        rw [List.drop_eq_getElem_cons h1]
        rw [List.getElem?_eq_getElem h1] at hx0
        cases hx0; rfl
      have hkk : (0 ≤ l - 1 → l - 1 < (k : Int)) ∧ (l - 1 < 0 → 8 ≤ k) := by omega
      by_cases h2 : i + 1 < ps.length
      · obtain ⟨y, hy0⟩ : ∃ y, ps[i + 1]? = some y := ⟨_, List.getElem?_eq_getElem h2⟩
        have q3 := hps.key_at (Below.refl _ _) h2
        rw [show keyAt ps (i + 1) = y.1 by simp [keyAt, List.getD, hy0]] at q3
        have hy1 := (hx y (List.mem_of_getElem? hy0)).1
        have hdr2 : ps.drop (i + 1) ≠ [] ∧ ((ps.drop (i + 1)).head?.map (·.1)).getD h0 = y.1 := by
          rw [List.head?_drop, hy0]
          exact ⟨fun e => by have := congrArg List.length e; simp at this; omega, rfl⟩
        refine gX h [5, .v (.int .i64 l), .f, vI (i + 1 : Nat), 5, .v (.slice (some ⟨b, o, none⟩) ps.length c), vI ps.length, .t, .k [0, 5, 1], 0, 1, .v (.int .i64 l), vI (l - 1), 0, 1, .v (.slice (some ⟨b, o, none⟩) ps.length c), vI (i + 1 : Nat), vj (o + (i + 1) * 2), .k [2], .v (.int .u64 (y.1 : Nat))] rfl fun a w h => ?_
        have Op := OwnT.pickR (L := [_, _, _, _, _, _]) (R := R) h.O [1, 2, 3, 4, 0, 5] (by decide)
        rcases hor h8 with ⟨rfl, hKe⟩ | ⟨rfl, hKe⟩
        · rw [hdr, kidsV, if_neg hdr2.1, hdr2.2, show f (x.2 : Nat) x.1 true y.1 P3 = vis (ndF X) k (x.2 : Nat) (l - 1) x.1 (decide (0 ≤ l - 1)) y.1 true P3 by rw [hf, decide_eq_true (by omega)]] at hKe
          refine gC h rfl (ih (x.2 : Nat) (l - 1) x.1 y.1 true gt _ _ P3 Q3 _ w Op hI3 hkk hx1.1 hy1) ?_
          rintro e w' ⟨rfl, v1', v2', bad', P4, Q4, O4, hI4, hres⟩
          refine ⟨_, rfl, _, O4, ⟨O4.all.2.2.2.2.1, O4.all.2.2.2.2.2.1, O4.all.1, trivial⟩, fun a h => ?_⟩
          refine gX h [vI (i + 1 : Nat)] rfl fun a w h => ?_
          refine reG (i + 1, P4, Q4, bad', v1', v2') h ⟨rfl, rfl, rfl, rfl, rfl, rfl, trivial⟩ (OwnT.pickR (L := [_, _, _, _, _, _]) (R := R) h.O [0, 1, 2, 3, 5] (by decide)) ⟨h1, hI4, fun hz => absurd hz h8, hkeys', fun _ => ?_⟩ (by simp only; omega)
          cases hvis : vis (ndF X) k (x.2 : Nat) (l - 1) x.1 (decide (0 ≤ l - 1)) y.1 true P3 with
          | none =>
            rw [hvis] at hKe hres
            exact .inr ⟨hres, hKe⟩
          | some P5 =>
            rw [hvis] at hKe hres
            exact .inl ⟨hres.1, by rw [hKe, hres.2]⟩
        · refine gC h rfl (rskipX w Op) ?_
          rintro e w' ⟨rfl, O4⟩
          refine ⟨_, rfl, _, O4, ⟨O4.all.2.2.2.2.1, O4.all.2.2.2.2.2.1, O4.all.1, trivial⟩, fun a h => ?_⟩
          refine gX h [vI (i + 1 : Nat)] rfl fun a w h => ?_
          exact reG (i + 1, P3, Q3, true, _, _) h ⟨rfl, rfl, rfl, rfl, rfl, rfl, trivial⟩ (OwnT.pickR (L := [_, _, _, _, _, _]) (R := R) h.O [0, 1, 2, 3, 5] (by decide)) ⟨h1, hI3, fun hz => absurd hz h8, hkeys', fun _ => .inr ⟨rfl, hKe⟩⟩ (by simp only; omega)
      · have hdr2 : ps.drop (i + 1) = [] := List.drop_eq_nil_of_le (by omega)
        refine gX h [5, .v (.int .i64 l), .f, vI (i + 1 : Nat), 5, .v (.slice (some ⟨b, o, none⟩) ps.length c), vI ps.length, .f, 0, 5, .v (.int .i64 l), vI (l - 1), 0] rfl fun a w h => ?_
        have Op := OwnT.pickR (L := [_, _, _, _, _, _]) (R := R) h.O [1, 2, 3, 4, 0, 5] (by decide)
        rcases hor h8 with ⟨rfl, hKe⟩ | ⟨rfl, hKe⟩
        · rw [hdr, kidsV, if_pos hdr2, show ((ps.drop (i + 1)).head?.map (·.1)).getD h0 = h0 by rw [hdr2]; rfl, show f (x.2 : Nat) x.1 hb h0 P3 = vis (ndF X) k (x.2 : Nat) (l - 1) x.1 (decide (0 ≤ l - 1)) h0 hb P3 by rw [hf, decide_eq_true (by omega)]] at hKe
          refine gC h rfl (ih (x.2 : Nat) (l - 1) x.1 h0 hb gt _ _ P3 Q3 _ w Op hI3 hkk hx1.1 hh0) ?_
          rintro e w' ⟨rfl, v1', v2', bad', P4, Q4, O4, hI4, hres⟩
          refine ⟨_, rfl, _, O4, trivial, fun a h => ?_⟩
          refine gX h [vI (i + 1 : Nat)] rfl fun a w h => ?_
          refine reG (i + 1, P4, Q4, bad', v1', v2') h ⟨rfl, rfl, rfl, rfl, rfl, rfl, trivial⟩ (OwnT.pickR (L := [_, _, _, _, _, _]) (R := R) h.O [0, 1, 2, 3, 5] (by decide)) ⟨h1, hI4, fun hz => absurd hz h8, hkeys', fun _ => ?_⟩ (by simp only; omega)
          cases hvis : vis (ndF X) k (x.2 : Nat) (l - 1) x.1 (decide (0 ≤ l - 1)) h0 hb P3 with
          | none =>
            rw [hvis] at hKe hres
            exact .inr ⟨hres, hKe⟩
          | some P5 =>
            rw [hvis] at hKe hres
            exact .inl ⟨hres.1, by rw [hKe, hres.2]⟩
        · refine gC h rfl (rskipX w Op) ?_
          rintro e w' ⟨rfl, O4⟩
          refine ⟨_, rfl, _, O4, trivial, fun a h => ?_⟩
          refine gX h [vI (i + 1 : Nat)] rfl fun a w h => ?_
          exact reG (i + 1, P3, Q3, true, _, _) h ⟨rfl, rfl, rfl, rfl, rfl, rfl, trivial⟩ (OwnT.pickR (L := [_, _, _, _, _, _]) (R := R) h.O [0, 1, 2, 3, 5] (by decide)) ⟨h1, hI3, fun hz => absurd hz h8, hkeys', fun _ => .inr ⟨rfl, hKe⟩⟩ (by simp only; omega)

set_option maxRecDepth 10000 in
theorem rLookX {Bn : Option Addr} {cn' : Nat} {X : List Na} (w0 : World) (hrow : Row w0 Bn 2 leafC X) (hok : ∀ x ∈ X, NaOk w0 x) (hl : X.length ≤ 1000) (h20 : ∀ x ∈ X, x.2.2.length ≤ 1000) (root : Int) :
    Calls Try.prog 37 #[.slice Bn X.length cn', .int .i64 root] w0 fun e w' => ∃ (gt : Nat) (v1 v2 : Value) (bad : Bool) (P : List Nat) (Q : List Pr), e = .returned (.pointer (some ⟨gt, 0, none⟩)) ∧ OwnT w0.heap.size w0 [trB gt v1 v2 bad, tNs v1 P, tPs v2 Q] w' ∧ P.length ≤ 1024 ∧ match reachV (ndF X) root with
      | none => bad = true
      | some P2 => bad = false ∧ P = P2 := by
  refine fnG (aw0 w0) 15 Try.func37 rfl rfl rfl fun a h => ?_
  refine gX h [] rfl fun a w h => ?_
  refine gW h rfl fun gt a w E h => ?_
  have O3 : OwnT 0 w0 [tAw w0, trB gt (.slice none 0 0) (.slice none 0 0) false, tNs (.slice none 0 0) [], tPs (.slice none 0 0) []] w :=
    ((h.O.cons (Ext.refl _) (tNs (.slice none 0 0) []) tns0 (fun i hi => by simp [tRow, Value.ownBlock] at hi)).cons (Ext.refl _) (tPs (.slice none 0 0) []) tps0 (fun i hi => by simp [tRow, Value.ownBlock] at hi)).pickR (L := [_, _, _, _]) (R := []) [3, 2, 1, 0] (by decide)
  unfold reachV
  by_cases h0 : root = 0
  · rw [if_pos h0]
    refine gX (h.with O3) [.f] rfl fun a w h => ?_
    exact gR h rfl ⟨gt, _, _, false, [], [], rfl, (h.O.pickR (L := [_, _, _, _]) (R := []) [1, 2, 3, 0] (by decide) : OwnT 0 w0 ([_, _, _] ++ [tAw w0]) w).unAw, by simp, rfl, rfl⟩
  · rw [if_neg h0]
    refine gX (h.with O3) [.t] rfl fun a w h => ?_
    refine gC h rfl (rlookX hrow hok hl h20 8 root (-1) 0 0 false gt _ _ [] [] [] w h.O ⟨by simp, by simp, by simp⟩ (by omega) (by omega) (by omega)) ?_
    rintro e w' ⟨rfl, v1, v2, bad, P, Q, O4, hI, hres⟩
    refine ⟨_, rfl, _, O4, trivial, fun a h => ?_⟩
    refine gX h [] rfl fun a w h => ?_
    exact gR h rfl ⟨gt, v1, v2, bad, P, Q, rfl, (h.O.pickR (L := [_, _, _, _]) (R := []) [1, 2, 3, 0] (by decide) : OwnT 0 w0 ([_, _, _] ++ [tAw w0]) w).unAw, hI.len, hres⟩
/-! A page is led to once more. -/
def addE : List (Nat × Nat) → Nat → List (Nat × Nat)
  | [], p => [(p, 1)]
  | x :: r, p => if p < x.1 then (p, 1) :: x :: r else if x.1 = p then (x.1, x.2 + 1) :: r else x :: addE r p
abbrev Ris (l : List (Nat × Nat)) : Prop := l.Pairwise fun x y => x.1 < y.1
theorem ris_ext : ∀ {l m : List (Nat × Nat)}, Ris l → Ris m → (∀ x, x ∈ l ↔ x ∈ m) → l = m
  | [], [], _, _, _ => rfl
  | [], y :: m, _, _, h => absurd ((h y).2 (by simp)) (by simp)
  | x :: l, [], _, _, h => absurd ((h x).1 (by simp)) (by simp)
  | x :: l, y :: m, hl, hm, h => by
    have h1 := List.pairwise_cons.1 hl
    have h2 := List.pairwise_cons.1 hm
    have hxy : x = y := by
      rcases List.mem_cons.1 ((h x).1 (by simp)) with e | hx
      · exact e
      · rcases List.mem_cons.1 ((h y).2 (by simp)) with e | hy
        · exact e.symm
        · have := h2.1 x hx
          have := h1.1 y hy
          omega
    subst hxy
    congr 1
    refine ris_ext h1.2 h2.2 fun z => ⟨fun hz => ?_, fun hz => ?_⟩
    · rcases List.mem_cons.1 ((h z).1 (by simp [hz])) with e | hz'
      · subst e; exact absurd (h1.1 z hz) (by omega)
      · exact hz'
    · rcases List.mem_cons.1 ((h z).2 (by simp [hz])) with e | hz'
      · subst e; exact absurd (h2.1 z hz) (by omega)
      · exact hz'
theorem Z5n : ∀ {l : List (Nat × Nat)}, Ris l → ∀ p x, x ∈ addE l p ↔ (x.1 ≠ p ∧ x ∈ l) ∨ (x.1 = p ∧ ((∃ c, (p, c) ∈ l ∧ x.2 = c + 1) ∨ ((∀ c, (p, c) ∉ l) ∧ x.2 = 1)))
  | [], _, p, x => by
    simp only [addE, List.mem_singleton, List.not_mem_nil, and_false, false_or, not_false_eq_true, implies_true, true_and, false_and, exists_false]
    constructor
    · rintro rfl; exact ⟨rfl, rfl⟩
    · rintro ⟨h1, h2⟩; rw [← h1, ← h2]
  | y :: r, hl, p, x => by
    have h1 := List.pairwise_cons.1 hl
    have ih := Z5n h1.2 p x
    unfold addE
    have hge : ∀ c, p < y.1 → (p, c) ∉ r := fun c hp hc => by have := h1.1 _ hc; simp only at this; omega
    split
    · rename_i hp
      have hno : ∀ c, (p, c) ∉ y :: r := fun c hc => by
        rcases List.mem_cons.1 hc with e | hc
        · subst e; simp only at hp; omega
        · exact hge c hp hc
      constructor
      · intro h
        rcases List.mem_cons.1 h with rfl | h
        · exact .inr ⟨rfl, .inr ⟨hno, rfl⟩⟩
        · refine .inl ⟨fun e => hno x.2 (by rw [← e]; exact h), h⟩
      · rintro (⟨-, h⟩ | ⟨h2, h3⟩)
        · exact List.mem_cons_of_mem _ h
        · rcases h3 with ⟨c, hc, -⟩ | ⟨-, h4⟩
          · exact absurd hc (hno c)
          · rw [show x = (p, 1) from Prod.ext h2 h4]; exact List.mem_cons_self ..
    · split
      · rename_i hp hy
        have hno : ∀ c, (p, c) ∉ r := fun c hc => by have := h1.1 _ hc; simp only at this; omega
        constructor
        · intro h
          rcases List.mem_cons.1 h with rfl | h
          · exact .inr ⟨hy, .inl ⟨y.2, by rw [← hy]; exact List.mem_cons_self .., rfl⟩⟩
          · exact .inl ⟨fun e => hno x.2 (by rw [← e]; exact h), List.mem_cons_of_mem _ h⟩
        · rintro (⟨h2, h⟩ | ⟨h2, h3⟩)
          · rcases List.mem_cons.1 h with rfl | h
            · exact absurd hy h2
            · exact List.mem_cons_of_mem _ h
          · rcases h3 with ⟨c, hc, h4⟩ | ⟨h4, -⟩
            · rcases List.mem_cons.1 hc with e | hc
              · rw [show x = (y.1, y.2 + 1) from Prod.ext (h2.trans hy.symm) (by rw [h4, ← e])]
                exact List.mem_cons_self ..
              · exact absurd hc (hno c)
            · exact absurd (by rw [← hy]; exact List.mem_cons_self ..) (h4 y.2)
      · rename_i hp hy
        rw [List.mem_cons, ih]
        constructor
        · rintro (rfl | ⟨h2, h⟩ | ⟨h2, h3⟩)
          · exact .inl ⟨hy, List.mem_cons_self ..⟩
          · exact .inl ⟨h2, List.mem_cons_of_mem _ h⟩
          · refine .inr ⟨h2, ?_⟩
            rcases h3 with ⟨c, hc, h4⟩ | ⟨h4, h5⟩
            · exact .inl ⟨c, List.mem_cons_of_mem _ hc, h4⟩
            · refine .inr ⟨fun c hc => ?_, h5⟩
              rcases List.mem_cons.1 hc with e | hc
              · exact hy (by rw [← e])
              · exact h4 c hc
        · rintro (⟨h2, h⟩ | ⟨h2, h3⟩)
          · rcases List.mem_cons.1 h with rfl | h
            · exact .inl rfl
            · exact .inr (.inl ⟨h2, h⟩)
          · refine .inr (.inr ⟨h2, ?_⟩)
            rcases h3 with ⟨c, hc, h4⟩ | ⟨h4, h5⟩
            · rcases List.mem_cons.1 hc with e | hc
              · exact absurd (by rw [← e]) hy
              · exact .inl ⟨c, hc, h4⟩
            · exact .inr ⟨fun c hc => h4 c (List.mem_cons_of_mem _ hc), h5⟩
theorem Z87 : ∀ {l : List (Nat × Nat)}, Ris l → ∀ p, Ris (addE l p)
  | [], _, p => by simp [addE]
  | y :: r, hl, p => by
    have h1 := List.pairwise_cons.1 hl
    unfold addE
    split
    · rename_i hp
      refine List.pairwise_cons.2 ⟨fun z hz => ?_, hl⟩
      rcases List.mem_cons.1 hz with rfl | hz
      · exact hp
      · exact Nat.lt_trans hp (h1.1 z hz)
    · split
      · exact List.pairwise_cons.2 ⟨fun z hz => h1.1 z hz, h1.2⟩
      · rename_i hp hy
        refine List.pairwise_cons.2 ⟨fun z hz => ?_, Z87 h1.2 p⟩
        rcases (Z5n h1.2 p z).1 hz with ⟨-, hz⟩ | ⟨hz, -⟩
        · exact h1.1 z hz
        · omega
theorem Z69 {E : List Nat} (hE : EvOk E) (q : Nat) : q ∈ keysE E ↔ q ∈ E := by
  unfold keysE keysN sen
  rw [List.mem_filter, List.mem_map]
  simp only [decide_eq_true_eq, List.mem_range]
  constructor
  · rintro ⟨-, h⟩; exact h
  · intro h
    have := hE q h
    exact ⟨⟨q - 1, by omega, by omega⟩, h⟩
theorem Z2v (E : List Nat) : Ris (refsL E) := by
  unfold refsL Ris
  rw [List.pairwise_map]
  exact Z3g _
theorem Z2w {E : List Nat} (hE : EvOk E) (x : Nat × Nat) : x ∈ refsL E ↔ x.1 ∈ E ∧ x.2 = cn E x.1 := by
  unfold refsL
  rw [List.mem_map]
  constructor
  · rintro ⟨q, hq, rfl⟩; exact ⟨(Z69 hE q).1 hq, rfl⟩
  · rintro ⟨h1, h2⟩; exact ⟨x.1, (Z69 hE _).2 h1, by rw [← h2]⟩
theorem refsL_add {E : List Nat} {p : Nat} (hE : EvOk (E ++ [p])) : refsL (E ++ [p]) = addE (refsL E) p := by
  have hE' : EvOk E := fun q hq => hE q (by simp [hq])
  refine ris_ext (Z2v _) (Z87 (Z2v E) p) fun x => ?_
  rw [Z2w hE, Z5n (Z2v E), Z2w hE']
  have hc : cn (E ++ [p]) x.1 = cn E x.1 + if x.1 = p then 1 else 0 := by
    unfold cn
    rw [List.count_append, List.count_singleton]
    by_cases h : x.1 = p
    · simp [h]
    · rw [if_neg h, if_neg (by simpa using fun e => h e.symm)]
  have h0 : ∀ q, q ∉ E → cn E q = 0 := fun q h => List.count_eq_zero.2 h
  rw [hc]
  by_cases h : x.1 = p
  · rw [if_pos h]
    simp only [h, Z2w hE', List.mem_append, List.mem_singleton, or_true, true_and, ne_eq, not_true_eq_false, false_and, false_or]
    by_cases hp : p ∈ E
    · simp [hp]
    · simp [hp, h0 p hp]
  · rw [if_neg h]
    simp [h]

abbrev tRr (v : Value) (l : List (Nat × Nat)) : Thing := tRow 60 2 v l.length (l.flatMap encR)
theorem Z5o : ∀ (l1 r : List (Nat × Nat)) (p : Nat), (∀ x ∈ l1, x.1 < p) → addE (l1 ++ r) p = l1 ++ addE r p
  | [], r, p, _ => rfl
  | x :: l1, r, p, h => by
    have h1 := h x (by simp)
    rw [List.cons_append, addE, if_neg (by omega), if_neg (by omega), Z5o l1 r p (fun y hy => h y (by simp [hy]))]
    rfl
theorem Z39 (l : List (Nat × Nat)) (k c : Nat) : l.flatMap encR ++ [.int .i64 (k : Nat), .int .i64 (c : Nat)] = (l ++ [(k, c)]).flatMap encR := by simp [encR]
set_option maxRecDepth 10000 in
theorem raddX {B : Option Addr} {c : Nat} (l : List (Nat × Nat)) (p : Nat) (w0 : World) (hrow : Row w0 B 2 encR l) (hl : l.length ≤ 100000) (hr : Ris l) (hp : p ≤ 1000000) (hc : ∀ x ∈ l, x.1 ≤ 1000000 ∧ x.2 ≤ 1000000000000) :
    Calls Try.prog 38 #[.slice B l.length c, .int .i64 (p : Nat)] w0 fun e w' => ∃ v, e = .returned v ∧ OwnT w0.heap.size w0 [tRr v (addE l p)] w' := by
  refine fnG (aw0 w0) 56 Try.func38 rfl rfl rfl fun a h => ?_
  refine gX h [] rfl fun a w h => ?_
  refine gZ h 60 2 rfl rfl rfl rfl fun g0 a w h => ?_
  refine gX h [] rfl fun a w h => ?_
  refine lpG (G := Nat × Bool × List (Nat × Nat) × Value) (fun g => [(0, .slice B l.length c), (1, .int .i64 p), (5, g.2.2.2), (6, .bool g.2.1), (7, .int .i64 g.1)]) (fun g => [tRr g.2.2.2 g.2.2.1, tAw w0])
    (fun g => g.1 ≤ l.length ∧ g.2.2.1.length ≤ g.1 + 1 ∧ (g.2.1 = false → g.2.2.1 = l.take g.1 ∧ ∀ x ∈ l.take g.1, x.1 < p) ∧ (g.2.1 = true → g.2.2.1 ++ l.drop g.1 = addE l p ∧ ∀ x ∈ l.drop g.1, p < x.1)) (fun g => l.length - g.1) (0, false, [], _) h ⟨rfl, rfl, rfl, rfl, rfl, trivial⟩ h.O ⟨Nat.zero_le _, by simp, by simp, by simp⟩ fun g ⟨hi, hol, hF, hT⟩ a w h => ?_
  obtain ⟨i, dn, out, v⟩ := g
  simp only at hi hol hF hT h ⊢
  by_cases h1 : i < l.length
  rotate_left
  · obtain rfl : i = l.length := by omega
    rw [List.take_length, List.drop_length] at *
    cases dn with
    | true =>
      obtain ⟨h2, -⟩ := hT rfl
      rw [List.append_nil] at h2
      refine gX h [vI l.length, .f, .f] rfl fun a w h => ?_
      exact gR h rfl ⟨_, rfl, by rw [← h2]; exact OwnT.unAw (L := [_]) h.O⟩
    | false =>
      obtain ⟨rfl, h2⟩ := hF rfl
      refine gX h [vI out.length, .f, .t] rfl fun a w h => ?_
      refine gS (bytes := 16) h 60 2 rfl fun gs a w hE h => ?_
      refine gA (bytes := 16) h rfl 0 rfl (fun _ _ => rfl) (by omega) (fun _ _ _ _ => trivial) fun B3 c3 a w h => ?_
      have e3 : out.flatMap encR ++ [Value.int .i64 (p : Nat), Value.int .i64 1] = (out ++ [(p, 1)]).flatMap encR := Z39 out p 1
      have e4 := Z5o out [] p h2
      rw [List.append_nil] at e4
      rw [e3, show out.length + 1 = (out ++ [(p, 1)]).length by simp] at h
      refine gX h [] rfl fun a w h => ?_
      exact gR h rfl ⟨_, rfl, by rw [e4]; exact OwnT.unAw (L := [_]) h.O⟩
  obtain ⟨x, hx0⟩ : ∃ x, l[i]? = some x := ⟨_, List.getElem?_eq_getElem h1⟩
  obtain ⟨k, n⟩ := x
  have hxm := List.mem_of_getElem? hx0
  obtain ⟨hk1, hk2⟩ := hc _ hxm
  simp only at hk1 hk2
  have hdr : l.drop i = (k, n) :: l.drop (i + 1) := by
    rw [List.drop_eq_getElem_cons h1]
    congr 1
    exact Option.some.inj ((List.getElem?_eq_getElem h1).symm.trans hx0)
  have htk : l.take (i + 1) = l.take i ++ [(k, n)] := by rw [List.take_add_one, hx0]; rfl
  have hrd : Ris ((k, n) :: l.drop (i + 1)) := by rw [← hdr]; exact hr.sublist (List.drop_sublist _ _)
  have hrd2 := (List.pairwise_cons.1 hrd).1
  obtain ⟨b, o, rfl, -, hcc⟩ := hrow i _ hx0
  have q0 := hcc 0 _ rfl
  have q1 := hcc 1 _ rfl
  rw [Nat.add_zero] at q0
  simp only at q0 q1
  cases dn with
  | true =>
    obtain ⟨h2, h3⟩ := hT rfl
    have h4 := h3 (k, n) (by rw [hdr]; simp)
    simp only at h4
    refine gX h [vI l.length, .t, vj (o + i * 2), .k [1], .v (.int .i64 (k : Nat)), .t, .f, vj (o + i * 2), .k [1], .v (.agg ⟨[.int .i64 (k : Nat), .int .i64 (n : Nat)]⟩)] rfl fun a w h => ?_
    refine gW h rfl fun g8 a w E h => ?_
    refine gX h [0, 0, .f, 0] rfl fun a w h => ?_
    refine gS (bytes := 16) h 60 2 rfl fun gs a w hE h => ?_
    refine gA (bytes := 16) h rfl 1 rfl (fun _ _ => rfl) (by omega) (fun _ _ _ _ => trivial) fun B3 c3 a w h => ?_
    rw [Z39, show out.length + 1 = (out ++ [(k, n)]).length by simp] at h
    refine gX h [vI (i + 1 : Nat)] rfl fun a w h => ?_
    exact reG (i + 1, true, out ++ [(k, n)], _) h ⟨rfl, rfl, rfl, rfl, rfl, trivial⟩ h.O.tail ⟨h1, by simp only [List.length_append, List.length_singleton]; omega, (fun hh => by cases hh), fun _ => ⟨by rw [← h2, hdr]; simp, fun x hx => h3 x (by rw [hdr]; simp [hx])⟩⟩ (by simp only; omega)
  | false =>
    obtain ⟨rfl, h2⟩ := hF rfl
    have hadd : addE l p = l.take i ++ addE ((k, n) :: l.drop (i + 1)) p := by
      rw [← Z5o _ _ _ h2, ← hdr, List.take_append_drop]
    have htl : (l.take i).length = i := by rw [List.length_take]; omega
    by_cases h5 : p < k
    · rw [addE, if_pos h5] at hadd
      refine gX h [vI l.length, .t, vj (o + i * 2), .k [1], .v (.int .i64 (k : Nat)), .t, .t] rfl fun a w h => ?_
      refine gS (bytes := 16) h 60 2 rfl fun gs a w hE h => ?_
      refine gA (bytes := 16) h rfl 0 rfl (fun _ _ => rfl) (by omega) (fun _ _ _ _ => trivial) fun B3 c3 a w h => ?_
      rw [show (([Value.int IntKind.i64 (p : Nat), Value.int IntKind.i64 1] : List Value)) = [.int .i64 (p : Nat), .int .i64 (1 : Nat)] from rfl, Z39, show (l.take i).length + 1 = (l.take i ++ [(p, 1)]).length by simp] at h
      have hol2 : (l.take i ++ [(p, 1)]).length = i + 1 := by simp; omega
      generalize ho2 : l.take i ++ [(p, 1)] = out2 at h hol2
      refine gX h [vj (o + i * 2), .k [1], .v (.agg ⟨[.int .i64 (k : Nat), .int .i64 (n : Nat)]⟩)] rfl fun a w h => ?_
      refine gW h rfl fun g8 a w E h => ?_
      refine gX h [0, 0, .f, 0] rfl fun a w h => ?_
      refine gS (bytes := 16) h 60 2 rfl fun gs a w hE h => ?_
      refine gA (bytes := 16) h rfl 1 rfl (fun _ _ => rfl) (by omega) (fun _ _ _ _ => trivial) fun B4 c4 a w h => ?_
      rw [Z39, show out2.length + 1 = (out2 ++ [(k, n)]).length by simp] at h
      refine gX h [vI (i + 1 : Nat)] rfl fun a w h => ?_
      exact reG (i + 1, true, out2 ++ [(k, n)], _) h ⟨rfl, rfl, rfl, rfl, rfl, trivial⟩ h.O.tail ⟨h1, by simp only [List.length_append, List.length_singleton]; omega, (fun hh => by cases hh), fun _ => ⟨by rw [hadd, ← ho2]; simp, fun x hx => Nat.lt_trans h5 (hrd2 x hx)⟩⟩ (by simp only; omega)
    by_cases h6 : k = p
    · subst h6
      rw [addE, if_neg h5, if_pos rfl] at hadd
      refine gX h [vI l.length, .t, vj (o + i * 2), .k [1], .v (.int .i64 (k : Nat)), .f, vj (o + i * 2), .k [1], .v (.agg ⟨[.int .i64 (k : Nat), .int .i64 (n : Nat)]⟩)] rfl fun a w h => ?_
      refine gW h rfl fun g8 a w E h => ?_
      refine gX h [0, 0, .t, 0, .v (.int .i64 (n : Nat)), vI (n + 1 : Nat), 0, 0] rfl fun a w h => ?_
      refine gS (bytes := 16) h 60 2 rfl fun gs a w hE h => ?_
      refine gA (bytes := 16) h rfl 1 rfl (fun _ _ => rfl) (by omega) (fun _ _ _ _ => trivial) fun B3 c3 a w h => ?_
      rw [Z39, show (l.take i).length + 1 = (l.take i ++ [(k, n + 1)]).length by simp] at h
      refine gX h [vI (i + 1 : Nat)] rfl fun a w h => ?_
      exact reG (i + 1, true, l.take i ++ [(k, n + 1)], _) h ⟨rfl, rfl, rfl, rfl, rfl, trivial⟩ h.O.tail ⟨h1, by simp only [List.length_append, List.length_singleton]; omega, (fun hh => by cases hh), fun _ => ⟨by rw [hadd]; simp, fun x hx => hrd2 x hx⟩⟩ (by simp only; omega)
    · refine gX h [vI l.length, .t, vj (o + i * 2), .k [1], .v (.int .i64 (k : Nat)), .f, vj (o + i * 2), .k [1], .v (.agg ⟨[.int .i64 (k : Nat), .int .i64 (n : Nat)]⟩)] rfl fun a w h => ?_
      refine gW h rfl fun g8 a w E h => ?_
      refine gX h [0, 0, .f, 0] rfl fun a w h => ?_
      refine gS (bytes := 16) h 60 2 rfl fun gs a w hE h => ?_
      refine gA (bytes := 16) h rfl 1 rfl (fun _ _ => rfl) (by omega) (fun _ _ _ _ => trivial) fun B3 c3 a w h => ?_
      rw [Z39, show (l.take i).length + 1 = (l.take i ++ [(k, n)]).length by simp, ← htk] at h
      refine gX h [vI (i + 1 : Nat)] rfl fun a w h => ?_
      exact reG (i + 1, false, l.take (i + 1), _) h ⟨rfl, rfl, rfl, rfl, rfl, trivial⟩ h.O.tail ⟨h1, by simp only [List.length_take]; omega, (fun _ => ⟨rfl, fun x hx => by
        rw [htk] at hx
        rcases List.mem_append.1 hx with hx | hx
        · exact h2 x hx
        · rw [List.mem_singleton.1 hx]; simp only; omega⟩), fun hh => by cases hh⟩ (by simp only; omega)

theorem info_bo : ∃ i, Try.prog.info? 4 = some i ∧ i.zero = some (.bool false) ∧ i.size = 1 ∧ i.bytes = 1 := by
  have h : (Try.prog.info? 4).map (fun i => (i.zero, i.size, i.bytes)) = some (some (.bool false), 1, 1) := by kernel_rfl
  obtain ⟨i, h1, h2, h3, h4⟩ := info_parts h
  exact ⟨i, h1, h2, h3, h4⟩
theorem mk_bools (w : World) (n : Nat) (hn : n ≤ 10000000) : ∃ g w', (Instr.makeSlice 96 (.int .i64 n) (.int .i64 n)).run Try.prog w = .ok (.slice (some ⟨g, 0, none⟩) n n) w' ∧
    w'.ownsRow w.heap.size 4 1 (.slice (some ⟨g, 0, none⟩) n n) n (List.replicate n (.bool false)) ∧ Ext w w' := by
  obtain ⟨i, hi, hz, hs, hb⟩ := info_bo
  obtain ⟨w', h1, h2, h3⟩ := run_makeSlice_full (P := Try.prog) w w.heap.size 96 4 i (.bool false) 1 Try.underlying96 hi hz hs .i64 .i64 n (by omega) (by rw [hb]; omega) (by unfold maxLen; omega) (Nat.le_refl _)
  refine ⟨_, w', h1, ?_, ⟨h3.os, h3.tape, h3.output, h3.size, fun i hi => h3.block i hi (by simp)⟩⟩
  have e : (madeCells (Value.bool false).cells (n * 1)).toList = List.replicate n (.bool false) := by
    have := h2.1
    apply List.ext_getElem?
    intro i
    by_cases hi : i < n
    · rw [List.getElem?_replicate, if_pos hi]
      simp [madeCells, Value.cells, hi, Nat.mod_one]
    · rw [List.getElem?_eq_none (by rw [this]; omega), List.getElem?_eq_none (by rw [List.length_replicate]; omega)]
  rw [e] at h2
  exact h2
/-- Which pages were gone through. -/
def senC (n : Nat) (S : List Nat) : List Value := (List.range n).map fun q => .bool (decide (q ∈ S))
theorem senC_len (n : Nat) (S : List Nat) : (senC n S).length = n := by simp [senC]
theorem senC_nil (n : Nat) : List.replicate n (Value.bool false) = senC n [] := by
  unfold senC
  apply List.ext_getElem
  · simp
  · intro i h1 h2; simp
theorem senC_at {n q : Nat} (S : List Nat) (h : q < n) : (senC n S)[q]? = some (.bool (decide (q ∈ S))) := by simp [senC, h]
theorem senC_set {n q : Nat} (S : List Nat) (h : q < n) : (senC n S).set q (.bool true) = senC n (S ++ [q]) := by
  unfold senC
  apply List.ext_getElem
  · simp
  · intro i h1 h2
    rw [List.getElem_set]
    split
    · rename_i e; subst e; simp
    · rename_i e
      have : i ≠ q := fun h => e h.symm
      simp [this]
abbrev tSn (v : Value) (n : Nat) (S : List Nat) : Thing := tRow 4 1 v n (senC n S)
theorem tRr_Row {B : Option Addr} {c : Nat} {l : List (Nat × Nat)} {w : World} (h : (tRr (.slice B l.length c) l).holds w) : Row w B 2 encR l := Z56 (enc := encR) (k := 2) (fun _ => rfl) (by omega) (show World.ownsRow _ 0 _ _ _ _ (l.flatMap encR) from h)
theorem Z5z (E : List Nat) : (refsL E).length ≤ 1023 := by
  unfold refsL
  rw [List.length_map]
  exact Z30 _
theorem refsL_bd {E : List Nat} (hE : EvOk E) (hl : E.length ≤ 1000000) : ∀ x ∈ refsL E, x.1 ≤ 1000000 ∧ x.2 ≤ 1000000000000 := fun x hx => by
  obtain ⟨h1, h2⟩ := (Z2w hE x).1 hx
  have h3 := hE x.1 h1
  have h4 : cn E x.1 ≤ E.length := List.count_le_length
  omega
theorem raddE {E : List Nat} {p : Nat} {B : Option Addr} {c : Nat} (w : World) (hE : EvOk (E ++ [p])) (hl : E.length ≤ 1000000) (h : (tRr (.slice B (refsL E).length c) (refsL E)).holds w) :
    Calls Try.prog 38 #[.slice B (refsL E).length c, .int .i64 (p : Nat)] w fun e w' => ∃ v, e = .returned v ∧ OwnT w.heap.size w [tRr v (refsL (E ++ [p]))] w' := by
  rw [refsL_add hE]
  exact raddX (refsL E) p w (tRr_Row h) (by have := Z5z E; omega) (Z2v E) (by have := hE p (by simp); omega) (refsL_bd (fun q hq => hE q (by simp [hq])) hl)
set_option maxRecDepth 20000 in
theorem rRefsX {Bn Br : Option Addr} {cn' cr : Nat} {X : List Na} (rs : List Int) (w0 : World) (hrow : Row w0 Bn 2 leafC X) (hok : ∀ x ∈ X, NaOk w0 x) (hl : X.length ≤ 1000) (h20 : ∀ x ∈ X, x.2.2.length ≤ 1000) (hrs : Row1 w0 Br (Value.int .i64) rs) (hrl : rs.length ≤ 20)
    {p : Value} {A : World} (hR : Reads A p (ndF X)) :
    Calls Try.prog 16 #[.slice Bn X.length cn', .slice Br rs.length cr] w0 fun e w' => match refsE (ndF X) rs with
      | none => e = .returned (.tuple ⟨[.slice none 0 0, .bool false]⟩) ∧ Ext w0 w'
      | some st => ∃ v, e = .returned (.tuple ⟨[v, .bool true]⟩) ∧ OwnT w0.heap.size w0 [tRr v (refsL st.1)] w' := by
  refine fnG (aw0 w0) 106 Try.func16 rfl rfl rfl fun a h => ?_
  refine gX h [] rfl fun a w h => ?_
  refine gZ h 60 2 rfl rfl rfl rfl fun g0 a w h => ?_
  refine gX h [vI X.length, vI (X.length + 1 : Nat)] rfl fun a w h => ?_
  obtain ⟨gs, w', hr, hrow2, hE⟩ := mk_bools w (X.length + 1) (by omega)
  have O1 : OwnT 0 w0 (tSn (.slice (some ⟨gs, 0, none⟩) (X.length + 1) (X.length + 1)) (X.length + 1) [] :: tRr (.slice (some ⟨g0, 0, none⟩) 0 0) (refsL []) :: [tAw w0]) w' := by
    have h1 := h.O.cons hE (tRow 4 1 (.slice (some ⟨gs, 0, none⟩) (X.length + 1) (X.length + 1)) (X.length + 1) (List.replicate (X.length + 1) (.bool false))) (show World.ownsRow _ 0 _ _ _ _ _ from Z6y hrow2 (Nat.zero_le _)) (fun i hi => (World.ownsRow.lt hrow2 i (by simpa [tRow] using hi)).1)
    rw [senC_nil] at h1
    have h2 : refsL [] = [] := by unfold refsL keysE keysN sen; simp
    rw [h2]
    exact h1
  refine spG h [] rfl rfl rfl (x_make rfl (h.M.opv _ _ rfl) (h.M.opv _ _ rfl) hr) O1 trivial fun a h => ?_
  refine gX h [] rfl fun a w h => ?_
  obtain ⟨F, hF⟩ : ∃ F, refsE (ndF X) rs = F := ⟨_, rfl⟩
  rw [hF]
  refine lpG (G := Nat × List Nat × List Nat × Value) (fun g => [(0, .slice Bn X.length cn'), (1, .slice Br rs.length cr), (6, g.2.2.2), (7, .slice (some ⟨gs, 0, none⟩) (X.length + 1) (X.length + 1)), (8, .int .i64 g.1)])
    (fun g => [tRr g.2.2.2 (refsL g.2.1), tSn (.slice (some ⟨gs, 0, none⟩) (X.length + 1) (X.length + 1)) (X.length + 1) g.2.2.1, tAw w0]) (fun g => g.1 ≤ rs.length ∧ g.2.1.length ≤ 16000 * g.1 ∧ EvOk g.2.1 ∧ F = (rs.drop g.1).foldl (fun o r => o.bind (rootE (ndF X) r)) (some (g.2.1, g.2.2.1))) (fun g => rs.length - g.1) (0, [], [], .slice (some ⟨g0, 0, none⟩) 0 0) h ⟨rfl, rfl, rfl, rfl, rfl, trivial⟩ (OwnT.pick h.O [1, 0, 2] (by decide)) ⟨Nat.zero_le _, by simp, (fun x hx => by cases hx), by rw [← hF]; rfl⟩ fun g ⟨hi, hl1, hev, hFe⟩ a w h => ?_
  obtain ⟨i, E, S, v⟩ := g
  simp only at hi hl1 hev hFe h ⊢
  obtain ⟨B1, c1, rfl⟩ := Z0c (show w.ownsRow 0 _ _ _ _ _ from h.O.all.1)
  by_cases h1 : i < rs.length
  rotate_left
  · obtain rfl : i = rs.length := by omega
    rw [List.drop_length] at hFe
    rw [hFe]
    refine gX h [vI rs.length, .f] rfl fun a w h => ?_
    exact gR h rfl ⟨_, rfl, (OwnT.pick h.O [0, 2] (by decide) : OwnT 0 w0 ([_] ++ [tAw w0]) w).unAw⟩
  obtain ⟨r, hr⟩ : ∃ r, rs[i]? = some r := ⟨_, List.getElem?_eq_getElem h1⟩
  have hdr : rs.drop i = r :: rs.drop (i + 1) := by
    rw [List.drop_eq_getElem_cons h1]
    congr 1
    exact Option.some.inj ((List.getElem?_eq_getElem h1).symm.trans hr)
  obtain ⟨b, o, rfl, -, q⟩ := hrs i r hr
  rw [hdr, List.foldl_cons, Option.bind_some] at hFe
  refine gX h [vI rs.length, .t, vj (o + i), .k [2], .v (.int .i64 r)] rfl fun a w h => ?_
  have hEw := allE 2 h.O rfl
  refine gC h rfl (rLookX w (hrow.below hEw) (fun x hx => (hok x hx).ext hEw) hl h20 r) ?_
  rintro e w' ⟨gt, v1, v2, bad, P, Q, rfl, O2, hpl, hres⟩
  obtain ⟨B3, c3, rfl⟩ := Z0c (show w'.ownsRow 0 _ _ _ _ _ from O2.all.2.1)
  refine ⟨_, rfl, _, h.O.graft O2, trivial, fun a h => ?_⟩
  cases hv : reachV (ndF X) r with
  | none =>
    rw [hv] at hres
    subst hres
    rw [show rootE (ndF X) r (E, S) = none by unfold rootE; rw [if_neg (fun h0 => by unfold reachV at hv; rw [if_pos h0] at hv; cases hv), hv]; rfl, Z48] at hFe
    rw [hFe]
    refine gX h [0] rfl fun a w h => ?_
    exact gR h rfl ⟨rfl, allE 5 h.O rfl⟩
  | some P2 =>
  rw [hv] at hres
  obtain ⟨rfl, rfl⟩ := hres
  by_cases h0 : r = 0
  · subst h0
    have hP : P = [] := by unfold reachV at hv; rw [if_pos rfl] at hv; exact (Option.some.inj hv).symm
    subst hP
    rw [show rootE (ndF X) 0 (E, S) = some (E, S) by unfold rootE; rw [if_pos rfl]] at hFe
    refine gX h [0, .v (.bool false), vj (o + i), .k [5], .v (.int .i64 0), .f] rfl fun a w h => ?_
    refine lpG (G := Unit) (fun _ => [(0, .slice Bn X.length cn'), (1, .slice (some ⟨b, o, none⟩) rs.length cr), (6, .slice B1 (refsL E).length c1), (7, .slice (some ⟨gs, 0, none⟩) (X.length + 1) (X.length + 1)), (8, .int .i64 i), (9, .pointer (some ⟨gt, 0, none⟩)), (10, .int .i64 0)]) (fun _ => _) (fun _ => True) (fun _ => 0) () h ⟨rfl, rfl, rfl, rfl, rfl, rfl, rfl, trivial⟩ h.O trivial fun _ _ a w h => ?_
    refine gX h [0, .v (.slice B3 0 c3), .f, vI (i + 1 : Nat)] rfl fun a w h => ?_
    exact reG (i + 1, E, S, .slice B1 (refsL E).length c1) h ⟨rfl, rfl, rfl, rfl, rfl, trivial⟩ (OwnT.pick h.O [3, 4, 5] (by decide)) ⟨h1, by simp only; omega, hev, hFe⟩ (by simp only; omega)
  obtain ⟨hr1, hr2⟩ := Z3z hR hv h0
  obtain ⟨rn, rfl⟩ : ∃ rn : Nat, r = rn := ⟨r.toNat, by omega⟩
  have hpg := Z4h hR hv
  have hevr : EvOk (E ++ [rn]) := fun x hx => by
    rcases List.mem_append.1 hx with hx | hx
    · exact hev x hx
    · rw [List.mem_singleton.1 hx]; omega
  obtain ⟨stJ, hst⟩ : ∃ stJ : Nat → List Nat × List Nat, stJ = fun j => (P.take j).foldl (fun st q => nodeE (ndF X) q st) (E ++ [rn], S) := ⟨_, rfl⟩
  have hst0 : stJ 0 = (E ++ [rn], S) := by rw [hst]; rfl
  have hstS : ∀ j q, P[j]? = some q → stJ (j + 1) = nodeE (ndF X) q (stJ j) := fun j q h => by rw [hst]; simp only [List.take_add_one, h]; simp
  have hstE : rootE (ndF X) (rn : Int) (E, S) = some (stJ P.length) := by
    unfold rootE
    rw [if_neg h0, hv, hst]
    simp only [Option.map_some, List.take_length, Int.toNat_natCast]
  have hlen : ∀ j, j ≤ P.length → (stJ j).1.length ≤ E.length + 1 + 15 * j ∧ EvOk (stJ j).1 := fun j => by
    induction j with
    | zero => intro _; rw [hst0]; exact ⟨by simp, hevr⟩
    | succ j ih =>
      intro hj
      obtain ⟨q, hq⟩ : ∃ q, P[j]? = some q := ⟨_, List.getElem?_eq_getElem (by omega)⟩
      have h1 := ih (by omega)
      have h2 := Z67 hR (hpg q (List.mem_of_getElem? hq)) (stJ j)
      rw [hstS j q hq]
      exact ⟨by omega, Z7t (hpg q (List.mem_of_getElem? hq)) h1.2⟩
  rw [hstE] at hFe
  clear hst hstE
  refine gX h [0, .v (.bool false), vj (o + i), .k [5], .v (.int .i64 (rn : Nat)), .t, vj (o + i), .k [5], .v (.int .i64 (rn : Nat))] rfl fun a w h => ?_
  refine gC h rfl (raddE w hevr (by omega) h.O.all.2.2.2.1) ?_
  rintro e w' ⟨v', rfl, O3⟩
  refine ⟨_, rfl, _, h.O.graft O3, trivial, fun a h => ?_⟩
  refine gX h [] rfl fun a w h => ?_
  refine lpG (G := Nat × Value) (fun g => [(0, .slice Bn X.length cn'), (1, .slice (some ⟨b, o, none⟩) rs.length cr), (6, g.2), (7, .slice (some ⟨gs, 0, none⟩) (X.length + 1) (X.length + 1)), (8, .int .i64 i), (9, .pointer (some ⟨gt, 0, none⟩)), (10, .int .i64 g.1)])
    (fun g => [trB gt (.slice B3 P.length c3) v2 false, tNs (.slice B3 P.length c3) P, tRr g.2 (refsL (stJ g.1).1), tSn (.slice (some ⟨gs, 0, none⟩) (X.length + 1) (X.length + 1)) (X.length + 1) (stJ g.1).2, tAw w0]) (fun g => g.1 ≤ P.length) (fun g => P.length - g.1) (0, v') h ⟨rfl, rfl, rfl, rfl, rfl, rfl, rfl, trivial⟩ (by rw [hst0]; exact OwnT.pick h.O [1, 2, 0, 5, 6] (by decide)) (Nat.zero_le _) fun g hj a w h => ?_
  obtain ⟨j, v⟩ := g
  simp only at hj h ⊢
  obtain ⟨hle, hevj⟩ := hlen j hj
  obtain ⟨B4, c4, rfl⟩ := Z0c (show w.ownsRow 0 _ _ _ _ _ from h.O.all.2.2.1)
  by_cases h2 : j < P.length
  rotate_left
  · obtain rfl : j = P.length := by omega
    refine gX h [0, .v (.slice B3 P.length c3), vI P.length, .f, vI (i + 1 : Nat)] rfl fun a w h => ?_
    exact reG (i + 1, (stJ P.length).1, (stJ P.length).2, _) h ⟨rfl, rfl, rfl, rfl, rfl, trivial⟩ (OwnT.pick h.O [2, 3, 4] (by decide)) ⟨h1, by simp only; omega, hevj, hFe⟩ (by simp only; omega)
  obtain ⟨q, hq⟩ : ∃ q, P[j]? = some q := ⟨_, List.getElem?_eq_getElem h2⟩
  have hqm := List.mem_of_getElem? hq
  have qy : (P.flatMap encN)[j]? = some (Value.int .i64 (q : Int)) := by rw [Z4k, hq]; rfl
  have hsj := hstS j q hq
  obtain ⟨hle2, hevj2⟩ := hlen (j + 1) (by omega)
  obtain ⟨l, ps, hN, hg⟩ := hpg q hqm
  obtain ⟨⟨hl0, hl8, h15⟩, hv512⟩ := Z2m hg
  obtain ⟨z, hz, nv, hx0⟩ : ∃ z : Nat, q = z + 1 ∧ ∃ nv, X[z]? = some (l, nv, ps) := by
    unfold ndF at hN
    split at hN
    · rename_i hq1
      refine ⟨q - 1, by omega, ?_⟩
      rw [show ((q : Int) - 1).toNat = q - 1 by omega] at hN
      cases hx : X[q - 1]? with
      | none => rw [hx] at hN; cases hN
      | some x =>
        rw [hx] at hN
        cases hN
        exact ⟨x.2.1, rfl⟩
    · cases hN
  have hzX := (List.getElem?_eq_some_iff.1 hx0).1
  obtain ⟨B, c, hnv, h5, hx, hps⟩ := hok _ (List.mem_of_getElem? hx0)
  simp only at hnv h5 hx hps
  subst hnv
  obtain ⟨bn, on, rfl, -, hc⟩ := hrow z _ hx0
  have d0 := hc 0 _ rfl
  have d1 := hc 1 _ rfl
  rw [Nat.add_zero] at d0
  obtain ⟨b3, rfl⟩ : ∃ b, B3 = some ⟨b, 0, none⟩ := by
    rcases (show World.ownsRow _ 0 _ _ _ _ _ from h.O.all.2.1).2 with ⟨-, h0⟩ | ⟨g, cap, cur, hv, -⟩
    · omega
    · injection hv with h1; exact ⟨g, h1⟩
  have qs := senC_at (n := X.length + 1) (stJ j).2 (q := q) (by omega)
  refine gX h [0, .v (.slice (some ⟨b3, 0, none⟩) P.length c3), vI P.length, .t, 0, .v (.slice (some ⟨b3, 0, none⟩) P.length c3), vj j, 1, .v (.int .i64 (q : Nat)), vI z, vj (on + z * 2), .k [4], .v (.agg ⟨[.int .i64 l, .slice B ps.length c]⟩)] rfl fun a w h => ?_
  refine gW h rfl fun g11 a w Ew h => ?_
  by_cases hs : q ∈ (stJ j).2
  · rw [decide_eq_true hs] at qs
    rw [show nodeE (ndF X) q (stJ j) = stJ j by unfold nodeE; rw [if_pos hs]] at hsj
    refine gX h [0, 1, .v (.slice (some ⟨b3, 0, none⟩) P.length c3), vj j, 2, .v (.int .i64 (q : Nat)), vj q, 4, .v (.bool true), vI (j + 1 : Nat)] rfl fun a w h => ?_
    exact reG (j + 1, _) h ⟨rfl, rfl, rfl, rfl, rfl, rfl, rfl, trivial⟩ (by rw [hsj]; exact h.O.tail) h2 (by simp only; omega)
  rw [decide_eq_false hs] at qs
  refine gX h [0, 1, .v (.slice (some ⟨b3, 0, none⟩) P.length c3), vj j, 2, .v (.int .i64 (q : Nat)), vj q, 4, .v (.bool false), 1, .v (.slice (some ⟨b3, 0, none⟩) P.length c3), vj j, 2, .v (.int .i64 (q : Nat)), vj q] rfl fun a w h => ?_
  replace h := h.with (OwnT.pick h.O [4, 0, 1, 2, 3, 5] (by decide))
  refine gQ h (.bool true) q rfl rfl rfl rfl rfl rfl rfl rfl (by rw [senC_len]; omega) (fun _ _ => trivial) fun a w h => ?_
  rw [senC_set (stJ j).2 (by omega)] at h
  obtain ⟨E2, hE2⟩ : ∃ E2, (stJ j).1 = E2 := ⟨_, rfl⟩
  obtain ⟨S2, hS2⟩ : ∃ S2, (stJ j).2 = S2 := ⟨_, rfl⟩
  have hnode : stJ (j + 1) = (if l = 0 then E2 else E2 ++ ps.map (·.2), S2 ++ [q]) := by
    rw [hsj]
    unfold nodeE
    rw [if_neg hs, hN]
    simp only [hE2, hS2]
  rw [hE2] at h hle hevj
  rw [hS2] at h
  refine gX h [] rfl fun a w h => ?_
  refine lpG (G := Nat × Value) (fun g => [(0, .slice (some ⟨bn, on, none⟩) X.length cn'), (1, .slice (some ⟨b, o, none⟩) rs.length cr), (6, g.2), (7, .slice (some ⟨gs, 0, none⟩) (X.length + 1) (X.length + 1)), (8, .int .i64 i), (9, .pointer (some ⟨gt, 0, none⟩)), (10, .int .i64 j), (11, .pointer (some ⟨g11, 0, none⟩)), (12, .int .i64 g.1)])
    (fun g => [tBlk g11 46 ⟨[.int .i64 l, .slice B ps.length c]⟩, trB gt (.slice (some ⟨b3, 0, none⟩) P.length c3) v2 false, tNs (.slice (some ⟨b3, 0, none⟩) P.length c3) P, tRr g.2 (refsL (E2 ++ (ps.take g.1).map (·.2))), tSn (.slice (some ⟨gs, 0, none⟩) (X.length + 1) (X.length + 1)) (X.length + 1) (S2 ++ [q]), tAw w0]) (fun g => g.1 ≤ ps.length ∧ (l = 0 → g.1 = 0)) (fun g => ps.length - g.1) (0, _) h ⟨rfl, rfl, rfl, rfl, rfl, rfl, rfl, rfl, rfl, trivial⟩ (by rw [List.take_zero, List.map_nil, List.append_nil]; exact OwnT.pick h.O [1, 2, 3, 4, 0, 5] (by decide)) ⟨Nat.zero_le _, fun _ => rfl⟩ fun g ⟨hk, hk0⟩ a w h => ?_
  obtain ⟨k, v⟩ := g
  simp only at hk hk0 h ⊢
  obtain ⟨B5, c5, rfl⟩ := Z0c (show w.ownsRow 0 _ _ _ _ _ from h.O.all.2.2.2.1)
  have hev2 : ∀ y ∈ ps, l ≠ 0 → 1 ≤ y.2 ∧ y.2 ≤ 1023 := fun y hy hz => by have := hv512 (by omega) y hy; omega
  by_cases hl00 : l = 0
  · obtain rfl := hk0 hl00
    rw [if_pos hl00] at hnode
    have fin : ∀ {w}, OwnT 0 w0 [tBlk g11 46 ⟨[.int .i64 l, .slice B ps.length c]⟩, trB gt (.slice (some ⟨b3, 0, none⟩) P.length c3) v2 false, tNs (.slice (some ⟨b3, 0, none⟩) P.length c3) P, tRr (.slice B5 (refsL (E2 ++ (ps.take 0).map (·.2))).length c5) (refsL (E2 ++ (ps.take 0).map (·.2))), tSn (.slice (some ⟨gs, 0, none⟩) (X.length + 1) (X.length + 1)) (X.length + 1) (S2 ++ [q]), tAw w0] w → OwnT 0 w0 [trB gt (.slice (some ⟨b3, 0, none⟩) P.length c3) v2 false, tNs (.slice (some ⟨b3, 0, none⟩) P.length c3) P, tRr (.slice B5 (refsL (E2 ++ (ps.take 0).map (·.2))).length c5) (refsL (stJ (j + 1)).1), tSn (.slice (some ⟨gs, 0, none⟩) (X.length + 1) (X.length + 1)) (X.length + 1) (stJ (j + 1)).2, tAw w0] w := fun O => by
      rw [hnode]
      simpa using O.tail
    by_cases hn0 : 0 < ps.length
    · refine gX h [0, .v (.slice B ps.length c), vI ps.length, .t, 0, .v (.int .i64 l), .f, vI (j + 1 : Nat)] rfl fun a w h => ?_
      exact reG (j + 1, _) h ⟨rfl, rfl, rfl, rfl, rfl, rfl, rfl, trivial⟩ (fin h.O) h2 (by simp only; omega)
    · refine gX h [0, .v (.slice B ps.length c), vI ps.length, .f, vI (j + 1 : Nat)] rfl fun a w h => ?_
      exact reG (j + 1, _) h ⟨rfl, rfl, rfl, rfl, rfl, rfl, rfl, trivial⟩ (fin h.O) h2 (by simp only; omega)
  rw [if_neg hl00] at hnode
  by_cases h3 : k < ps.length
  rotate_left
  · obtain rfl : k = ps.length := by omega
    refine gX h [0, .v (.slice B ps.length c), vI ps.length, .f, vI (j + 1 : Nat)] rfl fun a w h => ?_
    exact reG (j + 1, _) h ⟨rfl, rfl, rfl, rfl, rfl, rfl, rfl, trivial⟩ (by rw [hnode]; simpa using h.O.tail) h2 (by simp only; omega)
  obtain ⟨y, hy0⟩ : ∃ y, ps[k]? = some y := ⟨_, List.getElem?_eq_getElem h3⟩
  have hym := List.mem_of_getElem? hy0
  have hy1 := hev2 y hym hl00
  obtain ⟨bb, oo, rfl, -, -⟩ := hps.pair_in (Below.refl _ _) h3
  have q2 := hps.val_at (Below.refl _ _) h3
  rw [show valAt ps k = y.2 by simp [valAt, List.getD, hy0]] at q2
  have htk : E2 ++ (ps.take (k + 1)).map (·.2) = E2 ++ (ps.take k).map (·.2) ++ [y.2] := by
    rw [List.take_add_one, hy0]
    simp
  have hevk : EvOk (E2 ++ (ps.take k).map (·.2) ++ [y.2]) := fun x hx => by
    rcases List.mem_append.1 hx with hx | hx
    · rcases List.mem_append.1 hx with hx | hx
      · exact hevj x hx
      · obtain ⟨z, hz, rfl⟩ := List.mem_map.1 hx
        exact hev2 z (List.mem_of_mem_take hz) hl00
    · rw [List.mem_singleton.1 hx]; exact hy1
  have hlk : (E2 ++ (ps.take k).map (·.2)).length ≤ 1000000 := by simp only [List.length_append, List.length_map, List.length_take]; omega
  refine gX h [0, .v (.slice (some ⟨bb, oo, none⟩) ps.length c), vI ps.length, .t, 0, .v (.int .i64 l), .t, 0, .v (.slice (some ⟨bb, oo, none⟩) ps.length c), vj (oo + k * 2), .k [5], .v (.int .u64 (y.2 : Nat))] rfl fun a w h => ?_
  refine gC h rfl (raddE w hevk hlk h.O.all.2.2.2.1) ?_
  rintro e w' ⟨v', rfl, O3⟩
  refine ⟨_, rfl, _, h.O.graft O3, trivial, fun a h => ?_⟩
  refine gX h [vI (k + 1 : Nat)] rfl fun a w h => ?_
  exact reG (k + 1, v') h ⟨rfl, rfl, rfl, rfl, rfl, rfl, rfl, rfl, rfl, trivial⟩ (by rw [htk]; exact OwnT.pick h.O [1, 2, 3, 0, 5, 6] (by decide)) ⟨h3, fun hh => absurd hh hl00⟩ (by simp only; omega)
open Go.RowKit Go.Maps
section
variable {w : World} {o : Oper} {ρ : Operand → Value} {t u : TypeId} {x y : Operand}
end
end Go.Proofs.Ytbfgacmfjfbooaa
