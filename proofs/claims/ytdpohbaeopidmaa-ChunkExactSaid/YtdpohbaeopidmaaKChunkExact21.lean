/- chunk's law: both tiers in one. -/
import Derived.Test.YtdpohbaeopidmaaKChunkExact19
import Derived.Test.YtdpohbaeopidmaaKChunkExact20
namespace Go.Proofs.Ytdpohbaeopidmaa
set_option linter.unusedVariables false
set_option linter.unusedSimpArgs false
open Go.RowKit Go.Maps

def kG (sz : Nat) (Sa : List Sec) (La : Int → Option Sec) (Sb : List Sec) (Lb : Int → Option Sec) (t x : Int) : List UInt8 := if t = 0 then readL Sa La (x.toNat * sz) sz else readL Sb Lb (x.toNat * sz) sz
/-- What becomes of both maps when a part of a chunk is written. -/
def kD (sz : Nat) (La Lb : Int → Option Sec) (t x : Int) (y m : Nat) (l : List UInt8) (La' Lb' : Int → Option Sec) : Prop :=
  (t = 0 ∧ La' = wrS l ((x.toNat * sz + y : Nat) : Int) La m ∧ Lb' = Lb) ∨ (t = 1 ∧ Lb' = wrS l ((x.toNat * sz + y : Nat) : Int) Lb m ∧ La' = La)
theorem isK_cases {sz n1 n2 : Nat} {t x : Int} (h : isK sz n1 n2 t x = true) : ∃ i : Nat, x = i ∧ ((t = 0 ∧ i < slN n1 sz) ∨ (t = 1 ∧ i < slN n2 sz)) := by
  unfold isK at h
  rw [Bool.or_eq_true] at h
  rcases h with h | h
  · simp only [Bool.and_eq_true, decide_eq_true_eq] at h
    exact ⟨x.toNat, by omega, .inl ⟨h.1, by omega⟩⟩
  · simp only [Bool.and_eq_true, decide_eq_true_eq] at h
    exact ⟨x.toNat, by omega, .inr ⟨h.1, by omega⟩⟩
theorem isK_out0 {sz n1 n2 : Nat} {x : Int} (h : isK sz n1 n2 0 x = false) : ¬ (0 ≤ x ∧ x < (slN n1 sz : Nat)) := by
  rw [isK_0] at h
  rintro ⟨h1, h2⟩
  simp [h1, h2] at h
theorem isK_out1 {sz n1 n2 : Nat} {x : Int} (h : isK sz n1 n2 1 x = false) : ¬ (0 ≤ x ∧ x < (slN n2 sz : Nat)) := by
  rw [isK_1] at h
  rintro ⟨h1, h2⟩
  simp [h1, h2] at h
theorem readL_split (S : List Sec) (L : Int → Option Sec) (a x y : Nat) : readL S L a (x + y) = readL S L a x ++ readL S L (a + x) y := by
  unfold readL
  rw [← List.flatten_append]
  congr 1
  rw [List.range_add, List.map_append, List.map_map]
  congr 1
  exact map_range_congr fun j _ => by simp only [Function.comp]; rw [Nat.add_assoc]
theorem readL_cut {S : List Sec} {L : Int → Option Sec} {n a y z sz : Nat} (hD : DOk n S L) (ha : a + sz ≤ n) (h : y + z ≤ sz) : ((readL S L a sz).take (16 * (y + z))).drop (16 * y) = readL S L (a + y) z := by
  obtain ⟨r, rfl⟩ : ∃ r, sz = y + z + r := ⟨sz - (y + z), by omega⟩
  rw [readL_split S L a (y + z) r, List.take_append_of_le_length (by rw [readL_len hD (by omega)]; omega), List.take_of_length_le (by rw [readL_len hD (by omega)]; omega)]
  rw [readL_split S L a y z, List.drop_append_of_le_length (by rw [readL_len hD (by omega)]; omega), List.drop_of_length_le (by rw [readL_len hD (by omega)]; omega), List.nil_append]
section
variable {M : Mn} {H : Nat} {A0 : World} {R : List Thing} {p mb cap bm db p2 cap2 bm2 na nb sz : Nat} {B B2 : Option Addr} {Sa Sb : List Sec} {La Lb : Int → Option Sec} {c : Int} {t x : Int}
abbrev ckQ (p mb cap bm db p2 cap2 bm2 na nb sz : Nat) (B B2 : Option Addr) (Sa Sb : List Sec) (La Lb : Int → Option Sec) (M : Mn) (R : List Thing) : List Thing :=
  tDisc p mb B na cap bm Sa La :: tMn mb M :: tDisc p2 mb B2 nb cap2 bm2 Sb Lb :: tBlk db 149 #[.pointer (some ⟨p, 0, none⟩), .pointer (some ⟨p2, 0, none⟩), .int .i64 (sz : Nat)] :: R
theorem qspot_bad (w : World) (O : OwnT H A0 (ckQ p mb cap bm db p2 cap2 bm2 na nb sz B B2 Sa Sb La Lb M R) w) (hs : 0 < sz) (h : isK sz na nb t x = false) :
    Calls Try.prog 91 #[.pointer (some ⟨db, 0, none⟩), .agg #[.int .i64 t, .int .i64 x]] w fun e w' => e = .returned (.tuple #[.int .i64 0, .int .i64 1]) ∧ Ext w w' := by
  by_cases h0 : t = 0
  · subst h0; exact cspot_out0 x w (OwnT.discAt O 0 rfl) (OwnT.blk O 3 rfl) hs (isK_out0 h)
  by_cases h1 : t = 1
  · subst h1; exact cspot_out1 x w (OwnT.discAt O 2 rfl) (OwnT.blk O 3 rfl) hs (isK_out1 h)
  exact cspot_bad db t x w h0 h1
theorem qspot_ok (w : World) (O : OwnT H A0 (ckQ p mb cap bm db p2 cap2 bm2 na nb sz B B2 Sa Sb La Lb M R) w) (hs : 0 < sz) (h : isK sz na nb t x = true) :
    Calls Try.prog 91 #[.pointer (some ⟨db, 0, none⟩), .agg #[.int .i64 t, .int .i64 x]] w fun e w' => e = .returned (.tuple #[.int .i64 ((x.toNat * sz : Nat) : Int), .int .i64 0]) ∧ Ext w w' := by
  obtain ⟨i, rfl, ⟨rfl, hi⟩ | ⟨rfl, hi⟩⟩ := isK_cases h
  · exact cspot_in0 i w (OwnT.discAt O 0 rfl) (OwnT.blk O 3 rfl) hs hi
  · exact cspot_in1 i w (OwnT.discAt O 2 rfl) (OwnT.blk O 3 rfl) hs hi
theorem qread_bad (y z : Int) (w : World) (O : OwnT H A0 (ckQ p mb cap bm db p2 cap2 bm2 na nb sz B B2 Sa Sb La Lb M R) w) (hs : 0 < sz) (h : isK sz na nb t x = false) :
    Calls Try.prog 54 #[.pointer (some ⟨db, 0, none⟩), .agg #[.int .i64 t, .int .i64 x], .int .i64 y, .int .i64 z] w fun e w' => e = .returned (.tuple #[.string (sB []), .int .i64 1]) ∧ Ext w w' :=
  cread_bad _ t x y z 1 w (by decide) fun W hE => qspot_bad W (O.ext hE) hs h
theorem qread_range (y z : Int) (w : World) (O : OwnT H A0 (ckQ p mb cap bm db p2 cap2 bm2 na nb sz B B2 Sa Sb La Lb M R) w) (hs : 0 < sz) (hz : sz ≤ 8) (h : isK sz na nb t x = true) (hf : fitsB sz y z = false) :
    Calls Try.prog 54 #[.pointer (some ⟨db, 0, none⟩), .agg #[.int .i64 t, .int .i64 x], .int .i64 y, .int .i64 z] w fun e w' => e = .returned (.tuple #[.string (sB []), .int .i64 9]) ∧ Ext w w' := by
  obtain ⟨i, rfl, ⟨rfl, hi⟩ | ⟨rfl, hi⟩⟩ := isK_cases h
  · exact cread_range0 i y z w (OwnT.discAt O 0 rfl) (OwnT.get O 1 rfl) (OwnT.blk O 3 rfl) hs (by omega) hi hf
  · exact cread_range1 i y z w (OwnT.discAt O 2 rfl) (OwnT.get O 1 rfl) (OwnT.blk O 3 rfl) hs (by omega) hi hf
theorem qread_ok (y z : Nat) (w : World) (O : OwnT H A0 (ckQ p mb cap bm db p2 cap2 bm2 na nb sz B B2 Sa Sb La Lb M R) w) (hs : 0 < sz) (hz : sz ≤ 8) (h : isK sz na nb t x = true) (hf : y + z ≤ sz) (hF : M.Free) :
    Calls Try.prog 54 #[.pointer (some ⟨db, 0, none⟩), .agg #[.int .i64 t, .int .i64 x], .int .i64 y, .int .i64 z] w fun e w' => e = .returned (.tuple #[.string (sB (((kG sz Sa La Sb Lb t x).take (16 * (y + z))).drop (16 * y))), .int .i64 0]) ∧ Ext w w' := by
  unfold kG
  obtain ⟨i, rfl, ⟨rfl, hi⟩ | ⟨rfl, hi⟩⟩ := isK_cases h
  · rw [if_pos rfl, Int.toNat_natCast, readL_cut (OwnT.discAt O 0 rfl).ok (slN_le hi hs) hf]
    exact cread_ok0 i y z w (OwnT.discAt O 0 rfl) (OwnT.get O 1 rfl) (OwnT.blk O 3 rfl) hs (by omega) hi hf hF.away
  · rw [if_neg (by decide), Int.toNat_natCast, readL_cut (OwnT.discAt O 2 rfl).ok (slN_le hi hs) hf]
    exact cread_ok1 i y z w (OwnT.discAt O 2 rfl) (OwnT.get O 1 rfl) (OwnT.blk O 3 rfl) hs (by omega) hi hf hF.away
theorem kG_len (w : World) (O : OwnT H A0 (ckQ p mb cap bm db p2 cap2 bm2 na nb sz B B2 Sa Sb La Lb M R) w) (hs : 0 < sz) (h : isK sz na nb t x = true) : (kG sz Sa La Sb Lb t x).length = 16 * sz := by
  unfold kG
  obtain ⟨i, rfl, ⟨rfl, hi⟩ | ⟨rfl, hi⟩⟩ := isK_cases h
  · rw [if_pos rfl, Int.toNat_natCast, readL_len (OwnT.discAt O 0 rfl).ok (slN_le hi hs)]
  · rw [if_neg (by decide), Int.toNat_natCast, readL_len (OwnT.discAt O 2 rfl).ok (slN_le hi hs)]
theorem qread_all (w : World) (O : OwnT H A0 (ckQ p mb cap bm db p2 cap2 bm2 na nb sz B B2 Sa Sb La Lb M R) w) (hs : 0 < sz) (hz : sz ≤ 8) (h : isK sz na nb t x = true) (hF : M.Free) :
    Calls Try.prog 54 #[.pointer (some ⟨db, 0, none⟩), .agg #[.int .i64 t, .int .i64 x], .int .i64 0, .int .i64 (sz : Nat)] w fun e w' => e = .returned (.tuple #[.string (sB (kG sz Sa La Sb Lb t x)), .int .i64 0]) ∧ Ext w w' := by
  have h1 := qread_ok 0 sz w O hs hz h (by omega) hF
  rwa [Nat.zero_add, Nat.mul_zero, List.drop_zero, List.take_of_length_le (by rw [kG_len w O hs h]; omega)] at h1
theorem qwrite_bad (y : Int) (l : List UInt8) (w : World) (O : OwnT H A0 (ckQ p mb cap bm db p2 cap2 bm2 na nb sz B B2 Sa Sb La Lb M R) w) (hs : 0 < sz) (h : isK sz na nb t x = false) :
    Calls Try.prog 51 #[.pointer (some ⟨db, 0, none⟩), .agg #[.int .i64 t, .int .i64 x], .int .i64 y, .string (sB l)] w fun e w' => e = .returned (.int .i64 1) ∧ Ext w w' :=
  cwrite_bad _ t x y 1 l w (by decide) fun W hE => qspot_bad W (O.ext hE) hs h
theorem qwrite_odd (y : Int) (l : List UInt8) (w : World) (O : OwnT H A0 (ckQ p mb cap bm db p2 cap2 bm2 na nb sz B B2 Sa Sb La Lb M R) w) (hs : 0 < sz) (hz : sz ≤ 8) (hl : l.length ≤ 1000000000) (hm : ¬ l.length % 16 = 0) :
    Calls Try.prog 51 #[.pointer (some ⟨db, 0, none⟩), .agg #[.int .i64 t, .int .i64 x], .int .i64 y, .string (sB l)] w fun e w' => e = .returned (.int .i64 1) ∧ OwnT H A0 (ckQ p mb cap bm db p2 cap2 bm2 na nb sz B B2 Sa Sb La Lb M R) w' := by
  cases h : isK sz na nb t x with
  | false =>
    refine (qwrite_bad y l w O hs h).mono ?_
    rintro e w' ⟨rfl, hE⟩
    exact ⟨rfl, O.ext hE⟩
  | true =>
    obtain ⟨i, rfl, ⟨rfl, hi⟩ | ⟨rfl, hi⟩⟩ := isK_cases h
    · exact cwrite_arg0 i y l w O hs (by omega) hi hl hm
    · refine (cwrite_arg1 i y l w O.swap13 hs (by omega) hi hl hm).mono ?_
      rintro e w' ⟨rfl, hO⟩
      exact ⟨rfl, hO.swap13⟩
theorem qwrite_range (y : Int) (l : List UInt8) (w : World) (O : OwnT H A0 (ckQ p mb cap bm db p2 cap2 bm2 na nb sz B B2 Sa Sb La Lb M R) w) (hs : 0 < sz) (hz : sz ≤ 8) (h : isK sz na nb t x = true) (hl : l.length ≤ 1000000000) (hm : l.length % 16 = 0) (hf : fitsB sz y ((l.length / 16 : Nat) : Int) = false) :
    Calls Try.prog 51 #[.pointer (some ⟨db, 0, none⟩), .agg #[.int .i64 t, .int .i64 x], .int .i64 y, .string (sB l)] w fun e w' => e = .returned (.int .i64 9) ∧ OwnT H A0 (ckQ p mb cap bm db p2 cap2 bm2 na nb sz B B2 Sa Sb La Lb M R) w' := by
  obtain ⟨i, rfl, ⟨rfl, hi⟩ | ⟨rfl, hi⟩⟩ := isK_cases h
  · exact cwrite_range0 i y l w O hs (by omega) hi hl hm hf
  · refine (cwrite_range1 i y l w O.swap13 hs (by omega) hi hl hm hf).mono ?_
    rintro e w' ⟨rfl, hO⟩
    exact ⟨rfl, hO.swap13⟩
theorem qwrite_ok (y m : Nat) (l : List UInt8) (w : World) (O : OwnT H A0 (ckQ p mb cap bm db p2 cap2 bm2 na nb sz B B2 Sa Sb La Lb M R) w) (hs : 0 < sz) (hz : sz ≤ 8) (h : isK sz na nb t x = true) (hl : l.length = 16 * m) (hf : y + m ≤ sz) (hM : M.Ok c) (hc : c ≤ 1000000) (hF : M.Free) :
    Calls Try.prog 51 #[.pointer (some ⟨db, 0, none⟩), .agg #[.int .i64 t, .int .i64 x], .int .i64 y, .string (sB l)] w fun e w' => e = .returned (.int .i64 0) ∧ ∃ La' Lb' M', M'.Free ∧ M'.Ok (c + 9) ∧ kD sz La Lb t x y m l La' Lb' ∧ OwnT H A0 (ckQ p mb cap bm db p2 cap2 bm2 na nb sz B B2 Sa Sb La' Lb' M' R) w' := by
  obtain ⟨i, rfl, ⟨rfl, hi⟩ | ⟨rfl, hi⟩⟩ := isK_cases h
  · refine (cwrite_f0 i y m l w O hs (by omega) hi hl hf hM (by omega) hF).mono ?_
    rintro e w' ⟨rfl, M', hF', hM', hO⟩
    exact ⟨rfl, _, _, M', hF', hM'.mono (by omega), .inl ⟨rfl, rfl, rfl⟩, hO⟩
  · refine (cwrite_f1 i y m l w O.swap13 hs (by omega) hi hl hf hM (by omega) hF).mono ?_
    rintro e w' ⟨rfl, M', hF', hM', hO⟩
    exact ⟨rfl, _, _, M', hF', hM'.mono (by omega), .inr ⟨rfl, rfl, rfl⟩, hO.swap13⟩
theorem qcopy_bad (t2 x2 : Int) (w : World) (O : OwnT H A0 (ckQ p mb cap bm db p2 cap2 bm2 na nb sz B B2 Sa Sb La Lb M R) w) (hs : 0 < sz) (h : isK sz na nb t2 x2 = false ∨ isK sz na nb t x = false) :
    Calls Try.prog 57 #[.pointer (some ⟨db, 0, none⟩), .agg #[.int .i64 t, .int .i64 x], .agg #[.int .i64 t2, .int .i64 x2]] w fun e w' => e = .returned (.int .i64 1) ∧ Ext w w' := by
  cases h2 : isK sz na nb t2 x2 with
  | false => exact ccopy_bad _ t x t2 x2 1 w (by decide) fun W hE => qspot_bad W (O.ext hE) hs h2
  | true =>
    have h1 : isK sz na nb t x = false := by
      rcases h with h | h
      · rw [h2] at h; cases h
      · exact h
    exact ccopy_from t x t2 x2 1 _ [] w (OwnT.blk O 3 rfl) (fun W hE => qspot_ok W (O.ext hE) hs h2) (by decide) (fun W hE => qread_bad 0 sz W (O.ext hE) hs h1)
theorem qcopy_ok (t2 x2 : Int) (w : World) (O : OwnT H A0 (ckQ p mb cap bm db p2 cap2 bm2 na nb sz B B2 Sa Sb La Lb M R) w) (hs : 0 < sz) (hz : sz ≤ 8) (h2 : isK sz na nb t2 x2 = true) (h : isK sz na nb t x = true) (hM : M.Ok c) (hc : c ≤ 1000000) (hF : M.Free) :
    Calls Try.prog 57 #[.pointer (some ⟨db, 0, none⟩), .agg #[.int .i64 t, .int .i64 x], .agg #[.int .i64 t2, .int .i64 x2]] w fun e w' => ∃ r : Int, e = .returned (.int .i64 r) ∧ (r = 0 ∧ ∃ La' Lb' M', M'.Free ∧ M'.Ok (c + 9) ∧ kD sz La Lb t2 x2 0 sz (kG sz Sa La Sb Lb t x) La' Lb' ∧ OwnT H A0 (ckQ p mb cap bm db p2 cap2 bm2 na nb sz B B2 Sa Sb La' Lb' M' R) w') := by
  refine ccopy_go t x t2 x2 0 _ (kG sz Sa La Sb Lb t x) w (OwnT.blk O 3 rfl) (fun W hE => qspot_ok W (O.ext hE) hs h2) (fun W hE => qread_all W (O.ext hE) hs hz h hF) (fun W hE => ?_)
  refine (qwrite_ok 0 sz _ W (O.ext hE) hs hz h2 (kG_len w O hs h) (by omega) hM hc hF).mono ?_
  rintro e w' ⟨rfl, h⟩
  exact ⟨0, rfl, rfl, h⟩
theorem qzero_bad (w : World) (O : OwnT H A0 (ckQ p mb cap bm db p2 cap2 bm2 na nb sz B B2 Sa Sb La Lb M R) w) (hs : 0 < sz) (hz : sz ≤ 8) (h : isK sz na nb t x = false) :
    Calls Try.prog 55 #[.pointer (some ⟨db, 0, none⟩), .agg #[.int .i64 t, .int .i64 x]] w fun e w' => e = .returned (.int .i64 1) ∧ Ext w w' := by
  refine (czero_go (Post := fun r w' => r = 1 ∧ Ext w w') _ sz t x w (by omega) (fun W hE => (csize_any W (OwnT.blk (OwnT.ext O hE) 3 rfl)).mono (fun e w' h => ⟨h.1, h.2 ▸ Ext.refl _⟩)) (fun W hE => (qwrite_bad 0 _ W (O.ext hE) hs h).mono (fun e w' h => ⟨1, h.1, rfl, Ext.trans hE h.2⟩))).mono ?_
  rintro e w' ⟨r, rfl, rfl, h⟩
  exact ⟨rfl, h⟩
theorem qzero_ok (w : World) (O : OwnT H A0 (ckQ p mb cap bm db p2 cap2 bm2 na nb sz B B2 Sa Sb La Lb M R) w) (hs : 0 < sz) (hz : sz ≤ 8) (h : isK sz na nb t x = true) (hM : M.Ok c) (hc : c ≤ 1000000) (hF : M.Free) :
    Calls Try.prog 55 #[.pointer (some ⟨db, 0, none⟩), .agg #[.int .i64 t, .int .i64 x]] w fun e w' => ∃ r : Int, e = .returned (.int .i64 r) ∧ (r = 0 ∧ ∃ La' Lb' M', M'.Free ∧ M'.Ok (c + 9) ∧ kD sz La Lb t x 0 sz (List.replicate (16 * sz) 0) La' Lb' ∧ OwnT H A0 (ckQ p mb cap bm db p2 cap2 bm2 na nb sz B B2 Sa Sb La' Lb' M' R) w') := by
  refine czero_go _ sz t x w (by omega) (fun W hE => (csize_any W (OwnT.blk (OwnT.ext O hE) 3 rfl)).mono (fun e w' h => ⟨h.1, h.2 ▸ Ext.refl _⟩)) (fun W hE => ?_)
  refine (qwrite_ok 0 sz _ W (O.ext hE) hs hz h List.length_replicate (by omega) hM hc hF).mono ?_
  rintro e w' ⟨rfl, h⟩
  exact ⟨0, rfl, rfl, h⟩
theorem qflush0 (w : World) (O : OwnT H A0 (ckQ p mb cap bm db p2 cap2 bm2 na nb sz B B2 Sa Sb La Lb M R) w) (hM : M.Ok c) (hc : c ≤ 1000000) (hF : M.Free) :
    Calls Try.prog 56 #[.pointer (some ⟨db, 0, none⟩), .int .i64 0] w fun e w' => e = .returned (.int .i64 0) ∧ OwnT H A0 (ckQ p mb cap bm db p2 cap2 bm2 na nb sz B B2 (nowL Sa La) Sb (fun _ => none) Lb M.use R) w' :=
  cflush_ok0 w O hM (by omega) hF.up
theorem qflush1 (w : World) (O : OwnT H A0 (ckQ p mb cap bm db p2 cap2 bm2 na nb sz B B2 Sa Sb La Lb M R) w) (hM : M.Ok c) (hc : c ≤ 1000000) (hF : M.Free) :
    Calls Try.prog 56 #[.pointer (some ⟨db, 0, none⟩), .int .i64 1] w fun e w' => e = .returned (.int .i64 0) ∧ OwnT H A0 (ckQ p mb cap bm db p2 cap2 bm2 na nb sz B B2 Sa (nowL Sb Lb) La (fun _ => none) M.use R) w' := by
  refine (cflush_ok1 w O.swap13 hM (by omega) hF.up).mono ?_
  rintro e w' ⟨rfl, hO⟩
  exact ⟨rfl, hO.swap13⟩
end
section
variable {H : Nat} {A0 : World} {R : List Thing} {ub c1 c2 na nb sz : Nat} {D1 D2 : Option Addr} {Sa Sb : List Sec} {La Lb : Int → Option Sec} {t x : Int}
/-- The reference: both rows as they are now. -/
abbrev ckU (ub c1 c2 na nb sz : Nat) (D1 D2 : Option Addr) (X Y : List Sec) (R : List Thing) : List Thing :=
  tBlk ub 107 #[.slice D1 na c1, .slice D2 nb c2, .int .i64 (sz : Nat)] :: tRow 9 1 (.slice D1 na c1) na (strsV X) :: tRow 9 1 (.slice D2 nb c2) nb (strsV Y) :: R
theorem now_sz {n : Nat} {S : List Sec} {L : Int → Option Sec} (h : DOk n S L) : ∀ s ∈ nowL S L, s.length = 16 := by
  intro s hs
  obtain ⟨i, hi, rfl⟩ := List.mem_map.1 hs
  exact nowAt_len h (by have := h.len; simpa [this] using hi)
theorem uget (w : World) (O : OwnT H A0 (ckU ub c1 c2 na nb sz D1 D2 (nowL Sa La) (nowL Sb Lb) R) w) (hs : 0 < sz) (hz : sz ≤ 8) (hA : DOk na Sa La) (hB : DOk nb Sb Lb) (h : isK sz na nb t x = true) :
    Calls Try.prog 61 #[.pointer (some ⟨ub, 0, none⟩), .int .i64 t, .int .i64 x] w fun e w' => e = .returned (.string (sB (kG sz Sa La Sb Lb t x))) ∧ Ext w w' := by
  have hA' := hA.le
  have hB' := hB.le
  unfold kG
  obtain ⟨i, rfl, ⟨rfl, hi⟩ | ⟨rfl, hi⟩⟩ := isK_cases h
  · have hle := slN_le hi hs
    rw [if_pos rfl, Int.toNat_natCast, ← now_read (by rw [hA.len]; exact hle)]
    exact rget18_0 i w (OwnT.blk O 0 rfl) (OwnT.get O 1 rfl) (by omega) (now_sz hA) hle (by omega)
  · have hle := slN_le hi hs
    rw [if_neg (by decide), Int.toNat_natCast, ← now_read (by rw [hB.len]; exact hle)]
    exact rget18_1 i w (OwnT.blk O 0 rfl) (OwnT.get O 2 rfl) (by omega) (now_sz hB) hle (by omega)
theorem uput (y m : Nat) (l : List UInt8) (w : World) {La' Lb' : Int → Option Sec} (O : OwnT H A0 (ckU ub c1 c2 na nb sz D1 D2 (nowL Sa La) (nowL Sb Lb) R) w) (hs : 0 < sz) (hSa : Sa.length = na) (hSb : Sb.length = nb) (hna : na ≤ 16384) (hnb : nb ≤ 16384) (h : isK sz na nb t x = true) (hk : kD sz La Lb t x y m l La' Lb') (hl : l.length = 16 * m) (hf : y + m ≤ sz) :
    Calls Try.prog 62 #[.pointer (some ⟨ub, 0, none⟩), .int .i64 t, .int .i64 x, .int .i64 y, .string (sB l)] w fun e w' => e = .returned (.tuple #[]) ∧ OwnT H A0 (ckU ub c1 c2 na nb sz D1 D2 (nowL Sa La') (nowL Sb Lb') R) w' := by
  obtain ⟨i, rfl, ⟨rfl, hi⟩ | ⟨rfl, hi⟩⟩ := isK_cases h
  · have hle := slN_le hi hs
    rcases hk with ⟨_, rfl, rfl⟩ | ⟨h, _⟩
    · exact rput18_0 i y m l w O hSa (by omega) hl (by omega)
    · cases h
  · have hle := slN_le hi hs
    rcases hk with ⟨h, _⟩ | ⟨_, rfl, rfl⟩
    · cases h
    · exact rput18_1 i y m l w O hSb (by omega) hl (by omega)
end
end Go.Proofs.Ytdpohbaeopidmaa
