/- chunk: chunks of two tiers by one number. -/
import Derived.Test.YtdpohbaeopidmaaKChunkApart19
namespace Go.Proofs.Ytdpohbaeopidmaa
set_option linter.unusedVariables false
set_option linter.unusedSimpArgs false
open Go.RowKit Go.Maps

/-- A write of a part: what is read of another part, of the same one. -/
theorem now_out {S : List Sec} {L : Int → Option Sec} {l : List UInt8} {x m z : Nat} (h : z < x ∨ x + m ≤ z) : nowAt S (wrS l (x : Int) L m) (z : Int) = nowAt S L z := by
  unfold nowAt
  rw [wrS_at, if_neg (by omega)]
theorem now_in {S : List Sec} {L : Int → Option Sec} {l : List UInt8} {x m j : Nat} (h : j < m) : nowAt S (wrS l (x : Int) L m) ((x + j : Nat) : Int) = secOf l j := by
  unfold nowAt
  rw [wrS_at, if_pos (by omega), show ((((x + j : Nat) : Int) - (x : Int)).toNat) = j by omega]
  rfl
theorem read_out {S : List Sec} {L : Int → Option Sec} {l : List UInt8} {x m a k : Nat} (h : a + k ≤ x ∨ x + m ≤ a) : readL S (wrS l (x : Int) L m) a k = readL S L a k := by
  unfold readL
  congr 1
  exact map_range_congr fun j hj => now_out (by omega)
theorem secs_flat {l : List UInt8} : ∀ {k : Nat}, l.length = 16 * k → ((List.range k).map (secOf l)).flatten = l
  | k, h => by
    have : ∀ j, j ≤ k → ((List.range j).map (secOf l)).flatten = l.take (16 * j) := by
      intro j
      induction j with
      | zero => intro _; simp
      | succ j ih =>
        intro hj
        rw [List.range_succ, List.map_append, List.flatten_append, ih (by omega)]
        simp only [List.map_cons, List.map_nil, List.flatten_cons, List.flatten_nil, List.append_nil, secOf]
        rw [show 16 * (j + 1) = 16 * j + 16 by omega, List.take_add]
    rw [this k (Nat.le_refl _), List.take_of_length_le (by omega)]
theorem read_in {S : List Sec} {L : Int → Option Sec} {l : List UInt8} {x k : Nat} (h : l.length = 16 * k) : readL S (wrS l (x : Int) L k) x k = l := by
  unfold readL
  rw [map_range_congr (fun j hj => now_in hj)]
  exact secs_flat h
theorem read_split (S : List Sec) (L : Int → Option Sec) (a x y : Nat) : readL S L a (x + y) = readL S L a x ++ readL S L (a + x) y := by
  unfold readL
  rw [← List.flatten_append]
  congr 1
  rw [List.range_add, List.map_append, List.map_map]
  congr 1
  exact map_range_congr fun j _ => by simp only [Function.comp]; rw [Nat.add_assoc]
abbrev zz (n : Nat) : List Sec := List.replicate n zsec
/-- Chunk z of twenty. -/
def ckC (k : Nat) (La Lb : Int → Option Sec) (z : Nat) : List UInt8 := if z < 10 then readL (zz (10 * k)) La (z * k) k else readL (zz (10 * k + 3)) Lb ((z - 10) * k) k
/-- What has become of both maps when chunk z was written. -/
def ckW (k : Nat) (La Lb : Int → Option Sec) (z x m : Nat) (l : List UInt8) (La' Lb' : Int → Option Sec) : Prop :=
  (z < 10 ∧ La' = wrS l ((z * k + x : Nat) : Int) La m ∧ Lb' = Lb) ∨ (10 ≤ z ∧ Lb' = wrS l (((z - 10) * k + x : Nat) : Int) Lb m ∧ La' = La)
theorem part_apart {k z y x m : Nat} (h : z ≠ y) (hx : x + m ≤ k) : y * k + k ≤ z * k + x ∨ z * k + x + m ≤ y * k := by
  rcases Nat.lt_or_gt_of_ne h with h1 | h1
  · have := Nat.mul_le_mul_right k (show z + 1 ≤ y from h1)
    rw [Nat.succ_mul] at this
    right; omega
  · have := Nat.mul_le_mul_right k (show y + 1 ≤ z from h1)
    rw [Nat.succ_mul] at this
    left; omega
theorem ck_other {k : Nat} {La Lb La' Lb' : Int → Option Sec} {z x m y : Nat} {l : List UInt8} (h : ckW k La Lb z x m l La' Lb') (hx : x + m ≤ k) (hy : y ≠ z) : ckC k La' Lb' y = ckC k La Lb y := by
  unfold ckC
  rcases h with ⟨hz, rfl, rfl⟩ | ⟨hz, rfl, rfl⟩
  · split
    · exact read_out (part_apart (fun e => hy e.symm) hx)
    · rfl
  · split
    · rfl
    · exact read_out (part_apart (by omega) hx)
theorem ck_all {k : Nat} {La Lb La' Lb' : Int → Option Sec} {z : Nat} {l : List UInt8} (h : ckW k La Lb z 0 k l La' Lb') (hl : l.length = 16 * k) : ckC k La' Lb' z = l := by
  unfold ckC
  rcases h with ⟨hz, rfl, rfl⟩ | ⟨hz, rfl, rfl⟩
  · rw [if_pos hz]; exact read_in hl
  · rw [if_neg (by omega)]; exact read_in hl
theorem read_last {S : List Sec} {L : Int → Option Sec} {l : List UInt8} {a k n : Nat} (hk : 1 ≤ k) (hl : l.length = 16) (hD : DOk n S L) (ha : a + k ≤ n) : readL S (wrS l ((a + (k - 1) : Nat) : Int) L 1) a k = (readL S L a k).take (16 * (k - 1)) ++ l := by
  obtain ⟨j, rfl⟩ : ∃ j, k = j + 1 := ⟨k - 1, by omega⟩
  rw [Nat.add_sub_cancel, read_split S _ a j 1, read_out (l := l) (x := a + j) (m := 1) (a := a) (k := j) (by omega), read_in (by omega)]
  rw [read_split S L a j 1, List.take_append_of_le_length (by rw [readL_len hD (by omega)]; omega), List.take_of_length_le (by rw [readL_len hD (by omega)]; omega)]
theorem ck_last {k : Nat} {La Lb La' Lb' : Int → Option Sec} {z : Nat} {l : List UInt8} (h : ckW k La Lb z (k - 1) 1 l La' Lb') (hk : 1 ≤ k) (hz20 : z < 20) (hl : l.length = 16) (hA : DOk (10 * k) (zz (10 * k)) La) (hB : DOk (10 * k + 3) (zz (10 * k + 3)) Lb) : ckC k La' Lb' z = (ckC k La Lb z).take (16 * (k - 1)) ++ l := by
  have hb : ∀ y, y < 10 → y * k + k ≤ 10 * k := fun y hy => by
    have := Nat.mul_le_mul_right k (show y + 1 ≤ 10 from hy)
    rw [Nat.succ_mul] at this
    exact this
  unfold ckC
  rcases h with ⟨hz, rfl, rfl⟩ | ⟨hz, rfl, rfl⟩
  · rw [if_pos hz, if_pos hz]; exact read_last hk hl hA (hb z hz)
  · rw [if_neg (by omega), if_neg (by omega)]; exact read_last hk hl hB (by have := hb (z - 10) (by omega); omega)
theorem ck_len {k : Nat} {La Lb : Int → Option Sec} {z : Nat} (hz20 : z < 20) (hA : DOk (10 * k) (zz (10 * k)) La) (hB : DOk (10 * k + 3) (zz (10 * k + 3)) Lb) : (ckC k La Lb z).length = 16 * k := by
  have hb : ∀ y, y < 10 → y * k + k ≤ 10 * k := fun y hy => by
    have := Nat.mul_le_mul_right k (show y + 1 ≤ 10 from hy)
    rw [Nat.succ_mul] at this
    exact this
  unfold ckC
  split
  · rename_i h; exact readL_len hA (hb z h)
  · exact readL_len hB (by have := hb (z - 10) (by omega); omega)
theorem slots_a {k y : Nat} (hk : 1 ≤ k ∧ k ≤ 8) (hy : y < 10) : y < slN (10 * k) k := by
  unfold slN
  rw [Nat.mul_div_cancel _ (by omega)]
  omega
theorem slots_b {k y : Nat} (hk : 1 ≤ k ∧ k ≤ 8) (hy : y < 10) : y < slN (10 * k + 3) k := by
  unfold slN
  have : 10 ≤ (10 * k + 3) / k := (Nat.le_div_iff_mul_le (by omega)).2 (by omega)
  omega
section
variable {M : Mn} {H : Nat} {A0 : World} {R : List Thing} {p mb cap bm db p2 cap2 bm2 k : Nat} {B B2 : Option Addr} {La Lb : Int → Option Sec} {c : Int}
abbrev ckT (p mb cap bm db p2 cap2 bm2 k : Nat) (B B2 : Option Addr) (La Lb : Int → Option Sec) (M : Mn) (R : List Thing) : List Thing :=
  tDisc p mb B (10 * k) cap bm (zz (10 * k)) La :: tMn mb M :: tDisc p2 mb B2 (10 * k + 3) cap2 bm2 (zz (10 * k + 3)) Lb :: tBlk db 149 #[.pointer (some ⟨p, 0, none⟩), .pointer (some ⟨p2, 0, none⟩), .int .i64 (k : Nat)] :: R
theorem ck_oks {w : World} (O : OwnT H A0 (ckT p mb cap bm db p2 cap2 bm2 k B B2 La Lb M R) w) : DOk (10 * k) (zz (10 * k)) La ∧ DOk (10 * k + 3) (zz (10 * k + 3)) Lb := ⟨(OwnT.discAt O 0 rfl).ok, (OwnT.discAt O 2 rfl).ok⟩
theorem kwrite (z t s x m : Nat) (l : List UInt8) (w : World) (O : OwnT H A0 (ckT p mb cap bm db p2 cap2 bm2 k B B2 La Lb M R) w) (hz : z < 20) (ht : z / 10 = t) (hs : z % 10 = s) (hk : 1 ≤ k ∧ k ≤ 8) (hl : l.length = 16 * m) (hx : x + m ≤ k) (hM : M.Ok c) (hc : c ≤ 1000000) (hF : M.Free) :
    Calls Try.prog 51 #[.pointer (some ⟨db, 0, none⟩), .agg #[.int .i64 t, .int .i64 s], .int .i64 x, .string (sB l)] w fun e w' => e = .returned (.int .i64 0) ∧ ∃ La' Lb' M', M'.Free ∧ M'.Ok (c + 9) ∧ ckW k La Lb z x m l La' Lb' ∧ OwnT H A0 (ckT p mb cap bm db p2 cap2 bm2 k B B2 La' Lb' M' R) w' := by
  by_cases h : z < 10
  · obtain rfl : t = 0 := by omega
    obtain rfl : s = z := by omega
    refine (cwrite_f0 s x m l w O (by omega) (by omega) (slots_a hk h) hl hx hM (by omega) hF).mono ?_
    rintro e w' ⟨rfl, M', hF', hM', hO⟩
    exact ⟨rfl, _, _, M', hF', hM'.mono (by omega), .inl ⟨h, rfl, rfl⟩, hO⟩
  · obtain rfl : t = 1 := by omega
    obtain rfl : s = z - 10 := by omega
    refine (cwrite_f1 (z - 10) x m l w O.swap13 (by omega) (by omega) (slots_b hk (by omega)) hl hx hM (by omega) hF).mono ?_
    rintro e w' ⟨rfl, M', hF', hM', hO⟩
    exact ⟨rfl, _, _, M', hF', hM'.mono (by omega), .inr ⟨by omega, rfl, rfl⟩, hO.swap13⟩
theorem kread (z t s : Nat) (w : World) (O : OwnT H A0 (ckT p mb cap bm db p2 cap2 bm2 k B B2 La Lb M R) w) (hz : z < 20) (ht : z / 10 = t) (hs : z % 10 = s) (hk : 1 ≤ k ∧ k ≤ 8) (hF : M.Free) :
    Calls Try.prog 54 #[.pointer (some ⟨db, 0, none⟩), .agg #[.int .i64 t, .int .i64 s], .int .i64 0, .int .i64 k] w fun e w' => e = .returned (.tuple #[.string (sB (ckC k La Lb z)), .int .i64 0]) ∧ Ext w w' := by
  unfold ckC
  by_cases h : z < 10
  · obtain rfl : t = 0 := by omega
    obtain rfl : s = z := by omega
    rw [if_pos h]
    have h1 := cread_ok0 s 0 k w (OwnT.discAt O 0 rfl) (OwnT.get O 1 rfl) (OwnT.blk O 3 rfl) (by omega) (by omega) (slots_a hk h) (by omega) hF.away
    rwa [Nat.add_zero] at h1
  · obtain rfl : t = 1 := by omega
    obtain rfl : s = z - 10 := by omega
    rw [if_neg h]
    have h1 := cread_ok1 (z - 10) 0 k w (OwnT.discAt O 2 rfl) (OwnT.get O 1 rfl) (OwnT.blk O 3 rfl) (by omega) (by omega) (slots_b hk (by omega)) (by omega) hF.away
    rwa [Nat.add_zero] at h1
theorem kspot (z t s : Nat) (w : World) (O : OwnT H A0 (ckT p mb cap bm db p2 cap2 bm2 k B B2 La Lb M R) w) (hz : z < 20) (ht : z / 10 = t) (hs : z % 10 = s) (hk : 1 ≤ k ∧ k ≤ 8) :
    Calls Try.prog 91 #[.pointer (some ⟨db, 0, none⟩), .agg #[.int .i64 t, .int .i64 s]] w fun e w' => e = .returned (.tuple #[.int .i64 ((s * k : Nat) : Int), .int .i64 0]) ∧ Ext w w' := by
  by_cases h : z < 10
  · obtain rfl : t = 0 := by omega
    exact cspot_in0 s w (OwnT.discAt O 0 rfl) (OwnT.blk O 3 rfl) (by omega) (slots_a hk (by omega))
  · obtain rfl : t = 1 := by omega
    exact cspot_in1 s w (OwnT.discAt O 2 rfl) (OwnT.blk O 3 rfl) (by omega) (slots_b hk (by omega))
theorem kcopy (y t s z t2 s2 : Nat) (w : World) (O : OwnT H A0 (ckT p mb cap bm db p2 cap2 bm2 k B B2 La Lb M R) w) (hy : y < 20) (ht : y / 10 = t) (hs : y % 10 = s) (hz : z < 20) (ht2 : z / 10 = t2) (hs2 : z % 10 = s2) (hk : 1 ≤ k ∧ k ≤ 8) (hM : M.Ok c) (hc : c ≤ 1000000) (hF : M.Free) :
    Calls Try.prog 57 #[.pointer (some ⟨db, 0, none⟩), .agg #[.int .i64 t, .int .i64 s], .agg #[.int .i64 t2, .int .i64 s2]] w fun e w' => ∃ r : Int, e = .returned (.int .i64 r) ∧ (r = 0 ∧ ∃ La' Lb' M', M'.Free ∧ M'.Ok (c + 9) ∧ ckW k La Lb z 0 k (ckC k La Lb y) La' Lb' ∧ OwnT H A0 (ckT p mb cap bm db p2 cap2 bm2 k B B2 La' Lb' M' R) w') := by
  obtain ⟨hA, hB⟩ := ck_oks O
  refine ccopy_go t s t2 s2 0 _ (ckC k La Lb y) w (OwnT.blk O 3 rfl) (fun W hE => kspot z t2 s2 W (O.ext hE) hz ht2 hs2 hk) (fun W hE => kread y t s W (O.ext hE) hy ht hs hk hF) (fun W hE => ?_)
  refine (kwrite z t2 s2 0 k (ckC k La Lb y) W (O.ext hE) hz ht2 hs2 hk (ck_len hy hA hB) (by omega) hM hc hF).mono ?_
  rintro e w' ⟨rfl, h⟩
  exact ⟨0, rfl, rfl, h⟩
theorem kzero (z t s : Nat) (w : World) (O : OwnT H A0 (ckT p mb cap bm db p2 cap2 bm2 k B B2 La Lb M R) w) (hz : z < 20) (ht : z / 10 = t) (hs : z % 10 = s) (hk : 1 ≤ k ∧ k ≤ 8) (hM : M.Ok c) (hc : c ≤ 1000000) (hF : M.Free) :
    Calls Try.prog 55 #[.pointer (some ⟨db, 0, none⟩), .agg #[.int .i64 t, .int .i64 s]] w fun e w' => ∃ r : Int, e = .returned (.int .i64 r) ∧ (r = 0 ∧ ∃ La' Lb' M', M'.Free ∧ M'.Ok (c + 9) ∧ ckW k La Lb z 0 k (List.replicate (16 * k) 0) La' Lb' ∧ OwnT H A0 (ckT p mb cap bm db p2 cap2 bm2 k B B2 La' Lb' M' R) w') := by
  refine czero_go _ k t s w (by omega) (fun W hE => (csize_any W (OwnT.blk (OwnT.ext O hE) 3 rfl)).mono (fun e w' h => ⟨h.1, h.2 ▸ Ext.refl _⟩)) (fun W hE => ?_)
  refine (kwrite z t s 0 k (List.replicate (16 * k) 0) W (O.ext hE) hz ht hs hk List.length_replicate (by omega) hM hc hF).mono ?_
  rintro e w' ⟨rfl, h⟩
  exact ⟨0, rfl, rfl, h⟩
end
/-! What of a nil deck. -/
theorem kread_nil (t s x y : Int) (w : World) : Calls Try.prog 54 #[.pointer none, .agg #[.int .i64 t, .int .i64 s], .int .i64 x, .int .i64 y] w fun e w' => e = .returned (.tuple #[.string (sB []), .int .i64 2]) ∧ Ext w w' := cread_bad _ t s x y 2 w (by decide) (fun W _ => cspot_nil t s W)
theorem kwrite_nil (t s x : Int) (l : List UInt8) (w : World) : Calls Try.prog 51 #[.pointer none, .agg #[.int .i64 t, .int .i64 s], .int .i64 x, .string (sB l)] w fun e w' => e = .returned (.int .i64 2) ∧ Ext w w' := cwrite_bad _ t s x 2 l w (by decide) (fun W _ => cspot_nil t s W)
theorem kcopy_nil (t s t2 s2 : Int) (w : World) : Calls Try.prog 57 #[.pointer none, .agg #[.int .i64 t, .int .i64 s], .agg #[.int .i64 t2, .int .i64 s2]] w fun e w' => e = .returned (.int .i64 2) ∧ Ext w w' := ccopy_bad _ t s t2 s2 2 w (by decide) (fun W _ => cspot_nil t2 s2 W)
theorem kzero_nil (t s : Int) (w : World) : Calls Try.prog 55 #[.pointer none, .agg #[.int .i64 t, .int .i64 s]] w fun e w' => e = .returned (.int .i64 2) ∧ Ext w w' := by
  refine (czero_go (Post := fun r w' => r = 2 ∧ Ext w w') _ 0 t s w (by decide) (fun W hE => (csize_nil W).mono (fun e w' h => ⟨h.1, h.2 ▸ Ext.refl _⟩)) (fun W hE => (kwrite_nil t s 0 _ W).mono (fun e w' h => ⟨2, h.1, rfl, Ext.trans hE h.2⟩))).mono ?_
  rintro e w' ⟨r, rfl, rfl, h⟩
  exact ⟨rfl, h⟩
end Go.Proofs.Ytdpohbaeopidmaa
