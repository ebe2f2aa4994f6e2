/- Trees in laws: Get, Drop. -/
import Derived.Test.YtngehbhhpkkijaaKVolsApart23
import Derived.Test.YtngehbhhpkkijaaKVolsApart24
import Derived.Test.YtngehbhhpkkijaaKVolsApart28
import Derived.Test.YtngehbhhpkkijaaKVolsApart00
import Derived.Laws.BitsAllLaws
import Derived.Deep.RegionHeld3
namespace Go.Proofs.Ytngehbhhpkkijaa
set_option linter.unusedVariables false
set_option linter.unusedSimpArgs false
open Go.RowKit Go.Maps
/-- What a drop brings. -/
def DropL (N N' : List Nd) (room : Int) (root k c : Nat) (P : List Pr) (root' : Int) (ok : Bool) (er : Int) : Prop :=
  (∃ M, N' = N ++ M ∧ M.length ≤ 2) ∧ ((er = 0 ∧ ok = false ∧ root' = root ∧ N' = N ∧ lookP k P = none) ∨ (er = 6 ∧ ok = false ∧ root' = 0 ∧ (lookP k P).isSome = true ∧ ¬ (N.length + 2 ≤ 511 ∧ ((N.length + 2 : Nat) : Int) ≤ room)) ∨
    (er = 0 ∧ ok = true ∧ (lookP k P).isSome = true ∧ ∃ r : Nat, root' = r ∧ Tre N' r c (delP k P)))
section
variable {H : Nat} {A0 : World} {R : List Thing} {sb cap : Nat} {room : Int} {B : Option Addr} {vs : List Value} {N : List Nd} {root ky vl c : Nat} {P : List Pr}
theorem lDrop (w : World) (O : OwnT H A0 (shT sb room B cap vs N R) w) (hT : Tre N root c P) (hN : N.length ≤ 500) :
    Calls Try.prog 17 #[.iface 24 (.pointer (some ⟨sb, 0, none⟩)), .int .i64 root, .int .u64 ky] w fun e w' => ∃ N' root' ok er B' cap' vs', e = .returned (.tuple #[.int .i64 root', .bool ok, .int .i64 er]) ∧ OwnT H A0 (shT sb room B' cap' vs' N' R) w' ∧ DropL N N' room root ky c P root' ok er := by
  obtain ⟨m, L, g, h1, h2, rfl, h4⟩ := hT
  refine (tDrop w O h1 (by omega) hN).mono ?_
  rintro e w' ⟨N', root', ok, er, B', cap', vs', rfl, O', hP⟩
  refine ⟨N', root', ok, er, B', cap', vs', rfl, O', ?_⟩
  rcases hP with ⟨e1, e2, e3, e4, e5⟩ | ⟨e1, e2, e3, e4, ⟨M, e5, e6⟩, e7⟩ | ⟨e1, e2, e3, ⟨M, e4, e5⟩, r, L', g', e6, e7, e8, e9⟩
  · exact ⟨⟨[], by simp [e4], by simp⟩, .inl ⟨e1, e2, e3, e4, e5⟩⟩
  · exact ⟨⟨M, e5, by omega⟩, .inr (.inl ⟨e1, e2, e3, e4, fun h => e7 (by omega)⟩)⟩
  · exact ⟨⟨M, e4, by omega⟩, .inr (.inr ⟨e1, e2, e3, r, e6, m, L', g', e7, h2, e8, by omega⟩)⟩
end
end Go.Proofs.Ytngehbhhpkkijaa

/- The walks of package vols (Good, key, Pair, Read) and of their reference. -/
namespace Go.Proofs.Ytngehbhhpkkijaa
set_option linter.unusedVariables false
set_option linter.unusedSimpArgs false
open Go.RowKit

/-- Whether a volume can be. -/
def volB (i s r f : Int) : Bool := decide (1 ≤ i ∧ i ≤ 16 ∧ 0 ≤ s ∧ s ≤ 64 ∧ 0 ≤ r ∧ r ≤ 511 ∧ 0 ≤ f ∧ f ≤ 16)
abbrev volV (i s r : Int) (p : Bool) (f : Int) : Value := .agg #[.int .i64 i, .int .i64 s, .int .i64 r, .bool p, .int .i64 f]

set_option maxHeartbeats 1000000 in
theorem Z7a (i s r f : Int) (p : Bool) (w : World) (h0 : 1 ≤ i) (h1 : i ≤ 16) (h2 : 0 ≤ s) (h3 : s ≤ 64) (h4 : 0 ≤ r) (h5 : r ≤ 511) (h6 : 0 ≤ f) (h7 : f ≤ 16) :
    Calls Try.prog 46 #[volV i s r p f] w fun e w' => e = .returned (.bool true) ∧ Below w.heap.size w w' := by
  go_enter Try.func46, Try.ntmps46
  go_wp2
  go_ret
  exact ⟨rfl, by repeat (first | exact Below.refl _ _ | apply Below.drew | refine Below.alloc ?_ (by simp) _)⟩

set_option maxHeartbeats 1000000 in
theorem Z3e (i s r f : Int) (p : Bool) (w : World) :
    Calls Try.prog 46 #[volV i s r p f] w fun e w' => e = .returned (.bool (volB i s r f)) ∧ Below w.heap.size w w' := by
  go_enter Try.func46, Try.ntmps46
  go_wp2
  all_goals
    go_ret
    refine ⟨Z3m ?_, by repeat (first | exact Below.refl _ _ | apply Below.drew | refine Below.alloc ?_ (by simp) _)⟩
    unfold volB
    rw [Bool.eq_iff_iff]
    simp
    try omega

end Go.Proofs.Ytngehbhhpkkijaa

/- Plain lemmas on uint64 bits in the walk's spelling. -/
namespace Go.Proofs.Ytngehbhhpkkijaa
set_option linter.unusedVariables false
set_option linter.unusedSimpArgs false
open Go.RowKit

theorem Z2m (x m M : Int) (n : Nat) (hM : M = ((2 ^ n : Nat) : Int)) (hm : m + 1 = M) (hn : M ≤ 9223372036854775808) (h0 : 0 ≤ x) (h1 : x ≤ 18446744073709551615) : bits .and .u64 x m = x % M := by
  have hp : 0 < 2 ^ n := Nat.two_pow_pos n
  obtain ⟨X, rfl⟩ := Int.eq_ofNat_of_zero_le h0
  have e : m = ((2 ^ n - 1 : Nat) : Int) := by omega
  rw [e, u64_and_nat X (2 ^ n - 1) (by omega) (by omega), Nat.and_two_pow_sub_one_eq_mod, hM]
  rfl

theorem or_u64 (a b M : Int) (n : Nat) (hM : M = ((2 ^ n : Nat) : Int)) (ha0 : 0 ≤ a) (ha : a < M) (hb0 : 0 ≤ b) (hb1 : b ≤ 18446744073709551615) (ha1 : a ≤ 18446744073709551615) (hb : b % M = 0) : bits .or .u64 a b = a + b := by
  obtain ⟨A, rfl⟩ := Int.eq_ofNat_of_zero_le ha0
  obtain ⟨B, rfl⟩ := Int.eq_ofNat_of_zero_le hb0
  rw [u64_or_nat A B (by omega) (by omega)]
  subst hM
  have h1 : B % 2 ^ n = 0 := by exact_mod_cast hb
  have h2 : A < 2 ^ n := by omega
  rw [Nat.or_comm, nat_join n B A h1 h2]
  omega

/-- A bit set between a low part and a high one. -/
theorem Z74 (lo hi M N : Int) (n m : Nat) (hM : M = ((2 ^ n : Nat) : Int)) (hN : N = ((2 ^ m : Nat) : Int)) (hl0 : 0 ≤ lo) (hl : lo < M) (hh0 : 0 ≤ hi) (hh : hi % N = 0) (hMN : M + M ≤ N) (hs : lo + M + hi ≤ 18446744073709551615) : bits .or .u64 (lo + hi) M = lo + hi + M := by
  obtain ⟨L, rfl⟩ := Int.eq_ofNat_of_zero_le hl0
  obtain ⟨H, rfl⟩ := Int.eq_ofNat_of_zero_le hh0
  subst hM hN
  have e1 : ((L : Int) + H) = ((H + L : Nat) : Int) := by omega
  have h1 : H % 2 ^ m = 0 := by exact_mod_cast hh
  rw [e1, u64_or_nat (H + L) (2 ^ n) (by omega) (by omega)]
  rw [← nat_join m H L h1 (by omega), Nat.or_assoc, Nat.or_comm L, nat_join n (2 ^ n) L (by simp) (by omega), nat_join m H _ h1 (by omega), nat_join m H L h1 (by omega)]
  omega
end Go.Proofs.Ytngehbhhpkkijaa

/- The walks of package vols (Pair, Read) and of their reference. -/
namespace Go.Proofs.Ytngehbhhpkkijaa
set_option linter.unusedVariables false
set_option linter.unusedSimpArgs false
open Go.RowKit

def pinV : Bool → Int | true => 4294967296 | false => 0
def volPair (s r : Int) (p : Bool) (f : Int) : Int := r + s * 65536 + f * 1099511627776 + pinV p

set_option maxHeartbeats 1000000 in
theorem Z1v (i s r f : Int) (p : Bool) (w : World) (h0 : 1 ≤ i) (h1 : i ≤ 16) (h2 : 0 ≤ s) (h3 : s ≤ 64) (h4 : 0 ≤ r) (h5 : r ≤ 511) (h6 : 0 ≤ f) (h7 : f ≤ 16) :
    Calls Try.prog 47 #[volV i s r p f] w fun e w' => e = .returned (.tuple #[.agg #[.int .u64 (4294967296 + i), .int .u64 (volPair s r p f)], .int .i64 0]) ∧ Below w.heap.size w w' := by
  have e1 : bits .or .u64 r (s * 65536) = r + s * 65536 := or_u64 _ _ 65536 16 (by rfl) (by omega) (by omega) (by omega) (by omega) (by omega) (by omega)
  have e2 : bits .or .u64 (r + s * 65536) (f * 1099511627776) = r + s * 65536 + f * 1099511627776 := or_u64 _ _ 1099511627776 40 (by rfl) (by omega) (by omega) (by omega) (by omega) (by omega) (by omega)
  have e3 : bits .or .u64 (r + s * 65536 + f * 1099511627776) 4294967296 = r + s * 65536 + f * 1099511627776 + 4294967296 := Z74 _ _ 4294967296 1099511627776 32 40 (by rfl) (by rfl) (by omega) (by omega) (by omega) (by omega) (by omega) (by omega)
  go_enter Try.func47, Try.ntmps47
  cases p
  · go_wp2
    exact bodyPost_ret (v := .tuple #[.agg #[.int .u64 (4294967296 + i), .int .u64 (r + s * 65536 + f * 1099511627776)], .int .i64 0]) (by simp [results, Try.results47, go_sem]) rfl ⟨ret_v (by simp [volPair, pinV]), by repeat (first | exact Below.refl _ _ | apply Below.drew | refine Below.alloc ?_ (by simp; try omega) _)⟩
  · go_wp2
    exact bodyPost_ret (v := .tuple #[.agg #[.int .u64 (4294967296 + i), .int .u64 (r + s * 65536 + f * 1099511627776 + 4294967296)], .int .i64 0]) (by simp [results, Try.results47, go_sem]) rfl ⟨ret_v (by simp [volPair, pinV]), by repeat (first | exact Below.refl _ _ | apply Below.drew | refine Below.alloc ?_ (by simp; try omega) _)⟩

set_option maxHeartbeats 1000000 in
theorem Z40 (i s r f : Int) (p : Bool) (w : World) (h : ¬ (1 ≤ i ∧ i ≤ 16 ∧ 0 ≤ s ∧ s ≤ 64 ∧ 0 ≤ r ∧ r ≤ 511 ∧ 0 ≤ f ∧ f ≤ 16)) :
    Calls Try.prog 47 #[volV i s r p f] w fun e w' => e = .returned (.tuple #[.agg #[.int .u64 0, .int .u64 0], .int .i64 1]) ∧ Below w.heap.size w w' := by
  have hv : volB i s r f = false := by unfold volB; simp only [decide_eq_false_iff_not]; exact h
  clear h
  go_enter Try.func47, Try.ntmps47
  go_wp2_with (go_at_call 46; refine (Z3e _ _ _ _ _ _).mono ?_; rintro e w1 ⟨rfl, hb1⟩; obtain ⟨hc1, hf1⟩ := bcell hb1; have hs1 := hb1.size; simp at hs1)
  exact bodyPost_ret (v := .tuple #[.agg #[.int .u64 0, .int .u64 0], .int .i64 1]) (by simp [results, Try.results47, go_sem, hc1]) rfl ⟨rfl, (((((Below.refl _ _).alloc (Nat.le_refl _) _).alloc (by simp) _).trans (hb1.mono (by simp; omega))).setCell (by simp) _).setCell (by simp) _⟩

end Go.Proofs.Ytngehbhhpkkijaa

/- The walks of package vols: Read, and its reference; the first look. -/
namespace Go.Proofs.Ytngehbhhpkkijaa
set_option linter.unusedVariables false
set_option linter.unusedSimpArgs false
open Go.RowKit

def GoodVol (i s r f : Int) : Prop := 1 ≤ i ∧ i ≤ 16 ∧ 0 ≤ s ∧ s ≤ 64 ∧ 0 ≤ r ∧ r ≤ 511 ∧ 0 ≤ f ∧ f ≤ 16
def VolOk (k v : Int) : Prop := GoodVol (k % 4294967296) (v / 65536 % 65536) (v % 65536) (v / 1099511627776) ∧ 4294967296 + k % 4294967296 = k ∧ volPair (v / 65536 % 65536) (v % 65536) (v / 4294967296 % 256 == 1) (v / 1099511627776) = v

set_option maxHeartbeats 1000000 in
theorem Z4j (k v : Int) (w : World) (h0 : 0 ≤ k) (h1 : k ≤ 18446744073709551615) (h2 : 0 ≤ v) (h3 : v ≤ 18446744073709551615) (h : VolOk k v) :
    Calls Try.prog 68 #[.agg #[.int .u64 k, .int .u64 v]] w fun e w' => e = .returned (.tuple #[volV (k % 4294967296) (v / 65536 % 65536) (v % 65536) (v / 4294967296 % 256 == 1) (v / 1099511627776), .bool true]) ∧ Below w.heap.size w w' := by
  have e1 : bits .and .u64 k 4294967295 = k % 4294967296 := Z2m _ _ 4294967296 32 (by rfl) (by omega) (by omega) (by omega) (by omega)
  have e2 : bits .and .u64 (v / 65536) 65535 = v / 65536 % 65536 := Z2m _ _ 65536 16 (by rfl) (by omega) (by omega) (by omega) (by omega)
  have e3 : bits .and .u64 v 65535 = v % 65536 := Z2m _ _ 65536 16 (by rfl) (by omega) (by omega) (by omega) (by omega)
  have e4 : bits .and .u64 (v / 4294967296) 255 = v / 4294967296 % 256 := Z2m _ _ 256 8 (by rfl) (by omega) (by omega) (by omega) (by omega)
  obtain ⟨⟨g0, g1, g2, g3, g4, g5, g6, g7⟩, hk, hv⟩ := h
  have Hk := Lib.hid hk
  have Hv := Lib.hid hv
  clear hk hv
  go_enter Try.func68, Try.ntmps68
  go_wp2_with fail
  refine (Z1v _ _ _ _ _ _ (by omega) (by omega) (by omega) (by omega) (by omega) (by omega) (by omega) (by omega)).mono ?_
  rintro e w1 ⟨rfl, hb1⟩
  obtain ⟨hc1, hf1⟩ := bcell hb1
  have hs1 := hb1.size
  simp at hs1
  have z0 : w.heap.size < w1.heap.size := by omega
  have z1 : w.heap.size + 1 < w1.heap.size := by omega
  have z2 : w.heap.size + 1 + 1 < w1.heap.size := by omega
  rw [Hk.out, Hv.out]
  clear e1 e2 e3 e4
  have hbw : Below w.heap.size w w1 := Below.trans (by (repeat (first | with_reducible exact Below.refl _ _ | with_reducible assumption | with_reducible apply Below.drew | with_reducible apply Z0w | (with_reducible refine Z19 ?_ ?_; focus ((try simp); (try omega); done)) | (with_reducible refine Z1a ?_ ?_; focus ((try simp); (try omega); done))))) (hb1.mono (by simp; omega))
  go_wp2_with fail
  exact bodyPost_ret (v := .tuple #[volV (k % 4294967296) (v / 65536 % 65536) (v % 65536) (v / 4294967296 % 256 == 1) (v / 1099511627776), .bool true]) (by simp [results, Try.results68, go_sem, hc1, z0, z1, z2]) rfl ⟨rfl, by (repeat (first | with_reducible exact Below.refl _ _ | with_reducible assumption | with_reducible apply Below.drew | with_reducible apply Z0w | (with_reducible refine Z19 ?_ ?_; focus ((try simp); (try omega); done)) | (with_reducible refine Z1a ?_ ?_; focus ((try simp); (try omega); done))))⟩

set_option maxHeartbeats 1000000 in
theorem Z7y (k v : Int) (w : World) (h0 : 0 ≤ k) (h1 : k ≤ 18446744073709551615) (h2 : 0 ≤ v) (h3 : v ≤ 18446744073709551615) (h : ¬ VolOk k v) :
    Calls Try.prog 68 #[.agg #[.int .u64 k, .int .u64 v]] w fun e w' => e = .returned (.tuple #[volV 0 0 0 false 0, .bool false]) ∧ Below w.heap.size w w' := by
  have e1 : bits .and .u64 k 4294967295 = k % 4294967296 := Z2m _ _ 4294967296 32 (by rfl) (by omega) (by omega) (by omega) (by omega)
  have e2 : bits .and .u64 (v / 65536) 65535 = v / 65536 % 65536 := Z2m _ _ 65536 16 (by rfl) (by omega) (by omega) (by omega) (by omega)
  have e3 : bits .and .u64 v 65535 = v % 65536 := Z2m _ _ 65536 16 (by rfl) (by omega) (by omega) (by omega) (by omega)
  have e4 : bits .and .u64 (v / 4294967296) 255 = v / 4294967296 % 256 := Z2m _ _ 256 8 (by rfl) (by omega) (by omega) (by omega) (by omega)
  go_enter Try.func68, Try.ntmps68
  by_cases hg : GoodVol (k % 4294967296) (v / 65536 % 65536) (v % 65536) (v / 1099511627776)
  · have hd : ¬ (4294967296 + k % 4294967296 = k ∧ volPair (v / 65536 % 65536) (v % 65536) (v / 4294967296 % 256 == 1) (v / 1099511627776) = v) := fun hd => h ⟨hg, hd⟩
    obtain ⟨g0, g1, g2, g3, g4, g5, g6, g7⟩ := hg
    have Hd := Lib.hid hd
    clear h hd
    go_wp2_with fail
    refine (Z1v _ _ _ _ _ _ (by omega) (by omega) (by omega) (by omega) (by omega) (by omega) (by omega) (by omega)).mono ?_
    rintro e w1 ⟨rfl, hb1⟩
    obtain ⟨hc1, hf1⟩ := bcell hb1
    have hs1 := hb1.size
    simp at hs1
    have z0 : w.heap.size < w1.heap.size := by omega
    have z1 : w.heap.size + 1 < w1.heap.size := by omega
    have z2 : w.heap.size + 1 + 1 < w1.heap.size := by omega
    clear e1 e2 e3 e4
    have hbw : Below w.heap.size w w1 := Below.trans (by (repeat (first | with_reducible exact Below.refl _ _ | with_reducible assumption | with_reducible apply Below.drew | with_reducible apply Z0w | (with_reducible refine Z19 ?_ ?_; focus ((try simp); (try omega); done)) | (with_reducible refine Z1a ?_ ?_; focus ((try simp); (try omega); done))))) (hb1.mono (by simp; omega))
    have hd := Hd.out
    generalize volPair (v / 65536 % 65536) (v % 65536) (v / 4294967296 % 256 == 1) (v / 1099511627776) = x at hd ⊢
    generalize hy : 4294967296 + k % 4294967296 = y at hd ⊢
    clear hy Hd
    by_cases hy : y = k
    · subst hy
      have hx : ¬ x = v := fun e => hd ⟨rfl, e⟩
      clear hd
      go_wp2_with fail
      exact bodyPost_ret (v := .tuple #[volV 0 0 0 false 0, .bool false]) (by simp [results, Try.results68, go_sem, hc1, z0, z1, z2]) rfl ⟨rfl, by (repeat (first | with_reducible exact Below.refl _ _ | with_reducible assumption | with_reducible apply Below.drew | with_reducible apply Z0w | (with_reducible refine Z19 ?_ ?_; focus ((try simp); (try omega); done)) | (with_reducible refine Z1a ?_ ?_; focus ((try simp); (try omega); done))))⟩
    · clear hd
      go_wp2_with fail
      exact bodyPost_ret (v := .tuple #[volV 0 0 0 false 0, .bool false]) (by simp [results, Try.results68, go_sem, hc1, z0, z1, z2]) rfl ⟨rfl, by (repeat (first | with_reducible exact Below.refl _ _ | with_reducible assumption | with_reducible apply Below.drew | with_reducible apply Z0w | (with_reducible refine Z19 ?_ ?_; focus ((try simp); (try omega); done)) | (with_reducible refine Z1a ?_ ?_; focus ((try simp); (try omega); done))))⟩
  · clear h
    go_wp2_with fail
    refine (Z40 _ _ _ _ _ _ hg).mono ?_
    rintro e w1 ⟨rfl, hb1⟩
    obtain ⟨hc1, hf1⟩ := bcell hb1
    have hs1 := hb1.size
    simp at hs1
    have z0 : w.heap.size < w1.heap.size := by omega
    have z1 : w.heap.size + 1 < w1.heap.size := by omega
    have z2 : w.heap.size + 1 + 1 < w1.heap.size := by omega
    clear e1 e2 e3 e4 hg
    have hbw : Below w.heap.size w w1 := Below.trans (by (repeat (first | with_reducible exact Below.refl _ _ | with_reducible assumption | with_reducible apply Below.drew | with_reducible apply Z0w | (with_reducible refine Z19 ?_ ?_; focus ((try simp); (try omega); done)) | (with_reducible refine Z1a ?_ ?_; focus ((try simp); (try omega); done))))) (hb1.mono (by simp; omega))
    go_wp2_with fail
    exact bodyPost_ret (v := .tuple #[volV 0 0 0 false 0, .bool false]) (by simp [results, Try.results68, go_sem, hc1, z0, z1, z2]) rfl ⟨rfl, by (repeat (first | with_reducible exact Below.refl _ _ | with_reducible assumption | with_reducible apply Below.drew | with_reducible apply Z0w | (with_reducible refine Z19 ?_ ?_; focus ((try simp); (try omega); done)) | (with_reducible refine Z1a ?_ ?_; focus ((try simp); (try omega); done))))⟩

end Go.Proofs.Ytngehbhhpkkijaa

/- The walk of VolsExact: it returns true and turns nothing that was there. -/
namespace Go.Proofs.Ytngehbhhpkkijaa
set_option linter.unusedVariables false
set_option linter.unusedSimpArgs false
open Go.RowKit

theorem Z5p : volPair 5 0 false 0 = 327680 := by decide
theorem Z7j : VolOk 4294967299 327680 := by unfold VolOk GoodVol; decide

set_option maxHeartbeats 1000000 in
theorem awake11 (w : World) : Calls Try.prog 39 #[] w fun e w' => e = .returned (.bool true) ∧ Below w.heap.size w w' := by
  have P1 := fun W => Z1v 3 5 0 0 false W (by omega) (by omega) (by omega) (by omega) (by omega) (by omega) (by omega) (by omega)
  rw [Z5p] at P1
  have R1 := fun W => Z4j 4294967299 327680 W (by omega) (by omega) (by omega) (by omega) Z7j
  simp only [Int.reduceMod, Int.reduceDiv, Int.reduceAdd, Int.reduceBEq] at P1 R1
  have P2 := fun W => Z40 0 0 0 0 false W (by omega)
  have HP1 := Lib.hid P1
  have HR1 := Lib.hid R1
  have HP2 := Lib.hid P2
  clear P1 R1 P2
  go_enter Try.func39, Try.ntmps39
  go_wp2_with fail
  refine (HP1.out _).mono ?_
  rintro e w1 ⟨rfl, hb1⟩
  have hs1 := hb1.size
  simp at hs1
  have hw1 : Below w.heap.size w w1 := Below.trans (by (repeat (first | with_reducible exact Below.refl _ _ | with_reducible assumption | with_reducible apply Below.drew | with_reducible apply Z0w | (with_reducible refine Z19 ?_ ?_; focus ((try simp); (try omega); done)) | (with_reducible refine Z1a ?_ ?_; focus ((try simp); (try omega); done))))) (hb1.mono (by simp))
  obtain ⟨hc1, hf1⟩ := bcell hb1
  go_wp2_with fail
  refine (HR1.out _).mono ?_
  rintro e w2 ⟨rfl, hb2⟩
  have hs2 := hb2.size
  simp at hs2
  have hw2 : Below w.heap.size w w2 := Below.trans (by (repeat (first | with_reducible exact Below.refl _ _ | with_reducible assumption | with_reducible apply Below.drew | with_reducible apply Z0w | (with_reducible refine Z19 ?_ ?_; focus ((try simp); (try omega); done)) | (with_reducible refine Z1a ?_ ?_; focus ((try simp); (try omega); done))))) (hb2.mono (by simp; omega))
  obtain ⟨hc2, hf2⟩ := bcell hb2
  go_wp2_with fail
  refine (HP2.out _).mono ?_
  rintro e w3 ⟨rfl, hb3⟩
  have hs3 := hb3.size
  simp at hs3
  have hw3 : Below w.heap.size w w3 := Below.trans (by (repeat (first | with_reducible exact Below.refl _ _ | with_reducible assumption | with_reducible apply Below.drew | with_reducible apply Z0w | (with_reducible refine Z19 ?_ ?_; focus ((try simp); (try omega); done)) | (with_reducible refine Z1a ?_ ?_; focus ((try simp); (try omega); done))))) (hb3.mono (by simp; omega))
  obtain ⟨hc3, hf3⟩ := bcell hb3
  have y1 : w.heap.size < w1.heap.size := by omega
  have y2 : w.heap.size < w2.heap.size := by omega
  have y3 : w.heap.size < w3.heap.size := by omega
  have y4 : w1.heap.size < w2.heap.size := by omega
  have y5 : w1.heap.size < w3.heap.size := by omega
  have y6 : w2.heap.size < w3.heap.size := by omega
  go_wp2_with (go_at_call 46; refine (Z7a _ _ _ _ _ _ (by omega) (by omega) (by omega) (by omega) (by omega) (by omega) (by omega) (by omega)).mono ?_; rintro e w4 ⟨rfl, hb4⟩; have hs4 := hb4.size; simp at hs4)
  go_ret
  exact ⟨rfl, Below.trans (by (repeat (first | with_reducible exact Below.refl _ _ | with_reducible assumption | with_reducible apply Below.drew | with_reducible apply Z0w | (with_reducible refine Z19 ?_ ?_; focus ((try simp); (try omega); done)) | (with_reducible refine Z1a ?_ ?_; focus ((try simp); (try omega); done))))) (hb4.mono (by simp; omega))⟩
end Go.Proofs.Ytngehbhhpkkijaa

/- The walk of VolsExact: the reference's Read. -/
namespace Go.Proofs.Ytngehbhhpkkijaa
set_option linter.unusedVariables false
set_option linter.unusedSimpArgs false
open Go.RowKit

end Go.Proofs.Ytngehbhhpkkijaa

/- Volumes: what a pair gives back. -/
namespace Go.Proofs.Ytngehbhhpkkijaa
set_option linter.unusedVariables false
set_option linter.unusedSimpArgs false
open Go.RowKit

theorem volB_yes {i s r f : Int} (h : GoodVol i s r f) : volB i s r f = true := by unfold volB; unfold GoodVol at h; simpa using h
theorem volB_no {i s r f : Int} (h : ¬ GoodVol i s r f) : volB i s r f = false := by unfold volB; unfold GoodVol at h; simpa only [decide_eq_false_iff_not] using h
theorem Z60 (i s r f : Int) (p : Bool) (w : World) (h : GoodVol i s r f) :
    Calls Try.prog 46 #[volV i s r p f] w fun e w' => e = .returned (.bool true) ∧ Below w.heap.size w w' :=
  (Z3e i s r f p w).mono fun _ _ ⟨he, hb⟩ => ⟨by rw [he, volB_yes h], hb⟩
theorem Z7b (i s r f : Int) (p : Bool) (w : World) (h : ¬ GoodVol i s r f) :
    Calls Try.prog 46 #[volV i s r p f] w fun e w' => e = .returned (.bool false) ∧ Below w.heap.size w w' :=
  (Z3e i s r f p w).mono fun _ _ ⟨he, hb⟩ => ⟨by rw [he, volB_no h], hb⟩

theorem Z24 {i s r f : Int} (p : Bool) (h : GoodVol i s r f) :
    (4294967296 + i) % 4294967296 = i ∧ volPair s r p f / 65536 % 65536 = s ∧ volPair s r p f % 65536 = r ∧ (volPair s r p f / 4294967296 % 256 == 1) = p ∧ volPair s r p f / 1099511627776 = f ∧ 0 ≤ volPair s r p f ∧ volPair s r p f ≤ 18446744073709551615 := by
  obtain ⟨h0, h1, h2, h3, h4, h5, h6, h7⟩ := h
  cases p <;> simp only [volPair, pinV]
  · refine ⟨by omega, by omega, by omega, ?_, by omega, by omega, by omega⟩
    simp only [beq_eq_false_iff_ne]; omega
  · refine ⟨by omega, by omega, by omega, ?_, by omega, by omega, by omega⟩
    simp only [beq_iff_eq]; omega
end Go.Proofs.Ytngehbhhpkkijaa
