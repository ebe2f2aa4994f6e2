/- tapes: the law (printed by XTpG.gen.py). -/
import Derived.Test.YtakkhglbdljfiaaKTapeExact22
import Derived.Test.YtakkhglbdljfiaaKTapeExact08
namespace Go.Proofs.Ytakkhglbdljfiaa
attribute [local simp] BigFrame.eval_const BigFrame.eval_global BigFrame.eval_func
set_option linter.unusedVariables false
set_option linter.unusedSimpArgs false
open Go.RowKit Go.Maps

def hello : List UInt8 := [104, 101, 108, 108, 111]
def aw0 : List Sec := List.replicate 5 zsec
theorem aw_rd0 : rdT aw0.flatten aw0.flatten.length [] 0 = ([], 0) := by kernel_rfl
def aw1 : List Sec := tpS (tapeL 1 hello) 5
theorem aw_rd1 : rdT aw1.flatten aw1.flatten.length [] 0 = ([hello], 1) := by kernel_rfl
theorem aw_tp0 : tpS (aw0.flatten.take (16 * 0)) 5 = aw0 := by kernel_rfl
theorem aw_now : nowL aw0 (wrS (tapeL ([] : List Sec).length.succ hello) (0 : Nat) (fun _ => none) (szT hello)) = aw1 := by
 have h := Z6i (S := aw0) (L := fun _ => none) (a := 0) (k := szT hello) (n := 5) (want := []) (t := tapeL 1 hello) rfl rfl (Z11 1 hello) (by decide) (by rw [Z21, ← aw_tp0]; rfl)
 exact h
theorem looL_no (n : Nat) : looL n (fun _ => none) = [] := by
 unfold looL riseN
 rw [List.filter_eq_nil_iff]
 simp
theorem Z5d : Try.prog.cellsOf 9 = 1 := by kernel_rfl
theorem Z7o {w : World} {v : Value} (h : Arg Try.prog w 22 v) : ∃ A cap, ∃ xs : List Sec, v = .slice A xs.length cap ∧ xs.length ≤ maxLen ∧ Row1 w A (fun s => .string (sB s)) xs := by
 obtain ⟨A, len, cap, xs, rfl, h1, h2, h3, _, h5⟩ := Z5e Try.underlying22 Try.underlying9 Z5d h
 refine ⟨A, cap, xs.map fun s => s.data.toList, by rw [List.length_map, h3], by rw [List.length_map]; omega, fun i x hx => ?_⟩
 rw [List.getElem?_map] at hx
 obtain ⟨y, hy, rfl⟩ := Option.map_eq_some_iff.1 hx
 obtain ⟨b, off, hA, hb, hc⟩ := h5 i y hy
 refine ⟨b, off, hA, hb, ?_⟩
 rw [hc]
 show _ = some (Value.string (sB y.data.toList))
 rw [Z83]
theorem Z6u {w w' : World} {A : Option Addr} {xs : List Sec} (h : Row1 w A (fun s => Value.string (sB s)) xs) (hb : Below w.heap.size w w') {i : Nat} {x : Sec} (hx : xs[i]? = some x) : ∃ b o, A = some ⟨b, o, none⟩ ∧ w'.cell? ⟨b, o + i, none⟩ = some (.string (sB x)) := by
 obtain ⟨b, o, e, hlt, hc⟩ := h i x hx
 exact ⟨b, o, e, (hb.cell (p := ⟨b, _, none⟩) hlt).trans hc⟩
theorem Z6y (l : List UInt8) {n : Nat} (h : n = l.length / 16) : (secsL l n).flatten = l.take (16 * n) := by
 have h1 : secsL l n = secsL (l.take (16 * n)) n := by
  apply List.ext_getElem?
  intro j
  by_cases hj : j < n
  · rw [Z1z hj, Z1z hj, Z3k hj]
  · rw [List.getElem?_eq_none (by rw [Z18]; omega), List.getElem?_eq_none (by rw [Z18]; omega)]
 rw [h1, flatT (by rw [List.length_take]; omega)]
/-- What holds on the way. -/
structure TpI (n c : Nat) (T : List Sec) (u : Nat) (want : List UInt8) (S : List Sec) (L : Int → Option Sec) (M : Mn) : Prop where
 le : u ≤ n
 len : T.length ≤ u
 wl : want.length = 16 * u
 now : nowL S L = tpS want n
 free : M.Free
 ok : M.Ok (c : Int)

set_option maxRecDepth 100000 in
set_option maxHeartbeats 4000000 in
theorem awake39 (W0 : World) : Calls Try.prog 4 #[] W0 fun e w' => e = .returned (.bool true) ∧ Ext W0 w' := by
 have O := OwnT.start W0
 refine Z0a Try.func4 rfl 66 rfl (by rfl) ?_
 intro a1 k hargs
 clear hargs
 refine wp_seq ?_
 refine wp_region_lit ?_
 have hE := Env.refl a1 [0]
 refine sd 0 hE k (Z01 rfl rfl) ?_
 intro a2 hE e0 kp
 refine wpList_nil ?_
 replace k := k.env hE
 clear hE e0
 refine Z00 (wp_seq ?_)
 refine wp_region_lit ?_
 have hE := Env.refl a2 [8, 9, 1]
 apply Z06 8 hE k rfl (by rfl) (by rfl) rfl
 case h =>
  simp [go_sem, ↓IntWalk.iteOmega]
  with_reducible exact ⟨rfl, rfl⟩
 case hc => exact new_mn O
 clear O
 rintro e w4 ⟨mb, rfl, O⟩
 refine ⟨_, rfl, ?_⟩
 intro a3 hE e8 kp
 apply Z06 9 hE k rfl (by rfl) (by rfl) rfl
 case h =>
  simp [go_sem, ↓IntWalk.iteOmega, ev e8]
  with_reducible exact ⟨rfl, rfl⟩
 case hc => exact dnew_any 5 5 _ O (by decide)
 clear O
 rintro e w6 ⟨p, B, cap, bm, rfl, O⟩
 refine ⟨_, rfl, ?_⟩
 intro a5 hE e9 kp
 refine sd 1 hE k (Z01 rfl e9) ?_
 intro a7 hE e1 kp
 refine wpList_nil ?_
 replace k := k.env hE
 clear hE
 refine Z00 (wp_seq ?_)
 refine wp_region_lit ?_
 have hE := Env.refl a7 [11, 12, 10, 13, 14, 2, 3]
 refine zm 11 hE k e1 ?_
 intro a8 hE e11 kp
 apply Z06 12 hE k rfl (by rfl) (by rfl) rfl
 case h =>
  simp [go_sem, ↓IntWalk.iteOmega, ev e11]
  with_reducible exact ⟨rfl, rfl⟩
 case hc => exact Z2u (S := aw0) _ O mn0_ok (by decide) Z5t
 clear O
 rintro e w10 ⟨tb, T, u, Bt, ct, M, rfl, hT, hrd, hu, hF, hM, O⟩
 rw [aw_rd0] at hrd
 obtain ⟨rfl, rfl⟩ : [] = T ∧ 0 = u := by injection hrd with h1 h2; exact ⟨h1, h2⟩
 rw [aw_tp0] at O
 refine ⟨_, rfl, ?_⟩
 intro a9 hE e12 kp
 refine sd 10 hE k (Z03 rfl e12) ?_
 intro a11 hE e10 kp
 apply Z05 13 hE k rfl rfl rfl rfl
 case h =>
  simp [go_sem, ↓IntWalk.iteOmega, ev e10]
  with_reducible rfl
 intro a12 hE e13 kp
 replace e10 := kt kp e10
 apply Z05 14 hE k rfl rfl rfl rfl
 case h =>
  simp [go_sem, ↓IntWalk.iteOmega, ev e10]
  with_reducible rfl
 intro a13 hE e14 kp
 replace e13 := kt kp e13
 refine sd 2 hE k (Z01 rfl e13) ?_
 intro a14 hE e2 kp
 replace e14 := kt kp e14
 refine sd 3 hE k (Z01 rfl e14) ?_
 intro a15 hE e3 kp
 replace e2 := kt kp e2
 refine wpList_nil ?_
 replace e1 := hE.g e1
 replace k := k.env hE
 clear hE
 refine Z00 (wp_seq ?_)
 refine wp_seq ?_
 refine wp_region_lit ?_
 have hE := Env.refl a15 [15, 16, 17, 18, 19, 20]
 refine zm 15 hE k e3 ?_
 intro a16 hE e15 kp
 refine sd 16 hE k (Z09 (Z15 rfl e15 rfl) (decide_eq_false (by omega))) ?_
 intro a17 hE e16 kp
 refine sd 17 hE k (Z03 rfl e16) ?_
 intro a18 hE e17 kp
 apply Z02 18 hE k rfl rfl rfl rfl rfl e17
 case h =>
  exact Z03 rfl (hE.g e2)
 intro a19 hE e18 kp
 replace e17 := kt kp e17
 apply Z02 19 hE k rfl rfl rfl rfl rfl e17
 case h =>
  simp [go_sem, ↓IntWalk.iteOmega, ev e18]
  with_reducible rfl
 intro a20 hE e19 kp
 replace e17 := kt kp e17
 refine sd 20 hE k (Z0g rfl e17 e19) ?_
 intro a21 hE e20 kp
 refine wpList_nil ?_
 replace e1 := hE.g e1; replace e2 := hE.g e2
 replace k := k.env hE
 clear hE e3
 refine Z00 ?_
 refine Z08 e20 rfl ?_
 refine wp_skip ?_
 refine Z00 (wp_seq ?_)
 refine wp_region_lit ?_
 have hE := Env.refl a21 [21, 22, 4]
 refine zm 21 hE k e2 ?_
 intro a22 hE e21 kp
 apply Z06 22 hE k rfl (by rfl) (by rfl) rfl
 case h =>
  simp [go_sem, ↓IntWalk.iteOmega, ev e21]
  with_reducible exact ⟨rfl, rfl⟩
 case hc => exact Z6r hello _ O (by decide) (by decide) (by decide) (by decide) hM (by decide) hF
 clear O
 rintro e w24 ⟨rfl, Bt, ct, O⟩
 refine ⟨_, rfl, ?_⟩
 intro a23 hE e22 kp
 refine sd 4 hE k (Z01 rfl e22) ?_
 intro a25 hE e4 kp
 refine wpList_nil ?_
 replace e1 := hE.g e1; replace e2 := hE.g e2
 replace k := k.env hE
 clear hE e20
 refine Z00 ?_
 replace hM := hM.useN (szT hello)
 replace hF := hF.useN (szT hello)
 obtain ⟨M2, hM2⟩ : ∃ M2, M.useN (szT hello) = M2 := ⟨_, rfl⟩
 rw [hM2] at O hM hF
 have hsz : (((5 : Nat) : Int) + 1 + (szT hello : Nat)) ≤ 100 := by decide
 replace hM : M2.Ok 1000 := hM.mono (by omega)
 clear hM2
 replace O : OwnT _ _ ([tDisc p mb B 5 cap bm aw0 (wrS (tapeL ([] : List Sec).length.succ hello) (0 : Nat) (fun _ => none) (szT hello)), tMn mb M2, tBlk tb 55 #[.pointer (some ⟨p, 0, none⟩), .slice Bt ((([] ++ [hello] : List Sec)).length) ct, .int .i64 (↑(0 + szT hello)), .bool false], tRow 9 1 (.slice Bt (([] ++ [hello] : List Sec)).length ct) (([] ++ [hello] : List Sec)).length (strsV (([] ++ [hello] : List Sec)))]) w24 := O
 refine wp_seq ?_
 refine wp_region_lit ?_
 have hE := Env.refl a25 [23, 24, 5]
 refine zm 23 hE k e2 ?_
 intro a26 hE e23 kp
 apply Z06 24 hE k rfl (by rfl) (by rfl) rfl
 case h =>
  simp [go_sem, ↓IntWalk.iteOmega, ev e23]
  with_reducible exact ⟨rfl, rfl⟩
 case hc => exact Z4j _ O hM (by decide) hF
 clear O
 rintro e w28 ⟨rfl, O⟩
 rw [aw_now] at O
 refine ⟨_, rfl, ?_⟩
 intro a27 hE e24 kp
 refine sd 5 hE k (Z01 rfl e24) ?_
 intro a29 hE e5 kp
 refine wpList_nil ?_
 replace e1 := hE.g e1; replace e4 := hE.g e4
 replace k := k.env hE
 clear hE e2
 refine Z00 (wp_seq ?_)
 refine wp_region_lit ?_
 have hE := Env.refl a29 [26, 27, 25, 28, 29, 6, 7]
 refine zm 26 hE k e1 ?_
 intro a30 hE e26 kp
 apply Z06 27 hE k rfl (by rfl) (by rfl) rfl
 case h =>
  simp [go_sem, ↓IntWalk.iteOmega, ev e26]
  with_reducible exact ⟨rfl, rfl⟩
 case hc => exact Z2u (S := aw1) _ O hM.use (by decide) hF.use
 clear O
 rintro e w32 ⟨t2, T, u, B2, c2, M3, rfl, hT2, hrd2, hu2, hF3, hM3, O⟩
 rw [aw_rd1] at hrd2
 obtain ⟨hT1, rfl⟩ : [hello] = T ∧ 1 = u := by injection hrd2 with h1 h2; exact ⟨h1, h2⟩
 have hTl : T.length = 1 := by rw [← hT1]; rfl
 have hT0 : T[0]? = some hello := by rw [← hT1]; rfl
 clear hT1
 refine ⟨_, rfl, ?_⟩
 intro a31 hE e27 kp
 refine sd 25 hE k (Z03 rfl e27) ?_
 intro a33 hE e25 kp
 apply Z05 28 hE k rfl rfl rfl rfl
 case h =>
  simp [go_sem, ↓IntWalk.iteOmega, ev e25]
  with_reducible rfl
 intro a34 hE e28 kp
 replace e25 := kt kp e25
 apply Z05 29 hE k rfl rfl rfl rfl
 case h =>
  simp [go_sem, ↓IntWalk.iteOmega, ev e25]
  with_reducible rfl
 intro a35 hE e29 kp
 replace e28 := kt kp e28
 refine sd 6 hE k (Z01 rfl e28) ?_
 intro a36 hE e6 kp
 replace e29 := kt kp e29
 refine sd 7 hE k (Z01 rfl e29) ?_
 intro a37 hE e7 kp
 replace e6 := kt kp e6
 refine wpList_nil ?_
 replace e4 := hE.g e4; replace e5 := hE.g e5
 replace k := k.env hE
 clear hE e1
 refine Z00 (wp_seq ?_)
 refine wp_region_lit ?_
 have hE := Env.refl a37 [30, 31, 32, 33, 34, 35, 36, 37, 38, 39, 40, 41, 42, 43, 44, 45, 46, 47, 48, 49, 50, 51, 52, 53, 54, 55, 56, 57, 58, 59, 60, 61, 62, 63, 64, 65, 0]
 refine zm 30 hE k e4 ?_
 intro a38 hE e30 kp
 refine sd 31 hE k (Z09 (Z1s rfl e30 rfl) (decide_eq_true (by omega))) ?_
 intro a39 hE e31 kp
 refine sd 32 hE k (Z03 rfl e31) ?_
 intro a40 hE e32 kp
 apply Z02 33 hE k rfl rfl rfl rfl rfl e32
 case h =>
  exact Z03 rfl (hE.g e5)
 intro a41 hE e33 kp
 replace e32 := kt kp e32
 apply Z02 34 hE k rfl rfl rfl rfl rfl e32
 case h =>
  exact Z09 (Z1s rfl e33 rfl) (decide_eq_true (by omega))
 intro a42 hE e34 kp
 replace e32 := kt kp e32
 refine sd 35 hE k (Z0b rfl e32 e34) ?_
 intro a43 hE e35 kp
 refine sd 36 hE k (Z03 rfl e35) ?_
 intro a44 hE e36 kp
 apply Z02 37 hE k rfl rfl rfl rfl rfl e36
 case h =>
  exact Z03 rfl (hE.g e7)
 intro a45 hE e37 kp
 replace e36 := kt kp e36
 apply Z02 38 hE k rfl rfl rfl rfl rfl e36
 case h =>
  exact Z09 (Z1s rfl e37 rfl) (decide_eq_true (by omega))
 intro a46 hE e38 kp
 replace e36 := kt kp e36
 refine sd 39 hE k (Z0b rfl e36 e38) ?_
 intro a47 hE e39 kp
 refine sd 40 hE k (Z03 rfl e39) ?_
 intro a48 hE e40 kp
 apply Z02 41 hE k rfl rfl rfl rfl rfl e40
 case h =>
  exact Z03 rfl (hE.g e6)
 intro a49 hE e41 kp
 replace e40 := kt kp e40
 apply Z0o 42 hE k rfl (by rfl) (by rfl) rfl rfl e40
 case h =>
  simp [go_sem, ↓IntWalk.iteOmega, ev e41]
  with_reducible exact ⟨rfl, rfl⟩
 case hc => exact Z1r _ (Z16 (OwnT.get O 3 rfl)) (OwnT.blk O 2 rfl) (by omega)
 rintro e w51 ⟨Bo, co, rfl, -, RE⟩
 replace O := OwnT.ext O RE
 refine ⟨_, rfl, ?_⟩
 intro a50 hE e42 kp
 replace e40 := kt kp e40
 apply Z02 43 hE k rfl rfl rfl rfl rfl e40
 case h =>
  exact Z1c Try.underlying22 rfl e42
 intro a52 hE e43 kp
 replace e40 := kt kp e40
 apply Z02 44 hE k rfl rfl rfl rfl rfl e40
 case h =>
  exact Z09 (Z1s rfl e43 rfl) (decide_eq_true (by omega))
 intro a53 hE e44 kp
 replace e40 := kt kp e40
 refine sd 45 hE k (Z0b rfl e40 e44) ?_
 intro a54 hE e45 kp
 refine sd 46 hE k (Z03 rfl e45) ?_
 intro a55 hE e46 kp
 apply Z02 47 hE k rfl rfl rfl rfl rfl e46
 case h =>
  exact Z03 rfl (hE.g e6)
 intro a56 hE e47 kp
 replace e46 := kt kp e46
 apply Z0o 48 hE k rfl (by rfl) (by rfl) rfl rfl e46
 case h =>
  simp [go_sem, ↓IntWalk.iteOmega, ev e47]
  with_reducible exact ⟨rfl, rfl⟩
 case hc => exact Z1r _ (Z16 (OwnT.get O 3 rfl)) (OwnT.blk O 2 rfl) (by omega)
 rintro e w58 ⟨Bp, cp, rfl, hrow, RE⟩
 obtain ⟨gz, rfl, d0⟩ := (Z16 hrow).at_ hT0
 replace O := OwnT.ext O RE
 refine ⟨_, rfl, ?_⟩
 intro a57 hE e48 kp
 replace e46 := kt kp e46
 apply Z02 49 hE k rfl rfl rfl rfl rfl e46
 case h =>
  simp [go_sem, ↓IntWalk.iteOmega, ev e48, hTl]
  with_reducible rfl
 intro a59 hE e49 kp
 replace e46 := kt kp e46
 apply Z02 50 hE k rfl rfl rfl rfl rfl e46
 case h =>
  simp [go_sem, ↓IntWalk.iteOmega, ev e49, d0]
  with_reducible rfl
 intro a60 hE e50 kp
 replace e46 := kt kp e46
 apply Z02 51 hE k rfl rfl rfl rfl rfl e46
 case h =>
  exact Z09 (Z7s (l := hello) (m := [104, 101, 108, 108, 111]) rfl e50 rfl) (decide_eq_true rfl)
 intro a61 hE e51 kp
 replace e46 := kt kp e46
 refine sd 52 hE k (Z0b rfl e46 e51) ?_
 intro a62 hE e52 kp
 refine sd 53 hE k (Z03 rfl e52) ?_
 intro a63 hE e53 kp
 apply Z02 54 hE k rfl rfl rfl rfl rfl e53
 case h =>
  exact Z03 rfl (hE.g e6)
 intro a64 hE e54 kp
 replace e53 := kt kp e53
 apply Z0o 55 hE k rfl (by rfl) (by rfl) rfl rfl e53
 case h =>
  simp [go_sem, ↓IntWalk.iteOmega, ev e54]
  with_reducible exact ⟨rfl, rfl⟩
 case hc => exact Z1m _ (OwnT.disc O) (OwnT.blk O 2 rfl) (by decide)
 rintro e w66 ⟨rfl, RE⟩
 replace O := OwnT.ext O RE
 refine ⟨_, rfl, ?_⟩
 intro a65 hE e55 kp
 replace e53 := kt kp e53
 apply Z02 56 hE k rfl rfl rfl rfl rfl e53
 case h =>
  exact Z09 (Z1s rfl e55 rfl) (decide_eq_true rfl)
 intro a67 hE e56 kp
 replace e53 := kt kp e53
 refine sd 57 hE k (Z0b rfl e53 e56) ?_
 intro a68 hE e57 kp
 refine sd 58 hE k (Z03 rfl e57) ?_
 intro a69 hE e58 kp
 apply Z0o 59 hE k rfl (by rfl) (by rfl) rfl rfl e58
 case h =>
  simp [go_sem, ↓IntWalk.iteOmega]
  with_reducible exact ⟨rfl, rfl⟩
 case hc => exact Z0w [] _ (by decide)
 rintro e w71 ⟨rfl, RE⟩
 replace O := OwnT.ext O RE
 refine ⟨_, rfl, ?_⟩
 intro a70 hE e59 kp
 replace e58 := kt kp e58
 apply Z02 60 hE k rfl rfl rfl rfl rfl e58
 case h =>
  exact Z09 (Z1s rfl e59 rfl) (decide_eq_true rfl)
 intro a72 hE e60 kp
 replace e58 := kt kp e58
 refine sd 61 hE k (Z0b rfl e58 e60) ?_
 intro a73 hE e61 kp
 refine sd 62 hE k (Z03 rfl e61) ?_
 intro a74 hE e62 kp
 apply Z0o 63 hE k rfl (by rfl) (by rfl) rfl rfl e62
 case h =>
  simp [go_sem, ↓IntWalk.iteOmega]
  with_reducible exact ⟨rfl, rfl⟩
 case hc => exact Z0w [49, 50, 51, 52, 53, 54, 55] _ (by decide)
 rintro e w76 ⟨rfl, RE⟩
 replace O := OwnT.ext O RE
 refine ⟨_, rfl, ?_⟩
 intro a75 hE e63 kp
 replace e62 := kt kp e62
 apply Z02 64 hE k rfl rfl rfl rfl rfl e62
 case h =>
  exact Z09 (Z1s rfl e63 rfl) (decide_eq_true rfl)
 intro a77 hE e64 kp
 replace e62 := kt kp e62
 refine sd 65 hE k (Z0b rfl e62 e64) ?_
 intro a78 hE e65 kp
 refine sd 0 hE k (Z01 rfl e65) ?_
 intro a79 hE e0 kp
 refine wpList_nil ?_
 replace k := k.env hE
 clear hE e4 e5 e6 e7
 refine Z00 ?_
 refine wp_ret ?_
 refine Z0f rfl k e0 ?_
 exact ⟨rfl, O.below⟩
theorem TpI.mono {n c c' : Nat} {T : List Sec} {u : Nat} {want : List UInt8} {S : List Sec} {L : Int → Option Sec} {M : Mn} (h : TpI n c T u want S L M) (hc : c ≤ c') : TpI n c' T u want S L M :=
 ⟨h.le, h.len, h.wl, h.now, h.free, h.ok.mono (by omega)⟩
theorem TpI.add {n c u : Nat} {T : List Sec} {want x : List UInt8} {S : List Sec} {L : Int → Option Sec} {M : Mn} (h : TpI n c T u want S L M) (hS : S.length = n) (hx : x.length ≤ 600) (hk : szT x ≤ n - u) :
 TpI n (c + 100) (T ++ [x]) (u + szT x) (want ++ tapeL (T.length + 1) x) S (wrS (tapeL (T.length + 1) x) u L (szT x)) (M.useN (szT x)) := by
 have h1 := h.le
 have h2 := h.len
 have h3 := Z2v x
 have h4 : szT x ≤ 100 := by unfold szT; omega
 refine ⟨by omega, by rw [List.length_append]; simp only [List.length_cons, List.length_nil]; omega, by rw [List.length_append, h.wl, Z11]; omega, ?_, h.free.useN _, (h.ok.useN _).mono (by omega)⟩
 exact Z6i hS h.wl (Z11 _ _) (by omega) h.now
theorem tp_img {n u : Nat} {want : List UInt8} (hw : want.length = 16 * u) (hu : u ≤ n) : (tpS want n).flatten = want ++ List.replicate (16 * (n - u)) 0 := by
 rw [Z7v (by omega), hw, show 16 * n - 16 * u = 16 * (n - u) by omega]
set_option maxRecDepth 100000 in
set_option maxHeartbeats 4000000 in
theorem Z52 (A : Option Addr) (ca : Nat) (l : List UInt8) (xs : List Sec) (W0 : World) (r1 : Row1 W0 A (fun s => .string (sB s)) xs) : Calls Try.prog 3 #[.string (sB l), .slice A xs.length ca] W0 fun e w' => e = .returned (.bool true) ∧ Below W0.heap.size W0 w' := by
 have O := OwnT.start W0
 refine Z0a Try.func3 rfl 225 rfl (by rfl) ?_
 intro a1 k hargs
 have e0 : a1.eval (.tmp 0) = .string (sB l) := hargs 0 _ rfl
 have e1 : a1.eval (.tmp 1) = .slice A xs.length ca := hargs 1 _ rfl
 clear hargs
 refine wp_seq ?_
 refine wp_region_lit ?_
 have hE := Env.refl a1 [4]
 refine sd 4 hE k (Z01 rfl rfl) ?_
 intro a2 hE e4 kp
 refine wpList_nil ?_
 replace e0 := hE.g e0; replace e1 := hE.g e1
 replace k := k.env hE
 clear hE e4
 refine Z00 (wp_seq ?_)
 refine wp_seq ?_
 refine wp_region_lit ?_
 have hE := Env.refl a2 [19, 20]
 apply Z06 19 hE k rfl (by rfl) (by rfl) rfl
 case h =>
  simp [go_sem, ↓IntWalk.iteOmega]
  with_reducible exact ⟨rfl, rfl⟩
 case hc => exact awake39 _
 rintro e w4 ⟨rfl, RE⟩
 replace O := OwnT.ext O RE
 refine ⟨_, rfl, ?_⟩
 intro a3 hE e19 kp
 refine sd 20 hE k (Z4f rfl e19) ?_
 intro a5 hE e20 kp
 refine wpList_nil ?_
 replace e0 := hE.g e0; replace e1 := hE.g e1
 replace k := k.env hE
 clear hE
 refine Z00 ?_
 refine Z08 e20 rfl ?_
 refine wp_skip ?_
 refine Z00 ?_
 by_cases hl : l.length ≤ 2048
 rotate_left
 · skip
   refine wp_seq ?_
   refine wp_seq ?_
   refine wp_region_lit ?_
   have hE := Env.refl a5 [21, 22, 23, 24, 25, 26, 27, 28]
   refine zm 21 hE k e0 ?_
   intro a6 hE e21 kp
   refine sd 22 hE k (Z07 Try.underlying9 rfl e21) ?_
   intro a7 hE e22 kp
   refine sd 23 hE k (Z09 (Z0z rfl e22 rfl) (decide_eq_true (by omega))) ?_
   intro a8 hE e23 kp
   refine sd 24 hE k (Z03 rfl e23) ?_
   intro a9 hE e24 kp
   refine Z04 25 hE k rfl (by rfl) (by rfl) rfl rfl (.inl e24) ?_
   intro a10 hE e25 kp
   replace e24 := kt kp e24
   refine Z04 26 hE k rfl (by rfl) (by rfl) rfl rfl (.inl e24) ?_
   intro a11 hE e26 kp
   replace e24 := kt kp e24
   refine Z04 27 hE k rfl (by rfl) (by rfl) rfl rfl (.inl e24) ?_
   intro a12 hE e27 kp
   replace e24 := kt kp e24
   refine sd 28 hE k (Z0b rfl e24 rfl) ?_
   intro a13 hE e28 kp
   refine wpList_nil ?_
   replace e0 := hE.g e0; replace e1 := hE.g e1
   replace k := k.env hE
   clear hE e20
   refine Z00 ?_
   refine Z0h e28 rfl ?_
   refine wp_seq ?_
   refine wp_region_lit ?_
   have hE := Env.refl a13 [4]
   refine sd 4 hE k (Z01 rfl rfl) ?_
   intro a14 hE e4 kp
   refine wpList_nil ?_
   replace k := k.env hE
   clear hE e0 e1 e28
   refine Z00 ?_
   refine wp_ret ?_
   refine Z0n ?_
   refine Z0f rfl k e4 ?_
   exact ⟨rfl, O.below⟩
 by_cases hxl : xs.length ≤ 20
 rotate_left
 · skip
   refine wp_seq ?_
   refine wp_seq ?_
   refine wp_region_lit ?_
   have hE := Env.refl a5 [21, 22, 23, 24, 25, 26, 27, 28]
   refine zm 21 hE k e0 ?_
   intro a15 hE e21 kp
   refine sd 22 hE k (Z07 Try.underlying9 rfl e21) ?_
   intro a16 hE e22 kp
   refine sd 23 hE k (Z09 (Z0z rfl e22 rfl) (decide_eq_false (by omega))) ?_
   intro a17 hE e23 kp
   refine sd 24 hE k (Z03 rfl e23) ?_
   intro a18 hE e24 kp
   apply Z02 25 hE k rfl rfl rfl rfl rfl e24
   case h =>
    exact Z03 rfl (hE.g e1)
   intro a19 hE e25 kp
   replace e24 := kt kp e24
   apply Z02 26 hE k rfl rfl rfl rfl rfl e24
   case h =>
    exact Z1c Try.underlying22 rfl e25
   intro a20 hE e26 kp
   replace e24 := kt kp e24
   apply Z02 27 hE k rfl rfl rfl rfl rfl e24
   case h =>
    exact Z09 (Z0z rfl e26 rfl) (decide_eq_true (by omega))
   intro a21 hE e27 kp
   replace e24 := kt kp e24
   refine sd 28 hE k (Z0g rfl e24 e27) ?_
   intro a22 hE e28 kp
   refine wpList_nil ?_
   replace e0 := hE.g e0; replace e1 := hE.g e1
   replace k := k.env hE
   clear hE e20
   refine Z00 ?_
   refine Z0h e28 rfl ?_
   refine wp_seq ?_
   refine wp_region_lit ?_
   have hE := Env.refl a22 [4]
   refine sd 4 hE k (Z01 rfl rfl) ?_
   intro a23 hE e4 kp
   refine wpList_nil ?_
   replace k := k.env hE
   clear hE e0 e1 e28
   refine Z00 ?_
   refine wp_ret ?_
   refine Z0n ?_
   refine Z0f rfl k e4 ?_
   exact ⟨rfl, O.below⟩
 obtain ⟨n, hn⟩ : ∃ n, n = l.length / 16 := ⟨_, rfl⟩
 have hn128 : n ≤ 128 := by omega
 have hFll : (l.take (16 * n)).length = 16 * n := by rw [List.length_take]; omega
 have hsec := Z6y l hn
 obtain ⟨FL, hFL⟩ : ∃ FL, l.take (16 * n) = FL := ⟨_, rfl⟩
 rw [hFL] at hsec hFll

 refine wp_seq ?_
 refine wp_seq ?_
 refine wp_region_lit ?_
 have hE := Env.refl a5 [21, 22, 23, 24, 25, 26, 27, 28]
 refine zm 21 hE k e0 ?_
 intro a24 hE e21 kp
 refine sd 22 hE k (Z07 Try.underlying9 rfl e21) ?_
 intro a25 hE e22 kp
 refine sd 23 hE k (Z09 (Z0z rfl e22 rfl) (decide_eq_false (by omega))) ?_
 intro a26 hE e23 kp
 refine sd 24 hE k (Z03 rfl e23) ?_
 intro a27 hE e24 kp
 apply Z02 25 hE k rfl rfl rfl rfl rfl e24
 case h =>
  exact Z03 rfl (hE.g e1)
 intro a28 hE e25 kp
 replace e24 := kt kp e24
 apply Z02 26 hE k rfl rfl rfl rfl rfl e24
 case h =>
  exact Z1c Try.underlying22 rfl e25
 intro a29 hE e26 kp
 replace e24 := kt kp e24
 apply Z02 27 hE k rfl rfl rfl rfl rfl e24
 case h =>
  exact Z09 (Z0z rfl e26 rfl) (decide_eq_false (by omega))
 intro a30 hE e27 kp
 replace e24 := kt kp e24
 refine sd 28 hE k (Z0g rfl e24 e27) ?_
 intro a31 hE e28 kp
 refine wpList_nil ?_
 replace e0 := hE.g e0; replace e1 := hE.g e1
 replace k := k.env hE
 clear hE e20
 refine Z00 ?_
 refine Z08 e28 rfl ?_
 refine wp_skip ?_
 refine Z00 (wp_seq ?_)
 refine wp_region_lit ?_
 have hE := Env.refl a31 [29, 5]
 apply Z06 29 hE k rfl (by rfl) (by rfl) rfl
 case h =>
  simp [go_sem, ↓IntWalk.iteOmega]
  with_reducible exact ⟨rfl, rfl⟩
 case hc => exact new_mn O
 clear O
 rintro e w33 ⟨mb, rfl, O⟩
 refine ⟨_, rfl, ?_⟩
 intro a32 hE e29 kp
 refine sd 5 hE k (Z01 rfl e29) ?_
 intro a34 hE e5 kp
 refine wpList_nil ?_
 replace e0 := hE.g e0; replace e1 := hE.g e1
 replace k := k.env hE
 clear hE e28
 refine Z00 (wp_seq ?_)
 refine wp_region_lit ?_
 have hE := Env.refl a34 [30, 31, 32, 6]
 refine zm 30 hE k e5 ?_
 intro a35 hE e30 kp
 refine zm 31 hE k e0 ?_
 intro a36 hE e31 kp
 replace e30 := kt kp e30
 apply Z06 32 hE k rfl (by rfl) (by rfl) rfl
 case h =>
  simp [go_sem, ↓IntWalk.iteOmega, ev e30, ev e31]
  with_reducible exact ⟨rfl, rfl⟩
 case hc => exact Z7j l _ O (by omega)
 clear O
 rintro e w38 ⟨p, B, cap, bm, rfl, O⟩
 rw [show min (l.length / 16) 16384 = n by omega] at O
 refine ⟨_, rfl, ?_⟩
 intro a37 hE e32 kp
 refine sd 6 hE k (Z01 rfl e32) ?_
 intro a39 hE e6 kp
 refine wpList_nil ?_
 replace e0 := hE.g e0; replace e1 := hE.g e1
 replace k := k.env hE
 clear hE e5
 refine Z00 (wp_seq ?_)
 refine wp_region_lit ?_
 have hE := Env.refl a39 [33, 34, 35, 7]
 refine zm 33 hE k e0 ?_
 intro a40 hE e33 kp
 refine sd 34 hE k (Z07 Try.underlying9 rfl e33) ?_
 intro a41 hE e34 kp
 refine sd 35 hE k (Z1e (m := l.length) (j := 16) rfl e34 rfl rfl (by decide) (by omega)) ?_
 intro a42 hE e35 kp
 replace e35 := e35.trans (Z0e (show ((l.length / 16 : Nat) : Int) = (n : Int) by omega))
 refine sd 7 hE k (Z01 rfl e35) ?_
 intro a43 hE e7 kp
 refine wpList_nil ?_
 replace e0 := hE.g e0; replace e1 := hE.g e1; replace e6 := hE.g e6
 replace k := k.env hE
 clear hE
 refine Z00 (wp_seq ?_)
 refine wp_region_lit ?_
 have hE := Env.refl a43 [37, 38, 36, 39, 40, 8, 9]
 refine zm 37 hE k e6 ?_
 intro a44 hE e37 kp
 apply Z06 38 hE k rfl (by rfl) (by rfl) rfl
 case h =>
  simp [go_sem, ↓IntWalk.iteOmega, ev e37]
  with_reducible exact ⟨rfl, rfl⟩
 case hc => exact Z2u _ O mn0_ok (by decide) Z5t
 clear O
 rintro e w46 ⟨tb, T, u, Bt, ct, M, rfl, hT, hrd, hu, hF, hM, O⟩
 rw [hsec] at hT hrd O
 refine ⟨_, rfl, ?_⟩
 intro a45 hE e38 kp
 refine sd 36 hE k (Z03 rfl e38) ?_
 intro a47 hE e36 kp
 apply Z05 39 hE k rfl rfl rfl rfl
 case h =>
  simp [go_sem, ↓IntWalk.iteOmega, ev e36]
  with_reducible rfl
 intro a48 hE e39 kp
 replace e36 := kt kp e36
 apply Z05 40 hE k rfl rfl rfl rfl
 case h =>
  simp [go_sem, ↓IntWalk.iteOmega, ev e36]
  with_reducible rfl
 intro a49 hE e40 kp
 replace e39 := kt kp e39
 refine sd 8 hE k (Z01 rfl e39) ?_
 intro a50 hE e8 kp
 replace e40 := kt kp e40
 refine sd 9 hE k (Z01 rfl e40) ?_
 intro a51 hE e9 kp
 replace e8 := kt kp e8
 refine wpList_nil ?_
 replace e0 := hE.g e0; replace e1 := hE.g e1; replace e6 := hE.g e6; replace e7 := hE.g e7
 replace k := k.env hE
 clear hE
 refine Z00 (wp_seq ?_)
 refine wp_region_lit ?_
 have hE := Env.refl a51 [42, 43, 44, 45, 46, 41, 47, 48, 10, 11]
 refine zm 42 hE k e0 ?_
 intro a52 hE e42 kp
 refine zm 43 hE k e7 ?_
 intro a53 hE e43 kp
 replace e42 := kt kp e42
 refine sd 44 hE k (Z2n rfl rfl e43 (by omega)) ?_
 intro a54 hE e44 kp
 replace e42 := kt kp e42
 replace e44 := e44.trans (Z0e (show 16 * (n : Int) = ((16 * n : Nat) : Int) by omega))
 refine sd 45 hE k (Z2g (v := .string (sB FL)) (Z1w (l := l) Try.underlying9 rfl e42 e44 (16 * n) rfl (by omega)) (by rw [hFL])) ?_
 intro a55 hE e45 kp
 apply Z06 46 hE k rfl (by rfl) (by rfl) rfl
 case h =>
  simp [go_sem, ↓IntWalk.iteOmega, ev e45]
  with_reducible exact ⟨rfl, rfl⟩
 case hc => exact rtexts39 FL _ (by omega)
 rintro e w57 ⟨T2, u2, Bo, co, hrd2, -, rfl, hrow, RE⟩
 rw [hrd] at hrd2
 obtain ⟨rfl, rfl⟩ : T = T2 ∧ u = u2 := by injection hrd2 with h1 h2; exact ⟨h1, h2⟩
 replace O := OwnT.newRow O RE hrow
 refine ⟨_, rfl, ?_⟩
 intro a56 hE e46 kp
 refine sd 41 hE k (Z03 rfl e46) ?_
 intro a58 hE e41 kp
 apply Z05 47 hE k rfl rfl rfl rfl
 case h =>
  simp [go_sem, ↓IntWalk.iteOmega, ev e41]
  with_reducible rfl
 intro a59 hE e47 kp
 replace e41 := kt kp e41
 apply Z05 48 hE k rfl rfl rfl rfl
 case h =>
  simp [go_sem, ↓IntWalk.iteOmega, ev e41]
  with_reducible rfl
 intro a60 hE e48 kp
 replace e47 := kt kp e47
 refine sd 10 hE k (Z01 rfl e47) ?_
 intro a61 hE e10 kp
 replace e48 := kt kp e48
 refine sd 11 hE k (Z01 rfl e48) ?_
 intro a62 hE e11 kp
 replace e10 := kt kp e10
 refine wpList_nil ?_
 replace e0 := hE.g e0; replace e1 := hE.g e1; replace e6 := hE.g e6; replace e7 := hE.g e7; replace e8 := hE.g e8; replace e9 := hE.g e9
 replace k := k.env hE
 clear hE
 refine Z00 ?_
 replace O : OwnT _ _ ([tDisc p mb B n cap bm (tpS (FL.take (16 * u)) n) (fun _ => none), tMn mb M, tBlk tb 55 #[.pointer (some ⟨p, 0, none⟩), .slice Bt T.length ct, .int .i64 ↑u, .bool false], tRow 9 1 (.slice Bt T.length ct) T.length (strsV T), tRow 9 1 (.slice Bo T.length co) T.length (strsV T)]) w57 := OwnT.pick O [1, 2, 3, 4, 0] (by decide)
 have hTl := hT.len
 have hWt : FL.take (16 * u) = l.take (16 * u) := by rw [← hFL, List.take_take, Nat.min_eq_left (by omega)]
 obtain ⟨Wt, hW⟩ : ∃ Wt, l.take (16 * u) = Wt := ⟨_, rfl⟩
 rw [hWt, hW] at O
 have hwl : Wt.length = 16 * u := by rw [← hW, List.length_take]; omega
 have himg := tp_img hwl hu
 clear hsec hWt

 refine wp_seq ?_
 refine wp_seq ?_
 refine Z10 (R := Ext) (w0 := w57) [[], [0], [0, 1], [0, 1, 2], [0, 1, 2, 3], [0, 1, 2, 3, 4], [0, 1, 2, 3, 4, 5], [0, 1, 2, 3, 4, 5, 6], [0, 1, 2, 3, 4, 5, 6, 7], [0, 1, 2, 3, 4, 5, 6], [0, 1, 2, 3, 4, 5, 6, 7, 8, 9], [0, 1, 2, 3, 4, 5, 6, 7, 8, 9, 10], [0, 1, 2, 3, 4, 5, 6, 7, 8, 9, 10, 11], [0, 1, 2, 3, 4, 5, 6, 7, 8, 9, 10, 11, 12], [0, 1, 2, 3, 4, 5, 6, 7, 8, 9, 10, 11, 12, 13], [0, 1, 2, 3, 4, 5, 6, 7, 8, 9, 10, 11, 12, 13, 14], [0, 1, 2, 3, 4, 5, 6, 7, 8, 9, 10, 11, 12, 13], [0, 1, 2, 3, 4, 5, 6, 7, 8, 9, 10, 11, 12, 13], [0, 1, 2, 3, 4, 5, 6, 7, 8, 9, 10, 11, 12, 13, 16, 17], [0, 1, 2, 3, 4, 5, 6, 7, 8, 9, 10, 11, 12, 13, 14, 15, 16, 17, 18], [0, 1, 2, 3, 4, 5, 6, 7, 8, 9, 10, 11, 12, 13, 14, 15, 16, 17, 18, 19], [0, 1, 2, 3, 4, 5, 6, 7, 8, 9, 10, 11, 12, 13, 14, 15, 16, 17, 18, 19, 20], [0, 1, 2, 3, 4, 5, 6, 7, 8, 9, 10, 11, 12, 13, 14, 15, 16, 17, 18, 19, 20, 21], [0, 1, 2, 3, 4, 5, 6, 7, 8, 9, 10, 11, 12, 13, 14, 15, 16, 17, 18, 19, 20, 21, 22], [0, 1, 2, 3, 4, 5, 6, 7, 8, 9, 10, 11, 12, 13, 14, 15, 16, 17, 18, 19, 20, 21, 22, 23], [0, 1, 2, 3, 4, 5, 6, 7, 8, 9, 10, 11, 12, 13, 14, 15, 16, 17, 18, 19, 20, 21, 22, 23, 24], [0, 1, 2, 3, 4, 5, 6, 7, 8, 9, 10, 11, 12, 13, 14, 15, 16, 17, 18, 19, 20, 21, 22, 23, 24, 25], [0, 1, 2, 3, 4, 5, 6, 7, 8, 9, 10, 11, 12, 13, 14, 15, 16, 17, 18, 19, 20, 21, 22, 23, 24, 25, 26], [0, 1, 2, 3, 4, 5, 6, 7, 8, 9, 10, 11, 12, 13, 14, 15, 16, 17, 18, 19, 20, 21, 22, 23, 24, 25, 26, 27], [0, 1, 2, 3, 4, 5, 6, 7, 8, 9, 10, 11, 12, 13, 14, 15, 16, 17, 18, 19, 20, 21, 22, 23, 24, 25, 26, 27, 28], [0, 1, 2, 3, 4, 5, 6, 7, 8, 9, 10, 11, 12, 13, 14, 15, 16, 17, 18, 19, 20, 21, 22, 23, 24, 25, 26, 27], [0, 1, 2, 3, 4, 5, 6, 7, 8, 9, 10, 11, 12, 13, 14, 15, 16, 17, 18, 19, 20, 21, 22, 23, 24, 25, 26, 27], [0, 1, 2, 3, 4, 5, 6, 7, 8, 9, 10, 11, 12, 13, 14, 15, 16, 17, 18, 19, 20, 21, 22, 23, 24, 25, 26, 27, 31], [0, 1, 2, 3, 4, 5, 6, 7, 8, 9, 10, 11, 12, 13, 14, 15, 16, 17, 18, 19, 20, 21, 22, 23, 24, 25, 26, 27, 30, 31, 32], [0, 1, 2, 3, 4, 5, 6, 7, 8, 9, 10, 11, 12, 13, 14, 15, 16, 17, 18, 19, 20, 21, 22, 23, 24, 25, 26, 27], [0, 1, 2, 3, 4, 5, 6, 7, 8, 9, 10, 11, 12, 13, 14, 15, 16, 17, 18, 19, 20, 21, 22, 23, 24, 25, 26, 27], [0, 1, 2, 3, 4, 5, 6, 7, 8, 9, 10, 11, 12, 13, 14, 15, 16, 17, 18, 19, 20, 21, 22, 23, 24, 25, 26, 27, 34, 35], [0, 1, 2, 3, 4, 5, 6, 7, 8, 9, 10, 11, 12, 13, 14, 15, 16, 17, 18, 19, 20, 21, 22, 23, 24, 25, 26, 27, 28, 29, 34, 35, 36], [0, 1, 2, 3, 4, 5, 6, 7, 8, 9, 10, 11, 12, 13, 14, 15, 16, 17, 18, 19, 20, 21, 22, 23, 24, 25, 26, 27, 28, 29, 30, 31, 32, 33, 34, 35, 36, 37], [0, 1, 2, 3, 4, 5, 6, 7, 8, 9, 10, 11, 12, 13, 14, 15, 16, 17, 18, 19, 20, 21, 22, 23, 24, 25, 26, 27, 28, 29, 30, 31, 32, 33, 34, 35, 36, 37, 38], [0, 1, 2, 3, 4, 5, 6, 7, 8, 9, 10, 11, 12, 13, 14, 15, 16, 17, 18, 19, 20, 21, 22, 23, 24, 25, 26, 27, 28, 29, 30, 31, 32, 33, 34, 35, 36, 37, 38, 39]] [49, 50, 51, 52, 53, 54, 55, 56, 57, 58, 59, 60, 61, 62, 63, 64, 65, 66, 67, 68, 69, 70, 71, 72, 73, 74, 75, 76, 77, 78, 79, 80, 81, 82, 83, 84, 85, 86, 87, 88, 89] Ext.refl (fun _ _ _ => Ext.trans) (Ext.drew _) (by kernel_rfl) ?_
 apply bd 49 k rfl rfl rfl
 case h =>
  intro ax wx hE hR hF
  exact Z03 rfl (hE.g e9)
 apply bd 50 k rfl rfl rfl
 case h =>
  intro ax wx hE hR hF
  have e49 := zhF hF 0 49 ml0
  exact Z09 (Z15 rfl e49 rfl) (decide_eq_false (by omega))
 apply bd 51 k rfl rfl rfl
 case h =>
  intro ax wx hE hR hF
  have e50 := zhF hF 1 50 ml0
  exact Z03 rfl e50
 apply bdg 52 k rfl rfl rfl rfl
 case h =>
  intro ax wx hE hR hF
  have e51 := zhF hF 2 51 ml0
  refine ⟨e51, ?_⟩
  exact Z03 rfl (hE.g e8)
 apply bdg 53 k rfl rfl rfl rfl
 case h =>
  intro ax wx hE hR hF
  have e52 := zhF hF 3 52 ml0
  have e51 := zhF hF 2 51 ml1
  refine ⟨e51, ?_⟩
  simp [go_sem, ↓IntWalk.iteOmega, ev e52]
  with_reducible rfl
 apply bd 54 k rfl rfl rfl
 case h =>
  intro ax wx hE hR hF
  have e51 := zhF hF 2 51 ml2
  have e53 := zhF hF 4 53 ml0
  exact Z0g rfl e51 e53
 apply bd 55 k rfl rfl rfl
 case h =>
  intro ax wx hE hR hF
  have e54 := zhF hF 5 54 ml0
  exact Z03 rfl e54
 apply bdg 56 k rfl rfl rfl rfl
 case h =>
  intro ax wx hE hR hF
  have e55 := zhF hF 6 55 ml0
  refine ⟨e55, ?_⟩
  exact Z03 rfl (hE.g e8)
 apply Build.callnewg 57 (fun v w => ∃ Bz cz, v = .slice Bz T.length cz ∧ StrsR w Bz cz T) (fun v w w' hR h => by obtain ⟨Bz, cz, e, h⟩ := h; exact ⟨Bz, cz, e, h.below hR⟩) Ext.refl (by rfl) (by rw [k.size]; rfl) rfl rfl
 case h =>
  intro ax wx hE hR hF
  have e56 := zhF hF 7 56 ml0
  have e55 := zhF hF 6 55 ml1
  refine ⟨e55, ?_⟩
  simp [go_sem, ↓IntWalk.iteOmega, ev e56]
  with_reducible exact ⟨rfl, rfl⟩
 case hc => exact fun wx hR => (Z1r wx (Z16 (OwnT.get (OwnT.ext O hR) 3 rfl)) (OwnT.blk (OwnT.ext O hR) 2 rfl) (by omega)).mono (fun e w' ⟨Bz, cz, h1, h2, h3⟩ => ⟨_, h1, h3, Bz, cz, rfl, Z16 h2⟩)
 apply bdg 58 k rfl rfl rfl rfl
 case h =>
  intro ax wx hE hR hF
  have e55 := zhF hF 6 55 ml2
  refine ⟨e55, ?_⟩
  exact Z03 rfl (hE.g e10)
 apply Build.callxg 59 Ext.refl (by rfl) (by rw [k.size]; rfl) rfl rfl
 case h =>
  intro ax wx hE hR hF
  have f57 := hF 8 _ (by decide) ml1
  have e58 := zhF hF 9 58 ml0
  have e55 := zhF hF 6 55 ml3
  refine ⟨e55, ?_⟩
  obtain ⟨Bz, cz, e57, hst⟩ := f57
  refine ⟨_, _, ?_, (same39 wx hst (Z16 (OwnT.get (OwnT.ext O hR) 4 rfl)) (by omega) (by omega)).mono (fun e w' h => ⟨h.1.trans (congrArg (fun b => Ending.returned (.bool b)) (decide_eq_true rfl)), h.2⟩)⟩
  simp [go_sem, ↓IntWalk.iteOmega, ev e57, ev e58]
 apply bdg 60 k rfl rfl rfl rfl
 case h =>
  intro ax wx hE hR hF
  have e59 := zhF hF 10 59 ml0
  have e55 := zhF hF 6 55 ml4
  refine ⟨e55, ?_⟩
  exact Z4f rfl e59
 apply bd 61 k rfl rfl rfl
 case h =>
  intro ax wx hE hR hF
  have e55 := zhF hF 6 55 ml5
  have e60 := zhF hF 11 60 ml0
  exact Z0g rfl e55 e60
 apply bd 62 k rfl rfl rfl
 case h =>
  intro ax wx hE hR hF
  have e61 := zhF hF 12 61 ml0
  exact Z03 rfl e61
 apply bdg 63 k rfl rfl rfl rfl
 case h =>
  intro ax wx hE hR hF
  have e62 := zhF hF 13 62 ml0
  refine ⟨e62, ?_⟩
  exact Z03 rfl (hE.g e8)
 apply Build.callg 64 Ext.refl (by rfl) (by rw [k.size]; rfl) rfl rfl
 case h =>
  intro ax wx hE hR hF
  have e63 := zhF hF 14 63 ml0
  have e62 := zhF hF 13 62 ml1
  refine ⟨e62, ?_⟩
  simp [go_sem, ↓IntWalk.iteOmega, ev e63]
  with_reducible exact ⟨rfl, rfl⟩
 case hc => intro wx hR; exact Z1m wx (OwnT.disc (OwnT.ext O hR)) (OwnT.blk (OwnT.ext O hR) 2 rfl) hu
 apply bdg 65 k rfl rfl rfl rfl
 case h =>
  intro ax wx hE hR hF
  have e62 := zhF hF 13 62 ml2
  refine ⟨e62, ?_⟩
  exact Z03 rfl (hE.g e7)
 apply bdg 66 k rfl rfl rfl rfl
 case h =>
  intro ax wx hE hR hF
  have e62 := zhF hF 13 62 ml3
  refine ⟨e62, ?_⟩
  exact Z03 rfl (hE.g e11)
 apply bdg 67 k rfl rfl rfl rfl
 case h =>
  intro ax wx hE hR hF
  have e65 := zhF hF 16 65 ml1
  have e66 := zhF hF 17 66 ml0
  have e62 := zhF hF 13 62 ml4
  refine ⟨e62, ?_⟩
  exact Z2g (v := .int .i64 ↑(n - u)) (Z2m rfl e65 e66 (by omega)) (Z0e (by omega))
 apply bdg 68 k rfl rfl rfl rfl
 case h =>
  intro ax wx hE hR hF
  have e64 := zhF hF 15 64 ml3
  have e67 := zhF hF 18 67 ml0
  have e62 := zhF hF 13 62 ml5
  refine ⟨e62, ?_⟩
  exact Z09 (Z15 rfl e64 e67) (decide_eq_false (by omega))
 apply bd 69 k rfl rfl rfl
 case h =>
  intro ax wx hE hR hF
  have e62 := zhF hF 13 62 ml6
  have e68 := zhF hF 19 68 ml0
  exact Z0g rfl e62 e68
 apply bd 70 k rfl rfl rfl
 case h =>
  intro ax wx hE hR hF
  have e69 := zhF hF 20 69 ml0
  exact Z03 rfl e69
 apply bdg 71 k rfl rfl rfl rfl
 case h =>
  intro ax wx hE hR hF
  have e70 := zhF hF 21 70 ml0
  refine ⟨e70, ?_⟩
  exact Z03 rfl (hE.g e6)
 apply Build.callnewg 72 (fun v w => ∃ Bz cz, v = .slice Bz 0 cz) (fun v w w' hR h => h) Ext.refl (by rfl) (by rw [k.size]; rfl) rfl rfl
 case h =>
  intro ax wx hE hR hF
  have e71 := zhF hF 22 71 ml0
  have e70 := zhF hF 21 70 ml1
  refine ⟨e70, ?_⟩
  simp [go_sem, ↓IntWalk.iteOmega, ev e71]
  with_reducible exact ⟨rfl, rfl⟩
 case hc => exact fun wx hR => (Z6c wx (OwnT.disc (OwnT.ext O hR))).mono (fun e w' ⟨Bz, cz, h1, _, _, _, _, h3⟩ => ⟨_, h1, h3, Bz, cz, by rw [looL_no]; rfl⟩)
 apply bdg 73 k rfl rfl rfl rfl
 case h =>
  intro ax wx hE hR hF
  have f72 := hF 23 _ (by decide) ml0
  have e70 := zhF hF 21 70 ml2
  refine ⟨e70, ?_⟩
  obtain ⟨Bz, cz, e72⟩ := f72
  exact Z1c Try.underlying37 rfl e72
 apply bdg 74 k rfl rfl rfl rfl
 case h =>
  intro ax wx hE hR hF
  have e73 := zhF hF 24 73 ml0
  have e70 := zhF hF 21 70 ml3
  refine ⟨e70, ?_⟩
  exact Z09 (Z15 rfl e73 rfl) (decide_eq_false (fun h => h rfl))
 apply bd 75 k rfl rfl rfl
 case h =>
  intro ax wx hE hR hF
  have e70 := zhF hF 21 70 ml4
  have e74 := zhF hF 25 74 ml0
  exact Z0g rfl e70 e74
 apply bd 76 k rfl rfl rfl
 case h =>
  intro ax wx hE hR hF
  have e75 := zhF hF 26 75 ml0
  exact Z03 rfl e75
 apply bdg 77 k rfl rfl rfl rfl
 case h =>
  intro ax wx hE hR hF
  have e76 := zhF hF 27 76 ml0
  refine ⟨e76, ?_⟩
  exact Z03 rfl (hE.g e6)
 apply Build.callg 78 Ext.refl (by rfl) (by rw [k.size]; rfl) rfl rfl
 case h =>
  intro ax wx hE hR hF
  have e77 := zhF hF 28 77 ml0
  have e76 := zhF hF 27 76 ml1
  refine ⟨e76, ?_⟩
  simp [go_sem, ↓IntWalk.iteOmega, ev e77]
  with_reducible exact ⟨rfl, rfl⟩
 case hc => intro wx hR; exact (show Calls _ _ _ _ (fun e w' => e = .returned (.string (sB (Wt ++ List.replicate (16 * (n - u)) 0))) ∧ Ext wx w') from (Z3t wx (OwnT.disc (OwnT.ext O hR))).mono (fun e w' h => ⟨h.1.trans (by rw [himg]), h.2⟩))
 apply bdg 79 k rfl rfl rfl rfl
 case h =>
  intro ax wx hE hR hF
  have e76 := zhF hF 27 76 ml2
  refine ⟨e76, ?_⟩
  exact Z03 rfl (hE.g e0)
 apply bdg 80 k rfl rfl rfl rfl
 case h =>
  intro ax wx hE hR hF
  have e76 := zhF hF 27 76 ml3
  refine ⟨e76, ?_⟩
  exact Z03 rfl (hE.g e11)
 apply bdg 81 k rfl rfl rfl rfl
 case h =>
  intro ax wx hE hR hF
  have e80 := zhF hF 31 80 ml0
  have e76 := zhF hF 27 76 ml4
  refine ⟨e76, ?_⟩
  exact Z2g (v := .int .i64 ↑(16 * u)) (Z2n rfl rfl e80 (by omega)) (Z0e (by omega))
 apply bdg 82 k rfl rfl rfl rfl
 case h =>
  intro ax wx hE hR hF
  have e79 := zhF hF 30 79 ml2
  have e81 := zhF hF 32 81 ml0
  have e76 := zhF hF 27 76 ml5
  refine ⟨e76, ?_⟩
  exact Z2g (v := .string (sB Wt)) (Z1w (l := l) Try.underlying9 rfl e79 e81 (16 * u) rfl (by omega)) (by rw [hW])
 apply bdg 83 k rfl rfl rfl rfl
 case h =>
  intro ax wx hE hR hF
  have e76 := zhF hF 27 76 ml6
  refine ⟨e76, ?_⟩
  exact Z03 rfl (hE.g e7)
 apply bdg 84 k rfl rfl rfl rfl
 case h =>
  intro ax wx hE hR hF
  have e76 := zhF hF 27 76 ml7
  refine ⟨e76, ?_⟩
  exact Z03 rfl (hE.g e11)
 apply bdg 85 k rfl rfl rfl rfl
 case h =>
  intro ax wx hE hR hF
  have e83 := zhF hF 34 83 ml1
  have e84 := zhF hF 35 84 ml0
  have e76 := zhF hF 27 76 ml8
  refine ⟨e76, ?_⟩
  exact Z2g (v := .int .i64 ↑(n - u)) (Z2m rfl e83 e84 (by omega)) (Z0e (by omega))
 apply Build.callg 86 Ext.refl (by rfl) (by rw [k.size]; rfl) rfl rfl
 case h =>
  intro ax wx hE hR hF
  have e85 := zhF hF 36 85 ml0
  have e76 := zhF hF 27 76 ml9
  refine ⟨e76, ?_⟩
  simp [go_sem, ↓IntWalk.iteOmega, ev e85]
  with_reducible exact ⟨rfl, rfl⟩
 case hc => intro wx hR; exact Z3e (↑(n - u)) (n - u) wx (by omega)
 apply bdg 87 k rfl rfl rfl rfl
 case h =>
  intro ax wx hE hR hF
  have e82 := zhF hF 33 82 ml4
  have e86 := zhF hF 37 86 ml0
  have e76 := zhF hF 27 76 ml10
  refine ⟨e76, ?_⟩
  exact Z4z (l := Wt) (m := List.replicate (16 * (n - u)) 0) rfl e82 e86 (by rw [hwl, List.length_replicate]; omega)
 apply bdg 88 k rfl rfl rfl rfl
 case h =>
  intro ax wx hE hR hF
  have e78 := zhF hF 29 78 ml9
  have e87 := zhF hF 38 87 ml0
  have e76 := zhF hF 27 76 ml11
  refine ⟨e76, ?_⟩
  exact Z09 (Z4x (l := Wt ++ List.replicate (16 * (n - u)) 0) (m := Wt ++ List.replicate (16 * (n - u)) 0) rfl e78 e87) (decide_eq_false (fun h => h rfl))
 apply bd 89 k rfl rfl rfl
 case h =>
  intro ax wx hE hR hF
  have e76 := zhF hF 27 76 ml12
  have e88 := zhF hF 39 88 ml0
  exact Z0g rfl e76 e88
 apply Build.stop
 refine ⟨by kernel_rfl, .inl ⟨rfl, ?_⟩⟩
 intro a63 w64 hE R hF
 have e89 : a63.eval (.tmp 89) = _ := hF 40 (det 89 _) ml0
 clear hF
 replace O := OwnT.ext O R
 clear R
 replace e0 := hE.g e0; replace e1 := hE.g e1; replace e6 := hE.g e6; replace e7 := hE.g e7; replace e8 := hE.g e8; replace e10 := hE.g e10; replace e11 := hE.g e11
 replace k := k.env hE
 clear hE e9
 refine Z00 ?_
 refine Z08 e89 rfl ?_
 refine wp_skip ?_
 refine Z00 (wp_seq ?_)
 refine wp_region_lit ?_
 have hE := Env.refl a63 [90, 91, 92, 93, 12]
 refine zm 90 hE k e0 ?_
 intro a65 hE e90 kp
 refine zm 91 hE k e11 ?_
 intro a66 hE e91 kp
 replace e90 := kt kp e90
 refine sd 92 hE k (Z2n rfl rfl e91 (by omega)) ?_
 intro a67 hE e92 kp
 replace e90 := kt kp e90
 replace e92 := e92.trans (Z0e (show 16 * (u : Int) = ((16 * u : Nat) : Int) by omega))
 refine sd 93 hE k (Z2g (v := .string (sB Wt)) (Z1w (l := l) Try.underlying9 rfl e90 e92 (16 * u) rfl (by omega)) (by rw [hW])) ?_
 intro a68 hE e93 kp
 refine sd 12 hE k (Z01 rfl e93) ?_
 intro a69 hE e12 kp
 refine wpList_nil ?_
 replace e1 := hE.g e1; replace e6 := hE.g e6; replace e7 := hE.g e7; replace e8 := hE.g e8; replace e10 := hE.g e10
 replace k := k.env hE
 clear hE e0 e11 e89
 refine Z00 (wp_seq ?_)
 refine wp_seq ?_
 refine wp_region_lit ?_
 have hE := Env.refl a69 [13]
 refine sd 13 hE k (Z01 rfl rfl) ?_
 intro a70 hE e13 kp
 refine wpList_nil ?_
 replace e1 := hE.g e1; replace e6 := hE.g e6; replace e7 := hE.g e7; replace e8 := hE.g e8; replace e10 := hE.g e10; replace e12 := hE.g e12
 replace k := k.env hE
 clear hE
 refine Z00 ?_
 refine wp_block ?_
 refine wp_loop (fun a w => Fr 225 a ∧ a.eval (.tmp 1) = .slice A xs.length ca ∧ a.eval (.tmp 6) = .pointer (some ⟨p, 0, none⟩) ∧ a.eval (.tmp 7) = .int .i64 ↑n ∧ a.eval (.tmp 8) = .pointer (some ⟨tb, 0, none⟩) ∧ ∃ (i : Nat) (T : List (List UInt8)) (u : Nat) (want : List UInt8) (L : Int → Option Sec) (M : Mn) (Bt : Option Addr) (ct : Nat) (Bo : Option Addr) (co : Nat), a.eval (.tmp 10) = .slice Bo T.length co ∧ a.eval (.tmp 12) = .string (sB want) ∧ a.eval (.tmp 13) = .int .i64 ↑i ∧ i ≤ xs.length ∧ TpI n (300 + 100 * i) T u want (tpS Wt n) L M ∧ OwnT W0.heap.size W0 ([tDisc p mb B n cap bm (tpS Wt n) L, tMn mb M, tBlk tb 55 #[.pointer (some ⟨p, 0, none⟩), .slice Bt T.length ct, .int .i64 ↑u, .bool false], tRow 9 1 (.slice Bt T.length ct) T.length (strsV T), tRow 9 1 (.slice Bo T.length co) T.length (strsV T)]) w) (fun a w => xs.length - (intOf (a.eval (.tmp 13))).toNat) ?_ ?_
 · exact ⟨k, e1, e6, e7, e8, 0, T, u, Wt, fun _ => none, M, Bt, ct, Bo, co, e10, e12, e13, Nat.zero_le _, ⟨hu, hTl, hwl, by rw [Z21], hF, hM.mono (by omega)⟩, O⟩
 intro a71 w72 hI
 clear k e1 e6 e7 e8
 obtain ⟨k, e1, e6, e7, e8, h_⟩ := hI
 clear O e10 e12 e13 hu hTl hwl hF hM hT hrd himg hrow hW
 obtain ⟨i, T, u, want, L, M, Bt, ct, Bo, co, e10, e12, e13, hi, hI, O⟩ := h_
 have mi := e13
 have hu := hI.le
 have hTl := hI.len
 have hwl := hI.wl
 have hF := hI.free
 have hM := hI.ok

 refine wp_seq ?_
 refine wp_seq ?_
 refine wp_region_lit ?_
 have hE := Env.refl a71 [94, 95, 96, 97]
 refine zm 94 hE k e13 ?_
 intro a73 hE e94 kp
 refine zm 95 hE k e1 ?_
 intro a74 hE e95 kp
 replace e94 := kt kp e94
 refine sd 96 hE k (Z1c Try.underlying22 rfl e95) ?_
 intro a75 hE e96 kp
 replace e94 := kt kp e94
 refine sd 97 hE k (Z5z rfl e94 e96) ?_
 intro a76 hE e97 kp
 refine wpList_nil ?_
 replace e1 := hE.g e1; replace e6 := hE.g e6; replace e7 := hE.g e7; replace e8 := hE.g e8; replace e10 := hE.g e10; replace e12 := hE.g e12; replace e13 := hE.g e13
 replace k := k.env hE
 clear hE
 refine Z00 ?_
 by_cases hlt : i < xs.length
 · have hltI : (i : Int) < (xs.length : Int) := by omega
   refine Z0h e97 (congrArg Value.bool (decide_eq_true (by omega))) ?_
   clear e97
   obtain ⟨x, hx⟩ : ∃ x, xs[i]? = some x := ⟨_, List.getElem?_eq_getElem hlt⟩
   obtain ⟨b, o, hA, -⟩ := Z6u r1 (Below.refl W0.heap.size W0) hx
   have cw : ∀ w, Below W0.heap.size W0 w → w.cell? ⟨b, o + i, none⟩ = some (.string (sB x)) := fun w hb => by
    obtain ⟨b', o', e, h⟩ := Z6u r1 hb hx
    rw [hA] at e
    injection e with e
    injection e with e1 e2
    subst e1 e2
    exact h
   subst hA

   by_cases h700 : 700 < x.length
   · skip
     refine wp_skip ?_
     refine Z00 (wp_seq ?_)
     refine wp_block ?_
     refine wp_seq ?_
     refine wp_seq ?_
     refine wp_region_lit ?_
     have hE := Env.refl a76 [100, 101, 102, 103, 104, 105]
     refine zm 100 hE k e1 ?_
     intro a77 hE e100 kp
     refine zm 101 hE k e13 ?_
     intro a78 hE e101 kp
     replace e100 := kt kp e100
     apply Z05 102 hE k rfl rfl rfl rfl
     case h =>
      simp [go_sem, ↓IntWalk.iteOmega, ev e100, ev e101]
      with_reducible rfl
     intro a79 hE e102 kp
     apply Z05 103 hE k rfl rfl rfl rfl
     case h =>
      simp [go_sem, ↓IntWalk.iteOmega, ev e102, cw _ O.below]
      with_reducible rfl
     intro a80 hE e103 kp
     refine sd 104 hE k (Z07 Try.underlying9 rfl e103) ?_
     intro a81 hE e104 kp
     refine sd 105 hE k (Z09 (Z0z rfl e104 rfl) (decide_eq_true (by omega))) ?_
     intro a82 hE e105 kp
     refine wpList_nil ?_
     replace e1 := hE.g e1; replace e6 := hE.g e6; replace e7 := hE.g e7; replace e8 := hE.g e8; replace e10 := hE.g e10; replace e12 := hE.g e12; replace e13 := hE.g e13
     replace k := k.env hE
     clear hE
     refine Z00 ?_
     refine Z0h e105 rfl ?_
     refine wp_seq ?_
     refine wp_region_lit ?_
     have hE := Env.refl a82 [4]
     refine sd 4 hE k (Z01 rfl rfl) ?_
     intro a83 hE e4 kp
     refine wpList_nil ?_
     replace k := k.env hE
     clear hE e1 e6 e7 e8 e10 e12 e13 e105
     refine Z00 ?_
     refine wp_ret ?_
     refine Z0n ?_
     refine Z1a ?_
     refine Z0n ?_
     refine Z0n ?_
     refine Z1a ?_
     refine Z0n ?_
     refine Z0f rfl k e4 ?_
     exact ⟨rfl, O.below⟩
   · skip
     by_cases hlong : 600 < x.length
     · skip
       refine wp_skip ?_
       refine Z00 (wp_seq ?_)
       refine wp_block ?_
       refine wp_seq ?_
       refine wp_seq ?_
       refine wp_region_lit ?_
       have hE := Env.refl a76 [100, 101, 102, 103, 104, 105]
       refine zm 100 hE k e1 ?_
       intro a84 hE e100 kp
       refine zm 101 hE k e13 ?_
       intro a85 hE e101 kp
       replace e100 := kt kp e100
       apply Z05 102 hE k rfl rfl rfl rfl
       case h =>
        simp [go_sem, ↓IntWalk.iteOmega, ev e100, ev e101]
        with_reducible rfl
       intro a86 hE e102 kp
       apply Z05 103 hE k rfl rfl rfl rfl
       case h =>
        simp [go_sem, ↓IntWalk.iteOmega, ev e102, cw _ O.below]
        with_reducible rfl
       intro a87 hE e103 kp
       refine sd 104 hE k (Z07 Try.underlying9 rfl e103) ?_
       intro a88 hE e104 kp
       refine sd 105 hE k (Z09 (Z0z rfl e104 rfl) (decide_eq_false (by omega))) ?_
       intro a89 hE e105 kp
       refine wpList_nil ?_
       replace e1 := hE.g e1; replace e6 := hE.g e6; replace e7 := hE.g e7; replace e8 := hE.g e8; replace e10 := hE.g e10; replace e12 := hE.g e12; replace e13 := hE.g e13
       replace k := k.env hE
       clear hE
       refine Z00 ?_
       refine Z08 e105 rfl ?_
       refine wp_skip ?_
       refine Z00 (wp_seq ?_)
       refine wp_region_lit ?_
       have hE := Env.refl a89 [106, 107, 108, 109, 110, 111, 14]
       refine zm 106 hE k e8 ?_
       intro a90 hE e106 kp
       refine zm 107 hE k e1 ?_
       intro a91 hE e107 kp
       replace e106 := kt kp e106
       refine zm 108 hE k e13 ?_
       intro a92 hE e108 kp
       replace e106 := kt kp e106; replace e107 := kt kp e107
       apply Z05 109 hE k rfl rfl rfl rfl
       case h =>
        simp [go_sem, ↓IntWalk.iteOmega, ev e107, ev e108]
        with_reducible rfl
       intro a93 hE e109 kp
       replace e106 := kt kp e106
       apply Z05 110 hE k rfl rfl rfl rfl
       case h =>
        simp [go_sem, ↓IntWalk.iteOmega, ev e109, cw _ O.below]
        with_reducible rfl
       intro a94 hE e110 kp
       replace e106 := kt kp e106
       apply Z06 111 hE k rfl (by rfl) (by rfl) rfl
       case h =>
        simp [go_sem, ↓IntWalk.iteOmega, ev e106, ev e110]
        with_reducible exact ⟨rfl, rfl⟩
       case hc => exact Z6s (c := 0) x _ O hu hTl hlong (by omega)
       clear O
       rintro e w96 ⟨rfl, O⟩
       refine ⟨_, rfl, ?_⟩
       intro a95 hE e111 kp
       refine sd 14 hE k (Z01 rfl e111) ?_
       intro a97 hE e14 kp
       refine wpList_nil ?_
       replace e1 := hE.g e1; replace e6 := hE.g e6; replace e7 := hE.g e7; replace e8 := hE.g e8; replace e10 := hE.g e10; replace e12 := hE.g e12; replace e13 := hE.g e13
       replace k := k.env hE
       clear hE e105
       refine Z00 (wp_seq ?_)
       refine wp_seq ?_
       refine Z10 (R := Ext) (w0 := w96) [[], [], [0, 1], [0, 1, 2], [0, 1, 2, 3], [], [], [5, 6], [5, 6, 7], [0, 1, 2, 3, 4, 5, 6, 7, 8], [0, 1, 2, 3, 4, 5, 6, 7, 8, 9]] [112, 113, 114, 115, 116, 117, 118, 119, 120, 121, 122] Ext.refl (fun _ _ _ => Ext.trans) (Ext.drew _) (by kernel_rfl) ?_
       apply bd 112 k rfl rfl rfl
       case h =>
        intro ax wx hE hR hF
        exact Z03 rfl (hE.g e1)
       apply bd 113 k rfl rfl rfl
       case h =>
        intro ax wx hE hR hF
        exact Z03 rfl (hE.g e13)
       apply bd 114 k rfl rfl rfl
       case h =>
        intro ax wx hE hR hF
        have e112 := zhF hF 0 112 ml1
        have e113 := zhF hF 1 113 ml0
        simp [go_sem, ↓IntWalk.iteOmega, ev e112, ev e113]
        with_reducible rfl
       apply bd 115 k rfl rfl rfl
       case h =>
        intro ax wx hE hR hF
        have e114 := zhF hF 2 114 ml0
        simp [go_sem, ↓IntWalk.iteOmega, ev e114, cw _ (OwnT.ext O hR).below]
        with_reducible rfl
       apply Build.call 116 Ext.refl (by rfl) (by rw [k.size]; rfl) rfl
       case h =>
        intro ax wx hE hR hF
        have e115 := zhF hF 3 115 ml0
        simp [go_sem, ↓IntWalk.iteOmega, ev e115]
        with_reducible exact ⟨rfl, rfl⟩
       case hc => intro wx hR; exact Z0w x wx (by omega)
       apply bd 117 k rfl rfl rfl
       case h =>
        intro ax wx hE hR hF
        exact Z03 rfl (hE.g e1)
       apply bd 118 k rfl rfl rfl
       case h =>
        intro ax wx hE hR hF
        exact Z03 rfl (hE.g e13)
       apply bd 119 k rfl rfl rfl
       case h =>
        intro ax wx hE hR hF
        have e117 := zhF hF 5 117 ml1
        have e118 := zhF hF 6 118 ml0
        simp [go_sem, ↓IntWalk.iteOmega, ev e117, ev e118]
        with_reducible rfl
       apply bd 120 k rfl rfl rfl
       case h =>
        intro ax wx hE hR hF
        have e119 := zhF hF 7 119 ml0
        simp [go_sem, ↓IntWalk.iteOmega, ev e119, cw _ (OwnT.ext O hR).below]
        with_reducible rfl
       apply Build.call 121 Ext.refl (by rfl) (by rw [k.size]; rfl) rfl
       case h =>
        intro ax wx hE hR hF
        have e120 := zhF hF 8 120 ml0
        simp [go_sem, ↓IntWalk.iteOmega, ev e120]
        with_reducible exact ⟨rfl, rfl⟩
       case hc => intro wx hR; exact (rsize39 x wx (by omega)).mono (fun e w' h => (⟨h.1, by rw [h.2]; exact Ext.refl _⟩ : e = .returned (.int .i64 ((szT x : Nat) : Int)) ∧ Ext wx w'))
       apply bd 122 k rfl rfl rfl
       case h =>
        intro ax wx hE hR hF
        have e116 := zhF hF 4 116 ml5
        have e121 := zhF hF 9 121 ml0
        exact Z09 (Z15 rfl e116 e121) (decide_eq_false (by omega))
       apply Build.stop
       refine ⟨by kernel_rfl, .inl ⟨rfl, ?_⟩⟩
       intro a98 w99 hE R hF
       have e122 : a98.eval (.tmp 122) = _ := hF 10 (det 122 _) ml0
       clear hF
       replace O := OwnT.ext O R
       clear R
       replace e1 := hE.g e1; replace e6 := hE.g e6; replace e7 := hE.g e7; replace e8 := hE.g e8; replace e10 := hE.g e10; replace e12 := hE.g e12; replace e13 := hE.g e13; replace e14 := hE.g e14
       replace k := k.env hE
       clear hE
       refine Z00 ?_
       refine Z08 e122 rfl ?_
       refine wp_skip ?_
       refine Z00 (wp_seq ?_)
       refine wp_seq ?_
       refine wp_region_lit ?_
       have hE := Env.refl a98 [123, 124, 125, 126, 127, 128]
       refine zm 123 hE k e1 ?_
       intro a100 hE e123 kp
       refine zm 124 hE k e13 ?_
       intro a101 hE e124 kp
       replace e123 := kt kp e123
       apply Z05 125 hE k rfl rfl rfl rfl
       case h =>
        simp [go_sem, ↓IntWalk.iteOmega, ev e123, ev e124]
        with_reducible rfl
       intro a102 hE e125 kp
       apply Z05 126 hE k rfl rfl rfl rfl
       case h =>
        simp [go_sem, ↓IntWalk.iteOmega, ev e125, cw _ O.below]
        with_reducible rfl
       intro a103 hE e126 kp
       refine sd 127 hE k (Z07 Try.underlying9 rfl e126) ?_
       intro a104 hE e127 kp
       refine sd 128 hE k (Z09 (Z0z rfl e127 rfl) (decide_eq_true (by omega))) ?_
       intro a105 hE e128 kp
       refine wpList_nil ?_
       replace e1 := hE.g e1; replace e6 := hE.g e6; replace e7 := hE.g e7; replace e8 := hE.g e8; replace e10 := hE.g e10; replace e12 := hE.g e12; replace e13 := hE.g e13; replace e14 := hE.g e14
       replace k := k.env hE
       clear hE e122
       refine Z00 ?_
       refine Z0h e128 rfl ?_
       refine wp_seq ?_
       refine wp_seq ?_
       refine wp_region_lit ?_
       have hE := Env.refl a105 [129, 130]
       refine zm 129 hE k e14 ?_
       intro a106 hE e129 kp
       refine sd 130 hE k (Z15 rfl e129 rfl) ?_
       intro a107 hE e130 kp
       refine wpList_nil ?_
       replace e1 := hE.g e1; replace e6 := hE.g e6; replace e7 := hE.g e7; replace e8 := hE.g e8; replace e10 := hE.g e10; replace e12 := hE.g e12; replace e13 := hE.g e13
       replace k := k.env hE
       clear hE e14 e128
       refine Z00 ?_
       refine Z08 e130 rfl ?_
       refine wp_skip ?_
       refine Z00 ?_
       refine wp_exit ?_
       refine Z0k ?_
       refine Z0t ?_
       refine Z00 ?_
       refine wp_region_lit ?_
       have hE := Env.refl a107 [98, 99, 13]
       refine sd 98 hE k (Z03 rfl e13) ?_
       intro a108 hE e98 kp
       replace e13 := kt kp e13
       refine sd 99 hE k (Z0r rfl e98 rfl (by omega)) ?_
       intro a109 hE e99 kp
       replace e13 := kt kp e13
       refine sd 13 hE k (Z01 rfl e99) ?_
       intro a110 hE e13 kp
       refine wpList_nil ?_
       replace e1 := hE.g e1; replace e6 := hE.g e6; replace e7 := hE.g e7; replace e8 := hE.g e8; replace e10 := hE.g e10; replace e12 := hE.g e12
       replace k := k.env hE
       clear hE e130
       refine Z00 ?_
       refine ⟨⟨k, e1, e6, e7, e8, i + 1, T, u, want, L, M, Bt, ct, Bo, co, e10, e12, e13, by omega, hI.mono (by omega), O⟩, ?_⟩
       rw [e13, mi]; simp only [intOf]; omega
     · skip
       by_cases hfull : n - u < szT x
       · skip
         refine wp_skip ?_
         refine Z00 (wp_seq ?_)
         refine wp_block ?_
         refine wp_seq ?_
         refine wp_seq ?_
         refine wp_region_lit ?_
         have hE := Env.refl a76 [100, 101, 102, 103, 104, 105]
         refine zm 100 hE k e1 ?_
         intro a111 hE e100 kp
         refine zm 101 hE k e13 ?_
         intro a112 hE e101 kp
         replace e100 := kt kp e100
         apply Z05 102 hE k rfl rfl rfl rfl
         case h =>
          simp [go_sem, ↓IntWalk.iteOmega, ev e100, ev e101]
          with_reducible rfl
         intro a113 hE e102 kp
         apply Z05 103 hE k rfl rfl rfl rfl
         case h =>
          simp [go_sem, ↓IntWalk.iteOmega, ev e102, cw _ O.below]
          with_reducible rfl
         intro a114 hE e103 kp
         refine sd 104 hE k (Z07 Try.underlying9 rfl e103) ?_
         intro a115 hE e104 kp
         refine sd 105 hE k (Z09 (Z0z rfl e104 rfl) (decide_eq_false (by omega))) ?_
         intro a116 hE e105 kp
         refine wpList_nil ?_
         replace e1 := hE.g e1; replace e6 := hE.g e6; replace e7 := hE.g e7; replace e8 := hE.g e8; replace e10 := hE.g e10; replace e12 := hE.g e12; replace e13 := hE.g e13
         replace k := k.env hE
         clear hE
         refine Z00 ?_
         refine Z08 e105 rfl ?_
         refine wp_skip ?_
         refine Z00 (wp_seq ?_)
         refine wp_region_lit ?_
         have hE := Env.refl a116 [106, 107, 108, 109, 110, 111, 14]
         refine zm 106 hE k e8 ?_
         intro a117 hE e106 kp
         refine zm 107 hE k e1 ?_
         intro a118 hE e107 kp
         replace e106 := kt kp e106
         refine zm 108 hE k e13 ?_
         intro a119 hE e108 kp
         replace e106 := kt kp e106; replace e107 := kt kp e107
         apply Z05 109 hE k rfl rfl rfl rfl
         case h =>
          simp [go_sem, ↓IntWalk.iteOmega, ev e107, ev e108]
          with_reducible rfl
         intro a120 hE e109 kp
         replace e106 := kt kp e106
         apply Z05 110 hE k rfl rfl rfl rfl
         case h =>
          simp [go_sem, ↓IntWalk.iteOmega, ev e109, cw _ O.below]
          with_reducible rfl
         intro a121 hE e110 kp
         replace e106 := kt kp e106
         apply Z06 111 hE k rfl (by rfl) (by rfl) rfl
         case h =>
          simp [go_sem, ↓IntWalk.iteOmega, ev e106, ev e110]
          with_reducible exact ⟨rfl, rfl⟩
         case hc => exact Z6t (c := 0) x _ O hu hTl (by omega) hfull
         clear O
         rintro e w123 ⟨rfl, O⟩
         refine ⟨_, rfl, ?_⟩
         intro a122 hE e111 kp
         refine sd 14 hE k (Z01 rfl e111) ?_
         intro a124 hE e14 kp
         refine wpList_nil ?_
         replace e1 := hE.g e1; replace e6 := hE.g e6; replace e7 := hE.g e7; replace e8 := hE.g e8; replace e10 := hE.g e10; replace e12 := hE.g e12; replace e13 := hE.g e13
         replace k := k.env hE
         clear hE e105
         refine Z00 (wp_seq ?_)
         refine wp_seq ?_
         refine Z10 (R := Ext) (w0 := w123) [[], [], [0, 1], [0, 1, 2], [0, 1, 2, 3], [], [], [5, 6], [5, 6, 7], [0, 1, 2, 3, 4, 5, 6, 7, 8], [0, 1, 2, 3, 4, 5, 6, 7, 8, 9]] [112, 113, 114, 115, 116, 117, 118, 119, 120, 121, 122] Ext.refl (fun _ _ _ => Ext.trans) (Ext.drew _) (by kernel_rfl) ?_
         apply bd 112 k rfl rfl rfl
         case h =>
          intro ax wx hE hR hF
          exact Z03 rfl (hE.g e1)
         apply bd 113 k rfl rfl rfl
         case h =>
          intro ax wx hE hR hF
          exact Z03 rfl (hE.g e13)
         apply bd 114 k rfl rfl rfl
         case h =>
          intro ax wx hE hR hF
          have e112 := zhF hF 0 112 ml1
          have e113 := zhF hF 1 113 ml0
          simp [go_sem, ↓IntWalk.iteOmega, ev e112, ev e113]
          with_reducible rfl
         apply bd 115 k rfl rfl rfl
         case h =>
          intro ax wx hE hR hF
          have e114 := zhF hF 2 114 ml0
          simp [go_sem, ↓IntWalk.iteOmega, ev e114, cw _ (OwnT.ext O hR).below]
          with_reducible rfl
         apply Build.call 116 Ext.refl (by rfl) (by rw [k.size]; rfl) rfl
         case h =>
          intro ax wx hE hR hF
          have e115 := zhF hF 3 115 ml0
          simp [go_sem, ↓IntWalk.iteOmega, ev e115]
          with_reducible exact ⟨rfl, rfl⟩
         case hc => intro wx hR; exact Z0w x wx (by omega)
         apply bd 117 k rfl rfl rfl
         case h =>
          intro ax wx hE hR hF
          exact Z03 rfl (hE.g e1)
         apply bd 118 k rfl rfl rfl
         case h =>
          intro ax wx hE hR hF
          exact Z03 rfl (hE.g e13)
         apply bd 119 k rfl rfl rfl
         case h =>
          intro ax wx hE hR hF
          have e117 := zhF hF 5 117 ml1
          have e118 := zhF hF 6 118 ml0
          simp [go_sem, ↓IntWalk.iteOmega, ev e117, ev e118]
          with_reducible rfl
         apply bd 120 k rfl rfl rfl
         case h =>
          intro ax wx hE hR hF
          have e119 := zhF hF 7 119 ml0
          simp [go_sem, ↓IntWalk.iteOmega, ev e119, cw _ (OwnT.ext O hR).below]
          with_reducible rfl
         apply Build.call 121 Ext.refl (by rfl) (by rw [k.size]; rfl) rfl
         case h =>
          intro ax wx hE hR hF
          have e120 := zhF hF 8 120 ml0
          simp [go_sem, ↓IntWalk.iteOmega, ev e120]
          with_reducible exact ⟨rfl, rfl⟩
         case hc => intro wx hR; exact (rsize39 x wx (by omega)).mono (fun e w' h => (⟨h.1, by rw [h.2]; exact Ext.refl _⟩ : e = .returned (.int .i64 ((szT x : Nat) : Int)) ∧ Ext wx w'))
         apply bd 122 k rfl rfl rfl
         case h =>
          intro ax wx hE hR hF
          have e116 := zhF hF 4 116 ml5
          have e121 := zhF hF 9 121 ml0
          exact Z09 (Z15 rfl e116 e121) (decide_eq_false (by omega))
         apply Build.stop
         refine ⟨by kernel_rfl, .inl ⟨rfl, ?_⟩⟩
         intro a125 w126 hE R hF
         have e122 : a125.eval (.tmp 122) = _ := hF 10 (det 122 _) ml0
         clear hF
         replace O := OwnT.ext O R
         clear R
         replace e1 := hE.g e1; replace e6 := hE.g e6; replace e7 := hE.g e7; replace e8 := hE.g e8; replace e10 := hE.g e10; replace e12 := hE.g e12; replace e13 := hE.g e13; replace e14 := hE.g e14
         replace k := k.env hE
         clear hE
         refine Z00 ?_
         refine Z08 e122 rfl ?_
         refine wp_skip ?_
         refine Z00 (wp_seq ?_)
         refine wp_seq ?_
         refine wp_region_lit ?_
         have hE := Env.refl a125 [123, 124, 125, 126, 127, 128]
         refine zm 123 hE k e1 ?_
         intro a127 hE e123 kp
         refine zm 124 hE k e13 ?_
         intro a128 hE e124 kp
         replace e123 := kt kp e123
         apply Z05 125 hE k rfl rfl rfl rfl
         case h =>
          simp [go_sem, ↓IntWalk.iteOmega, ev e123, ev e124]
          with_reducible rfl
         intro a129 hE e125 kp
         apply Z05 126 hE k rfl rfl rfl rfl
         case h =>
          simp [go_sem, ↓IntWalk.iteOmega, ev e125, cw _ O.below]
          with_reducible rfl
         intro a130 hE e126 kp
         refine sd 127 hE k (Z07 Try.underlying9 rfl e126) ?_
         intro a131 hE e127 kp
         refine sd 128 hE k (Z09 (Z0z rfl e127 rfl) (decide_eq_false (by omega))) ?_
         intro a132 hE e128 kp
         refine wpList_nil ?_
         replace e1 := hE.g e1; replace e6 := hE.g e6; replace e7 := hE.g e7; replace e8 := hE.g e8; replace e10 := hE.g e10; replace e12 := hE.g e12; replace e13 := hE.g e13; replace e14 := hE.g e14
         replace k := k.env hE
         clear hE e122
         refine Z00 ?_
         refine Z08 e128 rfl ?_
         refine wp_skip ?_
         refine Z00 (wp_seq ?_)
         refine wp_seq ?_
         refine wp_region_lit ?_
         have hE := Env.refl a132 [131, 132, 133, 134, 135, 136, 137, 138, 139, 140, 141]
         refine zm 131 hE k e1 ?_
         intro a133 hE e131 kp
         refine zm 132 hE k e13 ?_
         intro a134 hE e132 kp
         replace e131 := kt kp e131
         apply Z05 133 hE k rfl rfl rfl rfl
         case h =>
          simp [go_sem, ↓IntWalk.iteOmega, ev e131, ev e132]
          with_reducible rfl
         intro a135 hE e133 kp
         apply Z05 134 hE k rfl rfl rfl rfl
         case h =>
          simp [go_sem, ↓IntWalk.iteOmega, ev e133, cw _ O.below]
          with_reducible rfl
         intro a136 hE e134 kp
         apply Z06 135 hE k rfl (by rfl) (by rfl) rfl
         case h =>
          simp [go_sem, ↓IntWalk.iteOmega, ev e134]
          with_reducible exact ⟨rfl, rfl⟩
         case hc => exact rsize39 x _ (by omega)
         rintro e _ ⟨rfl, rfl⟩
         refine ⟨_, rfl, ?_⟩
         intro a137 hE e135 kp
         refine zm 136 hE k e7 ?_
         intro a138 hE e136 kp
         replace e135 := kt kp e135
         refine zm 137 hE k e12 ?_
         intro a139 hE e137 kp
         replace e135 := kt kp e135; replace e136 := kt kp e136
         refine sd 138 hE k (Z07 Try.underlying9 rfl e137) ?_
         intro a140 hE e138 kp
         replace e135 := kt kp e135; replace e136 := kt kp e136
         refine sd 139 hE k (Z1e (m := want.length) (j := 16) rfl e138 rfl rfl (by decide) (by omega)) ?_
         intro a141 hE e139 kp
         replace e135 := kt kp e135; replace e136 := kt kp e136
         replace e139 := e139.trans (Z0e (show ((want.length / 16 : Nat) : Int) = (u : Int) by omega))
         refine sd 140 hE k (Z2m rfl e136 e139 (by omega)) ?_
         intro a142 hE e140 kp
         replace e135 := kt kp e135
         refine sd 141 hE k (Z09 (Z0z rfl e135 e140) (decide_eq_true (by omega))) ?_
         intro a143 hE e141 kp
         refine wpList_nil ?_
         replace e1 := hE.g e1; replace e6 := hE.g e6; replace e7 := hE.g e7; replace e8 := hE.g e8; replace e10 := hE.g e10; replace e12 := hE.g e12; replace e13 := hE.g e13; replace e14 := hE.g e14
         replace k := k.env hE
         clear hE e128
         refine Z00 ?_
         refine Z0h e141 rfl ?_
         refine wp_seq ?_
         refine wp_seq ?_
         refine wp_region_lit ?_
         have hE := Env.refl a143 [142, 143]
         refine zm 142 hE k e14 ?_
         intro a144 hE e142 kp
         refine sd 143 hE k (Z15 rfl e142 rfl) ?_
         intro a145 hE e143 kp
         refine wpList_nil ?_
         replace e1 := hE.g e1; replace e6 := hE.g e6; replace e7 := hE.g e7; replace e8 := hE.g e8; replace e10 := hE.g e10; replace e12 := hE.g e12; replace e13 := hE.g e13
         replace k := k.env hE
         clear hE e14 e141
         refine Z00 ?_
         refine Z08 e143 rfl ?_
         refine wp_skip ?_
         refine Z00 ?_
         refine wp_exit ?_
         refine Z0k ?_
         refine Z0t ?_
         refine Z00 ?_
         refine wp_region_lit ?_
         have hE := Env.refl a145 [98, 99, 13]
         refine sd 98 hE k (Z03 rfl e13) ?_
         intro a146 hE e98 kp
         replace e13 := kt kp e13
         refine sd 99 hE k (Z0r rfl e98 rfl (by omega)) ?_
         intro a147 hE e99 kp
         replace e13 := kt kp e13
         refine sd 13 hE k (Z01 rfl e99) ?_
         intro a148 hE e13 kp
         refine wpList_nil ?_
         replace e1 := hE.g e1; replace e6 := hE.g e6; replace e7 := hE.g e7; replace e8 := hE.g e8; replace e10 := hE.g e10; replace e12 := hE.g e12
         replace k := k.env hE
         clear hE e143
         refine Z00 ?_
         refine ⟨⟨k, e1, e6, e7, e8, i + 1, T, u, want, L, M, Bt, ct, Bo, co, e10, e12, e13, by omega, hI.mono (by omega), O⟩, ?_⟩
         rw [e13, mi]; simp only [intOf]; omega
       · skip
         refine wp_skip ?_
         refine Z00 (wp_seq ?_)
         refine wp_block ?_
         refine wp_seq ?_
         refine wp_seq ?_
         refine wp_region_lit ?_
         have hE := Env.refl a76 [100, 101, 102, 103, 104, 105]
         refine zm 100 hE k e1 ?_
         intro a149 hE e100 kp
         refine zm 101 hE k e13 ?_
         intro a150 hE e101 kp
         replace e100 := kt kp e100
         apply Z05 102 hE k rfl rfl rfl rfl
         case h =>
          simp [go_sem, ↓IntWalk.iteOmega, ev e100, ev e101]
          with_reducible rfl
         intro a151 hE e102 kp
         apply Z05 103 hE k rfl rfl rfl rfl
         case h =>
          simp [go_sem, ↓IntWalk.iteOmega, ev e102, cw _ O.below]
          with_reducible rfl
         intro a152 hE e103 kp
         refine sd 104 hE k (Z07 Try.underlying9 rfl e103) ?_
         intro a153 hE e104 kp
         refine sd 105 hE k (Z09 (Z0z rfl e104 rfl) (decide_eq_false (by omega))) ?_
         intro a154 hE e105 kp
         refine wpList_nil ?_
         replace e1 := hE.g e1; replace e6 := hE.g e6; replace e7 := hE.g e7; replace e8 := hE.g e8; replace e10 := hE.g e10; replace e12 := hE.g e12; replace e13 := hE.g e13
         replace k := k.env hE
         clear hE
         refine Z00 ?_
         refine Z08 e105 rfl ?_
         refine wp_skip ?_
         refine Z00 (wp_seq ?_)
         refine wp_region_lit ?_
         have hE := Env.refl a154 [106, 107, 108, 109, 110, 111, 14]
         refine zm 106 hE k e8 ?_
         intro a155 hE e106 kp
         refine zm 107 hE k e1 ?_
         intro a156 hE e107 kp
         replace e106 := kt kp e106
         refine zm 108 hE k e13 ?_
         intro a157 hE e108 kp
         replace e106 := kt kp e106; replace e107 := kt kp e107
         apply Z05 109 hE k rfl rfl rfl rfl
         case h =>
          simp [go_sem, ↓IntWalk.iteOmega, ev e107, ev e108]
          with_reducible rfl
         intro a158 hE e109 kp
         replace e106 := kt kp e106
         apply Z05 110 hE k rfl rfl rfl rfl
         case h =>
          simp [go_sem, ↓IntWalk.iteOmega, ev e109, cw _ O.below]
          with_reducible rfl
         intro a159 hE e110 kp
         replace e106 := kt kp e106
         apply Z06 111 hE k rfl (by rfl) (by rfl) rfl
         case h =>
          simp [go_sem, ↓IntWalk.iteOmega, ev e106, ev e110]
          with_reducible exact ⟨rfl, rfl⟩
         case hc => exact Z6r x _ O hu hTl (by omega) (by omega) hM (by omega) hF
         clear O
         rintro e w161 ⟨rfl, Bt2, ct2, O⟩
         refine ⟨_, rfl, ?_⟩
         intro a160 hE e111 kp
         refine sd 14 hE k (Z01 rfl e111) ?_
         intro a162 hE e14 kp
         refine wpList_nil ?_
         replace e1 := hE.g e1; replace e6 := hE.g e6; replace e7 := hE.g e7; replace e8 := hE.g e8; replace e10 := hE.g e10; replace e12 := hE.g e12; replace e13 := hE.g e13
         replace k := k.env hE
         clear hE e105
         refine Z00 (wp_seq ?_)
         refine wp_seq ?_
         refine Z10 (R := Ext) (w0 := w161) [[], [], [0, 1], [0, 1, 2], [0, 1, 2, 3], [], [], [5, 6], [5, 6, 7], [0, 1, 2, 3, 4, 5, 6, 7, 8], [0, 1, 2, 3, 4, 5, 6, 7, 8, 9]] [112, 113, 114, 115, 116, 117, 118, 119, 120, 121, 122] Ext.refl (fun _ _ _ => Ext.trans) (Ext.drew _) (by kernel_rfl) ?_
         apply bd 112 k rfl rfl rfl
         case h =>
          intro ax wx hE hR hF
          exact Z03 rfl (hE.g e1)
         apply bd 113 k rfl rfl rfl
         case h =>
          intro ax wx hE hR hF
          exact Z03 rfl (hE.g e13)
         apply bd 114 k rfl rfl rfl
         case h =>
          intro ax wx hE hR hF
          have e112 := zhF hF 0 112 ml1
          have e113 := zhF hF 1 113 ml0
          simp [go_sem, ↓IntWalk.iteOmega, ev e112, ev e113]
          with_reducible rfl
         apply bd 115 k rfl rfl rfl
         case h =>
          intro ax wx hE hR hF
          have e114 := zhF hF 2 114 ml0
          simp [go_sem, ↓IntWalk.iteOmega, ev e114, cw _ (OwnT.ext O hR).below]
          with_reducible rfl
         apply Build.call 116 Ext.refl (by rfl) (by rw [k.size]; rfl) rfl
         case h =>
          intro ax wx hE hR hF
          have e115 := zhF hF 3 115 ml0
          simp [go_sem, ↓IntWalk.iteOmega, ev e115]
          with_reducible exact ⟨rfl, rfl⟩
         case hc => intro wx hR; exact Z0w x wx (by omega)
         apply bd 117 k rfl rfl rfl
         case h =>
          intro ax wx hE hR hF
          exact Z03 rfl (hE.g e1)
         apply bd 118 k rfl rfl rfl
         case h =>
          intro ax wx hE hR hF
          exact Z03 rfl (hE.g e13)
         apply bd 119 k rfl rfl rfl
         case h =>
          intro ax wx hE hR hF
          have e117 := zhF hF 5 117 ml1
          have e118 := zhF hF 6 118 ml0
          simp [go_sem, ↓IntWalk.iteOmega, ev e117, ev e118]
          with_reducible rfl
         apply bd 120 k rfl rfl rfl
         case h =>
          intro ax wx hE hR hF
          have e119 := zhF hF 7 119 ml0
          simp [go_sem, ↓IntWalk.iteOmega, ev e119, cw _ (OwnT.ext O hR).below]
          with_reducible rfl
         apply Build.call 121 Ext.refl (by rfl) (by rw [k.size]; rfl) rfl
         case h =>
          intro ax wx hE hR hF
          have e120 := zhF hF 8 120 ml0
          simp [go_sem, ↓IntWalk.iteOmega, ev e120]
          with_reducible exact ⟨rfl, rfl⟩
         case hc => intro wx hR; exact (rsize39 x wx (by omega)).mono (fun e w' h => (⟨h.1, by rw [h.2]; exact Ext.refl _⟩ : e = .returned (.int .i64 ((szT x : Nat) : Int)) ∧ Ext wx w'))
         apply bd 122 k rfl rfl rfl
         case h =>
          intro ax wx hE hR hF
          have e116 := zhF hF 4 116 ml5
          have e121 := zhF hF 9 121 ml0
          exact Z09 (Z15 rfl e116 e121) (decide_eq_false (by omega))
         apply Build.stop
         refine ⟨by kernel_rfl, .inl ⟨rfl, ?_⟩⟩
         intro a163 w164 hE R hF
         have e122 : a163.eval (.tmp 122) = _ := hF 10 (det 122 _) ml0
         clear hF
         replace O := OwnT.ext O R
         clear R
         replace e1 := hE.g e1; replace e6 := hE.g e6; replace e7 := hE.g e7; replace e8 := hE.g e8; replace e10 := hE.g e10; replace e12 := hE.g e12; replace e13 := hE.g e13; replace e14 := hE.g e14
         replace k := k.env hE
         clear hE
         refine Z00 ?_
         refine Z08 e122 rfl ?_
         refine wp_skip ?_
         refine Z00 (wp_seq ?_)
         refine wp_seq ?_
         refine wp_region_lit ?_
         have hE := Env.refl a163 [123, 124, 125, 126, 127, 128]
         refine zm 123 hE k e1 ?_
         intro a165 hE e123 kp
         refine zm 124 hE k e13 ?_
         intro a166 hE e124 kp
         replace e123 := kt kp e123
         apply Z05 125 hE k rfl rfl rfl rfl
         case h =>
          simp [go_sem, ↓IntWalk.iteOmega, ev e123, ev e124]
          with_reducible rfl
         intro a167 hE e125 kp
         apply Z05 126 hE k rfl rfl rfl rfl
         case h =>
          simp [go_sem, ↓IntWalk.iteOmega, ev e125, cw _ O.below]
          with_reducible rfl
         intro a168 hE e126 kp
         refine sd 127 hE k (Z07 Try.underlying9 rfl e126) ?_
         intro a169 hE e127 kp
         refine sd 128 hE k (Z09 (Z0z rfl e127 rfl) (decide_eq_false (by omega))) ?_
         intro a170 hE e128 kp
         refine wpList_nil ?_
         replace e1 := hE.g e1; replace e6 := hE.g e6; replace e7 := hE.g e7; replace e8 := hE.g e8; replace e10 := hE.g e10; replace e12 := hE.g e12; replace e13 := hE.g e13; replace e14 := hE.g e14
         replace k := k.env hE
         clear hE e122
         refine Z00 ?_
         refine Z08 e128 rfl ?_
         refine wp_skip ?_
         refine Z00 (wp_seq ?_)
         refine wp_seq ?_
         refine wp_region_lit ?_
         have hE := Env.refl a170 [131, 132, 133, 134, 135, 136, 137, 138, 139, 140, 141]
         refine zm 131 hE k e1 ?_
         intro a171 hE e131 kp
         refine zm 132 hE k e13 ?_
         intro a172 hE e132 kp
         replace e131 := kt kp e131
         apply Z05 133 hE k rfl rfl rfl rfl
         case h =>
          simp [go_sem, ↓IntWalk.iteOmega, ev e131, ev e132]
          with_reducible rfl
         intro a173 hE e133 kp
         apply Z05 134 hE k rfl rfl rfl rfl
         case h =>
          simp [go_sem, ↓IntWalk.iteOmega, ev e133, cw _ O.below]
          with_reducible rfl
         intro a174 hE e134 kp
         apply Z06 135 hE k rfl (by rfl) (by rfl) rfl
         case h =>
          simp [go_sem, ↓IntWalk.iteOmega, ev e134]
          with_reducible exact ⟨rfl, rfl⟩
         case hc => exact rsize39 x _ (by omega)
         rintro e _ ⟨rfl, rfl⟩
         refine ⟨_, rfl, ?_⟩
         intro a175 hE e135 kp
         refine zm 136 hE k e7 ?_
         intro a176 hE e136 kp
         replace e135 := kt kp e135
         refine zm 137 hE k e12 ?_
         intro a177 hE e137 kp
         replace e135 := kt kp e135; replace e136 := kt kp e136
         refine sd 138 hE k (Z07 Try.underlying9 rfl e137) ?_
         intro a178 hE e138 kp
         replace e135 := kt kp e135; replace e136 := kt kp e136
         refine sd 139 hE k (Z1e (m := want.length) (j := 16) rfl e138 rfl rfl (by decide) (by omega)) ?_
         intro a179 hE e139 kp
         replace e135 := kt kp e135; replace e136 := kt kp e136
         replace e139 := e139.trans (Z0e (show ((want.length / 16 : Nat) : Int) = (u : Int) by omega))
         refine sd 140 hE k (Z2m rfl e136 e139 (by omega)) ?_
         intro a180 hE e140 kp
         replace e135 := kt kp e135
         refine sd 141 hE k (Z09 (Z0z rfl e135 e140) (decide_eq_false (by omega))) ?_
         intro a181 hE e141 kp
         refine wpList_nil ?_
         replace e1 := hE.g e1; replace e6 := hE.g e6; replace e7 := hE.g e7; replace e8 := hE.g e8; replace e10 := hE.g e10; replace e12 := hE.g e12; replace e13 := hE.g e13; replace e14 := hE.g e14
         replace k := k.env hE
         clear hE e128
         refine Z00 ?_
         refine Z08 e141 rfl ?_
         refine wp_skip ?_
         refine Z00 (wp_seq ?_)
         refine wp_seq ?_
         refine wp_region_lit ?_
         have hE := Env.refl a181 [144, 145]
         refine zm 144 hE k e14 ?_
         intro a182 hE e144 kp
         refine sd 145 hE k (Z15 rfl e144 rfl) ?_
         intro a183 hE e145 kp
         refine wpList_nil ?_
         replace e1 := hE.g e1; replace e6 := hE.g e6; replace e7 := hE.g e7; replace e8 := hE.g e8; replace e10 := hE.g e10; replace e12 := hE.g e12; replace e13 := hE.g e13
         replace k := k.env hE
         clear hE e14 e141
         refine Z00 ?_
         refine Z08 e145 rfl ?_
         refine wp_skip ?_
         refine Z00 (wp_seq ?_)
         refine wp_region_lit ?_
         have hE := Env.refl a183 [146, 147, 148, 149, 150, 151, 152, 153, 154, 155, 12]
         refine sd 146 hE k (Z03 rfl e12) ?_
         intro a184 hE e146 kp
         replace e12 := kt kp e12
         refine zm 147 hE k e10 ?_
         intro a185 hE e147 kp
         replace e12 := kt kp e12; replace e146 := kt kp e146
         refine sd 148 hE k (Z1c Try.underlying22 rfl e147) ?_
         intro a186 hE e148 kp
         replace e12 := kt kp e12; replace e146 := kt kp e146
         refine sd 149 hE k (Z0r rfl e148 rfl (by omega)) ?_
         intro a187 hE e149 kp
         replace e12 := kt kp e12; replace e146 := kt kp e146
         replace e149 := e149.trans (Z0e (show (T.length : Int) + 1 = ((T.length + 1 : Nat) : Int) by omega))
         refine zm 150 hE k e1 ?_
         intro a188 hE e150 kp
         replace e12 := kt kp e12; replace e146 := kt kp e146; replace e149 := kt kp e149
         refine zm 151 hE k e13 ?_
         intro a189 hE e151 kp
         replace e12 := kt kp e12; replace e146 := kt kp e146; replace e149 := kt kp e149; replace e150 := kt kp e150
         apply Z05 152 hE k rfl rfl rfl rfl
         case h =>
          simp [go_sem, ↓IntWalk.iteOmega, ev e150, ev e151]
          with_reducible rfl
         intro a190 hE e152 kp
         replace e12 := kt kp e12; replace e146 := kt kp e146; replace e149 := kt kp e149
         apply Z05 153 hE k rfl rfl rfl rfl
         case h =>
          simp [go_sem, ↓IntWalk.iteOmega, ev e152, cw _ O.below]
          with_reducible rfl
         intro a191 hE e153 kp
         replace e12 := kt kp e12; replace e146 := kt kp e146; replace e149 := kt kp e149
         apply Z06 154 hE k rfl (by rfl) (by rfl) rfl
         case h =>
          simp [go_sem, ↓IntWalk.iteOmega, ev e149, ev e153]
          with_reducible exact ⟨rfl, rfl⟩
         case hc => exact rbytes39 (T.length + 1) x _ (by omega) (by omega)
         rintro e w193 ⟨rfl, RE⟩
         replace O := OwnT.ext O RE
         refine ⟨_, rfl, ?_⟩
         intro a192 hE e154 kp
         replace e12 := kt kp e12; replace e146 := kt kp e146
         refine sd 155 hE k (Z4z (l := want) (m := tapeL (T.length + 1) x) rfl e146 e154 (by rw [hwl, Z11]; unfold szT; omega)) ?_
         intro a194 hE e155 kp
         replace e12 := kt kp e12
         refine sd 12 hE k (Z01 rfl e155) ?_
         intro a195 hE e12 kp
         refine wpList_nil ?_
         replace e1 := hE.g e1; replace e6 := hE.g e6; replace e7 := hE.g e7; replace e8 := hE.g e8; replace e10 := hE.g e10; replace e13 := hE.g e13
         replace k := k.env hE
         clear hE e145
         refine Z00 ?_
         replace O : OwnT _ _ ([tRow 9 1 (.slice Bo T.length co) T.length (strsV T), tDisc p mb B n cap bm (tpS Wt n) (wrS (tapeL (T.length + 1) x) u L (szT x)), tMn mb (M.useN (szT x)), tBlk tb 55 #[.pointer (some ⟨p, 0, none⟩), .slice Bt2 (((T ++ [x])).length) ct2, .int .i64 (↑((u + szT x))), .bool false], tRow 9 1 (.slice Bt2 ((T ++ [x])).length ct2) ((T ++ [x])).length (strsV ((T ++ [x])))]) w193 := OwnT.pick O [4, 0, 1, 2, 3] (by decide)
         refine wp_region_lit ?_
         have hE := Env.refl a195 [156, 157, 158, 159, 160, 161, 162, 10]
         refine sd 156 hE k (Z03 rfl e10) ?_
         intro a196 hE e156 kp
         replace e10 := kt kp e10
         refine zm 157 hE k e1 ?_
         intro a197 hE e157 kp
         replace e10 := kt kp e10; replace e156 := kt kp e156
         refine zm 158 hE k e13 ?_
         intro a198 hE e158 kp
         replace e10 := kt kp e10; replace e156 := kt kp e156; replace e157 := kt kp e157
         apply Z05 159 hE k rfl rfl rfl rfl
         case h =>
          simp [go_sem, ↓IntWalk.iteOmega, ev e157, ev e158]
          with_reducible rfl
         intro a199 hE e159 kp
         replace e10 := kt kp e10; replace e156 := kt kp e156
         apply Z05 160 hE k rfl rfl rfl rfl
         case h =>
          simp [go_sem, ↓IntWalk.iteOmega, ev e159, cw _ O.below]
          with_reducible rfl
         intro a200 hE e160 kp
         replace e10 := kt kp e10; replace e156 := kt kp e156
         refine Z27 (m := 1) (c := 1) O (cs := #[.string (sB x)]) (t := 9) 161 hE k rfl (by rfl) (by rfl) rfl (by simp [go_sem, ↓IntWalk.iteOmega, ev e160]) ?_
         clear O
         intro gn a201 w202 O hE e161 kp
         replace e10 := kt kp e10; replace e156 := kt kp e156
         obtain ⟨gr, cr, w203, hrun, O⟩ := Z4d O elemS (by decide) rfl (by intro u hu; simp at hu; subst hu; rfl) (by unfold maxLen; omega) (by omega)
         apply Z1f 162 hE k rfl (by rfl) (by rfl) rfl
         case h => exact Z1x rfl e156 e161 (hrun _)
         clear hrun
         intro a204 hE e162 kp
         replace e10 := kt kp e10
         refine sd 10 hE k (Z01 rfl e162) ?_
         intro a205 hE e10 kp
         refine wpList_nil ?_
         replace e1 := hE.g e1; replace e6 := hE.g e6; replace e7 := hE.g e7; replace e8 := hE.g e8; replace e12 := hE.g e12; replace e13 := hE.g e13
         replace k := k.env hE
         clear hE
         refine Z14 ?_
         refine Z00 ?_
         have hn1 : (T ++ [x]).length = T.length + 1 := by simp
         rw [show strsV T ++ [Value.string (sB x)] = strsV (T ++ [x]) by rw [Z1n]; rfl] at O
         replace O : OwnT _ _ ([tRow 9 1 (.slice (some ⟨gr, 0, none⟩) (T.length + 1) cr) (T.length + 1) (strsV (T ++ [x])), tDisc p mb B n cap bm (tpS Wt n) (wrS (tapeL (T.length + 1) x) u L (szT x)), tMn mb (M.useN (szT x)), tBlk tb 55 #[.pointer (some ⟨p, 0, none⟩), .slice Bt2 (((T ++ [x])).length) ct2, .int .i64 (↑((u + szT x))), .bool false], tRow 9 1 (.slice Bt2 ((T ++ [x])).length ct2) ((T ++ [x])).length (strsV ((T ++ [x])))]) w203 := O
         replace O : OwnT _ _ ([tDisc p mb B n cap bm (tpS Wt n) (wrS (tapeL (T.length + 1) x) u L (szT x)), tMn mb (M.useN (szT x)), tBlk tb 55 #[.pointer (some ⟨p, 0, none⟩), .slice Bt2 (((T ++ [x])).length) ct2, .int .i64 (↑((u + szT x))), .bool false], tRow 9 1 (.slice Bt2 ((T ++ [x])).length ct2) ((T ++ [x])).length (strsV ((T ++ [x]))), tRow 9 1 (.slice (some ⟨gr, 0, none⟩) (T.length + 1) cr) (T.length + 1) (strsV (T ++ [x]))]) w203 := OwnT.pick O [1, 2, 3, 4, 0] (by decide)
         rw [← hn1] at e10
         refine wp_region_lit ?_
         have hE := Env.refl a205 [98, 99, 13]
         refine sd 98 hE k (Z03 rfl e13) ?_
         intro a206 hE e98 kp
         replace e13 := kt kp e13
         refine sd 99 hE k (Z0r rfl e98 rfl (by omega)) ?_
         intro a207 hE e99 kp
         replace e13 := kt kp e13
         refine sd 13 hE k (Z01 rfl e99) ?_
         intro a208 hE e13 kp
         refine wpList_nil ?_
         replace e1 := hE.g e1; replace e6 := hE.g e6; replace e7 := hE.g e7; replace e8 := hE.g e8; replace e10 := hE.g e10; replace e12 := hE.g e12
         replace k := k.env hE
         clear hE
         refine Z00 ?_
         have O2 : OwnT W0.heap.size W0 [tDisc p mb B n cap bm (tpS Wt n) (wrS (tapeL (T.length + 1) x) u L (szT x)), tMn mb (M.useN (szT x)), tBlk tb 55 #[.pointer (some ⟨p, 0, none⟩), .slice Bt2 (((T ++ [x])).length) ct2, .int .i64 (↑((u + szT x))), .bool false], tRow 9 1 (.slice Bt2 ((T ++ [x])).length ct2) ((T ++ [x])).length (strsV ((T ++ [x]))), tRow 9 1 (.slice (some ⟨gr, 0, none⟩) (T ++ [x]).length cr) (T ++ [x]).length (strsV (T ++ [x]))] w203 := by
          rw [hn1]; rw [hn1] at O; exact O
         replace O := O2
         refine ⟨⟨k, e1, e6, e7, e8, i + 1, T ++ [x], u + szT x, want ++ tapeL (T.length + 1) x, wrS (tapeL (T.length + 1) x) u L (szT x), M.useN (szT x), Bt2, ct2, some ⟨gr, 0, none⟩, cr, e10, e12, e13, by omega, (hI.add (tpS_len _ _) (by omega) (by omega)).mono (by omega), O⟩, ?_⟩
         rw [e13, mi]; simp only [intOf]; omega
 · have hltI : ¬ (i : Int) < (xs.length : Int) := by omega
   refine Z08 e97 (congrArg Value.bool (decide_eq_false (by omega))) ?_
   clear e1 e13 e97
   have himg := tp_img hwl hu
   refine wp_exit ?_
   refine Z0k ?_
   refine Z0k ?_
   refine Z0t ?_
   refine Z00 (wp_seq ?_)
   refine wp_region_lit ?_
   have hE := Env.refl a76 [163, 164, 15]
   refine zm 163 hE k e8 ?_
   intro a209 hE e163 kp
   apply Z06 164 hE k rfl (by rfl) (by rfl) rfl
   case h =>
    simp [go_sem, ↓IntWalk.iteOmega, ev e163]
    with_reducible exact ⟨rfl, rfl⟩
   case hc => exact Z4j _ O hM (by omega) hF
   clear O
   rintro e w211 ⟨rfl, O⟩
   rw [hI.now] at O
   refine ⟨_, rfl, ?_⟩
   intro a210 hE e164 kp
   refine sd 15 hE k (Z01 rfl e164) ?_
   intro a212 hE e15 kp
   refine wpList_nil ?_
   replace e6 := hE.g e6; replace e7 := hE.g e7; replace e8 := hE.g e8; replace e10 := hE.g e10; replace e12 := hE.g e12
   replace k := k.env hE
   clear hE
   refine Z00 (wp_seq ?_)
   refine wp_region_lit ?_
   have hE := Env.refl a212 [166, 165, 167, 168, 16, 17]
   apply Z06 166 hE k rfl (by rfl) (by rfl) rfl
   case h =>
    simp [go_sem, ↓IntWalk.iteOmega]
    with_reducible exact ⟨rfl, rfl⟩
   case hc => exact Z6p _
   rintro e _ ⟨rfl, rfl⟩
   refine ⟨_, rfl, ?_⟩
   intro a213 hE e166 kp
   refine sd 165 hE k (Z03 rfl e166) ?_
   intro a214 hE e165 kp
   apply Z05 167 hE k rfl rfl rfl rfl
   case h =>
    simp [go_sem, ↓IntWalk.iteOmega, ev e165]
    with_reducible rfl
   intro a215 hE e167 kp
   replace e165 := kt kp e165
   apply Z05 168 hE k rfl rfl rfl rfl
   case h =>
    simp [go_sem, ↓IntWalk.iteOmega, ev e165]
    with_reducible rfl
   intro a216 hE e168 kp
   replace e167 := kt kp e167
   refine sd 16 hE k (Z01 rfl e167) ?_
   intro a217 hE e16 kp
   replace e168 := kt kp e168
   refine sd 17 hE k (Z01 rfl e168) ?_
   intro a218 hE e17 kp
   refine wpList_nil ?_
   replace e6 := hE.g e6; replace e7 := hE.g e7; replace e8 := hE.g e8; replace e10 := hE.g e10; replace e12 := hE.g e12; replace e15 := hE.g e15
   replace k := k.env hE
   clear hE
   refine Z00 (wp_seq ?_)
   refine wp_region_lit ?_
   have hE := Env.refl a218 [18]
   refine sd 18 hE k (Z01 rfl rfl) ?_
   intro a219 hE e18 kp
   refine wpList_nil ?_
   replace e6 := hE.g e6; replace e7 := hE.g e7; replace e8 := hE.g e8; replace e10 := hE.g e10; replace e12 := hE.g e12; replace e15 := hE.g e15; replace e17 := hE.g e17
   replace k := k.env hE
   clear hE
   refine Z00 (wp_seq ?_)
   refine wp_region_lit ?_
   have hE := Env.refl a219 [169, 170, 171, 172, 173, 174, 175, 176, 177, 178, 179, 180, 181, 182, 183, 184, 185, 186, 187, 188, 189, 190, 191, 192, 193, 194, 195, 196, 197, 198, 199, 200, 201, 202, 203, 204, 205, 206, 207, 208, 209, 210, 211, 212, 213, 214, 215, 216, 217, 218, 219, 220, 221, 222, 223, 224, 4]
   refine zm 169 hE k e15 ?_
   intro a220 hE e169 kp
   refine sd 170 hE k (Z09 (Z1s rfl e169 rfl) (decide_eq_true (by omega))) ?_
   intro a221 hE e170 kp
   refine sd 171 hE k (Z03 rfl e170) ?_
   intro a222 hE e171 kp
   apply Z02 172 hE k rfl rfl rfl rfl rfl e171
   case h =>
    exact Z03 rfl (hE.g e8)
   intro a223 hE e172 kp
   replace e171 := kt kp e171
   apply Z0o 173 hE k rfl (by rfl) (by rfl) rfl rfl e171
   case h =>
    simp [go_sem, ↓IntWalk.iteOmega, ev e172]
    with_reducible exact ⟨rfl, rfl⟩
   case hc => exact Z1r _ (Z16 (OwnT.get O 3 rfl)) (OwnT.blk O 2 rfl) (by omega)
   rintro e w225 ⟨Bz, cz, rfl, hrow, RE⟩
   have hst := Z16 hrow
   replace O := OwnT.ext O RE
   refine ⟨_, rfl, ?_⟩
   intro a224 hE e173 kp
   replace e171 := kt kp e171
   apply Z02 174 hE k rfl rfl rfl rfl rfl e171
   case h =>
    exact Z03 rfl (hE.g e10)
   intro a226 hE e174 kp
   replace e171 := kt kp e171; replace e173 := kt kp e173
   apply Z0o 175 hE k rfl (by rfl) (by rfl) rfl rfl e171
   case h =>
    simp [go_sem, ↓IntWalk.iteOmega, ev e173, ev e174]
    with_reducible exact ⟨rfl, rfl⟩
   case hc => exact same39 _ hst (Z16 (OwnT.get O 4 rfl)) (by omega) (by omega)
   rintro e w228 ⟨he, RE⟩
   replace O := OwnT.ext O RE
   refine ⟨_, he.trans (congrArg (fun b => Ending.returned (.bool b)) (decide_eq_true rfl)), ?_⟩
   intro a227 hE e175 kp
   replace e171 := kt kp e171
   refine sd 176 hE k (Z0b rfl e171 e175) ?_
   intro a229 hE e176 kp
   refine sd 177 hE k (Z03 rfl e176) ?_
   intro a230 hE e177 kp
   apply Z02 178 hE k rfl rfl rfl rfl rfl e177
   case h =>
    exact Z03 rfl (hE.g e8)
   intro a231 hE e178 kp
   replace e177 := kt kp e177
   apply Z0o 179 hE k rfl (by rfl) (by rfl) rfl rfl e177
   case h =>
    simp [go_sem, ↓IntWalk.iteOmega, ev e178]
    with_reducible exact ⟨rfl, rfl⟩
   case hc => exact Z1m _ (OwnT.disc O) (OwnT.blk O 2 rfl) hu
   rintro e w233 ⟨rfl, RE⟩
   replace O := OwnT.ext O RE
   refine ⟨_, rfl, ?_⟩
   intro a232 hE e179 kp
   replace e177 := kt kp e177
   apply Z02 180 hE k rfl rfl rfl rfl rfl e177
   case h =>
    exact Z03 rfl (hE.g e7)
   intro a234 hE e180 kp
   replace e177 := kt kp e177; replace e179 := kt kp e179
   apply Z02 181 hE k rfl rfl rfl rfl rfl e177
   case h =>
    exact Z03 rfl (hE.g e12)
   intro a235 hE e181 kp
   replace e177 := kt kp e177; replace e179 := kt kp e179; replace e180 := kt kp e180
   apply Z02 182 hE k rfl rfl rfl rfl rfl e177
   case h =>
    exact Z07 Try.underlying9 rfl e181
   intro a236 hE e182 kp
   replace e177 := kt kp e177; replace e179 := kt kp e179; replace e180 := kt kp e180
   apply Z02 183 hE k rfl rfl rfl rfl rfl e177
   case h =>
    exact Z1e (m := want.length) (j := 16) rfl e182 rfl rfl (by decide) (by omega)
   intro a237 hE e183 kp
   replace e177 := kt kp e177; replace e179 := kt kp e179; replace e180 := kt kp e180
   replace e183 := e183.trans (Z0e (show ((want.length / 16 : Nat) : Int) = (u : Int) by omega))
   apply Z02 184 hE k rfl rfl rfl rfl rfl e177
   case h =>
    exact Z2m rfl e180 e183 (by omega)
   intro a238 hE e184 kp
   replace e177 := kt kp e177; replace e179 := kt kp e179
   replace e184 := e184.trans (Z0e (show (n : Int) - (u : Int) = ((n - u : Nat) : Int) by omega))
   apply Z02 185 hE k rfl rfl rfl rfl rfl e177
   case h =>
    exact Z09 (Z1s rfl e179 e184) (decide_eq_true rfl)
   intro a239 hE e185 kp
   replace e177 := kt kp e177
   refine sd 186 hE k (Z0b rfl e177 e185) ?_
   intro a240 hE e186 kp
   refine sd 187 hE k (Z03 rfl e186) ?_
   intro a241 hE e187 kp
   apply Z02 188 hE k rfl rfl rfl rfl rfl e187
   case h =>
    exact Z03 rfl (hE.g e6)
   intro a242 hE e188 kp
   replace e187 := kt kp e187
   apply Z0o 189 hE k rfl (by rfl) (by rfl) rfl rfl e187
   case h =>
    simp [go_sem, ↓IntWalk.iteOmega, ev e188]
    with_reducible exact ⟨rfl, rfl⟩
   case hc => exact Z3t _ (OwnT.disc O)
   rintro e w244 ⟨he, RE⟩
   replace O := OwnT.ext O RE
   refine ⟨_, he.trans (by rw [himg]), ?_⟩
   intro a243 hE e189 kp
   replace e187 := kt kp e187
   apply Z02 190 hE k rfl rfl rfl rfl rfl e187
   case h =>
    exact Z03 rfl (hE.g e12)
   intro a245 hE e190 kp
   replace e187 := kt kp e187; replace e189 := kt kp e189
   apply Z02 191 hE k rfl rfl rfl rfl rfl e187
   case h =>
    exact Z03 rfl (hE.g e7)
   intro a246 hE e191 kp
   replace e187 := kt kp e187; replace e189 := kt kp e189; replace e190 := kt kp e190
   apply Z02 192 hE k rfl rfl rfl rfl rfl e187
   case h =>
    exact Z03 rfl (hE.g e12)
   intro a247 hE e192 kp
   replace e187 := kt kp e187; replace e189 := kt kp e189; replace e190 := kt kp e190; replace e191 := kt kp e191
   apply Z02 193 hE k rfl rfl rfl rfl rfl e187
   case h =>
    exact Z07 Try.underlying9 rfl e192
   intro a248 hE e193 kp
   replace e187 := kt kp e187; replace e189 := kt kp e189; replace e190 := kt kp e190; replace e191 := kt kp e191
   apply Z02 194 hE k rfl rfl rfl rfl rfl e187
   case h =>
    exact Z1e (m := want.length) (j := 16) rfl e193 rfl rfl (by decide) (by omega)
   intro a249 hE e194 kp
   replace e187 := kt kp e187; replace e189 := kt kp e189; replace e190 := kt kp e190; replace e191 := kt kp e191
   replace e194 := e194.trans (Z0e (show ((want.length / 16 : Nat) : Int) = (u : Int) by omega))
   apply Z02 195 hE k rfl rfl rfl rfl rfl e187
   case h =>
    exact Z2m rfl e191 e194 (by omega)
   intro a250 hE e195 kp
   replace e187 := kt kp e187; replace e189 := kt kp e189; replace e190 := kt kp e190
   replace e195 := e195.trans (Z0e (show (n : Int) - (u : Int) = ((n - u : Nat) : Int) by omega))
   apply Z0o 196 hE k rfl (by rfl) (by rfl) rfl rfl e187
   case h =>
    simp [go_sem, ↓IntWalk.iteOmega, ev e195]
    with_reducible exact ⟨rfl, rfl⟩
   case hc => exact Z3e (↑(n - u)) (n - u) _ (by omega)
   rintro e w252 ⟨rfl, RE⟩
   replace O := OwnT.ext O RE
   refine ⟨_, rfl, ?_⟩
   intro a251 hE e196 kp
   replace e187 := kt kp e187; replace e189 := kt kp e189; replace e190 := kt kp e190
   apply Z02 197 hE k rfl rfl rfl rfl rfl e187
   case h =>
    exact Z4z (l := want) (m := List.replicate (16 * (n - u)) 0) rfl e190 e196 (by rw [hwl, List.length_replicate]; omega)
   intro a253 hE e197 kp
   replace e187 := kt kp e187; replace e189 := kt kp e189
   apply Z02 198 hE k rfl rfl rfl rfl rfl e187
   case h =>
    exact Z09 (Z7s (l := want ++ List.replicate (16 * (n - u)) 0) (m := want ++ List.replicate (16 * (n - u)) 0) rfl e189 e197) (decide_eq_true rfl)
   intro a254 hE e198 kp
   replace e187 := kt kp e187
   refine sd 199 hE k (Z0b rfl e187 e198) ?_
   intro a255 hE e199 kp
   refine sd 200 hE k (Z03 rfl e199) ?_
   intro a256 hE e200 kp
   apply Z02 201 hE k rfl rfl rfl rfl rfl e200
   case h =>
    exact Z03 rfl (hE.g e17)
   intro a257 hE e201 kp
   replace e200 := kt kp e200
   apply Z02 202 hE k rfl rfl rfl rfl rfl e200
   case h =>
    exact Z09 (Z1s rfl e201 rfl) (decide_eq_true (by omega))
   intro a258 hE e202 kp
   replace e200 := kt kp e200
   refine sd 203 hE k (Z0b rfl e200 e202) ?_
   intro a259 hE e203 kp
   refine sd 204 hE k (Z03 rfl e203) ?_
   intro a260 hE e204 kp
   apply Z02 205 hE k rfl rfl rfl rfl rfl e204
   case h =>
    exact Z03 rfl (hE.g e18)
   intro a261 hE e205 kp
   replace e204 := kt kp e204
   apply Z0o 206 hE k rfl (by rfl) (by rfl) rfl rfl e204
   case h =>
    simp [go_sem, ↓IntWalk.iteOmega, ev e205]
    with_reducible exact ⟨rfl, rfl⟩
   case hc => exact Z7z [] _
   rintro e _ ⟨rfl, rfl⟩
   refine ⟨_, rfl, ?_⟩
   intro a262 hE e206 kp
   replace e204 := kt kp e204
   apply Z02 207 hE k rfl rfl rfl rfl rfl e204
   case h =>
    exact Z09 (Z1s rfl e206 rfl) (decide_eq_true (by omega))
   intro a263 hE e207 kp
   replace e204 := kt kp e204
   refine sd 208 hE k (Z0b rfl e204 e207) ?_
   intro a264 hE e208 kp
   refine sd 209 hE k (Z03 rfl e208) ?_
   intro a265 hE e209 kp
   apply Z02 210 hE k rfl rfl rfl rfl rfl e209
   case h =>
    exact Z03 rfl (hE.g e18)
   intro a266 hE e210 kp
   replace e209 := kt kp e209
   apply Z0o 211 hE k rfl (by rfl) (by rfl) rfl rfl e209
   case h =>
    simp [go_sem, ↓IntWalk.iteOmega, ev e210]
    with_reducible exact ⟨rfl, rfl⟩
   case hc => exact Z6l _
   rintro e _ ⟨rfl, rfl⟩
   refine ⟨_, rfl, ?_⟩
   intro a267 hE e211 kp
   replace e209 := kt kp e209
   apply Z02 212 hE k rfl rfl rfl rfl rfl e209
   case h =>
    exact Z09 (Z1s rfl e211 rfl) (decide_eq_true (by omega))
   intro a268 hE e212 kp
   replace e209 := kt kp e209
   refine sd 213 hE k (Z0b rfl e209 e212) ?_
   intro a269 hE e213 kp
   refine sd 214 hE k (Z03 rfl e213) ?_
   intro a270 hE e214 kp
   apply Z02 215 hE k rfl rfl rfl rfl rfl e214
   case h =>
    exact Z03 rfl (hE.g e18)
   intro a271 hE e215 kp
   replace e214 := kt kp e214
   apply Z0o 216 hE k rfl (by rfl) (by rfl) rfl rfl e214
   case h =>
    simp [go_sem, ↓IntWalk.iteOmega, ev e215]
    with_reducible exact ⟨rfl, rfl⟩
   case hc => exact Z62 _
   rintro e w273 ⟨rfl, RE⟩
   replace O := OwnT.ext O RE
   refine ⟨_, rfl, ?_⟩
   intro a272 hE e216 kp
   replace e214 := kt kp e214
   apply Z02 217 hE k rfl rfl rfl rfl rfl e214
   case h =>
    exact Z1c Try.underlying22 rfl e216
   intro a274 hE e217 kp
   replace e214 := kt kp e214
   apply Z02 218 hE k rfl rfl rfl rfl rfl e214
   case h =>
    exact Z09 (Z1s rfl e217 rfl) (decide_eq_true rfl)
   intro a275 hE e218 kp
   replace e214 := kt kp e214
   refine sd 219 hE k (Z0b rfl e214 e218) ?_
   intro a276 hE e219 kp
   refine sd 220 hE k (Z03 rfl e219) ?_
   intro a277 hE e220 kp
   apply Z02 221 hE k rfl rfl rfl rfl rfl e220
   case h =>
    exact Z03 rfl (hE.g e18)
   intro a278 hE e221 kp
   replace e220 := kt kp e220
   apply Z0o 222 hE k rfl (by rfl) (by rfl) rfl rfl e220
   case h =>
    simp [go_sem, ↓IntWalk.iteOmega, ev e221]
    with_reducible exact ⟨rfl, rfl⟩
   case hc => exact Z6m _
   rintro e w280 ⟨rfl, RE⟩
   replace O := OwnT.ext O RE
   refine ⟨_, rfl, ?_⟩
   intro a279 hE e222 kp
   replace e220 := kt kp e220
   apply Z02 223 hE k rfl rfl rfl rfl rfl e220
   case h =>
    exact Z09 (Z1s rfl e222 rfl) (decide_eq_true rfl)
   intro a281 hE e223 kp
   replace e220 := kt kp e220
   refine sd 224 hE k (Z0b rfl e220 e223) ?_
   intro a282 hE e224 kp
   refine sd 4 hE k (Z01 rfl e224) ?_
   intro a283 hE e4 kp
   refine wpList_nil ?_
   replace k := k.env hE
   clear hE e6 e7 e8 e10 e12 e15 e17 e18
   refine Z00 ?_
   refine wp_ret ?_
   refine Z0f rfl k e4 ?_
   exact ⟨rfl, O.below⟩
theorem tapeExact_walk (w : World) (v0 v1 : Value) (h0 : Arg Try.prog w 9 v0) (h1 : Arg Try.prog w 22 v1) :
 Calls Try.prog 3 #[v0, v1] w fun e w' => e = .returned (.bool true) ∧ Below w.heap.size w w' := by
 obtain ⟨s, rfl, _⟩ := Z6e Try.underlying9 h0
 obtain ⟨A, cap, xs, rfl, _, hrow⟩ := Z7o h1
 rw [← Z83 s]
 exact Z52 A cap _ xs w hrow
section
open Go.ChangeShapes Go.WideShapes Go.ChangeAt
theorem Arg.mk_ {P : Program} {w : World} {t : TypeId} {v : Value} {H : Type} {enc : TypeId × Value → H} {d : DataW H} {p : List MemPlace} {r : Reach} {base : Nat} (h : DataW.Trod enc P w 0 (fun _ => true) true t v d p) (hv : Value.okWide P w r base t v) : Arg P w t v := by
  obtain ⟨fuel, hf⟩ := h
  exact ⟨⟨H, enc, fuel, _, hf⟩, r, base, hv⟩
end
end Go.Proofs.Ytakkhglbdljfiaa
