/- grids: awake, great (printed by XGrH.gen.py). -/
import Derived.Test.YtgdlnfljfiageaaDoorKGridBack17
namespace Go.Proofs.YtgdlnfljfiageaaDoor
attribute [local simp] BigFrame.eval_const BigFrame.eval_global BigFrame.eval_func
set_option linter.unusedVariables false
set_option linter.unusedSimpArgs false
open Go.RowKit

def aw0 : List Tx := [[97], [230, 188, 162], []]
def aw1 : List Tx := [[98, 99, 100], [120], [121]]
def awX : List (List Tx) := [aw0, aw1]
def awS : Tx := [97, 32, 32, 226, 148, 130, 230, 188, 162, 226, 148, 130, 10, 98, 99, 100, 226, 148, 130, 120, 32, 226, 148, 130, 121, 10]
theorem aw_tab : tableB awX = true := by kernel_rfl
theorem aw_text : textL awX = awS := by kernel_rfl
theorem Z6p : partL awS = awX := by kernel_rfl
theorem aw_bad : badW [3, 2, 1] = false := by kernel_rfl
theorem aw_ok : okC awS [3, 2, 1] = true := by kernel_rfl
theorem Z7y : widthL [97, 230, 188, 162, 204, 129] = 3 := by kernel_rfl
theorem aw_fit : fitL 3 [97, 98, 230, 188, 162] = [97, 98, 32] := by kernel_rfl
theorem Z5j {g : Nat} {T : List Tx} {w : World} (h : (tBlk g 9 (txV T).toArray).holds w) : TxR w (some ⟨g, 0, none⟩) T := by
 intro i s hs
 refine ⟨g, 0, rfl, (Array.getElem?_eq_some_iff.1 (show w.heap[g]? = some _ from h)).1, ?_⟩
 rw [Nat.zero_add, (show Blk _ _ _ _ from h).cell i, List.getElem?_toArray]
 unfold txV
 rw [List.getElem?_map, hs]
 rfl
theorem txs_blk {g : Nat} {vs : List Value} {X : List (List Tx)} {w : World} (h : (tBlk g 36 vs.toArray).holds w) (hv : ∀ (i : Nat) (T : List Tx), X[i]? = some T → ∃ (Ai : Option Addr) (ci : Nat), vs[i]? = some (.slice Ai T.length ci) ∧ TxR w Ai T) : TxsR w (some ⟨g, 0, none⟩) X := by
 intro i T hT
 obtain ⟨Ai, ci, h1, h2⟩ := hv i T hT
 refine ⟨g, 0, Ai, ci, rfl, (Array.getElem?_eq_some_iff.1 (show w.heap[g]? = some _ from h)).1, ?_, h2⟩
 rw [Nat.zero_add, (show Blk _ _ _ _ from h).cell i, List.getElem?_toArray, h1]
theorem Z7l {g : Nat} {xs : List Int} {w : World} (h : (tBlk g 3 (xs.map (Value.int .i64)).toArray).holds w) : Row1 w (some ⟨g, 0, none⟩) (Value.int .i64) xs := by
 intro i x hx
 refine ⟨g, 0, rfl, (Array.getElem?_eq_some_iff.1 (show w.heap[g]? = some _ from h)).1, ?_⟩
 rw [Nat.zero_add, (show Blk _ _ _ _ from h).cell i, List.getElem?_toArray, List.getElem?_map, hx]
 rfl
/-- Which case of Cells. -/
def CellsP (s : Tx) (xs : List Int) (e : Ending) (w' : World) : Prop := badW xs = true ∧ e = .returned (.tuple #[.slice none 0 0, .int .i64 1]) ∨ badW xs = false ∧ okC s xs = false ∧ e = .returned (.tuple #[.slice none 0 0, .int .i64 3]) ∨ badW xs = false ∧ okC s xs = true ∧ ∃ B cap, e = .returned (.tuple #[.slice B (partL s).length cap, .int .i64 0]) ∧ TxsR w' B (partL s)
theorem Z4u {s : Tx} {xs : List Int} {e : Ending} {w' : World} (h1 : badW xs = false) (h2 : okC s xs = true) (h : CellsP s xs e w') : ∃ B cap, e = .returned (.tuple #[.slice B (partL s).length cap, .int .i64 0]) ∧ TxsR w' B (partL s) := by
 rcases h with ⟨h, _⟩ | ⟨_, h, _⟩ | ⟨_, _, h⟩
 · rw [h1] at h; cases h
 · rw [h2] at h; cases h
 · exact h
theorem Z7u {s : Tx} {xs : List Int} {e : Ending} {w' : World} (h1 : badW xs = false) (h2 : okC s xs = false) (h : CellsP s xs e w') : e = .returned (.tuple #[.slice none 0 0, .int .i64 3]) := by
 rcases h with ⟨h, _⟩ | ⟨_, _, h⟩ | ⟨_, h, _⟩
 · rw [h1] at h; cases h
 · exact h
 · rw [h2] at h; cases h
def bigB (T : List Tx) : Bool := decide (10 < T.length) || T.any fun s => decide (40 < s.length)
def greatB (X : List (List Tx)) : Bool := decide (20 < X.length) || X.any bigB

set_option maxRecDepth 100000 in
set_option maxHeartbeats 4000000 in
theorem awake37 (W0 : World) (hv : VarW W0) : Calls Tryd.prog 7 #[] W0 fun e w' => e = .returned (.bool true) ∧ Ext W0 w' := by
 have O := OwnT.start W0
 refine Z0k Tryd.func7 rfl 64 rfl (by rfl) ?_
 intro a1 k hargs
 clear hargs
 refine wp_seq ?_
 refine wp_region_lit ?_
 have hE := Env.refl a1 [0]
 refine sd 0 hE k (Z01 rfl rfl) ?_
 intro a2 hE e0 kp
 refine wpList_nil ?_
 replace k := k.env hE
 clear hE e0
 refine Z00 (wp_seq ?_)
 refine wp_region_lit ?_
 have hE := Env.refl a2 [6, 7, 8, 9, 5, 10, 11, 1, 2]
 refine Z16 (m := 3) (c := 3) O (cs := #[.string (sB ([97])), .string (sB ([230, 188, 162])), .string (sB ([]))]) (t := 9) 6 hE k rfl (by rfl) (by rfl) rfl (by simp [go_sem, ↓IntWalk.iteOmega, sB]) ?_
 clear O
 intro g1 a3 w4 O hE e6 kp
 refine Z16 (m := 3) (c := 3) O (cs := #[.string (sB ([98, 99, 100])), .string (sB ([120])), .string (sB ([121]))]) (t := 9) 7 hE k rfl (by rfl) (by rfl) rfl (by simp [go_sem, ↓IntWalk.iteOmega, sB]) ?_
 clear O
 intro g2 a5 w6 O hE e7 kp
 replace e6 := kt kp e6
 refine Z16 (m := 2) (c := 2) O (cs := #[.slice (some ⟨g1, 0, none⟩) 3 3, .slice (some ⟨g2, 0, none⟩) 3 3]) (t := 36) 8 hE k rfl (by rfl) (by rfl) rfl (by simp [go_sem, ↓IntWalk.iteOmega, ev e6, ev e7]) ?_
 clear O
 intro g3 a7 w8 O hE e8 kp
 apply Z08 9 hE k rfl (by rfl) (by rfl) rfl
 case h =>
  simp [go_sem, ↓IntWalk.iteOmega, ev e8]
  with_reducible exact ⟨rfl, rfl⟩
 case hc => exact Z15 (X := awX) _ (txs_blk (vs := [.slice (some ⟨g1, 0, none⟩) aw0.length 3, .slice (some ⟨g2, 0, none⟩) aw1.length 3]) (OwnT.get O 0 rfl) (fun i T hT => by match i, hT with | 0, hT => (injection hT with hT; subst hT; exact ⟨_, _, rfl, Z5j (OwnT.get O 2 rfl)⟩) | 1, hT => (injection hT with hT; subst hT; exact ⟨_, _, rfl, Z5j (OwnT.get O 1 rfl)⟩))) (by decide) (by decide) (hv.below O.below)
 rintro e w10 ⟨he, RE⟩
 replace O := OwnT.ext O RE
 refine ⟨_, he.trans (by rw [aw_tab, aw_text]; first | done | rfl), ?_⟩
 intro a9 hE e9 kp
 refine sd 5 hE k (Z02 rfl e9) ?_
 intro a11 hE e5 kp
 apply Z05 10 hE k rfl rfl rfl rfl
 case h =>
  simp [go_sem, ↓IntWalk.iteOmega, ev e5]
  with_reducible rfl
 intro a12 hE e10 kp
 replace e5 := kt kp e5
 apply Z05 11 hE k rfl rfl rfl rfl
 case h =>
  simp [go_sem, ↓IntWalk.iteOmega, ev e5]
  with_reducible rfl
 intro a13 hE e11 kp
 replace e10 := kt kp e10
 refine sd 1 hE k (Z01 rfl e10) ?_
 intro a14 hE e1 kp
 replace e11 := kt kp e11
 refine sd 2 hE k (Z01 rfl e11) ?_
 intro a15 hE e2 kp
 replace e1 := kt kp e1
 refine wpList_nil ?_
 replace k := k.env hE
 clear hE
 refine Z00 (wp_seq ?_)
 refine wp_region_lit ?_
 have hE := Env.refl a15 [13, 14, 15, 12, 16, 17, 3, 4]
 refine zm 13 hE k e1 ?_
 intro a16 hE e13 kp
 refine Z16 (m := 3) (c := 3) O (cs := #[.int .i64 3, .int .i64 2, .int .i64 1]) (t := 3) 14 hE k rfl (by rfl) (by rfl) rfl (by simp [go_sem, ↓IntWalk.iteOmega]) ?_
 clear O
 intro g4 a17 w18 O hE e14 kp
 replace e13 := kt kp e13
 apply Z08 15 hE k rfl (by rfl) (by rfl) rfl
 case h =>
  simp [go_sem, ↓IntWalk.iteOmega, ev e13, ev e14]
  with_reducible exact ⟨rfl, rfl⟩
 case hc => exact Z1l (xs := [3, 2, 1]) awS _ (Z7l (OwnT.get O 0 rfl)) (by decide) (by decide) (by rw [Z6p]; decide) (hv.below O.below)
 rintro e w20 ⟨hcp, RE⟩
 obtain ⟨Bz, cz, he, hrz⟩ := Z4u aw_bad aw_ok hcp
 rw [Z6p] at he hrz
 obtain ⟨b4, o4, e4z, hsp⟩ := hrz.spot (i := 0) (T := aw0) rfl
 subst e4z
 obtain ⟨A0, c0, hr0, hc0⟩ := hsp 0 aw0 rfl
 simp only [Nat.add_zero] at hc0
 obtain ⟨b5, o5, e5z, hq⟩ := hr0.spot (i := 0) (s := [97]) rfl
 subst e5z
 have hw := Ext.refl w20
 clear hsp hr0 hrz hcp
 replace O := OwnT.ext O RE
 refine ⟨_, he, ?_⟩
 intro a19 hE e15 kp
 refine sd 12 hE k (Z02 rfl e15) ?_
 intro a21 hE e12 kp
 apply Z05 16 hE k rfl rfl rfl rfl
 case h =>
  simp [go_sem, ↓IntWalk.iteOmega, ev e12]
  with_reducible rfl
 intro a22 hE e16 kp
 replace e12 := kt kp e12
 apply Z05 17 hE k rfl rfl rfl rfl
 case h =>
  simp [go_sem, ↓IntWalk.iteOmega, ev e12]
  with_reducible rfl
 intro a23 hE e17 kp
 replace e16 := kt kp e16
 refine sd 3 hE k (Z01 rfl e16) ?_
 intro a24 hE e3 kp
 replace e17 := kt kp e17
 refine sd 4 hE k (Z01 rfl e17) ?_
 intro a25 hE e4 kp
 replace e3 := kt kp e3
 refine wpList_nil ?_
 replace e1 := hE.g e1; replace e2 := hE.g e2
 replace k := k.env hE
 clear hE
 refine Z00 (wp_seq ?_)
 refine wp_region_lit ?_
 have hE := Env.refl a25 [18, 19, 20, 21, 22, 23, 24, 25, 26, 27, 28, 29, 30, 31, 32, 33, 34, 35, 36, 37, 38, 39, 40, 41, 42, 43, 44, 45, 46, 47, 48, 49, 50, 51, 52, 53, 54, 55, 56, 57, 58, 59, 60, 61, 62, 63, 0]
 apply Z08 18 hE k rfl (by rfl) (by rfl) rfl
 case h =>
  simp [go_sem, ↓IntWalk.iteOmega]
  with_reducible exact ⟨rfl, rfl⟩
 case hc => exact Z1k [97, 230, 188, 162, 204, 129] _ (by decide)
 rintro e w27 ⟨he, RE⟩
 replace O := OwnT.ext O RE
 replace hw := Ext.trans hw RE
 refine ⟨_, he.trans (by rw [Z7y]), ?_⟩
 intro a26 hE e18 kp
 refine sd 19 hE k (Z06 (Z18 rfl e18 rfl) (decide_eq_true rfl)) ?_
 intro a28 hE e19 kp
 refine sd 20 hE k (Z02 rfl e19) ?_
 intro a29 hE e20 kp
 apply Z10 21 hE k rfl (by rfl) (by rfl) rfl rfl e20
 case h =>
  simp [go_sem, ↓IntWalk.iteOmega]
  with_reducible exact ⟨rfl, rfl⟩
 case hc => exact Z7m [97, 98, 230, 188, 162] 3 3 _ (by decide) (by decide)
 rintro e w31 ⟨he, RE⟩
 replace O := OwnT.ext O RE
 replace hw := Ext.trans hw RE
 refine ⟨_, he.trans (by rw [aw_fit]), ?_⟩
 intro a30 hE e21 kp
 replace e20 := kt kp e20
 apply Z03 22 hE k rfl rfl rfl rfl rfl e20
 case h =>
  exact Z06 (Z25 (l := [97, 98, 32]) (m := [97, 98, 32]) rfl e21 rfl) (decide_eq_true rfl)
 intro a32 hE e22 kp
 replace e20 := kt kp e20
 refine sd 23 hE k (Z09 rfl e20 e22) ?_
 intro a33 hE e23 kp
 refine sd 24 hE k (Z02 rfl e23) ?_
 intro a34 hE e24 kp
 apply Z03 25 hE k rfl rfl rfl rfl rfl e24
 case h =>
  exact Z02 rfl (hE.g e2)
 intro a35 hE e25 kp
 replace e24 := kt kp e24
 apply Z03 26 hE k rfl rfl rfl rfl rfl e24
 case h =>
  exact Z06 (Z18 rfl e25 rfl) (decide_eq_true rfl)
 intro a36 hE e26 kp
 replace e24 := kt kp e24
 refine sd 27 hE k (Z09 rfl e24 e26) ?_
 intro a37 hE e27 kp
 refine sd 28 hE k (Z02 rfl e27) ?_
 intro a38 hE e28 kp
 apply Z03 29 hE k rfl rfl rfl rfl rfl e28
 case h =>
  exact Z02 rfl (hE.g e1)
 intro a39 hE e29 kp
 replace e28 := kt kp e28
 apply Z03 30 hE k rfl rfl rfl rfl rfl e28
 case h =>
  exact Z06 (Z25 (l := awS) (m := [97, 32, 32, 226, 148, 130, 230, 188, 162, 226, 148, 130, 10, 98, 99, 100, 226, 148, 130, 120, 32, 226, 148, 130, 121, 10]) rfl e29 rfl) (decide_eq_true rfl)
 intro a40 hE e30 kp
 replace e28 := kt kp e28
 refine sd 31 hE k (Z09 rfl e28 e30) ?_
 intro a41 hE e31 kp
 refine sd 32 hE k (Z02 rfl e31) ?_
 intro a42 hE e32 kp
 apply Z03 33 hE k rfl rfl rfl rfl rfl e32
 case h =>
  exact Z02 rfl (hE.g e4)
 intro a43 hE e33 kp
 replace e32 := kt kp e32
 apply Z03 34 hE k rfl rfl rfl rfl rfl e32
 case h =>
  exact Z06 (Z18 rfl e33 rfl) (decide_eq_true rfl)
 intro a44 hE e34 kp
 replace e32 := kt kp e32
 refine sd 35 hE k (Z09 rfl e32 e34) ?_
 intro a45 hE e35 kp
 refine sd 36 hE k (Z02 rfl e35) ?_
 intro a46 hE e36 kp
 apply Z03 37 hE k rfl rfl rfl rfl rfl e36
 case h =>
  exact Z02 rfl (hE.g e3)
 intro a47 hE e37 kp
 replace e36 := kt kp e36
 apply Z03 38 hE k rfl rfl rfl rfl rfl e36
 case h =>
  exact Z0d Tryd.underlying22 rfl e37
 intro a48 hE e38 kp
 replace e36 := kt kp e36
 apply Z03 39 hE k rfl rfl rfl rfl rfl e36
 case h =>
  exact Z06 (Z18 rfl e38 rfl) (decide_eq_true rfl)
 intro a49 hE e39 kp
 replace e36 := kt kp e36
 refine sd 40 hE k (Z09 rfl e36 e39) ?_
 intro a50 hE e40 kp
 refine sd 41 hE k (Z02 rfl e40) ?_
 intro a51 hE e41 kp
 apply Z03 42 hE k rfl rfl rfl rfl rfl e41
 case h =>
  exact Z02 rfl (hE.g e3)
 intro a52 hE e42 kp
 replace e41 := kt kp e41
 apply Z03 43 hE k rfl rfl rfl rfl rfl e41
 case h =>
  simp [go_sem, ↓IntWalk.iteOmega, ev e42, awX]
  with_reducible rfl
 intro a53 hE e43 kp
 replace e41 := kt kp e41
 apply Z03 44 hE k rfl rfl rfl rfl rfl e41
 case h =>
  simp [go_sem, ↓IntWalk.iteOmega, ev e43, hc0 _ hw]
  with_reducible rfl
 intro a54 hE e44 kp
 replace e41 := kt kp e41
 apply Z03 45 hE k rfl rfl rfl rfl rfl e41
 case h =>
  exact Z0d Tryd.underlying36 rfl e44
 intro a55 hE e45 kp
 replace e41 := kt kp e41
 apply Z03 46 hE k rfl rfl rfl rfl rfl e41
 case h =>
  exact Z06 (Z18 rfl e45 rfl) (decide_eq_true rfl)
 intro a56 hE e46 kp
 replace e41 := kt kp e41
 refine sd 47 hE k (Z09 rfl e41 e46) ?_
 intro a57 hE e47 kp
 refine sd 48 hE k (Z02 rfl e47) ?_
 intro a58 hE e48 kp
 apply Z03 49 hE k rfl rfl rfl rfl rfl e48
 case h =>
  exact Z02 rfl (hE.g e3)
 intro a59 hE e49 kp
 replace e48 := kt kp e48
 apply Z03 50 hE k rfl rfl rfl rfl rfl e48
 case h =>
  simp [go_sem, ↓IntWalk.iteOmega, ev e49, awX]
  with_reducible rfl
 intro a60 hE e50 kp
 replace e48 := kt kp e48
 apply Z03 51 hE k rfl rfl rfl rfl rfl e48
 case h =>
  simp [go_sem, ↓IntWalk.iteOmega, ev e50, hc0 _ hw]
  with_reducible rfl
 intro a61 hE e51 kp
 replace e48 := kt kp e48
 apply Z03 52 hE k rfl rfl rfl rfl rfl e48
 case h =>
  simp [go_sem, ↓IntWalk.iteOmega, ev e51, aw0]
  with_reducible rfl
 intro a62 hE e52 kp
 replace e48 := kt kp e48
 apply Z03 53 hE k rfl rfl rfl rfl rfl e48
 case h =>
  simp [go_sem, ↓IntWalk.iteOmega, ev e52, hq _ hw 1 [230, 188, 162] rfl]
  with_reducible rfl
 intro a63 hE e53 kp
 replace e48 := kt kp e48
 apply Z03 54 hE k rfl rfl rfl rfl rfl e48
 case h =>
  exact Z06 (Z25 (l := [230, 188, 162]) (m := [230, 188, 162]) rfl e53 rfl) (decide_eq_true rfl)
 intro a64 hE e54 kp
 replace e48 := kt kp e48
 refine sd 55 hE k (Z09 rfl e48 e54) ?_
 intro a65 hE e55 kp
 refine sd 56 hE k (Z02 rfl e55) ?_
 intro a66 hE e56 kp
 apply Z03 57 hE k rfl rfl rfl rfl rfl e56
 case h =>
  exact Z02 rfl (hE.g e3)
 intro a67 hE e57 kp
 replace e56 := kt kp e56
 apply Z03 58 hE k rfl rfl rfl rfl rfl e56
 case h =>
  simp [go_sem, ↓IntWalk.iteOmega, ev e57, awX]
  with_reducible rfl
 intro a68 hE e58 kp
 replace e56 := kt kp e56
 apply Z03 59 hE k rfl rfl rfl rfl rfl e56
 case h =>
  simp [go_sem, ↓IntWalk.iteOmega, ev e58, hc0 _ hw]
  with_reducible rfl
 intro a69 hE e59 kp
 replace e56 := kt kp e56
 apply Z03 60 hE k rfl rfl rfl rfl rfl e56
 case h =>
  simp [go_sem, ↓IntWalk.iteOmega, ev e59, aw0]
  with_reducible rfl
 intro a70 hE e60 kp
 replace e56 := kt kp e56
 apply Z03 61 hE k rfl rfl rfl rfl rfl e56
 case h =>
  simp [go_sem, ↓IntWalk.iteOmega, ev e60, hq _ hw 2 [] rfl]
  with_reducible rfl
 intro a71 hE e61 kp
 replace e56 := kt kp e56
 apply Z03 62 hE k rfl rfl rfl rfl rfl e56
 case h =>
  exact Z06 (Z25 (l := []) (m := []) rfl e61 rfl) (decide_eq_true rfl)
 intro a72 hE e62 kp
 replace e56 := kt kp e56
 refine sd 63 hE k (Z09 rfl e56 e62) ?_
 intro a73 hE e63 kp
 refine sd 0 hE k (Z01 rfl e63) ?_
 intro a74 hE e0 kp
 refine wpList_nil ?_
 replace k := k.env hE
 clear hE e1 e2 e3 e4
 refine Z00 ?_
 refine wp_ret ?_
 refine Z0b rfl k e0 ?_
 exact ⟨rfl, O.below⟩
set_option maxRecDepth 100000 in
set_option maxHeartbeats 4000000 in
theorem Z1g {A : Option Addr} {ca : Nat} {X : List (List Tx)} (W0 : World) (h : TxsR W0 A X) : Calls Tryd.prog 8 #[.slice A X.length ca] W0 fun e w' => e = .returned (.bool (greatB X)) ∧ Ext W0 w' := by
 have O := OwnT.start W0
 refine Z0k Tryd.func8 rfl 38 rfl (by rfl) ?_
 intro a1 k hargs
 have e0 : a1.eval (.tmp 0) = .slice A X.length ca := hargs 0 _ rfl
 clear hargs
 by_cases hbig : 20 < X.length
 · skip
   refine wp_seq ?_
   refine wp_region_lit ?_
   have hE := Env.refl a1 [2]
   refine sd 2 hE k (Z01 rfl rfl) ?_
   intro a2 hE e2 kp
   refine wpList_nil ?_
   replace e0 := hE.g e0
   replace k := k.env hE
   clear hE e2
   refine Z00 (wp_seq ?_)
   refine wp_seq ?_
   refine wp_region_lit ?_
   have hE := Env.refl a2 [5, 6, 7]
   refine zm 5 hE k e0 ?_
   intro a3 hE e5 kp
   refine sd 6 hE k (Z0d Tryd.underlying22 rfl e5) ?_
   intro a4 hE e6 kp
   refine sd 7 hE k (Z06 (Z17 rfl e6 rfl) (decide_eq_true (by omega))) ?_
   intro a5 hE e7 kp
   refine wpList_nil ?_
   replace e0 := hE.g e0
   replace k := k.env hE
   clear hE
   refine Z00 ?_
   refine Z0a e7 rfl ?_
   refine wp_seq ?_
   refine wp_region_lit ?_
   have hE := Env.refl a5 [2]
   refine sd 2 hE k (Z01 rfl rfl) ?_
   intro a6 hE e2 kp
   refine wpList_nil ?_
   replace k := k.env hE
   clear hE e0 e7
   refine Z00 ?_
   refine wp_ret ?_
   refine Z0c ?_
   refine Z0b rfl k e2 ?_
   exact ⟨congrArg (fun b => Ending.returned (.bool b)) (show true = greatB X by unfold greatB; rw [decide_eq_true hbig]; rfl), O.below⟩
 · have hgr : greatB X = X.any bigB := by unfold greatB; rw [decide_eq_false hbig]; rfl
   refine wp_seq ?_
   refine wp_region_lit ?_
   have hE := Env.refl a1 [2]
   refine sd 2 hE k (Z01 rfl rfl) ?_
   intro a7 hE e2 kp
   refine wpList_nil ?_
   replace e0 := hE.g e0
   replace k := k.env hE
   clear hE e2
   refine Z00 (wp_seq ?_)
   refine wp_seq ?_
   refine wp_region_lit ?_
   have hE := Env.refl a7 [5, 6, 7]
   refine zm 5 hE k e0 ?_
   intro a8 hE e5 kp
   refine sd 6 hE k (Z0d Tryd.underlying22 rfl e5) ?_
   intro a9 hE e6 kp
   refine sd 7 hE k (Z06 (Z17 rfl e6 rfl) (decide_eq_false (by omega))) ?_
   intro a10 hE e7 kp
   refine wpList_nil ?_
   replace e0 := hE.g e0
   replace k := k.env hE
   clear hE
   refine Z00 ?_
   refine Z0e e7 rfl ?_
   refine wp_skip ?_
   refine Z00 (wp_seq ?_)
   refine wp_seq ?_
   refine wp_region_lit ?_
   have hE := Env.refl a10 [3]
   refine sd 3 hE k (Z01 rfl rfl) ?_
   intro a11 hE e3 kp
   refine wpList_nil ?_
   replace e0 := hE.g e0
   replace k := k.env hE
   clear hE e7
   refine Z00 ?_
   refine wp_block ?_
   refine wp_loop (fun a w => Fr 38 a ∧ a.eval (.tmp 0) = .slice A X.length ca ∧ ∃ (i : Nat), a.eval (.tmp 3) = .int .i64 ↑i ∧ i ≤ X.length ∧ (∀ T ∈ X.take i, bigB T = false) ∧ OwnT W0.heap.size W0 [] w) (fun a w => X.length - (intOf (a.eval (.tmp 3))).toNat) ?_ ?_
   · exact ⟨k, e0, 0, e3, Nat.zero_le _, (fun y h => by simp at h), O⟩
   intro a12 w13 hI
   clear k e0
   obtain ⟨k, e0, h_⟩ := hI
   clear O e3
   obtain ⟨i, e3, hi, hall, O⟩ := h_
   have mi := e3
   by_cases hlt : i < X.length
   · skip
     have hzI : (i : Int) < (X.length : Int) := by omega
     obtain ⟨T, hT⟩ : ∃ T, X[i]? = some T := ⟨_, List.getElem?_eq_getElem hlt⟩
     obtain ⟨b, o, hA, hsp⟩ := h.spot hT
     obtain ⟨Aj, cj, hr, hc⟩ := hsp i T hT
     have hmem := List.mem_of_getElem? hT
     subst hA

     by_cases q1 : 10 < T.length
     · skip
       refine wp_seq ?_
       refine wp_seq ?_
       refine wp_region_lit ?_
       have hE := Env.refl a12 [8, 9, 10, 11]
       refine zm 8 hE k e3 ?_
       intro a14 hE e8 kp
       refine zm 9 hE k e0 ?_
       intro a15 hE e9 kp
       replace e8 := kt kp e8
       refine sd 10 hE k (Z0d Tryd.underlying22 rfl e9) ?_
       intro a16 hE e10 kp
       replace e8 := kt kp e8
       refine sd 11 hE k (Z06 (Z0j rfl e8 e10) (decide_eq_true (by omega))) ?_
       intro a17 hE e11 kp
       refine wpList_nil ?_
       replace e0 := hE.g e0; replace e3 := hE.g e3
       replace k := k.env hE
       clear hE
       refine Z00 ?_
       refine Z0a e11 rfl ?_
       refine wp_skip ?_
       refine Z00 (wp_seq ?_)
       refine wp_block ?_
       refine wp_seq ?_
       refine wp_seq ?_
       refine wp_region_lit ?_
       have hE := Env.refl a17 [14, 15, 16, 17, 18, 19]
       refine zm 14 hE k e0 ?_
       intro a18 hE e14 kp
       refine zm 15 hE k e3 ?_
       intro a19 hE e15 kp
       replace e14 := kt kp e14
       apply Z05 16 hE k rfl rfl rfl rfl
       case h =>
        simp [go_sem, ↓IntWalk.iteOmega, ev e14, ev e15]
        with_reducible rfl
       intro a20 hE e16 kp
       apply Z05 17 hE k rfl rfl rfl rfl
       case h =>
        simp [go_sem, ↓IntWalk.iteOmega, ev e16, hc _ O.below]
        with_reducible rfl
       intro a21 hE e17 kp
       refine sd 18 hE k (Z0d Tryd.underlying36 rfl e17) ?_
       intro a22 hE e18 kp
       refine sd 19 hE k (Z06 (Z17 rfl e18 rfl) (decide_eq_true (by omega))) ?_
       intro a23 hE e19 kp
       refine wpList_nil ?_
       replace e0 := hE.g e0; replace e3 := hE.g e3
       replace k := k.env hE
       clear hE e11
       refine Z00 ?_
       refine Z0a e19 rfl ?_
       refine wp_seq ?_
       refine wp_region_lit ?_
       have hE := Env.refl a23 [2]
       refine sd 2 hE k (Z01 rfl rfl) ?_
       intro a24 hE e2 kp
       refine wpList_nil ?_
       replace k := k.env hE
       clear hE e0 e3 e19
       refine Z00 ?_
       refine wp_ret ?_
       refine Z0c ?_
       refine Z0o ?_
       refine Z0c ?_
       refine Z0c ?_
       refine Z0o ?_
       refine Z0c ?_
       refine Z0b rfl k e2 ?_
       exact ⟨congrArg (fun b => Ending.returned (.bool b)) (hgr.trans (List.any_eq_true.2 ⟨T, hmem, by unfold bigB; rw [decide_eq_true q1]; rfl⟩)).symm, O.below⟩
     · skip
       refine wp_seq ?_
       refine wp_seq ?_
       refine wp_region_lit ?_
       have hE := Env.refl a12 [8, 9, 10, 11]
       refine zm 8 hE k e3 ?_
       intro a25 hE e8 kp
       refine zm 9 hE k e0 ?_
       intro a26 hE e9 kp
       replace e8 := kt kp e8
       refine sd 10 hE k (Z0d Tryd.underlying22 rfl e9) ?_
       intro a27 hE e10 kp
       replace e8 := kt kp e8
       refine sd 11 hE k (Z06 (Z0j rfl e8 e10) (decide_eq_true (by omega))) ?_
       intro a28 hE e11 kp
       refine wpList_nil ?_
       replace e0 := hE.g e0; replace e3 := hE.g e3
       replace k := k.env hE
       clear hE
       refine Z00 ?_
       refine Z0a e11 rfl ?_
       refine wp_skip ?_
       refine Z00 (wp_seq ?_)
       refine wp_block ?_
       refine wp_seq ?_
       refine wp_seq ?_
       refine wp_region_lit ?_
       have hE := Env.refl a28 [14, 15, 16, 17, 18, 19]
       refine zm 14 hE k e0 ?_
       intro a29 hE e14 kp
       refine zm 15 hE k e3 ?_
       intro a30 hE e15 kp
       replace e14 := kt kp e14
       apply Z05 16 hE k rfl rfl rfl rfl
       case h =>
        simp [go_sem, ↓IntWalk.iteOmega, ev e14, ev e15]
        with_reducible rfl
       intro a31 hE e16 kp
       apply Z05 17 hE k rfl rfl rfl rfl
       case h =>
        simp [go_sem, ↓IntWalk.iteOmega, ev e16, hc _ O.below]
        with_reducible rfl
       intro a32 hE e17 kp
       refine sd 18 hE k (Z0d Tryd.underlying36 rfl e17) ?_
       intro a33 hE e18 kp
       refine sd 19 hE k (Z06 (Z17 rfl e18 rfl) (decide_eq_false (by omega))) ?_
       intro a34 hE e19 kp
       refine wpList_nil ?_
       replace e0 := hE.g e0; replace e3 := hE.g e3
       replace k := k.env hE
       clear hE e11
       refine Z00 ?_
       refine Z0e e19 rfl ?_
       refine wp_skip ?_
       refine Z00 (wp_seq ?_)
       refine wp_region_lit ?_
       have hE := Env.refl a34 [4]
       refine sd 4 hE k (Z01 rfl rfl) ?_
       intro a35 hE e4 kp
       refine wpList_nil ?_
       replace e0 := hE.g e0; replace e3 := hE.g e3
       replace k := k.env hE
       clear hE e19
       refine Z00 ?_
       refine wp_block ?_
       refine wp_loop (fun a w => Fr 38 a ∧ a.eval (.tmp 0) = .slice (some ⟨b, o, none⟩) X.length ca ∧ a.eval (.tmp 3) = .int .i64 ↑i ∧ ∃ (j : Nat), a.eval (.tmp 4) = .int .i64 ↑j ∧ j ≤ T.length ∧ (∀ s ∈ T.take j, ¬ 40 < s.length) ∧ OwnT W0.heap.size W0 [] w) (fun a w => T.length - (intOf (a.eval (.tmp 4))).toNat) ?_ ?_
       · exact ⟨k, e0, e3, 0, e4, Nat.zero_le _, (fun y h => by simp at h), O⟩
       intro a36 w37 hJ
       clear k e0 e3
       obtain ⟨k, e0, e3, h_⟩ := hJ
       clear O e4
       obtain ⟨j, e4, hj, hal2, O⟩ := h_
       have mj := e4
       by_cases hlj : j < T.length
       · skip
         refine wp_seq ?_
         refine wp_seq ?_
         refine wp_region_lit ?_
         have hE := Env.refl a36 [20, 21, 22, 23, 24, 25, 26]
         refine zm 20 hE k e4 ?_
         intro a38 hE e20 kp
         refine zm 21 hE k e0 ?_
         intro a39 hE e21 kp
         replace e20 := kt kp e20
         refine zm 22 hE k e3 ?_
         intro a40 hE e22 kp
         replace e20 := kt kp e20; replace e21 := kt kp e21
         apply Z05 23 hE k rfl rfl rfl rfl
         case h =>
          simp [go_sem, ↓IntWalk.iteOmega, ev e21, ev e22]
          with_reducible rfl
         intro a41 hE e23 kp
         replace e20 := kt kp e20
         apply Z05 24 hE k rfl rfl rfl rfl
         case h =>
          simp [go_sem, ↓IntWalk.iteOmega, ev e23, hc _ O.below]
          with_reducible rfl
         intro a42 hE e24 kp
         replace e20 := kt kp e20
         refine sd 25 hE k (Z0d Tryd.underlying36 rfl e24) ?_
         intro a43 hE e25 kp
         replace e20 := kt kp e20
         refine sd 26 hE k (Z06 (Z0j rfl e20 e25) (decide_eq_true (by omega))) ?_
         intro a44 hE e26 kp
         refine wpList_nil ?_
         replace e0 := hE.g e0; replace e3 := hE.g e3; replace e4 := hE.g e4
         replace k := k.env hE
         clear hE
         refine Z00 ?_
         refine Z0a e26 rfl ?_
         refine wp_skip ?_
         refine Z00 (wp_seq ?_)
         refine wp_block ?_
         obtain ⟨s, hs⟩ : ∃ s, T[j]? = some s := ⟨_, List.getElem?_eq_getElem hlj⟩
         obtain ⟨b2, o2, hA2, hsp2⟩ := hr.spot hs
         subst hA2

         by_cases q2 : 40 < s.length
         · skip
           refine wp_seq ?_
           refine wp_region_lit ?_
           have hE := Env.refl a44 [29, 30, 31, 32, 33, 34, 35, 36, 37]
           refine zm 29 hE k e0 ?_
           intro a45 hE e29 kp
           refine zm 30 hE k e3 ?_
           intro a46 hE e30 kp
           replace e29 := kt kp e29
           apply Z05 31 hE k rfl rfl rfl rfl
           case h =>
            simp [go_sem, ↓IntWalk.iteOmega, ev e29, ev e30]
            with_reducible rfl
           intro a47 hE e31 kp
           apply Z05 32 hE k rfl rfl rfl rfl
           case h =>
            simp [go_sem, ↓IntWalk.iteOmega, ev e31, hc _ O.below]
            with_reducible rfl
           intro a48 hE e32 kp
           refine zm 33 hE k e4 ?_
           intro a49 hE e33 kp
           replace e32 := kt kp e32
           apply Z05 34 hE k rfl rfl rfl rfl
           case h =>
            simp [go_sem, ↓IntWalk.iteOmega, ev e32, ev e33]
            with_reducible rfl
           intro a50 hE e34 kp
           apply Z05 35 hE k rfl rfl rfl rfl
           case h =>
            simp [go_sem, ↓IntWalk.iteOmega, ev e34, hsp2 _ O.below j s hs]
            with_reducible rfl
           intro a51 hE e35 kp
           refine sd 36 hE k (Z2v Tryd.underlying9 rfl e35) ?_
           intro a52 hE e36 kp
           refine sd 37 hE k (Z06 (Z17 rfl e36 rfl) (decide_eq_true (by omega))) ?_
           intro a53 hE e37 kp
           refine wpList_nil ?_
           replace e0 := hE.g e0; replace e3 := hE.g e3; replace e4 := hE.g e4
           replace k := k.env hE
           clear hE e26
           refine Z00 ?_
           refine Z0a e37 rfl ?_
           refine wp_seq ?_
           refine wp_region_lit ?_
           have hE := Env.refl a53 [2]
           refine sd 2 hE k (Z01 rfl rfl) ?_
           intro a54 hE e2 kp
           refine wpList_nil ?_
           replace k := k.env hE
           clear hE e0 e3 e4 e37
           refine Z00 ?_
           refine wp_ret ?_
           refine Z0o ?_
           refine Z0c ?_
           refine Z0c ?_
           refine Z0o ?_
           refine Z0o ?_
           refine Z0c ?_
           refine Z0c ?_
           refine Z0o ?_
           refine Z0c ?_
           refine Z0b rfl k e2 ?_
           exact ⟨congrArg (fun b => Ending.returned (.bool b)) (hgr.trans (List.any_eq_true.2 ⟨T, hmem, by unfold bigB; rw [Bool.or_eq_true]; exact .inr (List.any_eq_true.2 ⟨s, List.mem_of_getElem? hs, decide_eq_true q2⟩)⟩)).symm, O.below⟩
         · skip
           refine wp_seq ?_
           refine wp_region_lit ?_
           have hE := Env.refl a44 [29, 30, 31, 32, 33, 34, 35, 36, 37]
           refine zm 29 hE k e0 ?_
           intro a55 hE e29 kp
           refine zm 30 hE k e3 ?_
           intro a56 hE e30 kp
           replace e29 := kt kp e29
           apply Z05 31 hE k rfl rfl rfl rfl
           case h =>
            simp [go_sem, ↓IntWalk.iteOmega, ev e29, ev e30]
            with_reducible rfl
           intro a57 hE e31 kp
           apply Z05 32 hE k rfl rfl rfl rfl
           case h =>
            simp [go_sem, ↓IntWalk.iteOmega, ev e31, hc _ O.below]
            with_reducible rfl
           intro a58 hE e32 kp
           refine zm 33 hE k e4 ?_
           intro a59 hE e33 kp
           replace e32 := kt kp e32
           apply Z05 34 hE k rfl rfl rfl rfl
           case h =>
            simp [go_sem, ↓IntWalk.iteOmega, ev e32, ev e33]
            with_reducible rfl
           intro a60 hE e34 kp
           apply Z05 35 hE k rfl rfl rfl rfl
           case h =>
            simp [go_sem, ↓IntWalk.iteOmega, ev e34, hsp2 _ O.below j s hs]
            with_reducible rfl
           intro a61 hE e35 kp
           refine sd 36 hE k (Z2v Tryd.underlying9 rfl e35) ?_
           intro a62 hE e36 kp
           refine sd 37 hE k (Z06 (Z17 rfl e36 rfl) (decide_eq_false (by omega))) ?_
           intro a63 hE e37 kp
           refine wpList_nil ?_
           replace e0 := hE.g e0; replace e3 := hE.g e3; replace e4 := hE.g e4
           replace k := k.env hE
           clear hE e26
           refine Z00 ?_
           refine Z0e e37 rfl ?_
           refine wp_skip ?_
           refine Z0i ?_
           refine Z00 ?_
           refine wp_region_lit ?_
           have hE := Env.refl a63 [27, 28, 4]
           refine sd 27 hE k (Z02 rfl e4) ?_
           intro a64 hE e27 kp
           replace e4 := kt kp e4
           refine sd 28 hE k (Z0z rfl e27 rfl (by omega)) ?_
           intro a65 hE e28 kp
           replace e4 := kt kp e4
           refine sd 4 hE k (Z01 rfl e28) ?_
           intro a66 hE e4 kp
           refine wpList_nil ?_
           replace e0 := hE.g e0; replace e3 := hE.g e3
           replace k := k.env hE
           clear hE e37
           refine Z00 ?_
           refine ⟨⟨k, e0, e3, j + 1, e4, by omega, fun u hu => ?_, O⟩, ?_⟩
           · rw [List.take_add_one, hs] at hu; rcases List.mem_append.1 hu with hu | hu
             · exact hal2 u hu
             · simp at hu; rw [hu]; exact q2
           · rw [e4, mj]; simp only [intOf]; omega
       · skip
         refine wp_seq ?_
         refine wp_seq ?_
         refine wp_region_lit ?_
         have hE := Env.refl a36 [20, 21, 22, 23, 24, 25, 26]
         refine zm 20 hE k e4 ?_
         intro a67 hE e20 kp
         refine zm 21 hE k e0 ?_
         intro a68 hE e21 kp
         replace e20 := kt kp e20
         refine zm 22 hE k e3 ?_
         intro a69 hE e22 kp
         replace e20 := kt kp e20; replace e21 := kt kp e21
         apply Z05 23 hE k rfl rfl rfl rfl
         case h =>
          simp [go_sem, ↓IntWalk.iteOmega, ev e21, ev e22]
          with_reducible rfl
         intro a70 hE e23 kp
         replace e20 := kt kp e20
         apply Z05 24 hE k rfl rfl rfl rfl
         case h =>
          simp [go_sem, ↓IntWalk.iteOmega, ev e23, hc _ O.below]
          with_reducible rfl
         intro a71 hE e24 kp
         replace e20 := kt kp e20
         refine sd 25 hE k (Z0d Tryd.underlying36 rfl e24) ?_
         intro a72 hE e25 kp
         replace e20 := kt kp e20
         refine sd 26 hE k (Z06 (Z0j rfl e20 e25) (decide_eq_false (by omega))) ?_
         intro a73 hE e26 kp
         refine wpList_nil ?_
         replace e0 := hE.g e0; replace e3 := hE.g e3; replace e4 := hE.g e4
         replace k := k.env hE
         clear hE
         refine Z00 ?_
         refine Z0e e26 rfl ?_
         refine wp_exit ?_
         refine Z0f ?_
         refine Z0f ?_
         refine Z0n ?_
         refine Z0i ?_
         refine Z00 ?_
         refine wp_region_lit ?_
         have hE := Env.refl a73 [12, 13, 3]
         refine sd 12 hE k (Z02 rfl e3) ?_
         intro a74 hE e12 kp
         replace e3 := kt kp e3
         refine sd 13 hE k (Z0z rfl e12 rfl (by omega)) ?_
         intro a75 hE e13 kp
         replace e3 := kt kp e3
         refine sd 3 hE k (Z01 rfl e13) ?_
         intro a76 hE e3 kp
         refine wpList_nil ?_
         replace e0 := hE.g e0
         replace k := k.env hE
         clear hE e4 e26
         refine Z00 ?_
         have hTb : bigB T = false := by
          rw [List.take_of_length_le (by omega)] at hal2
          unfold bigB; rw [decide_eq_false q1, Bool.false_or, List.any_eq_false]
          exact fun s hs => by rw [decide_eq_true_eq]; exact hal2 s hs
         refine ⟨⟨k, e0, i + 1, e3, by omega, fun u hu => ?_, O⟩, ?_⟩
         · rw [List.take_add_one, hT] at hu; rcases List.mem_append.1 hu with hu | hu
           · exact hall u hu
           · simp at hu; rw [hu]; exact hTb
         · rw [e3, mi]; simp only [intOf]; omega
   · skip
     refine wp_seq ?_
     refine wp_seq ?_
     refine wp_region_lit ?_
     have hE := Env.refl a12 [8, 9, 10, 11]
     refine zm 8 hE k e3 ?_
     intro a77 hE e8 kp
     refine zm 9 hE k e0 ?_
     intro a78 hE e9 kp
     replace e8 := kt kp e8
     refine sd 10 hE k (Z0d Tryd.underlying22 rfl e9) ?_
     intro a79 hE e10 kp
     replace e8 := kt kp e8
     refine sd 11 hE k (Z06 (Z0j rfl e8 e10) (decide_eq_false (by omega))) ?_
     intro a80 hE e11 kp
     refine wpList_nil ?_
     replace e0 := hE.g e0; replace e3 := hE.g e3
     replace k := k.env hE
     clear hE
     refine Z00 ?_
     refine Z0e e11 rfl ?_
     refine wp_exit ?_
     refine Z0f ?_
     refine Z0f ?_
     refine Z0n ?_
     refine Z00 (wp_seq ?_)
     refine wp_region_lit ?_
     have hE := Env.refl a80 [2]
     refine sd 2 hE k (Z01 rfl rfl) ?_
     intro a81 hE e2 kp
     refine wpList_nil ?_
     replace k := k.env hE
     clear hE e0 e3 e11
     refine Z00 ?_
     refine wp_ret ?_
     rw [List.take_of_length_le (by omega)] at hall
     refine Z0b rfl k e2 ?_
     exact ⟨congrArg (fun b => Ending.returned (.bool b)) (hgr.trans (List.any_eq_false.2 (fun T hT => by rw [hall T hT]; decide))).symm, O.below⟩
end Go.Proofs.YtgdlnfljfiageaaDoor
