/- grids: awake, great (printed by XGrH.gen.py). -/
import Derived.Test.YtgdlnfljfiageaaDoorKGridCells17
namespace Go.Proofs.YtgdlnfljfiageaaDoor
attribute [local simp] BigFrame.eval_const BigFrame.eval_global BigFrame.eval_func
set_option linter.unusedVariables false
set_option linter.unusedSimpArgs false
open Go.RowKit

def aw0 : List Tx := [[97], [230, 188, 162], []]
def aw1 : List Tx := [[98, 99, 100], [120], [121]]
def awX : List (List Tx) := [aw0, aw1]
def awS : Tx := [97, 32, 32, 226, 148, 130, 230, 188, 162, 226, 148, 130, 10, 98, 99, 100, 226, 148, 130, 120, 32, 226, 148, 130, 121, 10]
theorem aw_tab : tableB awX = true := by kernel_rfl
theorem aw_text : textL awX = awS := by kernel_rfl
theorem Z6l : partL awS = awX := by kernel_rfl
theorem aw_bad : badW [3, 2, 1] = false := by kernel_rfl
theorem aw_ok : okC awS [3, 2, 1] = true := by kernel_rfl
theorem Z7n : widthL [97, 230, 188, 162, 204, 129] = 3 := by kernel_rfl
theorem aw_fit : fitL 3 [97, 98, 230, 188, 162] = [97, 98, 32] := by kernel_rfl
theorem Z5g {g : Nat} {T : List Tx} {w : World} (h : (tBlk g 9 (txV T).toArray).holds w) : TxR w (some ⟨g, 0, none⟩) T := by
 intro i s hs
 refine ⟨g, 0, rfl, (Array.getElem?_eq_some_iff.1 (show w.heap[g]? = some _ from h)).1, ?_⟩
 rw [Nat.zero_add, (show Blk _ _ _ _ from h).cell i, List.getElem?_toArray]
 unfold txV
 rw [List.getElem?_map, hs]
 rfl
theorem Z84 {g : Nat} {vs : List Value} {X : List (List Tx)} {w : World} (h : (tBlk g 36 vs.toArray).holds w) (hv : ∀ (i : Nat) (T : List Tx), X[i]? = some T → ∃ (Ai : Option Addr) (ci : Nat), vs[i]? = some (.slice Ai T.length ci) ∧ TxR w Ai T) : TxsR w (some ⟨g, 0, none⟩) X := by
 intro i T hT
 obtain ⟨Ai, ci, h1, h2⟩ := hv i T hT
 refine ⟨g, 0, Ai, ci, rfl, (Array.getElem?_eq_some_iff.1 (show w.heap[g]? = some _ from h)).1, ?_, h2⟩
 rw [Nat.zero_add, (show Blk _ _ _ _ from h).cell i, List.getElem?_toArray, h1]
theorem Z7b {g : Nat} {xs : List Int} {w : World} (h : (tBlk g 3 (xs.map (Value.int .i64)).toArray).holds w) : Row1 w (some ⟨g, 0, none⟩) (Value.int .i64) xs := by
 intro i x hx
 refine ⟨g, 0, rfl, (Array.getElem?_eq_some_iff.1 (show w.heap[g]? = some _ from h)).1, ?_⟩
 rw [Nat.zero_add, (show Blk _ _ _ _ from h).cell i, List.getElem?_toArray, List.getElem?_map, hx]
 rfl
/-- Which case of Cells. -/
def CellsP (s : Tx) (xs : List Int) (e : Ending) (w' : World) : Prop := badW xs = true ∧ e = .returned (.tuple #[.slice none 0 0, .int .i64 1]) ∨ badW xs = false ∧ okC s xs = false ∧ e = .returned (.tuple #[.slice none 0 0, .int .i64 3]) ∨ badW xs = false ∧ okC s xs = true ∧ ∃ B cap, e = .returned (.tuple #[.slice B (partL s).length cap, .int .i64 0]) ∧ TxsR w' B (partL s)
theorem Z7j {s : Tx} {xs : List Int} {e : Ending} {w' : World} (h1 : badW xs = false) (h2 : okC s xs = true) (h : CellsP s xs e w') : ∃ B cap, e = .returned (.tuple #[.slice B (partL s).length cap, .int .i64 0]) ∧ TxsR w' B (partL s) := by
 rcases h with ⟨h, _⟩ | ⟨_, h, _⟩ | ⟨_, _, h⟩
 · rw [h1] at h; cases h
 · rw [h2] at h; cases h
 · exact h
set_option maxRecDepth 100000 in
set_option maxHeartbeats 4000000 in
theorem awake37 (W0 : World) (hv : VarW W0) : Calls Tryd.prog 7 #[] W0 fun e w' => e = .returned (.bool true) ∧ Ext W0 w' := by
 have O := OwnT.start W0
 refine Z0m Tryd.func7 rfl 64 rfl (by rfl) ?_
 intro a1 k hargs
 clear hargs
 refine wp_seq ?_
 refine wp_region_lit ?_
 have hE := Env.refl a1 [0]
 refine sd 0 hE k (Z03 rfl rfl) ?_
 intro a2 hE e0 kp
 refine wpList_nil ?_
 replace k := k.env hE
 clear hE e0
 refine Z01 (wp_seq ?_)
 refine wp_region_lit ?_
 have hE := Env.refl a2 [6, 7, 8, 9, 5, 10, 11, 1, 2]
 refine Z1a (m := 3) (c := 3) O (cs := #[.string (sB ([97])), .string (sB ([230, 188, 162])), .string (sB ([]))]) (t := 9) 6 hE k rfl (by rfl) (by rfl) rfl (by simp [go_sem, ↓IntWalk.iteOmega, sB]) ?_
 clear O
 intro g1 a3 w4 O hE e6 kp
 refine Z1a (m := 3) (c := 3) O (cs := #[.string (sB ([98, 99, 100])), .string (sB ([120])), .string (sB ([121]))]) (t := 9) 7 hE k rfl (by rfl) (by rfl) rfl (by simp [go_sem, ↓IntWalk.iteOmega, sB]) ?_
 clear O
 intro g2 a5 w6 O hE e7 kp
 replace e6 := kt kp e6
 refine Z1a (m := 2) (c := 2) O (cs := #[.slice (some ⟨g1, 0, none⟩) 3 3, .slice (some ⟨g2, 0, none⟩) 3 3]) (t := 36) 8 hE k rfl (by rfl) (by rfl) rfl (by simp [go_sem, ↓IntWalk.iteOmega, ev e6, ev e7]) ?_
 clear O
 intro g3 a7 w8 O hE e8 kp
 apply Z0d 9 hE k rfl (by rfl) (by rfl) rfl
 case h =>
  simp [go_sem, ↓IntWalk.iteOmega, ev e8]
  with_reducible exact ⟨rfl, rfl⟩
 case hc => exact Z2p (X := awX) _ (Z84 (vs := [.slice (some ⟨g1, 0, none⟩) aw0.length 3, .slice (some ⟨g2, 0, none⟩) aw1.length 3]) (OwnT.get O 0 rfl) (fun i T hT => by match i, hT with | 0, hT => (injection hT with hT; subst hT; exact ⟨_, _, rfl, Z5g (OwnT.get O 2 rfl)⟩) | 1, hT => (injection hT with hT; subst hT; exact ⟨_, _, rfl, Z5g (OwnT.get O 1 rfl)⟩))) (by decide) (by decide) (hv.below O.below)
 rintro e w10 ⟨he, RE⟩
 replace O := OwnT.ext O RE
 refine ⟨_, he.trans (by rw [aw_tab, aw_text]; first | done | rfl), ?_⟩
 intro a9 hE e9 kp
 refine sd 5 hE k (Z02 rfl e9) ?_
 intro a11 hE e5 kp
 apply Z08 10 hE k rfl rfl rfl rfl
 case h =>
  simp [go_sem, ↓IntWalk.iteOmega, ev e5]
  with_reducible rfl
 intro a12 hE e10 kp
 replace e5 := kt kp e5
 apply Z08 11 hE k rfl rfl rfl rfl
 case h =>
  simp [go_sem, ↓IntWalk.iteOmega, ev e5]
  with_reducible rfl
 intro a13 hE e11 kp
 replace e10 := kt kp e10
 refine sd 1 hE k (Z03 rfl e10) ?_
 intro a14 hE e1 kp
 replace e11 := kt kp e11
 refine sd 2 hE k (Z03 rfl e11) ?_
 intro a15 hE e2 kp
 replace e1 := kt kp e1
 refine wpList_nil ?_
 replace k := k.env hE
 clear hE
 refine Z01 (wp_seq ?_)
 refine wp_region_lit ?_
 have hE := Env.refl a15 [13, 14, 15, 12, 16, 17, 3, 4]
 refine zm 13 hE k e1 ?_
 intro a16 hE e13 kp
 refine Z1a (m := 3) (c := 3) O (cs := #[.int .i64 3, .int .i64 2, .int .i64 1]) (t := 3) 14 hE k rfl (by rfl) (by rfl) rfl (by simp [go_sem, ↓IntWalk.iteOmega]) ?_
 clear O
 intro g4 a17 w18 O hE e14 kp
 replace e13 := kt kp e13
 apply Z0d 15 hE k rfl (by rfl) (by rfl) rfl
 case h =>
  simp [go_sem, ↓IntWalk.iteOmega, ev e13, ev e14]
  with_reducible exact ⟨rfl, rfl⟩
 case hc => exact Z37 (xs := [3, 2, 1]) awS _ (Z7b (OwnT.get O 0 rfl)) (by decide) (by decide) (by rw [Z6l]; decide) (hv.below O.below)
 rintro e w20 ⟨hcp, RE⟩
 obtain ⟨Bz, cz, he, hrz⟩ := Z7j aw_bad aw_ok hcp
 rw [Z6l] at he hrz
 obtain ⟨b4, o4, e4z, hsp⟩ := hrz.spot (i := 0) (T := aw0) rfl
 subst e4z
 obtain ⟨A0, c0, hr0, hc0⟩ := hsp 0 aw0 rfl
 simp only [Nat.add_zero] at hc0
 obtain ⟨b5, o5, e5z, hq⟩ := hr0.spot (i := 0) (s := [97]) rfl
 subst e5z
 have hw := Ext.refl w20
 clear hsp hr0 hrz hcp
 replace O := OwnT.ext O RE
 refine ⟨_, he, ?_⟩
 intro a19 hE e15 kp
 refine sd 12 hE k (Z02 rfl e15) ?_
 intro a21 hE e12 kp
 apply Z08 16 hE k rfl rfl rfl rfl
 case h =>
  simp [go_sem, ↓IntWalk.iteOmega, ev e12]
  with_reducible rfl
 intro a22 hE e16 kp
 replace e12 := kt kp e12
 apply Z08 17 hE k rfl rfl rfl rfl
 case h =>
  simp [go_sem, ↓IntWalk.iteOmega, ev e12]
  with_reducible rfl
 intro a23 hE e17 kp
 replace e16 := kt kp e16
 refine sd 3 hE k (Z03 rfl e16) ?_
 intro a24 hE e3 kp
 replace e17 := kt kp e17
 refine sd 4 hE k (Z03 rfl e17) ?_
 intro a25 hE e4 kp
 replace e3 := kt kp e3
 refine wpList_nil ?_
 replace e1 := hE.g e1; replace e2 := hE.g e2
 replace k := k.env hE
 clear hE
 refine Z01 (wp_seq ?_)
 refine wp_region_lit ?_
 have hE := Env.refl a25 [18, 19, 20, 21, 22, 23, 24, 25, 26, 27, 28, 29, 30, 31, 32, 33, 34, 35, 36, 37, 38, 39, 40, 41, 42, 43, 44, 45, 46, 47, 48, 49, 50, 51, 52, 53, 54, 55, 56, 57, 58, 59, 60, 61, 62, 63, 0]
 apply Z0d 18 hE k rfl (by rfl) (by rfl) rfl
 case h =>
  simp [go_sem, ↓IntWalk.iteOmega]
  with_reducible exact ⟨rfl, rfl⟩
 case hc => exact Z20 [97, 230, 188, 162, 204, 129] _ (by decide)
 rintro e w27 ⟨he, RE⟩
 replace O := OwnT.ext O RE
 replace hw := Ext.trans hw RE
 refine ⟨_, he.trans (by rw [Z7n]), ?_⟩
 intro a26 hE e18 kp
 refine sd 19 hE k (Z05 (Z0k rfl e18 rfl) (decide_eq_true rfl)) ?_
 intro a28 hE e19 kp
 refine sd 20 hE k (Z02 rfl e19) ?_
 intro a29 hE e20 kp
 apply Z1c 21 hE k rfl (by rfl) (by rfl) rfl rfl e20
 case h =>
  simp [go_sem, ↓IntWalk.iteOmega]
  with_reducible exact ⟨rfl, rfl⟩
 case hc => exact Z7d [97, 98, 230, 188, 162] 3 3 _ (by decide) (by decide)
 rintro e w31 ⟨he, RE⟩
 replace O := OwnT.ext O RE
 replace hw := Ext.trans hw RE
 refine ⟨_, he.trans (by rw [aw_fit]), ?_⟩
 intro a30 hE e21 kp
 replace e20 := kt kp e20
 apply Z00 22 hE k rfl rfl rfl rfl rfl e20
 case h =>
  exact Z05 (Z3z (l := [97, 98, 32]) (m := [97, 98, 32]) rfl e21 rfl) (decide_eq_true rfl)
 intro a32 hE e22 kp
 replace e20 := kt kp e20
 refine sd 23 hE k (Z07 rfl e20 e22) ?_
 intro a33 hE e23 kp
 refine sd 24 hE k (Z02 rfl e23) ?_
 intro a34 hE e24 kp
 apply Z00 25 hE k rfl rfl rfl rfl rfl e24
 case h =>
  exact Z02 rfl (hE.g e2)
 intro a35 hE e25 kp
 replace e24 := kt kp e24
 apply Z00 26 hE k rfl rfl rfl rfl rfl e24
 case h =>
  exact Z05 (Z0k rfl e25 rfl) (decide_eq_true rfl)
 intro a36 hE e26 kp
 replace e24 := kt kp e24
 refine sd 27 hE k (Z07 rfl e24 e26) ?_
 intro a37 hE e27 kp
 refine sd 28 hE k (Z02 rfl e27) ?_
 intro a38 hE e28 kp
 apply Z00 29 hE k rfl rfl rfl rfl rfl e28
 case h =>
  exact Z02 rfl (hE.g e1)
 intro a39 hE e29 kp
 replace e28 := kt kp e28
 apply Z00 30 hE k rfl rfl rfl rfl rfl e28
 case h =>
  exact Z05 (Z3z (l := awS) (m := [97, 32, 32, 226, 148, 130, 230, 188, 162, 226, 148, 130, 10, 98, 99, 100, 226, 148, 130, 120, 32, 226, 148, 130, 121, 10]) rfl e29 rfl) (decide_eq_true rfl)
 intro a40 hE e30 kp
 replace e28 := kt kp e28
 refine sd 31 hE k (Z07 rfl e28 e30) ?_
 intro a41 hE e31 kp
 refine sd 32 hE k (Z02 rfl e31) ?_
 intro a42 hE e32 kp
 apply Z00 33 hE k rfl rfl rfl rfl rfl e32
 case h =>
  exact Z02 rfl (hE.g e4)
 intro a43 hE e33 kp
 replace e32 := kt kp e32
 apply Z00 34 hE k rfl rfl rfl rfl rfl e32
 case h =>
  exact Z05 (Z0k rfl e33 rfl) (decide_eq_true rfl)
 intro a44 hE e34 kp
 replace e32 := kt kp e32
 refine sd 35 hE k (Z07 rfl e32 e34) ?_
 intro a45 hE e35 kp
 refine sd 36 hE k (Z02 rfl e35) ?_
 intro a46 hE e36 kp
 apply Z00 37 hE k rfl rfl rfl rfl rfl e36
 case h =>
  exact Z02 rfl (hE.g e3)
 intro a47 hE e37 kp
 replace e36 := kt kp e36
 apply Z00 38 hE k rfl rfl rfl rfl rfl e36
 case h =>
  exact Z0g Tryd.underlying22 rfl e37
 intro a48 hE e38 kp
 replace e36 := kt kp e36
 apply Z00 39 hE k rfl rfl rfl rfl rfl e36
 case h =>
  exact Z05 (Z0k rfl e38 rfl) (decide_eq_true rfl)
 intro a49 hE e39 kp
 replace e36 := kt kp e36
 refine sd 40 hE k (Z07 rfl e36 e39) ?_
 intro a50 hE e40 kp
 refine sd 41 hE k (Z02 rfl e40) ?_
 intro a51 hE e41 kp
 apply Z00 42 hE k rfl rfl rfl rfl rfl e41
 case h =>
  exact Z02 rfl (hE.g e3)
 intro a52 hE e42 kp
 replace e41 := kt kp e41
 apply Z00 43 hE k rfl rfl rfl rfl rfl e41
 case h =>
  simp [go_sem, ↓IntWalk.iteOmega, ev e42, awX]
  with_reducible rfl
 intro a53 hE e43 kp
 replace e41 := kt kp e41
 apply Z00 44 hE k rfl rfl rfl rfl rfl e41
 case h =>
  simp [go_sem, ↓IntWalk.iteOmega, ev e43, hc0 _ hw]
  with_reducible rfl
 intro a54 hE e44 kp
 replace e41 := kt kp e41
 apply Z00 45 hE k rfl rfl rfl rfl rfl e41
 case h =>
  exact Z0g Tryd.underlying36 rfl e44
 intro a55 hE e45 kp
 replace e41 := kt kp e41
 apply Z00 46 hE k rfl rfl rfl rfl rfl e41
 case h =>
  exact Z05 (Z0k rfl e45 rfl) (decide_eq_true rfl)
 intro a56 hE e46 kp
 replace e41 := kt kp e41
 refine sd 47 hE k (Z07 rfl e41 e46) ?_
 intro a57 hE e47 kp
 refine sd 48 hE k (Z02 rfl e47) ?_
 intro a58 hE e48 kp
 apply Z00 49 hE k rfl rfl rfl rfl rfl e48
 case h =>
  exact Z02 rfl (hE.g e3)
 intro a59 hE e49 kp
 replace e48 := kt kp e48
 apply Z00 50 hE k rfl rfl rfl rfl rfl e48
 case h =>
  simp [go_sem, ↓IntWalk.iteOmega, ev e49, awX]
  with_reducible rfl
 intro a60 hE e50 kp
 replace e48 := kt kp e48
 apply Z00 51 hE k rfl rfl rfl rfl rfl e48
 case h =>
  simp [go_sem, ↓IntWalk.iteOmega, ev e50, hc0 _ hw]
  with_reducible rfl
 intro a61 hE e51 kp
 replace e48 := kt kp e48
 apply Z00 52 hE k rfl rfl rfl rfl rfl e48
 case h =>
  simp [go_sem, ↓IntWalk.iteOmega, ev e51, aw0]
  with_reducible rfl
 intro a62 hE e52 kp
 replace e48 := kt kp e48
 apply Z00 53 hE k rfl rfl rfl rfl rfl e48
 case h =>
  simp [go_sem, ↓IntWalk.iteOmega, ev e52, hq _ hw 1 [230, 188, 162] rfl]
  with_reducible rfl
 intro a63 hE e53 kp
 replace e48 := kt kp e48
 apply Z00 54 hE k rfl rfl rfl rfl rfl e48
 case h =>
  exact Z05 (Z3z (l := [230, 188, 162]) (m := [230, 188, 162]) rfl e53 rfl) (decide_eq_true rfl)
 intro a64 hE e54 kp
 replace e48 := kt kp e48
 refine sd 55 hE k (Z07 rfl e48 e54) ?_
 intro a65 hE e55 kp
 refine sd 56 hE k (Z02 rfl e55) ?_
 intro a66 hE e56 kp
 apply Z00 57 hE k rfl rfl rfl rfl rfl e56
 case h =>
  exact Z02 rfl (hE.g e3)
 intro a67 hE e57 kp
 replace e56 := kt kp e56
 apply Z00 58 hE k rfl rfl rfl rfl rfl e56
 case h =>
  simp [go_sem, ↓IntWalk.iteOmega, ev e57, awX]
  with_reducible rfl
 intro a68 hE e58 kp
 replace e56 := kt kp e56
 apply Z00 59 hE k rfl rfl rfl rfl rfl e56
 case h =>
  simp [go_sem, ↓IntWalk.iteOmega, ev e58, hc0 _ hw]
  with_reducible rfl
 intro a69 hE e59 kp
 replace e56 := kt kp e56
 apply Z00 60 hE k rfl rfl rfl rfl rfl e56
 case h =>
  simp [go_sem, ↓IntWalk.iteOmega, ev e59, aw0]
  with_reducible rfl
 intro a70 hE e60 kp
 replace e56 := kt kp e56
 apply Z00 61 hE k rfl rfl rfl rfl rfl e56
 case h =>
  simp [go_sem, ↓IntWalk.iteOmega, ev e60, hq _ hw 2 [] rfl]
  with_reducible rfl
 intro a71 hE e61 kp
 replace e56 := kt kp e56
 apply Z00 62 hE k rfl rfl rfl rfl rfl e56
 case h =>
  exact Z05 (Z3z (l := []) (m := []) rfl e61 rfl) (decide_eq_true rfl)
 intro a72 hE e62 kp
 replace e56 := kt kp e56
 refine sd 63 hE k (Z07 rfl e56 e62) ?_
 intro a73 hE e63 kp
 refine sd 0 hE k (Z03 rfl e63) ?_
 intro a74 hE e0 kp
 refine wpList_nil ?_
 replace k := k.env hE
 clear hE e1 e2 e3 e4
 refine Z01 ?_
 refine wp_ret ?_
 refine Z0e rfl k e0 ?_
 exact ⟨rfl, O.below⟩
end Go.Proofs.YtgdlnfljfiageaaDoor
