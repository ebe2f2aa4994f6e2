/- grids' law: GridCells (printed by XGrM.gen.py). -/
import Derived.Test.YtgdlnfljfiageaaDoorKGridCells23
namespace Go.Proofs.YtgdlnfljfiageaaDoor
attribute [local simp] BigFrame.eval_const BigFrame.eval_global BigFrame.eval_func
set_option linter.unusedVariables false
set_option linter.unusedSimpArgs false
open Go.RowKit

theorem Z72 (s : Tx) : ∀ T ∈ partL s, ∀ c ∈ T, c.length ≤ s.length := by
 intro T hT c hc
 obtain ⟨x, hx, rfl⟩ := List.mem_map.1 hT
 unfold cellsL at hc
 obtain ⟨p, hp, rfl⟩ := List.mem_map.1 hc
 have h1 := Z1t s.length s (Nat.le_refl _) x hx
 have h2 := Z1w x [10]
 have h3 := Z5m _ p hp
 have h4 := Z2h p 32
 omega
theorem Z6k {s : Tx} {xs : List Int} {e : Ending} {w' : World} (h : CellsP s xs e w') : ∃ (B : Option Addr) (n cap : Nat) (c : Int), e = .returned (.tuple #[.slice B n cap, .int .i64 c]) ∧ (badW xs = true ∧ n = 0 ∧ c = 1 ∨ badW xs = false ∧ n = 0 ∧ c = 3 ∨ badW xs = false ∧ okC s xs = true ∧ n = (partL s).length ∧ c = 0 ∧ TxsR w' B (partL s)) := by
 rcases h with ⟨h, e1⟩ | ⟨h, _, e1⟩ | ⟨h, h2, B, cap, e1, hr⟩
 · exact ⟨_, _, _, _, e1, .inl ⟨h, rfl, rfl⟩⟩
 · exact ⟨_, _, _, _, e1, .inr (.inl ⟨h, rfl, rfl⟩)⟩
 · exact ⟨_, _, _, _, e1, .inr (.inr ⟨h, h2, rfl, rfl, hr⟩)⟩
theorem Z7p {xs : List Int} {i : Nat} {x : Int} (h : xs[i]? = some x) : (xs.take (i + 1)).any badN = ((xs.take i).any badN || badN x) := by
 rw [List.take_add_one, h, List.any_append]
 simp
theorem okC_is {s : Tx} {xs : List Int} (h : okC s xs = true) : (∀ T ∈ partL s, T.length = xs.length) ∧ wdsL (partL s) xs.length = xs ∧ tableB (partL s) = true ∧ textL (partL s) = s := by
 unfold okC at h
 rw [Bool.and_eq_true, Bool.and_eq_true, Bool.and_eq_true, decide_eq_true_eq, decide_eq_true_eq, List.all_eq_true] at h
 obtain ⟨⟨⟨h1, h2⟩, h3⟩, h4⟩ := h
 exact ⟨fun T hT => by have := h1 T hT; rwa [decide_eq_true_eq] at this, h2, h3, h4⟩
theorem wds_at {X : List (List Tx)} {xs : List Int} {k : Nat} {x : Int} (h : wdsL X xs.length = xs) (hx : xs[k]? = some x) : ((colW X k : Nat) : Int) = x := by
 have hk := (List.getElem?_eq_some_iff.1 hx).1
 rw [← h] at hx
 unfold wdsL at hx
 rw [List.getElem?_map, List.getElem?_range hk] at hx
 simpa using hx

set_option maxRecDepth 100000 in
set_option maxHeartbeats 4000000 in
theorem Z2v {A : Option Addr} {ca : Nat} {xs : List Int} (l : Tx) (W0 : World) (h : Row1 W0 A (Value.int .i64) xs) (hv : VarW W0) : Calls Tryd.prog 4 #[.string (sB l), .slice A xs.length ca] W0 fun e w' => e = .returned (.bool true) ∧ Below W0.heap.size W0 w' := by
 have O := OwnT.start W0
 refine Z0m Tryd.func4 rfl 119 rfl (by rfl) ?_
 intro a1 k hargs
 have e0 : a1.eval (.tmp 0) = .string (sB l) := hargs 0 _ rfl
 have e1 : a1.eval (.tmp 1) = .slice A xs.length ca := hargs 1 _ rfl
 clear hargs
 refine wp_seq ?_
 refine wp_region_lit ?_
 have hE := Env.refl a1 [4]
 refine sd 4 hE k (Z03 rfl rfl) ?_
 intro a2 hE e4 kp
 refine wpList_nil ?_
 replace e0 := hE.g e0; replace e1 := hE.g e1
 replace k := k.env hE
 clear hE e4
 refine Z01 (wp_seq ?_)
 refine wp_seq ?_
 refine wp_region_lit ?_
 have hE := Env.refl a2 [14, 15]
 apply Z0d 14 hE k rfl (by rfl) (by rfl) rfl
 case h =>
  simp [go_sem, ↓IntWalk.iteOmega]
  with_reducible exact ⟨rfl, rfl⟩
 case hc => exact awake37 _ hv
 rintro e w4 ⟨rfl, RE⟩
 replace O := OwnT.ext O RE
 refine ⟨_, rfl, ?_⟩
 intro a3 hE e14 kp
 refine sd 15 hE k (Z2a rfl e14) ?_
 intro a5 hE e15 kp
 refine wpList_nil ?_
 replace e0 := hE.g e0; replace e1 := hE.g e1
 replace k := k.env hE
 clear hE
 refine Z01 ?_
 refine Z0b e15 rfl ?_
 refine wp_skip ?_
 refine Z01 ?_
 by_cases hl : l.length ≤ 500
 rotate_left
 · skip
   refine wp_seq ?_
   refine wp_seq ?_
   refine wp_region_lit ?_
   have hE := Env.refl a5 [16, 17, 18, 19, 20, 21, 22, 23]
   refine zm 16 hE k e0 ?_
   intro a6 hE e16 kp
   refine sd 17 hE k (Z0s Tryd.underlying9 rfl e16) ?_
   intro a7 hE e17 kp
   refine sd 18 hE k (Z05 (Z0w rfl e17 rfl) (decide_eq_true (by omega))) ?_
   intro a8 hE e18 kp
   refine sd 19 hE k (Z02 rfl e18) ?_
   intro a9 hE e19 kp
   refine Z04 20 hE k rfl (by rfl) (by rfl) rfl rfl (.inl e19) ?_
   intro a10 hE e20 kp
   replace e19 := kt kp e19
   refine Z04 21 hE k rfl (by rfl) (by rfl) rfl rfl (.inl e19) ?_
   intro a11 hE e21 kp
   replace e19 := kt kp e19
   refine Z04 22 hE k rfl (by rfl) (by rfl) rfl rfl (.inl e19) ?_
   intro a12 hE e22 kp
   replace e19 := kt kp e19
   refine sd 23 hE k (Z07 rfl e19 rfl) ?_
   intro a13 hE e23 kp
   refine wpList_nil ?_
   replace e0 := hE.g e0; replace e1 := hE.g e1
   replace k := k.env hE
   clear hE e15
   refine Z01 ?_
   refine Z09 e23 rfl ?_
   refine wp_seq ?_
   refine wp_region_lit ?_
   have hE := Env.refl a13 [4]
   refine sd 4 hE k (Z03 rfl rfl) ?_
   intro a14 hE e4 kp
   refine wpList_nil ?_
   replace k := k.env hE
   clear hE e0 e1 e23
   refine Z01 ?_
   refine wp_ret ?_
   refine Z0a ?_
   refine Z0e rfl k e4 ?_
   exact ⟨rfl, O.below⟩
 by_cases hx : xs.length ≤ 10
 rotate_left
 · skip
   refine wp_seq ?_
   refine wp_seq ?_
   refine wp_region_lit ?_
   have hE := Env.refl a5 [16, 17, 18, 19, 20, 21, 22, 23]
   refine zm 16 hE k e0 ?_
   intro a15 hE e16 kp
   refine sd 17 hE k (Z0s Tryd.underlying9 rfl e16) ?_
   intro a16 hE e17 kp
   refine sd 18 hE k (Z05 (Z0w rfl e17 rfl) (decide_eq_false (by omega))) ?_
   intro a17 hE e18 kp
   refine sd 19 hE k (Z02 rfl e18) ?_
   intro a18 hE e19 kp
   apply Z00 20 hE k rfl rfl rfl rfl rfl e19
   case h =>
    exact Z02 rfl (hE.g e1)
   intro a19 hE e20 kp
   replace e19 := kt kp e19
   apply Z00 21 hE k rfl rfl rfl rfl rfl e19
   case h =>
    exact Z0g Tryd.underlying33 rfl e20
   intro a20 hE e21 kp
   replace e19 := kt kp e19
   apply Z00 22 hE k rfl rfl rfl rfl rfl e19
   case h =>
    exact Z05 (Z0w rfl e21 rfl) (decide_eq_true (by omega))
   intro a21 hE e22 kp
   replace e19 := kt kp e19
   refine sd 23 hE k (Z06 rfl e19 e22) ?_
   intro a22 hE e23 kp
   refine wpList_nil ?_
   replace e0 := hE.g e0; replace e1 := hE.g e1
   replace k := k.env hE
   clear hE e15
   refine Z01 ?_
   refine Z09 e23 rfl ?_
   refine wp_seq ?_
   refine wp_region_lit ?_
   have hE := Env.refl a22 [4]
   refine sd 4 hE k (Z03 rfl rfl) ?_
   intro a23 hE e4 kp
   refine wpList_nil ?_
   replace k := k.env hE
   clear hE e0 e1 e23
   refine Z01 ?_
   refine wp_ret ?_
   refine Z0a ?_
   refine Z0e rfl k e4 ?_
   exact ⟨rfl, O.below⟩
 have hpm := Z72 l
 obtain ⟨hpn, hpt⟩ := Z5v l

 refine wp_seq ?_
 refine wp_seq ?_
 refine wp_region_lit ?_
 have hE := Env.refl a5 [16, 17, 18, 19, 20, 21, 22, 23]
 refine zm 16 hE k e0 ?_
 intro a24 hE e16 kp
 refine sd 17 hE k (Z0s Tryd.underlying9 rfl e16) ?_
 intro a25 hE e17 kp
 refine sd 18 hE k (Z05 (Z0w rfl e17 rfl) (decide_eq_false (by omega))) ?_
 intro a26 hE e18 kp
 refine sd 19 hE k (Z02 rfl e18) ?_
 intro a27 hE e19 kp
 apply Z00 20 hE k rfl rfl rfl rfl rfl e19
 case h =>
  exact Z02 rfl (hE.g e1)
 intro a28 hE e20 kp
 replace e19 := kt kp e19
 apply Z00 21 hE k rfl rfl rfl rfl rfl e19
 case h =>
  exact Z0g Tryd.underlying33 rfl e20
 intro a29 hE e21 kp
 replace e19 := kt kp e19
 apply Z00 22 hE k rfl rfl rfl rfl rfl e19
 case h =>
  exact Z05 (Z0w rfl e21 rfl) (decide_eq_false (by omega))
 intro a30 hE e22 kp
 replace e19 := kt kp e19
 refine sd 23 hE k (Z06 rfl e19 e22) ?_
 intro a31 hE e23 kp
 refine wpList_nil ?_
 replace e0 := hE.g e0; replace e1 := hE.g e1
 replace k := k.env hE
 clear hE e15
 refine Z01 ?_
 refine Z0b e23 rfl ?_
 refine wp_skip ?_
 refine Z01 (wp_seq ?_)
 refine wp_region_lit ?_
 have hE := Env.refl a31 [25, 26, 27, 24, 28, 29, 5, 6]
 refine zm 25 hE k e0 ?_
 intro a32 hE e25 kp
 refine zm 26 hE k e1 ?_
 intro a33 hE e26 kp
 replace e25 := kt kp e25
 apply Z0d 27 hE k rfl (by rfl) (by rfl) rfl
 case h =>
  simp [go_sem, ↓IntWalk.iteOmega, ev e25, ev e26]
  with_reducible exact ⟨rfl, rfl⟩
 case hc => exact Z37 l _ (h.below O.below) (by omega) (by omega) (fun T hT c hc => by have := hpm T hT c hc; omega) (hv.below O.below)
 rintro e w35 ⟨hcp, RE⟩
 obtain ⟨Bq, n, cq, c, rfl, hcc⟩ := Z6k hcp
 clear hcp
 have hw := Ext.refl w35
 replace O := OwnT.ext O RE
 refine ⟨_, rfl, ?_⟩
 intro a34 hE e27 kp
 refine sd 24 hE k (Z02 rfl e27) ?_
 intro a36 hE e24 kp
 apply Z08 28 hE k rfl rfl rfl rfl
 case h =>
  simp [go_sem, ↓IntWalk.iteOmega, ev e24]
  with_reducible rfl
 intro a37 hE e28 kp
 replace e24 := kt kp e24
 apply Z08 29 hE k rfl rfl rfl rfl
 case h =>
  simp [go_sem, ↓IntWalk.iteOmega, ev e24]
  with_reducible rfl
 intro a38 hE e29 kp
 replace e28 := kt kp e28
 refine sd 5 hE k (Z03 rfl e28) ?_
 intro a39 hE e5 kp
 replace e29 := kt kp e29
 refine sd 6 hE k (Z03 rfl e29) ?_
 intro a40 hE e6 kp
 replace e5 := kt kp e5
 refine wpList_nil ?_
 replace e0 := hE.g e0; replace e1 := hE.g e1
 replace k := k.env hE
 clear hE e23
 refine Z01 (wp_seq ?_)
 refine wp_region_lit ?_
 have hE := Env.refl a40 [30, 31, 32, 7]
 refine zm 30 hE k e1 ?_
 intro a41 hE e30 kp
 refine sd 31 hE k (Z0g Tryd.underlying33 rfl e30) ?_
 intro a42 hE e31 kp
 refine sd 32 hE k (Z0k rfl e31 rfl) ?_
 intro a43 hE e32 kp
 refine sd 7 hE k (Z03 rfl e32) ?_
 intro a44 hE e7 kp
 refine wpList_nil ?_
 replace e0 := hE.g e0; replace e1 := hE.g e1; replace e5 := hE.g e5; replace e6 := hE.g e6
 replace k := k.env hE
 clear hE
 refine Z01 (wp_seq ?_)
 refine wp_seq ?_
 refine wp_region_lit ?_
 have hE := Env.refl a44 [8]
 refine sd 8 hE k (Z03 rfl rfl) ?_
 intro a45 hE e8 kp
 refine wpList_nil ?_
 replace e0 := hE.g e0; replace e1 := hE.g e1; replace e5 := hE.g e5; replace e6 := hE.g e6; replace e7 := hE.g e7
 replace k := k.env hE
 clear hE
 refine Z01 ?_
 refine wp_block ?_
 refine wp_loop (fun a w => Fr 119 a ∧ a.eval (.tmp 0) = .string (sB l) ∧ a.eval (.tmp 1) = .slice A xs.length ca ∧ a.eval (.tmp 5) = .slice Bq n cq ∧ a.eval (.tmp 6) = .int .i64 c ∧ ∃ (i : Nat) (b : Bool), a.eval (.tmp 7) = .bool b ∧ a.eval (.tmp 8) = .int .i64 ↑i ∧ i ≤ xs.length ∧ b = (decide ((xs.length : Int) = 0) || (xs.take i).any badN) ∧ Ext w35 w ∧ OwnT W0.heap.size W0 [] w) (fun a w => xs.length - (intOf (a.eval (.tmp 8))).toNat) ?_ ?_
 · exact ⟨k, e0, e1, e5, e6, 0, _, e7, e8, Nat.zero_le _, by rw [List.take_zero, List.any_nil, Bool.or_false], hw, O⟩
 intro a46 w47 hI
 clear k e0 e1 e5 e6
 obtain ⟨k, e0, e1, e5, e6, h_⟩ := hI
 clear O e7 e8 hw
 obtain ⟨i, b, e7, e8, hi, hb, hw, O⟩ := h_
 have mi := e8

 by_cases hlt : i < xs.length
 · skip
   have hzI : (i : Int) < (xs.length : Int) := by omega
   obtain ⟨x, hxi⟩ : ∃ x, xs[i]? = some x := ⟨_, List.getElem?_eq_getElem hlt⟩
   obtain ⟨bb, oo, hA, hc⟩ := Z1e h hxi
   have han := Z7p hxi
   subst hA

   cases b with
   | true =>
    refine wp_seq ?_
    refine wp_seq ?_
    refine wp_region_lit ?_
    have hE := Env.refl a46 [33, 34, 35, 36]
    refine zm 33 hE k e8 ?_
    intro a48 hE e33 kp
    refine zm 34 hE k e1 ?_
    intro a49 hE e34 kp
    replace e33 := kt kp e33
    refine sd 35 hE k (Z0g Tryd.underlying33 rfl e34) ?_
    intro a50 hE e35 kp
    replace e33 := kt kp e33
    refine sd 36 hE k (Z05 (Z0c rfl e33 e35) (decide_eq_true (by omega))) ?_
    intro a51 hE e36 kp
    refine wpList_nil ?_
    replace e0 := hE.g e0; replace e1 := hE.g e1; replace e5 := hE.g e5; replace e6 := hE.g e6; replace e7 := hE.g e7; replace e8 := hE.g e8
    replace k := k.env hE
    clear hE
    refine Z01 ?_
    refine Z09 e36 rfl ?_
    refine wp_skip ?_
    refine Z01 (wp_seq ?_)
    refine wp_block ?_
    refine wp_region_lit ?_
    have hE := Env.refl a51 [39, 40, 41, 42, 43, 44, 45, 46, 47, 48, 49, 50, 51, 52, 53, 7]
    refine sd 39 hE k (Z02 rfl e7) ?_
    intro a52 hE e39 kp
    replace e7 := kt kp e7
    refine sd 40 hE k (Z02 rfl e39) ?_
    intro a53 hE e40 kp
    replace e7 := kt kp e7
    refine Z04 41 hE k rfl (by rfl) (by rfl) rfl rfl (.inl e40) ?_
    intro a54 hE e41 kp
    replace e7 := kt kp e7; replace e40 := kt kp e40
    refine Z04 42 hE k rfl (by rfl) (by rfl) rfl rfl (.inl e40) ?_
    intro a55 hE e42 kp
    replace e7 := kt kp e7; replace e40 := kt kp e40; replace e41 := kt kp e41
    refine Z04 43 hE k rfl (by rfl) (by rfl) rfl rfl (.inl e40) ?_
    intro a56 hE e43 kp
    replace e7 := kt kp e7; replace e40 := kt kp e40
    refine Z04 44 hE k rfl (by rfl) (by rfl) rfl rfl (.inl e40) ?_
    intro a57 hE e44 kp
    replace e7 := kt kp e7; replace e40 := kt kp e40
    refine Z04 45 hE k rfl (by rfl) (by rfl) rfl rfl (.inl e40) ?_
    intro a58 hE e45 kp
    replace e7 := kt kp e7; replace e40 := kt kp e40
    refine sd 46 hE k (Z07 rfl e40 rfl) ?_
    intro a59 hE e46 kp
    replace e7 := kt kp e7
    refine sd 47 hE k (Z02 rfl e46) ?_
    intro a60 hE e47 kp
    replace e7 := kt kp e7
    refine Z04 48 hE k rfl (by rfl) (by rfl) rfl rfl (.inl e47) ?_
    intro a61 hE e48 kp
    replace e7 := kt kp e7; replace e47 := kt kp e47
    refine Z04 49 hE k rfl (by rfl) (by rfl) rfl rfl (.inl e47) ?_
    intro a62 hE e49 kp
    replace e7 := kt kp e7; replace e47 := kt kp e47; replace e48 := kt kp e48
    refine Z04 50 hE k rfl (by rfl) (by rfl) rfl rfl (.inl e47) ?_
    intro a63 hE e50 kp
    replace e7 := kt kp e7; replace e47 := kt kp e47
    refine Z04 51 hE k rfl (by rfl) (by rfl) rfl rfl (.inl e47) ?_
    intro a64 hE e51 kp
    replace e7 := kt kp e7; replace e47 := kt kp e47
    refine Z04 52 hE k rfl (by rfl) (by rfl) rfl rfl (.inl e47) ?_
    intro a65 hE e52 kp
    replace e7 := kt kp e7; replace e47 := kt kp e47
    refine sd 53 hE k (Z07 rfl e47 rfl) ?_
    intro a66 hE e53 kp
    replace e7 := kt kp e7
    refine sd 7 hE k (Z03 rfl e53) ?_
    intro a67 hE e7 kp
    refine wpList_nil ?_
    replace e0 := hE.g e0; replace e1 := hE.g e1; replace e5 := hE.g e5; replace e6 := hE.g e6; replace e8 := hE.g e8
    replace k := k.env hE
    clear hE e36
    refine Z0i ?_
    refine Z01 ?_
    refine wp_region_lit ?_
    have hE := Env.refl a67 [37, 38, 8]
    refine sd 37 hE k (Z02 rfl e8) ?_
    intro a68 hE e37 kp
    replace e8 := kt kp e8
    refine sd 38 hE k (Z0z rfl e37 rfl (by omega)) ?_
    intro a69 hE e38 kp
    replace e8 := kt kp e8
    refine sd 8 hE k (Z03 rfl e38) ?_
    intro a70 hE e8 kp
    refine wpList_nil ?_
    replace e0 := hE.g e0; replace e1 := hE.g e1; replace e5 := hE.g e5; replace e6 := hE.g e6; replace e7 := hE.g e7
    replace k := k.env hE
    clear hE
    refine Z01 ?_
    refine ⟨⟨k, e0, e1, e5, e6, i + 1, _, e7, e8, by omega, by rw [han, ← Bool.or_assoc, ← hb]; rfl, hw, O⟩, ?_⟩
    rw [e8, mi]; simp only [intOf]; omega
   | false =>
    by_cases n1 : x < 0
    · skip
      refine wp_seq ?_
      refine wp_seq ?_
      refine wp_region_lit ?_
      have hE := Env.refl a46 [33, 34, 35, 36]
      refine zm 33 hE k e8 ?_
      intro a71 hE e33 kp
      refine zm 34 hE k e1 ?_
      intro a72 hE e34 kp
      replace e33 := kt kp e33
      refine sd 35 hE k (Z0g Tryd.underlying33 rfl e34) ?_
      intro a73 hE e35 kp
      replace e33 := kt kp e33
      refine sd 36 hE k (Z05 (Z0c rfl e33 e35) (decide_eq_true (by omega))) ?_
      intro a74 hE e36 kp
      refine wpList_nil ?_
      replace e0 := hE.g e0; replace e1 := hE.g e1; replace e5 := hE.g e5; replace e6 := hE.g e6; replace e7 := hE.g e7; replace e8 := hE.g e8
      replace k := k.env hE
      clear hE
      refine Z01 ?_
      refine Z09 e36 rfl ?_
      refine wp_skip ?_
      refine Z01 (wp_seq ?_)
      refine wp_block ?_
      refine wp_region_lit ?_
      have hE := Env.refl a74 [39, 40, 41, 42, 43, 44, 45, 46, 47, 48, 49, 50, 51, 52, 53, 7]
      refine sd 39 hE k (Z02 rfl e7) ?_
      intro a75 hE e39 kp
      replace e7 := kt kp e7
      refine sd 40 hE k (Z02 rfl e39) ?_
      intro a76 hE e40 kp
      replace e7 := kt kp e7
      apply Z00 41 hE k rfl rfl rfl rfl rfl e40
      case h =>
       exact Z02 rfl (hE.g e1)
      intro a77 hE e41 kp
      replace e7 := kt kp e7; replace e40 := kt kp e40
      apply Z00 42 hE k rfl rfl rfl rfl rfl e40
      case h =>
       exact Z02 rfl (hE.g e8)
      intro a78 hE e42 kp
      replace e7 := kt kp e7; replace e40 := kt kp e40; replace e41 := kt kp e41
      apply Z00 43 hE k rfl rfl rfl rfl rfl e40
      case h =>
       simp [go_sem, ↓IntWalk.iteOmega, ev e41, ev e42]
       with_reducible rfl
      intro a79 hE e43 kp
      replace e7 := kt kp e7; replace e40 := kt kp e40
      apply Z00 44 hE k rfl rfl rfl rfl rfl e40
      case h =>
       simp [go_sem, ↓IntWalk.iteOmega, ev e43, hc _ O.below i x hxi]
       with_reducible rfl
      intro a80 hE e44 kp
      replace e7 := kt kp e7; replace e40 := kt kp e40
      apply Z00 45 hE k rfl rfl rfl rfl rfl e40
      case h =>
       exact Z05 (Z0c rfl e44 rfl) (decide_eq_true (by omega))
      intro a81 hE e45 kp
      replace e7 := kt kp e7; replace e40 := kt kp e40
      refine sd 46 hE k (Z06 rfl e40 e45) ?_
      intro a82 hE e46 kp
      replace e7 := kt kp e7
      refine sd 47 hE k (Z02 rfl e46) ?_
      intro a83 hE e47 kp
      replace e7 := kt kp e7
      refine Z04 48 hE k rfl (by rfl) (by rfl) rfl rfl (.inl e47) ?_
      intro a84 hE e48 kp
      replace e7 := kt kp e7; replace e47 := kt kp e47
      refine Z04 49 hE k rfl (by rfl) (by rfl) rfl rfl (.inl e47) ?_
      intro a85 hE e49 kp
      replace e7 := kt kp e7; replace e47 := kt kp e47; replace e48 := kt kp e48
      refine Z04 50 hE k rfl (by rfl) (by rfl) rfl rfl (.inl e47) ?_
      intro a86 hE e50 kp
      replace e7 := kt kp e7; replace e47 := kt kp e47
      refine Z04 51 hE k rfl (by rfl) (by rfl) rfl rfl (.inl e47) ?_
      intro a87 hE e51 kp
      replace e7 := kt kp e7; replace e47 := kt kp e47
      refine Z04 52 hE k rfl (by rfl) (by rfl) rfl rfl (.inl e47) ?_
      intro a88 hE e52 kp
      replace e7 := kt kp e7; replace e47 := kt kp e47
      refine sd 53 hE k (Z07 rfl e47 rfl) ?_
      intro a89 hE e53 kp
      replace e7 := kt kp e7
      refine sd 7 hE k (Z03 rfl e53) ?_
      intro a90 hE e7 kp
      refine wpList_nil ?_
      replace e0 := hE.g e0; replace e1 := hE.g e1; replace e5 := hE.g e5; replace e6 := hE.g e6; replace e8 := hE.g e8
      replace k := k.env hE
      clear hE e36
      refine Z0i ?_
      refine Z01 ?_
      refine wp_region_lit ?_
      have hE := Env.refl a90 [37, 38, 8]
      refine sd 37 hE k (Z02 rfl e8) ?_
      intro a91 hE e37 kp
      replace e8 := kt kp e8
      refine sd 38 hE k (Z0z rfl e37 rfl (by omega)) ?_
      intro a92 hE e38 kp
      replace e8 := kt kp e8
      refine sd 8 hE k (Z03 rfl e38) ?_
      intro a93 hE e8 kp
      refine wpList_nil ?_
      replace e0 := hE.g e0; replace e1 := hE.g e1; replace e5 := hE.g e5; replace e6 := hE.g e6; replace e7 := hE.g e7
      replace k := k.env hE
      clear hE
      refine Z01 ?_
      refine ⟨⟨k, e0, e1, e5, e6, i + 1, _, e7, e8, by omega, by rw [han, ← Bool.or_assoc, ← hb]; exact (decide_eq_true (.inl n1)).symm, hw, O⟩, ?_⟩
      rw [e8, mi]; simp only [intOf]; omega
    · by_cases n2 : 1000 < x
      · skip
        refine wp_seq ?_
        refine wp_seq ?_
        refine wp_region_lit ?_
        have hE := Env.refl a46 [33, 34, 35, 36]
        refine zm 33 hE k e8 ?_
        intro a94 hE e33 kp
        refine zm 34 hE k e1 ?_
        intro a95 hE e34 kp
        replace e33 := kt kp e33
        refine sd 35 hE k (Z0g Tryd.underlying33 rfl e34) ?_
        intro a96 hE e35 kp
        replace e33 := kt kp e33
        refine sd 36 hE k (Z05 (Z0c rfl e33 e35) (decide_eq_true (by omega))) ?_
        intro a97 hE e36 kp
        refine wpList_nil ?_
        replace e0 := hE.g e0; replace e1 := hE.g e1; replace e5 := hE.g e5; replace e6 := hE.g e6; replace e7 := hE.g e7; replace e8 := hE.g e8
        replace k := k.env hE
        clear hE
        refine Z01 ?_
        refine Z09 e36 rfl ?_
        refine wp_skip ?_
        refine Z01 (wp_seq ?_)
        refine wp_block ?_
        refine wp_region_lit ?_
        have hE := Env.refl a97 [39, 40, 41, 42, 43, 44, 45, 46, 47, 48, 49, 50, 51, 52, 53, 7]
        refine sd 39 hE k (Z02 rfl e7) ?_
        intro a98 hE e39 kp
        replace e7 := kt kp e7
        refine sd 40 hE k (Z02 rfl e39) ?_
        intro a99 hE e40 kp
        replace e7 := kt kp e7
        apply Z00 41 hE k rfl rfl rfl rfl rfl e40
        case h =>
         exact Z02 rfl (hE.g e1)
        intro a100 hE e41 kp
        replace e7 := kt kp e7; replace e40 := kt kp e40
        apply Z00 42 hE k rfl rfl rfl rfl rfl e40
        case h =>
         exact Z02 rfl (hE.g e8)
        intro a101 hE e42 kp
        replace e7 := kt kp e7; replace e40 := kt kp e40; replace e41 := kt kp e41
        apply Z00 43 hE k rfl rfl rfl rfl rfl e40
        case h =>
         simp [go_sem, ↓IntWalk.iteOmega, ev e41, ev e42]
         with_reducible rfl
        intro a102 hE e43 kp
        replace e7 := kt kp e7; replace e40 := kt kp e40
        apply Z00 44 hE k rfl rfl rfl rfl rfl e40
        case h =>
         simp [go_sem, ↓IntWalk.iteOmega, ev e43, hc _ O.below i x hxi]
         with_reducible rfl
        intro a103 hE e44 kp
        replace e7 := kt kp e7; replace e40 := kt kp e40
        apply Z00 45 hE k rfl rfl rfl rfl rfl e40
        case h =>
         exact Z05 (Z0c rfl e44 rfl) (decide_eq_false (by omega))
        intro a104 hE e45 kp
        replace e7 := kt kp e7; replace e40 := kt kp e40
        refine sd 46 hE k (Z06 rfl e40 e45) ?_
        intro a105 hE e46 kp
        replace e7 := kt kp e7
        refine sd 47 hE k (Z02 rfl e46) ?_
        intro a106 hE e47 kp
        replace e7 := kt kp e7
        apply Z00 48 hE k rfl rfl rfl rfl rfl e47
        case h =>
         exact Z02 rfl (hE.g e1)
        intro a107 hE e48 kp
        replace e7 := kt kp e7; replace e47 := kt kp e47
        apply Z00 49 hE k rfl rfl rfl rfl rfl e47
        case h =>
         exact Z02 rfl (hE.g e8)
        intro a108 hE e49 kp
        replace e7 := kt kp e7; replace e47 := kt kp e47; replace e48 := kt kp e48
        apply Z00 50 hE k rfl rfl rfl rfl rfl e47
        case h =>
         simp [go_sem, ↓IntWalk.iteOmega, ev e48, ev e49]
         with_reducible rfl
        intro a109 hE e50 kp
        replace e7 := kt kp e7; replace e47 := kt kp e47
        apply Z00 51 hE k rfl rfl rfl rfl rfl e47
        case h =>
         simp [go_sem, ↓IntWalk.iteOmega, ev e50, hc _ O.below i x hxi]
         with_reducible rfl
        intro a110 hE e51 kp
        replace e7 := kt kp e7; replace e47 := kt kp e47
        apply Z00 52 hE k rfl rfl rfl rfl rfl e47
        case h =>
         exact Z05 (Z0w rfl e51 rfl) (decide_eq_true (by omega))
        intro a111 hE e52 kp
        replace e7 := kt kp e7; replace e47 := kt kp e47
        refine sd 53 hE k (Z06 rfl e47 e52) ?_
        intro a112 hE e53 kp
        replace e7 := kt kp e7
        refine sd 7 hE k (Z03 rfl e53) ?_
        intro a113 hE e7 kp
        refine wpList_nil ?_
        replace e0 := hE.g e0; replace e1 := hE.g e1; replace e5 := hE.g e5; replace e6 := hE.g e6; replace e8 := hE.g e8
        replace k := k.env hE
        clear hE e36
        refine Z0i ?_
        refine Z01 ?_
        refine wp_region_lit ?_
        have hE := Env.refl a113 [37, 38, 8]
        refine sd 37 hE k (Z02 rfl e8) ?_
        intro a114 hE e37 kp
        replace e8 := kt kp e8
        refine sd 38 hE k (Z0z rfl e37 rfl (by omega)) ?_
        intro a115 hE e38 kp
        replace e8 := kt kp e8
        refine sd 8 hE k (Z03 rfl e38) ?_
        intro a116 hE e8 kp
        refine wpList_nil ?_
        replace e0 := hE.g e0; replace e1 := hE.g e1; replace e5 := hE.g e5; replace e6 := hE.g e6; replace e7 := hE.g e7
        replace k := k.env hE
        clear hE
        refine Z01 ?_
        refine ⟨⟨k, e0, e1, e5, e6, i + 1, _, e7, e8, by omega, by rw [han, ← Bool.or_assoc, ← hb]; exact (decide_eq_true (.inr n2)).symm, hw, O⟩, ?_⟩
        rw [e8, mi]; simp only [intOf]; omega
      · skip
        refine wp_seq ?_
        refine wp_seq ?_
        refine wp_region_lit ?_
        have hE := Env.refl a46 [33, 34, 35, 36]
        refine zm 33 hE k e8 ?_
        intro a117 hE e33 kp
        refine zm 34 hE k e1 ?_
        intro a118 hE e34 kp
        replace e33 := kt kp e33
        refine sd 35 hE k (Z0g Tryd.underlying33 rfl e34) ?_
        intro a119 hE e35 kp
        replace e33 := kt kp e33
        refine sd 36 hE k (Z05 (Z0c rfl e33 e35) (decide_eq_true (by omega))) ?_
        intro a120 hE e36 kp
        refine wpList_nil ?_
        replace e0 := hE.g e0; replace e1 := hE.g e1; replace e5 := hE.g e5; replace e6 := hE.g e6; replace e7 := hE.g e7; replace e8 := hE.g e8
        replace k := k.env hE
        clear hE
        refine Z01 ?_
        refine Z09 e36 rfl ?_
        refine wp_skip ?_
        refine Z01 (wp_seq ?_)
        refine wp_block ?_
        refine wp_region_lit ?_
        have hE := Env.refl a120 [39, 40, 41, 42, 43, 44, 45, 46, 47, 48, 49, 50, 51, 52, 53, 7]
        refine sd 39 hE k (Z02 rfl e7) ?_
        intro a121 hE e39 kp
        replace e7 := kt kp e7
        refine sd 40 hE k (Z02 rfl e39) ?_
        intro a122 hE e40 kp
        replace e7 := kt kp e7
        apply Z00 41 hE k rfl rfl rfl rfl rfl e40
        case h =>
         exact Z02 rfl (hE.g e1)
        intro a123 hE e41 kp
        replace e7 := kt kp e7; replace e40 := kt kp e40
        apply Z00 42 hE k rfl rfl rfl rfl rfl e40
        case h =>
         exact Z02 rfl (hE.g e8)
        intro a124 hE e42 kp
        replace e7 := kt kp e7; replace e40 := kt kp e40; replace e41 := kt kp e41
        apply Z00 43 hE k rfl rfl rfl rfl rfl e40
        case h =>
         simp [go_sem, ↓IntWalk.iteOmega, ev e41, ev e42]
         with_reducible rfl
        intro a125 hE e43 kp
        replace e7 := kt kp e7; replace e40 := kt kp e40
        apply Z00 44 hE k rfl rfl rfl rfl rfl e40
        case h =>
         simp [go_sem, ↓IntWalk.iteOmega, ev e43, hc _ O.below i x hxi]
         with_reducible rfl
        intro a126 hE e44 kp
        replace e7 := kt kp e7; replace e40 := kt kp e40
        apply Z00 45 hE k rfl rfl rfl rfl rfl e40
        case h =>
         exact Z05 (Z0c rfl e44 rfl) (decide_eq_false (by omega))
        intro a127 hE e45 kp
        replace e7 := kt kp e7; replace e40 := kt kp e40
        refine sd 46 hE k (Z06 rfl e40 e45) ?_
        intro a128 hE e46 kp
        replace e7 := kt kp e7
        refine sd 47 hE k (Z02 rfl e46) ?_
        intro a129 hE e47 kp
        replace e7 := kt kp e7
        apply Z00 48 hE k rfl rfl rfl rfl rfl e47
        case h =>
         exact Z02 rfl (hE.g e1)
        intro a130 hE e48 kp
        replace e7 := kt kp e7; replace e47 := kt kp e47
        apply Z00 49 hE k rfl rfl rfl rfl rfl e47
        case h =>
         exact Z02 rfl (hE.g e8)
        intro a131 hE e49 kp
        replace e7 := kt kp e7; replace e47 := kt kp e47; replace e48 := kt kp e48
        apply Z00 50 hE k rfl rfl rfl rfl rfl e47
        case h =>
         simp [go_sem, ↓IntWalk.iteOmega, ev e48, ev e49]
         with_reducible rfl
        intro a132 hE e50 kp
        replace e7 := kt kp e7; replace e47 := kt kp e47
        apply Z00 51 hE k rfl rfl rfl rfl rfl e47
        case h =>
         simp [go_sem, ↓IntWalk.iteOmega, ev e50, hc _ O.below i x hxi]
         with_reducible rfl
        intro a133 hE e51 kp
        replace e7 := kt kp e7; replace e47 := kt kp e47
        apply Z00 52 hE k rfl rfl rfl rfl rfl e47
        case h =>
         exact Z05 (Z0w rfl e51 rfl) (decide_eq_false (by omega))
        intro a134 hE e52 kp
        replace e7 := kt kp e7; replace e47 := kt kp e47
        refine sd 53 hE k (Z06 rfl e47 e52) ?_
        intro a135 hE e53 kp
        replace e7 := kt kp e7
        refine sd 7 hE k (Z03 rfl e53) ?_
        intro a136 hE e7 kp
        refine wpList_nil ?_
        replace e0 := hE.g e0; replace e1 := hE.g e1; replace e5 := hE.g e5; replace e6 := hE.g e6; replace e8 := hE.g e8
        replace k := k.env hE
        clear hE e36
        refine Z0i ?_
        refine Z01 ?_
        refine wp_region_lit ?_
        have hE := Env.refl a136 [37, 38, 8]
        refine sd 37 hE k (Z02 rfl e8) ?_
        intro a137 hE e37 kp
        replace e8 := kt kp e8
        refine sd 38 hE k (Z0z rfl e37 rfl (by omega)) ?_
        intro a138 hE e38 kp
        replace e8 := kt kp e8
        refine sd 8 hE k (Z03 rfl e38) ?_
        intro a139 hE e8 kp
        refine wpList_nil ?_
        replace e0 := hE.g e0; replace e1 := hE.g e1; replace e5 := hE.g e5; replace e6 := hE.g e6; replace e7 := hE.g e7
        replace k := k.env hE
        clear hE
        refine Z01 ?_
        refine ⟨⟨k, e0, e1, e5, e6, i + 1, _, e7, e8, by omega, by rw [han, ← Bool.or_assoc, ← hb]; exact (decide_eq_false (by omega)).symm, hw, O⟩, ?_⟩
        rw [e8, mi]; simp only [intOf]; omega
 · have hzI : ¬ (i : Int) < (xs.length : Int) := by omega
   have hbw : b = badW xs := by
    rw [hb, List.take_of_length_le (by omega)]
    unfold badW
    rw [decide_eq_false (show ¬ 100 < xs.length by omega), Bool.or_false]
    congr 1
    exact decide_eq_decide.2 (by omega)
   clear hb mi

   rcases hcc with ⟨g1, rfl, rfl⟩ | ⟨g1, rfl, rfl⟩ | ⟨g1, g2, rfl, rfl, hXr⟩
   · rw [g1] at hbw; subst hbw
     refine wp_seq ?_
     refine wp_seq ?_
     refine wp_region_lit ?_
     have hE := Env.refl a46 [33, 34, 35, 36]
     refine zm 33 hE k e8 ?_
     intro a140 hE e33 kp
     refine zm 34 hE k e1 ?_
     intro a141 hE e34 kp
     replace e33 := kt kp e33
     refine sd 35 hE k (Z0g Tryd.underlying33 rfl e34) ?_
     intro a142 hE e35 kp
     replace e33 := kt kp e33
     refine sd 36 hE k (Z05 (Z0c rfl e33 e35) (decide_eq_false (by omega))) ?_
     intro a143 hE e36 kp
     refine wpList_nil ?_
     replace e0 := hE.g e0; replace e1 := hE.g e1; replace e5 := hE.g e5; replace e6 := hE.g e6; replace e7 := hE.g e7; replace e8 := hE.g e8
     replace k := k.env hE
     clear hE
     refine Z01 ?_
     refine Z0b e36 rfl ?_
     refine wp_exit ?_
     refine Z0f ?_
     refine Z0f ?_
     refine Z0l ?_
     refine Z01 (wp_seq ?_)
     refine wp_seq ?_
     refine wp_region_lit ?_
     have hE := Env.refl a143 [54]
     refine zm 54 hE k e7 ?_
     intro a144 hE e54 kp
     refine wpList_nil ?_
     replace e0 := hE.g e0; replace e1 := hE.g e1; replace e5 := hE.g e5; replace e6 := hE.g e6
     replace k := k.env hE
     clear hE e7 e8 e36
     refine Z01 ?_
     refine Z09 e54 rfl ?_
     refine wp_seq ?_
     refine wp_region_lit ?_
     have hE := Env.refl a144 [55, 56, 57, 58, 59, 60, 61, 4]
     refine zm 55 hE k e6 ?_
     intro a145 hE e55 kp
     refine sd 56 hE k (Z0k rfl e55 rfl) ?_
     intro a146 hE e56 kp
     refine sd 57 hE k (Z02 rfl e56) ?_
     intro a147 hE e57 kp
     apply Z00 58 hE k rfl rfl rfl rfl rfl e57
     case h =>
      exact Z02 rfl (hE.g e5)
     intro a148 hE e58 kp
     replace e57 := kt kp e57
     apply Z00 59 hE k rfl rfl rfl rfl rfl e57
     case h =>
      exact Z0g Tryd.underlying22 rfl e58
     intro a149 hE e59 kp
     replace e57 := kt kp e57
     apply Z00 60 hE k rfl rfl rfl rfl rfl e57
     case h =>
      exact Z0k rfl e59 rfl
     intro a150 hE e60 kp
     replace e57 := kt kp e57
     refine sd 61 hE k (Z07 rfl e57 e60) ?_
     intro a151 hE e61 kp
     refine sd 4 hE k (Z03 rfl e61) ?_
     intro a152 hE e4 kp
     refine wpList_nil ?_
     replace k := k.env hE
     clear hE e0 e1 e5 e6 e54
     refine Z01 ?_
     refine wp_ret ?_
     refine Z0a ?_
     refine Z0e rfl k e4 ?_
     exact ⟨rfl, O.below⟩
   · rw [g1] at hbw; subst hbw
     refine wp_seq ?_
     refine wp_seq ?_
     refine wp_region_lit ?_
     have hE := Env.refl a46 [33, 34, 35, 36]
     refine zm 33 hE k e8 ?_
     intro a153 hE e33 kp
     refine zm 34 hE k e1 ?_
     intro a154 hE e34 kp
     replace e33 := kt kp e33
     refine sd 35 hE k (Z0g Tryd.underlying33 rfl e34) ?_
     intro a155 hE e35 kp
     replace e33 := kt kp e33
     refine sd 36 hE k (Z05 (Z0c rfl e33 e35) (decide_eq_false (by omega))) ?_
     intro a156 hE e36 kp
     refine wpList_nil ?_
     replace e0 := hE.g e0; replace e1 := hE.g e1; replace e5 := hE.g e5; replace e6 := hE.g e6; replace e7 := hE.g e7; replace e8 := hE.g e8
     replace k := k.env hE
     clear hE
     refine Z01 ?_
     refine Z0b e36 rfl ?_
     refine wp_exit ?_
     refine Z0f ?_
     refine Z0f ?_
     refine Z0l ?_
     refine Z01 (wp_seq ?_)
     refine wp_seq ?_
     refine wp_region_lit ?_
     have hE := Env.refl a156 [54]
     refine zm 54 hE k e7 ?_
     intro a157 hE e54 kp
     refine wpList_nil ?_
     replace e0 := hE.g e0; replace e1 := hE.g e1; replace e5 := hE.g e5; replace e6 := hE.g e6
     replace k := k.env hE
     clear hE e7 e8 e36
     refine Z01 ?_
     refine Z0b e54 rfl ?_
     refine wp_skip ?_
     refine Z01 (wp_seq ?_)
     refine wp_seq ?_
     refine wp_region_lit ?_
     have hE := Env.refl a157 [62, 63]
     refine zm 62 hE k e6 ?_
     intro a158 hE e62 kp
     refine sd 63 hE k (Z1d rfl e62 rfl) ?_
     intro a159 hE e63 kp
     refine wpList_nil ?_
     replace e0 := hE.g e0; replace e1 := hE.g e1; replace e5 := hE.g e5; replace e6 := hE.g e6
     replace k := k.env hE
     clear hE e54
     refine Z01 ?_
     refine Z09 e63 rfl ?_
     refine wp_seq ?_
     refine wp_region_lit ?_
     have hE := Env.refl a159 [64, 65, 66, 67, 68, 69, 70, 4]
     refine zm 64 hE k e6 ?_
     intro a160 hE e64 kp
     refine sd 65 hE k (Z0k rfl e64 rfl) ?_
     intro a161 hE e65 kp
     refine sd 66 hE k (Z02 rfl e65) ?_
     intro a162 hE e66 kp
     apply Z00 67 hE k rfl rfl rfl rfl rfl e66
     case h =>
      exact Z02 rfl (hE.g e5)
     intro a163 hE e67 kp
     replace e66 := kt kp e66
     apply Z00 68 hE k rfl rfl rfl rfl rfl e66
     case h =>
      exact Z0g Tryd.underlying22 rfl e67
     intro a164 hE e68 kp
     replace e66 := kt kp e66
     apply Z00 69 hE k rfl rfl rfl rfl rfl e66
     case h =>
      exact Z0k rfl e68 rfl
     intro a165 hE e69 kp
     replace e66 := kt kp e66
     refine sd 70 hE k (Z07 rfl e66 e69) ?_
     intro a166 hE e70 kp
     refine sd 4 hE k (Z03 rfl e70) ?_
     intro a167 hE e4 kp
     refine wpList_nil ?_
     replace k := k.env hE
     clear hE e0 e1 e5 e6 e63
     refine Z01 ?_
     refine wp_ret ?_
     refine Z0a ?_
     refine Z0e rfl k e4 ?_
     exact ⟨rfl, O.below⟩
   · rw [g1] at hbw; subst hbw
     obtain ⟨k1, k2, k3, k4⟩ := okC_is g2
     obtain ⟨X, hX⟩ : ∃ X, partL l = X := ⟨_, rfl⟩
     rw [hX] at k1 k2 k3 k4 hpm hpn hpt hXr
     have hrx : rtxt X = l := (if_pos k3).trans k4

     rw [hX] at e5
     refine wp_seq ?_
     refine wp_seq ?_
     refine wp_region_lit ?_
     have hE := Env.refl a46 [33, 34, 35, 36]
     refine zm 33 hE k e8 ?_
     intro a168 hE e33 kp
     refine zm 34 hE k e1 ?_
     intro a169 hE e34 kp
     replace e33 := kt kp e33
     refine sd 35 hE k (Z0g Tryd.underlying33 rfl e34) ?_
     intro a170 hE e35 kp
     replace e33 := kt kp e33
     refine sd 36 hE k (Z05 (Z0c rfl e33 e35) (decide_eq_false (by omega))) ?_
     intro a171 hE e36 kp
     refine wpList_nil ?_
     replace e0 := hE.g e0; replace e1 := hE.g e1; replace e5 := hE.g e5; replace e6 := hE.g e6; replace e7 := hE.g e7; replace e8 := hE.g e8
     replace k := k.env hE
     clear hE
     refine Z01 ?_
     refine Z0b e36 rfl ?_
     refine wp_exit ?_
     refine Z0f ?_
     refine Z0f ?_
     refine Z0l ?_
     refine Z01 (wp_seq ?_)
     refine wp_seq ?_
     refine wp_region_lit ?_
     have hE := Env.refl a171 [54]
     refine zm 54 hE k e7 ?_
     intro a172 hE e54 kp
     refine wpList_nil ?_
     replace e0 := hE.g e0; replace e1 := hE.g e1; replace e5 := hE.g e5; replace e6 := hE.g e6
     replace k := k.env hE
     clear hE e7 e8 e36
     refine Z01 ?_
     refine Z0b e54 rfl ?_
     refine wp_skip ?_
     refine Z01 (wp_seq ?_)
     refine wp_seq ?_
     refine wp_region_lit ?_
     have hE := Env.refl a172 [62, 63]
     refine zm 62 hE k e6 ?_
     intro a173 hE e62 kp
     refine sd 63 hE k (Z1d rfl e62 rfl) ?_
     intro a174 hE e63 kp
     refine wpList_nil ?_
     replace e0 := hE.g e0; replace e1 := hE.g e1; replace e5 := hE.g e5; replace e6 := hE.g e6
     replace k := k.env hE
     clear hE e54
     refine Z01 ?_
     refine Z0b e63 rfl ?_
     refine wp_skip ?_
     refine Z01 (wp_seq ?_)
     refine wp_region_lit ?_
     have hE := Env.refl a174 [72, 73, 71, 74, 75, 9, 10]
     refine zm 72 hE k e5 ?_
     intro a175 hE e72 kp
     apply Z0d 73 hE k rfl (by rfl) (by rfl) rfl
     case h =>
      simp [go_sem, ↓IntWalk.iteOmega, ev e72]
      with_reducible exact ⟨rfl, rfl⟩
     case hc => exact Z5r _ (hXr.below hw) (by omega) (fun T hT => ⟨by have := hpt T hT; omega, fun c hc => by have := hpm T hT c hc; omega⟩)
     rintro e w177 ⟨he, RE⟩
     replace O := OwnT.ext O RE
     replace hw := Ext.trans hw RE
     refine ⟨_, he.trans (by rw [hrx, k3]; first | done | rfl), ?_⟩
     intro a176 hE e73 kp
     refine sd 71 hE k (Z02 rfl e73) ?_
     intro a178 hE e71 kp
     apply Z08 74 hE k rfl rfl rfl rfl
     case h =>
      simp [go_sem, ↓IntWalk.iteOmega, ev e71]
      with_reducible rfl
     intro a179 hE e74 kp
     replace e71 := kt kp e71
     apply Z08 75 hE k rfl rfl rfl rfl
     case h =>
      simp [go_sem, ↓IntWalk.iteOmega, ev e71]
      with_reducible rfl
     intro a180 hE e75 kp
     replace e74 := kt kp e74
     refine sd 9 hE k (Z03 rfl e74) ?_
     intro a181 hE e9 kp
     replace e75 := kt kp e75
     refine sd 10 hE k (Z03 rfl e75) ?_
     intro a182 hE e10 kp
     replace e9 := kt kp e9
     refine wpList_nil ?_
     replace e0 := hE.g e0; replace e1 := hE.g e1; replace e5 := hE.g e5
     replace k := k.env hE
     clear hE e6 e63
     refine Z01 (wp_seq ?_)
     refine wp_seq ?_
     refine wp_region_lit ?_
     have hE := Env.refl a182 [76, 77, 78, 79, 80, 81, 82]
     refine zm 76 hE k e10 ?_
     intro a183 hE e76 kp
     refine sd 77 hE k (Z2a rfl e76) ?_
     intro a184 hE e77 kp
     refine sd 78 hE k (Z02 rfl e77) ?_
     intro a185 hE e78 kp
     apply Z00 79 hE k rfl rfl rfl rfl rfl e78
     case h =>
      exact Z02 rfl (hE.g e9)
     intro a186 hE e79 kp
     replace e78 := kt kp e78
     apply Z00 80 hE k rfl rfl rfl rfl rfl e78
     case h =>
      exact Z02 rfl (hE.g e0)
     intro a187 hE e80 kp
     replace e78 := kt kp e78; replace e79 := kt kp e79
     apply Z00 81 hE k rfl rfl rfl rfl rfl e78
     case h =>
      exact Z05 (Z7x (l := l) (m := l) rfl e79 e80) (decide_eq_false (fun h => h rfl))
     intro a188 hE e81 kp
     replace e78 := kt kp e78
     refine sd 82 hE k (Z06 rfl e78 e81) ?_
     intro a189 hE e82 kp
     refine wpList_nil ?_
     replace e1 := hE.g e1; replace e5 := hE.g e5
     replace k := k.env hE
     clear hE e0 e9 e10
     refine Z01 ?_
     refine Z0b e82 rfl ?_
     refine wp_skip ?_
     refine Z01 (wp_seq ?_)
     refine wp_seq ?_
     refine wp_region_lit ?_
     have hE := Env.refl a189 [11]
     refine sd 11 hE k (Z03 rfl rfl) ?_
     intro a190 hE e11 kp
     refine wpList_nil ?_
     replace e1 := hE.g e1; replace e5 := hE.g e5
     replace k := k.env hE
     clear hE e82
     refine Z01 ?_
     refine wp_block ?_
     refine wp_loop (fun a w => Fr 119 a ∧ a.eval (.tmp 1) = .slice A xs.length ca ∧ a.eval (.tmp 5) = .slice Bq X.length cq ∧ ∃ (z : Nat), a.eval (.tmp 11) = .int .i64 ↑z ∧ z ≤ xs.length ∧ Ext w35 w ∧ OwnT W0.heap.size W0 [] w) (fun a w => xs.length - (intOf (a.eval (.tmp 11))).toNat) ?_ ?_
     · exact ⟨k, e1, e5, 0, e11, Nat.zero_le _, hw, O⟩
     intro a191 w192 hK
     clear k e1 e5
     obtain ⟨k, e1, e5, h_⟩ := hK
     clear O e11 hw
     obtain ⟨z, e11, hz, hw, O⟩ := h_
     have mz := e11

     by_cases hlt : z < xs.length
     · skip
       have hzI : (z : Int) < (xs.length : Int) := by omega
       obtain ⟨x, hxi⟩ : ∃ x, xs[z]? = some x := ⟨_, List.getElem?_eq_getElem hlt⟩
       obtain ⟨bb, oo, hA, hc⟩ := Z1e h hxi
       have hwx := wds_at k2 hxi
       subst hA

       refine wp_seq ?_
       refine wp_seq ?_
       refine wp_region_lit ?_
       have hE := Env.refl a191 [83, 84, 85, 86]
       refine zm 83 hE k e11 ?_
       intro a193 hE e83 kp
       refine zm 84 hE k e1 ?_
       intro a194 hE e84 kp
       replace e83 := kt kp e83
       refine sd 85 hE k (Z0g Tryd.underlying33 rfl e84) ?_
       intro a195 hE e85 kp
       replace e83 := kt kp e83
       refine sd 86 hE k (Z05 (Z0c rfl e83 e85) (decide_eq_true (by omega))) ?_
       intro a196 hE e86 kp
       refine wpList_nil ?_
       replace e1 := hE.g e1; replace e5 := hE.g e5; replace e11 := hE.g e11
       replace k := k.env hE
       clear hE
       refine Z01 ?_
       refine Z09 e86 rfl ?_
       refine wp_skip ?_
       refine Z01 (wp_seq ?_)
       refine wp_block ?_
       refine wp_seq ?_
       refine wp_region_lit ?_
       have hE := Env.refl a196 [12]
       refine sd 12 hE k (Z03 rfl rfl) ?_
       intro a197 hE e12 kp
       refine wpList_nil ?_
       replace e1 := hE.g e1; replace e5 := hE.g e5; replace e11 := hE.g e11
       replace k := k.env hE
       clear hE e86
       refine Z01 (wp_seq ?_)
       refine wp_seq ?_
       refine wp_region_lit ?_
       have hE := Env.refl a197 [13]
       refine sd 13 hE k (Z03 rfl rfl) ?_
       intro a198 hE e13 kp
       refine wpList_nil ?_
       replace e1 := hE.g e1; replace e5 := hE.g e5; replace e11 := hE.g e11; replace e12 := hE.g e12
       replace k := k.env hE
       clear hE
       refine Z01 ?_
       refine wp_block ?_
       refine wp_loop (fun a w => Fr 119 a ∧ a.eval (.tmp 1) = .slice (some ⟨bb, oo, none⟩) xs.length ca ∧ a.eval (.tmp 5) = .slice Bq X.length cq ∧ a.eval (.tmp 11) = .int .i64 ↑z ∧ ∃ (j : Nat), a.eval (.tmp 12) = .int .i64 (↑(colW (X.take j) z)) ∧ a.eval (.tmp 13) = .int .i64 ↑j ∧ j ≤ X.length ∧ Ext w35 w ∧ OwnT W0.heap.size W0 [] w) (fun a w => X.length - (intOf (a.eval (.tmp 13))).toNat) ?_ ?_
       · exact ⟨k, e1, e5, e11, 0, e12, e13, Nat.zero_le _, hw, O⟩
       intro a199 w200 hW
       clear k e1 e5 e11
       obtain ⟨k, e1, e5, e11, h_⟩ := hW
       clear O e12 e13 hw
       obtain ⟨j, e12, e13, hj, hw, O⟩ := h_
       have mj := e13

       by_cases hlw : j < X.length
       · skip
         have hzJ : (j : Int) < (X.length : Int) := by omega
         obtain ⟨U, hU⟩ : ∃ T, X[j]? = some T := ⟨_, List.getElem?_eq_getElem hlw⟩
         have hUm := List.mem_of_getElem? hU
         have hUl := k1 U hUm
         obtain ⟨u, hu⟩ : ∃ s, U[z]? = some s := ⟨_, List.getElem?_eq_getElem (by omega)⟩
         obtain ⟨b2, o2, hA2, hsp⟩ := hXr.spot hU
         obtain ⟨Au, cu, hru, hcu⟩ := hsp j U hU
         obtain ⟨b3, o3, hA3, hsp3⟩ := hru.spot hu
         have hul := hpm U hUm u (List.mem_of_getElem? hu)
         have hcs := Z4u hU hu
         subst hA2 hA3

         refine wp_seq ?_
         refine wp_seq ?_
         refine wp_region_lit ?_
         have hE := Env.refl a199 [89, 90, 91, 92]
         refine zm 89 hE k e13 ?_
         intro a201 hE e89 kp
         refine zm 90 hE k e5 ?_
         intro a202 hE e90 kp
         replace e89 := kt kp e89
         refine sd 91 hE k (Z0g Tryd.underlying22 rfl e90) ?_
         intro a203 hE e91 kp
         replace e89 := kt kp e89
         refine sd 92 hE k (Z05 (Z0c rfl e89 e91) (decide_eq_true (by omega))) ?_
         intro a204 hE e92 kp
         refine wpList_nil ?_
         replace e1 := hE.g e1; replace e5 := hE.g e5; replace e11 := hE.g e11; replace e12 := hE.g e12; replace e13 := hE.g e13
         replace k := k.env hE
         clear hE
         refine Z01 ?_
         refine Z09 e92 rfl ?_
         refine wp_skip ?_
         refine Z01 (wp_seq ?_)
         refine wp_block ?_
         refine wp_seq ?_
         refine wp_seq ?_
         refine wp_region_lit ?_
         have hE := Env.refl a204 [95, 96, 97, 98, 99, 100, 101, 102]
         refine zm 95 hE k e5 ?_
         intro a205 hE e95 kp
         refine zm 96 hE k e13 ?_
         intro a206 hE e96 kp
         replace e95 := kt kp e95
         apply Z08 97 hE k rfl rfl rfl rfl
         case h =>
          simp [go_sem, ↓IntWalk.iteOmega, ev e95, ev e96]
          with_reducible rfl
         intro a207 hE e97 kp
         apply Z08 98 hE k rfl rfl rfl rfl
         case h =>
          simp [go_sem, ↓IntWalk.iteOmega, ev e97, hcu _ hw]
          with_reducible rfl
         intro a208 hE e98 kp
         refine sd 99 hE k (Z0g Tryd.underlying36 rfl e98) ?_
         intro a209 hE e99 kp
         refine zm 100 hE k e1 ?_
         intro a210 hE e100 kp
         replace e99 := kt kp e99
         refine sd 101 hE k (Z0g Tryd.underlying33 rfl e100) ?_
         intro a211 hE e101 kp
         replace e99 := kt kp e99
         refine sd 102 hE k (Z05 (Z1d rfl e99 e101) (decide_eq_false (by omega))) ?_
         intro a212 hE e102 kp
         refine wpList_nil ?_
         replace e1 := hE.g e1; replace e5 := hE.g e5; replace e11 := hE.g e11; replace e12 := hE.g e12; replace e13 := hE.g e13
         replace k := k.env hE
         clear hE e92
         refine Z01 ?_
         refine Z0b e102 rfl ?_
         refine wp_skip ?_
         refine Z01 ?_
         refine wp_region_lit ?_
         have hE := Env.refl a212 [103, 104, 105, 106, 107, 108, 109, 110, 111, 112, 12]
         refine sd 103 hE k (Z02 rfl e12) ?_
         intro a213 hE e103 kp
         replace e12 := kt kp e12
         refine zm 104 hE k e5 ?_
         intro a214 hE e104 kp
         replace e12 := kt kp e12; replace e103 := kt kp e103
         refine zm 105 hE k e13 ?_
         intro a215 hE e105 kp
         replace e12 := kt kp e12; replace e103 := kt kp e103; replace e104 := kt kp e104
         apply Z08 106 hE k rfl rfl rfl rfl
         case h =>
          simp [go_sem, ↓IntWalk.iteOmega, ev e104, ev e105]
          with_reducible rfl
         intro a216 hE e106 kp
         replace e12 := kt kp e12; replace e103 := kt kp e103
         apply Z08 107 hE k rfl rfl rfl rfl
         case h =>
          simp [go_sem, ↓IntWalk.iteOmega, ev e106, hcu _ hw]
          with_reducible rfl
         intro a217 hE e107 kp
         replace e12 := kt kp e12; replace e103 := kt kp e103
         refine zm 108 hE k e11 ?_
         intro a218 hE e108 kp
         replace e12 := kt kp e12; replace e103 := kt kp e103; replace e107 := kt kp e107
         apply Z08 109 hE k rfl rfl rfl rfl
         case h =>
          simp [go_sem, ↓IntWalk.iteOmega, ev e107, ev e108]
          with_reducible rfl
         intro a219 hE e109 kp
         replace e12 := kt kp e12; replace e103 := kt kp e103
         apply Z08 110 hE k rfl rfl rfl rfl
         case h =>
          simp [go_sem, ↓IntWalk.iteOmega, ev e109, hsp3 _ hw z u hu]
          with_reducible rfl
         intro a220 hE e110 kp
         replace e12 := kt kp e12; replace e103 := kt kp e103
         apply Z0d 111 hE k rfl (by rfl) (by rfl) rfl
         case h =>
          simp [go_sem, ↓IntWalk.iteOmega, ev e110]
          with_reducible exact ⟨rfl, rfl⟩
         case hc => exact Z1x u _ (by omega)
         rintro e w222 ⟨rfl, RE⟩
         replace O := OwnT.ext O RE
         replace hw := Ext.trans hw RE
         refine ⟨_, rfl, ?_⟩
         intro a221 hE e111 kp
         replace e12 := kt kp e12; replace e103 := kt kp e103
         refine sd 112 hE k (Z6n rfl e103 e111) ?_
         intro a223 hE e112 kp
         replace e12 := kt kp e12
         replace e112 := e112.trans (Z0q (show max (colW (X.take j) z : Int) (widthL u : Int) = ((colW (X.take (j + 1)) z : Nat) : Int) by omega))
         refine sd 12 hE k (Z03 rfl e112) ?_
         intro a224 hE e12 kp
         refine wpList_nil ?_
         replace e1 := hE.g e1; replace e5 := hE.g e5; replace e11 := hE.g e11; replace e13 := hE.g e13
         replace k := k.env hE
         clear hE e102
         refine Z0i ?_
         refine Z01 ?_
         refine wp_region_lit ?_
         have hE := Env.refl a224 [93, 94, 13]
         refine sd 93 hE k (Z02 rfl e13) ?_
         intro a225 hE e93 kp
         replace e13 := kt kp e13
         refine sd 94 hE k (Z0z rfl e93 rfl (by omega)) ?_
         intro a226 hE e94 kp
         replace e13 := kt kp e13
         refine sd 13 hE k (Z03 rfl e94) ?_
         intro a227 hE e13 kp
         refine wpList_nil ?_
         replace e1 := hE.g e1; replace e5 := hE.g e5; replace e11 := hE.g e11; replace e12 := hE.g e12
         replace k := k.env hE
         clear hE
         refine Z01 ?_
         refine ⟨⟨k, e1, e5, e11, j + 1, e12, e13, by omega, hw, O⟩, ?_⟩
         rw [e13, mj]; simp only [intOf]; omega
       · have hzJ : ¬ (j : Int) < (X.length : Int) := by omega
         rw [List.take_of_length_le (by omega)] at e12
         refine wp_seq ?_
         refine wp_seq ?_
         refine wp_region_lit ?_
         have hE := Env.refl a199 [89, 90, 91, 92]
         refine zm 89 hE k e13 ?_
         intro a228 hE e89 kp
         refine zm 90 hE k e5 ?_
         intro a229 hE e90 kp
         replace e89 := kt kp e89
         refine sd 91 hE k (Z0g Tryd.underlying22 rfl e90) ?_
         intro a230 hE e91 kp
         replace e89 := kt kp e89
         refine sd 92 hE k (Z05 (Z0c rfl e89 e91) (decide_eq_false (by omega))) ?_
         intro a231 hE e92 kp
         refine wpList_nil ?_
         replace e1 := hE.g e1; replace e5 := hE.g e5; replace e11 := hE.g e11; replace e12 := hE.g e12; replace e13 := hE.g e13
         replace k := k.env hE
         clear hE
         refine Z01 ?_
         refine Z0b e92 rfl ?_
         refine wp_exit ?_
         refine Z0f ?_
         refine Z0f ?_
         refine Z0l ?_
         refine Z01 (wp_seq ?_)
         refine wp_region_lit ?_
         have hE := Env.refl a231 [113, 114, 115, 116, 117, 118]
         refine zm 113 hE k e12 ?_
         intro a232 hE e113 kp
         refine zm 114 hE k e1 ?_
         intro a233 hE e114 kp
         replace e113 := kt kp e113
         refine zm 115 hE k e11 ?_
         intro a234 hE e115 kp
         replace e113 := kt kp e113; replace e114 := kt kp e114
         apply Z08 116 hE k rfl rfl rfl rfl
         case h =>
          simp [go_sem, ↓IntWalk.iteOmega, ev e114, ev e115]
          with_reducible rfl
         intro a235 hE e116 kp
         replace e113 := kt kp e113
         apply Z08 117 hE k rfl rfl rfl rfl
         case h =>
          simp [go_sem, ↓IntWalk.iteOmega, ev e116, hc _ O.below z x hxi]
          with_reducible rfl
         intro a236 hE e117 kp
         replace e113 := kt kp e113
         refine sd 118 hE k (Z05 (Z1d rfl e113 e117) (decide_eq_false (by omega))) ?_
         intro a237 hE e118 kp
         refine wpList_nil ?_
         replace e1 := hE.g e1; replace e5 := hE.g e5; replace e11 := hE.g e11
         replace k := k.env hE
         clear hE e12 e13 e92
         refine Z01 ?_
         refine Z0b e118 rfl ?_
         refine wp_skip ?_
         refine Z0i ?_
         refine Z01 ?_
         refine wp_region_lit ?_
         have hE := Env.refl a237 [87, 88, 11]
         refine sd 87 hE k (Z02 rfl e11) ?_
         intro a238 hE e87 kp
         replace e11 := kt kp e11
         refine sd 88 hE k (Z0z rfl e87 rfl (by omega)) ?_
         intro a239 hE e88 kp
         replace e11 := kt kp e11
         replace e88 := e88.trans (Z0q (show (z : Int) + 1 = ((z + 1 : Nat) : Int) by omega))
         refine sd 11 hE k (Z03 rfl e88) ?_
         intro a240 hE e11 kp
         refine wpList_nil ?_
         replace e1 := hE.g e1; replace e5 := hE.g e5
         replace k := k.env hE
         clear hE e118
         refine Z01 ?_
         refine ⟨⟨k, e1, e5, z + 1, e11, by omega, hw, O⟩, ?_⟩
         rw [e11, mz]; simp only [intOf]; omega
     · have hzI : ¬ (z : Int) < (xs.length : Int) := by omega
       refine wp_seq ?_
       refine wp_seq ?_
       refine wp_region_lit ?_
       have hE := Env.refl a191 [83, 84, 85, 86]
       refine zm 83 hE k e11 ?_
       intro a241 hE e83 kp
       refine zm 84 hE k e1 ?_
       intro a242 hE e84 kp
       replace e83 := kt kp e83
       refine sd 85 hE k (Z0g Tryd.underlying33 rfl e84) ?_
       intro a243 hE e85 kp
       replace e83 := kt kp e83
       refine sd 86 hE k (Z05 (Z0c rfl e83 e85) (decide_eq_false (by omega))) ?_
       intro a244 hE e86 kp
       refine wpList_nil ?_
       replace e1 := hE.g e1; replace e5 := hE.g e5; replace e11 := hE.g e11
       replace k := k.env hE
       clear hE
       refine Z01 ?_
       refine Z0b e86 rfl ?_
       refine wp_exit ?_
       refine Z0f ?_
       refine Z0f ?_
       refine Z0l ?_
       refine Z01 (wp_seq ?_)
       refine wp_region_lit ?_
       have hE := Env.refl a244 [4]
       refine sd 4 hE k (Z03 rfl rfl) ?_
       intro a245 hE e4 kp
       refine wpList_nil ?_
       replace k := k.env hE
       clear hE e1 e5 e11 e86
       refine Z01 ?_
       refine wp_ret ?_
       refine Z0e rfl k e4 ?_
       exact ⟨rfl, O.below⟩
theorem gridCells_walk (w : World) (v0 v1 : Value) (h0 : Arg Tryd.prog w 9 v0) (h1 : Arg Tryd.prog w 33 v1) (hv : VarW w) :
 Calls Tryd.prog 4 #[v0, v1] w fun e w' => e = .returned (.bool true) ∧ Below w.heap.size w w' := by
 obtain ⟨s, rfl, _⟩ := Z58 Tryd.underlying9 h0
 obtain ⟨A, len, ca, xs, rfl, _, _, hlen, _, hr⟩ := Z7o Tryd.underlying33 Tryd.underlying3 (by kernel_rfl) h1
 rw [← Z6z s, ← hlen]
 exact Z2v _ w hr hv
section
open Go.ChangeShapes Go.WideShapes Go.ChangeAt
theorem Arg.mk_ {P : Program} {w : World} {t : TypeId} {v : Value} {H : Type} {enc : TypeId × Value → H} {d : DataW H} {p : List MemPlace} {r : Reach} {base : Nat} (h : DataW.Trod enc P w 0 (fun _ => true) true t v d p) (hv : Value.okWide P w r base t v) : Arg P w t v := by
  obtain ⟨fuel, hf⟩ := h
  exact ⟨⟨H, enc, fuel, _, hf⟩, r, base, hv⟩
end
end Go.Proofs.YtgdlnfljfiageaaDoor
