/- reach's law: ReachShares (printed by XRcH.gen.py). -/
import Derived.Test.YtdeocidlkpbhcaaKReachShares33
namespace Go.Proofs.Ytdeocidlkpbhcaa
attribute [local simp] BigFrame.eval_const BigFrame.eval_global BigFrame.eval_func
set_option linter.unusedVariables false
set_option linter.unusedSimpArgs false
open Go.RowKit Go.Maps


/-- What a change brings: no room; or a root beside the first one. -/
def ChgR (N N2 : List Nd) (r l : Nat) (g : List Nat) (r2 er : Int) : Prop :=
 er = 6 ∨ (er = 0 ∧ N2.length ≤ 511 ∧ ∃ (r' : Nat) (g' : List Nat) (M : List Nd), r2 = r' ∧ N2 = N ++ M ∧ M.length ≤ l + 4 ∧ TgOk N2 [(r, g), (r', g')] ∧ ∀ q ∈ g', q ∈ g ∨ N.length < q)
theorem Z7m {N : List Nd} {r r' : Nat} {g g' : List Nat} {m m' : Nat} {L L' : List (List Pr)} (h1 : RT m N r L g) (hm : m ≤ 7) (h2 : RT m' N r' L' g') (hm' : m' ≤ 7) (hN : N.length ≤ 600) (hl : L.flatten.length ≤ 100000) (hl' : L'.flatten.length ≤ 100000) : TgOk N [(r, g), (r', g')] := fun x hx => by
 have e1 := h1.pages_le
 have e2 := h2.pages_le
 rcases List.mem_cons.1 hx with rfl | hx
 · exact ⟨m, L, h1, hm, by show g.length ≤ 600; omega, hl⟩
 · obtain rfl := List.mem_singleton.1 hx
   exact ⟨m', L', h2, hm', by show g'.length ≤ 600; omega, hl'⟩
theorem chg_put {N N2 : List Nd} {room : Int} {r l k v n : Nat} {L : List (List Pr)} {g : List Nat} {r2 er : Int} (hG : Grw N r n L g) (hn : n ≤ 120) (hR : RT l N r L g) (hl : l ≤ 1) (hP : PutT l N N2 room r k v L g r2 er) : ChgR N N2 r l g r2 er := by
 have hs := hG.small hn
 obtain ⟨M, rfl, hM⟩ := hP.app
 rcases hP.how with ⟨h, _⟩ | ⟨h0, r', L', g', m', h1, h2, _, h4, h5, h6, h7, h8, h9, h10⟩
 · exact .inl h
 · have hlen := hG.len
   have hil : (insP (k, v) L.flatten).length ≤ L.flatten.length + 1 := Z54
   have hN2 : (N ++ M).length ≤ 511 := by rw [List.length_append]; omega
   refine .inr ⟨h0, hN2, r', g', M, h1, rfl, by omega, Z7m (hR.mono M) (by omega) h4 (by omega) (by omega) (by omega) (by rw [h5]; omega), h9⟩
theorem chg_drop {N N2 : List Nd} {room : Int} {r l k n : Nat} {L : List (List Pr)} {g : List Nat} {r2 er : Int} {ok : Bool} (hG : Grw N r n L g) (hn : n ≤ 120) (hR : RT l N r L g) (hl : l ≤ 1) (hP : DropT l N N2 room r k L g r2 ok er) : ChgR N N2 r l g r2 er := by
 have hs := hG.small hn
 have hlen := hG.len
 rcases hP with ⟨h1, _, h3, h4, _⟩ | ⟨h1, _⟩ | ⟨h1, _, _, ⟨M, h4, h5⟩, r', L', g', h6, h7, h8, _, h10⟩
 · refine .inr ⟨h1, by rw [h4]; omega, r, g, [], h3, by rw [h4]; simp, by simp, by rw [h4]; exact Z7m hR (by omega) hR (by omega) (by omega) (by omega) (by omega), fun q hq => .inl hq⟩
 · exact .inl h1
 · have hdl : (delP k L.flatten).length ≤ L.flatten.length := Z55
   have hN2 : N2.length ≤ 511 := by rw [h4, List.length_append]; omega
   refine .inr ⟨h1, hN2, r', g', M, h6, h4, by omega, ?_, h10⟩
   rw [h4] at h7 hN2 ⊢
   exact Z7m (hR.mono M) (by omega) h7 (by omega) (by omega) (by omega) (by rw [h8]; omega)
theorem rs_two {r r' : Nat} {g g' : List Nat} (hr : r ≠ 0) : (rsF [(r, g), (r', g')]).length = if r' = 0 then 1 else 2 := by
 unfold rsF
 by_cases e : r' = 0
 · rw [if_pos e]; simp [hr, e]
 · rw [if_neg e]; simp [hr, e]

set_option maxRecDepth 100000 in
set_option maxHeartbeats 4000000 in
theorem rcGrownS {H : Nat} {A0 : World} {R : List Thing} {sb cap : Nat} {B : Option Addr} {vs : List Value} (n : Nat) (w : World) (O : OwnT H A0 (shT sb 511 B cap vs ([]) R) w) (hn : n ≤ 120) : Calls Try.prog 9 #[.pointer (some ⟨sb, 0, none⟩), .int .i64 n] w fun e w' => ∃ N', ∃ r : Nat, ∃ L g B' cap' vs', e = .returned (.int .i64 r) ∧ OwnT H A0 (shT sb 511 B' cap' vs' N' R) w' ∧ Grw N' r n L g ∧ (1 ≤ n → 1 ≤ r) := by
 refine Z0b Try.func9 rfl 29 rfl (by rfl) ?_
 intro a1 k hargs
 have e0 : a1.eval (.tmp 0) = .pointer (some ⟨sb, 0, none⟩) := hargs 0 _ rfl
 have e1 : a1.eval (.tmp 1) = .int .i64 ↑n := hargs 1 _ rfl
 clear hargs
 refine wp_seq ?_
 refine wp_region_lit ?_
 have hE := Env.refl a1 [4]
 refine sd 4 hE k (Z00 rfl rfl) ?_
 intro a2 hE e4 kp
 refine wpList_nil ?_
 replace e0 := hE.g e0; replace e1 := hE.g e1
 replace k := k.env hE
 clear hE e4
 refine Z01 (wp_seq ?_)
 refine wp_region_lit ?_
 have hE := Env.refl a2 [5]
 refine sd 5 hE k (Z00 rfl rfl) ?_
 intro a3 hE e5 kp
 refine wpList_nil ?_
 replace e0 := hE.g e0; replace e1 := hE.g e1
 replace k := k.env hE
 clear hE
 refine Z01 (wp_seq ?_)
 refine wp_seq ?_
 refine wp_region_lit ?_
 have hE := Env.refl a3 [6]
 refine sd 6 hE k (Z00 rfl rfl) ?_
 intro a4 hE e6 kp
 refine wpList_nil ?_
 replace e0 := hE.g e0; replace e1 := hE.g e1; replace e5 := hE.g e5
 replace k := k.env hE
 clear hE
 refine Z01 ?_
 refine wp_block ?_
 refine wp_loop (fun a w => Fr 29 a ∧ a.eval (.tmp 0) = .pointer (some ⟨sb, 0, none⟩) ∧ a.eval (.tmp 1) = .int .i64 ↑n ∧ ∃ (i rt : Nat) (L : List (List Pr)) (g : List Nat) (N : List Nd) (B1 : Option Addr) (cap1 : Nat) (vs1 : List Value), a.eval (.tmp 5) = .int .i64 ↑rt ∧ a.eval (.tmp 6) = .int .i64 ↑i ∧ i ≤ n ∧ Grw N rt i L g ∧ (1 ≤ i → 1 ≤ rt) ∧ OwnT H A0 ((tBlk sb 27 #[.slice B1 N.length cap1, .int .i64 511]) :: (tRow 40 2 (.slice B1 N.length cap1) N.length (leafV vs1 N)) :: (tPool vs1 N) :: R) w) (fun a w => n - (intOf (a.eval (.tmp 6))).toNat) ?_ ?_
 · exact ⟨k, e0, e1, 0, 0, [], [], [], B, cap, vs, e5, e6, Nat.zero_le _, Grw.zero, (fun h => absurd h (by omega)), O⟩
 intro a5 w6 hI
 clear k e0 e1
 obtain ⟨k, e0, e1, h_⟩ := hI
 clear O e5 e6
 obtain ⟨i, rt, L, g, N, B1, cap1, vs1, e5, e6, hi, hG, hr1, O⟩ := h_
 have mi := e6
 by_cases hlt : i < n
 · have hltI : (i : Int) < (n : Int) := by omega
   obtain ⟨m, hR, hm⟩ := hG.rt
   have hs := hG.small (by omega)
   refine wp_seq ?_
   refine wp_seq ?_
   refine wp_region_lit ?_
   have hE := Env.refl a5 [9, 10, 11]
   refine zm 9 hE k e6 ?_
   intro a7 hE e9 kp
   refine zm 10 hE k e1 ?_
   intro a8 hE e10 kp
   replace e9 := kt kp e9
   refine sd 11 hE k (Z05 (Z17 rfl e9 e10) (decide_eq_true (by omega))) ?_
   intro a9 hE e11 kp
   refine wpList_nil ?_
   replace e0 := hE.g e0; replace e1 := hE.g e1; replace e5 := hE.g e5; replace e6 := hE.g e6
   replace k := k.env hE
   clear hE
   refine Z01 ?_
   refine Z0a e11 rfl ?_
   refine wp_skip ?_
   refine Z01 (wp_seq ?_)
   refine wp_block ?_
   refine wp_seq ?_
   refine wp_region_lit ?_
   have hE := Env.refl a9 [15, 16, 17, 18, 19, 20, 21, 22, 14, 23, 24, 7, 8]
   refine zm 15 hE k e0 ?_
   intro a10 hE e15 kp
   apply Z02 16 hE k rfl rfl rfl rfl
   case h =>
    simp [go_sem, ↓IntWalk.iteOmega, ev e15]
    with_reducible rfl
   intro a11 hE e16 kp
   refine zm 17 hE k e5 ?_
   intro a12 hE e17 kp
   replace e16 := kt kp e16
   refine zm 18 hE k e6 ?_
   intro a13 hE e18 kp
   replace e16 := kt kp e16; replace e17 := kt kp e17
   refine sd 19 hE k (Z1p rfl e18 (Z2g i _ (by omega))) ?_
   intro a14 hE e19 kp
   replace e16 := kt kp e16; replace e17 := kt kp e17
   refine zm 20 hE k e6 ?_
   intro a15 hE e20 kp
   replace e16 := kt kp e16; replace e17 := kt kp e17; replace e19 := kt kp e19
   refine sd 21 hE k (Z1p rfl e20 (Z2g i _ (by omega))) ?_
   intro a16 hE e21 kp
   replace e16 := kt kp e16; replace e17 := kt kp e17; replace e19 := kt kp e19
   apply Z07 22 hE k rfl (by rfl) (by rfl) rfl
   case h =>
    simp [go_sem, ↓IntWalk.iteOmega, ev e16, ev e17, ev e19, ev e21]
    with_reducible exact ⟨rfl, rfl⟩
   case hc => exact tPut (ky := i) (vl := i) _ O hR (by omega) (by omega) (by omega) (by omega)
   clear O
   rintro e w18 ⟨N2, r2, er, B2, cap2, vs2, rfl, O, hP⟩
   refine ⟨_, rfl, ?_⟩
   intro a17 hE e22 kp
   refine sd 14 hE k (Z03 rfl e22) ?_
   intro a19 hE e14 kp
   apply Z02 23 hE k rfl rfl rfl rfl
   case h =>
    simp [go_sem, ↓IntWalk.iteOmega, ev e14]
    with_reducible rfl
   intro a20 hE e23 kp
   replace e14 := kt kp e14
   apply Z02 24 hE k rfl rfl rfl rfl
   case h =>
    simp [go_sem, ↓IntWalk.iteOmega, ev e14]
    with_reducible rfl
   intro a21 hE e24 kp
   replace e23 := kt kp e23
   refine sd 7 hE k (Z00 rfl e23) ?_
   intro a22 hE e7 kp
   replace e24 := kt kp e24
   refine sd 8 hE k (Z00 rfl e24) ?_
   intro a23 hE e8 kp
   replace e7 := kt kp e7
   refine wpList_nil ?_
   replace e0 := hE.g e0; replace e1 := hE.g e1; replace e6 := hE.g e6
   replace k := k.env hE
   clear hE e5 e11
   refine Z01 ?_
   obtain ⟨rfl, r', L', g', rfl, hr2, hG2⟩ := hG.put hR hm (by omega) rfl hP
   refine wp_seq ?_
   refine wp_seq ?_
   refine wp_region_lit ?_
   have hE := Env.refl a23 [25, 26]
   refine zm 25 hE k e8 ?_
   intro a24 hE e25 kp
   refine sd 26 hE k (Z05 (Z0j rfl e25 rfl) (decide_eq_false (by omega))) ?_
   intro a25 hE e26 kp
   refine wpList_nil ?_
   replace e0 := hE.g e0; replace e1 := hE.g e1; replace e6 := hE.g e6; replace e7 := hE.g e7
   replace k := k.env hE
   clear hE e8
   refine Z01 ?_
   refine Z06 e26 rfl ?_
   refine wp_skip ?_
   refine Z01 ?_
   refine wp_region_lit ?_
   have hE := Env.refl a25 [27, 5]
   refine zm 27 hE k e7 ?_
   intro a26 hE e27 kp
   refine sd 5 hE k (Z00 rfl e27) ?_
   intro a27 hE e5 kp
   refine wpList_nil ?_
   replace e0 := hE.g e0; replace e1 := hE.g e1; replace e6 := hE.g e6
   replace k := k.env hE
   clear hE e7 e26
   refine Z0s ?_
   refine Z01 ?_
   refine wp_region_lit ?_
   have hE := Env.refl a27 [12, 13, 6]
   refine sd 12 hE k (Z03 rfl e6) ?_
   intro a28 hE e12 kp
   replace e6 := kt kp e6
   refine sd 13 hE k (Z0x rfl e12 rfl (by omega)) ?_
   intro a29 hE e13 kp
   replace e6 := kt kp e6
   refine sd 6 hE k (Z00 rfl e13) ?_
   intro a30 hE e6 kp
   refine wpList_nil ?_
   replace e0 := hE.g e0; replace e1 := hE.g e1; replace e5 := hE.g e5
   replace k := k.env hE
   clear hE
   refine Z01 ?_
   refine ⟨⟨k, e0, e1, i + 1, r', L', g', N2, B2, cap2, vs2, e5, e6, by omega, hG2, (fun _ => hr2), O⟩, ?_⟩
   rw [e6, mi]; simp only [intOf]; omega
 · obtain rfl : i = n := by omega
   clear mi
   refine wp_seq ?_
   refine wp_seq ?_
   refine wp_region_lit ?_
   have hE := Env.refl a5 [9, 10, 11]
   refine zm 9 hE k e6 ?_
   intro a31 hE e9 kp
   refine zm 10 hE k e1 ?_
   intro a32 hE e10 kp
   replace e9 := kt kp e9
   refine sd 11 hE k (Z05 (Z17 rfl e9 e10) (decide_eq_false (by omega))) ?_
   intro a33 hE e11 kp
   refine wpList_nil ?_
   replace e0 := hE.g e0; replace e1 := hE.g e1; replace e5 := hE.g e5; replace e6 := hE.g e6
   replace k := k.env hE
   clear hE
   refine Z01 ?_
   refine Z06 e11 rfl ?_
   refine wp_exit ?_
   refine Z12 ?_
   refine Z12 ?_
   refine Z1o ?_
   refine Z01 (wp_seq ?_)
   refine wp_region_lit ?_
   have hE := Env.refl a33 [28, 4]
   refine zm 28 hE k e5 ?_
   intro a34 hE e28 kp
   refine sd 4 hE k (Z00 rfl e28) ?_
   intro a35 hE e4 kp
   refine wpList_nil ?_
   replace k := k.env hE
   clear hE e0 e1 e5 e6 e11
   refine Z01 ?_
   refine wp_ret ?_
   refine Z0z rfl k e4 ?_
   exact ⟨N, rt, L, g, B1, cap1, vs1, rfl, O, hG, hr1⟩
set_option maxRecDepth 100000 in
set_option maxHeartbeats 4000000 in
theorem Z4x (nn key : Int) (dr : Bool) (W0 : World) : Calls Try.prog 4 #[.int .i64 nn, .int .i64 key, .bool dr] W0 fun e w' => e = .returned (.bool true) ∧ Below W0.heap.size W0 w' := by
 have O := OwnT.start W0
 refine Z0b Try.func4 rfl 184 rfl (by rfl) ?_
 intro a1 k hargs
 have e0 : a1.eval (.tmp 0) = .int .i64 nn := hargs 0 _ rfl
 have e1 : a1.eval (.tmp 1) = .int .i64 key := hargs 1 _ rfl
 have e2 : a1.eval (.tmp 2) = .bool dr := hargs 2 _ rfl
 clear hargs
 refine wp_seq ?_
 refine wp_region_lit ?_
 have hE := Env.refl a1 [6]
 refine sd 6 hE k (Z00 rfl rfl) ?_
 intro a2 hE e6 kp
 refine wpList_nil ?_
 replace e0 := hE.g e0; replace e1 := hE.g e1; replace e2 := hE.g e2
 replace k := k.env hE
 clear hE e6
 refine Z01 (wp_seq ?_)
 refine wp_seq ?_
 refine wp_region_lit ?_
 have hE := Env.refl a2 [25, 26]
 apply Z07 25 hE k rfl (by rfl) (by rfl) rfl
 case h =>
  simp [go_sem, ↓IntWalk.iteOmega]
  with_reducible exact ⟨rfl, rfl⟩
 case hc => exact awake09 _
 rintro e w4 ⟨rfl, R⟩
 replace O := OwnT.ext O R
 refine ⟨_, rfl, ?_⟩
 intro a3 hE e25 kp
 refine sd 26 hE k (Z20 rfl e25) ?_
 intro a5 hE e26 kp
 refine wpList_nil ?_
 replace e0 := hE.g e0; replace e1 := hE.g e1; replace e2 := hE.g e2
 replace k := k.env hE
 clear hE
 refine Z01 ?_
 refine Z06 e26 rfl ?_
 refine wp_skip ?_
 refine Z01 (wp_seq ?_)
 refine wp_region_lit ?_
 have hE := Env.refl a5 [27, 28, 7]
 apply Z02 27 hE k rfl rfl rfl rfl
 case h =>
  simp [go_sem, ↓IntWalk.iteOmega]
  with_reducible rfl
 intro a6 hE e27 kp
 refine Z0k O (cs := #[.slice none 0 0, .int .i64 511]) (t := 27) 28 hE k rfl (by rfl) (by rfl) rfl (by simp [go_sem, ↓IntWalk.iteOmega, ev e27]) ?_
 clear O
 intro sb a7 w8 O hE e28 kp
 refine sd 7 hE k (Z00 rfl e28) ?_
 intro a9 hE e7 kp
 refine wpList_nil ?_
 replace e0 := hE.g e0; replace e1 := hE.g e1; replace e2 := hE.g e2
 replace k := k.env hE
 clear hE e26
 refine Z01 ?_
 replace O := sh_nil O
 obtain ⟨K, hK⟩ : ∃ k, 1 + uN nn % 120 = k := ⟨_, rfl⟩
 have hK1 : 1 ≤ K ∧ K ≤ 120 := by omega
 obtain ⟨kx, hkx⟩ : ∃ k, uN key % 150 = k := ⟨_, rfl⟩
 have hkx1 : kx ≤ 150 := by omega

 refine wp_seq ?_
 refine wp_region_lit ?_
 have hE := Env.refl a9 [29, 30, 31, 32, 33, 8]
 refine zm 29 hE k e0 ?_
 intro a10 hE e29 kp
 refine sd 30 hE k (Z1p rfl e29 (Z5o nn _)) ?_
 intro a11 hE e30 kp
 refine sd 31 hE k (x_remU (m := uN nn) (j := 120) rfl e30 rfl rfl (by decide)) ?_
 intro a12 hE e31 kp
 refine sd 32 hE k (Z1p rfl e31 (Z6q _ _ (by omega))) ?_
 intro a13 hE e32 kp
 refine sd 33 hE k (Z0x rfl rfl e32 (by omega)) ?_
 intro a14 hE e33 kp
 replace e33 := e33.trans (Z0p (show 1 + ((uN nn % 120 : Nat) : Int) = (K : Int) by omega))
 refine sd 8 hE k (Z00 rfl e33) ?_
 intro a15 hE e8 kp
 refine wpList_nil ?_
 replace e1 := hE.g e1; replace e2 := hE.g e2; replace e7 := hE.g e7
 replace k := k.env hE
 clear hE e0
 refine Z01 (wp_seq ?_)
 refine wp_region_lit ?_
 have hE := Env.refl a15 [34, 35, 36, 9]
 refine zm 34 hE k e7 ?_
 intro a16 hE e34 kp
 refine zm 35 hE k e8 ?_
 intro a17 hE e35 kp
 replace e34 := kt kp e34
 apply Z07 36 hE k rfl (by rfl) (by rfl) rfl
 case h =>
  simp [go_sem, ↓IntWalk.iteOmega, ev e34, ev e35]
  with_reducible exact ⟨rfl, rfl⟩
 case hc => exact rcGrownS (R := []) K _ O hK1.2
 clear O
 rintro e w19 ⟨N, r, L, g, B, cap, vs, rfl, O, hG, hr1⟩
 refine ⟨_, rfl, ?_⟩
 intro a18 hE e36 kp
 refine sd 9 hE k (Z00 rfl e36) ?_
 intro a20 hE e9 kp
 refine wpList_nil ?_
 replace e1 := hE.g e1; replace e2 := hE.g e2; replace e7 := hE.g e7
 replace k := k.env hE
 clear hE e8
 refine Z01 ?_
 have hr1 := hr1 hK1.1
 have hs := hG.small hK1.2
 have hlen := hG.len
 obtain ⟨m, hRm, hm⟩ := hG.rt
 obtain ⟨l, hlm, hTr, h2x⟩ : ∃ l, l ≤ m ∧ Tr N l r L g ∧ (0 < l → ∃ xs, ndAt N r = some (l, xs) ∧ 2 ≤ xs.length) := by
  rcases hRm.rt with ⟨h, _⟩ | h
  · omega
  · exact h
 have hR : RT l N r L g := ⟨.inr ⟨l, Nat.le_refl _, hTr, h2x⟩, hRm.up, hRm.nod, hRm.wf⟩
 have hl1 : l ≤ 1 := by omega
 have hrN := (Tr.pages hTr r (Tr.self hTr)).2
 obtain ⟨xs, h', hnd, hxne, hx15, -, -⟩ := Z3n.1 hTr

 refine wp_seq ?_
 refine wp_seq ?_
 refine wp_region_lit ?_
 have hE := Env.refl a20 [37, 38]
 refine zm 37 hE k e9 ?_
 intro a21 hE e37 kp
 refine sd 38 hE k (Z05 (Z0v rfl e37 rfl) (decide_eq_false (by omega))) ?_
 intro a22 hE e38 kp
 refine wpList_nil ?_
 replace e1 := hE.g e1; replace e2 := hE.g e2; replace e7 := hE.g e7; replace e9 := hE.g e9
 replace k := k.env hE
 clear hE
 refine Z01 ?_
 refine Z06 e38 rfl ?_
 refine wp_skip ?_
 refine Z01 (wp_seq ?_)
 refine wp_region_lit ?_
 have hE := Env.refl a22 [40, 41, 42, 39, 43, 44, 10, 11]
 refine zm 40 hE k e7 ?_
 intro a23 hE e40 kp
 refine zm 41 hE k e9 ?_
 intro a24 hE e41 kp
 replace e40 := kt kp e40
 apply Z07 42 hE k rfl (by rfl) (by rfl) rfl
 case h =>
  simp [go_sem, ↓IntWalk.iteOmega, ev e40, ev e41]
  with_reducible exact ⟨rfl, rfl⟩
 case hc => exact Z2m r l xs _ O (by omega) hnd (by omega)
 clear O
 rintro e w26 ⟨v, rfl, O, -⟩
 obtain ⟨Bx, cx, rfl, -, -, -, -⟩ := Z0o (OwnT.get O 0 rfl : (tPs v xs).holds _)
 refine ⟨_, rfl, ?_⟩
 intro a25 hE e42 kp
 refine sd 39 hE k (Z03 rfl e42) ?_
 intro a27 hE e39 kp
 apply Z02 43 hE k rfl rfl rfl rfl
 case h =>
  simp [go_sem, ↓IntWalk.iteOmega, ev e39]
  with_reducible rfl
 intro a28 hE e43 kp
 replace e39 := kt kp e39
 apply Z02 44 hE k rfl rfl rfl rfl
 case h =>
  simp [go_sem, ↓IntWalk.iteOmega, ev e39]
  with_reducible rfl
 intro a29 hE e44 kp
 replace e43 := kt kp e43
 refine Z0k O (cs := #[.int .i64 0, .slice none 0 0]) (t := 40) 10 hE k rfl (by rfl) (by rfl) rfl (by simp [go_sem, ↓IntWalk.iteOmega]) ?_
 clear O
 intro xb a30 w31 O hE e10 kp
 replace e43 := kt kp e43; replace e44 := kt kp e44
 have q0 : w31.cell? ⟨xb, 0, none⟩ = some (.int .i64 0) := (OwnT.blk O 0 rfl).cell 0
 have z0 : w31.frozen? ⟨xb, 0, none⟩ = false := (OwnT.blk O 0 rfl).frozen 0
 have q1 : w31.cell? ⟨xb, 1, none⟩ = some (.slice none 0 0) := (OwnT.blk O 0 rfl).cell 1
 have z1 : w31.frozen? ⟨xb, 1, none⟩ = false := (OwnT.blk O 0 rfl).frozen 1
 refine Z0g (w' := ((w31.setCell ⟨xb, 0, none⟩ (.int .i64 ↑l)).setCell ⟨xb, 1, none⟩ (.slice Bx xs.length cx))) hE rfl rfl (by simp [go_sem, ↓IntWalk.iteOmega, ev e10, ev e43, q0, z0, q1, z1]) ?_
 replace O := OwnT.push 0 rfl (((OwnT.pull O 0 rfl).set 0 (.int .i64 ↑l)).set 1 (.slice Bx xs.length cx))
 clear q0 z0 q1 z1
 generalize ((w31.setCell ⟨xb, 0, none⟩ (.int .i64 ↑l)).setCell ⟨xb, 1, none⟩ (.slice Bx xs.length cx)) = w32 at O ⊢
 replace O : OwnT _ _ ((tBlk xb 40 #[.int .i64 ↑l, .slice Bx xs.length cx]) :: (tPs (.slice Bx xs.length cx) xs) :: (tBlk sb 27 #[.slice B N.length cap, .int .i64 511]) :: (tRow 40 2 (.slice B N.length cap) N.length (leafV vs N)) :: (tPool vs N) :: []) w32 := O
 refine sd 11 hE k (Z00 rfl e44) ?_
 intro a33 hE e11 kp
 replace e10 := kt kp e10
 refine wpList_nil ?_
 replace e1 := hE.g e1; replace e2 := hE.g e2; replace e7 := hE.g e7; replace e9 := hE.g e9
 replace k := k.env hE
 clear hE e38
 refine Z01 (wp_seq ?_)
 refine wp_seq ?_
 refine wp_region_lit ?_
 have hE := Env.refl a33 [45, 46]
 refine zm 45 hE k e11 ?_
 intro a34 hE e45 kp
 refine sd 46 hE k (Z05 (Z0j rfl e45 rfl) (decide_eq_false (by omega))) ?_
 intro a35 hE e46 kp
 refine wpList_nil ?_
 replace e1 := hE.g e1; replace e2 := hE.g e2; replace e7 := hE.g e7; replace e9 := hE.g e9; replace e10 := hE.g e10
 replace k := k.env hE
 clear hE e11
 refine Z01 ?_
 refine Z06 e46 rfl ?_
 refine wp_skip ?_
 refine Z01 (wp_seq ?_)
 refine wp_region_lit ?_
 have hE := Env.refl a35 [12]
 refine sd 12 hE k (Z00 rfl rfl) ?_
 intro a36 hE e12 kp
 refine wpList_nil ?_
 replace e1 := hE.g e1; replace e2 := hE.g e2; replace e7 := hE.g e7; replace e9 := hE.g e9; replace e10 := hE.g e10
 replace k := k.env hE
 clear hE e46 e12
 refine Z01 ?_
 replace O : OwnT _ _ ((tBlk sb 27 #[.slice B N.length cap, .int .i64 511]) :: (tRow 40 2 (.slice B N.length cap) N.length (leafV vs N)) :: (tPool vs N) :: (tBlk xb 40 #[.int .i64 ↑l, .slice Bx xs.length cx]) :: []) w32 := OwnT.pickR (L := [_, _, _, _, _]) (R := []) O [2, 3, 4, 0] (by decide)
 refine wp_seq ?_
 refine wp_region_lit ?_
 have hE := Env.refl a36 [47, 48, 49, 50, 51, 13]
 refine zm 47 hE k e1 ?_
 intro a37 hE e47 kp
 refine sd 48 hE k (Z1p rfl e47 (Z5o key _)) ?_
 intro a38 hE e48 kp
 refine sd 49 hE k (x_remU (m := uN key) (j := 150) rfl e48 rfl rfl (by decide)) ?_
 intro a39 hE e49 kp
 refine sd 50 hE k (Z1p rfl e49 (Z6q _ _ (by omega))) ?_
 intro a40 hE e50 kp
 replace e50 := e50.trans (Z0p (show ((uN key % 150 : Nat) : Int) = (kx : Int) by rw [hkx]))
 refine sd 51 hE k (Z1p rfl e50 (Z2g kx _ (by omega))) ?_
 intro a41 hE e51 kp
 refine sd 13 hE k (Z00 rfl e51) ?_
 intro a42 hE e13 kp
 refine wpList_nil ?_
 replace e2 := hE.g e2; replace e7 := hE.g e7; replace e9 := hE.g e9; replace e10 := hE.g e10
 replace k := k.env hE
 clear hE e1
 refine Z01 ?_
 refine Z7e (fun a w => Fr 184 a ∧ a.eval (.tmp 7) = .pointer (some ⟨sb, 0, none⟩) ∧ a.eval (.tmp 9) = .int .i64 ↑r ∧ a.eval (.tmp 10) = .pointer (some ⟨xb, 0, none⟩) ∧ ∃ (r2 er : Int) (N2 : List Nd) (B2 : Option Addr) (cap2 : Nat) (vs2 : List Value), a.eval (.tmp 11) = .int .i64 er ∧ a.eval (.tmp 12) = .int .i64 r2 ∧ ChgR N N2 r l g r2 er ∧ OwnT W0.heap.size W0 ((tBlk sb 27 #[.slice B2 N2.length cap2, .int .i64 511]) :: (tRow 40 2 (.slice B2 N2.length cap2) N2.length (leafV vs2 N2)) :: (tPool vs2 N2) :: (tBlk xb 40 #[.int .i64 ↑l, .slice Bx xs.length cx]) :: []) w) ?_ ?_
 · skip
   refine wp_seq ?_
   refine wp_region_lit ?_
   have hE := Env.refl a42 [52]
   refine zm 52 hE k e2 ?_
   intro a43 hE e52 kp
   refine wpList_nil ?_
   replace e7 := hE.g e7; replace e9 := hE.g e9; replace e10 := hE.g e10; replace e13 := hE.g e13
   replace k := k.env hE
   clear hE e2
   refine Z01 ?_
   cases dr with
   | true =>
    refine Z0a e52 (rfl) ?_
    clear e52
    refine wp_region_lit ?_
    have hE := Env.refl a43 [54, 55, 56, 57, 58, 53, 59, 60, 61, 12, 11]
    refine zm 54 hE k e7 ?_
    intro a44 hE e54 kp
    apply Z02 55 hE k rfl rfl rfl rfl
    case h =>
     simp [go_sem, ↓IntWalk.iteOmega, ev e54]
     with_reducible rfl
    intro a45 hE e55 kp
    refine zm 56 hE k e9 ?_
    intro a46 hE e56 kp
    replace e55 := kt kp e55
    refine zm 57 hE k e13 ?_
    intro a47 hE e57 kp
    replace e55 := kt kp e55; replace e56 := kt kp e56
    apply Z07 58 hE k rfl (by rfl) (by rfl) rfl
    case h =>
     simp [go_sem, ↓IntWalk.iteOmega, ev e55, ev e56, ev e57]
     with_reducible exact ⟨rfl, rfl⟩
    case hc => exact tDrop (ky := kx) (R := _ :: []) _ O hR (by omega) (by omega)
    clear O
    rintro e w49 ⟨N2, r2, ok, er, B2, cap2, vs2, rfl, O, hDT⟩
    refine ⟨_, rfl, ?_⟩
    intro a48 hE e58 kp
    refine sd 53 hE k (Z03 rfl e58) ?_
    intro a50 hE e53 kp
    apply Z02 59 hE k rfl rfl rfl rfl
    case h =>
     simp [go_sem, ↓IntWalk.iteOmega, ev e53]
     with_reducible rfl
    intro a51 hE e59 kp
    replace e53 := kt kp e53
    apply Z02 60 hE k rfl rfl rfl rfl
    case h =>
     simp [go_sem, ↓IntWalk.iteOmega, ev e53]
     with_reducible rfl
    intro a52 hE e60 kp
    replace e53 := kt kp e53; replace e59 := kt kp e59
    apply Z02 61 hE k rfl rfl rfl rfl
    case h =>
     simp [go_sem, ↓IntWalk.iteOmega, ev e53]
     with_reducible rfl
    intro a53 hE e61 kp
    replace e59 := kt kp e59
    refine sd 12 hE k (Z00 rfl e59) ?_
    intro a54 hE e12 kp
    replace e61 := kt kp e61
    refine sd 11 hE k (Z00 rfl e61) ?_
    intro a55 hE e11 kp
    replace e12 := kt kp e12
    refine wpList_nil ?_
    replace e7 := hE.g e7; replace e9 := hE.g e9; replace e10 := hE.g e10
    replace k := k.env hE
    clear hE e13
    refine Z01 ?_
    exact ⟨k, e7, e9, e10, r2, er, N2, B2, cap2, vs2, e11, e12, chg_drop hG hK1.2 hR hl1 hDT, O⟩
   | false =>
    refine Z06 e52 (rfl) ?_
    clear e52
    refine wp_region_lit ?_
    have hE := Env.refl a43 [63, 64, 65, 66, 67, 62, 68, 69, 12, 11]
    refine zm 63 hE k e7 ?_
    intro a56 hE e63 kp
    apply Z02 64 hE k rfl rfl rfl rfl
    case h =>
     simp [go_sem, ↓IntWalk.iteOmega, ev e63]
     with_reducible rfl
    intro a57 hE e64 kp
    refine zm 65 hE k e9 ?_
    intro a58 hE e65 kp
    replace e64 := kt kp e64
    refine zm 66 hE k e13 ?_
    intro a59 hE e66 kp
    replace e64 := kt kp e64; replace e65 := kt kp e65
    apply Z07 67 hE k rfl (by rfl) (by rfl) rfl
    case h =>
     simp [go_sem, ↓IntWalk.iteOmega, ev e64, ev e65, ev e66]
     with_reducible exact ⟨rfl, rfl⟩
    case hc => exact tPut (ky := kx) (vl := 1000) (R := _ :: []) _ O hR (by omega) (by omega) (by omega) (by omega)
    clear O
    rintro e w61 ⟨N2, r2, er, B2, cap2, vs2, rfl, O, hPT⟩
    refine ⟨_, rfl, ?_⟩
    intro a60 hE e67 kp
    refine sd 62 hE k (Z03 rfl e67) ?_
    intro a62 hE e62 kp
    apply Z02 68 hE k rfl rfl rfl rfl
    case h =>
     simp [go_sem, ↓IntWalk.iteOmega, ev e62]
     with_reducible rfl
    intro a63 hE e68 kp
    replace e62 := kt kp e62
    apply Z02 69 hE k rfl rfl rfl rfl
    case h =>
     simp [go_sem, ↓IntWalk.iteOmega, ev e62]
     with_reducible rfl
    intro a64 hE e69 kp
    replace e68 := kt kp e68
    refine sd 12 hE k (Z00 rfl e68) ?_
    intro a65 hE e12 kp
    replace e69 := kt kp e69
    refine sd 11 hE k (Z00 rfl e69) ?_
    intro a66 hE e11 kp
    replace e12 := kt kp e12
    refine wpList_nil ?_
    replace e7 := hE.g e7; replace e9 := hE.g e9; replace e10 := hE.g e10
    replace k := k.env hE
    clear hE e13
    refine Z01 ?_
    exact ⟨k, e7, e9, e10, r2, er, N2, B2, cap2, vs2, e11, e12, chg_put hG hK1.2 hR hl1 hPT, O⟩
 · clear k e2 e7 e9 e10 e13 O
   intro a67 w68 h_
   obtain ⟨k, e7, e9, e10, r2, er, N2, B2, cap2, vs2, e11, e12, hC, O⟩ := h_
   rcases hC with rfl | ⟨rfl, hN2, r', g', M, rfl, hM, hM4, hok, hsub⟩
   · skip
     refine wp_seq ?_
     refine wp_seq ?_
     refine wp_region_lit ?_
     have hE := Env.refl a67 [70, 71]
     refine zm 70 hE k e11 ?_
     intro a69 hE e70 kp
     refine sd 71 hE k (Z05 (Z0j rfl e70 rfl) (decide_eq_true (by omega))) ?_
     intro a70 hE e71 kp
     refine wpList_nil ?_
     replace e7 := hE.g e7; replace e9 := hE.g e9; replace e10 := hE.g e10; replace e11 := hE.g e11; replace e12 := hE.g e12
     replace k := k.env hE
     clear hE
     refine Z01 ?_
     refine Z0a e71 rfl ?_
     refine wp_seq ?_
     refine wp_region_lit ?_
     have hE := Env.refl a70 [72, 73, 6]
     refine zm 72 hE k e11 ?_
     intro a71 hE e72 kp
     refine sd 73 hE k (Z05 (Z0v rfl e72 rfl) (decide_eq_true rfl)) ?_
     intro a72 hE e73 kp
     refine sd 6 hE k (Z00 rfl e73) ?_
     intro a73 hE e6 kp
     refine wpList_nil ?_
     replace k := k.env hE
     clear hE e7 e9 e10 e11 e12 e71
     refine Z01 ?_
     refine wp_ret ?_
     refine Z0l ?_
     refine Z0z rfl k e6 ?_
     exact ⟨rfl, O.below⟩
   · skip
     have hok1 : TgOk N2 [(r, g)] := fun x hx => hok x (by rw [List.mem_singleton.1 hx]; simp)
     have hk1 := one_len hok1 (by omega) hR.nod
     have hk2 : (keysN (snF [(r, g), (r', g')])).length ≤ g.length + M.length := two_len (by rw [← hM]; exact hok) hsub
     have hall := Z85 hok (by omega)
     obtain ⟨k1, hk1'⟩ : ∃ k, keysN (snF [(r, g)]) = k := ⟨_, rfl⟩
     obtain ⟨k2, hk2'⟩ : ∃ k, keysN (snF [(r, g), (r', g')]) = k := ⟨_, rfl⟩
     obtain ⟨rl, hrl⟩ : ∃ l, refL N2 [(r, g), (r', g')] = l := ⟨_, rfl⟩
     have hrk : rl.map Prod.fst = k2 := by rw [← hrl, ← hk2']; unfold refL; rw [List.map_map]; exact List.map_id _
     have hrll : rl.length = k2.length := by rw [← hrk, List.length_map]
     have hup : k2.Pairwise fun a b => a < b := by rw [← hk2']; exact Z2l _
     have hkm : ∀ q ∈ k2, snF [(r, g), (r', g')] q = true := fun q hq => by rw [← hk2'] at hq; exact (Z2k.1 hq).2
     have hk1l : k1.length ≤ 1023 := by rw [← hk1']; exact Z3x _
     have hk2l : k2.length ≤ 1023 := by rw [← hk2']; exact Z3x _
     have hrs := rs_two (r' := r') (g := g) (g' := g') (show r ≠ 0 by omega)
     rw [hk1'] at hk1
     rw [hk2'] at hk2 hall
     rw [hrl] at hall
     have hkle : k2.length ≤ k1.length + l + 4 := by omega

     refine wp_seq ?_
     refine wp_seq ?_
     refine wp_region_lit ?_
     have hE := Env.refl a67 [70, 71]
     refine zm 70 hE k e11 ?_
     intro a74 hE e70 kp
     refine sd 71 hE k (Z05 (Z0j rfl e70 rfl) (decide_eq_false (by omega))) ?_
     intro a75 hE e71 kp
     refine wpList_nil ?_
     replace e7 := hE.g e7; replace e9 := hE.g e9; replace e10 := hE.g e10; replace e11 := hE.g e11; replace e12 := hE.g e12
     replace k := k.env hE
     clear hE
     refine Z01 ?_
     refine Z06 e71 rfl ?_
     refine wp_skip ?_
     refine Z01 (wp_seq ?_)
     refine wp_region_lit ?_
     have hE := Env.refl a75 [75, 76, 77, 78, 79, 74, 80, 81, 14, 15]
     refine zm 75 hE k e7 ?_
     intro a76 hE e75 kp
     apply Z02 76 hE k rfl rfl rfl rfl
     case h =>
      simp [go_sem, ↓IntWalk.iteOmega, ev e75]
      with_reducible rfl
     intro a77 hE e76 kp
     refine zm 77 hE k e9 ?_
     intro a78 hE e77 kp
     replace e76 := kt kp e76
     refine Z1i (m := 1) (c := 1) O (cs := #[.int .i64 ↑r]) (t := 3) 78 hE k rfl (by rfl) (by rfl) rfl (by simp [go_sem, ↓IntWalk.iteOmega, ev e77]) ?_
     clear O
     intro g1 a79 w80 O hE e78 kp
     replace e76 := kt kp e76
     apply Z07 79 hE k rfl (by rfl) (by rfl) rfl
     case h =>
      simp [go_sem, ↓IntWalk.iteOmega, ev e76, ev e78]
      with_reducible exact ⟨rfl, rfl⟩
     case hc => exact rcPages (tg := [(r, g)]) (R := [_]) _ (OwnT.pickR (L := [_, _, _, _, _]) (R := []) (OwnT.asRowN (k := 1) (n := 1) (cs := [.int .i64 (r : Nat)]) O rfl (by decide)) [1, 2, 3, 0, 4] (by decide)) hok1 hN2 (by simp)
     clear O
     rintro e w82 ⟨Ba, ca, rfl, O⟩
     rw [hk1'] at O
     refine ⟨.tuple #[.slice Ba k1.length ca, .int .i64 0], by rw [hk1'], ?_⟩
     intro a81 hE e79 kp
     refine sd 74 hE k (Z03 rfl e79) ?_
     intro a83 hE e74 kp
     apply Z02 80 hE k rfl rfl rfl rfl
     case h =>
      simp [go_sem, ↓IntWalk.iteOmega, ev e74]
      with_reducible rfl
     intro a84 hE e80 kp
     replace e74 := kt kp e74
     apply Z02 81 hE k rfl rfl rfl rfl
     case h =>
      simp [go_sem, ↓IntWalk.iteOmega, ev e74]
      with_reducible rfl
     intro a85 hE e81 kp
     replace e80 := kt kp e80
     refine sd 14 hE k (Z00 rfl e80) ?_
     intro a86 hE e14 kp
     replace e81 := kt kp e81
     refine sd 15 hE k (Z00 rfl e81) ?_
     intro a87 hE e15 kp
     replace e14 := kt kp e14
     refine wpList_nil ?_
     replace e7 := hE.g e7; replace e9 := hE.g e9; replace e10 := hE.g e10; replace e12 := hE.g e12
     replace k := k.env hE
     clear hE e11 e71
     refine Z01 ?_
     replace O : OwnT _ _ ((tBlk sb 27 #[.slice B2 N2.length cap2, .int .i64 511]) :: (tRow 40 2 (.slice B2 N2.length cap2) N2.length (leafV vs2 N2)) :: (tPool vs2 N2) :: (tBlk xb 40 #[.int .i64 ↑l, .slice Bx xs.length cx]) :: []) w82 := OwnT.pickR (L := [_, _, _, _, _, _]) (R := []) O [0, 1, 2, 5] (by decide)
     refine wp_seq ?_
     refine wp_region_lit ?_
     have hE := Env.refl a87 [83, 84, 85, 86, 87, 88, 82, 89, 90, 16, 17]
     refine zm 83 hE k e7 ?_
     intro a88 hE e83 kp
     apply Z02 84 hE k rfl rfl rfl rfl
     case h =>
      simp [go_sem, ↓IntWalk.iteOmega, ev e83]
      with_reducible rfl
     intro a89 hE e84 kp
     refine zm 85 hE k e9 ?_
     intro a90 hE e85 kp
     replace e84 := kt kp e84
     refine zm 86 hE k e12 ?_
     intro a91 hE e86 kp
     replace e84 := kt kp e84; replace e85 := kt kp e85
     refine Z1i (m := 2) (c := 2) O (cs := #[.int .i64 ↑r, .int .i64 ↑r']) (t := 3) 87 hE k rfl (by rfl) (by rfl) rfl (by simp [go_sem, ↓IntWalk.iteOmega, ev e85, ev e86]) ?_
     clear O
     intro g2 a92 w93 O hE e87 kp
     replace e84 := kt kp e84
     apply Z07 88 hE k rfl (by rfl) (by rfl) rfl
     case h =>
      simp [go_sem, ↓IntWalk.iteOmega, ev e84, ev e87]
      with_reducible exact ⟨rfl, rfl⟩
     case hc => exact rcPages (tg := [(r, g), (r', g')]) (R := [_]) _ (OwnT.pickR (L := [_, _, _, _, _]) (R := []) (OwnT.asRowN (k := 1) (n := 2) (cs := [.int .i64 (r : Nat), .int .i64 (r' : Nat)]) O rfl (by decide)) [1, 2, 3, 0, 4] (by decide)) hok hN2 (by simp)
     clear O
     rintro e w95 ⟨Bb, cbb, rfl, O⟩
     rw [hk2'] at O
     refine ⟨.tuple #[.slice Bb k2.length cbb, .int .i64 0], by rw [hk2'], ?_⟩
     intro a94 hE e88 kp
     refine sd 82 hE k (Z03 rfl e88) ?_
     intro a96 hE e82 kp
     apply Z02 89 hE k rfl rfl rfl rfl
     case h =>
      simp [go_sem, ↓IntWalk.iteOmega, ev e82]
      with_reducible rfl
     intro a97 hE e89 kp
     replace e82 := kt kp e82
     apply Z02 90 hE k rfl rfl rfl rfl
     case h =>
      simp [go_sem, ↓IntWalk.iteOmega, ev e82]
      with_reducible rfl
     intro a98 hE e90 kp
     replace e89 := kt kp e89
     refine sd 16 hE k (Z00 rfl e89) ?_
     intro a99 hE e16 kp
     replace e90 := kt kp e90
     refine sd 17 hE k (Z00 rfl e90) ?_
     intro a100 hE e17 kp
     replace e16 := kt kp e16
     refine wpList_nil ?_
     replace e7 := hE.g e7; replace e9 := hE.g e9; replace e10 := hE.g e10; replace e12 := hE.g e12; replace e14 := hE.g e14; replace e15 := hE.g e15
     replace k := k.env hE
     clear hE
     refine Z01 ?_
     replace O : OwnT _ _ ((tBlk sb 27 #[.slice B2 N2.length cap2, .int .i64 511]) :: (tRow 40 2 (.slice B2 N2.length cap2) N2.length (leafV vs2 N2)) :: (tPool vs2 N2) :: (tBlk xb 40 #[.int .i64 ↑l, .slice Bx xs.length cx]) :: []) w95 := OwnT.pickR (L := [_, _, _, _, _, _]) (R := []) O [0, 1, 2, 5] (by decide)
     refine wp_seq ?_
     refine wp_region_lit ?_
     have hE := Env.refl a100 [92, 93, 94, 95, 96, 97, 91, 98, 99, 18, 19]
     refine zm 92 hE k e7 ?_
     intro a101 hE e92 kp
     apply Z02 93 hE k rfl rfl rfl rfl
     case h =>
      simp [go_sem, ↓IntWalk.iteOmega, ev e92]
      with_reducible rfl
     intro a102 hE e93 kp
     refine zm 94 hE k e9 ?_
     intro a103 hE e94 kp
     replace e93 := kt kp e93
     refine zm 95 hE k e12 ?_
     intro a104 hE e95 kp
     replace e93 := kt kp e93; replace e94 := kt kp e94
     refine Z1i (m := 2) (c := 2) O (cs := #[.int .i64 ↑r, .int .i64 ↑r']) (t := 3) 96 hE k rfl (by rfl) (by rfl) rfl (by simp [go_sem, ↓IntWalk.iteOmega, ev e94, ev e95]) ?_
     clear O
     intro g3 a105 w106 O hE e96 kp
     replace e93 := kt kp e93
     apply Z07 97 hE k rfl (by rfl) (by rfl) rfl
     case h =>
      simp [go_sem, ↓IntWalk.iteOmega, ev e93, ev e96]
      with_reducible exact ⟨rfl, rfl⟩
     case hc => exact rcRefs (tg := [(r, g), (r', g')]) (R := [_]) _ (OwnT.pickR (L := [_, _, _, _, _]) (R := []) (OwnT.asRowN (k := 1) (n := 2) (cs := [.int .i64 (r : Nat), .int .i64 (r' : Nat)]) O rfl (by decide)) [1, 2, 3, 0, 4] (by decide)) hok hN2 (by simp)
     clear O
     rintro e w108 ⟨Br, cr, rfl, O⟩
     rw [hrl] at O
     refine ⟨.tuple #[.slice Br rl.length cr, .int .i64 0], by rw [hrl], ?_⟩
     intro a107 hE e97 kp
     refine sd 91 hE k (Z03 rfl e97) ?_
     intro a109 hE e91 kp
     apply Z02 98 hE k rfl rfl rfl rfl
     case h =>
      simp [go_sem, ↓IntWalk.iteOmega, ev e91]
      with_reducible rfl
     intro a110 hE e98 kp
     replace e91 := kt kp e91
     apply Z02 99 hE k rfl rfl rfl rfl
     case h =>
      simp [go_sem, ↓IntWalk.iteOmega, ev e91]
      with_reducible rfl
     intro a111 hE e99 kp
     replace e98 := kt kp e98
     refine sd 18 hE k (Z00 rfl e98) ?_
     intro a112 hE e18 kp
     replace e99 := kt kp e99
     refine sd 19 hE k (Z00 rfl e99) ?_
     intro a113 hE e19 kp
     replace e18 := kt kp e18
     refine wpList_nil ?_
     replace e7 := hE.g e7; replace e10 := hE.g e10; replace e12 := hE.g e12; replace e14 := hE.g e14; replace e15 := hE.g e15; replace e16 := hE.g e16; replace e17 := hE.g e17
     replace k := k.env hE
     clear hE e9
     refine Z01 ?_
     replace O : OwnT _ _ ((tBlk sb 27 #[.slice B2 N2.length cap2, .int .i64 511]) :: (tRow 40 2 (.slice B2 N2.length cap2) N2.length (leafV vs2 N2)) :: (tPool vs2 N2) :: (tRf (.slice Br rl.length cr) rl) :: (tBlk xb 40 #[.int .i64 ↑l, .slice Bx xs.length cx]) :: []) w108 := OwnT.pickR (L := [_, _, _, _, _, _]) (R := []) O [0, 1, 2, 3, 5] (by decide)
     refine wp_seq ?_
     refine wp_seq ?_
     refine wp_region_lit ?_
     have hE := Env.refl a113 [100, 101, 102, 103, 104, 105, 106, 107, 108, 109, 110, 111, 112, 113, 114, 115, 116, 117, 118, 119, 120, 121, 122, 123, 124, 125, 126, 127]
     refine zm 100 hE k e15 ?_
     intro a114 hE e100 kp
     refine sd 101 hE k (Z0j rfl e100 rfl) ?_
     intro a115 hE e101 kp
     refine sd 102 hE k (Z03 rfl e101) ?_
     intro a116 hE e102 kp
     apply Z04 103 hE k rfl rfl rfl rfl rfl e102
     case h =>
      exact Z03 rfl (hE.g e17)
     intro a117 hE e103 kp
     replace e102 := kt kp e102
     apply Z04 104 hE k rfl rfl rfl rfl rfl e102
     case h =>
      exact Z0j rfl e103 rfl
     intro a118 hE e104 kp
     replace e102 := kt kp e102
     refine sd 105 hE k (Z08 rfl e102 e104) ?_
     intro a119 hE e105 kp
     refine sd 106 hE k (Z03 rfl e105) ?_
     intro a120 hE e106 kp
     apply Z04 107 hE k rfl rfl rfl rfl rfl e106
     case h =>
      exact Z03 rfl (hE.g e19)
     intro a121 hE e107 kp
     replace e106 := kt kp e106
     apply Z04 108 hE k rfl rfl rfl rfl rfl e106
     case h =>
      exact Z0j rfl e107 rfl
     intro a122 hE e108 kp
     replace e106 := kt kp e106
     refine sd 109 hE k (Z08 rfl e106 e108) ?_
     intro a123 hE e109 kp
     refine sd 110 hE k (Z03 rfl e109) ?_
     intro a124 hE e110 kp
     apply Z04 111 hE k rfl rfl rfl rfl rfl e110
     case h =>
      exact Z03 rfl (hE.g e16)
     intro a125 hE e111 kp
     replace e110 := kt kp e110
     apply Z04 112 hE k rfl rfl rfl rfl rfl e110
     case h =>
      exact Z0i Try.underlying22 rfl e111
     intro a126 hE e112 kp
     replace e110 := kt kp e110
     apply Z04 113 hE k rfl rfl rfl rfl rfl e110
     case h =>
      exact Z03 rfl (hE.g e14)
     intro a127 hE e113 kp
     replace e110 := kt kp e110; replace e112 := kt kp e112
     apply Z04 114 hE k rfl rfl rfl rfl rfl e110
     case h =>
      exact Z0i Try.underlying22 rfl e113
     intro a128 hE e114 kp
     replace e110 := kt kp e110; replace e112 := kt kp e112
     apply Z04 115 hE k rfl rfl rfl rfl rfl e110
     case h =>
      simp [go_sem, ↓IntWalk.iteOmega, ev (hE.g e10)]
      with_reducible rfl
     intro a129 hE e115 kp
     replace e110 := kt kp e110; replace e112 := kt kp e112; replace e114 := kt kp e114
     apply Z04 116 hE k rfl rfl rfl rfl rfl e110
     case h =>
      have q0 : w108.cell? ⟨xb, 0, none⟩ = some (.int .i64 ↑l) := (OwnT.blk O 4 rfl).cell 0
      simp [go_sem, ↓IntWalk.iteOmega, ev e115, q0]
      with_reducible rfl
     intro a130 hE e116 kp
     replace e110 := kt kp e110; replace e112 := kt kp e112; replace e114 := kt kp e114
     apply Z04 117 hE k rfl rfl rfl rfl rfl e110
     case h =>
      exact Z0x rfl e114 e116 (by omega)
     intro a131 hE e117 kp
     replace e110 := kt kp e110; replace e112 := kt kp e112
     apply Z04 118 hE k rfl rfl rfl rfl rfl e110
     case h =>
      exact Z0x rfl e117 rfl (by omega)
     intro a132 hE e118 kp
     replace e110 := kt kp e110; replace e112 := kt kp e112
     apply Z04 119 hE k rfl rfl rfl rfl rfl e110
     case h =>
      exact Z05 (Z1r rfl e112 e118) (decide_eq_false (by omega))
     intro a133 hE e119 kp
     replace e110 := kt kp e110
     refine sd 120 hE k (Z08 rfl e110 e119) ?_
     intro a134 hE e120 kp
     refine sd 121 hE k (Z03 rfl e120) ?_
     intro a135 hE e121 kp
     apply Z04 122 hE k rfl rfl rfl rfl rfl e121
     case h =>
      exact Z03 rfl (hE.g e18)
     intro a136 hE e122 kp
     replace e121 := kt kp e121
     apply Z04 123 hE k rfl rfl rfl rfl rfl e121
     case h =>
      exact Z0i Try.underlying45 rfl e122
     intro a137 hE e123 kp
     replace e121 := kt kp e121
     apply Z04 124 hE k rfl rfl rfl rfl rfl e121
     case h =>
      exact Z03 rfl (hE.g e16)
     intro a138 hE e124 kp
     replace e121 := kt kp e121; replace e123 := kt kp e123
     apply Z04 125 hE k rfl rfl rfl rfl rfl e121
     case h =>
      exact Z0i Try.underlying22 rfl e124
     intro a139 hE e125 kp
     replace e121 := kt kp e121; replace e123 := kt kp e123
     apply Z04 126 hE k rfl rfl rfl rfl rfl e121
     case h =>
      exact Z05 (Z0j rfl e123 e125) (decide_eq_false (by omega))
     intro a140 hE e126 kp
     replace e121 := kt kp e121
     refine sd 127 hE k (Z08 rfl e121 e126) ?_
     intro a141 hE e127 kp
     refine wpList_nil ?_
     replace e7 := hE.g e7; replace e12 := hE.g e12; replace e18 := hE.g e18
     replace k := k.env hE
     clear hE e10 e14 e15 e16 e17 e19
     refine Z01 ?_
     refine Z06 e127 rfl ?_
     refine wp_skip ?_
     refine Z01 (wp_seq ?_)
     refine wp_region_lit ?_
     have hE := Env.refl a141 [20]
     refine sd 20 hE k (Z00 rfl rfl) ?_
     intro a142 hE e20 kp
     refine wpList_nil ?_
     replace e7 := hE.g e7; replace e12 := hE.g e12; replace e18 := hE.g e18
     replace k := k.env hE
     clear hE e127
     refine Z01 (wp_seq ?_)
     refine wp_region_lit ?_
     have hE := Env.refl a142 [21]
     refine sd 21 hE k (Z00 rfl rfl) ?_
     intro a143 hE e21 kp
     refine wpList_nil ?_
     replace e7 := hE.g e7; replace e12 := hE.g e12; replace e18 := hE.g e18; replace e20 := hE.g e20
     replace k := k.env hE
     clear hE
     refine Z01 ?_
     replace O : OwnT _ _ ((tBlk sb 27 #[.slice B2 N2.length cap2, .int .i64 511]) :: (tRow 40 2 (.slice B2 N2.length cap2) N2.length (leafV vs2 N2)) :: (tPool vs2 N2) :: (tRf (.slice Br rl.length cr) rl) :: []) w108 := OwnT.pickR (L := [_, _, _, _, _]) (R := []) O [0, 1, 2, 3] (by decide)
     refine Z7e (fun a w => Fr 184 a ∧ a.eval (.tmp 7) = .pointer (some ⟨sb, 0, none⟩) ∧ a.eval (.tmp 18) = .slice Br rl.length cr ∧ a.eval (.tmp 20) = .int .i64 0 ∧ ∃ (bs : Nat), a.eval (.tmp 21) = .int .i64 ↑bs ∧ bs = (rsF [(r, g), (r', g')]).length ∧ OwnT W0.heap.size W0 ((tBlk sb 27 #[.slice B2 N2.length cap2, .int .i64 511]) :: (tRow 40 2 (.slice B2 N2.length cap2) N2.length (leafV vs2 N2)) :: (tPool vs2 N2) :: (tRf (.slice Br rl.length cr) rl) :: []) w) ?_ ?_
     · skip
       by_cases h0 : r' = 0
       · rw [if_pos h0] at hrs
         refine wp_seq ?_
         refine wp_region_lit ?_
         have hE := Env.refl a143 [128, 129]
         refine zm 128 hE k e12 ?_
         intro a144 hE e128 kp
         refine sd 129 hE k (Z05 (Z0j rfl e128 rfl) (decide_eq_false (by omega))) ?_
         intro a145 hE e129 kp
         refine wpList_nil ?_
         replace e7 := hE.g e7; replace e18 := hE.g e18; replace e20 := hE.g e20; replace e21 := hE.g e21
         replace k := k.env hE
         clear hE e12
         refine Z01 ?_
         refine Z06 e129 rfl ?_
         refine wp_skip ?_
         refine Z01 ?_
         exact ⟨k, e7, e18, e20, 1, e21, hrs.symm, O⟩
       · rw [if_neg h0] at hrs
         refine wp_seq ?_
         refine wp_region_lit ?_
         have hE := Env.refl a143 [128, 129]
         refine zm 128 hE k e12 ?_
         intro a146 hE e128 kp
         refine sd 129 hE k (Z05 (Z0j rfl e128 rfl) (decide_eq_true (by omega))) ?_
         intro a147 hE e129 kp
         refine wpList_nil ?_
         replace e7 := hE.g e7; replace e18 := hE.g e18; replace e20 := hE.g e20; replace e21 := hE.g e21
         replace k := k.env hE
         clear hE e12
         refine Z01 ?_
         refine Z0a e129 rfl ?_
         refine wp_region_lit ?_
         have hE := Env.refl a147 [130, 131, 21]
         refine sd 130 hE k (Z03 rfl e21) ?_
         intro a148 hE e130 kp
         replace e21 := kt kp e21
         refine sd 131 hE k (Z0x rfl e130 rfl (by omega)) ?_
         intro a149 hE e131 kp
         replace e21 := kt kp e21
         refine sd 21 hE k (Z00 rfl e131) ?_
         intro a150 hE e21 kp
         refine wpList_nil ?_
         replace e7 := hE.g e7; replace e18 := hE.g e18; replace e20 := hE.g e20
         replace k := k.env hE
         clear hE e129
         refine Z01 ?_
         exact ⟨k, e7, e18, e20, 2, e21, hrs.symm, O⟩
     · clear k e7 e12 e18 e20 e21 O
       intro a151 w152 h_
       obtain ⟨k, e7, e18, e20, bs, e21, hbs, O⟩ := h_
       refine wp_seq ?_
       refine wp_seq ?_
       refine wp_region_lit ?_
       have hE := Env.refl a151 [22]
       refine sd 22 hE k (Z00 rfl rfl) ?_
       intro a153 hE e22 kp
       refine wpList_nil ?_
       replace e7 := hE.g e7; replace e18 := hE.g e18; replace e20 := hE.g e20; replace e21 := hE.g e21
       replace k := k.env hE
       clear hE
       refine Z01 ?_
       refine wp_block ?_
       have hbig : sumL (rl.map Prod.snd) ≤ 100000 ∧ bs + sumL (k2.map (lenIn N2)) ≤ 100000 := by
        have h2 : sumL (k2.map (lenIn N2)) ≤ k2.length * 15 := by
         have h3 : ∀ (l : List Nat), (∀ q ∈ l, q ∈ k2) → sumL (l.map (lenIn N2)) ≤ l.length * 15 := by
          intro l
          induction l with
          | nil => intro _; simp [sumL]
          | cons q l ih =>
           intro hq
           have h4 := ih (fun z hz => hq z (List.mem_cons_of_mem _ hz))
           obtain ⟨l', ys, e1, e2⟩ := Z7v hok q (hkm q (hq q List.mem_cons_self))
           have h5 : lenIn N2 q ≤ 15 := by unfold lenIn; rw [e1]; show (if l' = 0 then 0 else ys.length) ≤ 15; split <;> omega
           rw [List.map_cons, sumL, List.length_cons, Nat.succ_mul]; omega
         exact h3 k2 (fun q hq => hq)
        have h6 : bs ≤ 2 := by rw [hbs, hrs]; split <;> omega
        rw [hall, ← hbs]
        constructor <;> omega
       refine wp_loop (fun a w => Fr 184 a ∧ a.eval (.tmp 7) = .pointer (some ⟨sb, 0, none⟩) ∧ a.eval (.tmp 18) = .slice Br rl.length cr ∧ ∃ (i : Nat), a.eval (.tmp 20) = .int .i64 (↑(sumL ((rl.take i).map Prod.snd))) ∧ a.eval (.tmp 21) = .int .i64 (↑(bs + sumL ((k2.take i).map (lenIn N2)))) ∧ a.eval (.tmp 22) = .int .i64 ↑i ∧ i ≤ rl.length ∧ OwnT W0.heap.size W0 ((tBlk sb 27 #[.slice B2 N2.length cap2, .int .i64 511]) :: (tRow 40 2 (.slice B2 N2.length cap2) N2.length (leafV vs2 N2)) :: (tPool vs2 N2) :: (tRf (.slice Br rl.length cr) rl) :: []) w) (fun a w => rl.length - (intOf (a.eval (.tmp 22))).toNat) ?_ ?_
       · exact ⟨k, e7, e18, 0, e20, e21, e22, Nat.zero_le _, O⟩
       intro a154 w155 hI
       clear k e7 e18
       obtain ⟨k, e7, e18, h_⟩ := hI
       clear O e20 e21 e22
       obtain ⟨i, e20, e21, e22, hi, O⟩ := h_
       have mi := e22
       by_cases hlt : i < rl.length
       · have hltI : (i : Int) < (rl.length : Int) := by omega
         obtain ⟨⟨q, c⟩, hx⟩ : ∃ x, rl[i]? = some x := ⟨_, List.getElem?_eq_getElem hlt⟩
         have hkx2 : k2[i]? = some q := by rw [← hrk, List.getElem?_map, hx]; rfl
         obtain ⟨lv, ys, hny, hy15⟩ := Z7v hok q (hkm q (List.mem_of_getElem? hkx2))
         have hS1 : sumL ((rl.take (i + 1)).map Prod.snd) = sumL ((rl.take i).map Prod.snd) + c := by
          rw [List.take_add_one, hx, List.map_append, Z21]; simp [sumL]
         have hS2 : sumL ((k2.take (i + 1)).map (lenIn N2)) = sumL ((k2.take i).map (lenIn N2)) + lenIn N2 q := by
          rw [List.take_add_one, hkx2, List.map_append, Z21]; simp [sumL]
         have hB1 : sumL ((rl.take (i + 1)).map Prod.snd) ≤ 100000 := by
          have h2 : rl.map Prod.snd = (rl.take (i + 1)).map Prod.snd ++ (rl.drop (i + 1)).map Prod.snd := by rw [← List.map_append, List.take_append_drop]
          have := hbig.1
          rw [h2, Z21] at this; omega
         have hB2 : bs + sumL ((k2.take (i + 1)).map (lenIn N2)) ≤ 100000 := by
          have h2 : k2.map (lenIn N2) = (k2.take (i + 1)).map (lenIn N2) ++ (k2.drop (i + 1)).map (lenIn N2) := by rw [← List.map_append, List.take_append_drop]
          have := hbig.2
          rw [h2, Z21] at this; omega
         obtain ⟨z1, hz1⟩ : ∃ z, sumL ((rl.take i).map Prod.snd) = z := ⟨_, rfl⟩
         obtain ⟨z2, hz2⟩ : ∃ z, bs + sumL ((k2.take i).map (lenIn N2)) = z := ⟨_, rfl⟩
         have hli : lenIn N2 q = if lv = 0 then 0 else ys.length := by unfold lenIn; rw [hny]
         obtain ⟨gl, rfl, -, d1⟩ := Z2i (OwnT.get O 3 rfl) hx

         rw [hz1] at e20
         rw [hz2] at e21
         refine wp_seq ?_
         refine wp_seq ?_
         refine wp_region_lit ?_
         have hE := Env.refl a154 [132, 133, 134, 135]
         refine zm 132 hE k e22 ?_
         intro a156 hE e132 kp
         refine zm 133 hE k e18 ?_
         intro a157 hE e133 kp
         replace e132 := kt kp e132
         refine sd 134 hE k (Z0i Try.underlying45 rfl e133) ?_
         intro a158 hE e134 kp
         replace e132 := kt kp e132
         refine sd 135 hE k (Z05 (Z17 rfl e132 e134) (decide_eq_true (by omega))) ?_
         intro a159 hE e135 kp
         refine wpList_nil ?_
         replace e7 := hE.g e7; replace e18 := hE.g e18; replace e20 := hE.g e20; replace e21 := hE.g e21; replace e22 := hE.g e22
         replace k := k.env hE
         clear hE
         refine Z01 ?_
         refine Z0a e135 rfl ?_
         refine wp_skip ?_
         refine Z01 (wp_seq ?_)
         refine wp_block ?_
         refine wp_seq ?_
         refine wp_region_lit ?_
         have hE := Env.refl a159 [138, 139, 140, 141, 142, 143, 144, 20]
         refine sd 138 hE k (Z03 rfl e20) ?_
         intro a160 hE e138 kp
         replace e20 := kt kp e20
         refine zm 139 hE k e18 ?_
         intro a161 hE e139 kp
         replace e20 := kt kp e20; replace e138 := kt kp e138
         refine zm 140 hE k e22 ?_
         intro a162 hE e140 kp
         replace e20 := kt kp e20; replace e138 := kt kp e138; replace e139 := kt kp e139
         apply Z02 141 hE k rfl rfl rfl rfl
         case h =>
          simp [go_sem, ↓IntWalk.iteOmega, ev e139, ev e140]
          with_reducible rfl
         intro a163 hE e141 kp
         replace e20 := kt kp e20; replace e138 := kt kp e138
         apply Z02 142 hE k rfl rfl rfl rfl
         case h =>
          simp [go_sem, ↓IntWalk.iteOmega, ev e141]
          with_reducible rfl
         intro a164 hE e142 kp
         replace e20 := kt kp e20; replace e138 := kt kp e138
         apply Z02 143 hE k rfl rfl rfl rfl
         case h =>
          simp [go_sem, ↓IntWalk.iteOmega, ev e142, d1]
          with_reducible rfl
         intro a165 hE e143 kp
         replace e20 := kt kp e20; replace e138 := kt kp e138
         refine sd 144 hE k (Z0x rfl e138 e143 (by omega)) ?_
         intro a166 hE e144 kp
         replace e20 := kt kp e20
         replace e144 := e144.trans (Z0p (show (z1 : Int) + (c : Int) = ((sumL ((rl.take (i + 1)).map Prod.snd) : Nat) : Int) by rw [hS1, hz1]; omega))
         refine sd 20 hE k (Z00 rfl e144) ?_
         intro a167 hE e20 kp
         refine wpList_nil ?_
         replace e7 := hE.g e7; replace e18 := hE.g e18; replace e21 := hE.g e21; replace e22 := hE.g e22
         replace k := k.env hE
         clear hE e135
         refine Z01 ?_
         clear d1
         by_cases hi0 : i = 0
         · skip
           refine wp_seq ?_
           refine wp_seq ?_
           refine Z0d (R := Ext) (w0 := w155) [[], [0], [0, 1], [0, 1, 2], [0, 1, 2], [0, 1, 2, 4], [0, 1, 2, 3, 4, 5], [0, 1, 2, 3, 4, 5, 6], [0, 1, 2, 3, 4, 5, 6, 7], [0, 1, 2], [0, 1, 2], [0, 1, 2, 9, 10], [0, 1, 2, 9, 10, 11], [0, 1, 2, 9, 10, 11, 12], [0, 1, 2, 3, 4, 5, 6, 7, 8, 9, 10, 11, 12, 13], [0, 1, 2, 3, 4, 5, 6, 7, 8, 9, 10, 11, 12, 13, 14]] [145, 146, 147, 148, 149, 150, 151, 152, 153, 154, 155, 156, 157, 158, 159, 160] Ext.refl (fun _ _ _ => Ext.trans) (Ext.drew _) (by kernel_rfl) ?_
           apply bd 145 k rfl rfl rfl
           case h =>
            intro ax wx hE hR hF
            exact Z03 rfl (hE.g e22)
           apply bd 146 k rfl rfl rfl
           case h =>
            intro ax wx hE hR hF
            have e145 := zhF hF 0 145 ml0
            exact Z05 (Z1r rfl e145 rfl) (decide_eq_false (by omega))
           apply bd 147 k rfl rfl rfl
           case h =>
            intro ax wx hE hR hF
            have e146 := zhF hF 1 146 ml0
            exact Z03 rfl e146
           refine Build.skip 148 (by rfl) (by rw [k.size]; rfl) rfl rfl ?_ ?_
           · intro ax wx hE hR hF
             have e147 := zhF hF 2 147 ml0
             exact e147
           refine Build.skip 149 (by rfl) (by rw [k.size]; rfl) rfl rfl ?_ ?_
           · intro ax wx hE hR hF
             have e147 := zhF hF 2 147 ml1
             exact e147
           refine Build.skip 150 (by rfl) (by rw [k.size]; rfl) rfl rfl ?_ ?_
           · intro ax wx hE hR hF
             have e147 := zhF hF 2 147 ml2
             exact e147
           refine Build.skip 151 (by rfl) (by rw [k.size]; rfl) rfl rfl ?_ ?_
           · intro ax wx hE hR hF
             have e147 := zhF hF 2 147 ml3
             exact e147
           refine Build.skip 152 (by rfl) (by rw [k.size]; rfl) rfl rfl ?_ ?_
           · intro ax wx hE hR hF
             have e147 := zhF hF 2 147 ml4
             exact e147
           refine Build.skip 153 (by rfl) (by rw [k.size]; rfl) rfl rfl ?_ ?_
           · intro ax wx hE hR hF
             have e147 := zhF hF 2 147 ml5
             exact e147
           refine Build.skip 154 (by rfl) (by rw [k.size]; rfl) rfl rfl ?_ ?_
           · intro ax wx hE hR hF
             have e147 := zhF hF 2 147 ml6
             exact e147
           refine Build.skip 155 (by rfl) (by rw [k.size]; rfl) rfl rfl ?_ ?_
           · intro ax wx hE hR hF
             have e147 := zhF hF 2 147 ml7
             exact e147
           refine Build.skip 156 (by rfl) (by rw [k.size]; rfl) rfl rfl ?_ ?_
           · intro ax wx hE hR hF
             have e147 := zhF hF 2 147 ml8
             exact e147
           refine Build.skip 157 (by rfl) (by rw [k.size]; rfl) rfl rfl ?_ ?_
           · intro ax wx hE hR hF
             have e147 := zhF hF 2 147 ml9
             exact e147
           refine Build.skip 158 (by rfl) (by rw [k.size]; rfl) rfl rfl ?_ ?_
           · intro ax wx hE hR hF
             have e147 := zhF hF 2 147 ml10
             exact e147
           refine Build.skip 159 (by rfl) (by rw [k.size]; rfl) rfl rfl ?_ ?_
           · intro ax wx hE hR hF
             have e147 := zhF hF 2 147 ml11
             exact e147
           apply bd 160 k rfl rfl rfl
           case h =>
            intro ax wx hE hR hF
            have e147 := zhF hF 2 147 ml12
            have e159 := zhF hF 14 159 ml0
            exact Z08 rfl e147 rfl
           apply Build.stop
           refine ⟨by kernel_rfl, .inl ⟨rfl, ?_⟩⟩
           intro a168 w169 hE R hF
           have e160 : a168.eval (.tmp 160) = _ := hF 15 (det 160 _) ml0
           clear hF
           replace O := OwnT.ext O R
           clear R
           replace e7 := hE.g e7; replace e18 := hE.g e18; replace e20 := hE.g e20; replace e21 := hE.g e21; replace e22 := hE.g e22
           replace k := k.env hE
           clear hE
           refine Z01 ?_
           refine Z06 e160 rfl ?_
           refine wp_skip ?_
           refine Z01 ?_
           obtain ⟨_, e, d0, -⟩ := Z2i (OwnT.get O 3 rfl) hx; injection e with e; injection e with e; subst e
           refine wp_seq ?_
           refine wp_region_lit ?_
           have hE := Env.refl a168 [162, 163, 164, 165, 166, 167, 168, 161, 169, 170, 23, 24]
           refine zm 162 hE k e7 ?_
           intro a170 hE e162 kp
           refine zm 163 hE k e18 ?_
           intro a171 hE e163 kp
           replace e162 := kt kp e162
           refine zm 164 hE k e22 ?_
           intro a172 hE e164 kp
           replace e162 := kt kp e162; replace e163 := kt kp e163
           apply Z02 165 hE k rfl rfl rfl rfl
           case h =>
            simp [go_sem, ↓IntWalk.iteOmega, ev e163, ev e164]
            with_reducible rfl
           intro a173 hE e165 kp
           replace e162 := kt kp e162
           apply Z02 166 hE k rfl rfl rfl rfl
           case h =>
            simp [go_sem, ↓IntWalk.iteOmega, ev e165]
            with_reducible rfl
           intro a174 hE e166 kp
           replace e162 := kt kp e162
           apply Z02 167 hE k rfl rfl rfl rfl
           case h =>
            simp [go_sem, ↓IntWalk.iteOmega, ev e166, d0]
            with_reducible rfl
           intro a175 hE e167 kp
           replace e162 := kt kp e162
           apply Z07 168 hE k rfl (by rfl) (by rfl) rfl
           case h =>
            simp [go_sem, ↓IntWalk.iteOmega, ev e162, ev e167]
            with_reducible exact ⟨rfl, rfl⟩
           case hc => exact Z2m q lv ys _ O (by omega) hny (by omega)
           clear O
           rintro e w177 ⟨v, rfl, O, -⟩
           obtain ⟨By, cy, rfl, -, -, -, -⟩ := Z0o (OwnT.get O 0 rfl : (tPs v ys).holds _)
           refine ⟨_, rfl, ?_⟩
           intro a176 hE e168 kp
           refine sd 161 hE k (Z03 rfl e168) ?_
           intro a178 hE e161 kp
           apply Z02 169 hE k rfl rfl rfl rfl
           case h =>
            simp [go_sem, ↓IntWalk.iteOmega, ev e161]
            with_reducible rfl
           intro a179 hE e169 kp
           replace e161 := kt kp e161
           apply Z02 170 hE k rfl rfl rfl rfl
           case h =>
            simp [go_sem, ↓IntWalk.iteOmega, ev e161]
            with_reducible rfl
           intro a180 hE e170 kp
           replace e169 := kt kp e169
           refine Z0k O (cs := #[.int .i64 0, .slice none 0 0]) (t := 40) 23 hE k rfl (by rfl) (by rfl) rfl (by simp [go_sem, ↓IntWalk.iteOmega]) ?_
           clear O
           intro yb a181 w182 O hE e23 kp
           replace e169 := kt kp e169; replace e170 := kt kp e170
           have q0 : w182.cell? ⟨yb, 0, none⟩ = some (.int .i64 0) := (OwnT.blk O 0 rfl).cell 0
           have z0 : w182.frozen? ⟨yb, 0, none⟩ = false := (OwnT.blk O 0 rfl).frozen 0
           have q1 : w182.cell? ⟨yb, 1, none⟩ = some (.slice none 0 0) := (OwnT.blk O 0 rfl).cell 1
           have z1 : w182.frozen? ⟨yb, 1, none⟩ = false := (OwnT.blk O 0 rfl).frozen 1
           refine Z0g (w' := ((w182.setCell ⟨yb, 0, none⟩ (.int .i64 ↑lv)).setCell ⟨yb, 1, none⟩ (.slice By ys.length cy))) hE rfl rfl (by simp [go_sem, ↓IntWalk.iteOmega, ev e23, ev e169, q0, z0, q1, z1]) ?_
           replace O := OwnT.push 0 rfl (((OwnT.pull O 0 rfl).set 0 (.int .i64 ↑lv)).set 1 (.slice By ys.length cy))
           clear q0 z0 q1 z1
           generalize ((w182.setCell ⟨yb, 0, none⟩ (.int .i64 ↑lv)).setCell ⟨yb, 1, none⟩ (.slice By ys.length cy)) = w183 at O ⊢
           replace O : OwnT _ _ ((tBlk yb 40 #[.int .i64 ↑lv, .slice By ys.length cy]) :: (tPs (.slice By ys.length cy) ys) :: (tBlk sb 27 #[.slice B2 N2.length cap2, .int .i64 511]) :: (tRow 40 2 (.slice B2 N2.length cap2) N2.length (leafV vs2 N2)) :: (tPool vs2 N2) :: (tRf (.slice (some ⟨gl, 0, none⟩) rl.length cr) rl) :: []) w183 := O
           refine sd 24 hE k (Z00 rfl e170) ?_
           intro a184 hE e24 kp
           replace e23 := kt kp e23
           refine wpList_nil ?_
           replace e7 := hE.g e7; replace e18 := hE.g e18; replace e20 := hE.g e20; replace e21 := hE.g e21; replace e22 := hE.g e22
           replace k := k.env hE
           clear hE e160
           refine Z01 (wp_seq ?_)
           refine wp_seq ?_
           refine wp_region_lit ?_
           have hE := Env.refl a184 [171, 172]
           refine zm 171 hE k e24 ?_
           intro a185 hE e171 kp
           refine sd 172 hE k (Z05 (Z0j rfl e171 rfl) (decide_eq_false (by omega))) ?_
           intro a186 hE e172 kp
           refine wpList_nil ?_
           replace e7 := hE.g e7; replace e18 := hE.g e18; replace e20 := hE.g e20; replace e21 := hE.g e21; replace e22 := hE.g e22; replace e23 := hE.g e23
           replace k := k.env hE
           clear hE e24
           refine Z01 ?_
           refine Z06 e172 rfl ?_
           refine wp_skip ?_
           refine Z01 ?_
           by_cases hlv : lv = 0
           · rw [if_pos hlv] at hli
             refine wp_seq ?_
             refine wp_region_lit ?_
             have hE := Env.refl a186 [173, 174, 175]
             apply Z02 173 hE k rfl rfl rfl rfl
             case h =>
              simp [go_sem, ↓IntWalk.iteOmega, ev (hE.g e23)]
              with_reducible rfl
             intro a187 hE e173 kp
             apply Z02 174 hE k rfl rfl rfl rfl
             case h =>
              have q0 : w183.cell? ⟨yb, 0, none⟩ = some (.int .i64 ↑lv) := (OwnT.blk O 0 rfl).cell 0
              simp [go_sem, ↓IntWalk.iteOmega, ev e173, q0]
              with_reducible rfl
             intro a188 hE e174 kp
             refine sd 175 hE k (Z05 (Z1r rfl e174 rfl) (decide_eq_false (by omega))) ?_
             intro a189 hE e175 kp
             refine wpList_nil ?_
             replace e7 := hE.g e7; replace e18 := hE.g e18; replace e20 := hE.g e20; replace e21 := hE.g e21; replace e22 := hE.g e22; replace e23 := hE.g e23
             replace k := k.env hE
             clear hE e172
             refine Z01 ?_
             refine Z06 e175 rfl ?_
             refine wp_skip ?_
             refine Z0s ?_
             refine Z01 ?_
             refine wp_region_lit ?_
             have hE := Env.refl a189 [136, 137, 22]
             refine sd 136 hE k (Z03 rfl e22) ?_
             intro a190 hE e136 kp
             replace e22 := kt kp e22
             refine sd 137 hE k (Z0x rfl e136 rfl (by omega)) ?_
             intro a191 hE e137 kp
             replace e22 := kt kp e22
             refine sd 22 hE k (Z00 rfl e137) ?_
             intro a192 hE e22 kp
             refine wpList_nil ?_
             replace e7 := hE.g e7; replace e18 := hE.g e18; replace e20 := hE.g e20; replace e21 := hE.g e21
             replace k := k.env hE
             clear hE e23 e175
             refine Z01 ?_
             replace e21 := e21.trans (Z0p (show (z2 : Int) = ((bs + sumL ((k2.take (i + 1)).map (lenIn N2)) : Nat) : Int) by rw [hS2, hli, ← hz2]; omega))
             refine ⟨⟨k, e7, e18, i + 1, e20, e21, e22, by omega, OwnT.pickR (L := [_, _, _, _, _, _]) (R := []) O [2, 3, 4, 5] (by decide)⟩, ?_⟩
             rw [e22, mi]; simp only [intOf]; omega
           · rw [if_neg hlv] at hli
             refine wp_seq ?_
             refine wp_region_lit ?_
             have hE := Env.refl a186 [173, 174, 175]
             apply Z02 173 hE k rfl rfl rfl rfl
             case h =>
              simp [go_sem, ↓IntWalk.iteOmega, ev (hE.g e23)]
              with_reducible rfl
             intro a193 hE e173 kp
             apply Z02 174 hE k rfl rfl rfl rfl
             case h =>
              have q0 : w183.cell? ⟨yb, 0, none⟩ = some (.int .i64 ↑lv) := (OwnT.blk O 0 rfl).cell 0
              simp [go_sem, ↓IntWalk.iteOmega, ev e173, q0]
              with_reducible rfl
             intro a194 hE e174 kp
             refine sd 175 hE k (Z05 (Z1r rfl e174 rfl) (decide_eq_true (by omega))) ?_
             intro a195 hE e175 kp
             refine wpList_nil ?_
             replace e7 := hE.g e7; replace e18 := hE.g e18; replace e20 := hE.g e20; replace e21 := hE.g e21; replace e22 := hE.g e22; replace e23 := hE.g e23
             replace k := k.env hE
             clear hE e172
             refine Z01 ?_
             refine Z0a e175 rfl ?_
             refine wp_region_lit ?_
             have hE := Env.refl a195 [176, 177, 178, 179, 180, 21]
             refine sd 176 hE k (Z03 rfl e21) ?_
             intro a196 hE e176 kp
             replace e21 := kt kp e21
             apply Z02 177 hE k rfl rfl rfl rfl
             case h =>
              simp [go_sem, ↓IntWalk.iteOmega, ev (hE.g e23)]
              with_reducible rfl
             intro a197 hE e177 kp
             replace e21 := kt kp e21; replace e176 := kt kp e176
             apply Z02 178 hE k rfl rfl rfl rfl
             case h =>
              have q0 : w183.cell? ⟨yb, 1, none⟩ = some (.slice By ys.length cy) := (OwnT.blk O 0 rfl).cell 1
              simp [go_sem, ↓IntWalk.iteOmega, ev e177, q0]
              with_reducible rfl
             intro a198 hE e178 kp
             replace e21 := kt kp e21; replace e176 := kt kp e176
             refine sd 179 hE k (Z0i Try.underlying38 rfl e178) ?_
             intro a199 hE e179 kp
             replace e21 := kt kp e21; replace e176 := kt kp e176
             refine sd 180 hE k (Z0x rfl e176 e179 (by omega)) ?_
             intro a200 hE e180 kp
             replace e21 := kt kp e21
             replace e180 := e180.trans (Z0p (show (z2 : Int) + (ys.length : Int) = ((bs + sumL ((k2.take (i + 1)).map (lenIn N2)) : Nat) : Int) by rw [hS2, hli, ← hz2]; omega))
             refine sd 21 hE k (Z00 rfl e180) ?_
             intro a201 hE e21 kp
             refine wpList_nil ?_
             replace e7 := hE.g e7; replace e18 := hE.g e18; replace e20 := hE.g e20; replace e22 := hE.g e22
             replace k := k.env hE
             clear hE e23 e175
             refine Z0s ?_
             refine Z01 ?_
             refine wp_region_lit ?_
             have hE := Env.refl a201 [136, 137, 22]
             refine sd 136 hE k (Z03 rfl e22) ?_
             intro a202 hE e136 kp
             replace e22 := kt kp e22
             refine sd 137 hE k (Z0x rfl e136 rfl (by omega)) ?_
             intro a203 hE e137 kp
             replace e22 := kt kp e22
             refine sd 22 hE k (Z00 rfl e137) ?_
             intro a204 hE e22 kp
             refine wpList_nil ?_
             replace e7 := hE.g e7; replace e18 := hE.g e18; replace e20 := hE.g e20; replace e21 := hE.g e21
             replace k := k.env hE
             clear hE
             refine Z01 ?_
             refine ⟨⟨k, e7, e18, i + 1, e20, e21, e22, by omega, OwnT.pickR (L := [_, _, _, _, _, _]) (R := []) O [2, 3, 4, 5] (by decide)⟩, ?_⟩
             rw [e22, mi]; simp only [intOf]; omega
         · obtain ⟨i1, rfl⟩ : ∃ i1, i = i1 + 1 := ⟨i - 1, by omega⟩
           have hlt1 : i1 < rl.length := by omega
           have hlt1I : (i1 : Int) < (rl.length : Int) := by omega
           obtain ⟨⟨q1, c1⟩, hx1⟩ : ∃ x, rl[i1]? = some x := ⟨_, List.getElem?_eq_getElem hlt1⟩
           have hkx1 : k2[i1]? = some q1 := by rw [← hrk, List.getElem?_map, hx1]; rfl
           have hq1 : q1 < q := by
            obtain ⟨a1, a2⟩ := List.getElem?_eq_some_iff.1 hkx1
            obtain ⟨b1, b2⟩ := List.getElem?_eq_some_iff.1 hkx2
            have := List.pairwise_iff_getElem.1 hup i1 (i1 + 1) a1 b1 (by omega)
            rw [a2, b2] at this
            exact this

           refine wp_seq ?_
           refine wp_seq ?_
           refine Z0d (R := Ext) (w0 := w155) [[], [0], [0, 1], [0, 1, 2], [0, 1, 2], [0, 1, 2, 4], [0, 1, 2, 3, 4, 5], [0, 1, 2, 3, 4, 5, 6], [0, 1, 2, 3, 4, 5, 6, 7], [0, 1, 2], [0, 1, 2], [0, 1, 2, 9, 10], [0, 1, 2, 9, 10, 11], [0, 1, 2, 9, 10, 11, 12], [0, 1, 2, 3, 4, 5, 6, 7, 8, 9, 10, 11, 12, 13], [0, 1, 2, 3, 4, 5, 6, 7, 8, 9, 10, 11, 12, 13, 14]] [145, 146, 147, 148, 149, 150, 151, 152, 153, 154, 155, 156, 157, 158, 159, 160] Ext.refl (fun _ _ _ => Ext.trans) (Ext.drew _) (by kernel_rfl) ?_
           apply bd 145 k rfl rfl rfl
           case h =>
            intro ax wx hE hR hF
            exact Z03 rfl (hE.g e22)
           apply bd 146 k rfl rfl rfl
           case h =>
            intro ax wx hE hR hF
            have e145 := zhF hF 0 145 ml0
            exact Z05 (Z1r rfl e145 rfl) (decide_eq_true (by omega))
           apply bd 147 k rfl rfl rfl
           case h =>
            intro ax wx hE hR hF
            have e146 := zhF hF 1 146 ml0
            exact Z03 rfl e146
           apply bdg 148 k rfl rfl rfl rfl
           case h =>
            intro ax wx hE hR hF
            have e147 := zhF hF 2 147 ml0
            refine ⟨e147, ?_⟩
            exact Z03 rfl (hE.g e18)
           apply bdg 149 k rfl rfl rfl rfl
           case h =>
            intro ax wx hE hR hF
            have e147 := zhF hF 2 147 ml1
            refine ⟨e147, ?_⟩
            exact Z03 rfl (hE.g e22)
           apply bdg 150 k rfl rfl rfl rfl
           case h =>
            intro ax wx hE hR hF
            have e149 := zhF hF 4 149 ml0
            have e147 := zhF hF 2 147 ml2
            refine ⟨e147, ?_⟩
            exact Z3y rfl e149 rfl (by omega)
           apply bdg 151 k rfl rfl rfl rfl
           case h =>
            intro ax wx hE hR hF
            have e148 := zhF hF 3 148 ml2
            have e150 := zhF hF 5 150 ml0
            have e147 := zhF hF 2 147 ml3
            refine ⟨e147, ?_⟩
            simp [go_sem, ↓IntWalk.iteOmega, ev e148, ev e150]
            with_reducible rfl
           apply bdg 152 k rfl rfl rfl rfl
           case h =>
            intro ax wx hE hR hF
            have e151 := zhF hF 6 151 ml0
            have e147 := zhF hF 2 147 ml4
            refine ⟨e147, ?_⟩
            simp [go_sem, ↓IntWalk.iteOmega, ev e151]
            with_reducible rfl
           apply bdg 153 k rfl rfl rfl rfl
           case h =>
            intro ax wx hE hR hF
            have e152 := zhF hF 7 152 ml0
            have e147 := zhF hF 2 147 ml5
            refine ⟨e147, ?_⟩
            obtain ⟨_, e, d0, -⟩ := Z2i (OwnT.get (OwnT.ext O hR) 3 rfl : (tRf (.slice (some ⟨gl, 0, none⟩) rl.length cr) rl).holds _) hx1; injection e with e; injection e with e; subst e
            simp [go_sem, ↓IntWalk.iteOmega, ev e152, d0]
            with_reducible rfl
           apply bdg 154 k rfl rfl rfl rfl
           case h =>
            intro ax wx hE hR hF
            have e147 := zhF hF 2 147 ml6
            refine ⟨e147, ?_⟩
            exact Z03 rfl (hE.g e18)
           apply bdg 155 k rfl rfl rfl rfl
           case h =>
            intro ax wx hE hR hF
            have e147 := zhF hF 2 147 ml7
            refine ⟨e147, ?_⟩
            exact Z03 rfl (hE.g e22)
           apply bdg 156 k rfl rfl rfl rfl
           case h =>
            intro ax wx hE hR hF
            have e154 := zhF hF 9 154 ml1
            have e155 := zhF hF 10 155 ml0
            have e147 := zhF hF 2 147 ml8
            refine ⟨e147, ?_⟩
            simp [go_sem, ↓IntWalk.iteOmega, ev e154, ev e155]
            with_reducible rfl
           apply bdg 157 k rfl rfl rfl rfl
           case h =>
            intro ax wx hE hR hF
            have e156 := zhF hF 11 156 ml0
            have e147 := zhF hF 2 147 ml9
            refine ⟨e147, ?_⟩
            simp [go_sem, ↓IntWalk.iteOmega, ev e156]
            with_reducible rfl
           apply bdg 158 k rfl rfl rfl rfl
           case h =>
            intro ax wx hE hR hF
            have e157 := zhF hF 12 157 ml0
            have e147 := zhF hF 2 147 ml10
            refine ⟨e147, ?_⟩
            obtain ⟨_, e, d0, -⟩ := Z2i (OwnT.get (OwnT.ext O hR) 3 rfl : (tRf (.slice (some ⟨gl, 0, none⟩) rl.length cr) rl).holds _) hx; injection e with e; injection e with e; subst e
            simp [go_sem, ↓IntWalk.iteOmega, ev e157, d0]
            with_reducible rfl
           apply bdg 159 k rfl rfl rfl rfl
           case h =>
            intro ax wx hE hR hF
            have e153 := zhF hF 8 153 ml5
            have e158 := zhF hF 13 158 ml0
            have e147 := zhF hF 2 147 ml11
            refine ⟨e147, ?_⟩
            exact Z05 (Z5v rfl e153 e158) (decide_eq_false (by omega))
           apply bd 160 k rfl rfl rfl
           case h =>
            intro ax wx hE hR hF
            have e147 := zhF hF 2 147 ml12
            have e159 := zhF hF 14 159 ml0
            exact Z0m rfl e147 e159
           apply Build.stop
           refine ⟨by kernel_rfl, .inl ⟨rfl, ?_⟩⟩
           intro a205 w206 hE R hF
           have e160 : a205.eval (.tmp 160) = _ := hF 15 (det 160 _) ml0
           clear hF
           replace O := OwnT.ext O R
           clear R
           replace e7 := hE.g e7; replace e18 := hE.g e18; replace e20 := hE.g e20; replace e21 := hE.g e21; replace e22 := hE.g e22
           replace k := k.env hE
           clear hE
           refine Z01 ?_
           refine Z06 e160 rfl ?_
           refine wp_skip ?_
           refine Z01 ?_
           obtain ⟨_, e, d0, -⟩ := Z2i (OwnT.get O 3 rfl) hx; injection e with e; injection e with e; subst e
           refine wp_seq ?_
           refine wp_region_lit ?_
           have hE := Env.refl a205 [162, 163, 164, 165, 166, 167, 168, 161, 169, 170, 23, 24]
           refine zm 162 hE k e7 ?_
           intro a207 hE e162 kp
           refine zm 163 hE k e18 ?_
           intro a208 hE e163 kp
           replace e162 := kt kp e162
           refine zm 164 hE k e22 ?_
           intro a209 hE e164 kp
           replace e162 := kt kp e162; replace e163 := kt kp e163
           apply Z02 165 hE k rfl rfl rfl rfl
           case h =>
            simp [go_sem, ↓IntWalk.iteOmega, ev e163, ev e164]
            with_reducible rfl
           intro a210 hE e165 kp
           replace e162 := kt kp e162
           apply Z02 166 hE k rfl rfl rfl rfl
           case h =>
            simp [go_sem, ↓IntWalk.iteOmega, ev e165]
            with_reducible rfl
           intro a211 hE e166 kp
           replace e162 := kt kp e162
           apply Z02 167 hE k rfl rfl rfl rfl
           case h =>
            simp [go_sem, ↓IntWalk.iteOmega, ev e166, d0]
            with_reducible rfl
           intro a212 hE e167 kp
           replace e162 := kt kp e162
           apply Z07 168 hE k rfl (by rfl) (by rfl) rfl
           case h =>
            simp [go_sem, ↓IntWalk.iteOmega, ev e162, ev e167]
            with_reducible exact ⟨rfl, rfl⟩
           case hc => exact Z2m q lv ys _ O (by omega) hny (by omega)
           clear O
           rintro e w214 ⟨v, rfl, O, -⟩
           obtain ⟨By, cy, rfl, -, -, -, -⟩ := Z0o (OwnT.get O 0 rfl : (tPs v ys).holds _)
           refine ⟨_, rfl, ?_⟩
           intro a213 hE e168 kp
           refine sd 161 hE k (Z03 rfl e168) ?_
           intro a215 hE e161 kp
           apply Z02 169 hE k rfl rfl rfl rfl
           case h =>
            simp [go_sem, ↓IntWalk.iteOmega, ev e161]
            with_reducible rfl
           intro a216 hE e169 kp
           replace e161 := kt kp e161
           apply Z02 170 hE k rfl rfl rfl rfl
           case h =>
            simp [go_sem, ↓IntWalk.iteOmega, ev e161]
            with_reducible rfl
           intro a217 hE e170 kp
           replace e169 := kt kp e169
           refine Z0k O (cs := #[.int .i64 0, .slice none 0 0]) (t := 40) 23 hE k rfl (by rfl) (by rfl) rfl (by simp [go_sem, ↓IntWalk.iteOmega]) ?_
           clear O
           intro yb a218 w219 O hE e23 kp
           replace e169 := kt kp e169; replace e170 := kt kp e170
           have q0 : w219.cell? ⟨yb, 0, none⟩ = some (.int .i64 0) := (OwnT.blk O 0 rfl).cell 0
           have z0 : w219.frozen? ⟨yb, 0, none⟩ = false := (OwnT.blk O 0 rfl).frozen 0
           have q1 : w219.cell? ⟨yb, 1, none⟩ = some (.slice none 0 0) := (OwnT.blk O 0 rfl).cell 1
           have z1 : w219.frozen? ⟨yb, 1, none⟩ = false := (OwnT.blk O 0 rfl).frozen 1
           refine Z0g (w' := ((w219.setCell ⟨yb, 0, none⟩ (.int .i64 ↑lv)).setCell ⟨yb, 1, none⟩ (.slice By ys.length cy))) hE rfl rfl (by simp [go_sem, ↓IntWalk.iteOmega, ev e23, ev e169, q0, z0, q1, z1]) ?_
           replace O := OwnT.push 0 rfl (((OwnT.pull O 0 rfl).set 0 (.int .i64 ↑lv)).set 1 (.slice By ys.length cy))
           clear q0 z0 q1 z1
           generalize ((w219.setCell ⟨yb, 0, none⟩ (.int .i64 ↑lv)).setCell ⟨yb, 1, none⟩ (.slice By ys.length cy)) = w220 at O ⊢
           replace O : OwnT _ _ ((tBlk yb 40 #[.int .i64 ↑lv, .slice By ys.length cy]) :: (tPs (.slice By ys.length cy) ys) :: (tBlk sb 27 #[.slice B2 N2.length cap2, .int .i64 511]) :: (tRow 40 2 (.slice B2 N2.length cap2) N2.length (leafV vs2 N2)) :: (tPool vs2 N2) :: (tRf (.slice (some ⟨gl, 0, none⟩) rl.length cr) rl) :: []) w220 := O
           refine sd 24 hE k (Z00 rfl e170) ?_
           intro a221 hE e24 kp
           replace e23 := kt kp e23
           refine wpList_nil ?_
           replace e7 := hE.g e7; replace e18 := hE.g e18; replace e20 := hE.g e20; replace e21 := hE.g e21; replace e22 := hE.g e22
           replace k := k.env hE
           clear hE e160
           refine Z01 (wp_seq ?_)
           refine wp_seq ?_
           refine wp_region_lit ?_
           have hE := Env.refl a221 [171, 172]
           refine zm 171 hE k e24 ?_
           intro a222 hE e171 kp
           refine sd 172 hE k (Z05 (Z0j rfl e171 rfl) (decide_eq_false (by omega))) ?_
           intro a223 hE e172 kp
           refine wpList_nil ?_
           replace e7 := hE.g e7; replace e18 := hE.g e18; replace e20 := hE.g e20; replace e21 := hE.g e21; replace e22 := hE.g e22; replace e23 := hE.g e23
           replace k := k.env hE
           clear hE e24
           refine Z01 ?_
           refine Z06 e172 rfl ?_
           refine wp_skip ?_
           refine Z01 ?_
           by_cases hlv : lv = 0
           · rw [if_pos hlv] at hli
             refine wp_seq ?_
             refine wp_region_lit ?_
             have hE := Env.refl a223 [173, 174, 175]
             apply Z02 173 hE k rfl rfl rfl rfl
             case h =>
              simp [go_sem, ↓IntWalk.iteOmega, ev (hE.g e23)]
              with_reducible rfl
             intro a224 hE e173 kp
             apply Z02 174 hE k rfl rfl rfl rfl
             case h =>
              have q0 : w220.cell? ⟨yb, 0, none⟩ = some (.int .i64 ↑lv) := (OwnT.blk O 0 rfl).cell 0
              simp [go_sem, ↓IntWalk.iteOmega, ev e173, q0]
              with_reducible rfl
             intro a225 hE e174 kp
             refine sd 175 hE k (Z05 (Z1r rfl e174 rfl) (decide_eq_false (by omega))) ?_
             intro a226 hE e175 kp
             refine wpList_nil ?_
             replace e7 := hE.g e7; replace e18 := hE.g e18; replace e20 := hE.g e20; replace e21 := hE.g e21; replace e22 := hE.g e22; replace e23 := hE.g e23
             replace k := k.env hE
             clear hE e172
             refine Z01 ?_
             refine Z06 e175 rfl ?_
             refine wp_skip ?_
             refine Z0s ?_
             refine Z01 ?_
             refine wp_region_lit ?_
             have hE := Env.refl a226 [136, 137, 22]
             refine sd 136 hE k (Z03 rfl e22) ?_
             intro a227 hE e136 kp
             replace e22 := kt kp e22
             refine sd 137 hE k (Z0x rfl e136 rfl (by omega)) ?_
             intro a228 hE e137 kp
             replace e22 := kt kp e22
             refine sd 22 hE k (Z00 rfl e137) ?_
             intro a229 hE e22 kp
             refine wpList_nil ?_
             replace e7 := hE.g e7; replace e18 := hE.g e18; replace e20 := hE.g e20; replace e21 := hE.g e21
             replace k := k.env hE
             clear hE e23 e175
             refine Z01 ?_
             replace e21 := e21.trans (Z0p (show (z2 : Int) = ((bs + sumL ((k2.take ((i1 + 1) + 1)).map (lenIn N2)) : Nat) : Int) by rw [hS2, hli, ← hz2]; omega))
             refine ⟨⟨k, e7, e18, (i1 + 1) + 1, e20, e21, e22, by omega, OwnT.pickR (L := [_, _, _, _, _, _]) (R := []) O [2, 3, 4, 5] (by decide)⟩, ?_⟩
             rw [e22, mi]; simp only [intOf]; omega
           · rw [if_neg hlv] at hli
             refine wp_seq ?_
             refine wp_region_lit ?_
             have hE := Env.refl a223 [173, 174, 175]
             apply Z02 173 hE k rfl rfl rfl rfl
             case h =>
              simp [go_sem, ↓IntWalk.iteOmega, ev (hE.g e23)]
              with_reducible rfl
             intro a230 hE e173 kp
             apply Z02 174 hE k rfl rfl rfl rfl
             case h =>
              have q0 : w220.cell? ⟨yb, 0, none⟩ = some (.int .i64 ↑lv) := (OwnT.blk O 0 rfl).cell 0
              simp [go_sem, ↓IntWalk.iteOmega, ev e173, q0]
              with_reducible rfl
             intro a231 hE e174 kp
             refine sd 175 hE k (Z05 (Z1r rfl e174 rfl) (decide_eq_true (by omega))) ?_
             intro a232 hE e175 kp
             refine wpList_nil ?_
             replace e7 := hE.g e7; replace e18 := hE.g e18; replace e20 := hE.g e20; replace e21 := hE.g e21; replace e22 := hE.g e22; replace e23 := hE.g e23
             replace k := k.env hE
             clear hE e172
             refine Z01 ?_
             refine Z0a e175 rfl ?_
             refine wp_region_lit ?_
             have hE := Env.refl a232 [176, 177, 178, 179, 180, 21]
             refine sd 176 hE k (Z03 rfl e21) ?_
             intro a233 hE e176 kp
             replace e21 := kt kp e21
             apply Z02 177 hE k rfl rfl rfl rfl
             case h =>
              simp [go_sem, ↓IntWalk.iteOmega, ev (hE.g e23)]
              with_reducible rfl
             intro a234 hE e177 kp
             replace e21 := kt kp e21; replace e176 := kt kp e176
             apply Z02 178 hE k rfl rfl rfl rfl
             case h =>
              have q0 : w220.cell? ⟨yb, 1, none⟩ = some (.slice By ys.length cy) := (OwnT.blk O 0 rfl).cell 1
              simp [go_sem, ↓IntWalk.iteOmega, ev e177, q0]
              with_reducible rfl
             intro a235 hE e178 kp
             replace e21 := kt kp e21; replace e176 := kt kp e176
             refine sd 179 hE k (Z0i Try.underlying38 rfl e178) ?_
             intro a236 hE e179 kp
             replace e21 := kt kp e21; replace e176 := kt kp e176
             refine sd 180 hE k (Z0x rfl e176 e179 (by omega)) ?_
             intro a237 hE e180 kp
             replace e21 := kt kp e21
             replace e180 := e180.trans (Z0p (show (z2 : Int) + (ys.length : Int) = ((bs + sumL ((k2.take ((i1 + 1) + 1)).map (lenIn N2)) : Nat) : Int) by rw [hS2, hli, ← hz2]; omega))
             refine sd 21 hE k (Z00 rfl e180) ?_
             intro a238 hE e21 kp
             refine wpList_nil ?_
             replace e7 := hE.g e7; replace e18 := hE.g e18; replace e20 := hE.g e20; replace e22 := hE.g e22
             replace k := k.env hE
             clear hE e23 e175
             refine Z0s ?_
             refine Z01 ?_
             refine wp_region_lit ?_
             have hE := Env.refl a238 [136, 137, 22]
             refine sd 136 hE k (Z03 rfl e22) ?_
             intro a239 hE e136 kp
             replace e22 := kt kp e22
             refine sd 137 hE k (Z0x rfl e136 rfl (by omega)) ?_
             intro a240 hE e137 kp
             replace e22 := kt kp e22
             refine sd 22 hE k (Z00 rfl e137) ?_
             intro a241 hE e22 kp
             refine wpList_nil ?_
             replace e7 := hE.g e7; replace e18 := hE.g e18; replace e20 := hE.g e20; replace e21 := hE.g e21
             replace k := k.env hE
             clear hE
             refine Z01 ?_
             refine ⟨⟨k, e7, e18, (i1 + 1) + 1, e20, e21, e22, by omega, OwnT.pickR (L := [_, _, _, _, _, _]) (R := []) O [2, 3, 4, 5] (by decide)⟩, ?_⟩
             rw [e22, mi]; simp only [intOf]; omega
       · obtain rfl : i = rl.length := by omega
         clear mi
         rw [List.take_length] at e20
         rw [hrll, List.take_length] at e21
         refine wp_seq ?_
         refine wp_seq ?_
         refine wp_region_lit ?_
         have hE := Env.refl a154 [132, 133, 134, 135]
         refine zm 132 hE k e22 ?_
         intro a242 hE e132 kp
         refine zm 133 hE k e18 ?_
         intro a243 hE e133 kp
         replace e132 := kt kp e132
         refine sd 134 hE k (Z0i Try.underlying45 rfl e133) ?_
         intro a244 hE e134 kp
         replace e132 := kt kp e132
         refine sd 135 hE k (Z05 (Z17 rfl e132 e134) (decide_eq_false (by omega))) ?_
         intro a245 hE e135 kp
         refine wpList_nil ?_
         replace e7 := hE.g e7; replace e18 := hE.g e18; replace e20 := hE.g e20; replace e21 := hE.g e21; replace e22 := hE.g e22
         replace k := k.env hE
         clear hE
         refine Z01 ?_
         refine Z06 e135 rfl ?_
         refine wp_exit ?_
         refine Z12 ?_
         refine Z12 ?_
         refine Z1o ?_
         refine Z01 (wp_seq ?_)
         refine wp_region_lit ?_
         have hE := Env.refl a245 [181, 182, 183, 6]
         refine zm 181 hE k e20 ?_
         intro a246 hE e181 kp
         refine zm 182 hE k e21 ?_
         intro a247 hE e182 kp
         replace e181 := kt kp e181
         refine sd 183 hE k (Z05 (Z0v rfl e181 e182) (decide_eq_true (by rw [hall, ← hbs]))) ?_
         intro a248 hE e183 kp
         refine sd 6 hE k (Z00 rfl e183) ?_
         intro a249 hE e6 kp
         refine wpList_nil ?_
         replace k := k.env hE
         clear hE e7 e18 e20 e21 e22 e135
         refine Z01 ?_
         refine wp_ret ?_
         refine Z0z rfl k e6 ?_
         exact ⟨rfl, O.below⟩
theorem reachShares_walk (w : World) (v0 v1 v2 : Value) (h0 : Arg Try.prog w 3 v0) (h1 : Arg Try.prog w 3 v1) (h2 : Arg Try.prog w 4 v2) :
 Calls Try.prog 4 #[v0, v1, v2] w fun e w' => e = .returned (.bool true) ∧ Below w.heap.size w w' := by
 obtain ⟨nn, rfl, _⟩ := arg_int Try.underlying3 h0
 obtain ⟨key, rfl, _⟩ := arg_int Try.underlying3 h1
 obtain ⟨dr, rfl⟩ := arg_bool Try.underlying4 h2
 exact Z4x nn key dr w
section
open Go.ChangeShapes Go.WideShapes Go.ChangeAt
theorem Arg.mk_ {P : Program} {w : World} {t : TypeId} {v : Value} {H : Type} {enc : TypeId × Value → H} {d : DataW H} {p : List MemPlace} {r : Reach} {base : Nat} (h : DataW.Trod enc P w 0 (fun _ => true) true t v d p) (hv : Value.okWide P w r base t v) : Arg P w t v := by
  obtain ⟨fuel, hf⟩ := h
  exact ⟨⟨H, enc, fuel, _, hf⟩, r, base, hv⟩
end
end Go.Proofs.Ytdeocidlkpbhcaa
