/- store's law: StoreShadows (printed by XStK.gen.py). -/
import Derived.Test.YtakkhglbdljfiaaGreatDoorKStoreShadows41
namespace Go.Proofs.YtakkhglbdljfiaaGreatDoor
attribute [local simp] BigFrame.eval_const BigFrame.eval_global BigFrame.eval_func
set_option linter.unusedVariables false
set_option linter.unusedSimpArgs false
open Go.RowKit Go.Maps

abbrev sh06 : Hd := fmtHd 9 3 1
def sh0 : List Sec := fmS (List.replicate 320 zsec) noL sh06
theorem sh0_len : sh0.length = 320 := by unfold sh0; rw [fm_len]; exact List.length_replicate
theorem sh0_heads : HeadsAt sh0 sh06 0 := heads_fm (by rw [List.length_replicate]; decide) (by decide)
theorem sh06_next {c : Int} (h1 : 0 ≤ c) (h2 : c < 512) : (nextHd sh06 c).Ok := by
 show HeadOk (1 + 1) c 9 3 1
 exact ⟨by decide, by decide, by decide, by decide, by decide, by decide, h1, h2, by decide, by decide⟩
theorem pgs320 : pgs 320 = 20 := by decide

set_option maxRecDepth 100000 in
set_option maxHeartbeats 8000000 in
theorem Z3h {A : Option Addr} {n2 c2 : Nat} (x : Int) (bs : List Bool) (W0 : World) (hl2 : bs.length = n2) (hrow2 : Row1 W0 A Value.bool bs) : Calls Tryz.prog 6 #[.int .i64 x, .slice A n2 c2] W0 fun e w' => e = .returned (.bool true) ∧ Below W0.heap.size W0 w' := by
 have O := OwnT.start W0
 refine Z0c Tryz.func6 rfl 162 rfl (by rfl) ?_
 intro a1 k hargs
 have e0 : a1.eval (.tmp 0) = .int .i64 x := hargs 0 _ rfl
 have e1 : a1.eval (.tmp 1) = .slice A n2 c2 := hargs 1 _ rfl
 clear hargs
 refine wp_seq ?_
 refine wp_region_lit ?_
 have hE := Env.refl a1 [4]
 refine sd 4 hE k (Z01 rfl rfl) ?_
 intro a2 hE e4 kp
 refine wpList_nil ?_
 replace e0 := hE.g e0; replace e1 := hE.g e1
 replace k := k.env hE
 clear hE e4
 refine Z00 (wp_seq ?_)
 refine wp_seq ?_
 refine wp_region_lit ?_
 have hE := Env.refl a2 [21, 22]
 apply Z06 21 hE k rfl (by rfl) (by rfl) rfl
 case h =>
  simp [go_sem, ↓IntWalk.iteOmega]
  with_reducible exact ⟨rfl, rfl⟩
 case hc => exact awake07 _
 rintro e w4 ⟨rfl, RE⟩
 replace O := OwnT.ext O RE
 refine ⟨_, rfl, ?_⟩
 intro a3 hE e21 kp
 refine sd 22 hE k (Z21 rfl e21) ?_
 intro a5 hE e22 kp
 refine wpList_nil ?_
 replace e0 := hE.g e0; replace e1 := hE.g e1
 replace k := k.env hE
 clear hE
 refine Z00 ?_
 refine Z07 e22 rfl ?_
 refine wp_skip ?_
 refine Z00 ?_
 by_cases hl : n2 ≤ 40
 rotate_left
 · skip
   refine wp_seq ?_
   refine wp_seq ?_
   refine wp_region_lit ?_
   have hE := Env.refl a5 [23, 24, 25]
   refine zm 23 hE k e1 ?_
   intro a6 hE e23 kp
   refine sd 24 hE k (Z2r Tryz.underlying59 rfl e23) ?_
   intro a7 hE e24 kp
   refine sd 25 hE k (Z08 (x_gtr rfl e24 rfl) (decide_eq_true (by omega))) ?_
   intro a8 hE e25 kp
   refine wpList_nil ?_
   replace e0 := hE.g e0; replace e1 := hE.g e1
   replace k := k.env hE
   clear hE e22
   refine Z00 ?_
   refine Z0l e25 rfl ?_
   refine wp_seq ?_
   refine wp_region_lit ?_
   have hE := Env.refl a8 [4]
   refine sd 4 hE k (Z01 rfl rfl) ?_
   intro a9 hE e4 kp
   refine wpList_nil ?_
   replace k := k.env hE
   clear hE e0 e1 e25
   refine Z00 ?_
   refine wp_ret ?_
   refine Z0u ?_
   refine Z0i rfl k e4 ?_
   exact ⟨rfl, O.below⟩
 have hp20 := pgs320
 obtain ⟨n1, hn1⟩ : ∃ n, n = 1 + uN x % 10 := ⟨_, rfl⟩
 have hn1b : 1 ≤ n1 ∧ n1 ≤ 10 := by omega

 refine wp_seq ?_
 refine wp_seq ?_
 refine wp_region_lit ?_
 have hE := Env.refl a5 [23, 24, 25]
 refine zm 23 hE k e1 ?_
 intro a10 hE e23 kp
 refine sd 24 hE k (Z2r Tryz.underlying59 rfl e23) ?_
 intro a11 hE e24 kp
 refine sd 25 hE k (Z08 (x_gtr rfl e24 rfl) (decide_eq_false (by omega))) ?_
 intro a12 hE e25 kp
 refine wpList_nil ?_
 replace e0 := hE.g e0; replace e1 := hE.g e1
 replace k := k.env hE
 clear hE e22
 refine Z00 ?_
 refine Z07 e25 rfl ?_
 refine wp_skip ?_
 refine Z00 (wp_seq ?_)
 refine wp_region_lit ?_
 have hE := Env.refl a12 [26, 27, 5]
 apply Z06 26 hE k rfl (by rfl) (by rfl) rfl
 case h =>
  simp [go_sem, ↓IntWalk.iteOmega]
  with_reducible exact ⟨rfl, rfl⟩
 case hc => exact new_mn O
 clear O
 rintro e w14 ⟨mb, rfl, O⟩
 refine ⟨_, rfl, ?_⟩
 intro a13 hE e26 kp
 apply Z06 27 hE k rfl (by rfl) (by rfl) rfl
 case h =>
  simp [go_sem, ↓IntWalk.iteOmega, ev e26]
  with_reducible exact ⟨rfl, rfl⟩
 case hc => exact dnew_any 320 320 _ O (by decide)
 clear O
 rintro e w16 ⟨p, B, cap, bm, rfl, O⟩
 refine ⟨_, rfl, ?_⟩
 intro a15 hE e27 kp
 refine sd 5 hE k (Z01 rfl e27) ?_
 intro a17 hE e5 kp
 refine wpList_nil ?_
 replace e0 := hE.g e0; replace e1 := hE.g e1
 replace k := k.env hE
 clear hE e25
 refine Z00 (wp_seq ?_)
 refine wp_region_lit ?_
 have hE := Env.refl a17 [29, 30, 31, 28, 32, 33, 6, 7]
 refine zm 29 hE k e5 ?_
 intro a18 hE e29 kp
 apply Z06 30 hE k rfl (by rfl) (by rfl) rfl
 case h =>
  simp [go_sem, ↓IntWalk.iteOmega]
  with_reducible exact ⟨rfl, rfl⟩
 case hc => exact Z6a _
 rintro e w20 ⟨rfl, RE⟩
 replace O := OwnT.ext O RE
 refine ⟨_, rfl, ?_⟩
 intro a19 hE e30 kp
 replace e29 := kt kp e29
 apply Z06 31 hE k rfl (by rfl) (by rfl) rfl
 case h =>
  simp [go_sem, ↓IntWalk.iteOmega, ev e29, ev e30]
  with_reducible exact ⟨rfl, rfl⟩
 case hc => exact Z3s 9 3 1 _ O (by decide) (by decide) mn0_ok (by decide) mn0_free
 clear O
 rintro e w22 ⟨j0, sb, kb, fb, hj0, rfl, O⟩
 refine ⟨_, rfl, ?_⟩
 intro a21 hE e31 kp
 refine sd 28 hE k (Z03 rfl e31) ?_
 intro a23 hE e28 kp
 apply Z02 32 hE k rfl rfl rfl rfl
 case h =>
  simp [go_sem, ↓IntWalk.iteOmega, ev e28]
  with_reducible rfl
 intro a24 hE e32 kp
 replace e28 := kt kp e28
 apply Z02 33 hE k rfl rfl rfl rfl
 case h =>
  simp [go_sem, ↓IntWalk.iteOmega, ev e28]
  with_reducible rfl
 intro a25 hE e33 kp
 replace e32 := kt kp e32
 refine sd 6 hE k (Z01 rfl e32) ?_
 intro a26 hE e6 kp
 replace e33 := kt kp e33
 refine sd 7 hE k (Z01 rfl e33) ?_
 intro a27 hE e7 kp
 replace e6 := kt kp e6
 refine wpList_nil ?_
 replace e0 := hE.g e0; replace e1 := hE.g e1; replace e5 := hE.g e5
 replace k := k.env hE
 clear hE
 refine Z00 (wp_seq ?_)
 refine wp_seq ?_
 refine wp_region_lit ?_
 have hE := Env.refl a27 [34, 35]
 refine zm 34 hE k e7 ?_
 intro a28 hE e34 kp
 refine sd 35 hE k (Z08 (Z0s rfl e34 rfl) (decide_eq_false (by omega))) ?_
 intro a29 hE e35 kp
 refine wpList_nil ?_
 replace e0 := hE.g e0; replace e1 := hE.g e1; replace e5 := hE.g e5; replace e6 := hE.g e6
 replace k := k.env hE
 clear hE e7
 refine Z00 ?_
 refine Z07 e35 rfl ?_
 refine wp_skip ?_
 refine Z00 (wp_seq ?_)
 refine wp_region_lit ?_
 have hE := Env.refl a29 [36, 37, 38, 39, 40, 8]
 refine zm 36 hE k e0 ?_
 intro a30 hE e36 kp
 refine sd 37 hE k (Z65 rfl e36 (conv_uint x _)) ?_
 intro a31 hE e37 kp
 refine sd 38 hE k (x_remU (m := uN x) (j := 10) rfl e37 rfl rfl (by decide)) ?_
 intro a32 hE e38 kp
 refine sd 39 hE k (Z65 rfl e38 (conv_int _ _ (by omega))) ?_
 intro a33 hE e39 kp
 refine sd 40 hE k (Z1v rfl rfl e39 (by omega)) ?_
 intro a34 hE e40 kp
 replace e40 := e40.trans (Z18 (show (1 : Int) + ((uN x % 10 : Nat) : Int) = (n1 : Int) by omega))
 refine sd 8 hE k (Z01 rfl e40) ?_
 intro a35 hE e8 kp
 refine wpList_nil ?_
 replace e1 := hE.g e1; replace e5 := hE.g e5; replace e6 := hE.g e6
 replace k := k.env hE
 clear hE e0 e35
 refine Z00 (wp_seq ?_)
 refine wp_region_lit ?_
 have hE := Env.refl a35 [41, 9]
 refine Z4a (m := 0) (c := 0) O (cs := #[]) (t := 3) 41 hE k rfl (by rfl) (by rfl) rfl (by simp [go_sem, ↓IntWalk.iteOmega]) ?_
 clear O
 intro g0 a36 w37 O hE e41 kp
 refine sd 9 hE k (Z01 rfl e41) ?_
 intro a38 hE e9 kp
 refine wpList_nil ?_
 replace e1 := hE.g e1; replace e5 := hE.g e5; replace e6 := hE.g e6; replace e8 := hE.g e8
 replace k := k.env hE
 clear hE
 refine Z00 ?_
 replace O := OwnT.asRowE (k := 1) O
 refine wp_seq ?_
 refine wp_seq ?_
 refine wp_region_lit ?_
 have hE := Env.refl a38 [10]
 refine sd 10 hE k (Z01 rfl rfl) ?_
 intro a39 hE e10 kp
 refine wpList_nil ?_
 replace e1 := hE.g e1; replace e5 := hE.g e5; replace e6 := hE.g e6; replace e8 := hE.g e8; replace e9 := hE.g e9
 replace k := k.env hE
 clear hE
 refine Z00 ?_
 refine wp_block ?_
 have ok0 := Z83 (P := pgs 320) (by decide)
 refine wp_loop (fun a w => Fr 162 a ∧ a.eval (.tmp 1) = .slice A n2 c2 ∧ a.eval (.tmp 5) = .pointer (some ⟨p, 0, none⟩) ∧ a.eval (.tmp 6) = .pointer (some ⟨sb, 0, none⟩) ∧ a.eval (.tmp 8) = .int .i64 ↑n1 ∧ ∃ (ps : List Int) (F : Int → Option Nd) (m : Int → Option Value) (vs : List Value) (N : List Nd) (Bp : Option Addr) (cp : Nat), a.eval (.tmp 9) = .slice Bp ps.length cp ∧ a.eval (.tmp 10) = .int .i64 ↑ps.length ∧ ps.length ≤ n1 ∧ StOk (pgs 320) (fun _ => false) F vs N m ∧ Adds (pgs 320) (fun _ => false) F ps (fun j => (j : Int)) ∧ OwnT W0.heap.size W0 ([tRow 3 1 (.slice Bp ps.length cp) ps.length (intsV ps), tBlk sb 102 (stB p sh06 0 kb fb), tMap kb 512 (keptV ((fun _ => false))), tMap fb 512 m, tPool vs N, tDisc p mb B 320 cap bm sh0 noL, tMn mb (mn0.useN j0)]) w) (fun a w => n1 - (intOf (a.eval (.tmp 10))).toNat) ?_ ?_
 · exact ⟨k, e1, e5, e6, e8, [], _, _, _, _, _, _, e9, e10, Nat.zero_le _, ok0, Adds.nil _ _ _, O⟩
 intro a40 w41 hI
 clear k e1 e5 e6 e8
 obtain ⟨k, e1, e5, e6, e8, h_⟩ := hI
 clear O e9 e10
 obtain ⟨ps, F, m, vs, N, Bp, cp, e9, e10, hpl, ok, hA, O⟩ := h_
 have mi := e10
 by_cases hlt : ps.length < n1
 · have hltI : (ps.length : Int) < (n1 : Int) := by omega
   have hnf : ¬ NoFree (pgs 320) (fun _ => false) F := fun h => by
    have := (ok.apart hA.apart).full (by decide) h
    rw [kL_no, hA.len] at this
    rw [List.length_nil] at this
    omega

   refine wp_seq ?_
   refine wp_seq ?_
   refine wp_region_lit ?_
   have hE := Env.refl a40 [42, 43, 44]
   refine zm 42 hE k e10 ?_
   intro a42 hE e42 kp
   refine zm 43 hE k e8 ?_
   intro a43 hE e43 kp
   replace e42 := kt kp e42
   refine sd 44 hE k (Z08 (Z1j rfl e42 e43) (decide_eq_true (by omega))) ?_
   intro a44 hE e44 kp
   refine wpList_nil ?_
   replace e1 := hE.g e1; replace e5 := hE.g e5; replace e6 := hE.g e6; replace e8 := hE.g e8; replace e9 := hE.g e9; replace e10 := hE.g e10
   replace k := k.env hE
   clear hE
   refine Z00 ?_
   refine Z0l e44 rfl ?_
   refine wp_skip ?_
   refine Z00 (wp_seq ?_)
   refine wp_block ?_
   replace O : OwnT _ _ ([tBlk sb 102 (stB p sh06 0 kb fb), tMap kb 512 (keptV ((fun _ => false))), tMap fb 512 m, tPool vs N, tDisc p mb B 320 cap bm sh0 noL, tMn mb (mn0.useN j0), tRow 3 1 (.slice Bp ps.length cp) ps.length (intsV ps)]) w41 := OwnT.pick O [1, 2, 3, 4, 5, 6, 0] (by decide)
   refine wp_seq ?_
   refine wp_region_lit ?_
   have hE := Env.refl a44 [48, 49, 50, 51, 47, 52, 53, 11, 12]
   refine zm 48 hE k e6 ?_
   intro a45 hE e48 kp
   refine zm 49 hE k e10 ?_
   intro a46 hE e49 kp
   replace e48 := kt kp e48
   apply Z06 50 hE k rfl (by rfl) (by rfl) rfl
   case h =>
    simp [go_sem, ↓IntWalk.iteOmega, ev e49]
    with_reducible exact ⟨rfl, rfl⟩
   case hc => exact Z2j ↑ps.length _
   rintro e w48 ⟨g, rfl, hrow, RE⟩
   replace O := OwnT.ext O RE
   refine ⟨_, rfl, ?_⟩
   intro a47 hE e50 kp
   replace e48 := kt kp e48
   apply Z06 51 hE k rfl (by rfl) (by rfl) rfl
   case h =>
    simp [go_sem, ↓IntWalk.iteOmega, ev e48, ev e50]
    with_reducible exact ⟨rfl, rfl⟩
   case hc => exact sadd_free ↑ps.length _ O ok hrow hnf
   clear O
   rintro e w50 ⟨d, m', vs', N', rfl, hd, O, ok'⟩
   clear hrow
   refine ⟨_, rfl, ?_⟩
   intro a49 hE e51 kp
   refine sd 47 hE k (Z03 rfl e51) ?_
   intro a51 hE e47 kp
   apply Z02 52 hE k rfl rfl rfl rfl
   case h =>
    simp [go_sem, ↓IntWalk.iteOmega, ev e47]
    with_reducible rfl
   intro a52 hE e52 kp
   replace e47 := kt kp e47
   apply Z02 53 hE k rfl rfl rfl rfl
   case h =>
    simp [go_sem, ↓IntWalk.iteOmega, ev e47]
    with_reducible rfl
   intro a53 hE e53 kp
   replace e52 := kt kp e52
   refine sd 11 hE k (Z01 rfl e52) ?_
   intro a54 hE e11 kp
   replace e53 := kt kp e53
   refine sd 12 hE k (Z01 rfl e53) ?_
   intro a55 hE e12 kp
   replace e11 := kt kp e11
   refine wpList_nil ?_
   replace e1 := hE.g e1; replace e5 := hE.g e5; replace e6 := hE.g e6; replace e8 := hE.g e8; replace e9 := hE.g e9; replace e10 := hE.g e10
   replace k := k.env hE
   clear hE e44
   refine Z00 (wp_seq ?_)
   refine wp_seq ?_
   refine wp_region_lit ?_
   have hE := Env.refl a55 [54, 55]
   refine zm 54 hE k e12 ?_
   intro a56 hE e54 kp
   refine sd 55 hE k (Z08 (Z0s rfl e54 rfl) (decide_eq_false (by omega))) ?_
   intro a57 hE e55 kp
   refine wpList_nil ?_
   replace e1 := hE.g e1; replace e5 := hE.g e5; replace e6 := hE.g e6; replace e8 := hE.g e8; replace e9 := hE.g e9; replace e10 := hE.g e10; replace e11 := hE.g e11
   replace k := k.env hE
   clear hE e12
   refine Z00 ?_
   refine Z07 e55 rfl ?_
   refine wp_skip ?_
   refine Z00 ?_
   replace O : OwnT _ _ ([tRow 3 1 (.slice Bp ps.length cp) ps.length (intsV ps), tBlk sb 102 (stB p sh06 0 kb fb), tMap kb 512 (keptV ((fun _ => false))), tMap fb 512 m', tPool vs' N', tDisc p mb B 320 cap bm sh0 noL, tMn mb (mn0.useN j0)]) w50 := OwnT.pick O [6, 0, 1, 2, 3, 4, 5] (by decide)
   refine wp_region_lit ?_
   have hE := Env.refl a57 [56, 57, 58, 59, 9]
   refine sd 56 hE k (Z03 rfl e9) ?_
   intro a58 hE e56 kp
   replace e9 := kt kp e9
   refine zm 57 hE k e11 ?_
   intro a59 hE e57 kp
   replace e9 := kt kp e9; replace e56 := kt kp e56
   refine Z4a (m := 1) (c := 1) O (cs := #[.int .i64 ↑d]) (t := 3) 58 hE k rfl (by rfl) (by rfl) rfl (by simp [go_sem, ↓IntWalk.iteOmega, ev e57]) ?_
   clear O
   intro g7 a60 w61 O hE e58 kp
   replace e9 := kt kp e9; replace e56 := kt kp e56
   obtain ⟨gr, cr2, w62, hrun, O⟩ := app_seq O elemI8 (by decide) rfl (by intro u hu; simp at hu; subst hu; rfl) (by unfold maxLen; omega) (by omega)
   apply Z1y 59 hE k rfl (by rfl) (by rfl) rfl
   case h => exact Z7z rfl e56 e58 (hrun _)
   clear hrun
   intro a63 hE e59 kp
   replace e9 := kt kp e9
   refine sd 9 hE k (Z01 rfl e59) ?_
   intro a64 hE e9 kp
   refine wpList_nil ?_
   replace e1 := hE.g e1; replace e5 := hE.g e5; replace e6 := hE.g e6; replace e8 := hE.g e8; replace e10 := hE.g e10
   replace k := k.env hE
   clear hE e11 e55
   refine Z0n ?_
   refine Z00 ?_
   refine wp_region_lit ?_
   have hE := Env.refl a64 [45, 46, 10]
   refine sd 45 hE k (Z03 rfl e10) ?_
   intro a65 hE e45 kp
   replace e10 := kt kp e10
   refine sd 46 hE k (Z1v rfl e45 rfl (by omega)) ?_
   intro a66 hE e46 kp
   replace e10 := kt kp e10
   refine sd 10 hE k (Z01 rfl e46) ?_
   intro a67 hE e10 kp
   refine wpList_nil ?_
   replace e1 := hE.g e1; replace e5 := hE.g e5; replace e6 := hE.g e6; replace e8 := hE.g e8; replace e9 := hE.g e9
   replace k := k.env hE
   clear hE
   refine Z00 ?_
   rw [← intsV_app] at O
   refine ⟨⟨k, e1, e5, e6, e8, ps ++ [(d : Int)], _, m', vs', N', some ⟨gr, 0, none⟩, cr2, ?_, ?_, ?_, ok', hA.put hd, ?_⟩, ?_⟩
   · rw [List.length_append]; exact e9
   · rw [List.length_append]; exact e10
   · rw [List.length_append]; simp only [List.length_cons, List.length_nil]; omega
   · rw [List.length_append]; exact O
   · rw [e10, mi]; simp only [intOf]; omega
 · obtain hpn : ps.length = n1 := by omega
   clear mi
   obtain ⟨c0, hc0⟩ : ∃ c, ps[0]? = some c := ⟨_, List.getElem?_eq_getElem (by omega)⟩
   have hm0 := List.mem_of_getElem? hc0
   obtain ⟨-, hc01, hc02⟩ := hA.free c0 hm0
   obtain ⟨gp, rfl, d0⟩ := row1_at (OwnT.get O 0 rfl) (Z62 hc0) (by omega)
   have hok := sh06_next (c := c0) (by omega) (by omega)

   replace O : OwnT _ _ ([tRow 3 1 (.slice (some ⟨gp, 0, none⟩) ps.length cp) ps.length (intsV ps), tBlk sb 102 (stB p sh06 0 kb fb), tMap kb 512 (keptV ((fun _ => false))), tMap fb 512 m, tPool vs N, tDisc p mb B 320 cap bm sh0 noL, tMn mb (mn0.useN j0)]) w41 := O
   refine wp_seq ?_
   refine wp_seq ?_
   refine wp_region_lit ?_
   have hE := Env.refl a40 [42, 43, 44]
   refine zm 42 hE k e10 ?_
   intro a68 hE e42 kp
   refine zm 43 hE k e8 ?_
   intro a69 hE e43 kp
   replace e42 := kt kp e42
   refine sd 44 hE k (Z08 (Z1j rfl e42 e43) (decide_eq_false (by omega))) ?_
   intro a70 hE e44 kp
   refine wpList_nil ?_
   replace e1 := hE.g e1; replace e5 := hE.g e5; replace e6 := hE.g e6; replace e8 := hE.g e8; replace e9 := hE.g e9; replace e10 := hE.g e10
   replace k := k.env hE
   clear hE
   refine Z00 ?_
   refine Z07 e44 rfl ?_
   refine wp_exit ?_
   refine Z0p ?_
   refine Z0p ?_
   refine Z0z ?_
   refine Z00 (wp_seq ?_)
   refine wp_seq ?_
   refine wp_region_lit ?_
   have hE := Env.refl a70 [60, 61, 62, 63, 64, 65, 66]
   refine zm 60 hE k e6 ?_
   intro a71 hE e60 kp
   refine zm 61 hE k e9 ?_
   intro a72 hE e61 kp
   replace e60 := kt kp e60
   apply Z02 62 hE k rfl rfl rfl rfl
   case h =>
    simp [go_sem, ↓IntWalk.iteOmega, ev e61]
    with_reducible rfl
   intro a73 hE e62 kp
   replace e60 := kt kp e60
   apply Z02 63 hE k rfl rfl rfl rfl
   case h =>
    simp [go_sem, ↓IntWalk.iteOmega, ev e62, d0]
    with_reducible rfl
   intro a74 hE e63 kp
   replace e60 := kt kp e60
   refine zm 64 hE k e9 ?_
   intro a75 hE e64 kp
   replace e60 := kt kp e60; replace e63 := kt kp e63
   apply Z06 65 hE k rfl (by rfl) (by rfl) rfl
   case h =>
    simp [go_sem, ↓IntWalk.iteOmega, ev e60, ev e63, ev e64]
    with_reducible exact ⟨rfl, rfl⟩
   case hc => exact Z54 (o := 0) (R := [tRow 3 1 (.slice (some ⟨gp, 0, none⟩) ps.length cp) ps.length (intsV ps)]) (xs := ps) c0 _ (OwnT.pick O [1, 2, 3, 4, 5, 6, 0] (by decide)) ok (fun W OW => row1_own OW.t0 rfl) (by omega) sh0_heads (by decide) (mn0_ok.useN j0) (by omega) hok hA.lost (.inr hm0) (mn0_free.useN j0)
   clear O
   rintro e w77 ⟨j2, m1, rfl, hj2, O, ok1, hh1⟩
   refine ⟨_, rfl, ?_⟩
   intro a76 hE e65 kp
   refine sd 66 hE k (Z0s rfl e65 rfl) ?_
   intro a78 hE e66 kp
   refine wpList_nil ?_
   replace e1 := hE.g e1; replace e5 := hE.g e5; replace e6 := hE.g e6; replace e8 := hE.g e8; replace e9 := hE.g e9
   replace k := k.env hE
   clear hE e10 e44
   refine Z00 ?_
   refine Z07 e66 rfl ?_
   refine wp_skip ?_
   refine Z00 ?_
   have hpg : ∀ (j : Nat) c, ps[j]? = some c → pgS (cmS sh0 F (todo (pgs 320) F ps) (1 - 0) (hdB (nextHd sh06 c0))) c.toNat = pgB (node (j : Int)) := fun j c hj => hA.page (by rw [sh0_len, hp20]; decide) (by decide) hj
   have hkl := hA.kept
   have hin : ∀ c ∈ ps, inP (pgs 320) ps c = true := fun c hc => decide_eq_true ⟨hc, (hA.free c hc).2⟩
   have haw := ((mn0_free.useN j0).useN j2).1
   obtain ⟨S1, hS1⟩ : ∃ z, cmS sh0 F (todo (pgs 320) F ps) (1 - 0) (hdB (nextHd sh06 c0)) = z := ⟨_, rfl⟩
   obtain ⟨K1, hK1⟩ : ∃ z, inP (pgs 320) ps = z := ⟨_, rfl⟩
   obtain ⟨M1, hM1⟩ : ∃ z, (mn0.useN j0).useN j2 = z := ⟨_, rfl⟩
   obtain ⟨h1, hh⟩ : ∃ z, nextHd sh06 c0 = z := ⟨_, rfl⟩
   rw [hS1] at hpg O
   rw [hK1] at hkl hin O ok1
   rw [hM1] at O haw
   rw [hh] at O
   clear hS1 hK1 hM1 hh hok ok hh1 d0

   refine wp_seq ?_
   refine wp_region_lit ?_
   have hE := Env.refl a78 [67, 68, 13]
   refine zm 67 hE k e5 ?_
   intro a79 hE e67 kp
   apply Z06 68 hE k rfl (by rfl) (by rfl) rfl
   case h =>
    simp [go_sem, ↓IntWalk.iteOmega, ev e67]
    with_reducible exact ⟨rfl, rfl⟩
   case hc => exact Z5g _ (OwnT.disc (OwnT.pull O 4 rfl))
   rintro e w81 ⟨rfl, RE⟩
   replace O := OwnT.ext O RE
   refine ⟨_, rfl, ?_⟩
   intro a80 hE e68 kp
   refine sd 13 hE k (Z01 rfl e68) ?_
   intro a82 hE e13 kp
   refine wpList_nil ?_
   replace e1 := hE.g e1; replace e5 := hE.g e5; replace e6 := hE.g e6; replace e8 := hE.g e8; replace e9 := hE.g e9
   replace k := k.env hE
   clear hE e66
   refine Z00 (wp_seq ?_)
   refine wp_seq ?_
   refine wp_region_lit ?_
   have hE := Env.refl a82 [14]
   refine sd 14 hE k (Z01 rfl rfl) ?_
   intro a83 hE e14 kp
   refine wpList_nil ?_
   replace e1 := hE.g e1; replace e5 := hE.g e5; replace e6 := hE.g e6; replace e8 := hE.g e8; replace e9 := hE.g e9; replace e13 := hE.g e13
   replace k := k.env hE
   clear hE
   refine Z00 ?_
   refine wp_block ?_
   have hap1 : ∀ c, K1 c = true → (fun _ => none : Int → Option Nd) c = none := fun c _ => rfl
   refine wp_loop (fun a w => Fr 162 a ∧ a.eval (.tmp 1) = .slice A n2 c2 ∧ a.eval (.tmp 5) = .pointer (some ⟨p, 0, none⟩) ∧ a.eval (.tmp 6) = .pointer (some ⟨sb, 0, none⟩) ∧ a.eval (.tmp 8) = .int .i64 ↑n1 ∧ a.eval (.tmp 9) = .slice (some ⟨gp, 0, none⟩) ps.length cp ∧ a.eval (.tmp 13) = .string (sB S1.flatten) ∧ ∃ (i : Nat) (F : Int → Option Nd) (m : Int → Option Value) (vs : List Value) (N : List Nd), a.eval (.tmp 14) = .int .i64 ↑i ∧ i ≤ n2 ∧ StOk (pgs 320) K1 F vs N m ∧ (∀ c, K1 c = true → F c = none) ∧ OwnT W0.heap.size W0 ([tBlk sb 102 (stB p h1 1 kb fb), tMap kb 512 (keptV K1), tMap fb 512 m, tPool vs N, tDisc p mb B 320 cap bm S1 noL, tMn mb M1, tRow 3 1 (.slice (some ⟨gp, 0, none⟩) ps.length cp) ps.length (intsV ps)]) w) (fun a w => n2 - (intOf (a.eval (.tmp 14))).toNat) ?_ ?_
   · exact ⟨k, e1, e5, e6, e8, e9, e13, 0, _, _, _, _, e14, Nat.zero_le _, ok1, hap1, O⟩
   intro a84 w85 hI
   clear k e1 e5 e6 e8 e9 e13
   obtain ⟨k, e1, e5, e6, e8, e9, e13, h_⟩ := hI
   clear O e14 ok1 hap1 hA F
   obtain ⟨i, F, m, vs, N, e14, hi, ok, hap, O⟩ := h_
   have mi := e14
   by_cases hlt : i < n2
   · have hltI : (i : Int) < (n2 : Int) := by omega
     obtain ⟨y, hy⟩ : ∃ y, bs[i]? = some y := ⟨_, List.getElem?_eq_getElem (by omega)⟩
     obtain ⟨b2, o2, rfl, -⟩ := row1B hrow2 O.below hy
     obtain ⟨nq, hnq⟩ : ∃ z : Int, (1000 : Int) + (i : Int) = z := ⟨_, rfl⟩

     refine wp_seq ?_
     refine wp_seq ?_
     refine wp_region_lit ?_
     have hE := Env.refl a84 [69, 70, 71, 72]
     refine zm 69 hE k e14 ?_
     intro a86 hE e69 kp
     refine zm 70 hE k e1 ?_
     intro a87 hE e70 kp
     replace e69 := kt kp e69
     refine sd 71 hE k (Z2r Tryz.underlying59 rfl e70) ?_
     intro a88 hE e71 kp
     replace e69 := kt kp e69
     refine sd 72 hE k (Z08 (Z1j rfl e69 e71) (decide_eq_true (by omega))) ?_
     intro a89 hE e72 kp
     refine wpList_nil ?_
     replace e1 := hE.g e1; replace e5 := hE.g e5; replace e6 := hE.g e6; replace e8 := hE.g e8; replace e9 := hE.g e9; replace e13 := hE.g e13; replace e14 := hE.g e14
     replace k := k.env hE
     clear hE
     refine Z00 ?_
     refine Z0l e72 rfl ?_
     refine wp_skip ?_
     refine Z00 (wp_seq ?_)
     refine wp_block ?_
     refine wp_seq ?_
     refine wp_region_lit ?_
     have hE := Env.refl a89 [76, 77, 78, 79, 80, 75, 81, 82, 15, 16]
     refine zm 76 hE k e6 ?_
     intro a90 hE e76 kp
     refine zm 77 hE k e14 ?_
     intro a91 hE e77 kp
     replace e76 := kt kp e76
     refine sd 78 hE k (Z1v rfl rfl e77 (by omega)) ?_
     intro a92 hE e78 kp
     replace e76 := kt kp e76
     replace e78 := e78.trans (Z18 hnq)
     apply Z06 79 hE k rfl (by rfl) (by rfl) rfl
     case h =>
      simp [go_sem, ↓IntWalk.iteOmega, ev e78]
      with_reducible exact ⟨rfl, rfl⟩
     case hc => exact Z2j nq _
     rintro e w94 ⟨g, rfl, hrow, RE⟩
     replace O := OwnT.ext O RE
     refine ⟨_, rfl, ?_⟩
     intro a93 hE e79 kp
     replace e76 := kt kp e76
     apply Z06 80 hE k rfl (by rfl) (by rfl) rfl
     case h =>
      simp [go_sem, ↓IntWalk.iteOmega, ev e76, ev e79]
      with_reducible exact ⟨rfl, rfl⟩
     case hc => exact sadd_two nq _ O ok hrow
     clear O
     rintro e w96 ⟨cA, ef, F', m', vs', N', rfl, O, ok', hX⟩
     clear hrow
     refine ⟨_, rfl, ?_⟩
     intro a95 hE e80 kp
     refine sd 75 hE k (Z03 rfl e80) ?_
     intro a97 hE e75 kp
     apply Z02 81 hE k rfl rfl rfl rfl
     case h =>
      simp [go_sem, ↓IntWalk.iteOmega, ev e75]
      with_reducible rfl
     intro a98 hE e81 kp
     replace e75 := kt kp e75
     apply Z02 82 hE k rfl rfl rfl rfl
     case h =>
      simp [go_sem, ↓IntWalk.iteOmega, ev e75]
      with_reducible rfl
     intro a99 hE e82 kp
     replace e81 := kt kp e81
     refine sd 15 hE k (Z01 rfl e81) ?_
     intro a100 hE e15 kp
     replace e82 := kt kp e82
     refine sd 16 hE k (Z01 rfl e82) ?_
     intro a101 hE e16 kp
     replace e15 := kt kp e15
     refine wpList_nil ?_
     replace e1 := hE.g e1; replace e5 := hE.g e5; replace e6 := hE.g e6; replace e8 := hE.g e8; replace e9 := hE.g e9; replace e13 := hE.g e13; replace e14 := hE.g e14
     replace k := k.env hE
     clear hE e72
     refine Z00 ?_
     have hap' : ∀ c, K1 c = true → F' c = none := fun c hc => by
      rcases hX with ⟨d, -, -, hd, rfl⟩ | ⟨-, -, -, rfl⟩
      · have := (Z64 hd.2.2.1).2
        unfold putF
        rw [if_neg (fun e => by rw [e, this] at hc; cases hc)]
        exact hap c hc
      · exact hap c hc

     rcases hX with ⟨d, rfl, rfl, hd, -⟩ | ⟨rfl, rfl, hno, rfl⟩
     · have hdk := (Z64 hd.2.2.1).2
       refine wp_seq ?_
       refine wp_seq ?_
       refine wp_region_lit ?_
       have hE := Env.refl a101 [83, 84, 85, 86, 87, 88, 89, 90, 91, 92, 93, 94, 95, 96, 97]
       refine zm 83 hE k e16 ?_
       intro a102 hE e83 kp
       refine sd 84 hE k (Z08 (Z0s rfl e83 rfl) (decide_eq_false (by omega))) ?_
       intro a103 hE e84 kp
       refine sd 85 hE k (Z03 rfl e84) ?_
       intro a104 hE e85 kp
       refine Z05 86 hE k rfl (by rfl) (by rfl) rfl rfl (.inl e85) ?_
       intro a105 hE e86 kp
       replace e85 := kt kp e85
       refine Z05 87 hE k rfl (by rfl) (by rfl) rfl rfl (.inl e85) ?_
       intro a106 hE e87 kp
       replace e85 := kt kp e85
       refine sd 88 hE k (Z0g rfl e85 rfl) ?_
       intro a107 hE e88 kp
       refine sd 89 hE k (Z03 rfl e88) ?_
       intro a108 hE e89 kp
       apply Z04 90 hE k rfl rfl rfl rfl rfl e89
       case h =>
        exact Z03 rfl (hE.g e16)
       intro a109 hE e90 kp
       replace e89 := kt kp e89
       apply Z04 91 hE k rfl rfl rfl rfl rfl e89
       case h =>
        exact Z08 (Z28 rfl e90 rfl) (decide_eq_false (by omega))
       intro a110 hE e91 kp
       replace e89 := kt kp e89
       apply Z04 92 hE k rfl rfl rfl rfl rfl e89
       case h =>
        exact Z03 rfl e91
       intro a111 hE e92 kp
       replace e89 := kt kp e89
       refine Z05 93 hE k rfl (by rfl) (by rfl) rfl rfl (.inl e92) ?_
       intro a112 hE e93 kp
       replace e89 := kt kp e89; replace e92 := kt kp e92
       refine Z05 94 hE k rfl (by rfl) (by rfl) rfl rfl (.inl e92) ?_
       intro a113 hE e94 kp
       replace e89 := kt kp e89; replace e92 := kt kp e92
       refine Z05 95 hE k rfl (by rfl) (by rfl) rfl rfl (.inl e92) ?_
       intro a114 hE e95 kp
       replace e89 := kt kp e89; replace e92 := kt kp e92
       apply Z04 96 hE k rfl rfl rfl rfl rfl e89
       case h =>
        exact Z0g rfl e92 rfl
       intro a115 hE e96 kp
       replace e89 := kt kp e89
       refine sd 97 hE k (Z0g rfl e89 e96) ?_
       intro a116 hE e97 kp
       refine wpList_nil ?_
       replace e1 := hE.g e1; replace e5 := hE.g e5; replace e6 := hE.g e6; replace e8 := hE.g e8; replace e9 := hE.g e9; replace e13 := hE.g e13; replace e14 := hE.g e14; replace e15 := hE.g e15; replace e16 := hE.g e16
       replace k := k.env hE
       clear hE
       refine Z00 ?_
       refine Z07 e97 rfl ?_
       refine wp_skip ?_
       refine Z00 (wp_seq ?_)
       refine wp_seq ?_
       refine wp_region_lit ?_
       have hE := Env.refl a116 [17]
       refine sd 17 hE k (Z01 rfl rfl) ?_
       intro a117 hE e17 kp
       refine wpList_nil ?_
       replace e1 := hE.g e1; replace e5 := hE.g e5; replace e6 := hE.g e6; replace e8 := hE.g e8; replace e9 := hE.g e9; replace e13 := hE.g e13; replace e14 := hE.g e14; replace e15 := hE.g e15; replace e16 := hE.g e16
       replace k := k.env hE
       clear hE e97
       refine Z00 ?_
       refine wp_block ?_
       refine wp_loop (fun a w => Fr 162 a ∧ a.eval (.tmp 1) = .slice (some ⟨b2, o2, none⟩) n2 c2 ∧ a.eval (.tmp 5) = .pointer (some ⟨p, 0, none⟩) ∧ a.eval (.tmp 6) = .pointer (some ⟨sb, 0, none⟩) ∧ a.eval (.tmp 8) = .int .i64 ↑n1 ∧ a.eval (.tmp 9) = .slice (some ⟨gp, 0, none⟩) ps.length cp ∧ a.eval (.tmp 13) = .string (sB S1.flatten) ∧ a.eval (.tmp 14) = .int .i64 ↑i ∧ a.eval (.tmp 15) = .int .i64 ↑d ∧ a.eval (.tmp 16) = .int .i64 0 ∧ ∃ (z : Nat), a.eval (.tmp 17) = .int .i64 ↑z ∧ z ≤ n1 ∧ OwnT W0.heap.size W0 ([tBlk sb 102 (stB p h1 1 kb fb), tMap kb 512 (keptV K1), tMap fb 512 m', tPool vs' N', tDisc p mb B 320 cap bm S1 noL, tMn mb M1, tRow 3 1 (.slice (some ⟨gp, 0, none⟩) ps.length cp) ps.length (intsV ps)]) w) (fun a w => n1 - (intOf (a.eval (.tmp 17))).toNat) ?_ ?_
       · exact ⟨k, e1, e5, e6, e8, e9, e13, e14, e15, e16, 0, e17, Nat.zero_le _, O⟩
       intro a118 w119 hI
       clear k e1 e5 e6 e8 e9 e13 e14 e15 e16
       obtain ⟨k, e1, e5, e6, e8, e9, e13, e14, e15, e16, h_⟩ := hI
       clear O e17
       obtain ⟨z, e17, hz, O⟩ := h_
       have mz := e17
       by_cases hlz : z < n1
       · have hlzI : (z : Int) < (n1 : Int) := by omega
         obtain ⟨c, hc⟩ : ∃ c, ps[z]? = some c := ⟨_, List.getElem?_eq_getElem (by omega)⟩
         have hne : ¬ c = (d : Int) := fun e => by
          have h1 := hin c (List.mem_of_getElem? hc)
          rw [e, hdk] at h1
          cases h1
         have d2 := row1_gc (OwnT.get O 6 rfl) (Z62 hc) (by omega)

         refine wp_seq ?_
         refine wp_seq ?_
         refine wp_region_lit ?_
         have hE := Env.refl a118 [98, 99, 100, 101, 102, 103, 104]
         refine zm 98 hE k e17 ?_
         intro a120 hE e98 kp
         refine zm 99 hE k e8 ?_
         intro a121 hE e99 kp
         replace e98 := kt kp e98
         refine sd 100 hE k (Z08 (Z1j rfl e98 e99) (decide_eq_true (by omega))) ?_
         intro a122 hE e100 kp
         refine sd 101 hE k (Z03 rfl e100) ?_
         intro a123 hE e101 kp
         apply Z04 102 hE k rfl rfl rfl rfl rfl e101
         case h =>
          exact Z03 rfl (hE.g e16)
         intro a124 hE e102 kp
         replace e101 := kt kp e101
         apply Z04 103 hE k rfl rfl rfl rfl rfl e101
         case h =>
          exact Z08 (Z28 rfl e102 rfl) (decide_eq_true (by omega))
         intro a125 hE e103 kp
         replace e101 := kt kp e101
         refine sd 104 hE k (Z0d rfl e101 e103) ?_
         intro a126 hE e104 kp
         refine wpList_nil ?_
         replace e1 := hE.g e1; replace e5 := hE.g e5; replace e6 := hE.g e6; replace e8 := hE.g e8; replace e9 := hE.g e9; replace e13 := hE.g e13; replace e14 := hE.g e14; replace e15 := hE.g e15; replace e16 := hE.g e16; replace e17 := hE.g e17
         replace k := k.env hE
         clear hE
         refine Z00 ?_
         refine Z0l e104 rfl ?_
         refine wp_skip ?_
         refine Z00 (wp_seq ?_)
         refine wp_block ?_
         refine wp_seq ?_
         refine wp_region_lit ?_
         have hE := Env.refl a126 [107, 108, 109, 110, 111, 112]
         refine zm 107 hE k e9 ?_
         intro a127 hE e107 kp
         refine zm 108 hE k e17 ?_
         intro a128 hE e108 kp
         replace e107 := kt kp e107
         apply Z02 109 hE k rfl rfl rfl rfl
         case h =>
          simp [go_sem, ↓IntWalk.iteOmega, ev e107, ev e108]
          with_reducible rfl
         intro a129 hE e109 kp
         apply Z02 110 hE k rfl rfl rfl rfl
         case h =>
          simp [go_sem, ↓IntWalk.iteOmega, ev e109, d2]
          with_reducible rfl
         intro a130 hE e110 kp
         refine zm 111 hE k e15 ?_
         intro a131 hE e111 kp
         replace e110 := kt kp e110
         refine sd 112 hE k (Z08 (Z28 rfl e110 e111) (decide_eq_false hne)) ?_
         intro a132 hE e112 kp
         refine wpList_nil ?_
         replace e1 := hE.g e1; replace e5 := hE.g e5; replace e6 := hE.g e6; replace e8 := hE.g e8; replace e9 := hE.g e9; replace e13 := hE.g e13; replace e14 := hE.g e14; replace e15 := hE.g e15; replace e16 := hE.g e16; replace e17 := hE.g e17
         replace k := k.env hE
         clear hE e104
         refine Z00 ?_
         refine Z07 e112 rfl ?_
         refine wp_skip ?_
         refine Z0n ?_
         refine Z00 ?_
         refine wp_region_lit ?_
         have hE := Env.refl a132 [105, 106, 17]
         refine sd 105 hE k (Z03 rfl e17) ?_
         intro a133 hE e105 kp
         replace e17 := kt kp e17
         refine sd 106 hE k (Z1v rfl e105 rfl (by omega)) ?_
         intro a134 hE e106 kp
         replace e17 := kt kp e17
         replace e106 := e106.trans (Z18 (show (z : Int) + 1 = ((z + 1 : Nat) : Int) by omega))
         refine sd 17 hE k (Z01 rfl e106) ?_
         intro a135 hE e17 kp
         refine wpList_nil ?_
         replace e1 := hE.g e1; replace e5 := hE.g e5; replace e6 := hE.g e6; replace e8 := hE.g e8; replace e9 := hE.g e9; replace e13 := hE.g e13; replace e14 := hE.g e14; replace e15 := hE.g e15; replace e16 := hE.g e16
         replace k := k.env hE
         clear hE e112
         refine Z00 ?_
         refine ⟨⟨k, e1, e5, e6, e8, e9, e13, e14, e15, e16, z + 1, e17, by omega, O⟩, ?_⟩
         rw [e17, mz]; simp only [intOf]; omega
       · clear mz
         refine wp_seq ?_
         refine wp_seq ?_
         refine wp_region_lit ?_
         have hE := Env.refl a118 [98, 99, 100, 101, 102, 103, 104]
         refine zm 98 hE k e17 ?_
         intro a136 hE e98 kp
         refine zm 99 hE k e8 ?_
         intro a137 hE e99 kp
         replace e98 := kt kp e98
         refine sd 100 hE k (Z08 (Z1j rfl e98 e99) (decide_eq_false (by omega))) ?_
         intro a138 hE e100 kp
         refine sd 101 hE k (Z03 rfl e100) ?_
         intro a139 hE e101 kp
         refine Z05 102 hE k rfl (by rfl) (by rfl) rfl rfl (.inl e101) ?_
         intro a140 hE e102 kp
         replace e101 := kt kp e101
         refine Z05 103 hE k rfl (by rfl) (by rfl) rfl rfl (.inl e101) ?_
         intro a141 hE e103 kp
         replace e101 := kt kp e101
         refine sd 104 hE k (Z0g rfl e101 rfl) ?_
         intro a142 hE e104 kp
         refine wpList_nil ?_
         replace e1 := hE.g e1; replace e5 := hE.g e5; replace e6 := hE.g e6; replace e8 := hE.g e8; replace e9 := hE.g e9; replace e13 := hE.g e13; replace e14 := hE.g e14; replace e15 := hE.g e15; replace e16 := hE.g e16; replace e17 := hE.g e17
         replace k := k.env hE
         clear hE
         refine Z00 ?_
         refine Z07 e104 rfl ?_
         refine wp_exit ?_
         refine Z0p ?_
         refine Z0p ?_
         refine Z0z ?_
         refine Z00 ?_
         have d1 := row1B hrow2 O.below hy
         obtain ⟨b9, o9, e9_, d1⟩ := d1
         cases e9_
         refine wp_seq ?_
         refine wp_region_lit ?_
         have hE := Env.refl a142 [113, 114, 115, 116]
         refine zm 113 hE k e1 ?_
         intro a143 hE e113 kp
         refine zm 114 hE k e14 ?_
         intro a144 hE e114 kp
         replace e113 := kt kp e113
         apply Z02 115 hE k rfl rfl rfl rfl
         case h =>
          simp [go_sem, ↓IntWalk.iteOmega, ev e113, ev e114]
          with_reducible rfl
         intro a145 hE e115 kp
         apply Z02 116 hE k rfl rfl rfl rfl
         case h =>
          simp [go_sem, ↓IntWalk.iteOmega, ev e115, d1]
          with_reducible rfl
         intro a146 hE e116 kp
         refine wpList_nil ?_
         replace e1 := hE.g e1; replace e5 := hE.g e5; replace e6 := hE.g e6; replace e8 := hE.g e8; replace e9 := hE.g e9; replace e13 := hE.g e13; replace e14 := hE.g e14
         replace k := k.env hE
         clear hE e15 e16 e17 e104
         refine Z00 ?_
         cases y with
         | true =>
          refine Z0l e116 (rfl) ?_
          clear e116
          refine wp_seq ?_
          refine wp_region_lit ?_
          have hE := Env.refl a146 [117, 118]
          refine zm 117 hE k e6 ?_
          intro a147 hE e117 kp
          apply Z06 118 hE k rfl (by rfl) (by rfl) rfl
          case h =>
           simp [go_sem, ↓IntWalk.iteOmega, ev e117]
           with_reducible exact ⟨rfl, rfl⟩
          case hc => exact Z1x (h := h1) (R := [tDisc p mb B 320 cap bm S1 noL, tMn mb M1, tRow 3 1 (.slice (some ⟨gp, 0, none⟩) ps.length cp) ps.length (intsV ps)]) (A := none) (ca := 0) (xs := []) _ O ok' (fun W OW i x hx => by simp at hx) (by decide)
          clear O
          rintro e w149 ⟨m2, rfl, O, ok2⟩
          refine ⟨_, rfl, ?_⟩
          intro a148 hE e118 kp
          refine wpList_nil ?_
          replace e1 := hE.g e1; replace e5 := hE.g e5; replace e6 := hE.g e6; replace e8 := hE.g e8; replace e9 := hE.g e9; replace e13 := hE.g e13; replace e14 := hE.g e14
          replace k := k.env hE
          clear hE e118
          refine Z00 ?_
          have e0 : (fun i => if (!decide (i ∈ ([] : List Int))) = true then none else F' i) = fun _ => none := by funext i; simp
          rw [e0] at ok2

          refine wp_seq ?_
          refine wp_region_lit ?_
          have hE := Env.refl a148 [119, 120, 121, 122, 123, 124, 125, 126, 127, 128]
          refine zm 119 hE k e6 ?_
          intro a150 hE e119 kp
          apply Z06 120 hE k rfl (by rfl) (by rfl) rfl
          case h =>
           simp [go_sem, ↓IntWalk.iteOmega, ev e119]
           with_reducible exact ⟨rfl, rfl⟩
          case hc => exact Z3i _ (OwnT.stR O) ok2
          rintro e _ ⟨he, rfl⟩
          refine ⟨.int .i64 0, he.trans (by rw [fL_no]; first | done | rfl), ?_⟩
          intro a151 hE e120 kp
          refine sd 121 hE k (Z08 (Z0s rfl e120 rfl) (decide_eq_false (by omega))) ?_
          intro a152 hE e121 kp
          refine sd 122 hE k (Z03 rfl e121) ?_
          intro a153 hE e122 kp
          apply Z04 123 hE k rfl rfl rfl rfl rfl e122
          case h =>
           exact Z03 rfl (hE.g e6)
          intro a154 hE e123 kp
          replace e122 := kt kp e122
          apply Z1b 124 hE k rfl (by rfl) (by rfl) rfl rfl e122
          case h =>
           simp [go_sem, ↓IntWalk.iteOmega, ev e123]
           with_reducible exact ⟨rfl, rfl⟩
          case hc => exact Z1z _ (OwnT.stR O) (OwnT.disc (OwnT.pull O 4 rfl)) ok2 rfl
          rintro e w156 ⟨he, RE⟩
          replace O := OwnT.ext O RE
          refine ⟨_, he.trans (congrArg (fun z => Ending.returned (Value.int .i64 z)) (show ((pgs 320 : Nat) : Int) - 1 - ((kL (pgs 320) K1).length : Nat) - ((fL (pgs 320) (fun _ => none)).length : Nat) = 19 - (ps.length : Int) by rw [fL_no, List.length_nil, hkl, hp20]; omega)), ?_⟩
          intro a155 hE e124 kp
          replace e122 := kt kp e122
          apply Z04 125 hE k rfl rfl rfl rfl rfl e122
          case h =>
           exact Z03 rfl (hE.g e8)
          intro a157 hE e125 kp
          replace e122 := kt kp e122; replace e124 := kt kp e124
          apply Z04 126 hE k rfl rfl rfl rfl rfl e122
          case h =>
           exact Z4t rfl rfl e125 (by omega)
          intro a158 hE e126 kp
          replace e122 := kt kp e122; replace e124 := kt kp e124
          replace e126 := e126.trans (Z18 (show (19 : Int) - (n1 : Int) = 19 - (ps.length : Int) by omega))
          apply Z04 127 hE k rfl rfl rfl rfl rfl e122
          case h =>
           exact Z08 (Z0s rfl e124 e126) (decide_eq_false (by omega))
          intro a159 hE e127 kp
          replace e122 := kt kp e122
          refine sd 128 hE k (Z0g rfl e122 e127) ?_
          intro a160 hE e128 kp
          refine wpList_nil ?_
          replace e1 := hE.g e1; replace e5 := hE.g e5; replace e6 := hE.g e6; replace e8 := hE.g e8; replace e9 := hE.g e9; replace e13 := hE.g e13; replace e14 := hE.g e14
          replace k := k.env hE
          clear hE
          refine Z00 ?_
          refine Z07 e128 rfl ?_
          refine wp_skip ?_
          refine Z0n ?_
          refine Z00 ?_
          refine wp_region_lit ?_
          have hE := Env.refl a160 [73, 74, 14]
          refine sd 73 hE k (Z03 rfl e14) ?_
          intro a161 hE e73 kp
          replace e14 := kt kp e14
          refine sd 74 hE k (Z1v rfl e73 rfl (by omega)) ?_
          intro a162 hE e74 kp
          replace e14 := kt kp e14
          replace e74 := e74.trans (Z18 (show (i : Int) + 1 = ((i + 1 : Nat) : Int) by omega))
          refine sd 14 hE k (Z01 rfl e74) ?_
          intro a163 hE e14 kp
          refine wpList_nil ?_
          replace e1 := hE.g e1; replace e5 := hE.g e5; replace e6 := hE.g e6; replace e8 := hE.g e8; replace e9 := hE.g e9; replace e13 := hE.g e13
          replace k := k.env hE
          clear hE e128
          refine Z00 ?_
          refine ⟨⟨k, e1, e5, e6, e8, e9, e13, i + 1, _, m2, vs', N', e14, by omega, ok2, fun _ _ => rfl, O⟩, ?_⟩
          rw [e14, mi]; simp only [intOf]; omega
         | false =>
          refine Z07 e116 (rfl) ?_
          clear e116
          refine wp_skip ?_
          refine Z0n ?_
          refine Z00 ?_
          refine wp_region_lit ?_
          have hE := Env.refl a146 [73, 74, 14]
          refine sd 73 hE k (Z03 rfl e14) ?_
          intro a164 hE e73 kp
          replace e14 := kt kp e14
          refine sd 74 hE k (Z1v rfl e73 rfl (by omega)) ?_
          intro a165 hE e74 kp
          replace e14 := kt kp e14
          replace e74 := e74.trans (Z18 (show (i : Int) + 1 = ((i + 1 : Nat) : Int) by omega))
          refine sd 14 hE k (Z01 rfl e74) ?_
          intro a166 hE e14 kp
          refine wpList_nil ?_
          replace e1 := hE.g e1; replace e5 := hE.g e5; replace e6 := hE.g e6; replace e8 := hE.g e8; replace e9 := hE.g e9; replace e13 := hE.g e13
          replace k := k.env hE
          clear hE
          refine Z00 ?_
          refine ⟨⟨k, e1, e5, e6, e8, e9, e13, i + 1, _, m', vs', N', e14, by omega, ok', hap', O⟩, ?_⟩
          rw [e14, mi]; simp only [intOf]; omega
     · skip
       have hcnt : ((pgs 320 : Nat) : Int) - 1 - ((kL (pgs 320) K1).length : Nat) - ((fL (pgs 320) F').length : Nat) = 0 := by
        have := (ok'.apart hap').full (by decide) hno
        rw [hp20] at this ⊢
        omega

       refine wp_seq ?_
       refine wp_seq ?_
       refine wp_region_lit ?_
       have hE := Env.refl a101 [83, 84, 85, 86, 87, 88, 89, 90, 91, 92, 93, 94, 95, 96, 97]
       refine zm 83 hE k e16 ?_
       intro a167 hE e83 kp
       refine sd 84 hE k (Z08 (Z0s rfl e83 rfl) (decide_eq_true (by omega))) ?_
       intro a168 hE e84 kp
       refine sd 85 hE k (Z03 rfl e84) ?_
       intro a169 hE e85 kp
       apply Z04 86 hE k rfl rfl rfl rfl rfl e85
       case h =>
        exact Z03 rfl (hE.g e16)
       intro a170 hE e86 kp
       replace e85 := kt kp e85
       apply Z04 87 hE k rfl rfl rfl rfl rfl e85
       case h =>
        exact Z08 (Z0s rfl e86 rfl) (decide_eq_false (by omega))
       intro a171 hE e87 kp
       replace e85 := kt kp e85
       refine sd 88 hE k (Z0d rfl e85 e87) ?_
       intro a172 hE e88 kp
       refine sd 89 hE k (Z03 rfl e88) ?_
       intro a173 hE e89 kp
       apply Z04 90 hE k rfl rfl rfl rfl rfl e89
       case h =>
        exact Z03 rfl (hE.g e16)
       intro a174 hE e90 kp
       replace e89 := kt kp e89
       apply Z04 91 hE k rfl rfl rfl rfl rfl e89
       case h =>
        exact Z08 (Z28 rfl e90 rfl) (decide_eq_true (by omega))
       intro a175 hE e91 kp
       replace e89 := kt kp e89
       apply Z04 92 hE k rfl rfl rfl rfl rfl e89
       case h =>
        exact Z03 rfl e91
       intro a176 hE e92 kp
       replace e89 := kt kp e89
       apply Z04 93 hE k rfl rfl rfl rfl rfl e92
       case h =>
        exact Z03 rfl (hE.g e6)
       intro a177 hE e93 kp
       replace e89 := kt kp e89; replace e92 := kt kp e92
       apply Z1b 94 hE k rfl (by rfl) (by rfl) rfl rfl e92
       case h =>
        simp [go_sem, ↓IntWalk.iteOmega, ev e93]
        with_reducible exact ⟨rfl, rfl⟩
       case hc => exact Z1z _ (OwnT.stR O) (OwnT.disc (OwnT.pull O 4 rfl)) ok' rfl
       rintro e w179 ⟨he, RE⟩
       replace O := OwnT.ext O RE
       refine ⟨_, he.trans (congrArg (fun z => Ending.returned (Value.int .i64 z)) hcnt), ?_⟩
       intro a178 hE e94 kp
       replace e89 := kt kp e89; replace e92 := kt kp e92
       apply Z04 95 hE k rfl rfl rfl rfl rfl e92
       case h =>
        exact Z08 (Z0s rfl e94 rfl) (decide_eq_false (by omega))
       intro a180 hE e95 kp
       replace e89 := kt kp e89; replace e92 := kt kp e92
       apply Z04 96 hE k rfl rfl rfl rfl rfl e89
       case h =>
        exact Z0d rfl e92 e95
       intro a181 hE e96 kp
       replace e89 := kt kp e89
       refine sd 97 hE k (Z0g rfl e89 e96) ?_
       intro a182 hE e97 kp
       refine wpList_nil ?_
       replace e1 := hE.g e1; replace e5 := hE.g e5; replace e6 := hE.g e6; replace e8 := hE.g e8; replace e9 := hE.g e9; replace e13 := hE.g e13; replace e14 := hE.g e14; replace e15 := hE.g e15; replace e16 := hE.g e16
       replace k := k.env hE
       clear hE
       refine Z00 ?_
       refine Z07 e97 rfl ?_
       refine wp_skip ?_
       refine Z00 (wp_seq ?_)
       refine wp_seq ?_
       refine wp_region_lit ?_
       have hE := Env.refl a182 [17]
       refine sd 17 hE k (Z01 rfl rfl) ?_
       intro a183 hE e17 kp
       refine wpList_nil ?_
       replace e1 := hE.g e1; replace e5 := hE.g e5; replace e6 := hE.g e6; replace e8 := hE.g e8; replace e9 := hE.g e9; replace e13 := hE.g e13; replace e14 := hE.g e14; replace e15 := hE.g e15; replace e16 := hE.g e16
       replace k := k.env hE
       clear hE e97
       refine Z00 ?_
       refine wp_block ?_
       clear hcnt
       refine wp_loop (fun a w => Fr 162 a ∧ a.eval (.tmp 1) = .slice (some ⟨b2, o2, none⟩) n2 c2 ∧ a.eval (.tmp 5) = .pointer (some ⟨p, 0, none⟩) ∧ a.eval (.tmp 6) = .pointer (some ⟨sb, 0, none⟩) ∧ a.eval (.tmp 8) = .int .i64 ↑n1 ∧ a.eval (.tmp 9) = .slice (some ⟨gp, 0, none⟩) ps.length cp ∧ a.eval (.tmp 13) = .string (sB S1.flatten) ∧ a.eval (.tmp 14) = .int .i64 ↑i ∧ a.eval (.tmp 15) = .int .i64 0 ∧ a.eval (.tmp 16) = .int .i64 6 ∧ ∃ (z : Nat), a.eval (.tmp 17) = .int .i64 ↑z ∧ z ≤ n1 ∧ OwnT W0.heap.size W0 ([tBlk sb 102 (stB p h1 1 kb fb), tMap kb 512 (keptV K1), tMap fb 512 m', tPool vs' N', tDisc p mb B 320 cap bm S1 noL, tMn mb M1, tRow 3 1 (.slice (some ⟨gp, 0, none⟩) ps.length cp) ps.length (intsV ps)]) w) (fun a w => n1 - (intOf (a.eval (.tmp 17))).toNat) ?_ ?_
       · exact ⟨k, e1, e5, e6, e8, e9, e13, e14, e15, e16, 0, e17, Nat.zero_le _, O⟩
       intro a184 w185 hI
       clear k e1 e5 e6 e8 e9 e13 e14 e15 e16
       obtain ⟨k, e1, e5, e6, e8, e9, e13, e14, e15, e16, h_⟩ := hI
       clear O e17
       obtain ⟨z, e17, hz, O⟩ := h_
       have mz := e17
       by_cases hlz : z < n1
       · skip
         refine wp_seq ?_
         refine wp_seq ?_
         refine wp_region_lit ?_
         have hE := Env.refl a184 [98, 99, 100, 101, 102, 103, 104]
         refine zm 98 hE k e17 ?_
         intro a186 hE e98 kp
         refine zm 99 hE k e8 ?_
         intro a187 hE e99 kp
         replace e98 := kt kp e98
         refine sd 100 hE k (Z08 (Z1j rfl e98 e99) (decide_eq_true (by omega))) ?_
         intro a188 hE e100 kp
         refine sd 101 hE k (Z03 rfl e100) ?_
         intro a189 hE e101 kp
         apply Z04 102 hE k rfl rfl rfl rfl rfl e101
         case h =>
          exact Z03 rfl (hE.g e16)
         intro a190 hE e102 kp
         replace e101 := kt kp e101
         apply Z04 103 hE k rfl rfl rfl rfl rfl e101
         case h =>
          exact Z08 (Z28 rfl e102 rfl) (decide_eq_false (by omega))
         intro a191 hE e103 kp
         replace e101 := kt kp e101
         refine sd 104 hE k (Z0d rfl e101 e103) ?_
         intro a192 hE e104 kp
         refine wpList_nil ?_
         replace e1 := hE.g e1; replace e5 := hE.g e5; replace e6 := hE.g e6; replace e8 := hE.g e8; replace e9 := hE.g e9; replace e13 := hE.g e13; replace e14 := hE.g e14; replace e15 := hE.g e15; replace e16 := hE.g e16; replace e17 := hE.g e17
         replace k := k.env hE
         clear hE
         refine Z00 ?_
         refine Z07 e104 rfl ?_
         refine wp_exit ?_
         refine Z0p ?_
         refine Z0p ?_
         refine Z0z ?_
         refine Z00 ?_
         have d1 := row1B hrow2 O.below hy
         obtain ⟨b9, o9, e9_, d1⟩ := d1
         cases e9_
         refine wp_seq ?_
         refine wp_region_lit ?_
         have hE := Env.refl a192 [113, 114, 115, 116]
         refine zm 113 hE k e1 ?_
         intro a193 hE e113 kp
         refine zm 114 hE k e14 ?_
         intro a194 hE e114 kp
         replace e113 := kt kp e113
         apply Z02 115 hE k rfl rfl rfl rfl
         case h =>
          simp [go_sem, ↓IntWalk.iteOmega, ev e113, ev e114]
          with_reducible rfl
         intro a195 hE e115 kp
         apply Z02 116 hE k rfl rfl rfl rfl
         case h =>
          simp [go_sem, ↓IntWalk.iteOmega, ev e115, d1]
          with_reducible rfl
         intro a196 hE e116 kp
         refine wpList_nil ?_
         replace e1 := hE.g e1; replace e5 := hE.g e5; replace e6 := hE.g e6; replace e8 := hE.g e8; replace e9 := hE.g e9; replace e13 := hE.g e13; replace e14 := hE.g e14
         replace k := k.env hE
         clear hE e15 e16 e17 e104
         refine Z00 ?_
         cases y with
         | true =>
          refine Z0l e116 (rfl) ?_
          clear e116
          refine wp_seq ?_
          refine wp_region_lit ?_
          have hE := Env.refl a196 [117, 118]
          refine zm 117 hE k e6 ?_
          intro a197 hE e117 kp
          apply Z06 118 hE k rfl (by rfl) (by rfl) rfl
          case h =>
           simp [go_sem, ↓IntWalk.iteOmega, ev e117]
           with_reducible exact ⟨rfl, rfl⟩
          case hc => exact Z1x (h := h1) (R := [tDisc p mb B 320 cap bm S1 noL, tMn mb M1, tRow 3 1 (.slice (some ⟨gp, 0, none⟩) ps.length cp) ps.length (intsV ps)]) (A := none) (ca := 0) (xs := []) _ O ok' (fun W OW i x hx => by simp at hx) (by decide)
          clear O
          rintro e w199 ⟨m2, rfl, O, ok2⟩
          refine ⟨_, rfl, ?_⟩
          intro a198 hE e118 kp
          refine wpList_nil ?_
          replace e1 := hE.g e1; replace e5 := hE.g e5; replace e6 := hE.g e6; replace e8 := hE.g e8; replace e9 := hE.g e9; replace e13 := hE.g e13; replace e14 := hE.g e14
          replace k := k.env hE
          clear hE e118
          refine Z00 ?_
          have e0 : (fun i => if (!decide (i ∈ ([] : List Int))) = true then none else F' i) = fun _ => none := by funext i; simp
          rw [e0] at ok2

          refine wp_seq ?_
          refine wp_region_lit ?_
          have hE := Env.refl a198 [119, 120, 121, 122, 123, 124, 125, 126, 127, 128]
          refine zm 119 hE k e6 ?_
          intro a200 hE e119 kp
          apply Z06 120 hE k rfl (by rfl) (by rfl) rfl
          case h =>
           simp [go_sem, ↓IntWalk.iteOmega, ev e119]
           with_reducible exact ⟨rfl, rfl⟩
          case hc => exact Z3i _ (OwnT.stR O) ok2
          rintro e _ ⟨he, rfl⟩
          refine ⟨.int .i64 0, he.trans (by rw [fL_no]; first | done | rfl), ?_⟩
          intro a201 hE e120 kp
          refine sd 121 hE k (Z08 (Z0s rfl e120 rfl) (decide_eq_false (by omega))) ?_
          intro a202 hE e121 kp
          refine sd 122 hE k (Z03 rfl e121) ?_
          intro a203 hE e122 kp
          apply Z04 123 hE k rfl rfl rfl rfl rfl e122
          case h =>
           exact Z03 rfl (hE.g e6)
          intro a204 hE e123 kp
          replace e122 := kt kp e122
          apply Z1b 124 hE k rfl (by rfl) (by rfl) rfl rfl e122
          case h =>
           simp [go_sem, ↓IntWalk.iteOmega, ev e123]
           with_reducible exact ⟨rfl, rfl⟩
          case hc => exact Z1z _ (OwnT.stR O) (OwnT.disc (OwnT.pull O 4 rfl)) ok2 rfl
          rintro e w206 ⟨he, RE⟩
          replace O := OwnT.ext O RE
          refine ⟨_, he.trans (congrArg (fun z => Ending.returned (Value.int .i64 z)) (show ((pgs 320 : Nat) : Int) - 1 - ((kL (pgs 320) K1).length : Nat) - ((fL (pgs 320) (fun _ => none)).length : Nat) = 19 - (ps.length : Int) by rw [fL_no, List.length_nil, hkl, hp20]; omega)), ?_⟩
          intro a205 hE e124 kp
          replace e122 := kt kp e122
          apply Z04 125 hE k rfl rfl rfl rfl rfl e122
          case h =>
           exact Z03 rfl (hE.g e8)
          intro a207 hE e125 kp
          replace e122 := kt kp e122; replace e124 := kt kp e124
          apply Z04 126 hE k rfl rfl rfl rfl rfl e122
          case h =>
           exact Z4t rfl rfl e125 (by omega)
          intro a208 hE e126 kp
          replace e122 := kt kp e122; replace e124 := kt kp e124
          replace e126 := e126.trans (Z18 (show (19 : Int) - (n1 : Int) = 19 - (ps.length : Int) by omega))
          apply Z04 127 hE k rfl rfl rfl rfl rfl e122
          case h =>
           exact Z08 (Z0s rfl e124 e126) (decide_eq_false (by omega))
          intro a209 hE e127 kp
          replace e122 := kt kp e122
          refine sd 128 hE k (Z0g rfl e122 e127) ?_
          intro a210 hE e128 kp
          refine wpList_nil ?_
          replace e1 := hE.g e1; replace e5 := hE.g e5; replace e6 := hE.g e6; replace e8 := hE.g e8; replace e9 := hE.g e9; replace e13 := hE.g e13; replace e14 := hE.g e14
          replace k := k.env hE
          clear hE
          refine Z00 ?_
          refine Z07 e128 rfl ?_
          refine wp_skip ?_
          refine Z0n ?_
          refine Z00 ?_
          refine wp_region_lit ?_
          have hE := Env.refl a210 [73, 74, 14]
          refine sd 73 hE k (Z03 rfl e14) ?_
          intro a211 hE e73 kp
          replace e14 := kt kp e14
          refine sd 74 hE k (Z1v rfl e73 rfl (by omega)) ?_
          intro a212 hE e74 kp
          replace e14 := kt kp e14
          replace e74 := e74.trans (Z18 (show (i : Int) + 1 = ((i + 1 : Nat) : Int) by omega))
          refine sd 14 hE k (Z01 rfl e74) ?_
          intro a213 hE e14 kp
          refine wpList_nil ?_
          replace e1 := hE.g e1; replace e5 := hE.g e5; replace e6 := hE.g e6; replace e8 := hE.g e8; replace e9 := hE.g e9; replace e13 := hE.g e13
          replace k := k.env hE
          clear hE e128
          refine Z00 ?_
          refine ⟨⟨k, e1, e5, e6, e8, e9, e13, i + 1, _, m2, vs', N', e14, by omega, ok2, fun _ _ => rfl, O⟩, ?_⟩
          rw [e14, mi]; simp only [intOf]; omega
         | false =>
          refine Z07 e116 (rfl) ?_
          clear e116
          refine wp_skip ?_
          refine Z0n ?_
          refine Z00 ?_
          refine wp_region_lit ?_
          have hE := Env.refl a196 [73, 74, 14]
          refine sd 73 hE k (Z03 rfl e14) ?_
          intro a214 hE e73 kp
          replace e14 := kt kp e14
          refine sd 74 hE k (Z1v rfl e73 rfl (by omega)) ?_
          intro a215 hE e74 kp
          replace e14 := kt kp e14
          replace e74 := e74.trans (Z18 (show (i : Int) + 1 = ((i + 1 : Nat) : Int) by omega))
          refine sd 14 hE k (Z01 rfl e74) ?_
          intro a216 hE e14 kp
          refine wpList_nil ?_
          replace e1 := hE.g e1; replace e5 := hE.g e5; replace e6 := hE.g e6; replace e8 := hE.g e8; replace e9 := hE.g e9; replace e13 := hE.g e13
          replace k := k.env hE
          clear hE
          refine Z00 ?_
          refine ⟨⟨k, e1, e5, e6, e8, e9, e13, i + 1, _, m', vs', N', e14, by omega, ok', hap', O⟩, ?_⟩
          rw [e14, mi]; simp only [intOf]; omega
       · skip
         refine wp_seq ?_
         refine wp_seq ?_
         refine wp_region_lit ?_
         have hE := Env.refl a184 [98, 99, 100, 101, 102, 103, 104]
         refine zm 98 hE k e17 ?_
         intro a217 hE e98 kp
         refine zm 99 hE k e8 ?_
         intro a218 hE e99 kp
         replace e98 := kt kp e98
         refine sd 100 hE k (Z08 (Z1j rfl e98 e99) (decide_eq_false (by omega))) ?_
         intro a219 hE e100 kp
         refine sd 101 hE k (Z03 rfl e100) ?_
         intro a220 hE e101 kp
         refine Z05 102 hE k rfl (by rfl) (by rfl) rfl rfl (.inl e101) ?_
         intro a221 hE e102 kp
         replace e101 := kt kp e101
         refine Z05 103 hE k rfl (by rfl) (by rfl) rfl rfl (.inl e101) ?_
         intro a222 hE e103 kp
         replace e101 := kt kp e101
         refine sd 104 hE k (Z0g rfl e101 rfl) ?_
         intro a223 hE e104 kp
         refine wpList_nil ?_
         replace e1 := hE.g e1; replace e5 := hE.g e5; replace e6 := hE.g e6; replace e8 := hE.g e8; replace e9 := hE.g e9; replace e13 := hE.g e13; replace e14 := hE.g e14; replace e15 := hE.g e15; replace e16 := hE.g e16; replace e17 := hE.g e17
         replace k := k.env hE
         clear hE
         refine Z00 ?_
         refine Z07 e104 rfl ?_
         refine wp_exit ?_
         refine Z0p ?_
         refine Z0p ?_
         refine Z0z ?_
         refine Z00 ?_
         have d1 := row1B hrow2 O.below hy
         obtain ⟨b9, o9, e9_, d1⟩ := d1
         cases e9_
         refine wp_seq ?_
         refine wp_region_lit ?_
         have hE := Env.refl a223 [113, 114, 115, 116]
         refine zm 113 hE k e1 ?_
         intro a224 hE e113 kp
         refine zm 114 hE k e14 ?_
         intro a225 hE e114 kp
         replace e113 := kt kp e113
         apply Z02 115 hE k rfl rfl rfl rfl
         case h =>
          simp [go_sem, ↓IntWalk.iteOmega, ev e113, ev e114]
          with_reducible rfl
         intro a226 hE e115 kp
         apply Z02 116 hE k rfl rfl rfl rfl
         case h =>
          simp [go_sem, ↓IntWalk.iteOmega, ev e115, d1]
          with_reducible rfl
         intro a227 hE e116 kp
         refine wpList_nil ?_
         replace e1 := hE.g e1; replace e5 := hE.g e5; replace e6 := hE.g e6; replace e8 := hE.g e8; replace e9 := hE.g e9; replace e13 := hE.g e13; replace e14 := hE.g e14
         replace k := k.env hE
         clear hE e15 e16 e17 e104
         refine Z00 ?_
         cases y with
         | true =>
          refine Z0l e116 (rfl) ?_
          clear e116
          refine wp_seq ?_
          refine wp_region_lit ?_
          have hE := Env.refl a227 [117, 118]
          refine zm 117 hE k e6 ?_
          intro a228 hE e117 kp
          apply Z06 118 hE k rfl (by rfl) (by rfl) rfl
          case h =>
           simp [go_sem, ↓IntWalk.iteOmega, ev e117]
           with_reducible exact ⟨rfl, rfl⟩
          case hc => exact Z1x (h := h1) (R := [tDisc p mb B 320 cap bm S1 noL, tMn mb M1, tRow 3 1 (.slice (some ⟨gp, 0, none⟩) ps.length cp) ps.length (intsV ps)]) (A := none) (ca := 0) (xs := []) _ O ok' (fun W OW i x hx => by simp at hx) (by decide)
          clear O
          rintro e w230 ⟨m2, rfl, O, ok2⟩
          refine ⟨_, rfl, ?_⟩
          intro a229 hE e118 kp
          refine wpList_nil ?_
          replace e1 := hE.g e1; replace e5 := hE.g e5; replace e6 := hE.g e6; replace e8 := hE.g e8; replace e9 := hE.g e9; replace e13 := hE.g e13; replace e14 := hE.g e14
          replace k := k.env hE
          clear hE e118
          refine Z00 ?_
          have e0 : (fun i => if (!decide (i ∈ ([] : List Int))) = true then none else F' i) = fun _ => none := by funext i; simp
          rw [e0] at ok2

          refine wp_seq ?_
          refine wp_region_lit ?_
          have hE := Env.refl a229 [119, 120, 121, 122, 123, 124, 125, 126, 127, 128]
          refine zm 119 hE k e6 ?_
          intro a231 hE e119 kp
          apply Z06 120 hE k rfl (by rfl) (by rfl) rfl
          case h =>
           simp [go_sem, ↓IntWalk.iteOmega, ev e119]
           with_reducible exact ⟨rfl, rfl⟩
          case hc => exact Z3i _ (OwnT.stR O) ok2
          rintro e _ ⟨he, rfl⟩
          refine ⟨.int .i64 0, he.trans (by rw [fL_no]; first | done | rfl), ?_⟩
          intro a232 hE e120 kp
          refine sd 121 hE k (Z08 (Z0s rfl e120 rfl) (decide_eq_false (by omega))) ?_
          intro a233 hE e121 kp
          refine sd 122 hE k (Z03 rfl e121) ?_
          intro a234 hE e122 kp
          apply Z04 123 hE k rfl rfl rfl rfl rfl e122
          case h =>
           exact Z03 rfl (hE.g e6)
          intro a235 hE e123 kp
          replace e122 := kt kp e122
          apply Z1b 124 hE k rfl (by rfl) (by rfl) rfl rfl e122
          case h =>
           simp [go_sem, ↓IntWalk.iteOmega, ev e123]
           with_reducible exact ⟨rfl, rfl⟩
          case hc => exact Z1z _ (OwnT.stR O) (OwnT.disc (OwnT.pull O 4 rfl)) ok2 rfl
          rintro e w237 ⟨he, RE⟩
          replace O := OwnT.ext O RE
          refine ⟨_, he.trans (congrArg (fun z => Ending.returned (Value.int .i64 z)) (show ((pgs 320 : Nat) : Int) - 1 - ((kL (pgs 320) K1).length : Nat) - ((fL (pgs 320) (fun _ => none)).length : Nat) = 19 - (ps.length : Int) by rw [fL_no, List.length_nil, hkl, hp20]; omega)), ?_⟩
          intro a236 hE e124 kp
          replace e122 := kt kp e122
          apply Z04 125 hE k rfl rfl rfl rfl rfl e122
          case h =>
           exact Z03 rfl (hE.g e8)
          intro a238 hE e125 kp
          replace e122 := kt kp e122; replace e124 := kt kp e124
          apply Z04 126 hE k rfl rfl rfl rfl rfl e122
          case h =>
           exact Z4t rfl rfl e125 (by omega)
          intro a239 hE e126 kp
          replace e122 := kt kp e122; replace e124 := kt kp e124
          replace e126 := e126.trans (Z18 (show (19 : Int) - (n1 : Int) = 19 - (ps.length : Int) by omega))
          apply Z04 127 hE k rfl rfl rfl rfl rfl e122
          case h =>
           exact Z08 (Z0s rfl e124 e126) (decide_eq_false (by omega))
          intro a240 hE e127 kp
          replace e122 := kt kp e122
          refine sd 128 hE k (Z0g rfl e122 e127) ?_
          intro a241 hE e128 kp
          refine wpList_nil ?_
          replace e1 := hE.g e1; replace e5 := hE.g e5; replace e6 := hE.g e6; replace e8 := hE.g e8; replace e9 := hE.g e9; replace e13 := hE.g e13; replace e14 := hE.g e14
          replace k := k.env hE
          clear hE
          refine Z00 ?_
          refine Z07 e128 rfl ?_
          refine wp_skip ?_
          refine Z0n ?_
          refine Z00 ?_
          refine wp_region_lit ?_
          have hE := Env.refl a241 [73, 74, 14]
          refine sd 73 hE k (Z03 rfl e14) ?_
          intro a242 hE e73 kp
          replace e14 := kt kp e14
          refine sd 74 hE k (Z1v rfl e73 rfl (by omega)) ?_
          intro a243 hE e74 kp
          replace e14 := kt kp e14
          replace e74 := e74.trans (Z18 (show (i : Int) + 1 = ((i + 1 : Nat) : Int) by omega))
          refine sd 14 hE k (Z01 rfl e74) ?_
          intro a244 hE e14 kp
          refine wpList_nil ?_
          replace e1 := hE.g e1; replace e5 := hE.g e5; replace e6 := hE.g e6; replace e8 := hE.g e8; replace e9 := hE.g e9; replace e13 := hE.g e13
          replace k := k.env hE
          clear hE e128
          refine Z00 ?_
          refine ⟨⟨k, e1, e5, e6, e8, e9, e13, i + 1, _, m2, vs', N', e14, by omega, ok2, fun _ _ => rfl, O⟩, ?_⟩
          rw [e14, mi]; simp only [intOf]; omega
         | false =>
          refine Z07 e116 (rfl) ?_
          clear e116
          refine wp_skip ?_
          refine Z0n ?_
          refine Z00 ?_
          refine wp_region_lit ?_
          have hE := Env.refl a227 [73, 74, 14]
          refine sd 73 hE k (Z03 rfl e14) ?_
          intro a245 hE e73 kp
          replace e14 := kt kp e14
          refine sd 74 hE k (Z1v rfl e73 rfl (by omega)) ?_
          intro a246 hE e74 kp
          replace e14 := kt kp e14
          replace e74 := e74.trans (Z18 (show (i : Int) + 1 = ((i + 1 : Nat) : Int) by omega))
          refine sd 14 hE k (Z01 rfl e74) ?_
          intro a247 hE e14 kp
          refine wpList_nil ?_
          replace e1 := hE.g e1; replace e5 := hE.g e5; replace e6 := hE.g e6; replace e8 := hE.g e8; replace e9 := hE.g e9; replace e13 := hE.g e13
          replace k := k.env hE
          clear hE
          refine Z00 ?_
          refine ⟨⟨k, e1, e5, e6, e8, e9, e13, i + 1, _, m', vs', N', e14, by omega, ok', hap', O⟩, ?_⟩
          rw [e14, mi]; simp only [intOf]; omega
   · clear mi
     refine wp_seq ?_
     refine wp_seq ?_
     refine wp_region_lit ?_
     have hE := Env.refl a84 [69, 70, 71, 72]
     refine zm 69 hE k e14 ?_
     intro a248 hE e69 kp
     refine zm 70 hE k e1 ?_
     intro a249 hE e70 kp
     replace e69 := kt kp e69
     refine sd 71 hE k (Z2r Tryz.underlying59 rfl e70) ?_
     intro a250 hE e71 kp
     replace e69 := kt kp e69
     refine sd 72 hE k (Z08 (Z1j rfl e69 e71) (decide_eq_false (by omega))) ?_
     intro a251 hE e72 kp
     refine wpList_nil ?_
     replace e1 := hE.g e1; replace e5 := hE.g e5; replace e6 := hE.g e6; replace e8 := hE.g e8; replace e9 := hE.g e9; replace e13 := hE.g e13; replace e14 := hE.g e14
     replace k := k.env hE
     clear hE
     refine Z00 ?_
     refine Z07 e72 rfl ?_
     refine wp_exit ?_
     refine Z0p ?_
     refine Z0p ?_
     refine Z0z ?_
     refine Z00 (wp_seq ?_)
     refine wp_seq ?_
     refine wp_region_lit ?_
     have hE := Env.refl a251 [18]
     refine sd 18 hE k (Z01 rfl rfl) ?_
     intro a252 hE e18 kp
     refine wpList_nil ?_
     replace e5 := hE.g e5; replace e6 := hE.g e6; replace e8 := hE.g e8; replace e9 := hE.g e9; replace e13 := hE.g e13
     replace k := k.env hE
     clear hE e1 e14 e72
     refine Z00 ?_
     refine wp_block ?_
     refine wp_loop (fun a w => Fr 162 a ∧ a.eval (.tmp 5) = .pointer (some ⟨p, 0, none⟩) ∧ a.eval (.tmp 6) = .pointer (some ⟨sb, 0, none⟩) ∧ a.eval (.tmp 8) = .int .i64 ↑n1 ∧ a.eval (.tmp 9) = .slice (some ⟨gp, 0, none⟩) ps.length cp ∧ a.eval (.tmp 13) = .string (sB S1.flatten) ∧ ∃ (z : Nat), a.eval (.tmp 18) = .int .i64 ↑z ∧ z ≤ n1 ∧ OwnT W0.heap.size W0 ([tBlk sb 102 (stB p h1 1 kb fb), tMap kb 512 (keptV K1), tMap fb 512 m, tPool vs N, tDisc p mb B 320 cap bm S1 noL, tMn mb M1, tRow 3 1 (.slice (some ⟨gp, 0, none⟩) ps.length cp) ps.length (intsV ps)]) w) (fun a w => n1 - (intOf (a.eval (.tmp 18))).toNat) ?_ ?_
     · exact ⟨k, e5, e6, e8, e9, e13, 0, e18, Nat.zero_le _, O⟩
     intro a253 w254 hI
     clear k e5 e6 e8 e9 e13
     obtain ⟨k, e5, e6, e8, e9, e13, h_⟩ := hI
     clear O e18
     obtain ⟨z, e18, hz, O⟩ := h_
     have mz := e18
     by_cases hlz : z < n1
     · have hlzI : (z : Int) < (n1 : Int) := by omega
       obtain ⟨c, hc⟩ : ∃ c, ps[z]? = some c := ⟨_, List.getElem?_eq_getElem (by omega)⟩
       have hkc := hin c (List.mem_of_getElem? hc)
       have hcr := ok.kr c hkc
       have d2 := row1_gc (OwnT.get O 6 rfl) (Z62 hc) (by omega)

       refine wp_seq ?_
       refine wp_seq ?_
       refine wp_region_lit ?_
       have hE := Env.refl a253 [129, 130, 131]
       refine zm 129 hE k e18 ?_
       intro a255 hE e129 kp
       refine zm 130 hE k e8 ?_
       intro a256 hE e130 kp
       replace e129 := kt kp e129
       refine sd 131 hE k (Z08 (Z1j rfl e129 e130) (decide_eq_true (by omega))) ?_
       intro a257 hE e131 kp
       refine wpList_nil ?_
       replace e5 := hE.g e5; replace e6 := hE.g e6; replace e8 := hE.g e8; replace e9 := hE.g e9; replace e13 := hE.g e13; replace e18 := hE.g e18
       replace k := k.env hE
       clear hE
       refine Z00 ?_
       refine Z0l e131 rfl ?_
       refine wp_skip ?_
       refine Z00 (wp_seq ?_)
       refine wp_block ?_
       refine wp_seq ?_
       refine wp_region_lit ?_
       have hE := Env.refl a257 [135, 136, 137, 138, 139, 140, 134, 141, 142, 19, 20]
       refine zm 135 hE k e6 ?_
       intro a258 hE e135 kp
       refine zm 136 hE k e9 ?_
       intro a259 hE e136 kp
       replace e135 := kt kp e135
       refine zm 137 hE k e18 ?_
       intro a260 hE e137 kp
       replace e135 := kt kp e135; replace e136 := kt kp e136
       apply Z02 138 hE k rfl rfl rfl rfl
       case h =>
        simp [go_sem, ↓IntWalk.iteOmega, ev e136, ev e137]
        with_reducible rfl
       intro a261 hE e138 kp
       replace e135 := kt kp e135
       apply Z02 139 hE k rfl rfl rfl rfl
       case h =>
        simp [go_sem, ↓IntWalk.iteOmega, ev e138, d2]
        with_reducible rfl
       intro a262 hE e139 kp
       replace e135 := kt kp e135
       apply Z06 140 hE k rfl (by rfl) (by rfl) rfl
       case h =>
        simp [go_sem, ↓IntWalk.iteOmega, ev e135, ev e139]
        with_reducible exact ⟨rfl, rfl⟩
       case hc => exact Z52 (M := M1) c.toNat c (z : Int) (by omega) _ (OwnT.stR O) (OwnT.disc (OwnT.pull O 4 rfl)) ok (by omega) (hap c hkc) (OwnT.get O 5 rfl) haw (hpg z c hc)
       rintro e w264 ⟨By, cy, rfl, hk, RE⟩
       replace O := OwnT.ext O RE
       refine ⟨_, rfl, ?_⟩
       intro a263 hE e140 kp
       refine sd 134 hE k (Z03 rfl e140) ?_
       intro a265 hE e134 kp
       apply Z02 141 hE k rfl rfl rfl rfl
       case h =>
        simp [go_sem, ↓IntWalk.iteOmega, ev e134]
        with_reducible rfl
       intro a266 hE e141 kp
       replace e134 := kt kp e134
       apply Z02 142 hE k rfl rfl rfl rfl
       case h =>
        simp [go_sem, ↓IntWalk.iteOmega, ev e134]
        with_reducible rfl
       intro a267 hE e142 kp
       replace e141 := kt kp e141
       refine Z79 O (cs := #[.int .i64 0, .slice none 0 0]) (t := 47) 19 hE k rfl (by rfl) (by rfl) rfl (by simp [go_sem, ↓IntWalk.iteOmega]) ?_
       clear O
       intro lk a268 w269 RX O hE e19 kp
       replace hk := Row.ext hk RX
       clear RX
       replace e141 := kt kp e141; replace e142 := kt kp e142
       have q0 : w269.cell? ⟨lk, 0, none⟩ = some (.int .i64 0) := (OwnT.blk O 0 rfl).cell 0
       have z0 : w269.frozen? ⟨lk, 0, none⟩ = false := (OwnT.blk O 0 rfl).frozen 0
       have q1 : w269.cell? ⟨lk, 1, none⟩ = some (.slice none 0 0) := (OwnT.blk O 0 rfl).cell 1
       have z1 : w269.frozen? ⟨lk, 1, none⟩ = false := (OwnT.blk O 0 rfl).frozen 1
       have hbr := OwnT.blk O 0 rfl
       refine Z0y (w' := ((w269.setCell ⟨lk, 0, none⟩ (.int .i64 0)).setCell ⟨lk, 1, none⟩ (.slice By 1 cy))) hE rfl rfl (by simp [go_sem, ↓IntWalk.iteOmega, ev e19, ev e141, q0, z0, q1, z1]) ?_
       replace O := OwnT.push 0 rfl (((OwnT.pull O 0 rfl).set 0 (.int .i64 0)).set 1 (.slice By 1 cy))
       replace hk := Z5t (v0 := .int .i64 0) (v1 := .slice By 1 cy) hk hbr
       clear hbr
       clear q0 z0 q1 z1
       generalize ((w269.setCell ⟨lk, 0, none⟩ (.int .i64 0)).setCell ⟨lk, 1, none⟩ (.slice By 1 cy)) = w270 at O hk ⊢
       replace O : OwnT _ _ ([tBlk lk 47 #[.int .i64 0, .slice By 1 cy], tBlk sb 102 (stB p h1 1 kb fb), tMap kb 512 (keptV K1), tMap fb 512 m, tPool vs N, tDisc p mb B 320 cap bm S1 noL, tMn mb M1, tRow 3 1 (.slice (some ⟨gp, 0, none⟩) ps.length cp) ps.length (intsV ps)]) w270 := O
       refine sd 20 hE k (Z01 rfl e142) ?_
       intro a271 hE e20 kp
       replace e19 := kt kp e19
       refine wpList_nil ?_
       replace e5 := hE.g e5; replace e6 := hE.g e6; replace e8 := hE.g e8; replace e9 := hE.g e9; replace e13 := hE.g e13; replace e18 := hE.g e18
       replace k := k.env hE
       clear hE e131
       refine Z00 (wp_seq ?_)
       refine Z1s (R := Ext) (w0 := w270) [[], [0], [0, 1], [0, 1, 2], [0, 1, 2], [0, 1, 2, 4], [0, 1, 2, 3, 4, 5], [0, 1, 2, 3, 4, 5, 6], [0, 1, 2, 3, 4, 5, 6, 7]] [143, 144, 145, 146, 147, 148, 149, 150, 151] Ext.refl (fun _ _ _ => Ext.trans) (Ext.drew _) (by kernel_rfl) ?_
       apply bd 143 k rfl rfl rfl
       case h =>
        intro ax wx hE hR hF
        exact Z03 rfl (hE.g e20)
       apply bd 144 k rfl rfl rfl
       case h =>
        intro ax wx hE hR hF
        have e143 := zhF hF 0 143 ml0
        exact Z08 (Z0s rfl e143 rfl) (decide_eq_false (by omega))
       apply bd 145 k rfl rfl rfl
       case h =>
        intro ax wx hE hR hF
        have e144 := zhF hF 1 144 ml0
        exact Z03 rfl e144
       apply bdg 146 k rfl rfl rfl rfl
       case h =>
        intro ax wx hE hR hF
        have e145 := zhF hF 2 145 ml0
        refine ⟨e145, ?_⟩
        have q0 : wx.cell? ⟨lk, 0, none⟩ = some (.int .i64 0) := (OwnT.blk (OwnT.ext O hR) 0 rfl).cell 0
        have q1 : wx.cell? ⟨lk, 1, none⟩ = some (.slice By 1 cy) := (OwnT.blk (OwnT.ext O hR) 0 rfl).cell 1
        simp [go_sem, ↓IntWalk.iteOmega, ev (hE.g e19), q0, q1]
        with_reducible rfl
       apply bdg 147 k rfl rfl rfl rfl
       case h =>
        intro ax wx hE hR hF
        have e145 := zhF hF 2 145 ml1
        refine ⟨e145, ?_⟩
        exact Z03 rfl (hE.g e18)
       apply Build.callnewg 148 (fun v w => ∃ g, v = .agg #[.int .i64 0, .slice (some ⟨g, 0, none⟩) 1 1] ∧ Row w (some ⟨g, 0, none⟩) 2 pairC (nodeP ↑z)) (fun v w w' hR h => by obtain ⟨g, e, h⟩ := h; exact ⟨g, e, h.ext hR⟩) Ext.refl (by rfl) (by rw [k.size]; rfl) rfl rfl
       case h =>
        intro ax wx hE hR hF
        have e147 := zhF hF 4 147 ml0
        have e145 := zhF hF 2 145 ml2
        refine ⟨e145, ?_⟩
        simp [go_sem, ↓IntWalk.iteOmega, ev e147]
        with_reducible exact ⟨rfl, rfl⟩
       case hc => exact fun wx hR => (Z2j ↑z wx).mono (fun e w' ⟨g, h1, h2, h3⟩ => ⟨_, h1, h3, g, rfl, h2⟩)
       apply Build.callxg 149 Ext.refl (by rfl) (by rw [k.size]; rfl) rfl rfl
       case h =>
        intro ax wx hE hR hF
        have e146 := zhF hF 3 146 ml2
        have f148 := hF 5 _ (by decide) ml0
        have e145 := zhF hF 2 145 ml3
        refine ⟨e145, ?_⟩
        obtain ⟨g9, e148, hg9⟩ := f148
        refine ⟨_, _, ?_, Z2b (cy := cy) (cz := 1) (a := (z : Int)) (hk.ext hR) hg9⟩
        simp [go_sem, ↓IntWalk.iteOmega, ev e146, ev e148]
       apply bdg 150 k rfl rfl rfl rfl
       case h =>
        intro ax wx hE hR hF
        have e149 := zhF hF 6 149 ml0
        have e145 := zhF hF 2 145 ml4
        refine ⟨e145, ?_⟩
        exact Z21 rfl e149
       apply bd 151 k rfl rfl rfl
       case h =>
        intro ax wx hE hR hF
        have e145 := zhF hF 2 145 ml5
        have e150 := zhF hF 7 150 ml0
        exact Z0g rfl e145 e150
       apply Build.stop
       refine ⟨by kernel_rfl, .inl ⟨rfl, ?_⟩⟩
       intro a272 w273 hE R hF
       have e151 : a272.eval (.tmp 151) = _ := hF 8 (det 151 _) ml0
       clear hF
       replace O := OwnT.ext O R
       clear R
       replace e5 := hE.g e5; replace e6 := hE.g e6; replace e8 := hE.g e8; replace e9 := hE.g e9; replace e13 := hE.g e13; replace e18 := hE.g e18
       replace k := k.env hE
       clear hE e19 e20
       refine Z00 ?_
       refine Z07 e151 rfl ?_
       refine wp_skip ?_
       refine Z0n ?_
       refine Z00 ?_
       refine wp_region_lit ?_
       have hE := Env.refl a272 [132, 133, 18]
       refine sd 132 hE k (Z03 rfl e18) ?_
       intro a274 hE e132 kp
       replace e18 := kt kp e18
       refine sd 133 hE k (Z1v rfl e132 rfl (by omega)) ?_
       intro a275 hE e133 kp
       replace e18 := kt kp e18
       replace e133 := e133.trans (Z18 (show (z : Int) + 1 = ((z + 1 : Nat) : Int) by omega))
       refine sd 18 hE k (Z01 rfl e133) ?_
       intro a276 hE e18 kp
       refine wpList_nil ?_
       replace e5 := hE.g e5; replace e6 := hE.g e6; replace e8 := hE.g e8; replace e9 := hE.g e9; replace e13 := hE.g e13
       replace k := k.env hE
       clear hE e151
       refine Z00 ?_
       replace O : OwnT _ _ ([tBlk sb 102 (stB p h1 1 kb fb), tMap kb 512 (keptV K1), tMap fb 512 m, tPool vs N, tDisc p mb B 320 cap bm S1 noL, tMn mb M1, tRow 3 1 (.slice (some ⟨gp, 0, none⟩) ps.length cp) ps.length (intsV ps)]) w273 := OwnT.pick O [1, 2, 3, 4, 5, 6, 7] (by decide)
       refine ⟨⟨k, e5, e6, e8, e9, e13, z + 1, e18, by omega, O⟩, ?_⟩
       rw [e18, mz]; simp only [intOf]; omega
     · clear mz
       refine wp_seq ?_
       refine wp_seq ?_
       refine wp_region_lit ?_
       have hE := Env.refl a253 [129, 130, 131]
       refine zm 129 hE k e18 ?_
       intro a277 hE e129 kp
       refine zm 130 hE k e8 ?_
       intro a278 hE e130 kp
       replace e129 := kt kp e129
       refine sd 131 hE k (Z08 (Z1j rfl e129 e130) (decide_eq_false (by omega))) ?_
       intro a279 hE e131 kp
       refine wpList_nil ?_
       replace e5 := hE.g e5; replace e6 := hE.g e6; replace e8 := hE.g e8; replace e9 := hE.g e9; replace e13 := hE.g e13; replace e18 := hE.g e18
       replace k := k.env hE
       clear hE
       refine Z00 ?_
       refine Z07 e131 rfl ?_
       refine wp_exit ?_
       refine Z0p ?_
       refine Z0p ?_
       refine Z0z ?_
       refine Z00 (wp_seq ?_)
       refine wp_region_lit ?_
       have hE := Env.refl a279 [152, 153, 154, 155, 156, 157, 158, 159, 160, 161, 4]
       refine zm 152 hE k e5 ?_
       intro a280 hE e152 kp
       apply Z06 153 hE k rfl (by rfl) (by rfl) rfl
       case h =>
        simp [go_sem, ↓IntWalk.iteOmega, ev e152]
        with_reducible exact ⟨rfl, rfl⟩
       case hc => exact Z5g _ (OwnT.disc (OwnT.pull O 4 rfl))
       rintro e w282 ⟨rfl, RE⟩
       replace O := OwnT.ext O RE
       refine ⟨_, rfl, ?_⟩
       intro a281 hE e153 kp
       refine zm 154 hE k e13 ?_
       intro a283 hE e154 kp
       replace e153 := kt kp e153
       refine sd 155 hE k (Z08 (x_eqs (l := S1.flatten) (m := S1.flatten) rfl e153 e154) (decide_eq_true rfl)) ?_
       intro a284 hE e155 kp
       refine sd 156 hE k (Z03 rfl e155) ?_
       intro a285 hE e156 kp
       apply Z04 157 hE k rfl rfl rfl rfl rfl e156
       case h =>
        exact Z03 rfl (hE.g e5)
       intro a286 hE e157 kp
       replace e156 := kt kp e156
       apply Z1b 158 hE k rfl (by rfl) (by rfl) rfl rfl e156
       case h =>
        simp [go_sem, ↓IntWalk.iteOmega, ev e157]
        with_reducible exact ⟨rfl, rfl⟩
       case hc => exact dloose_any _ (OwnT.disc (OwnT.pull O 4 rfl))
       rintro e w288 ⟨Bz, cz, he, -, -, -, -, RE⟩
       replace O := OwnT.ext O RE
       refine ⟨.slice Bz 0 cz, he.trans (by rw [looL_no7]; first | done | rfl), ?_⟩
       intro a287 hE e158 kp
       replace e156 := kt kp e156
       apply Z04 159 hE k rfl rfl rfl rfl rfl e156
       case h =>
        exact Z2r Tryz.underlying40 rfl e158
       intro a289 hE e159 kp
       replace e156 := kt kp e156
       apply Z04 160 hE k rfl rfl rfl rfl rfl e156
       case h =>
        exact Z08 (Z28 rfl e159 rfl) (decide_eq_true rfl)
       intro a290 hE e160 kp
       replace e156 := kt kp e156
       refine sd 161 hE k (Z0d rfl e156 e160) ?_
       intro a291 hE e161 kp
       refine sd 4 hE k (Z01 rfl e161) ?_
       intro a292 hE e4 kp
       refine wpList_nil ?_
       replace k := k.env hE
       clear hE e5 e6 e8 e9 e13 e18 e131
       refine Z00 ?_
       refine wp_ret ?_
       refine Z0i rfl k e4 ?_
       exact ⟨rfl, O.below⟩
theorem storeShadows_walk (w : World) (v0 v1 : Value) (h0 : Arg Tryz.prog w 3 v0) (h1 : Arg Tryz.prog w 59 v1) :
 Calls Tryz.prog 6 #[v0, v1] w fun e w' => e = .returned (.bool true) ∧ Below w.heap.size w w' := by
 have hb : Tryz.prog.cellsOf 4 = 1 := by kernel_rfl
 obtain ⟨x, rfl, -⟩ := arg_int Tryz.underlying3 h0
 obtain ⟨A2, n2, c2, xs2, rfl, b1, b2, b3, b4⟩ := arg_bools Tryz.underlying59 Tryz.underlying4 hb h1
 exact Z3h x xs2 w b3 b4
section
open Go.ChangeShapes Go.WideShapes Go.ChangeAt
theorem Arg.mk_ {P : Program} {w : World} {t : TypeId} {v : Value} {H : Type} {enc : TypeId × Value → H} {d : DataW H} {p : List MemPlace} {r : Reach} {base : Nat} (h : DataW.Trod enc P w 0 (fun _ => true) true t v d p) (hv : Value.okWide P w r base t v) : Arg P w t v := by
  obtain ⟨fuel, hf⟩ := h
  exact ⟨⟨H, enc, fuel, _, hf⟩, r, base, hv⟩
end
end Go.Proofs.YtakkhglbdljfiaaGreatDoor
