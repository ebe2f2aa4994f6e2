/- store's law: StoreOpens (printed by XStM.gen.py). -/
import Derived.Test.YtakkhglbdljfiaaGreatDoorKStoreOpens20
namespace Go.Proofs.YtakkhglbdljfiaaGreatDoor
attribute [local simp] BigFrame.eval_const BigFrame.eval_global BigFrame.eval_func
set_option linter.unusedVariables false
set_option linter.unusedSimpArgs false
open Go.RowKit Go.Maps

theorem cut_at (l : List UInt8) (a b : Nat) : (l.take (a + b)).drop a = (l.drop a).take b := by
 rw [List.drop_take]
 congr 1
 omega
theorem cells_i7 : Tryz.prog.cellsOf 3 = 1 := by kernel_rfl
theorem cells_a7 : Tryz.prog.cellsOf 33 = 2 := by kernel_rfl
set_option maxRecDepth 100000 in
theorem arg_arr2 {w : World} {v : Value} (h : Arg Tryz.prog w 33 v) : ∃ a b : Int, v = .agg #[.int .i64 a, .int .i64 b] := by
 obtain ⟨cs, rfl, hf⟩ := arg_array Tryz.underlying33 h
 obtain ⟨hl, hy⟩ := fit_array Tryz.underlying33 hf
 replace hl := hl.trans cells_a7
 have y0 := hy 0 (by omega)
 have y1 := hy 1 (by omega)
 rw [cells_i7] at y0 y1
 obtain ⟨a, e2, _⟩ := cell_int Tryz.underlying3 y0
 obtain ⟨b, e3, _⟩ := cell_int Tryz.underlying3 y1
 clear hy y0 y1 hf; match cs, hl with
 | [c0, c1], _ =>
  have h1 : c0 = .int .i64 a := by simpa using e2
  have h2 : c1 = .int .i64 b := by simpa using e3
  exact ⟨a, b, by rw [h1, h2]⟩
theorem Z5k {W : World} : Calls Tryz.prog 22 #[.agg #[.int .i64 0, .slice none 0 0], .agg #[.int .i64 0, .slice none 0 0]] W fun e w' => e = .returned (.bool true) ∧ Ext W w' := by
 refine (Z6p 0 0 none none 0 0 0 0 [] [] W rfl rfl (by decide) (by decide) (fun i x h => by simp at h) (fun i x h => by simp at h)).mono ?_
 rintro e w' ⟨rfl, hE⟩
 exact ⟨rfl, hE⟩
theorem leaf_same {W : World} {By Bz : Option Addr} {lv n cy cz : Nat} {ps : List Pr} (hn : ps.length = n) (hl : n ≤ 1000000) (hy : Row W By 2 pairC ps) (hz : Row W Bz 2 pairC ps) : Calls Tryz.prog 22 #[.agg #[.int .i64 lv, .slice By n cy], .agg #[.int .i64 lv, .slice Bz n cz]] W fun e w' => e = .returned (.bool true) ∧ Ext W w' := by
 refine (Z6p lv lv By Bz n cy n cz ps ps W hn hn hl hl hy hz).mono ?_
 rintro e w' ⟨rfl, hE⟩
 rw [decide_eq_true ⟨rfl, rfl⟩]
 exact ⟨rfl, hE⟩

set_option maxRecDepth 100000 in
set_option maxHeartbeats 8000000 in
theorem Z4z (l : List UInt8) (page s0 s1 ch : Int) (W0 : World) : Calls Tryz.prog 5 #[.string (sB l), .int .i64 page, .agg #[.int .i64 s0, .int .i64 s1], .int .i64 ch] W0 fun e w' => e = .returned (.bool true) ∧ Below W0.heap.size W0 w' := by
 have O := OwnT.start W0
 refine Z0f Tryz.func5 rfl 255 rfl (by rfl) ?_
 intro a1 k hargs; have e0 : a1.eval (.tmp 0) = .string (sB l) := hargs 0 _ rfl
 have e1 : a1.eval (.tmp 1) = .int .i64 page := hargs 1 _ rfl
 have e2 : a1.eval (.tmp 2) = .agg #[.int .i64 s0, .int .i64 s1] := hargs 2 _ rfl
 have e3 : a1.eval (.tmp 3) = .int .i64 ch := hargs 3 _ rfl
 clear hargs; refine wp_seq ?_; refine wp_region_lit ?_
 have hE := Env.refl a1 [6, 8]; refine Z0o O (cs := #[.int .i64 s0, .int .i64 s1]) (t := 33) 6 hE k rfl (by rfl) (by rfl) rfl (by simp [go_sem, ↓IntWalk.iteOmega, ev (hE.g e2)]) ?_
 clear O; intro tb a2 w3 O hE e6 kp; refine sd 8 hE k (Z01 rfl rfl) ?_; intro a4 hE e8 kp; replace e6 := kt kp e6; refine wpList_nil ?_; replace e0 := hE.g e0; replace e1 := hE.g e1; replace e3 := hE.g e3; replace k := k.env hE; clear hE e2 e8; refine Z00 (wp_seq ?_); refine wp_seq ?_; refine wp_region_lit ?_
 have hE := Env.refl a4 [32, 33]; apply Z06 32 hE k rfl (by rfl) (by rfl) rfl
 case h =>
  simp [go_sem, ↓IntWalk.iteOmega]
  with_reducible exact ⟨rfl, rfl⟩
 case hc => exact awake07 _
 rintro e w6 ⟨rfl, RE⟩
 replace O := OwnT.ext O RE; refine ⟨_, rfl, ?_⟩
 intro a5 hE e32 kp; refine sd 33 hE k (Z1n rfl e32) ?_; intro a7 hE e33 kp; refine wpList_nil ?_; replace e0 := hE.g e0; replace e1 := hE.g e1; replace e3 := hE.g e3; replace e6 := hE.g e6; replace k := k.env hE; clear hE; refine Z00 ?_; refine Z0b e33 rfl ?_
 refine wp_skip ?_; refine Z00 ?_; by_cases hl : l.length ≤ 900
 rotate_left
 · skip
   refine wp_seq ?_; refine wp_seq ?_; refine wp_region_lit ?_
   have hE := Env.refl a7 [34, 35, 36]; refine zm 34 hE k e0 ?_; intro a8 hE e34 kp; refine sd 35 hE k (Z2q Tryz.underlying9 rfl e34) ?_; intro a9 hE e35 kp; refine sd 36 hE k (Z08 (Z19 rfl e35 rfl) (decide_eq_true (by omega))) ?_
   intro a10 hE e36 kp; refine wpList_nil ?_; replace e0 := hE.g e0; replace e1 := hE.g e1; replace e3 := hE.g e3; replace e6 := hE.g e6; replace k := k.env hE; clear hE e33; refine Z00 ?_; refine Z0i e36 rfl ?_
   refine wp_seq ?_; refine wp_region_lit ?_
   have hE := Env.refl a10 [8]; refine sd 8 hE k (Z01 rfl rfl) ?_; intro a11 hE e8 kp; refine wpList_nil ?_; replace k := k.env hE; clear hE e0 e1 e3 e6 e36; refine Z00 ?_; refine wp_ret ?_
   refine Z0h ?_
   refine Z0j rfl k e8 ?_
   exact ⟨rfl, O.below⟩
 obtain ⟨ns, hns⟩ : ∃ n, n = l.length / 16 := ⟨_, rfl⟩
 obtain ⟨S, hS⟩ : ∃ z, secsL l ns = z := ⟨_, rfl⟩
 have hrd : ∀ x k, x + k ≤ ns → readL S noL x k = (l.drop (16 * x)).take (16 * k) := fun x k h => by rw [← hS]; exact Z63 l k h
 have hpg : pgs ns = l.length / 256 := by unfold pgs; omega
 obtain ⟨x, hx⟩ : ∃ z, newL (l.take 32) = z := ⟨_, rfl⟩
 have hx2 : 2 ≤ pgs ns → newL (readL S noL 0 2) = x := fun h => by rw [hrd 0 2 (by omega), ← hx]; rfl
 have hnw := rnewest_l l x hx
 obtain ⟨⟨xo, xg, xr, xa, xb, xc⟩, xi⟩ := x
 obtain ⟨P, hP⟩ : ∃ z, pgs ns = z := ⟨_, rfl⟩

 refine wp_seq ?_; refine wp_seq ?_; refine wp_region_lit ?_
 have hE := Env.refl a7 [34, 35, 36]; refine zm 34 hE k e0 ?_; intro a12 hE e34 kp; refine sd 35 hE k (Z2q Tryz.underlying9 rfl e34) ?_; intro a13 hE e35 kp; refine sd 36 hE k (Z08 (Z19 rfl e35 rfl) (decide_eq_false (by omega))) ?_
 intro a14 hE e36 kp; refine wpList_nil ?_; replace e0 := hE.g e0; replace e1 := hE.g e1; replace e3 := hE.g e3; replace e6 := hE.g e6; replace k := k.env hE; clear hE e33; refine Z00 ?_; refine Z0b e36 rfl ?_
 refine wp_skip ?_; refine Z00 (wp_seq ?_); refine wp_region_lit ?_
 have hE := Env.refl a14 [37, 38, 39, 9]; apply Z06 37 hE k rfl (by rfl) (by rfl) rfl
 case h =>
  simp [go_sem, ↓IntWalk.iteOmega]
  with_reducible exact ⟨rfl, rfl⟩
 case hc => exact new_mn O
 clear O; rintro e w16 ⟨mb, rfl, O⟩
 refine ⟨_, rfl, ?_⟩
 intro a15 hE e37 kp; refine zm 38 hE k e0 ?_; intro a17 hE e38 kp; replace e37 := kt kp e37; apply Z06 39 hE k rfl (by rfl) (by rfl) rfl
 case h =>
  simp [go_sem, ↓IntWalk.iteOmega, ev e37, ev e38]
  with_reducible exact ⟨rfl, rfl⟩
 case hc => exact dof_any l _ O (by omega)
 clear O; rintro e w19 ⟨p, B, cap, bm, rfl, O⟩
 rw [show min (l.length / 16) 16384 = ns by omega, hS] at O
 refine ⟨_, rfl, ?_⟩
 intro a18 hE e39 kp; refine sd 9 hE k (Z01 rfl e39) ?_; intro a20 hE e9 kp; refine wpList_nil ?_; replace e0 := hE.g e0; replace e1 := hE.g e1; replace e3 := hE.g e3; replace e6 := hE.g e6; replace k := k.env hE; clear hE e36; refine Z00 (wp_seq ?_); refine wp_region_lit ?_
 have hE := Env.refl a20 [40, 41, 42, 43, 10]; refine zm 40 hE k e0 ?_; intro a21 hE e40 kp; refine sd 41 hE k (Z2q Tryz.underlying9 rfl e40) ?_; intro a22 hE e41 kp; refine sd 42 hE k (x_quoN (m := l.length) (j := 256) rfl e41 rfl rfl (by decide) (by omega)) ?_; intro a23 hE e42 kp; replace e42 := e42.trans (Z12 (show ((l.length / 256 : Nat) : Int) = ((P : Nat) : Int) by omega))
 refine sd 43 hE k (x_min rfl e42 rfl) ?_; intro a24 hE e43 kp; replace e43 := e43.trans (Z12 (show min ((P : Nat) : Int) 512 = ((P : Nat) : Int) by unfold pgs at hP; omega))
 refine sd 10 hE k (Z01 rfl e43) ?_; intro a25 hE e10 kp; refine wpList_nil ?_; replace e0 := hE.g e0; replace e1 := hE.g e1; replace e3 := hE.g e3; replace e6 := hE.g e6; replace e9 := hE.g e9; replace k := k.env hE; clear hE; refine Z00 (wp_seq ?_); refine wp_region_lit ?_
 have hE := Env.refl a25 [45, 46, 44, 47, 48, 11, 12]; refine zm 45 hE k e9 ?_; intro a26 hE e45 kp; apply Z06 46 hE k rfl (by rfl) (by rfl) rfl
 case h =>
  simp [go_sem, ↓IntWalk.iteOmega, ev e45]
  with_reducible exact ⟨rfl, rfl⟩
 case hc => exact sopen_two _ O rfl hx2
 clear O; rintro e w28 ⟨v, ef, X, rfl, O, hX⟩
 refine ⟨_, rfl, ?_⟩
 intro a27 hE e46 kp; refine sd 44 hE k (Z02 rfl e46) ?_; intro a29 hE e44 kp; apply Z04 47 hE k rfl rfl rfl rfl; case h =>
  simp [go_sem, ↓IntWalk.iteOmega, ev e44]
  with_reducible rfl
 intro a30 hE e47 kp; replace e44 := kt kp e44; apply Z04 48 hE k rfl rfl rfl rfl; case h =>
  simp [go_sem, ↓IntWalk.iteOmega, ev e44]
  with_reducible rfl
 intro a31 hE e48 kp; replace e47 := kt kp e47; refine sd 11 hE k (Z01 rfl e47) ?_; intro a32 hE e11 kp; replace e48 := kt kp e48; refine sd 12 hE k (Z01 rfl e48) ?_; intro a33 hE e12 kp; replace e11 := kt kp e11; refine wpList_nil ?_; replace e0 := hE.g e0; replace e1 := hE.g e1; replace e3 := hE.g e3; replace e6 := hE.g e6; replace e9 := hE.g e9; replace e10 := hE.g e10; replace k := k.env hE; clear hE; refine Z00 ?_; refine wp_cutF (fun a w => Fr 255 a ∧ a.eval (.tmp 3) = .int .i64 ch ∧ a.eval (.tmp 6) = .pointer (some ⟨tb, 0, none⟩) ∧ a.eval (.tmp 9) = .pointer (some ⟨p, 0, none⟩) ∧ a.eval (.tmp 10) = .int .i64 ↑P ∧ ∃ (u_ : Unit), OwnT W0.heap.size W0 [tDisc p mb B ns cap bm S noL, tMn mb mn0, tBlk tb 33 #[.int .i64 s0, .int .i64 s1]] w) ?_ ?_
 · skip
   rcases hX with ⟨hp2, rfl, rfl, rfl⟩ | ⟨hp2, hok, rfl, rfl, rfl⟩ | ⟨hp2, hok, sb, kb, fb, rfl, rfl, rfl⟩
   · skip
     replace O : OwnT _ _ ([tDisc p mb B ns cap bm S noL, tMn mb mn0, tBlk tb 33 #[.int .i64 s0, .int .i64 s1]]) w28 := O
     rw [hP] at hp2
     refine wp_seq ?_; refine wp_region_lit ?_
     have hE := Env.refl a33 [49, 50]; refine zm 49 hE k e10 ?_; intro a34 hE e49 kp; refine sd 50 hE k (Z08 (Z14 rfl e49 rfl) (decide_eq_true (by omega))) ?_
     intro a35 hE e50 kp; refine wpList_nil ?_; replace e0 := hE.g e0; replace e1 := hE.g e1; replace e3 := hE.g e3; replace e6 := hE.g e6; replace e9 := hE.g e9; replace e10 := hE.g e10; replace e11 := hE.g e11; replace e12 := hE.g e12; replace k := k.env hE; clear hE; refine Z00 ?_; refine Z0i e50 rfl ?_
     refine wp_seq ?_; refine wp_region_lit ?_
     have hE := Env.refl a35 [51, 52, 53, 54, 55, 56]; refine zm 51 hE k e11 ?_; intro a36 hE e51 kp; apply Z04 52 hE k rfl rfl rfl rfl; case h =>
      simp [go_sem, ↓IntWalk.iteOmega, ev e51]
      with_reducible rfl
     intro a37 hE e52 kp; refine sd 53 hE k (Z02 rfl e52) ?_; intro a38 hE e53 kp; apply Z03 54 hE k rfl rfl rfl rfl rfl e53
     case h =>
      exact Z02 rfl (hE.g e12)
     intro a39 hE e54 kp; replace e53 := kt kp e53; apply Z03 55 hE k rfl rfl rfl rfl rfl e53
     case h =>
      exact Z0x rfl e54 rfl
     intro a40 hE e55 kp; replace e53 := kt kp e53; refine sd 56 hE k (Z07 rfl e53 e55) ?_; intro a41 hE e56 kp; refine wpList_nil ?_; replace e3 := hE.g e3; replace e6 := hE.g e6; replace e9 := hE.g e9; replace e10 := hE.g e10; replace k := k.env hE; clear hE e0 e1 e11 e12 e50; refine Z00 ?_; refine Z0b e56 rfl ?_
     refine wp_skip ?_; refine Z00 ?_; exact ⟨k, e3, e6, e9, e10, (), O⟩
   · skip
     replace O : OwnT _ _ ([tDisc p mb B ns cap bm S noL, tMn mb mn0, tBlk tb 33 #[.int .i64 s0, .int .i64 s1]]) w28 := O
     rw [hP] at hp2
     obtain rfl : xo = false := hok
     refine wp_seq ?_; refine wp_region_lit ?_
     have hE := Env.refl a33 [49, 50]; refine zm 49 hE k e10 ?_; intro a42 hE e49 kp; refine sd 50 hE k (Z08 (Z14 rfl e49 rfl) (decide_eq_false (by omega))) ?_
     intro a43 hE e50 kp; refine wpList_nil ?_; replace e0 := hE.g e0; replace e1 := hE.g e1; replace e3 := hE.g e3; replace e6 := hE.g e6; replace e9 := hE.g e9; replace e10 := hE.g e10; replace e11 := hE.g e11; replace e12 := hE.g e12; replace k := k.env hE; clear hE; refine Z00 ?_; refine Z0b e50 rfl ?_
     replace hnw : ∀ w : World, Calls Tryz.prog 36 _ w fun e w' => e = .returned (.tuple #[.agg #[.int .u64 ↑xg, .int .i64 xr, .int .i64 xa, .int .i64 xb, .int .i64 xc], .int .i64 xi, .bool false]) ∧ Ext w w' := hnw
     refine wp_seq ?_; refine Z6h (S := ⟨4, 9, 10, 13, 62, 39, #[.int .u64 0, .int .i64 0, .int .i64 0, .int .i64 0, .int .i64 0], fun v => csA (projV v 0)⟩) (Φ := fun v_ L_ => v_ = .tuple #[.agg #[.int .u64 ↑xg, .int .i64 xr, .int .i64 xa, .int .i64 xb, .int .i64 xc], .int .i64 xi, .bool false] ∧ L_ = [tDisc p mb B ns cap bm S noL, tMn mb mn0, tBlk tb 33 #[.int .i64 s0, .int .i64 s1]]) [[], [0], [], [2], rg 4, rg 5, rg 6, rg 6, rg 6, [], [0, 1, 2, 3, 4, 5, 6, 9], [0, 1, 2, 3, 4, 5, 6, 7, 9, 10], rg 12] [58, 59, 60, 61, 62, 57, 63, 64, 65, 13, 14] O (by kernel_rfl) ?_
     apply BuildA.det 58 (by kernel_rfl) (by rfl) (by rw [k.size]; rfl) rfl
     case h =>
      intro lx ax wx hE hI hl hA hF; have hO := hI.pre (by rfl) hl
      exact Z02 rfl (hE.g e0)
     apply BuildA.det 59 (by kernel_rfl) (by rfl) (by rw [k.size]; rfl) rfl
     case h =>
      intro lx ax wx hE hI hl hA hF; have e58 := hF 0 (detL 0 58 _) (by decide) ml0
      have hO := hI.pre (by rfl) hl
      exact Z2g (l := l) Tryz.underlying9 rfl e58 rfl 16 rfl (by omega)
     apply BuildA.det 60 (by kernel_rfl) (by rfl) (by rw [k.size]; rfl) rfl
     case h =>
      intro lx ax wx hE hI hl hA hF; have hO := hI.pre (by rfl) hl
      exact Z02 rfl (hE.g e0)
     apply BuildA.det 61 (by kernel_rfl) (by rfl) (by rw [k.size]; rfl) rfl
     case h =>
      intro lx ax wx hE hI hl hA hF; have e60 := hF 2 (detL 2 60 _) (by decide) ml0
      have hO := hI.pre (by rfl) hl
      exact Z2f (v := .string (sB ((l.take 32).drop 16))) (Z2y (l := l) (a := 16) (b := 32) Tryz.underlying9 rfl e60 rfl rfl (by omega) (by omega)) rfl
     refine BuildA.call (by kernel_rfl) rfl (by rw [k.size]; rfl) rfl ?_ ?_
     · intro lx ax wx hE hO hA hF; have e59 := hF 1 (detL 1 59 _) (by decide) ml2
       have e61 := hF 3 (detL 3 61 _) (by decide) ml0
       refine ⟨_, _, by simp [go_sem, ↓IntWalk.iteOmega, ev e59, ev e61], fun X OX => (hnw wx).mono (fun e w' h => ⟨_, _, h.1, ⟨rfl, rfl⟩, OX.ext h.2⟩)⟩
     refine BuildA.rel 57 62 (fun v => v) (by rfl) (by kernel_rfl) (by rfl) (by rw [k.size]; rfl) rfl ?_ ?_
     · intro lx ax wx hE hI hA hF; exact Z02 rfl rfl
     refine BuildA.rel 63 62 (fun v => projV v 0) (by rfl) (by kernel_rfl) (by rfl) (by rw [k.size]; rfl) rfl ?_ ?_
     · intro lx ax wx hE hI hA hF; have e57 : ax.eval (.tmp 57) = _ := hF 5 (relL 5 57 62 (fun v => v)) (by decide) ml0
       obtain ⟨_, fic⟩ := hI.val (hA 4 (by decide))
       obtain ⟨hv, rfl⟩ := fic
       rw [hv]
       rw [hv] at e57
       simp [go_sem, ↓IntWalk.iteOmega, ev e57, projV]
     refine BuildA.rel 64 62 (fun v => projV v 1) (by rfl) (by kernel_rfl) (by rfl) (by rw [k.size]; rfl) rfl ?_ ?_
     · intro lx ax wx hE hI hA hF; have e57 : ax.eval (.tmp 57) = _ := hF 5 (relL 5 57 62 (fun v => v)) (by decide) ml1
       obtain ⟨_, fic⟩ := hI.val (hA 4 (by decide))
       obtain ⟨hv, rfl⟩ := fic
       rw [hv]
       rw [hv] at e57
       simp [go_sem, ↓IntWalk.iteOmega, ev e57, projV]
     refine BuildA.rel 65 62 (fun v => projV v 2) (by rfl) (by kernel_rfl) (by rfl) (by rw [k.size]; rfl) rfl ?_ ?_
     · intro lx ax wx hE hI hA hF; have e57 : ax.eval (.tmp 57) = _ := hF 5 (relL 5 57 62 (fun v => v)) (by decide) ml2
       obtain ⟨_, fic⟩ := hI.val (hA 4 (by decide))
       obtain ⟨hv, rfl⟩ := fic
       rw [hv]
       rw [hv] at e57
       simp [go_sem, ↓IntWalk.iteOmega, ev e57, projV]
     refine BuildA.alloc (by kernel_rfl) rfl (by rw [k.size]; rfl) rfl (fun a_ w_ => by simp [go_sem, ↓IntWalk.iteOmega]; first | done | kernel_rfl | rfl) ?_
     refine BuildA.store (by kernel_rfl) rfl rfl ?_ ?_
     · intro lx ax wx g_ L_ hE hA hF es hΦ O; have e63 : ax.eval (.tmp 63) = _ := hF 6 (relL 6 63 62 (fun v => projV v 0)) (by decide) ml3
       obtain ⟨hv, rfl⟩ := hΦ
       rw [hv] at e63
       replace e63 : ax.eval (.tmp 63) = .agg #[.int .u64 ↑xg, .int .i64 xr, .int .i64 xa, .int .i64 xb, .int .i64 xc] := e63
       have hb := O.b0
       refine ⟨(((((wx.setCell ⟨g_, 0, none⟩ (.int .u64 ↑xg)).setCell ⟨g_, 1, none⟩ (.int .i64 xr)).setCell ⟨g_, 2, none⟩ (.int .i64 xa)).setCell ⟨g_, 3, none⟩ (.int .i64 xb)).setCell ⟨g_, 4, none⟩ (.int .i64 xc)), ?_, ?_⟩
       · have q0 : wx.cell? ⟨g_, 0, none⟩ = some (.int .u64 0) := hb.cell 0
         have z0 : wx.frozen? ⟨g_, 0, none⟩ = false := hb.frozen 0
         have q1 : wx.cell? ⟨g_, 1, none⟩ = some (.int .i64 0) := hb.cell 1
         have z1 : wx.frozen? ⟨g_, 1, none⟩ = false := hb.frozen 1
         have q2 : wx.cell? ⟨g_, 2, none⟩ = some (.int .i64 0) := hb.cell 2
         have z2 : wx.frozen? ⟨g_, 2, none⟩ = false := hb.frozen 2
         have q3 : wx.cell? ⟨g_, 3, none⟩ = some (.int .i64 0) := hb.cell 3
         have z3 : wx.frozen? ⟨g_, 3, none⟩ = false := hb.frozen 3
         have q4 : wx.cell? ⟨g_, 4, none⟩ = some (.int .i64 0) := hb.cell 4
         have z4 : wx.frozen? ⟨g_, 4, none⟩ = false := hb.frozen 4
         simp [go_sem, ↓IntWalk.iteOmega, ev es, ev e63, q0, z0, q1, z1, q2, z2, q3, z3, q4, z4]
       · have O2 := (((((O.set 0 (.int .u64 ↑xg)).set 1 (.int .i64 xr)).set 2 (.int .i64 xa)).set 3 (.int .i64 xb)).set 4 (.int .i64 xc))
         rw [hv]
         exact O2
     refine BuildA.rel 14 62 (fun v => projV v 1) (by rfl) (by kernel_rfl) (by rfl) (by rw [k.size]; rfl) rfl ?_ ?_
     · intro lx ax wx hE hI hA hF; have e64 : ax.eval (.tmp 64) = _ := hF 7 (relL 7 64 62 (fun v => projV v 1)) (by decide) ml3
       exact Z01 rfl e64
     apply BuildM.stop
     refine ⟨by kernel_rfl, ?_⟩
     clear O; intro lx a44 w45 hE hI hL hF; obtain ⟨hb, L_, e13, fic, O⟩ := hI.end_ (hL 4 (Nat.le_of_ble_eq_true rfl)) (hL 9 (Nat.le_of_ble_eq_true rfl)) (hL 10 (Nat.le_of_ble_eq_true rfl))
     have e65 : a44.eval (.tmp 65) = _ := hF 8 (relL 8 65 62 (fun v => projV v 2)) ml3
     clear hF hI hL; obtain ⟨hv, rfl⟩ := fic
     rw [hv] at e65
     replace e65 : a44.eval (.tmp 65) = .bool false := e65
     rw [hv] at O
     clear hv; replace O : OwnT _ _ ([tBlk hb 39 #[.int .u64 ↑xg, .int .i64 xr, .int .i64 xa, .int .i64 xb, .int .i64 xc], tDisc p mb B ns cap bm S noL, tMn mb mn0, tBlk tb 33 #[.int .i64 s0, .int .i64 s1]]) w45 := O
     simp only [List.length_cons, List.length_nil, Nat.zero_add, Nat.reduceAdd, List.drop_succ_cons, List.drop_zero, List.drop_nil, tailOps]
     apply Z4m (w' := w45) 15 [58, 59, 60, 61, 62, 57, 63, 64, 65, 13, 14, 15] hE k rfl (by rfl) (by rfl) (by rfl)
     case h =>
      exact Z01 rfl e65
     intro a46 hE e15 kp; replace e13 := kt kp e13; replace e0 := hE.g e0; replace e1 := hE.g e1; replace e3 := hE.g e3; replace e6 := hE.g e6; replace e9 := hE.g e9; replace e10 := hE.g e10; replace e11 := hE.g e11; replace e12 := hE.g e12; replace k := k.env hE; clear hE e50; refine Z00 (wp_seq ?_); refine wp_region_lit ?_
     have hE := Env.refl a46 [66, 67]; refine zm 66 hE k e15 ?_; intro a47 hE e66 kp; refine sd 67 hE k (Z1n rfl e66) ?_; intro a48 hE e67 kp; refine wpList_nil ?_; replace e0 := hE.g e0; replace e1 := hE.g e1; replace e3 := hE.g e3; replace e6 := hE.g e6; replace e9 := hE.g e9; replace e10 := hE.g e10; replace e11 := hE.g e11; replace e12 := hE.g e12; replace e13 := hE.g e13; replace k := k.env hE; clear hE e15; refine Z00 ?_; refine Z0i e67 rfl ?_
     refine wp_seq ?_; refine wp_region_lit ?_
     have hE := Env.refl a48 [68, 69, 70, 71, 72, 73]; refine zm 68 hE k e11 ?_; intro a49 hE e68 kp; apply Z04 69 hE k rfl rfl rfl rfl; case h =>
      simp [go_sem, ↓IntWalk.iteOmega, ev e68]
      with_reducible rfl
     intro a50 hE e69 kp; refine sd 70 hE k (Z02 rfl e69) ?_; intro a51 hE e70 kp; apply Z03 71 hE k rfl rfl rfl rfl rfl e70
     case h =>
      exact Z02 rfl (hE.g e12)
     intro a52 hE e71 kp; replace e70 := kt kp e70; apply Z03 72 hE k rfl rfl rfl rfl rfl e70
     case h =>
      exact Z0x rfl e71 rfl
     intro a53 hE e72 kp; replace e70 := kt kp e70; refine sd 73 hE k (Z07 rfl e70 e72) ?_; intro a54 hE e73 kp; refine wpList_nil ?_; replace e3 := hE.g e3; replace e6 := hE.g e6; replace e9 := hE.g e9; replace e10 := hE.g e10; replace k := k.env hE; clear hE e0 e1 e11 e12 e13 e67; refine Z00 ?_; refine Z0b e73 rfl ?_
     refine wp_skip ?_; refine Z00 ?_; replace O : OwnT _ _ ([tDisc p mb B ns cap bm S noL, tMn mb mn0, tBlk tb 33 #[.int .i64 s0, .int .i64 s1]]) w45 := OwnT.pick O [1, 2, 3] (by decide)
     exact ⟨k, e3, e6, e9, e10, (), O⟩
   · skip
     replace O : OwnT _ _ ([tBlk sb 102 (stB p ((⟨xg, xr, xa, xb, xc⟩ : Hd)) xi kb fb), tMap kb 512 (keptV ((fun _ => false))), tMap fb 512 ((fun _ => none)), tPool ([]) ([]), tDisc p mb B ns cap bm S noL, tMn mb mn0, tBlk tb 33 #[.int .i64 s0, .int .i64 s1]]) w28 := O
     obtain rfl : xo = true := hok
     have hpP := hp2
     rw [hP] at hpP
     refine wp_seq ?_; refine wp_region_lit ?_
     have hE := Env.refl a33 [49, 50]; refine zm 49 hE k e10 ?_; intro a55 hE e49 kp; refine sd 50 hE k (Z08 (Z14 rfl e49 rfl) (decide_eq_false (by omega))) ?_
     intro a56 hE e50 kp; refine wpList_nil ?_; replace e0 := hE.g e0; replace e1 := hE.g e1; replace e3 := hE.g e3; replace e6 := hE.g e6; replace e9 := hE.g e9; replace e10 := hE.g e10; replace e11 := hE.g e11; replace e12 := hE.g e12; replace k := k.env hE; clear hE; refine Z00 ?_; refine Z0b e50 rfl ?_
     replace hnw : ∀ w : World, Calls Tryz.prog 36 _ w fun e w' => e = .returned (.tuple #[.agg #[.int .u64 ↑xg, .int .i64 xr, .int .i64 xa, .int .i64 xb, .int .i64 xc], .int .i64 xi, .bool true]) ∧ Ext w w' := hnw
     refine wp_seq ?_; refine Z6h (S := ⟨4, 9, 10, 13, 62, 39, #[.int .u64 0, .int .i64 0, .int .i64 0, .int .i64 0, .int .i64 0], fun v => csA (projV v 0)⟩) (Φ := fun v_ L_ => v_ = .tuple #[.agg #[.int .u64 ↑xg, .int .i64 xr, .int .i64 xa, .int .i64 xb, .int .i64 xc], .int .i64 xi, .bool true] ∧ L_ = [tBlk sb 102 (stB p ((⟨xg, xr, xa, xb, xc⟩ : Hd)) xi kb fb), tMap kb 512 (keptV ((fun _ => false))), tMap fb 512 ((fun _ => none)), tPool ([]) ([]), tDisc p mb B ns cap bm S noL, tMn mb mn0, tBlk tb 33 #[.int .i64 s0, .int .i64 s1]]) [[], [0], [], [2], rg 4, rg 5, rg 6, rg 6, rg 6, [], [0, 1, 2, 3, 4, 5, 6, 9], [0, 1, 2, 3, 4, 5, 6, 7, 9, 10], rg 12] [58, 59, 60, 61, 62, 57, 63, 64, 65, 13, 14] O (by kernel_rfl) ?_
     apply BuildA.det 58 (by kernel_rfl) (by rfl) (by rw [k.size]; rfl) rfl
     case h =>
      intro lx ax wx hE hI hl hA hF; have hO := hI.pre (by rfl) hl
      exact Z02 rfl (hE.g e0)
     apply BuildA.det 59 (by kernel_rfl) (by rfl) (by rw [k.size]; rfl) rfl
     case h =>
      intro lx ax wx hE hI hl hA hF; have e58 := hF 0 (detL 0 58 _) (by decide) ml0
      have hO := hI.pre (by rfl) hl
      exact Z2g (l := l) Tryz.underlying9 rfl e58 rfl 16 rfl (by omega)
     apply BuildA.det 60 (by kernel_rfl) (by rfl) (by rw [k.size]; rfl) rfl
     case h =>
      intro lx ax wx hE hI hl hA hF; have hO := hI.pre (by rfl) hl
      exact Z02 rfl (hE.g e0)
     apply BuildA.det 61 (by kernel_rfl) (by rfl) (by rw [k.size]; rfl) rfl
     case h =>
      intro lx ax wx hE hI hl hA hF; have e60 := hF 2 (detL 2 60 _) (by decide) ml0
      have hO := hI.pre (by rfl) hl
      exact Z2f (v := .string (sB ((l.take 32).drop 16))) (Z2y (l := l) (a := 16) (b := 32) Tryz.underlying9 rfl e60 rfl rfl (by omega) (by omega)) rfl
     refine BuildA.call (by kernel_rfl) rfl (by rw [k.size]; rfl) rfl ?_ ?_
     · intro lx ax wx hE hO hA hF; have e59 := hF 1 (detL 1 59 _) (by decide) ml2
       have e61 := hF 3 (detL 3 61 _) (by decide) ml0
       refine ⟨_, _, by simp [go_sem, ↓IntWalk.iteOmega, ev e59, ev e61], fun X OX => (hnw wx).mono (fun e w' h => ⟨_, _, h.1, ⟨rfl, rfl⟩, OX.ext h.2⟩)⟩
     refine BuildA.rel 57 62 (fun v => v) (by rfl) (by kernel_rfl) (by rfl) (by rw [k.size]; rfl) rfl ?_ ?_
     · intro lx ax wx hE hI hA hF; exact Z02 rfl rfl
     refine BuildA.rel 63 62 (fun v => projV v 0) (by rfl) (by kernel_rfl) (by rfl) (by rw [k.size]; rfl) rfl ?_ ?_
     · intro lx ax wx hE hI hA hF; have e57 : ax.eval (.tmp 57) = _ := hF 5 (relL 5 57 62 (fun v => v)) (by decide) ml0
       obtain ⟨_, fic⟩ := hI.val (hA 4 (by decide))
       obtain ⟨hv, rfl⟩ := fic
       rw [hv]
       rw [hv] at e57
       simp [go_sem, ↓IntWalk.iteOmega, ev e57, projV]
     refine BuildA.rel 64 62 (fun v => projV v 1) (by rfl) (by kernel_rfl) (by rfl) (by rw [k.size]; rfl) rfl ?_ ?_
     · intro lx ax wx hE hI hA hF; have e57 : ax.eval (.tmp 57) = _ := hF 5 (relL 5 57 62 (fun v => v)) (by decide) ml1
       obtain ⟨_, fic⟩ := hI.val (hA 4 (by decide))
       obtain ⟨hv, rfl⟩ := fic
       rw [hv]
       rw [hv] at e57
       simp [go_sem, ↓IntWalk.iteOmega, ev e57, projV]
     refine BuildA.rel 65 62 (fun v => projV v 2) (by rfl) (by kernel_rfl) (by rfl) (by rw [k.size]; rfl) rfl ?_ ?_
     · intro lx ax wx hE hI hA hF; have e57 : ax.eval (.tmp 57) = _ := hF 5 (relL 5 57 62 (fun v => v)) (by decide) ml2
       obtain ⟨_, fic⟩ := hI.val (hA 4 (by decide))
       obtain ⟨hv, rfl⟩ := fic
       rw [hv]
       rw [hv] at e57
       simp [go_sem, ↓IntWalk.iteOmega, ev e57, projV]
     refine BuildA.alloc (by kernel_rfl) rfl (by rw [k.size]; rfl) rfl (fun a_ w_ => by simp [go_sem, ↓IntWalk.iteOmega]; first | done | kernel_rfl | rfl) ?_
     refine BuildA.store (by kernel_rfl) rfl rfl ?_ ?_
     · intro lx ax wx g_ L_ hE hA hF es hΦ O; have e63 : ax.eval (.tmp 63) = _ := hF 6 (relL 6 63 62 (fun v => projV v 0)) (by decide) ml3
       obtain ⟨hv, rfl⟩ := hΦ
       rw [hv] at e63
       replace e63 : ax.eval (.tmp 63) = .agg #[.int .u64 ↑xg, .int .i64 xr, .int .i64 xa, .int .i64 xb, .int .i64 xc] := e63
       have hb := O.b0
       refine ⟨(((((wx.setCell ⟨g_, 0, none⟩ (.int .u64 ↑xg)).setCell ⟨g_, 1, none⟩ (.int .i64 xr)).setCell ⟨g_, 2, none⟩ (.int .i64 xa)).setCell ⟨g_, 3, none⟩ (.int .i64 xb)).setCell ⟨g_, 4, none⟩ (.int .i64 xc)), ?_, ?_⟩
       · have q0 : wx.cell? ⟨g_, 0, none⟩ = some (.int .u64 0) := hb.cell 0
         have z0 : wx.frozen? ⟨g_, 0, none⟩ = false := hb.frozen 0
         have q1 : wx.cell? ⟨g_, 1, none⟩ = some (.int .i64 0) := hb.cell 1
         have z1 : wx.frozen? ⟨g_, 1, none⟩ = false := hb.frozen 1
         have q2 : wx.cell? ⟨g_, 2, none⟩ = some (.int .i64 0) := hb.cell 2
         have z2 : wx.frozen? ⟨g_, 2, none⟩ = false := hb.frozen 2
         have q3 : wx.cell? ⟨g_, 3, none⟩ = some (.int .i64 0) := hb.cell 3
         have z3 : wx.frozen? ⟨g_, 3, none⟩ = false := hb.frozen 3
         have q4 : wx.cell? ⟨g_, 4, none⟩ = some (.int .i64 0) := hb.cell 4
         have z4 : wx.frozen? ⟨g_, 4, none⟩ = false := hb.frozen 4
         simp [go_sem, ↓IntWalk.iteOmega, ev es, ev e63, q0, z0, q1, z1, q2, z2, q3, z3, q4, z4]
       · have O2 := (((((O.set 0 (.int .u64 ↑xg)).set 1 (.int .i64 xr)).set 2 (.int .i64 xa)).set 3 (.int .i64 xb)).set 4 (.int .i64 xc))
         rw [hv]
         exact O2
     refine BuildA.rel 14 62 (fun v => projV v 1) (by rfl) (by kernel_rfl) (by rfl) (by rw [k.size]; rfl) rfl ?_ ?_
     · intro lx ax wx hE hI hA hF; have e64 : ax.eval (.tmp 64) = _ := hF 7 (relL 7 64 62 (fun v => projV v 1)) (by decide) ml3
       exact Z01 rfl e64
     apply BuildM.stop
     refine ⟨by kernel_rfl, ?_⟩
     clear O; intro lx a57 w58 hE hI hL hF; obtain ⟨hb, L_, e13, fic, O⟩ := hI.end_ (hL 4 (Nat.le_of_ble_eq_true rfl)) (hL 9 (Nat.le_of_ble_eq_true rfl)) (hL 10 (Nat.le_of_ble_eq_true rfl))
     have e65 : a57.eval (.tmp 65) = _ := hF 8 (relL 8 65 62 (fun v => projV v 2)) ml3
     clear hF hI hL; obtain ⟨hv, rfl⟩ := fic
     rw [hv] at e65
     replace e65 : a57.eval (.tmp 65) = .bool true := e65
     rw [hv] at O
     clear hv; replace O : OwnT _ _ ([tBlk hb 39 #[.int .u64 ↑xg, .int .i64 xr, .int .i64 xa, .int .i64 xb, .int .i64 xc], tBlk sb 102 (stB p ((⟨xg, xr, xa, xb, xc⟩ : Hd)) xi kb fb), tMap kb 512 (keptV ((fun _ => false))), tMap fb 512 ((fun _ => none)), tPool ([]) ([]), tDisc p mb B ns cap bm S noL, tMn mb mn0, tBlk tb 33 #[.int .i64 s0, .int .i64 s1]]) w58 := O
     simp only [List.length_cons, List.length_nil, Nat.zero_add, Nat.reduceAdd, List.drop_succ_cons, List.drop_zero, List.drop_nil, tailOps]
     apply Z4m (w' := w58) 15 [58, 59, 60, 61, 62, 57, 63, 64, 65, 13, 14, 15] hE k rfl (by rfl) (by rfl) (by rfl)
     case h =>
      exact Z01 rfl e65
     intro a59 hE e15 kp; replace e13 := kt kp e13; replace e0 := hE.g e0; replace e1 := hE.g e1; replace e3 := hE.g e3; replace e6 := hE.g e6; replace e9 := hE.g e9; replace e10 := hE.g e10; replace e11 := hE.g e11; replace e12 := hE.g e12; replace k := k.env hE; clear hE e50; refine Z00 ?_; have hss := OwnT.stR O.tail
     have hdd := OwnT.disc (OwnT.pull O 5 rfl)
     have ok0 := stok_nil (P := pgs ns) (by unfold pgs; omega)

     refine wp_seq ?_; refine wp_region_lit ?_
     have hE := Env.refl a59 [66, 67]; refine zm 66 hE k e15 ?_; intro a60 hE e66 kp; refine sd 67 hE k (Z1n rfl e66) ?_; intro a61 hE e67 kp; refine wpList_nil ?_; replace e0 := hE.g e0; replace e1 := hE.g e1; replace e3 := hE.g e3; replace e6 := hE.g e6; replace e9 := hE.g e9; replace e10 := hE.g e10; replace e11 := hE.g e11; replace e12 := hE.g e12; replace e13 := hE.g e13; replace k := k.env hE; clear hE e15; refine Z00 ?_; refine Z0b e67 rfl ?_
     refine wp_seq ?_; refine Z0n (R := Ext) (w0 := w58) [[], [0], [0, 1], [0, 1, 2], rg 4, rg 5, rg 6, rg 7, rg 8, rg 7, rg 10, rg 11, rg 12, rg 13, rg 14, rg 13, rg 16, rg 17, rg 18, rg 19, rg 20, rg 19, [0, 1, 2, 3, 4, 5, 6, 7, 8, 9, 10, 11, 12, 13, 14, 15, 16, 17, 18, 21], rg 23, rg 24] [74, 75, 76, 77, 78, 79, 80, 81, 82, 83, 84, 85, 86, 87, 88, 89, 90, 91, 92, 93, 94, 95, 96, 97, 98] Ext.refl (fun _ _ _ => Ext.trans) (Ext.drew _) (by kernel_rfl) ?_
     apply bd 74 k rfl rfl rfl; case h =>
      intro ax wx hE hR hF; exact Z02 rfl (hE.g e12)
     apply bd 75 k rfl rfl rfl; case h =>
      intro ax wx hE hR hF; have e74 := zhF hF 0 74 ml0; exact Z08 (Z0x rfl e74 rfl) (decide_eq_false (by omega))
     apply bd 76 k rfl rfl rfl; case h =>
      intro ax wx hE hR hF; have e75 := zhF hF 1 75 ml0; exact Z02 rfl e75
     apply bdg 77 k rfl rfl rfl rfl; case h =>
      intro ax wx hE hR hF; have e76 := zhF hF 2 76 ml0; refine ⟨e76, ?_⟩; exact Z02 rfl (hE.g e11)
     apply bdg 78 k rfl rfl rfl rfl; case h =>
      intro ax wx hE hR hF; have e77 := zhF hF 3 77 ml0; have e76 := zhF hF 2 76 ml1; refine ⟨e76, ?_⟩; simp [go_sem, ↓IntWalk.iteOmega, ev e77]
      with_reducible rfl
     apply bd 79 k rfl rfl rfl; case h =>
      intro ax wx hE hR hF; have e76 := zhF hF 2 76 ml2; have e78 := zhF hF 4 78 ml0; exact Z07 rfl e76 e78
     apply bd 80 k rfl rfl rfl; case h =>
      intro ax wx hE hR hF; have e79 := zhF hF 5 79 ml0; exact Z02 rfl e79
     apply bdg 81 k rfl rfl rfl rfl; case h =>
      intro ax wx hE hR hF; have e80 := zhF hF 6 80 ml0; refine ⟨e80, ?_⟩; exact Z02 rfl (hE.g e11)
     apply Build.callg 82 Ext.refl (by rfl) (by rw [k.size]; rfl) rfl rfl
     case h =>
      intro ax wx hE hR hF; have e81 := zhF hF 7 81 ml0; have e80 := zhF hF 6 80 ml1; refine ⟨e80, ?_⟩; simp [go_sem, ↓IntWalk.iteOmega, ev e81]
      with_reducible exact ⟨rfl, rfl⟩
     case hc => intro wx hR; exact (show Calls _ _ _ _ (fun e w' => e = .returned (.agg #[.int .u64 ↑xg, .int .i64 xr, .int .i64 xa, .int .i64 xb, .int .i64 xc]) ∧ Ext wx w') from (Z3g wx (hss.ext hR)).mono (fun e w' h => ⟨h.1.trans (rfl), h.2⟩))
     apply bdg 83 k rfl rfl rfl rfl; case h =>
      intro ax wx hE hR hF; have e80 := zhF hF 6 80 ml2; refine ⟨e80, ?_⟩; have q0 : wx.cell? ⟨hb, 0, none⟩ = some (.int .u64 ↑xg) := (OwnT.blk (OwnT.ext O hR) 0 rfl).cell 0
      have q1 : wx.cell? ⟨hb, 1, none⟩ = some (.int .i64 xr) := (OwnT.blk (OwnT.ext O hR) 0 rfl).cell 1
      have q2 : wx.cell? ⟨hb, 2, none⟩ = some (.int .i64 xa) := (OwnT.blk (OwnT.ext O hR) 0 rfl).cell 2
      have q3 : wx.cell? ⟨hb, 3, none⟩ = some (.int .i64 xb) := (OwnT.blk (OwnT.ext O hR) 0 rfl).cell 3
      have q4 : wx.cell? ⟨hb, 4, none⟩ = some (.int .i64 xc) := (OwnT.blk (OwnT.ext O hR) 0 rfl).cell 4
      simp [go_sem, ↓IntWalk.iteOmega, ev (hE.g e13), q0, q1, q2, q3, q4]
      with_reducible rfl
     apply bdg 84 k rfl rfl rfl rfl; case h =>
      intro ax wx hE hR hF; have e82 := zhF hF 8 82 ml1; have e83 := zhF hF 9 83 ml0; have e80 := zhF hF 6 80 ml3; refine ⟨e80, ?_⟩; exact x_neHd rfl e82 e83
     apply bd 85 k rfl rfl rfl; case h =>
      intro ax wx hE hR hF; have e80 := zhF hF 6 80 ml4; have e84 := zhF hF 10 84 ml0; exact Z07 rfl e80 e84
     apply bd 86 k rfl rfl rfl; case h =>
      intro ax wx hE hR hF; have e85 := zhF hF 11 85 ml0; exact Z02 rfl e85
     apply bdg 87 k rfl rfl rfl rfl; case h =>
      intro ax wx hE hR hF; have e86 := zhF hF 12 86 ml0; refine ⟨e86, ?_⟩; exact Z02 rfl (hE.g e11)
     apply Build.callg 88 Ext.refl (by rfl) (by rw [k.size]; rfl) rfl rfl
     case h =>
      intro ax wx hE hR hF; have e87 := zhF hF 13 87 ml0; have e86 := zhF hF 12 86 ml1; refine ⟨e86, ?_⟩; simp [go_sem, ↓IntWalk.iteOmega, ev e87]
      with_reducible exact ⟨rfl, rfl⟩
     case hc => intro wx hR; exact (show Calls _ _ _ _ (fun e w' => e = .returned (.int .i64 ↑P) ∧ Ext wx w') from ((Z1o wx (hss.ext hR) (hdd.ext hR)).mono (fun e w' h => (⟨h.1, h.2 ▸ Ext.refl _⟩ : _ ∧ Ext wx w'))).mono (fun e w' h => ⟨h.1.trans (by rw [hP]), h.2⟩))
     apply bdg 89 k rfl rfl rfl rfl; case h =>
      intro ax wx hE hR hF; have e86 := zhF hF 12 86 ml2; refine ⟨e86, ?_⟩; exact Z02 rfl (hE.g e10)
     apply bdg 90 k rfl rfl rfl rfl; case h =>
      intro ax wx hE hR hF; have e88 := zhF hF 14 88 ml1; have e89 := zhF hF 15 89 ml0; have e86 := zhF hF 12 86 ml3; refine ⟨e86, ?_⟩; exact Z08 (Z0x rfl e88 e89) (decide_eq_false (by omega))
     apply bd 91 k rfl rfl rfl; case h =>
      intro ax wx hE hR hF; have e86 := zhF hF 12 86 ml4; have e90 := zhF hF 16 90 ml0; exact Z07 rfl e86 e90
     apply bd 92 k rfl rfl rfl; case h =>
      intro ax wx hE hR hF; have e91 := zhF hF 17 91 ml0; exact Z02 rfl e91
     apply bdg 93 k rfl rfl rfl rfl; case h =>
      intro ax wx hE hR hF; have e92 := zhF hF 18 92 ml0; refine ⟨e92, ?_⟩; exact Z02 rfl (hE.g e11)
     apply Build.callg 94 Ext.refl (by rfl) (by rw [k.size]; rfl) rfl rfl
     case h =>
      intro ax wx hE hR hF; have e93 := zhF hF 19 93 ml0; have e92 := zhF hF 18 92 ml1; refine ⟨e92, ?_⟩; simp [go_sem, ↓IntWalk.iteOmega, ev e93]
      with_reducible exact ⟨rfl, rfl⟩
     case hc => intro wx hR; exact (show Calls _ _ _ _ (fun e w' => e = .returned (.int .i64 (↑P - 1)) ∧ Ext wx w') from (Z5v wx (hss.ext hR) (hdd.ext hR) ok0 rfl).mono (fun e w' h => ⟨h.1.trans (congrArg (fun z => Ending.returned (Value.int .i64 z)) (by rw [kL_no, fL_no, hP, List.length_nil]; omega)), h.2⟩))
     apply bdg 95 k rfl rfl rfl rfl; case h =>
      intro ax wx hE hR hF; have e92 := zhF hF 18 92 ml2; refine ⟨e92, ?_⟩; exact Z02 rfl (hE.g e10)
     apply bdg 96 k rfl rfl rfl rfl; case h =>
      intro ax wx hE hR hF; have e95 := zhF hF 21 95 ml0; have e92 := zhF hF 18 92 ml3; refine ⟨e92, ?_⟩; exact Z3d rfl e95 rfl (by omega)
     apply bdg 97 k rfl rfl rfl rfl; case h =>
      intro ax wx hE hR hF; have e94 := zhF hF 20 94 ml2; have e96 := zhF hF 22 96 ml0; have e92 := zhF hF 18 92 ml4; refine ⟨e92, ?_⟩; exact Z08 (Z0x rfl e94 e96) (decide_eq_false (by omega))
     apply bd 98 k rfl rfl rfl; case h =>
      intro ax wx hE hR hF; have e92 := zhF hF 18 92 ml5; have e97 := zhF hF 23 97 ml0; exact Z07 rfl e92 e97
     apply Build.stop
     refine ⟨by kernel_rfl, .inl ⟨rfl, ?_⟩⟩
     intro a62 w63 hE R hF; have e98 : a62.eval (.tmp 98) = _ := hF 24 (det 98 _) ml0
     clear hF; replace O := OwnT.ext O R; clear R; replace e0 := hE.g e0; replace e1 := hE.g e1; replace e3 := hE.g e3; replace e6 := hE.g e6; replace e9 := hE.g e9; replace e10 := hE.g e10; replace e11 := hE.g e11; replace k := k.env hE; clear hE e12 e13 e67; refine Z00 ?_; refine Z0b e98 rfl ?_
     by_cases hpr : 1 ≤ page ∧ page < (pgs ns : Nat)
     rotate_left
     · skip
       refine wp_seq ?_; refine wp_region_lit ?_
       have hE := Env.refl a62 [100, 101, 102, 99, 103, 104, 16, 17]; refine zm 100 hE k e11 ?_; intro a64 hE e100 kp; refine zm 101 hE k e1 ?_; intro a65 hE e101 kp; replace e100 := kt kp e100; apply Z06 102 hE k rfl (by rfl) (by rfl) rfl
       case h =>
        simp [go_sem, ↓IntWalk.iteOmega, ev e100, ev e101]
        with_reducible exact ⟨rfl, rfl⟩
       case hc => exact Z88 page _ (OwnT.stR O.tail) (OwnT.disc (OwnT.pull O 5 rfl)) hpr
       rintro e w67 ⟨rfl, RE⟩
       replace O := OwnT.ext O RE; refine ⟨_, rfl, ?_⟩
       intro a66 hE e102 kp; refine sd 99 hE k (Z02 rfl e102) ?_; intro a68 hE e99 kp; apply Z04 103 hE k rfl rfl rfl rfl; case h =>
        simp [go_sem, ↓IntWalk.iteOmega, ev e99]
        with_reducible rfl
       intro a69 hE e103 kp; replace e99 := kt kp e99; apply Z04 104 hE k rfl rfl rfl rfl; case h =>
        simp [go_sem, ↓IntWalk.iteOmega, ev e99]
        with_reducible rfl
       intro a70 hE e104 kp; replace e103 := kt kp e103; refine Z0o O (cs := #[.int .i64 0, .slice none 0 0]) (t := 47) 16 hE k rfl (by rfl) (by rfl) rfl (by simp [go_sem, ↓IntWalk.iteOmega]) ?_
       clear O; intro lb a71 w72 O hE e16 kp; replace e103 := kt kp e103; replace e104 := kt kp e104; have q0 : w72.cell? ⟨lb, 0, none⟩ = some (.int .i64 0) := (OwnT.blk O 0 rfl).cell 0
       have z0 : w72.frozen? ⟨lb, 0, none⟩ = false := (OwnT.blk O 0 rfl).frozen 0
       have q1 : w72.cell? ⟨lb, 1, none⟩ = some (.slice none 0 0) := (OwnT.blk O 0 rfl).cell 1
       have z1 : w72.frozen? ⟨lb, 1, none⟩ = false := (OwnT.blk O 0 rfl).frozen 1
       refine Z0m (w' := ((w72.setCell ⟨lb, 0, none⟩ (.int .i64 0)).setCell ⟨lb, 1, none⟩ (.slice none 0 0))) hE rfl rfl (by simp [go_sem, ↓IntWalk.iteOmega, ev e16, ev e103, q0, z0, q1, z1]) ?_
       replace O := OwnT.push 0 rfl (((OwnT.pull O 0 rfl).set 0 (.int .i64 0)).set 1 (.slice none 0 0))
       clear q0 z0 q1 z1; generalize ((w72.setCell ⟨lb, 0, none⟩ (.int .i64 0)).setCell ⟨lb, 1, none⟩ (.slice none 0 0)) = w73 at O ⊢
       replace O : OwnT _ _ ([tBlk lb 47 #[.int .i64 0, .slice none 0 0], tBlk hb 39 #[.int .u64 ↑xg, .int .i64 xr, .int .i64 xa, .int .i64 xb, .int .i64 xc], tBlk sb 102 (stB p ((⟨xg, xr, xa, xb, xc⟩ : Hd)) xi kb fb), tMap kb 512 (keptV ((fun _ => false))), tMap fb 512 ((fun _ => none)), tPool ([]) ([]), tDisc p mb B ns cap bm S noL, tMn mb mn0, tBlk tb 33 #[.int .i64 s0, .int .i64 s1]]) w73 := O
       refine sd 17 hE k (Z01 rfl e104) ?_; intro a74 hE e17 kp; replace e16 := kt kp e16; refine wpList_nil ?_; replace e0 := hE.g e0; replace e1 := hE.g e1; replace e3 := hE.g e3; replace e6 := hE.g e6; replace e9 := hE.g e9; replace e10 := hE.g e10; replace k := k.env hE; clear hE e11 e98; refine Z00 ?_; rw [hP] at hpr
       by_cases hp1 : page < 1
       · skip
         refine wp_seq ?_; refine wp_region_lit ?_
         have hE := Env.refl a74 [105, 106, 107, 108, 109, 110, 111]; refine zm 105 hE k e1 ?_; intro a75 hE e105 kp; refine sd 106 hE k (Z08 (Z14 rfl e105 rfl) (decide_eq_true (by omega))) ?_
         intro a76 hE e106 kp; refine sd 107 hE k (Z02 rfl e106) ?_; intro a77 hE e107 kp; refine Z05 108 hE k rfl (by rfl) (by rfl) rfl rfl (.inl e107) ?_
         intro a78 hE e108 kp; replace e107 := kt kp e107; refine Z05 109 hE k rfl (by rfl) (by rfl) rfl rfl (.inl e107) ?_
         intro a79 hE e109 kp; replace e107 := kt kp e107; replace e108 := kt kp e108; refine Z05 110 hE k rfl (by rfl) (by rfl) rfl rfl (.inl e107) ?_
         intro a80 hE e110 kp; replace e107 := kt kp e107; refine sd 111 hE k (Z0a rfl e107 rfl) ?_; intro a81 hE e111 kp; refine wpList_nil ?_; replace e0 := hE.g e0; replace e1 := hE.g e1; replace e3 := hE.g e3; replace e6 := hE.g e6; replace e9 := hE.g e9; replace e10 := hE.g e10; replace e16 := hE.g e16; replace e17 := hE.g e17; replace k := k.env hE; clear hE; refine Z00 ?_; refine Z0i e111 rfl ?_
         refine wp_seq ?_; refine wp_region_lit ?_
         have hE := Env.refl a81 [112, 113]; refine zm 112 hE k e17 ?_; intro a82 hE e112 kp; refine sd 113 hE k (Z0x rfl e112 rfl) ?_; intro a83 hE e113 kp; refine wpList_nil ?_; replace e3 := hE.g e3; replace e6 := hE.g e6; replace e9 := hE.g e9; replace e10 := hE.g e10; replace k := k.env hE; clear hE e0 e1 e16 e17 e111; refine Z00 ?_; refine Z0b e113 rfl ?_
         refine wp_skip ?_; refine Z00 ?_; replace O : OwnT _ _ ([tDisc p mb B ns cap bm S noL, tMn mb mn0, tBlk tb 33 #[.int .i64 s0, .int .i64 s1]]) w73 := OwnT.pick O [6, 7, 8] (by decide)
         exact ⟨k, e3, e6, e9, e10, (), O⟩
       · skip
         refine wp_seq ?_; refine wp_region_lit ?_
         have hE := Env.refl a74 [105, 106, 107, 108, 109, 110, 111]; refine zm 105 hE k e1 ?_; intro a84 hE e105 kp; refine sd 106 hE k (Z08 (Z14 rfl e105 rfl) (decide_eq_false (by omega))) ?_
         intro a85 hE e106 kp; refine sd 107 hE k (Z02 rfl e106) ?_; intro a86 hE e107 kp; apply Z03 108 hE k rfl rfl rfl rfl rfl e107
         case h =>
          exact Z02 rfl (hE.g e1)
         intro a87 hE e108 kp; replace e107 := kt kp e107; apply Z03 109 hE k rfl rfl rfl rfl rfl e107
         case h =>
          exact Z02 rfl (hE.g e10)
         intro a88 hE e109 kp; replace e107 := kt kp e107; replace e108 := kt kp e108; apply Z03 110 hE k rfl rfl rfl rfl rfl e107
         case h =>
          exact Z08 (Z1q rfl e108 e109) (decide_eq_true (by omega))
         intro a89 hE e110 kp; replace e107 := kt kp e107; refine sd 111 hE k (Z07 rfl e107 e110) ?_; intro a90 hE e111 kp; refine wpList_nil ?_; replace e0 := hE.g e0; replace e1 := hE.g e1; replace e3 := hE.g e3; replace e6 := hE.g e6; replace e9 := hE.g e9; replace e10 := hE.g e10; replace e16 := hE.g e16; replace e17 := hE.g e17; replace k := k.env hE; clear hE; refine Z00 ?_; refine Z0i e111 rfl ?_
         refine wp_seq ?_; refine wp_region_lit ?_
         have hE := Env.refl a90 [112, 113]; refine zm 112 hE k e17 ?_; intro a91 hE e112 kp; refine sd 113 hE k (Z0x rfl e112 rfl) ?_; intro a92 hE e113 kp; refine wpList_nil ?_; replace e3 := hE.g e3; replace e6 := hE.g e6; replace e9 := hE.g e9; replace e10 := hE.g e10; replace k := k.env hE; clear hE e0 e1 e16 e17 e111; refine Z00 ?_; refine Z0b e113 rfl ?_
         refine wp_skip ?_; refine Z00 ?_; replace O : OwnT _ _ ([tDisc p mb B ns cap bm S noL, tMn mb mn0, tBlk tb 33 #[.int .i64 s0, .int .i64 s1]]) w73 := OwnT.pick O [6, 7, 8] (by decide)
         exact ⟨k, e3, e6, e9, e10, (), O⟩
     obtain ⟨q, hq⟩ : ∃ q : Nat, page = (q : Int) := ⟨page.toNat, by omega⟩
     obtain ⟨pg, hpgq⟩ : ∃ z, readL S noL (16 * q) 16 = z := ⟨_, rfl⟩
     have hpq : 1 ≤ q ∧ q < P := by omega
     have hcut : (l.take (256 * q + 256)).drop (256 * q) = pg := by
      rw [cut_at, ← hpgq, hrd _ _ (by unfold pgs at hP; omega)]
      congr 2
      omega

     cases hrb : readB pg with
     | false =>
      refine wp_seq ?_; refine wp_region_lit ?_
      have hE := Env.refl a62 [100, 101, 102, 99, 103, 104, 16, 17]; refine zm 100 hE k e11 ?_; intro a93 hE e100 kp; refine zm 101 hE k e1 ?_; intro a94 hE e101 kp; replace e100 := kt kp e100; apply Z06 102 hE k rfl (by rfl) (by rfl) rfl
      case h =>
       simp [go_sem, ↓IntWalk.iteOmega, ev e100, ev e101]
       with_reducible exact ⟨rfl, rfl⟩
      case hc => exact (sread_form (M := mn0) q page _ (OwnT.stR O.tail) (OwnT.disc (OwnT.pull O 5 rfl)) ok0 hpr rfl hq (OwnT.get O 6 rfl) rfl (by rw [hpgq]; exact hrb))
      rintro e w96 ⟨rfl, RE⟩
      replace O := OwnT.ext O RE; refine ⟨_, rfl, ?_⟩
      intro a95 hE e102 kp; refine sd 99 hE k (Z02 rfl e102) ?_; intro a97 hE e99 kp; apply Z04 103 hE k rfl rfl rfl rfl; case h =>
       simp [go_sem, ↓IntWalk.iteOmega, ev e99]
       with_reducible rfl
      intro a98 hE e103 kp; replace e99 := kt kp e99; apply Z04 104 hE k rfl rfl rfl rfl; case h =>
       simp [go_sem, ↓IntWalk.iteOmega, ev e99]
       with_reducible rfl
      intro a99 hE e104 kp; replace e103 := kt kp e103; refine Z0o O (cs := #[.int .i64 0, .slice none 0 0]) (t := 47) 16 hE k rfl (by rfl) (by rfl) rfl (by simp [go_sem, ↓IntWalk.iteOmega]) ?_
      clear O; intro lb a100 w101 O hE e16 kp; replace e103 := kt kp e103; replace e104 := kt kp e104; have q0 : w101.cell? ⟨lb, 0, none⟩ = some (.int .i64 0) := (OwnT.blk O 0 rfl).cell 0
      have z0 : w101.frozen? ⟨lb, 0, none⟩ = false := (OwnT.blk O 0 rfl).frozen 0
      have q1 : w101.cell? ⟨lb, 1, none⟩ = some (.slice none 0 0) := (OwnT.blk O 0 rfl).cell 1
      have z1 : w101.frozen? ⟨lb, 1, none⟩ = false := (OwnT.blk O 0 rfl).frozen 1
      refine Z0m (w' := ((w101.setCell ⟨lb, 0, none⟩ (.int .i64 0)).setCell ⟨lb, 1, none⟩ (.slice none 0 0))) hE rfl rfl (by simp [go_sem, ↓IntWalk.iteOmega, ev e16, ev e103, q0, z0, q1, z1]) ?_
      replace O := OwnT.push 0 rfl (((OwnT.pull O 0 rfl).set 0 (.int .i64 0)).set 1 (.slice none 0 0))
      clear q0 z0 q1 z1; generalize ((w101.setCell ⟨lb, 0, none⟩ (.int .i64 0)).setCell ⟨lb, 1, none⟩ (.slice none 0 0)) = w102 at O ⊢
      replace O : OwnT _ _ ([tBlk lb 47 #[.int .i64 0, .slice none 0 0], tBlk hb 39 #[.int .u64 ↑xg, .int .i64 xr, .int .i64 xa, .int .i64 xb, .int .i64 xc], tBlk sb 102 (stB p ((⟨xg, xr, xa, xb, xc⟩ : Hd)) xi kb fb), tMap kb 512 (keptV ((fun _ => false))), tMap fb 512 ((fun _ => none)), tPool ([]) ([]), tDisc p mb B ns cap bm S noL, tMn mb mn0, tBlk tb 33 #[.int .i64 s0, .int .i64 s1]]) w102 := O
      refine sd 17 hE k (Z01 rfl e104) ?_; intro a103 hE e17 kp; replace e16 := kt kp e16; refine wpList_nil ?_; replace e0 := hE.g e0; replace e1 := hE.g e1; replace e3 := hE.g e3; replace e6 := hE.g e6; replace e9 := hE.g e9; replace e10 := hE.g e10; replace k := k.env hE; clear hE e11 e98; refine Z00 (wp_seq ?_); refine wp_region_lit ?_
      have hE := Env.refl a103 [105, 106, 107, 108, 109, 110, 111]; refine zm 105 hE k e1 ?_; intro a104 hE e105 kp; refine sd 106 hE k (Z08 (Z14 rfl e105 rfl) (decide_eq_false (by omega))) ?_
      intro a105 hE e106 kp; refine sd 107 hE k (Z02 rfl e106) ?_; intro a106 hE e107 kp; apply Z03 108 hE k rfl rfl rfl rfl rfl e107
      case h =>
       exact Z02 rfl (hE.g e1)
      intro a107 hE e108 kp; replace e107 := kt kp e107; apply Z03 109 hE k rfl rfl rfl rfl rfl e107
      case h =>
       exact Z02 rfl (hE.g e10)
      intro a108 hE e109 kp; replace e107 := kt kp e107; replace e108 := kt kp e108; apply Z03 110 hE k rfl rfl rfl rfl rfl e107
      case h =>
       exact Z08 (Z1q rfl e108 e109) (decide_eq_false (by omega))
      intro a109 hE e110 kp; replace e107 := kt kp e107; refine sd 111 hE k (Z07 rfl e107 e110) ?_; intro a110 hE e111 kp; refine wpList_nil ?_; replace e0 := hE.g e0; replace e1 := hE.g e1; replace e3 := hE.g e3; replace e6 := hE.g e6; replace e9 := hE.g e9; replace e10 := hE.g e10; replace e16 := hE.g e16; replace e17 := hE.g e17; replace k := k.env hE; clear hE; refine Z00 ?_; refine Z0b e111 rfl ?_
      refine wp_seq ?_; refine wp_region_lit ?_
      have hE := Env.refl a110 [115, 116, 117, 118, 119, 120, 121, 122, 114, 123, 124, 18, 19]; refine zm 115 hE k e0 ?_; intro a111 hE e115 kp; refine zm 116 hE k e1 ?_; intro a112 hE e116 kp; replace e115 := kt kp e115; refine sd 117 hE k (Z74 rfl rfl e116 (by omega)) ?_; intro a113 hE e117 kp; replace e115 := kt kp e115; replace e117 := e117.trans (Z12 (show 256 * page = ((256 * q : Nat) : Int) by omega))
      refine zm 118 hE k e1 ?_; intro a114 hE e118 kp; replace e115 := kt kp e115; replace e117 := kt kp e117; refine sd 119 hE k (Z74 rfl rfl e118 (by omega)) ?_; intro a115 hE e119 kp; replace e115 := kt kp e115; replace e117 := kt kp e117; replace e119 := e119.trans (Z12 (show 256 * page = ((256 * q : Nat) : Int) by omega))
      refine sd 120 hE k (Z38 rfl e119 rfl (by omega)) ?_; intro a116 hE e120 kp; replace e115 := kt kp e115; replace e117 := kt kp e117; replace e120 := e120.trans (Z12 (show ((256 * q : Nat) : Int) + 256 = ((256 * q + 256 : Nat) : Int) by omega))
      refine sd 121 hE k (Z2f (v := .string (sB pg)) (Z2y (l := l) (a := 256 * q) (b := 256 * q + 256) Tryz.underlying9 rfl e115 e117 e120 (by omega) (by omega)) (by rw [hcut])) ?_
      intro a117 hE e121 kp; apply Z06 122 hE k rfl (by rfl) (by rfl) rfl
      case h =>
       simp [go_sem, ↓IntWalk.iteOmega, ev e121]
       with_reducible exact ⟨rfl, rfl⟩
      case hc => exact Z60 (sB pg) _ pg (Z2h pg)
      rintro e w119 ⟨RE, hn0, -⟩
      obtain rfl := hn0 hrb
      replace O := OwnT.ext O RE; refine ⟨_, rfl, ?_⟩
      intro a118 hE e122 kp; refine sd 114 hE k (Z02 rfl e122) ?_; intro a120 hE e114 kp; apply Z04 123 hE k rfl rfl rfl rfl; case h =>
       simp [go_sem, ↓IntWalk.iteOmega, ev e114]
       with_reducible rfl
      intro a121 hE e123 kp; replace e114 := kt kp e114; apply Z04 124 hE k rfl rfl rfl rfl; case h =>
       simp [go_sem, ↓IntWalk.iteOmega, ev e114]
       with_reducible rfl
      intro a122 hE e124 kp; replace e123 := kt kp e123; refine Z0o O (cs := #[.int .i64 0, .slice none 0 0]) (t := 47) 18 hE k rfl (by rfl) (by rfl) rfl (by simp [go_sem, ↓IntWalk.iteOmega]) ?_
      clear O; intro lc a123 w124 O hE e18 kp; replace e123 := kt kp e123; replace e124 := kt kp e124; have q0 : w124.cell? ⟨lc, 0, none⟩ = some (.int .i64 0) := (OwnT.blk O 0 rfl).cell 0
      have z0 : w124.frozen? ⟨lc, 0, none⟩ = false := (OwnT.blk O 0 rfl).frozen 0
      have q1 : w124.cell? ⟨lc, 1, none⟩ = some (.slice none 0 0) := (OwnT.blk O 0 rfl).cell 1
      have z1 : w124.frozen? ⟨lc, 1, none⟩ = false := (OwnT.blk O 0 rfl).frozen 1
      refine Z0m (w' := ((w124.setCell ⟨lc, 0, none⟩ (.int .i64 0)).setCell ⟨lc, 1, none⟩ (.slice none 0 0))) hE rfl rfl (by simp [go_sem, ↓IntWalk.iteOmega, ev e18, ev e123, q0, z0, q1, z1]) ?_
      replace O := OwnT.push 0 rfl (((OwnT.pull O 0 rfl).set 0 (.int .i64 0)).set 1 (.slice none 0 0))
      clear q0 z0 q1 z1; generalize ((w124.setCell ⟨lc, 0, none⟩ (.int .i64 0)).setCell ⟨lc, 1, none⟩ (.slice none 0 0)) = w125 at O ⊢
      replace O : OwnT _ _ ([tBlk lc 47 #[.int .i64 0, .slice none 0 0], tBlk lb 47 #[.int .i64 0, .slice none 0 0], tBlk hb 39 #[.int .u64 ↑xg, .int .i64 xr, .int .i64 xa, .int .i64 xb, .int .i64 xc], tBlk sb 102 (stB p ((⟨xg, xr, xa, xb, xc⟩ : Hd)) xi kb fb), tMap kb 512 (keptV ((fun _ => false))), tMap fb 512 ((fun _ => none)), tPool ([]) ([]), tDisc p mb B ns cap bm S noL, tMn mb mn0, tBlk tb 33 #[.int .i64 s0, .int .i64 s1]]) w125 := O
      refine sd 19 hE k (Z01 rfl e124) ?_; intro a126 hE e19 kp; replace e18 := kt kp e18; refine wpList_nil ?_; replace e3 := hE.g e3; replace e6 := hE.g e6; replace e9 := hE.g e9; replace e10 := hE.g e10; replace e16 := hE.g e16; replace e17 := hE.g e17; replace k := k.env hE; clear hE e0 e1 e111; refine Z00 (wp_seq ?_); refine wp_region_lit ?_
      have hE := Env.refl a126 [125, 126, 127, 128, 129, 130, 131, 132, 133, 134, 135, 136, 137, 138, 139, 140, 141, 142]; apply Z04 125 hE k rfl rfl rfl rfl; case h =>
       have q0 : w125.cell? ⟨lb, 0, none⟩ = some (.int .i64 0) := (OwnT.blk O 1 rfl).cell 0
       have q1 : w125.cell? ⟨lb, 1, none⟩ = some (.slice none 0 0) := (OwnT.blk O 1 rfl).cell 1
       simp [go_sem, ↓IntWalk.iteOmega, ev (hE.g e16), q0, q1]
       with_reducible rfl
      intro a127 hE e125 kp; apply Z04 126 hE k rfl rfl rfl rfl; case h =>
       have q0 : w125.cell? ⟨lc, 0, none⟩ = some (.int .i64 0) := (OwnT.blk O 0 rfl).cell 0
       have q1 : w125.cell? ⟨lc, 1, none⟩ = some (.slice none 0 0) := (OwnT.blk O 0 rfl).cell 1
       simp [go_sem, ↓IntWalk.iteOmega, ev (hE.g e18), q0, q1]
       with_reducible rfl
      intro a128 hE e126 kp; replace e125 := kt kp e125; apply Z06 127 hE k rfl (by rfl) (by rfl) rfl
      case h =>
       simp [go_sem, ↓IntWalk.iteOmega, ev e125, ev e126]
       with_reducible exact ⟨rfl, rfl⟩
      case hc => exact Z5k
      rintro e w130 ⟨rfl, RE⟩
      replace O := OwnT.ext O RE; refine ⟨_, rfl, ?_⟩
      intro a129 hE e127 kp; refine sd 128 hE k (Z1n rfl e127) ?_; intro a131 hE e128 kp; refine sd 129 hE k (Z02 rfl e128) ?_; intro a132 hE e129 kp; apply Z03 130 hE k rfl rfl rfl rfl rfl e129
      case h =>
       exact Z02 rfl (hE.g e19)
      intro a133 hE e130 kp; replace e129 := kt kp e129; apply Z03 131 hE k rfl rfl rfl rfl rfl e129
      case h =>
       exact Z02 rfl (hE.g e17)
      intro a134 hE e131 kp; replace e129 := kt kp e129; replace e130 := kt kp e130; apply Z03 132 hE k rfl rfl rfl rfl rfl e129
      case h =>
       exact Z1x rfl e131 rfl
      intro a135 hE e132 kp; replace e129 := kt kp e129; replace e130 := kt kp e130; apply Z03 133 hE k rfl rfl rfl rfl rfl e129
      case h =>
       exact x_neBl rfl e130 e132 rfl
      intro a136 hE e133 kp; replace e129 := kt kp e129; refine sd 134 hE k (Z07 rfl e129 e133) ?_; intro a137 hE e134 kp; refine sd 135 hE k (Z02 rfl e134) ?_; intro a138 hE e135 kp; apply Z03 136 hE k rfl rfl rfl rfl rfl e135
      case h =>
       exact Z02 rfl (hE.g e19)
      intro a139 hE e136 kp; replace e135 := kt kp e135; apply Z03 137 hE k rfl rfl rfl rfl rfl e135
      case h =>
       exact Z1n rfl e136
      intro a140 hE e137 kp; replace e135 := kt kp e135; apply Z03 138 hE k rfl rfl rfl rfl rfl e135
      case h =>
       exact Z02 rfl e137
      intro a141 hE e138 kp; replace e135 := kt kp e135; apply Z03 139 hE k rfl rfl rfl rfl rfl e138
      case h =>
       exact Z02 rfl (hE.g e17)
      intro a142 hE e139 kp; replace e135 := kt kp e135; replace e138 := kt kp e138; apply Z03 140 hE k rfl rfl rfl rfl rfl e138
      case h =>
       exact Z0x rfl e139 rfl
      intro a143 hE e140 kp; replace e135 := kt kp e135; replace e138 := kt kp e138; apply Z03 141 hE k rfl rfl rfl rfl rfl e135
      case h =>
       exact Z0a rfl e138 e140
      intro a144 hE e141 kp; replace e135 := kt kp e135; refine sd 142 hE k (Z07 rfl e135 e141) ?_; intro a145 hE e142 kp; refine wpList_nil ?_; replace e3 := hE.g e3; replace e6 := hE.g e6; replace e9 := hE.g e9; replace e10 := hE.g e10; replace k := k.env hE; clear hE e16 e17 e18 e19; refine Z00 ?_; refine Z0b e142 rfl ?_
      refine wp_skip ?_; refine Z00 ?_; replace O : OwnT _ _ ([tDisc p mb B ns cap bm S noL, tMn mb mn0, tBlk tb 33 #[.int .i64 s0, .int .i64 s1]]) w130 := OwnT.pick O [7, 8, 9] (by decide)
      exact ⟨k, e3, e6, e9, e10, (), O⟩
     | true =>
      refine wp_seq ?_; refine wp_region_lit ?_
      have hE := Env.refl a62 [100, 101, 102, 99, 103, 104, 16, 17]; refine zm 100 hE k e11 ?_; intro a146 hE e100 kp; refine zm 101 hE k e1 ?_; intro a147 hE e101 kp; replace e100 := kt kp e100; apply Z06 102 hE k rfl (by rfl) (by rfl) rfl
      case h =>
       simp [go_sem, ↓IntWalk.iteOmega, ev e100, ev e101]
       with_reducible exact ⟨rfl, rfl⟩
      case hc => exact (Z5t (M := mn0) q page _ (OwnT.stR O.tail) (OwnT.disc (OwnT.pull O 5 rfl)) ok0 hpr rfl hq (OwnT.get O 6 rfl) rfl (by rw [hpgq]; exact hrb)).mono (fun e w' h => by rw [hpgq] at h; exact h)
      rintro e w149 ⟨By, cy, rfl, hk, RE⟩
      replace O := OwnT.ext O RE; refine ⟨_, rfl, ?_⟩
      intro a148 hE e102 kp; refine sd 99 hE k (Z02 rfl e102) ?_; intro a150 hE e99 kp; apply Z04 103 hE k rfl rfl rfl rfl; case h =>
       simp [go_sem, ↓IntWalk.iteOmega, ev e99]
       with_reducible rfl
      intro a151 hE e103 kp; replace e99 := kt kp e99; apply Z04 104 hE k rfl rfl rfl rfl; case h =>
       simp [go_sem, ↓IntWalk.iteOmega, ev e99]
       with_reducible rfl
      intro a152 hE e104 kp; replace e103 := kt kp e103; refine Z6m O (cs := #[.int .i64 0, .slice none 0 0]) (t := 47) 16 hE k rfl (by rfl) (by rfl) rfl (by simp [go_sem, ↓IntWalk.iteOmega]) ?_
      clear O; intro lb a153 w154 RX O hE e16 kp; replace hk := Row.ext hk RX
      clear RX; replace e103 := kt kp e103; replace e104 := kt kp e104; have q0 : w154.cell? ⟨lb, 0, none⟩ = some (.int .i64 0) := (OwnT.blk O 0 rfl).cell 0
      have z0 : w154.frozen? ⟨lb, 0, none⟩ = false := (OwnT.blk O 0 rfl).frozen 0
      have q1 : w154.cell? ⟨lb, 1, none⟩ = some (.slice none 0 0) := (OwnT.blk O 0 rfl).cell 1
      have z1 : w154.frozen? ⟨lb, 1, none⟩ = false := (OwnT.blk O 0 rfl).frozen 1
      have hbr := OwnT.blk O 0 rfl
      refine Z0m (w' := ((w154.setCell ⟨lb, 0, none⟩ (.int .i64 (↑(lvAt pg)))).setCell ⟨lb, 1, none⟩ (.slice By (cntAt pg) cy))) hE rfl rfl (by simp [go_sem, ↓IntWalk.iteOmega, ev e16, ev e103, q0, z0, q1, z1]) ?_
      replace O := OwnT.push 0 rfl (((OwnT.pull O 0 rfl).set 0 (.int .i64 (↑(lvAt pg)))).set 1 (.slice By (cntAt pg) cy))
      replace hk := Z3h (v0 := .int .i64 (↑(lvAt pg))) (v1 := .slice By (cntAt pg) cy) hk hbr
      clear hbr; clear q0 z0 q1 z1; generalize ((w154.setCell ⟨lb, 0, none⟩ (.int .i64 (↑(lvAt pg)))).setCell ⟨lb, 1, none⟩ (.slice By (cntAt pg) cy)) = w155 at O hk ⊢
      replace O : OwnT _ _ ([tBlk lb 47 #[.int .i64 (↑(lvAt pg)), .slice By (cntAt pg) cy], tBlk hb 39 #[.int .u64 ↑xg, .int .i64 xr, .int .i64 xa, .int .i64 xb, .int .i64 xc], tBlk sb 102 (stB p ((⟨xg, xr, xa, xb, xc⟩ : Hd)) xi kb fb), tMap kb 512 (keptV ((fun _ => false))), tMap fb 512 ((fun _ => none)), tPool ([]) ([]), tDisc p mb B ns cap bm S noL, tMn mb mn0, tBlk tb 33 #[.int .i64 s0, .int .i64 s1]]) w155 := O
      refine sd 17 hE k (Z01 rfl e104) ?_; intro a156 hE e17 kp; replace e16 := kt kp e16; refine wpList_nil ?_; replace e0 := hE.g e0; replace e1 := hE.g e1; replace e3 := hE.g e3; replace e6 := hE.g e6; replace e9 := hE.g e9; replace e10 := hE.g e10; replace k := k.env hE; clear hE e11 e98; refine Z00 (wp_seq ?_); refine wp_region_lit ?_
      have hE := Env.refl a156 [105, 106, 107, 108, 109, 110, 111]; refine zm 105 hE k e1 ?_; intro a157 hE e105 kp; refine sd 106 hE k (Z08 (Z14 rfl e105 rfl) (decide_eq_false (by omega))) ?_
      intro a158 hE e106 kp; refine sd 107 hE k (Z02 rfl e106) ?_; intro a159 hE e107 kp; apply Z03 108 hE k rfl rfl rfl rfl rfl e107
      case h =>
       exact Z02 rfl (hE.g e1)
      intro a160 hE e108 kp; replace e107 := kt kp e107; apply Z03 109 hE k rfl rfl rfl rfl rfl e107
      case h =>
       exact Z02 rfl (hE.g e10)
      intro a161 hE e109 kp; replace e107 := kt kp e107; replace e108 := kt kp e108; apply Z03 110 hE k rfl rfl rfl rfl rfl e107
      case h =>
       exact Z08 (Z1q rfl e108 e109) (decide_eq_false (by omega))
      intro a162 hE e110 kp; replace e107 := kt kp e107; refine sd 111 hE k (Z07 rfl e107 e110) ?_; intro a163 hE e111 kp; refine wpList_nil ?_; replace e0 := hE.g e0; replace e1 := hE.g e1; replace e3 := hE.g e3; replace e6 := hE.g e6; replace e9 := hE.g e9; replace e10 := hE.g e10; replace e16 := hE.g e16; replace e17 := hE.g e17; replace k := k.env hE; clear hE; refine Z00 ?_; refine Z0b e111 rfl ?_
      refine wp_seq ?_; refine wp_region_lit ?_
      have hE := Env.refl a163 [115, 116, 117, 118, 119, 120, 121, 122, 114, 123, 124, 18, 19]; refine zm 115 hE k e0 ?_; intro a164 hE e115 kp; refine zm 116 hE k e1 ?_; intro a165 hE e116 kp; replace e115 := kt kp e115; refine sd 117 hE k (Z74 rfl rfl e116 (by omega)) ?_; intro a166 hE e117 kp; replace e115 := kt kp e115; replace e117 := e117.trans (Z12 (show 256 * page = ((256 * q : Nat) : Int) by omega))
      refine zm 118 hE k e1 ?_; intro a167 hE e118 kp; replace e115 := kt kp e115; replace e117 := kt kp e117; refine sd 119 hE k (Z74 rfl rfl e118 (by omega)) ?_; intro a168 hE e119 kp; replace e115 := kt kp e115; replace e117 := kt kp e117; replace e119 := e119.trans (Z12 (show 256 * page = ((256 * q : Nat) : Int) by omega))
      refine sd 120 hE k (Z38 rfl e119 rfl (by omega)) ?_; intro a169 hE e120 kp; replace e115 := kt kp e115; replace e117 := kt kp e117; replace e120 := e120.trans (Z12 (show ((256 * q : Nat) : Int) + 256 = ((256 * q + 256 : Nat) : Int) by omega))
      refine sd 121 hE k (Z2f (v := .string (sB pg)) (Z2y (l := l) (a := 256 * q) (b := 256 * q + 256) Tryz.underlying9 rfl e115 e117 e120 (by omega) (by omega)) (by rw [hcut])) ?_
      intro a170 hE e121 kp; apply Z06 122 hE k rfl (by rfl) (by rfl) rfl
      case h =>
       simp [go_sem, ↓IntWalk.iteOmega, ev e121]
       with_reducible exact ⟨rfl, rfl⟩
      case hc => exact Z60 (sB pg) _ pg (Z2h pg)
      rintro e w172 ⟨RE, -, hy0⟩
      obtain ⟨Bz, cz, rfl, -, -, hr⟩ := hy0 hrb
      replace O := OwnT.ext O RE; replace hk := Row.ext hk RE
      refine ⟨_, rfl, ?_⟩
      intro a171 hE e122 kp; refine sd 114 hE k (Z02 rfl e122) ?_; intro a173 hE e114 kp; apply Z04 123 hE k rfl rfl rfl rfl; case h =>
       simp [go_sem, ↓IntWalk.iteOmega, ev e114]
       with_reducible rfl
      intro a174 hE e123 kp; replace e114 := kt kp e114; apply Z04 124 hE k rfl rfl rfl rfl; case h =>
       simp [go_sem, ↓IntWalk.iteOmega, ev e114]
       with_reducible rfl
      intro a175 hE e124 kp; replace e123 := kt kp e123; refine Z6m O (cs := #[.int .i64 0, .slice none 0 0]) (t := 47) 18 hE k rfl (by rfl) (by rfl) rfl (by simp [go_sem, ↓IntWalk.iteOmega]) ?_
      clear O; intro lc a176 w177 RX O hE e18 kp; replace hk := Row.ext hk RX
      replace hr := Row.ext hr RX
      clear RX; replace e123 := kt kp e123; replace e124 := kt kp e124; have q0 : w177.cell? ⟨lc, 0, none⟩ = some (.int .i64 0) := (OwnT.blk O 0 rfl).cell 0
      have z0 : w177.frozen? ⟨lc, 0, none⟩ = false := (OwnT.blk O 0 rfl).frozen 0
      have q1 : w177.cell? ⟨lc, 1, none⟩ = some (.slice none 0 0) := (OwnT.blk O 0 rfl).cell 1
      have z1 : w177.frozen? ⟨lc, 1, none⟩ = false := (OwnT.blk O 0 rfl).frozen 1
      have hbr := OwnT.blk O 0 rfl
      refine Z0m (w' := ((w177.setCell ⟨lc, 0, none⟩ (.int .i64 (↑(lvAt pg)))).setCell ⟨lc, 1, none⟩ (.slice Bz (cntAt pg) cz))) hE rfl rfl (by simp [go_sem, ↓IntWalk.iteOmega, ev e18, ev e123, q0, z0, q1, z1]) ?_
      replace O := OwnT.push 0 rfl (((OwnT.pull O 0 rfl).set 0 (.int .i64 (↑(lvAt pg)))).set 1 (.slice Bz (cntAt pg) cz))
      replace hk := Z3h (v0 := .int .i64 (↑(lvAt pg))) (v1 := .slice Bz (cntAt pg) cz) hk hbr
      replace hr := Z3h (v0 := .int .i64 (↑(lvAt pg))) (v1 := .slice Bz (cntAt pg) cz) hr hbr
      clear hbr; clear q0 z0 q1 z1; generalize ((w177.setCell ⟨lc, 0, none⟩ (.int .i64 (↑(lvAt pg)))).setCell ⟨lc, 1, none⟩ (.slice Bz (cntAt pg) cz)) = w178 at O hk hr ⊢
      replace O : OwnT _ _ ([tBlk lc 47 #[.int .i64 (↑(lvAt pg)), .slice Bz (cntAt pg) cz], tBlk lb 47 #[.int .i64 (↑(lvAt pg)), .slice By (cntAt pg) cy], tBlk hb 39 #[.int .u64 ↑xg, .int .i64 xr, .int .i64 xa, .int .i64 xb, .int .i64 xc], tBlk sb 102 (stB p ((⟨xg, xr, xa, xb, xc⟩ : Hd)) xi kb fb), tMap kb 512 (keptV ((fun _ => false))), tMap fb 512 ((fun _ => none)), tPool ([]) ([]), tDisc p mb B ns cap bm S noL, tMn mb mn0, tBlk tb 33 #[.int .i64 s0, .int .i64 s1]]) w178 := O
      refine sd 19 hE k (Z01 rfl e124) ?_; intro a179 hE e19 kp; replace e18 := kt kp e18; refine wpList_nil ?_; replace e3 := hE.g e3; replace e6 := hE.g e6; replace e9 := hE.g e9; replace e10 := hE.g e10; replace e16 := hE.g e16; replace e17 := hE.g e17; replace k := k.env hE; clear hE e0 e1 e111; refine Z00 (wp_seq ?_); refine wp_region_lit ?_
      have hE := Env.refl a179 [125, 126, 127, 128, 129, 130, 131, 132, 133, 134, 135, 136, 137, 138, 139, 140, 141, 142]; apply Z04 125 hE k rfl rfl rfl rfl; case h =>
       have q0 : w178.cell? ⟨lb, 0, none⟩ = some (.int .i64 (↑(lvAt pg))) := (OwnT.blk O 1 rfl).cell 0
       have q1 : w178.cell? ⟨lb, 1, none⟩ = some (.slice By (cntAt pg) cy) := (OwnT.blk O 1 rfl).cell 1
       simp [go_sem, ↓IntWalk.iteOmega, ev (hE.g e16), q0, q1]
       with_reducible rfl
      intro a180 hE e125 kp; apply Z04 126 hE k rfl rfl rfl rfl; case h =>
       have q0 : w178.cell? ⟨lc, 0, none⟩ = some (.int .i64 (↑(lvAt pg))) := (OwnT.blk O 0 rfl).cell 0
       have q1 : w178.cell? ⟨lc, 1, none⟩ = some (.slice Bz (cntAt pg) cz) := (OwnT.blk O 0 rfl).cell 1
       simp [go_sem, ↓IntWalk.iteOmega, ev (hE.g e18), q0, q1]
       with_reducible rfl
      intro a181 hE e126 kp; replace e125 := kt kp e125; apply Z06 127 hE k rfl (by rfl) (by rfl) rfl
      case h =>
       simp [go_sem, ↓IntWalk.iteOmega, ev e125, ev e126]
       with_reducible exact ⟨rfl, rfl⟩
      case hc => exact leaf_same (cy := cy) (cz := cz) (lv := lvAt pg) (Z0g pg (cntAt pg)) (by have := Z72 pg; omega) hk hr
      rintro e w183 ⟨rfl, RE⟩
      replace O := OwnT.ext O RE; refine ⟨_, rfl, ?_⟩
      intro a182 hE e127 kp; refine sd 128 hE k (Z1n rfl e127) ?_; intro a184 hE e128 kp; refine sd 129 hE k (Z02 rfl e128) ?_; intro a185 hE e129 kp; apply Z03 130 hE k rfl rfl rfl rfl rfl e129
      case h =>
       exact Z02 rfl (hE.g e19)
      intro a186 hE e130 kp; replace e129 := kt kp e129; apply Z03 131 hE k rfl rfl rfl rfl rfl e129
      case h =>
       exact Z02 rfl (hE.g e17)
      intro a187 hE e131 kp; replace e129 := kt kp e129; replace e130 := kt kp e130; apply Z03 132 hE k rfl rfl rfl rfl rfl e129
      case h =>
       exact Z1x rfl e131 rfl
      intro a188 hE e132 kp; replace e129 := kt kp e129; replace e130 := kt kp e130; apply Z03 133 hE k rfl rfl rfl rfl rfl e129
      case h =>
       exact x_neBl rfl e130 e132 rfl
      intro a189 hE e133 kp; replace e129 := kt kp e129; refine sd 134 hE k (Z07 rfl e129 e133) ?_; intro a190 hE e134 kp; refine sd 135 hE k (Z02 rfl e134) ?_; intro a191 hE e135 kp; apply Z03 136 hE k rfl rfl rfl rfl rfl e135
      case h =>
       exact Z02 rfl (hE.g e19)
      intro a192 hE e136 kp; replace e135 := kt kp e135; apply Z03 137 hE k rfl rfl rfl rfl rfl e135
      case h =>
       exact Z1n rfl e136
      intro a193 hE e137 kp; replace e135 := kt kp e135; apply Z03 138 hE k rfl rfl rfl rfl rfl e135
      case h =>
       exact Z02 rfl e137
      intro a194 hE e138 kp; replace e135 := kt kp e135; refine Z05 139 hE k rfl (by rfl) (by rfl) rfl rfl (.inl e138) ?_
      intro a195 hE e139 kp; replace e135 := kt kp e135; replace e138 := kt kp e138; refine Z05 140 hE k rfl (by rfl) (by rfl) rfl rfl (.inl e138) ?_
      intro a196 hE e140 kp; replace e135 := kt kp e135; replace e138 := kt kp e138; apply Z03 141 hE k rfl rfl rfl rfl rfl e135
      case h =>
       exact Z07 rfl e138 rfl
      intro a197 hE e141 kp; replace e135 := kt kp e135; refine sd 142 hE k (Z07 rfl e135 e141) ?_; intro a198 hE e142 kp; refine wpList_nil ?_; replace e3 := hE.g e3; replace e6 := hE.g e6; replace e9 := hE.g e9; replace e10 := hE.g e10; replace k := k.env hE; clear hE e16 e17 e18 e19; refine Z00 ?_; refine Z0b e142 rfl ?_
      refine wp_skip ?_; refine Z00 ?_; replace O : OwnT _ _ ([tDisc p mb B ns cap bm S noL, tMn mb mn0, tBlk tb 33 #[.int .i64 s0, .int .i64 s1]]) w183 := OwnT.pick O [7, 8, 9] (by decide)
      exact ⟨k, e3, e6, e9, e10, (), O⟩
 · clear k e0 e1 e3 e6 e9 e10 e11 e12 O; intro a199 w200 h_; obtain ⟨k, e3, e6, e9, e10, u_, O⟩ := h_
   have hssz := (OwnT.disc O).ok
   refine wp_seq ?_; refine wp_region_lit ?_
   have hE := Env.refl a199 [144, 145, 146, 147, 143, 148, 149, 20, 21]; refine zm 144 hE k e9 ?_; intro a201 hE e144 kp; apply Z04 145 hE k rfl rfl rfl rfl; case h =>
    have q0 : w200.cell? ⟨tb, 0, none⟩ = some (.int .i64 s0) := (OwnT.blk O 2 rfl).cell 0
    have q1 : w200.cell? ⟨tb, 1, none⟩ = some (.int .i64 s1) := (OwnT.blk O 2 rfl).cell 1
    simp [go_sem, ↓IntWalk.iteOmega, ev (hE.g e6), q0, q1]
    with_reducible rfl
   intro a202 hE e145 kp; replace e144 := kt kp e144; refine zm 146 hE k e3 ?_; intro a203 hE e146 kp; replace e144 := kt kp e144; replace e145 := kt kp e145; apply Z06 147 hE k rfl (by rfl) (by rfl) rfl
   case h =>
    simp [go_sem, ↓IntWalk.iteOmega, ev e144, ev e145, ev e146]
    with_reducible exact ⟨rfl, rfl⟩
   case hc => exact Z8a s0 s1 ch _ O mn0_ok (by decide) mn0_free
   clear O; rintro e w205 ⟨v, ef, S', M', X, rfl, O, hX⟩
   refine ⟨_, rfl, ?_⟩
   intro a204 hE e147 kp; refine sd 143 hE k (Z02 rfl e147) ?_; intro a206 hE e143 kp; apply Z04 148 hE k rfl rfl rfl rfl; case h =>
    simp [go_sem, ↓IntWalk.iteOmega, ev e143]
    with_reducible rfl
   intro a207 hE e148 kp; replace e143 := kt kp e143; apply Z04 149 hE k rfl rfl rfl rfl; case h =>
    simp [go_sem, ↓IntWalk.iteOmega, ev e143]
    with_reducible rfl
   intro a208 hE e149 kp; replace e148 := kt kp e148; refine sd 20 hE k (Z01 rfl e148) ?_; intro a209 hE e20 kp; replace e149 := kt kp e149; refine sd 21 hE k (Z01 rfl e149) ?_; intro a210 hE e21 kp; replace e20 := kt kp e20; refine wpList_nil ?_; replace e3 := hE.g e3; replace e6 := hE.g e6; replace e9 := hE.g e9; replace e10 := hE.g e10; replace k := k.env hE; clear hE; refine Z00 ?_; replace O := O.perm (M := tBlk tb 33 #[.int .i64 s0, .int .i64 s1] :: (X ++ [tDisc p mb B ns cap bm S' noL, tMn mb M'])) (by simpa using List.perm_middle (l₁ := X ++ [tDisc p mb B ns cap bm S' noL, tMn mb M']) (a := tBlk tb 33 #[.int .i64 s0, .int .i64 s1]) (l₂ := []))
   refine wp_seq ?_; refine wp_region_lit ?_
   have hE := Env.refl a210 [150, 151, 152, 22]; apply Z04 150 hE k rfl rfl rfl rfl; case h =>
    have q0 : w205.cell? ⟨tb, 0, none⟩ = some (.int .i64 s0) := (OwnT.blk O 0 rfl).cell 0
    have q1 : w205.cell? ⟨tb, 1, none⟩ = some (.int .i64 s1) := (OwnT.blk O 0 rfl).cell 1
    simp [go_sem, ↓IntWalk.iteOmega, ev (hE.g e6), q0, q1]
    with_reducible rfl
   intro a211 hE e150 kp; refine zm 151 hE k e3 ?_; intro a212 hE e151 kp; replace e150 := kt kp e150; apply Z04 152 hE k rfl rfl rfl rfl; case h =>
    simp [go_sem, ↓IntWalk.iteOmega, ev e150, ev e151]
    with_reducible rfl
   intro a213 hE e152 kp; refine Z0o O (cs := #[.int .u64 0, .int .i64 0, .int .i64 0, .int .i64 0, .int .i64 0]) (t := 39) 22 hE k rfl (by rfl) (by rfl) rfl (by simp [go_sem, ↓IntWalk.iteOmega]) ?_
   clear O; intro hb a214 w215 O hE e22 kp; replace e152 := kt kp e152; have q0 : w215.cell? ⟨hb, 0, none⟩ = some (.int .u64 0) := (OwnT.blk O 0 rfl).cell 0
   have z0 : w215.frozen? ⟨hb, 0, none⟩ = false := (OwnT.blk O 0 rfl).frozen 0
   have q1 : w215.cell? ⟨hb, 1, none⟩ = some (.int .i64 0) := (OwnT.blk O 0 rfl).cell 1
   have z1 : w215.frozen? ⟨hb, 1, none⟩ = false := (OwnT.blk O 0 rfl).frozen 1
   have q2 : w215.cell? ⟨hb, 2, none⟩ = some (.int .i64 0) := (OwnT.blk O 0 rfl).cell 2
   have z2 : w215.frozen? ⟨hb, 2, none⟩ = false := (OwnT.blk O 0 rfl).frozen 2
   have q3 : w215.cell? ⟨hb, 3, none⟩ = some (.int .i64 0) := (OwnT.blk O 0 rfl).cell 3
   have z3 : w215.frozen? ⟨hb, 3, none⟩ = false := (OwnT.blk O 0 rfl).frozen 3
   have q4 : w215.cell? ⟨hb, 4, none⟩ = some (.int .i64 0) := (OwnT.blk O 0 rfl).cell 4
   have z4 : w215.frozen? ⟨hb, 4, none⟩ = false := (OwnT.blk O 0 rfl).frozen 4
   refine Z0m (w' := (((((w215.setCell ⟨hb, 0, none⟩ (.int .u64 1)).setCell ⟨hb, 1, none⟩ (.int .i64 0)).setCell ⟨hb, 2, none⟩ (.int .i64 s0)).setCell ⟨hb, 3, none⟩ (.int .i64 s1)).setCell ⟨hb, 4, none⟩ (.int .i64 ch))) hE rfl rfl (by simp [go_sem, ↓IntWalk.iteOmega, ev e22, ev e152, q0, z0, q1, z1, q2, z2, q3, z3, q4, z4]) ?_
   replace O := OwnT.push 0 rfl ((((((OwnT.pull O 0 rfl).set 0 (.int .u64 1)).set 1 (.int .i64 0)).set 2 (.int .i64 s0)).set 3 (.int .i64 s1)).set 4 (.int .i64 ch))
   clear q0 z0 q1 z1 q2 z2 q3 z3 q4 z4; generalize (((((w215.setCell ⟨hb, 0, none⟩ (.int .u64 1)).setCell ⟨hb, 1, none⟩ (.int .i64 0)).setCell ⟨hb, 2, none⟩ (.int .i64 s0)).setCell ⟨hb, 3, none⟩ (.int .i64 s1)).setCell ⟨hb, 4, none⟩ (.int .i64 ch)) = w216 at O ⊢
   replace O : OwnT _ _ ((tBlk hb 39 #[.int .u64 1, .int .i64 0, .int .i64 s0, .int .i64 s1, .int .i64 ch]) :: (tBlk tb 33 #[.int .i64 s0, .int .i64 s1]) :: (X ++ [tDisc p mb B ns cap bm S' noL, tMn mb M'])) w216 := O
   refine wpList_nil ?_; replace e3 := hE.g e3; replace e6 := hE.g e6; replace e9 := hE.g e9; replace e10 := hE.g e10; replace e20 := hE.g e20; replace e21 := hE.g e21; replace k := k.env hE; clear hE e152; refine Z00 ?_; refine wp_cutF (fun a w => Fr 255 a ∧ a.eval (.tmp 3) = .int .i64 ch ∧ a.eval (.tmp 6) = .pointer (some ⟨tb, 0, none⟩) ∧ ∃ (u_ : Unit), OwnT W0.heap.size W0 [tBlk tb 33 #[.int .i64 s0, .int .i64 s1]] w) ?_ ?_
   · skip
     rcases hX with ⟨hg, rfl, rfl, rfl⟩ | ⟨hg, rfl, sb, kb, fb, rfl, rfl, rfl⟩
     · skip
       replace O : OwnT _ _ ([tBlk hb 39 #[.int .u64 1, .int .i64 0, .int .i64 s0, .int .i64 s1, .int .i64 ch], tBlk tb 33 #[.int .i64 s0, .int .i64 s1], tDisc p mb B ns cap bm S' noL, tMn mb M']) w216 := O
       by_cases hp2 : 2 ≤ pgs ns
       · have hgo : ¬ HeadOk 1 0 s0 s1 ch := fun h => hg ⟨h, hp2⟩
         rw [hP] at hp2
         refine wp_seq ?_; refine wp_region_lit ?_
         have hE := Env.refl a214 [153, 154, 155, 156, 157, 158, 159]; refine zm 153 hE k e10 ?_; intro a217 hE e153 kp; refine sd 154 hE k (Z08 (Z14 rfl e153 rfl) (decide_eq_false (by omega))) ?_
         intro a218 hE e154 kp; refine sd 155 hE k (Z02 rfl e154) ?_; intro a219 hE e155 kp; apply Z03 156 hE k rfl rfl rfl rfl rfl e155
         case h =>
          have q0 : w216.cell? ⟨hb, 0, none⟩ = some (.int .u64 1) := (OwnT.blk O 0 rfl).cell 0
          have q1 : w216.cell? ⟨hb, 1, none⟩ = some (.int .i64 0) := (OwnT.blk O 0 rfl).cell 1
          have q2 : w216.cell? ⟨hb, 2, none⟩ = some (.int .i64 s0) := (OwnT.blk O 0 rfl).cell 2
          have q3 : w216.cell? ⟨hb, 3, none⟩ = some (.int .i64 s1) := (OwnT.blk O 0 rfl).cell 3
          have q4 : w216.cell? ⟨hb, 4, none⟩ = some (.int .i64 ch) := (OwnT.blk O 0 rfl).cell 4
          simp [go_sem, ↓IntWalk.iteOmega, ev (hE.g e22), q0, q1, q2, q3, q4]
          with_reducible rfl
         intro a220 hE e156 kp; replace e155 := kt kp e155; apply Z17 157 hE k rfl (by rfl) (by rfl) rfl rfl e155
         case h =>
          simp [go_sem, ↓IntWalk.iteOmega, ev e156]
          with_reducible exact ⟨rfl, rfl⟩
         case hc => exact Z7l _ _ _ _ _ _ hgo
         rintro e w222 ⟨rfl, RE⟩
         replace O := OwnT.ext O RE; refine ⟨_, rfl, ?_⟩
         intro a221 hE e157 kp; replace e155 := kt kp e155; apply Z03 158 hE k rfl rfl rfl rfl rfl e155
         case h =>
          exact Z1n rfl e157
         intro a223 hE e158 kp; replace e155 := kt kp e155; refine sd 159 hE k (Z07 rfl e155 e158) ?_; intro a224 hE e159 kp; refine wpList_nil ?_; replace e3 := hE.g e3; replace e6 := hE.g e6; replace e9 := hE.g e9; replace e20 := hE.g e20; replace e21 := hE.g e21; replace e22 := hE.g e22; replace k := k.env hE; clear hE e10; refine Z00 ?_; refine Z0i e159 rfl ?_
         refine wp_seq ?_; refine wp_region_lit ?_
         have hE := Env.refl a224 [160, 161, 162, 163, 164, 165]; refine zm 160 hE k e20 ?_; intro a225 hE e160 kp; apply Z04 161 hE k rfl rfl rfl rfl; case h =>
          simp [go_sem, ↓IntWalk.iteOmega, ev e160]
          with_reducible rfl
         intro a226 hE e161 kp; refine sd 162 hE k (Z02 rfl e161) ?_; intro a227 hE e162 kp; apply Z03 163 hE k rfl rfl rfl rfl rfl e162
         case h =>
          exact Z02 rfl (hE.g e21)
         intro a228 hE e163 kp; replace e162 := kt kp e162; apply Z03 164 hE k rfl rfl rfl rfl rfl e162
         case h =>
          exact Z0x rfl e163 rfl
         intro a229 hE e164 kp; replace e162 := kt kp e162; refine sd 165 hE k (Z07 rfl e162 e164) ?_; intro a230 hE e165 kp; refine wpList_nil ?_; replace e3 := hE.g e3; replace e6 := hE.g e6; replace k := k.env hE; clear hE e9 e20 e21 e22 e159; refine Z00 ?_; refine Z0b e165 rfl ?_
         refine wp_skip ?_; refine Z00 ?_; replace O : OwnT _ _ ([tBlk tb 33 #[.int .i64 s0, .int .i64 s1]]) w222 := OwnT.pick O [1] (by decide)
         exact ⟨k, e3, e6, (), O⟩
       · rw [hP] at hp2
         refine wp_seq ?_; refine wp_region_lit ?_
         have hE := Env.refl a214 [153, 154, 155, 156, 157, 158, 159]; refine zm 153 hE k e10 ?_; intro a231 hE e153 kp; refine sd 154 hE k (Z08 (Z14 rfl e153 rfl) (decide_eq_true (by omega))) ?_
         intro a232 hE e154 kp; refine sd 155 hE k (Z02 rfl e154) ?_; intro a233 hE e155 kp; refine Z05 156 hE k rfl (by rfl) (by rfl) rfl rfl (.inl e155) ?_
         intro a234 hE e156 kp; replace e155 := kt kp e155; refine Z05 157 hE k rfl (by rfl) (by rfl) rfl rfl (.inl e155) ?_
         intro a235 hE e157 kp; replace e155 := kt kp e155; refine Z05 158 hE k rfl (by rfl) (by rfl) rfl rfl (.inl e155) ?_
         intro a236 hE e158 kp; replace e155 := kt kp e155; refine sd 159 hE k (Z0a rfl e155 rfl) ?_; intro a237 hE e159 kp; refine wpList_nil ?_; replace e3 := hE.g e3; replace e6 := hE.g e6; replace e9 := hE.g e9; replace e20 := hE.g e20; replace e21 := hE.g e21; replace e22 := hE.g e22; replace k := k.env hE; clear hE e10; refine Z00 ?_; refine Z0i e159 rfl ?_
         refine wp_seq ?_; refine wp_region_lit ?_
         have hE := Env.refl a237 [160, 161, 162, 163, 164, 165]; refine zm 160 hE k e20 ?_; intro a238 hE e160 kp; apply Z04 161 hE k rfl rfl rfl rfl; case h =>
          simp [go_sem, ↓IntWalk.iteOmega, ev e160]
          with_reducible rfl
         intro a239 hE e161 kp; refine sd 162 hE k (Z02 rfl e161) ?_; intro a240 hE e162 kp; apply Z03 163 hE k rfl rfl rfl rfl rfl e162
         case h =>
          exact Z02 rfl (hE.g e21)
         intro a241 hE e163 kp; replace e162 := kt kp e162; apply Z03 164 hE k rfl rfl rfl rfl rfl e162
         case h =>
          exact Z0x rfl e163 rfl
         intro a242 hE e164 kp; replace e162 := kt kp e162; refine sd 165 hE k (Z07 rfl e162 e164) ?_; intro a243 hE e165 kp; refine wpList_nil ?_; replace e3 := hE.g e3; replace e6 := hE.g e6; replace k := k.env hE; clear hE e9 e20 e21 e22 e159; refine Z00 ?_; refine Z0b e165 rfl ?_
         refine wp_skip ?_; refine Z00 ?_; replace O : OwnT _ _ ([tBlk tb 33 #[.int .i64 s0, .int .i64 s1]]) w216 := OwnT.pick O [1] (by decide)
         exact ⟨k, e3, e6, (), O⟩
     · obtain ⟨hgo, hp2⟩ := hg
       have hpP := hp2
       rw [hP] at hpP
       have himg : ((fmS S noL (fmtHd s0 s1 ch)).flatten).take 32 = hdB (fmtHd s0 s1 ch) ++ zsec := by
        have hd : DOk ns (fmS S noL (fmtHd s0 s1 ch)) noL := by
         unfold fmS
         exact (hssz.wr (by omega) (by unfold pgs at hp2; omega) (by rw [List.length_append, Z27, Z4j]; decide)).flush
        rw [image_heads hd (by unfold pgs at hp2; omega), fm_0 (by rw [hssz.len]; unfold pgs at hp2; omega), fm_1 (by rw [hssz.len]; unfold pgs at hp2; omega)]

       replace O : OwnT _ _ ([tBlk hb 39 #[.int .u64 1, .int .i64 0, .int .i64 s0, .int .i64 s1, .int .i64 ch], tBlk tb 33 #[.int .i64 s0, .int .i64 s1], tBlk sb 102 (stB p ((fmtHd s0 s1 ch)) 0 kb fb), tMap kb 512 (keptV ((fun _ => false))), tMap fb 512 ((fun _ => none)), tPool ([]) ([]), tDisc p mb B ns cap bm (fmS S noL (fmtHd s0 s1 ch)) noL, tMn mb M']) w216 := O
       refine wp_seq ?_; refine wp_region_lit ?_
       have hE := Env.refl a214 [153, 154, 155, 156, 157, 158, 159]; refine zm 153 hE k e10 ?_; intro a244 hE e153 kp; refine sd 154 hE k (Z08 (Z14 rfl e153 rfl) (decide_eq_false (by omega))) ?_
       intro a245 hE e154 kp; refine sd 155 hE k (Z02 rfl e154) ?_; intro a246 hE e155 kp; apply Z03 156 hE k rfl rfl rfl rfl rfl e155
       case h =>
        have q0 : w216.cell? ⟨hb, 0, none⟩ = some (.int .u64 1) := (OwnT.blk O 0 rfl).cell 0
        have q1 : w216.cell? ⟨hb, 1, none⟩ = some (.int .i64 0) := (OwnT.blk O 0 rfl).cell 1
        have q2 : w216.cell? ⟨hb, 2, none⟩ = some (.int .i64 s0) := (OwnT.blk O 0 rfl).cell 2
        have q3 : w216.cell? ⟨hb, 3, none⟩ = some (.int .i64 s1) := (OwnT.blk O 0 rfl).cell 3
        have q4 : w216.cell? ⟨hb, 4, none⟩ = some (.int .i64 ch) := (OwnT.blk O 0 rfl).cell 4
        simp [go_sem, ↓IntWalk.iteOmega, ev (hE.g e22), q0, q1, q2, q3, q4]
        with_reducible rfl
       intro a247 hE e156 kp; replace e155 := kt kp e155; apply Z17 157 hE k rfl (by rfl) (by rfl) rfl rfl e155
       case h =>
        simp [go_sem, ↓IntWalk.iteOmega, ev e156]
        with_reducible exact ⟨rfl, rfl⟩
       case hc => exact Z61 1 0 s0 s1 ch _ hgo
       rintro e w249 ⟨rfl, RE⟩
       replace O := OwnT.ext O RE; refine ⟨_, rfl, ?_⟩
       intro a248 hE e157 kp; replace e155 := kt kp e155; apply Z03 158 hE k rfl rfl rfl rfl rfl e155
       case h =>
        exact Z1n rfl e157
       intro a250 hE e158 kp; replace e155 := kt kp e155; refine sd 159 hE k (Z07 rfl e155 e158) ?_; intro a251 hE e159 kp; refine wpList_nil ?_; replace e3 := hE.g e3; replace e6 := hE.g e6; replace e9 := hE.g e9; replace e20 := hE.g e20; replace e21 := hE.g e21; replace e22 := hE.g e22; replace k := k.env hE; clear hE e10; refine Z00 ?_; refine Z0b e159 rfl ?_
       have hss := OwnT.stR O.tail.tail
       have hdd := OwnT.disc (OwnT.pull O 6 rfl)
       have hhl := Z27 (fmtHd s0 s1 ch)
       refine wp_seq ?_; refine Z0n (R := Ext) (w0 := w249) [[], [0], [0, 1], [0, 1, 2], rg 4, rg 5, rg 6, rg 7, rg 8, rg 7, rg 10, rg 11, rg 12, rg 13, rg 14, rg 15, rg 13, [0, 1, 2, 3, 4, 5, 6, 7, 8, 9, 10, 11, 12, 13, 14, 16], rg 13, [0, 1, 2, 3, 4, 5, 6, 7, 8, 9, 10, 11, 12, 18], [0, 1, 2, 3, 4, 5, 6, 7, 8, 9, 10, 11, 12, 13, 14, 16, 17, 18, 19], rg 21, rg 22] [166, 167, 168, 169, 170, 171, 172, 173, 174, 175, 176, 177, 178, 179, 180, 181, 182, 183, 184, 185, 186, 187, 188] Ext.refl (fun _ _ _ => Ext.trans) (Ext.drew _) (by kernel_rfl) ?_
       apply bd 166 k rfl rfl rfl; case h =>
        intro ax wx hE hR hF; exact Z02 rfl (hE.g e21)
       apply bd 167 k rfl rfl rfl; case h =>
        intro ax wx hE hR hF; have e166 := zhF hF 0 166 ml0; exact Z08 (Z0x rfl e166 rfl) (decide_eq_false (by omega))
       apply bd 168 k rfl rfl rfl; case h =>
        intro ax wx hE hR hF; have e167 := zhF hF 1 167 ml0; exact Z02 rfl e167
       apply bdg 169 k rfl rfl rfl rfl; case h =>
        intro ax wx hE hR hF; have e168 := zhF hF 2 168 ml0; refine ⟨e168, ?_⟩; exact Z02 rfl (hE.g e20)
       apply bdg 170 k rfl rfl rfl rfl; case h =>
        intro ax wx hE hR hF; have e169 := zhF hF 3 169 ml0; have e168 := zhF hF 2 168 ml1; refine ⟨e168, ?_⟩; simp [go_sem, ↓IntWalk.iteOmega, ev e169]
        with_reducible rfl
       apply bd 171 k rfl rfl rfl; case h =>
        intro ax wx hE hR hF; have e168 := zhF hF 2 168 ml2; have e170 := zhF hF 4 170 ml0; exact Z07 rfl e168 e170
       apply bd 172 k rfl rfl rfl; case h =>
        intro ax wx hE hR hF; have e171 := zhF hF 5 171 ml0; exact Z02 rfl e171
       apply bdg 173 k rfl rfl rfl rfl; case h =>
        intro ax wx hE hR hF; have e172 := zhF hF 6 172 ml0; refine ⟨e172, ?_⟩; exact Z02 rfl (hE.g e20)
       apply Build.callg 174 Ext.refl (by rfl) (by rw [k.size]; rfl) rfl rfl
       case h =>
        intro ax wx hE hR hF; have e173 := zhF hF 7 173 ml0; have e172 := zhF hF 6 172 ml1; refine ⟨e172, ?_⟩; simp [go_sem, ↓IntWalk.iteOmega, ev e173]
        with_reducible exact ⟨rfl, rfl⟩
       case hc => intro wx hR; exact (show Calls _ _ _ _ (fun e w' => e = .returned (.agg #[.int .u64 1, .int .i64 0, .int .i64 s0, .int .i64 s1, .int .i64 ch]) ∧ Ext wx w') from (Z3g wx (hss.ext hR)).mono (fun e w' h => ⟨h.1.trans (rfl), h.2⟩))
       apply bdg 175 k rfl rfl rfl rfl; case h =>
        intro ax wx hE hR hF; have e172 := zhF hF 6 172 ml2; refine ⟨e172, ?_⟩; have q0 : wx.cell? ⟨hb, 0, none⟩ = some (.int .u64 1) := (OwnT.blk (OwnT.ext O hR) 0 rfl).cell 0
        have q1 : wx.cell? ⟨hb, 1, none⟩ = some (.int .i64 0) := (OwnT.blk (OwnT.ext O hR) 0 rfl).cell 1
        have q2 : wx.cell? ⟨hb, 2, none⟩ = some (.int .i64 s0) := (OwnT.blk (OwnT.ext O hR) 0 rfl).cell 2
        have q3 : wx.cell? ⟨hb, 3, none⟩ = some (.int .i64 s1) := (OwnT.blk (OwnT.ext O hR) 0 rfl).cell 3
        have q4 : wx.cell? ⟨hb, 4, none⟩ = some (.int .i64 ch) := (OwnT.blk (OwnT.ext O hR) 0 rfl).cell 4
        simp [go_sem, ↓IntWalk.iteOmega, ev (hE.g e22), q0, q1, q2, q3, q4]
        with_reducible rfl
       apply bdg 176 k rfl rfl rfl rfl; case h =>
        intro ax wx hE hR hF; have e174 := zhF hF 8 174 ml1; have e175 := zhF hF 9 175 ml0; have e172 := zhF hF 6 172 ml3; refine ⟨e172, ?_⟩; exact x_neHd rfl e174 e175
       apply bd 177 k rfl rfl rfl; case h =>
        intro ax wx hE hR hF; have e172 := zhF hF 6 172 ml4; have e176 := zhF hF 10 176 ml0; exact Z07 rfl e172 e176
       apply bd 178 k rfl rfl rfl; case h =>
        intro ax wx hE hR hF; have e177 := zhF hF 11 177 ml0; exact Z02 rfl e177
       apply bdg 179 k rfl rfl rfl rfl; case h =>
        intro ax wx hE hR hF; have e178 := zhF hF 12 178 ml0; refine ⟨e178, ?_⟩; exact Z02 rfl (hE.g e9)
       apply Build.callg 180 Ext.refl (by rfl) (by rw [k.size]; rfl) rfl rfl
       case h =>
        intro ax wx hE hR hF; have e179 := zhF hF 13 179 ml0; have e178 := zhF hF 12 178 ml1; refine ⟨e178, ?_⟩; simp [go_sem, ↓IntWalk.iteOmega, ev e179]
        with_reducible exact ⟨rfl, rfl⟩
       case hc => intro wx hR; exact dimage_any wx (hdd.ext hR)
       apply bdg 181 k rfl rfl rfl rfl; case h =>
        intro ax wx hE hR hF; have e180 := zhF hF 14 180 ml0; have e178 := zhF hF 12 178 ml2; refine ⟨e178, ?_⟩; exact Z2f (v := .string (sB (hdB (fmtHd s0 s1 ch) ++ zsec))) (Z2g (l := (fmS S noL (fmtHd s0 s1 ch)).flatten) Tryz.underlying9 rfl e180 rfl 32 rfl (by rw [flat16 (hdd.ok.sz), hdd.ok.len]; unfold pgs at hp2; omega)) (by rw [himg])
       apply bdg 182 k rfl rfl rfl rfl; case h =>
        intro ax wx hE hR hF; have e178 := zhF hF 12 178 ml3; refine ⟨e178, ?_⟩; have q0 : wx.cell? ⟨hb, 0, none⟩ = some (.int .u64 1) := (OwnT.blk (OwnT.ext O hR) 0 rfl).cell 0
        have q1 : wx.cell? ⟨hb, 1, none⟩ = some (.int .i64 0) := (OwnT.blk (OwnT.ext O hR) 0 rfl).cell 1
        have q2 : wx.cell? ⟨hb, 2, none⟩ = some (.int .i64 s0) := (OwnT.blk (OwnT.ext O hR) 0 rfl).cell 2
        have q3 : wx.cell? ⟨hb, 3, none⟩ = some (.int .i64 s1) := (OwnT.blk (OwnT.ext O hR) 0 rfl).cell 3
        have q4 : wx.cell? ⟨hb, 4, none⟩ = some (.int .i64 ch) := (OwnT.blk (OwnT.ext O hR) 0 rfl).cell 4
        simp [go_sem, ↓IntWalk.iteOmega, ev (hE.g e22), q0, q1, q2, q3, q4]
        with_reducible rfl
       apply Build.callg 183 Ext.refl (by rfl) (by rw [k.size]; rfl) rfl rfl
       case h =>
        intro ax wx hE hR hF; have e182 := zhF hF 16 182 ml0; have e178 := zhF hF 12 178 ml4; refine ⟨e178, ?_⟩; simp [go_sem, ↓IntWalk.iteOmega, ev e182]
        with_reducible exact ⟨rfl, rfl⟩
       case hc => intro wx hR; exact rhbytes_hd (fmtHd s0 s1 ch) hgo wx
       refine Build.newg 184 (fun v w => ∃ gz, v = .slice (some ⟨gz, 0, none⟩) 16 16 ∧ w.ownsRow 0 5 1 (.slice (some ⟨gz, 0, none⟩) 16 16) 16 (zsec.map u8V)) (fun v w w' hR h => by obtain ⟨gz, e, h⟩ := h; exact ⟨gz, e, Z4c h hR⟩) (by rfl) (by rw [k.size]; rfl) rfl rfl ?_ ?_
       · intro ax wx hE hR hF; have e178 := zhF hF 12 178 ml5; refine ⟨e178, ?_⟩; obtain ⟨gz, w9, hmk, hrz, hEz⟩ := mk_bytes wx 16 (by decide)
         refine ⟨_, w9, x_make rfl rfl rfl hmk, hEz, gz, rfl, ?_⟩
         rw [show zsec.map u8V = List.replicate 16 (u8V 0) from List.map_replicate]
         exact ownsRow_low hrz (Nat.zero_le _)
       apply bdg 185 k rfl rfl rfl rfl; case h =>
        intro ax wx hE hR hF; have f184 := hF 18 _ (by decide) ml0
        have e178 := zhF hF 12 178 ml6; refine ⟨e178, ?_⟩; obtain ⟨gz, e184, hz⟩ := f184
        exact x_conv rfl e184 (Z81 (l := zsec) hz Z4j)
       apply bdg 186 k rfl rfl rfl rfl; case h =>
        intro ax wx hE hR hF; have e183 := zhF hF 17 183 ml2; have e185 := zhF hF 19 185 ml0; have e178 := zhF hF 12 178 ml7; refine ⟨e178, ?_⟩; exact x_cat (l := hdB (fmtHd s0 s1 ch)) (m := zsec) rfl e183 e185 (by rw [Z27, Z4j]; omega)
       apply bdg 187 k rfl rfl rfl rfl; case h =>
        intro ax wx hE hR hF; have e181 := zhF hF 15 181 ml5; have e186 := zhF hF 20 186 ml0; have e178 := zhF hF 12 178 ml8; refine ⟨e178, ?_⟩; exact Z08 (x_nes (l := hdB (fmtHd s0 s1 ch) ++ zsec) (m := hdB (fmtHd s0 s1 ch) ++ zsec) rfl e181 e186) (decide_eq_false (fun h => h rfl))
       apply bd 188 k rfl rfl rfl; case h =>
        intro ax wx hE hR hF; have e178 := zhF hF 12 178 ml9; have e187 := zhF hF 21 187 ml0; exact Z07 rfl e178 e187
       apply Build.stop
       refine ⟨by kernel_rfl, .inl ⟨rfl, ?_⟩⟩
       intro a252 w253 hE R hF; have e188 : a252.eval (.tmp 188) = _ := hF 22 (det 188 _) ml0
       clear hF; replace O := OwnT.ext O R; clear R; replace e3 := hE.g e3; replace e6 := hE.g e6; replace k := k.env hE; clear hE e9 e20 e21 e22 e159; refine Z00 ?_; refine Z0b e188 rfl ?_
       refine wp_skip ?_; refine Z00 ?_; replace O : OwnT _ _ ([tBlk tb 33 #[.int .i64 s0, .int .i64 s1]]) w253 := OwnT.pick O [1] (by decide)
       exact ⟨k, e3, e6, (), O⟩
   · clear k e3 e6 e9 e10 e20 e21 e22 O; intro a254 w255 h_; obtain ⟨k, e3, e6, u_, O⟩ := h_
     refine wp_seq ?_; refine wp_region_lit ?_
     have hE := Env.refl a254 [23]; refine sd 23 hE k (Z01 rfl rfl) ?_; intro a256 hE e23 kp; refine wpList_nil ?_; replace e3 := hE.g e3; replace e6 := hE.g e6; replace k := k.env hE; clear hE; refine Z00 (wp_seq ?_); refine wp_region_lit ?_
     have hE := Env.refl a256 [190, 189, 191, 192, 24, 25]; apply Z06 190 hE k rfl (by rfl) (by rfl) rfl
     case h =>
      simp [go_sem, ↓IntWalk.iteOmega]
      with_reducible exact ⟨rfl, rfl⟩
     case hc => exact sopen_nil _
     rintro e w258 ⟨rfl, RE⟩
     replace O := OwnT.ext O RE; refine ⟨_, rfl, ?_⟩
     intro a257 hE e190 kp; refine sd 189 hE k (Z02 rfl e190) ?_; intro a259 hE e189 kp; apply Z04 191 hE k rfl rfl rfl rfl; case h =>
      simp [go_sem, ↓IntWalk.iteOmega, ev e189]
      with_reducible rfl
     intro a260 hE e191 kp; replace e189 := kt kp e189; apply Z04 192 hE k rfl rfl rfl rfl; case h =>
      simp [go_sem, ↓IntWalk.iteOmega, ev e189]
      with_reducible rfl
     intro a261 hE e192 kp; replace e191 := kt kp e191; refine sd 24 hE k (Z01 rfl e191) ?_; intro a262 hE e24 kp; replace e192 := kt kp e192; refine sd 25 hE k (Z01 rfl e192) ?_; intro a263 hE e25 kp; refine wpList_nil ?_; replace e3 := hE.g e3; replace e6 := hE.g e6; replace e23 := hE.g e23; replace k := k.env hE; clear hE; refine Z00 (wp_seq ?_); refine wp_region_lit ?_
     have hE := Env.refl a263 [194, 195, 196, 193, 197, 198, 26, 27]; apply Z04 194 hE k rfl rfl rfl rfl; case h =>
      have q0 : w258.cell? ⟨tb, 0, none⟩ = some (.int .i64 s0) := (OwnT.blk O 0 rfl).cell 0
      have q1 : w258.cell? ⟨tb, 1, none⟩ = some (.int .i64 s1) := (OwnT.blk O 0 rfl).cell 1
      simp [go_sem, ↓IntWalk.iteOmega, ev (hE.g e6), q0, q1]
      with_reducible rfl
     intro a264 hE e194 kp; refine zm 195 hE k e3 ?_; intro a265 hE e195 kp; replace e194 := kt kp e194; apply Z06 196 hE k rfl (by rfl) (by rfl) rfl
     case h =>
      simp [go_sem, ↓IntWalk.iteOmega, ev e194, ev e195]
      with_reducible exact ⟨rfl, rfl⟩
     case hc => exact Z8b s0 s1 ch _
     rintro e w267 ⟨rfl, RE⟩
     replace O := OwnT.ext O RE; refine ⟨_, rfl, ?_⟩
     intro a266 hE e196 kp; refine sd 193 hE k (Z02 rfl e196) ?_; intro a268 hE e193 kp; apply Z04 197 hE k rfl rfl rfl rfl; case h =>
      simp [go_sem, ↓IntWalk.iteOmega, ev e193]
      with_reducible rfl
     intro a269 hE e197 kp; replace e193 := kt kp e193; apply Z04 198 hE k rfl rfl rfl rfl; case h =>
      simp [go_sem, ↓IntWalk.iteOmega, ev e193]
      with_reducible rfl
     intro a270 hE e198 kp; replace e197 := kt kp e197; refine sd 26 hE k (Z01 rfl e197) ?_; intro a271 hE e26 kp; replace e198 := kt kp e198; refine sd 27 hE k (Z01 rfl e198) ?_; intro a272 hE e27 kp; refine wpList_nil ?_; replace e23 := hE.g e23; replace e25 := hE.g e25; replace k := k.env hE; clear hE e3 e6; refine Z00 (wp_seq ?_); refine wp_region_lit ?_
     have hE := Env.refl a272 [200, 201, 202, 199, 203, 204, 28, 29]; refine zm 200 hE k e23 ?_; intro a273 hE e200 kp; apply Z06 201 hE k rfl (by rfl) (by rfl) rfl
     case h =>
      simp [go_sem, ↓IntWalk.iteOmega]
      with_reducible exact ⟨rfl, rfl⟩
     case hc => exact Z4q 1 _
     rintro e w275 ⟨g, rfl, hrow, RE⟩
     replace O := OwnT.ext O RE; refine ⟨_, rfl, ?_⟩
     intro a274 hE e201 kp; replace e200 := kt kp e200; apply Z06 202 hE k rfl (by rfl) (by rfl) rfl
     case h =>
      simp [go_sem, ↓IntWalk.iteOmega, ev e200, ev e201]
      with_reducible exact ⟨rfl, rfl⟩
     case hc => exact sadd_nil 0 (some ⟨g, 0, none⟩) 1 1 _
     rintro e w277 ⟨rfl, RE⟩
     replace O := OwnT.ext O RE; refine ⟨_, rfl, ?_⟩
     intro a276 hE e202 kp; refine sd 199 hE k (Z02 rfl e202) ?_; intro a278 hE e199 kp; apply Z04 203 hE k rfl rfl rfl rfl; case h =>
      simp [go_sem, ↓IntWalk.iteOmega, ev e199]
      with_reducible rfl
     intro a279 hE e203 kp; replace e199 := kt kp e199; apply Z04 204 hE k rfl rfl rfl rfl; case h =>
      simp [go_sem, ↓IntWalk.iteOmega, ev e199]
      with_reducible rfl
     intro a280 hE e204 kp; replace e203 := kt kp e203; refine sd 28 hE k (Z01 rfl e203) ?_; intro a281 hE e28 kp; replace e204 := kt kp e204; refine sd 29 hE k (Z01 rfl e204) ?_; intro a282 hE e29 kp; refine wpList_nil ?_; replace e23 := hE.g e23; replace e25 := hE.g e25; replace e27 := hE.g e27; replace k := k.env hE; clear hE; refine Z00 (wp_seq ?_); refine wp_region_lit ?_
     have hE := Env.refl a282 [206, 207, 205, 208, 209, 30, 31]; refine zm 206 hE k e23 ?_; intro a283 hE e206 kp; apply Z06 207 hE k rfl (by rfl) (by rfl) rfl
     case h =>
      simp [go_sem, ↓IntWalk.iteOmega, ev e206]
      with_reducible exact ⟨rfl, rfl⟩
     case hc => exact sread_nil 1 _
     rintro e w285 ⟨rfl, RE⟩
     replace O := OwnT.ext O RE; refine ⟨_, rfl, ?_⟩
     intro a284 hE e207 kp; refine sd 205 hE k (Z02 rfl e207) ?_; intro a286 hE e205 kp; apply Z04 208 hE k rfl rfl rfl rfl; case h =>
      simp [go_sem, ↓IntWalk.iteOmega, ev e205]
      with_reducible rfl
     intro a287 hE e208 kp; replace e205 := kt kp e205; apply Z04 209 hE k rfl rfl rfl rfl; case h =>
      simp [go_sem, ↓IntWalk.iteOmega, ev e205]
      with_reducible rfl
     intro a288 hE e209 kp; replace e208 := kt kp e208; refine Z0o O (cs := #[.int .i64 0, .slice none 0 0]) (t := 47) 30 hE k rfl (by rfl) (by rfl) rfl (by simp [go_sem, ↓IntWalk.iteOmega]) ?_
     clear O; intro ln a289 w290 O hE e30 kp; replace e208 := kt kp e208; replace e209 := kt kp e209; have q0 : w290.cell? ⟨ln, 0, none⟩ = some (.int .i64 0) := (OwnT.blk O 0 rfl).cell 0
     have z0 : w290.frozen? ⟨ln, 0, none⟩ = false := (OwnT.blk O 0 rfl).frozen 0
     have q1 : w290.cell? ⟨ln, 1, none⟩ = some (.slice none 0 0) := (OwnT.blk O 0 rfl).cell 1
     have z1 : w290.frozen? ⟨ln, 1, none⟩ = false := (OwnT.blk O 0 rfl).frozen 1
     refine Z0m (w' := ((w290.setCell ⟨ln, 0, none⟩ (.int .i64 0)).setCell ⟨ln, 1, none⟩ (.slice none 0 0))) hE rfl rfl (by simp [go_sem, ↓IntWalk.iteOmega, ev e30, ev e208, q0, z0, q1, z1]) ?_
     replace O := OwnT.push 0 rfl (((OwnT.pull O 0 rfl).set 0 (.int .i64 0)).set 1 (.slice none 0 0))
     clear q0 z0 q1 z1; generalize ((w290.setCell ⟨ln, 0, none⟩ (.int .i64 0)).setCell ⟨ln, 1, none⟩ (.slice none 0 0)) = w291 at O ⊢
     replace O : OwnT _ _ ([tBlk ln 47 #[.int .i64 0, .slice none 0 0], tBlk tb 33 #[.int .i64 s0, .int .i64 s1]]) w291 := O
     refine sd 31 hE k (Z01 rfl e209) ?_; intro a292 hE e31 kp; refine wpList_nil ?_; replace e23 := hE.g e23; replace e25 := hE.g e25; replace e27 := hE.g e27; replace e29 := hE.g e29; replace k := k.env hE; clear hE; refine Z00 (wp_seq ?_); refine wp_region_lit ?_
     have hE := Env.refl a292 [210, 211, 212]; refine zm 210 hE k e23 ?_; intro a293 hE e210 kp; refine Z6l (m := 1) (c := 1) O (cs := #[.int .i64 1]) (t := 3) 211 hE k rfl (by rfl) (by rfl) rfl (by simp [go_sem, ↓IntWalk.iteOmega]) ?_
     clear O; intro g1 a294 w295 O hE e211 kp; replace e210 := kt kp e210; apply Z06 212 hE k rfl (by rfl) (by rfl) rfl
     case h =>
      simp [go_sem, ↓IntWalk.iteOmega, ev e210, ev e211]
      with_reducible exact ⟨rfl, rfl⟩
     case hc => exact skeep_nil (xs := [1]) _
     rintro e w297 ⟨rfl, RE⟩
     replace O := OwnT.ext O RE; refine ⟨_, rfl, ?_⟩
     intro a296 hE e212 kp; refine wpList_nil ?_; replace e23 := hE.g e23; replace e25 := hE.g e25; replace e27 := hE.g e27; replace e29 := hE.g e29; replace e31 := hE.g e31; replace k := k.env hE; clear hE e212; refine Z00 (wp_seq ?_); refine wp_region_lit ?_
     have hE := Env.refl a296 [213, 214]; refine zm 213 hE k e23 ?_; intro a298 hE e213 kp; apply Z06 214 hE k rfl (by rfl) (by rfl) rfl
     case h =>
      simp [go_sem, ↓IntWalk.iteOmega, ev e213]
      with_reducible exact ⟨rfl, rfl⟩
     case hc => exact ssweep_nil (xs := []) _
     rintro e w300 ⟨rfl, RE⟩
     replace O := OwnT.ext O RE; refine ⟨_, rfl, ?_⟩
     intro a299 hE e214 kp; refine wpList_nil ?_; replace e23 := hE.g e23; replace e25 := hE.g e25; replace e27 := hE.g e27; replace e29 := hE.g e29; replace e31 := hE.g e31; replace k := k.env hE; clear hE e214; refine Z00 (wp_seq ?_); refine wp_region_lit ?_
     have hE := Env.refl a299 [215, 216, 217, 218, 219, 220, 221, 222, 223, 224, 225, 226, 227, 228, 229, 230, 231, 232, 233, 234, 235, 236, 237, 238, 239, 240, 241, 242, 243, 244, 245, 246, 247, 248, 249, 250, 251, 252, 253, 254, 8]; refine zm 215 hE k e25 ?_; intro a301 hE e215 kp; refine sd 216 hE k (Z1x rfl e215 rfl) ?_; intro a302 hE e216 kp; refine sd 217 hE k (Z02 rfl e216) ?_; intro a303 hE e217 kp; apply Z03 218 hE k rfl rfl rfl rfl rfl e217
     case h =>
      exact Z02 rfl (hE.g e27)
     intro a304 hE e218 kp; replace e217 := kt kp e217; apply Z03 219 hE k rfl rfl rfl rfl rfl e217
     case h =>
      exact Z1x rfl e218 rfl
     intro a305 hE e219 kp; replace e217 := kt kp e217; refine sd 220 hE k (Z0a rfl e217 e219) ?_; intro a306 hE e220 kp; refine sd 221 hE k (Z02 rfl e220) ?_; intro a307 hE e221 kp; apply Z03 222 hE k rfl rfl rfl rfl rfl e221
     case h =>
      exact Z02 rfl (hE.g e29)
     intro a308 hE e222 kp; replace e221 := kt kp e221; apply Z03 223 hE k rfl rfl rfl rfl rfl e221
     case h =>
      exact Z1x rfl e222 rfl
     intro a309 hE e223 kp; replace e221 := kt kp e221; refine sd 224 hE k (Z0a rfl e221 e223) ?_; intro a310 hE e224 kp; refine sd 225 hE k (Z02 rfl e224) ?_; intro a311 hE e225 kp; apply Z03 226 hE k rfl rfl rfl rfl rfl e225
     case h =>
      exact Z02 rfl (hE.g e31)
     intro a312 hE e226 kp; replace e225 := kt kp e225; apply Z03 227 hE k rfl rfl rfl rfl rfl e225
     case h =>
      exact Z1x rfl e226 rfl
     intro a313 hE e227 kp; replace e225 := kt kp e225; refine sd 228 hE k (Z0a rfl e225 e227) ?_; intro a314 hE e228 kp; refine sd 229 hE k (Z02 rfl e228) ?_; intro a315 hE e229 kp; apply Z03 230 hE k rfl rfl rfl rfl rfl e229
     case h =>
      exact Z02 rfl (hE.g e23)
     intro a316 hE e230 kp; replace e229 := kt kp e229; apply Z17 231 hE k rfl (by rfl) (by rfl) rfl rfl e229
     case h =>
      simp [go_sem, ↓IntWalk.iteOmega, ev e230]
      with_reducible exact ⟨rfl, rfl⟩
     case hc => exact scommit_nil (xs := []) 0 _
     rintro e w318 ⟨rfl, RE⟩
     replace O := OwnT.ext O RE; refine ⟨_, rfl, ?_⟩
     intro a317 hE e231 kp; replace e229 := kt kp e229; apply Z03 232 hE k rfl rfl rfl rfl rfl e229
     case h =>
      exact Z1x rfl e231 rfl
     intro a319 hE e232 kp; replace e229 := kt kp e229; refine sd 233 hE k (Z0a rfl e229 e232) ?_; intro a320 hE e233 kp; refine sd 234 hE k (Z02 rfl e233) ?_; intro a321 hE e234 kp; apply Z03 235 hE k rfl rfl rfl rfl rfl e234
     case h =>
      exact Z02 rfl (hE.g e23)
     intro a322 hE e235 kp; replace e234 := kt kp e234; apply Z17 236 hE k rfl (by rfl) (by rfl) rfl rfl e234
     case h =>
      simp [go_sem, ↓IntWalk.iteOmega, ev e235]
      with_reducible exact ⟨rfl, rfl⟩
     case hc => exact spages_nil _
     rintro e _ ⟨rfl, rfl⟩
     refine ⟨_, rfl, ?_⟩
     intro a323 hE e236 kp; replace e234 := kt kp e234; apply Z03 237 hE k rfl rfl rfl rfl rfl e234
     case h =>
      exact Z1x rfl e236 rfl
     intro a324 hE e237 kp; replace e234 := kt kp e234; refine sd 238 hE k (Z0a rfl e234 e237) ?_; intro a325 hE e238 kp; refine sd 239 hE k (Z02 rfl e238) ?_; intro a326 hE e239 kp; apply Z03 240 hE k rfl rfl rfl rfl rfl e239
     case h =>
      exact Z02 rfl (hE.g e23)
     intro a327 hE e240 kp; replace e239 := kt kp e239; apply Z17 241 hE k rfl (by rfl) (by rfl) rfl rfl e239
     case h =>
      simp [go_sem, ↓IntWalk.iteOmega, ev e240]
      with_reducible exact ⟨rfl, rfl⟩
     case hc => exact scount_nil _
     rintro e _ ⟨rfl, rfl⟩
     refine ⟨_, rfl, ?_⟩
     intro a328 hE e241 kp; replace e239 := kt kp e239; apply Z03 242 hE k rfl rfl rfl rfl rfl e239
     case h =>
      exact Z1x rfl e241 rfl
     intro a329 hE e242 kp; replace e239 := kt kp e239; refine sd 243 hE k (Z0a rfl e239 e242) ?_; intro a330 hE e243 kp; refine sd 244 hE k (Z02 rfl e243) ?_; intro a331 hE e244 kp; apply Z03 245 hE k rfl rfl rfl rfl rfl e244
     case h =>
      exact Z02 rfl (hE.g e23)
     intro a332 hE e245 kp; replace e244 := kt kp e244; apply Z17 246 hE k rfl (by rfl) (by rfl) rfl rfl e244
     case h =>
      simp [go_sem, ↓IntWalk.iteOmega, ev e245]
      with_reducible exact ⟨rfl, rfl⟩
     case hc => exact sfresh_nil _
     rintro e _ ⟨rfl, rfl⟩
     refine ⟨_, rfl, ?_⟩
     intro a333 hE e246 kp; replace e244 := kt kp e244; apply Z03 247 hE k rfl rfl rfl rfl rfl e244
     case h =>
      exact Z1x rfl e246 rfl
     intro a334 hE e247 kp; replace e244 := kt kp e244; refine sd 248 hE k (Z0a rfl e244 e247) ?_; intro a335 hE e248 kp; refine sd 249 hE k (Z02 rfl e248) ?_; intro a336 hE e249 kp; apply Z03 250 hE k rfl rfl rfl rfl rfl e249
     case h =>
      exact Z02 rfl (hE.g e23)
     intro a337 hE e250 kp; replace e249 := kt kp e249; apply Z17 251 hE k rfl (by rfl) (by rfl) rfl rfl e249
     case h =>
      simp [go_sem, ↓IntWalk.iteOmega, ev e250]
      with_reducible exact ⟨rfl, rfl⟩
     case hc => exact shead_nil _
     rintro e w339 ⟨rfl, RE⟩
     replace O := OwnT.ext O RE; refine ⟨_, rfl, ?_⟩
     intro a338 hE e251 kp; replace e249 := kt kp e249; apply Z03 252 hE k rfl rfl rfl rfl rfl e249
     case h =>
      simp [go_sem, ↓IntWalk.iteOmega]
      with_reducible rfl
     intro a340 hE e252 kp; replace e249 := kt kp e249; replace e251 := kt kp e251; apply Z03 253 hE k rfl rfl rfl rfl rfl e249
     case h =>
      exact x_eqHd rfl e251 e252
     intro a341 hE e253 kp; replace e249 := kt kp e249; refine sd 254 hE k (Z0a rfl e249 e253) ?_; intro a342 hE e254 kp; refine sd 8 hE k (Z01 rfl e254) ?_; intro a343 hE e8 kp; refine wpList_nil ?_; replace k := k.env hE; clear hE e23 e25 e27 e29 e31; refine Z00 ?_; refine wp_ret ?_
     refine Z0j rfl k e8 ?_
     exact ⟨rfl, O.below⟩
theorem storeOpens_walk (w : World) (v0 v1 v2 v3 : Value) (h0 : Arg Tryz.prog w 9 v0) (h1 : Arg Tryz.prog w 3 v1) (h2 : Arg Tryz.prog w 33 v2) (h3 : Arg Tryz.prog w 3 v3) :
 Calls Tryz.prog 5 #[v0, v1, v2, v3] w fun e w' => e = .returned (.bool true) ∧ Below w.heap.size w w' := by
 obtain ⟨s, rfl, _⟩ := arg_string Tryz.underlying9 h0
 obtain ⟨x, rfl, -⟩ := arg_int Tryz.underlying3 h1
 obtain ⟨s0, s1, rfl⟩ := arg_arr2 h2
 obtain ⟨c, rfl, -⟩ := arg_int Tryz.underlying3 h3
 rw [← sB_of s]
 exact Z4z _ x s0 s1 c w
section
open Go.ChangeShapes Go.WideShapes Go.ChangeAt
theorem Arg.mk_ {P : Program} {w : World} {t : TypeId} {v : Value} {H : Type} {enc : TypeId × Value → H} {d : DataW H} {p : List MemPlace} {r : Reach} {base : Nat} (h : DataW.Trod enc P w 0 (fun _ => true) true t v d p) (hv : Value.okWide P w r base t v) : Arg P w t v := by
  obtain ⟨fuel, hf⟩ := h
  exact ⟨⟨H, enc, fuel, _, hf⟩, r, base, hv⟩
end
end Go.Proofs.YtakkhglbdljfiaaGreatDoor
