/- trees: Put (printed by XTrPt.gen.py). -/
import Derived.Test.YtbfgacmfjfbooaaKReachExact11
import Derived.Test.YtbfgacmfjfbooaaKReachExact14
import Derived.Test.YtbfgacmfjfbooaaKReachExact01
import Derived.Shelf.SlIterI.Nil
import Derived.Shelf.SortM.Plain
import Derived.Shelf.SortM.SortNone
import Derived.Ground.GgzProg
import Derived.Ground.SlgmProg
import Derived.Test.YtbfgacmfjfbooaaProg
namespace Go.Proofs.Ytbfgacmfjfbooaa
attribute [local simp] BigFrame.eval_const BigFrame.eval_global BigFrame.eval_func
set_option linter.unusedVariables false
set_option linter.unusedSimpArgs false
open Go.RowKit Go.Maps

/-- One pair more, at a leaf. -/
def GrowL (root : Nat) (x : Pr) (L L' : List (List Pr)) : Prop := (root = 0 ∧ L = [] ∧ L' = [[x]]) ∨ (root ≠ 0 ∧ SplitL x L L')
theorem GrowL.phi {root : Nat} {x : Pr} {L L' : List (List Pr)} (h : GrowL root x L L') : phi L' ≤ phi L + if root = 0 then 8 else 1 := by
 rcases h with ⟨h, rfl, rfl⟩ | ⟨h, h2⟩
 · rw [if_pos h]; simp [Go.Proofs.Ytbfgacmfjfbooaa.phi]
 · rw [if_neg h]; exact phi_split h2
/-- What 'Put' brings: no room; or a tree with the pair, at most one level higher (only if there are sixteen leaves), by at most so many nodes more. -/
structure PutT (m : Nat) (N N' : List Nd) (room : Int) (root k v : Nat) (L : List (List Pr)) (g : List Nat) (root' : Int) (er : Int) : Prop where
 app : ∃ M, N' = N ++ M ∧ M.length ≤ 2 * (m + 1) + 1
 how : (er = 6 ∧ root' = 0 ∧ ¬ (N.length + (2 * (m + 1) + 1) ≤ 511 ∧ ((N.length + (2 * (m + 1) + 1) : Nat) : Int) ≤ room)) ∨
  (er = 0 ∧ ∃ (r : Nat) (L' : List (List Pr)) (g' : List Nat) (m' : Nat), root' = r ∧ 1 ≤ r ∧ r ≤ N'.length ∧ RT m' N' r L' g' ∧ L'.flatten = insP (k, v) L.flatten ∧ GrowL root (k, v) L L' ∧ m' ≤ m + 1 ∧ (m' = m ∨ m = 0 ∨ 16 ≤ L'.length) ∧ (∀ q ∈ g', q ∈ g ∨ N.length < q) ∧ N'.length + L.length ≤ N.length + L'.length + 2 * m + 2)
theorem rt_leaf {N : List Nd} {k v : Nat} (hk : k < 18446744073709551616) (hv : v < 18446744073709551616) : RT 0 (N ++ [(0, [(k, v)])]) (N.length + 1) [[(k, v)]] [N.length + 1] :=
 ⟨.inr ⟨0, Nat.le_refl _, ⟨[(k, v)], [], Z26 N _ [], by simp, by simp, Z0f.2 ⟨by simp, rfl⟩, rfl⟩, fun h => by cases h⟩, by simp [Up], by simp, fun y hy => by
  obtain rfl : y = (k, v) := by simpa using hy
  exact ⟨hk, hv⟩⟩
theorem rt_one {m l : Nat} {N N' : List Nd} {root k q : Nat} {x : Pr} {L : List (List Pr)} {g : List Nat} (hu : Up L.flatten) (hwf : ∀ y ∈ L.flatten, y.1 < 18446744073709551616 ∧ y.2 < 18446744073709551616) (hx : x.1 < 18446744073709551616 ∧ x.2 < 18446744073709551616) (hl : l ≤ m)
 (h2 : 0 < l → ∃ xs, ndAt N root = some (l, xs) ∧ 2 ≤ xs.length) (hp : PutR N N' l root x L g [(k, q)]) : 1 ≤ q ∧ q ≤ N'.length ∧ ∃ L' g', RT m N' q L' g' ∧ L'.flatten = insP x L.flatten ∧ SplitL x L L' ∧ (∀ q ∈ g', q ∈ g ∨ N.length < q) ∧ N'.length + L.length ≤ N.length + L'.length + 2 * m + 2 := by
 obtain ⟨L', g', k1, k2, k3, k4, k5, _, k7⟩ := hp.kids
 simp only [List.length_singleton] at k7
 have hT := k1.of_one.1
 obtain ⟨r, e⟩ := Tr.one hT
 have hq := Tr.pages hT q (by rw [e]; simp)
 refine ⟨hq.1, hq.2, L', g', ⟨.inr ⟨l, hl, hT, fun h0 => ?_⟩, by rw [k5]; exact insP_up hu, k2, by rw [k5]; exact wf_ins hwf hx⟩, k5, k4, k3, (by split at k7 <;> omega)⟩
 obtain ⟨xs, h3, h4⟩ := hp.root h0
 obtain ⟨xs', h5, h6⟩ := h2 h0
 rw [h5] at h3
 injection h3 with h3
 injection h3 with _ h3
 subst h3
 obtain ⟨k', q', ys, e1, e2, e3⟩ := h4 rfl
 injection e1 with e1
 injection e1 with _ e1
 subst e1
 exact ⟨ys, e2, by omega⟩
theorem rt_two {m l : Nat} {N N' : List Nd} {root : Nat} {x : Pr} {L : List (List Pr)} {g : List Nat} {es : List Pr} (hu : Up L.flatten) (hwf : ∀ y ∈ L.flatten, y.1 < 18446744073709551616 ∧ y.2 < 18446744073709551616) (hx : x.1 < 18446744073709551616 ∧ x.2 < 18446744073709551616) (hl : l ≤ m) (he : es.length = 2)
 (hp : PutR N N' l root x L g es) : ∃ L' g' m', RT m' (N' ++ [(l + 1, es)]) (N'.length + 1) L' g' ∧ L'.flatten = insP x L.flatten ∧ SplitL x L L' ∧ m' ≤ m + 1 ∧ (m' = m ∨ m = 0 ∨ 16 ≤ L'.length) ∧ (∀ q ∈ g', q ∈ g ∨ N.length < q) ∧ (N' ++ [(l + 1, es)]).length + L.length ≤ N.length + L'.length + 2 * m + 2 := by
 obtain ⟨L', g', k1, k2, k3, k4, k5, k6, k7⟩ := hp.kids
 rw [he] at k7
 have hne : es ≠ [] := fun e => by rw [e] at he; cases he
 have hT : Tr (N' ++ [(l + 1, es)]) (l + 1) (N'.length + 1) L' ((N'.length + 1) :: g') := Z2l (Z0i.2 k1 : Body (Tb N' (l + 1)) (l + 1) es L' g') hne (by omega) (Z26 N' _ [])
 have hpg : ∀ q ∈ g', 1 ≤ q ∧ q ≤ N'.length := k1.pages fun _ _ _ h => Tr.pages h
 have hR : RT (l + 1) (N' ++ [(l + 1, es)]) (N'.length + 1) L' ((N'.length + 1) :: g') := ⟨.inr ⟨l + 1, Nat.le_refl _, hT, fun _ => ⟨es, Z26 N' _ [], by omega⟩⟩, by rw [k5]; exact insP_up hu, List.nodup_cons.2 ⟨fun h => by have := (hpg _ h).2; omega, k2⟩, by rw [k5]; exact wf_ins hwf hx⟩
 have hsub : ∀ q ∈ (N'.length + 1) :: g', q ∈ g ∨ N.length < q := fun q hq => by
  rcases List.mem_cons.1 hq with rfl | hq
  · obtain ⟨M, rfl, _⟩ := hp.app
    exact .inr (by rw [List.length_append]; omega)
  · exact k3 q hq
 have hcnt : (N' ++ [(l + 1, es)]).length + L.length ≤ N.length + L'.length + 2 * m + 2 := by
  rw [List.length_append, List.length_singleton]
  split at k7 <;> omega
 by_cases h0 : l < m
 · exact ⟨L', _, m, ⟨(hR.rt).imp id (fun ⟨l', h1, h2, h3⟩ => ⟨l', by omega, h2, h3⟩), hR.up, hR.nod, hR.wf⟩, k5, k4, by omega, .inl rfl, hsub, hcnt⟩
 · obtain rfl : l = m := by omega
   refine ⟨L', _, l + 1, hR, k5, k4, Nat.le_refl _, .inr ?_, hsub, hcnt⟩
   by_cases h1 : l = 0
   · exact .inl h1
   · exact .inr (k6 he (by omega))

set_option maxRecDepth 100000 in
set_option maxHeartbeats 4000000 in
theorem tPut_zero {H : Nat} {A0 : World} {R : List Thing} {sb cap : Nat} {room : Int} {B : Option Addr} {vs : List Value} {N : List Nd} {root ky vl m : Nat} {L : List (List Pr)} {g : List Nat} (w : World) (O : OwnT H A0 (shT sb room B cap vs N R) w) (hRT : RT m N root L g) (h6 : m ≤ 6) (hN : N.length ≤ 511) (hk : ky < 18446744073709551616) (hv : vl < 18446744073709551616) (hr : root = 0) : Calls Try.prog 60 #[.iface 47 (.pointer (some ⟨sb, 0, none⟩)), .int .i64 root, .int .u64 ky, .int .u64 vl] w fun e w' => ∃ N' root' er B' cap' vs', e = .returned (.tuple #[.int .i64 root', .int .i64 er]) ∧ OwnT H A0 (shT sb room B' cap' vs' N' R) w' ∧ PutT m N N' room root ky vl L g root' er := by
 refine Z0a Try.func60 rfl 59 rfl (by rfl) ?_
 intro a1 k hargs; have e0 : a1.eval (.tmp 0) = .iface 47 (.pointer (some ⟨sb, 0, none⟩)) := hargs 0 _ rfl
 have e1 : a1.eval (.tmp 1) = .int .i64 ↑root := hargs 1 _ rfl
 have e2 : a1.eval (.tmp 2) = .int .u64 ↑ky := hargs 2 _ rfl
 have e3 : a1.eval (.tmp 3) = .int .u64 ↑vl := hargs 3 _ rfl
 clear hargs; refine wp_seq ?_; refine wp_region_lit ?_
 have hE := Env.refl a1 [8, 9]; refine sd 8 hE k (Z01 rfl rfl) ?_; intro a2 hE e8 kp; refine sd 9 hE k (Z01 rfl rfl) ?_; intro a3 hE e9 kp; refine wpList_nil ?_; replace e0 := hE.g e0; replace e1 := hE.g e1; replace e2 := hE.g e2; replace e3 := hE.g e3; replace k := k.env hE; clear hE e9; refine Z00 (wp_seq ?_); refine wp_region_lit ?_
 have hE := Env.refl a3 [14, 15, 16, 10]; refine zm 14 hE k e2 ?_; intro a4 hE e14 kp; refine zm 15 hE k e3 ?_; intro a5 hE e15 kp; replace e14 := kt kp e14; apply Z03 16 hE k rfl rfl rfl rfl; case h =>
  simp [go_sem, ↓IntWalk.iteOmega, ev e14, ev e15]
  with_reducible rfl
 intro a6 hE e16 kp; refine Z0k O (cs := #[.int .u64 0, .int .u64 0]) (t := 103) 10 hE k rfl (by rfl) (by rfl) rfl (by simp [go_sem, ↓IntWalk.iteOmega]) ?_
 clear O; intro xb a7 w8 O hE e10 kp; replace e16 := kt kp e16; refine Z1f O 0 0 hE e10 e16 ?_
 clear O; intro w9 O; replace O : OwnT _ _ ((tBlk xb 103 #[.int .u64 ↑ky, .int .u64 ↑vl]) :: _) w9 := O
 refine wpList_nil ?_; replace e0 := hE.g e0; replace e1 := hE.g e1; replace k := k.env hE; clear hE e2 e3 e16; refine Z00 ?_; replace O : OwnT _ _ ((tBlk sb 49 #[.slice B N.length cap, .int .i64 room]) :: (tRow 46 2 (.slice B N.length cap) N.length (leafV vs N)) :: (tPool vs N) :: (tBlk xb 103 #[.int .u64 ↑ky, .int .u64 ↑vl]) :: R) w9 := OwnT.pickR (L := [_, _, _, _]) (R := R) O [1, 2, 3, 0] (by decide)
 refine wp_seq ?_; refine wp_seq ?_; refine wp_region_lit ?_
 have hE := Env.refl a7 [17, 18]; refine zm 17 hE k e1 ?_; intro a10 hE e17 kp; refine sd 18 hE k (Z05 (Z12 rfl e17 rfl) (decide_eq_true (by omega))) ?_
 intro a11 hE e18 kp; refine wpList_nil ?_; replace e0 := hE.g e0; replace e1 := hE.g e1; replace e10 := hE.g e10; replace k := k.env hE; clear hE; refine Z00 ?_; refine Z0h e18 rfl ?_
 have hLg : L = [] ∧ g = [] := by
  rcases hRT.rt with ⟨_, h1, h2⟩ | ⟨l, _, hT, _⟩
  · exact ⟨h1, h2⟩
  · obtain ⟨r, e⟩ := Tr.one hT; have := Tr.pages hT root (by rw [e]; simp); omega
 obtain ⟨rfl, rfl⟩ := hLg
 have hadd : ∀ gs W, OwnT H A0 (shT sb room B cap vs N (tBlk gs 103 #[.int .u64 ky, .int .u64 vl] :: R)) W → Calls Try.prog 148 #[.pointer (some ⟨sb, 0, none⟩), .agg #[.int .i64 0, .slice (some ⟨gs, 0, none⟩) 1 1]] W fun e w' => ∃ N' root' er B' cap' vs', e = .returned (.tuple #[.int .i64 root', .int .i64 er]) ∧ OwnT H A0 (shT sb room B' cap' vs' N' (tBlk gs 103 #[.int .u64 ky, .int .u64 vl] :: R)) w' ∧ PutT m N N' room root ky vl [] [] root' er := by
  intro gs W O; by_cases hf : N.length < 511 ∧ (N.length : Int) < room
  · have hrow : Row W (some ⟨gs, 0, none⟩) 2 pairC [(ky, vl)] := by
     intro i x hi; have hb := OwnT.blk O 3 rfl
     cases i with
     | zero =>
      obtain rfl : (ky, vl) = x := by simpa using hi
      refine ⟨gs, 0, rfl, hb.lt, fun j u hu => ?_⟩
      rw [hb.cell]
      match j, hu with
      | 0, hu => simpa [pairC] using hu
      | 1, hu => simpa [pairC] using hu
      | j + 2, hu => simp [pairC] at hu
     | succ i => simp at hi
    refine (Z54 (l := 0) (cx := 1) [(ky, vl)] W O (by omega) hf hrow (.inr ⟨gs, 0, rfl⟩) (by simp)).mono ?_
    rintro e w' ⟨rfl, B', cap', vs', h⟩
    refine ⟨_, _, _, B', cap', vs', rfl, h, ⟨⟨_, rfl, by simp⟩, .inr ⟨rfl, N.length + 1, [[(ky, vl)]], [N.length + 1], m, rfl, by omega, by simp, ?_, by simp [insP], .inl ⟨hr, rfl, rfl⟩, by omega, .inl rfl, (fun q hq => .inr (by have := List.mem_singleton.1 hq; omega)), by simp; omega⟩⟩⟩
    have h0 := rt_leaf (N := N) hk hv
    exact ⟨(h0.rt).imp id (fun ⟨l, h1, h2, h3⟩ => ⟨l, by omega, h2, h3⟩), h0.up, h0.nod, h0.wf⟩
  · refine (Z2u (l := 0) (cx := 1) (Bx := some ⟨gs, 0, none⟩) [(ky, vl)] W O (by omega) hf).mono ?_
    rintro e w' ⟨rfl, h⟩
    exact ⟨N, 0, 6, B, cap, vs, rfl, h, ⟨⟨[], by simp, by simp⟩, .inl ⟨rfl, rfl, by omega⟩⟩⟩

 refine wp_seq ?_; refine wp_region_lit ?_
 have hE := Env.refl a11 [19, 20, 21, 22, 23, 24, 25, 8, 9]; refine zm 19 hE k e0 ?_; intro a12 hE e19 kp; refine sd 20 hE k (Z1s O 3 rfl rfl (hE.g e10) [.int .u64 ↑ky, .int .u64 ↑vl] rfl Try.underlying103 rfl (by kernel_rfl)) ?_; intro a13 hE e20 kp; replace e19 := kt kp e19; refine Z1n (m := 1) (c := 1) O (cs := #[.int .u64 ↑ky, .int .u64 ↑vl]) (t := 103) 21 hE k rfl (by rfl) (by rfl) rfl (by simp [go_sem, ↓IntWalk.iteOmega, ev e20]) ?_
 clear O; intro gs a14 w15 O hE e21 kp; replace e19 := kt kp e19; apply Z03 22 hE k rfl rfl rfl rfl; case h =>
  simp [go_sem, ↓IntWalk.iteOmega, ev e21]
  with_reducible rfl
 intro a16 hE e22 kp; replace e19 := kt kp e19; apply Z09 23 hE k rfl (by rfl) (by rfl) rfl
 case h =>
  exact Z3s rfl e19 e22 (Z29 _ _ _)
 case hc => exact (hadd gs _ (OwnT.pickR (L := [_, _, _, _, _]) (R := R) O [1, 2, 3, 0] (by decide)))
 clear O; rintro e w18 ⟨N2, r2, er, B2, cap2, vs2, rfl, O, hP⟩
 refine ⟨_, rfl, ?_⟩
 intro a17 hE e23 kp; apply Z03 24 hE k rfl rfl rfl rfl; case h =>
  simp [go_sem, ↓IntWalk.iteOmega, ev e23]
  with_reducible rfl
 intro a19 hE e24 kp; replace e23 := kt kp e23; apply Z03 25 hE k rfl rfl rfl rfl; case h =>
  simp [go_sem, ↓IntWalk.iteOmega, ev e23]
  with_reducible rfl
 intro a20 hE e25 kp; replace e24 := kt kp e24; refine sd 8 hE k (Z01 rfl e24) ?_; intro a21 hE e8 kp; replace e25 := kt kp e25; refine sd 9 hE k (Z01 rfl e25) ?_; intro a22 hE e9 kp; replace e8 := kt kp e8; refine wpList_nil ?_; replace k := k.env hE; clear hE e0 e1 e10 e18; refine Z00 ?_; refine wp_ret ?_
 refine Z0o ?_
 refine Z1p rfl k e8 e9 ?_
 exact ⟨N2, r2, er, B2, cap2, vs2, rfl, OwnT.pickR (L := [_, _, _, _]) (R := R) O [0, 1, 2] (by decide), hP⟩
set_option maxRecDepth 100000 in
set_option maxHeartbeats 4000000 in
theorem tPut_some {H : Nat} {A0 : World} {R : List Thing} {sb cap : Nat} {room : Int} {B : Option Addr} {vs : List Value} {N : List Nd} {root ky vl m : Nat} {L : List (List Pr)} {g : List Nat} (w : World) (O : OwnT H A0 (shT sb room B cap vs N R) w) (hRT : RT m N root L g) (h6 : m ≤ 6) (hN : N.length ≤ 511) (hk : ky < 18446744073709551616) (hv : vl < 18446744073709551616) (hr : root ≠ 0) : Calls Try.prog 60 #[.iface 47 (.pointer (some ⟨sb, 0, none⟩)), .int .i64 root, .int .u64 ky, .int .u64 vl] w fun e w' => ∃ N' root' er B' cap' vs', e = .returned (.tuple #[.int .i64 root', .int .i64 er]) ∧ OwnT H A0 (shT sb room B' cap' vs' N' R) w' ∧ PutT m N N' room root ky vl L g root' er := by
 refine Z0a Try.func60 rfl 59 rfl (by rfl) ?_
 intro a1 k hargs; have e0 : a1.eval (.tmp 0) = .iface 47 (.pointer (some ⟨sb, 0, none⟩)) := hargs 0 _ rfl
 have e1 : a1.eval (.tmp 1) = .int .i64 ↑root := hargs 1 _ rfl
 have e2 : a1.eval (.tmp 2) = .int .u64 ↑ky := hargs 2 _ rfl
 have e3 : a1.eval (.tmp 3) = .int .u64 ↑vl := hargs 3 _ rfl
 clear hargs; refine wp_seq ?_; refine wp_region_lit ?_
 have hE := Env.refl a1 [8, 9]; refine sd 8 hE k (Z01 rfl rfl) ?_; intro a2 hE e8 kp; refine sd 9 hE k (Z01 rfl rfl) ?_; intro a3 hE e9 kp; refine wpList_nil ?_; replace e0 := hE.g e0; replace e1 := hE.g e1; replace e2 := hE.g e2; replace e3 := hE.g e3; replace k := k.env hE; clear hE e9; refine Z00 (wp_seq ?_); refine wp_region_lit ?_
 have hE := Env.refl a3 [14, 15, 16, 10]; refine zm 14 hE k e2 ?_; intro a4 hE e14 kp; refine zm 15 hE k e3 ?_; intro a5 hE e15 kp; replace e14 := kt kp e14; apply Z03 16 hE k rfl rfl rfl rfl; case h =>
  simp [go_sem, ↓IntWalk.iteOmega, ev e14, ev e15]
  with_reducible rfl
 intro a6 hE e16 kp; refine Z0k O (cs := #[.int .u64 0, .int .u64 0]) (t := 103) 10 hE k rfl (by rfl) (by rfl) rfl (by simp [go_sem, ↓IntWalk.iteOmega]) ?_
 clear O; intro xb a7 w8 O hE e10 kp; replace e16 := kt kp e16; refine Z1f O 0 0 hE e10 e16 ?_
 clear O; intro w9 O; replace O : OwnT _ _ ((tBlk xb 103 #[.int .u64 ↑ky, .int .u64 ↑vl]) :: _) w9 := O
 refine wpList_nil ?_; replace e0 := hE.g e0; replace e1 := hE.g e1; replace k := k.env hE; clear hE e2 e3 e16; refine Z00 ?_; replace O : OwnT _ _ ((tBlk sb 49 #[.slice B N.length cap, .int .i64 room]) :: (tRow 46 2 (.slice B N.length cap) N.length (leafV vs N)) :: (tPool vs N) :: (tBlk xb 103 #[.int .u64 ↑ky, .int .u64 ↑vl]) :: R) w9 := OwnT.pickR (L := [_, _, _, _]) (R := R) O [1, 2, 3, 0] (by decide)
 obtain ⟨l, hlm, hT, h2⟩ : ∃ l, l ≤ m ∧ Tr N l root L g ∧ (0 < l → ∃ xs, ndAt N root = some (l, xs) ∧ 2 ≤ xs.length) := by
  rcases hRT.rt with ⟨h, _⟩ | h
  · exact absurd h hr
  · exact h
 have hx : (ky, vl).1 < 18446744073709551616 ∧ (ky, vl).2 < 18446744073709551616 := ⟨hk, hv⟩
 refine wp_seq ?_; refine wp_seq ?_; refine wp_region_lit ?_
 have hE := Env.refl a7 [17, 18]; refine zm 17 hE k e1 ?_; intro a10 hE e17 kp; refine sd 18 hE k (Z05 (Z12 rfl e17 rfl) (decide_eq_false (by omega))) ?_
 intro a11 hE e18 kp; refine wpList_nil ?_; replace e0 := hE.g e0; replace e1 := hE.g e1; replace e10 := hE.g e10; replace k := k.env hE; clear hE; refine Z00 ?_; refine Z06 e18 rfl ?_
 refine wp_skip ?_; refine Z00 (wp_seq ?_); refine wp_region_lit ?_
 have hE := Env.refl a11 [27, 28, 29, 30, 26, 31, 32, 33, 11, 12, 13]; refine zm 27 hE k e0 ?_; intro a12 hE e27 kp; refine zm 28 hE k e1 ?_; intro a13 hE e28 kp; replace e27 := kt kp e27; refine sd 29 hE k (Z1s O 3 rfl rfl (hE.g e10) [.int .u64 ↑ky, .int .u64 ↑vl] rfl Try.underlying103 rfl (by kernel_rfl)) ?_; intro a14 hE e29 kp; replace e27 := kt kp e27; replace e28 := kt kp e28; apply Z09 30 hE k rfl (by rfl) (by rfl) rfl
 case h =>
  simp [go_sem, ↓IntWalk.iteOmega, ev e27, ev e28, ev e29]
  with_reducible exact ⟨rfl, rfl⟩
 case hc => exact tput l (x := (ky, vl)) (R := _ :: R) _ O hT hRT.up hRT.nod (by omega) hN hRT.wf hx (.inl (by decide))
 clear O; rintro e w16 ⟨N1, o, es, er, lv, B1, cap1, vs1, rfl, O, hPE⟩
 refine ⟨_, rfl, ?_⟩
 intro a15 hE e30 kp; refine sd 26 hE k (Z02 rfl e30) ?_; intro a17 hE e26 kp; apply Z03 31 hE k rfl rfl rfl rfl; case h =>
  simp [go_sem, ↓IntWalk.iteOmega, ev e26]
  with_reducible rfl
 intro a18 hE e31 kp; replace e26 := kt kp e26; apply Z03 32 hE k rfl rfl rfl rfl; case h =>
  simp [go_sem, ↓IntWalk.iteOmega, ev e26]
  with_reducible rfl
 intro a19 hE e32 kp; replace e26 := kt kp e26; replace e31 := kt kp e31; apply Z03 33 hE k rfl rfl rfl rfl; case h =>
  simp [go_sem, ↓IntWalk.iteOmega, ev e26]
  with_reducible rfl
 intro a20 hE e33 kp; replace e31 := kt kp e31; replace e32 := kt kp e32; refine sd 11 hE k (Z01 rfl e31) ?_; intro a21 hE e11 kp; replace e32 := kt kp e32; replace e33 := kt kp e33; refine sd 12 hE k (Z01 rfl e32) ?_; intro a22 hE e12 kp; replace e33 := kt kp e33; replace e11 := kt kp e11; refine sd 13 hE k (Z01 rfl e33) ?_; intro a23 hE e13 kp; replace e11 := kt kp e11; replace e12 := kt kp e12; refine wpList_nil ?_; replace e0 := hE.g e0; replace k := k.env hE; clear hE e1 e10 e18; refine Z00 (wp_seq ?_); refine wp_block ?_; rcases hPE with ⟨rfl, ⟨M1, rfl, hM1⟩, hrm⟩ | ⟨rfl, rfl, hPR⟩
 · skip
   refine wp_seq ?_; refine wp_region_lit ?_
   have hE := Env.refl a23 [35, 36, 34]; refine zm 35 hE k e13 ?_; intro a24 hE e35 kp; refine sd 36 hE k (Z0q rfl e35 rfl) ?_; intro a25 hE e36 kp; refine sd 34 hE k (Z01 rfl e36) ?_; intro a26 hE e34 kp; refine wpList_nil ?_; replace e0 := hE.g e0; replace e11 := hE.g e11; replace e12 := hE.g e12; replace e13 := hE.g e13; replace k := k.env hE; clear hE; refine Z00 ?_; refine Z0h e34 rfl ?_
   refine wp_seq ?_; refine wp_region_lit ?_
   have hE := Env.refl a26 [37, 8, 9]; refine zm 37 hE k e13 ?_; intro a27 hE e37 kp; refine sd 8 hE k (Z01 rfl rfl) ?_; intro a28 hE e8 kp; replace e37 := kt kp e37; refine sd 9 hE k (Z01 rfl e37) ?_; intro a29 hE e9 kp; replace e8 := kt kp e8; refine wpList_nil ?_; replace k := k.env hE; clear hE e0 e11 e12 e13 e34; refine Z00 ?_; refine wp_ret ?_
   refine Z1l ?_
   refine Z0o ?_
   refine Z1p rfl k e8 e9 ?_
   exact ⟨N ++ M1, 0, 6, B1, cap1, vs1, rfl, OwnT.pickR (L := [_, _, _, _, _]) (R := R) O [1, 2, 3] (by decide), ⟨⟨M1, rfl, by omega⟩, .inl ⟨rfl, rfl, fun h => hrm (by omega)⟩⟩⟩
 · skip
   obtain ⟨Bo, co, rfl, hc1, hc2, -, hc4⟩ := Z0x (OwnT.t0 O)
   have hon := hPR.one
   obtain ⟨M1, hM1, hM1l⟩ := hPR.app
   have hN1l : N1.length = N.length + M1.length := by rw [hM1, List.length_append]
   refine wp_seq ?_; refine wp_region_lit ?_
   have hE := Env.refl a23 [35, 36, 34]; refine zm 35 hE k e13 ?_; intro a30 hE e35 kp; refine sd 36 hE k (Z0q rfl e35 rfl) ?_; intro a31 hE e36 kp; refine sd 34 hE k (Z01 rfl e36) ?_; intro a32 hE e34 kp; refine wpList_nil ?_; replace e0 := hE.g e0; replace e11 := hE.g e11; replace e12 := hE.g e12; replace e13 := hE.g e13; replace k := k.env hE; clear hE; refine Z00 ?_; refine Z06 e34 rfl ?_
   rcases hon with he1 | he2
   · skip
     obtain ⟨⟨k1, q1⟩, rfl⟩ : ∃ y, es = [y] := List.length_eq_one_iff.1 he1
     obtain ⟨hq1, hq2, L', g', hR', hfl, hph, hsub, hcnt⟩ := rt_one hRT.up hRT.wf hx hlm h2 hPR
     obtain ⟨go, rfl⟩ : ∃ go, Bo = some ⟨go, 0, none⟩ := by
      obtain ⟨g2, c2, _, e2, _⟩ := Z18 (OwnT.t0 O : World.ownsRow _ 0 103 2 _ [(k1, q1)].length _) (by simp)
      injection e2 with e2
      exact ⟨g2, e2⟩

     have cq : w16.cell? ⟨go, 1, none⟩ = some (.int .u64 (q1 : Int)) := by
      obtain ⟨_, _, e2, _, _, h, _⟩ := Z0x (OwnT.t0 O); injection e2 with e2 _ e3; subst e2
      obtain ⟨b, o, e, _, hc⟩ := h 0 (k1, q1) rfl; injection e with e; injection e with e e'; subst e e'
      have := hc 1 _ rfl; simpa using this
     refine wp_seq ?_; refine wp_region_lit ?_
     have hE := Env.refl a32 [39, 40, 41, 38]; refine zm 39 hE k e11 ?_; intro a33 hE e39 kp; refine sd 40 hE k (Z0j Try.underlying44 rfl e39) ?_; intro a34 hE e40 kp; refine sd 41 hE k (Z05 (Z12 rfl e40 rfl) (decide_eq_true (by simp))) ?_
     intro a35 hE e41 kp; refine sd 38 hE k (Z01 rfl e41) ?_; intro a36 hE e38 kp; refine wpList_nil ?_; replace e0 := hE.g e0; replace e11 := hE.g e11; replace e12 := hE.g e12; replace k := k.env hE; clear hE e13 e34; refine Z00 ?_; refine Z0h e38 rfl ?_
     refine wp_seq ?_; refine wp_region_lit ?_
     have hE := Env.refl a36 [42, 43, 44, 45, 46, 8, 9]; refine zm 42 hE k e11 ?_; intro a37 hE e42 kp; apply Z03 43 hE k rfl rfl rfl rfl; case h =>
      simp [go_sem, ↓IntWalk.iteOmega, ev e42]
      with_reducible rfl
     intro a38 hE e43 kp; apply Z03 44 hE k rfl rfl rfl rfl; case h =>
      simp [go_sem, ↓IntWalk.iteOmega, ev e43]
      with_reducible rfl
     intro a39 hE e44 kp; apply Z03 45 hE k rfl rfl rfl rfl; case h =>
      simp [go_sem, ↓IntWalk.iteOmega, ev e44, cq]
      with_reducible rfl
     intro a40 hE e45 kp; refine sd 46 hE k (Z2r rfl e45 (Z2g q1 _ (by omega))) ?_
     intro a41 hE e46 kp; refine sd 8 hE k (Z01 rfl e46) ?_; intro a42 hE e8 kp; refine sd 9 hE k (Z01 rfl rfl) ?_; intro a43 hE e9 kp; replace e8 := kt kp e8; refine wpList_nil ?_; replace k := k.env hE; clear hE e0 e11 e12 e38; refine Z00 ?_; refine wp_ret ?_
     refine Z1l ?_
     refine Z0o ?_
     refine Z1p rfl k e8 e9 ?_
     exact ⟨N1, q1, 0, B1, cap1, vs1, rfl, OwnT.pickR (L := [_, _, _, _, _]) (R := R) O [1, 2, 3] (by decide), ⟨⟨M1, hM1, by omega⟩, .inr ⟨rfl, q1, L', g', m, rfl, hq1, hq2, hR', hfl, .inr ⟨hr, hph⟩, by omega, .inl rfl, hsub, hcnt⟩⟩⟩
   · skip
     obtain ⟨L', g', m', hR', hfl, hph, hm1, hm2, hsub, hcnt⟩ := rt_two hRT.up hRT.wf hx hlm he2 hPR
     refine wp_seq ?_; refine wp_region_lit ?_
     have hE := Env.refl a32 [39, 40, 41, 38]; refine zm 39 hE k e11 ?_; intro a44 hE e39 kp; refine sd 40 hE k (Z0j Try.underlying44 rfl e39) ?_; intro a45 hE e40 kp; refine sd 41 hE k (Z05 (Z12 rfl e40 rfl) (decide_eq_false (by omega))) ?_
     intro a46 hE e41 kp; refine sd 38 hE k (Z01 rfl e41) ?_; intro a47 hE e38 kp; refine wpList_nil ?_; replace e0 := hE.g e0; replace e11 := hE.g e11; replace e12 := hE.g e12; replace k := k.env hE; clear hE e13 e34; refine Z00 ?_; refine Z06 e38 rfl ?_
     refine wp_seq ?_; refine wp_region_lit ?_
     have hE := Env.refl a47 [48, 49, 50, 47]; refine zm 48 hE k e12 ?_; intro a48 hE e48 kp; refine sd 49 hE k (Z11 rfl e48 rfl (by omega)) ?_; intro a49 hE e49 kp; refine sd 50 hE k (Z05 (Z6m rfl e49 rfl) (decide_eq_false (by omega))) ?_
     intro a50 hE e50 kp; refine sd 47 hE k (Z01 rfl e50) ?_; intro a51 hE e47 kp; refine wpList_nil ?_; replace e0 := hE.g e0; replace e11 := hE.g e11; replace e12 := hE.g e12; replace k := k.env hE; clear hE e38; refine Z00 ?_; refine Z06 e47 rfl ?_
     refine wp_skip ?_; refine Z0u ?_; refine Z00 ?_; replace O : OwnT _ _ ((tBlk sb 49 #[.slice B1 N1.length cap1, .int .i64 room]) :: (tRow 46 2 (.slice B1 N1.length cap1) N1.length (leafV vs1 N1)) :: (tPool vs1 N1) :: (tPs (.slice Bo es.length co) es) :: (tBlk xb 103 #[.int .u64 ↑ky, .int .u64 ↑vl]) :: R) w16 := OwnT.pickR (L := [_, _, _, _, _]) (R := R) O [1, 2, 3, 0, 4] (by decide)
     obtain ⟨Bq, cq, e2q, -, -, hrow, -⟩ := Z0x (OwnT.get O 3 rfl : (tPs (.slice Bo es.length co) es).holds _)
     injection e2q with e2q _ e3q
     subst e2q e3q
     obtain ⟨l2, hl2⟩ : ∃ z, l + 1 = z := ⟨_, rfl⟩
     rw [hl2] at hR' hcnt
     by_cases hf : N1.length < 511 ∧ (N1.length : Int) < room
     · skip
       refine wp_seq ?_; refine wp_region_lit ?_
       have hE := Env.refl a51 [51, 52, 53, 54, 55, 56, 57, 58, 8, 9]; refine zm 51 hE k e0 ?_; intro a52 hE e51 kp; refine zm 52 hE k e12 ?_; intro a53 hE e52 kp; replace e51 := kt kp e51; refine sd 53 hE k (Z1c (v := .int .i64 (l2 : Int)) (Z11 rfl e52 rfl (by omega)) (Z0s (by omega))) ?_
       intro a54 hE e53 kp; replace e51 := kt kp e51; refine zm 54 hE k e11 ?_; intro a55 hE e54 kp; replace e51 := kt kp e51; replace e53 := kt kp e53; apply Z03 55 hE k rfl rfl rfl rfl; case h =>
        simp [go_sem, ↓IntWalk.iteOmega, ev e53, ev e54]
        with_reducible rfl
       intro a56 hE e55 kp; replace e51 := kt kp e51; apply Z09 56 hE k rfl (by rfl) (by rfl) rfl
       case h =>
        exact Z3s rfl e51 e55 (Z29 _ _ _)
       case hc => exact Z54 (R := _ :: _ :: R) es _ O (by omega) hf hrow hc4 (by omega)
       clear O; rintro e w58 ⟨rfl, B2, cap2, vs2, O⟩
       refine ⟨_, rfl, ?_⟩
       intro a57 hE e56 kp; apply Z03 57 hE k rfl rfl rfl rfl; case h =>
        simp [go_sem, ↓IntWalk.iteOmega, ev e56]
        with_reducible rfl
       intro a59 hE e57 kp; replace e56 := kt kp e56; apply Z03 58 hE k rfl rfl rfl rfl; case h =>
        simp [go_sem, ↓IntWalk.iteOmega, ev e56]
        with_reducible rfl
       intro a60 hE e58 kp; replace e57 := kt kp e57; refine sd 8 hE k (Z01 rfl e57) ?_; intro a61 hE e8 kp; replace e58 := kt kp e58; refine sd 9 hE k (Z01 rfl e58) ?_; intro a62 hE e9 kp; replace e8 := kt kp e8; refine wpList_nil ?_; replace k := k.env hE; clear hE e0 e11 e12 e47; refine Z00 ?_; refine wp_ret ?_
       refine Z1p rfl k e8 e9 ?_
       exact ⟨N1 ++ [(l2, es)], ((N1.length + 1 : Nat) : Int), 0, B2, cap2, vs2, rfl, OwnT.pickR (L := [_, _, _, _, _]) (R := R) O [0, 1, 2] (by decide), ⟨⟨M1 ++ [(l2, es)], by rw [hM1, List.append_assoc], by rw [List.length_append]; simp; omega⟩, .inr ⟨rfl, N1.length + 1, L', g', m', rfl, by omega, by simp, hR', hfl, .inr ⟨hr, hph⟩, hm1, hm2, hsub, hcnt⟩⟩⟩
     · skip
       refine wp_seq ?_; refine wp_region_lit ?_
       have hE := Env.refl a51 [51, 52, 53, 54, 55, 56, 57, 58, 8, 9]; refine zm 51 hE k e0 ?_; intro a63 hE e51 kp; refine zm 52 hE k e12 ?_; intro a64 hE e52 kp; replace e51 := kt kp e51; refine sd 53 hE k (Z1c (v := .int .i64 (l2 : Int)) (Z11 rfl e52 rfl (by omega)) (Z0s (by omega))) ?_
       intro a65 hE e53 kp; replace e51 := kt kp e51; refine zm 54 hE k e11 ?_; intro a66 hE e54 kp; replace e51 := kt kp e51; replace e53 := kt kp e53; apply Z03 55 hE k rfl rfl rfl rfl; case h =>
        simp [go_sem, ↓IntWalk.iteOmega, ev e53, ev e54]
        with_reducible rfl
       intro a67 hE e55 kp; replace e51 := kt kp e51; apply Z09 56 hE k rfl (by rfl) (by rfl) rfl
       case h =>
        exact Z3s rfl e51 e55 (Z29 _ _ _)
       case hc => exact Z2u (R := _ :: _ :: R) es _ O (by omega) hf
       clear O; rintro e w69 ⟨rfl, O⟩
       refine ⟨_, rfl, ?_⟩
       intro a68 hE e56 kp; apply Z03 57 hE k rfl rfl rfl rfl; case h =>
        simp [go_sem, ↓IntWalk.iteOmega, ev e56]
        with_reducible rfl
       intro a70 hE e57 kp; replace e56 := kt kp e56; apply Z03 58 hE k rfl rfl rfl rfl; case h =>
        simp [go_sem, ↓IntWalk.iteOmega, ev e56]
        with_reducible rfl
       intro a71 hE e58 kp; replace e57 := kt kp e57; refine sd 8 hE k (Z01 rfl e57) ?_; intro a72 hE e8 kp; replace e58 := kt kp e58; refine sd 9 hE k (Z01 rfl e58) ?_; intro a73 hE e9 kp; replace e8 := kt kp e8; refine wpList_nil ?_; replace k := k.env hE; clear hE e0 e11 e12 e47; refine Z00 ?_; refine wp_ret ?_
       refine Z1p rfl k e8 e9 ?_
       exact ⟨N1, 0, 6, B1, cap1, vs1, rfl, OwnT.pickR (L := [_, _, _, _, _]) (R := R) O [0, 1, 2] (by decide), ⟨⟨M1, hM1, by omega⟩, .inl ⟨rfl, rfl, fun h => hf (by omega)⟩⟩⟩
theorem tPut {H : Nat} {A0 : World} {R : List Thing} {sb cap : Nat} {room : Int} {B : Option Addr} {vs : List Value} {N : List Nd} {root ky vl m : Nat} {L : List (List Pr)} {g : List Nat} (w : World) (O : OwnT H A0 (shT sb room B cap vs N R) w) (hRT : RT m N root L g) (h6 : m ≤ 6) (hN : N.length ≤ 511) (hk : ky < 18446744073709551616) (hv : vl < 18446744073709551616) : Calls Try.prog 60 #[.iface 47 (.pointer (some ⟨sb, 0, none⟩)), .int .i64 root, .int .u64 ky, .int .u64 vl] w fun e w' => ∃ N' root' er B' cap' vs', e = .returned (.tuple #[.int .i64 root', .int .i64 er]) ∧ OwnT H A0 (shT sb room B' cap' vs' N' R) w' ∧ PutT m N N' room root ky vl L g root' er := by
 by_cases hr : root = 0
 · exact tPut_zero w O hRT h6 hN hk hv hr
 · exact tPut_some w O hRT h6 hN hk hv hr
end Go.Proofs.Ytbfgacmfjfbooaa

/- Trees of laws: a tree of few pairs; Put. -/
namespace Go.Proofs.Ytbfgacmfjfbooaa
set_option linter.unusedVariables false
set_option linter.unusedSimpArgs false
open Go.RowKit Go.Maps

/-- A tree of the pairs P, of at most one level above its leaves; c: how great it may be. -/
def Tre (N : List Nd) (root c : Nat) (P : List Pr) : Prop := ∃ m L g, RT m N root L g ∧ m ≤ 1 ∧ L.flatten = P ∧ phi L ≤ c
theorem phi_ge (L : List (List Pr)) : 8 * L.length ≤ phi L := by unfold phi; omega
theorem Z7r : ∀ (L : List (List Pr)), L.flatten.length ≤ phi L
  | [] => by simp [phi]
  | c :: L => by
    have := Z7r L
    rw [Z5a, List.flatten_cons, List.length_append]
    omega
section
variable {N : List Nd} {root c : Nat} {P : List Pr}
theorem Tre.zero (N : List Nd) : Tre N 0 0 [] := ⟨0, [], [], rt_zero 0 N, by omega, rfl, by simp [phi]⟩
theorem Tre.mono (h : Tre N root c P) (M : List Nd) : Tre (N ++ M) root c P := by
  obtain ⟨m, L, g, h1, h2, h3, h4⟩ := h
  exact ⟨m, L, g, h1.mono M, h2, h3, h4⟩
theorem Tre.up (h : Tre N root c P) : Up P := by obtain ⟨m, L, g, h1, h2, rfl, h4⟩ := h; exact h1.up
theorem Tre.wf (h : Tre N root c P) : ∀ y ∈ P, y.1 < 18446744073709551616 ∧ y.2 < 18446744073709551616 := by obtain ⟨m, L, g, h1, h2, rfl, h4⟩ := h; exact h1.wf
theorem Tre.len (h : Tre N root c P) : P.length ≤ c := by obtain ⟨m, L, g, h1, h2, rfl, h4⟩ := h; have := Z7r L; omega
theorem Tre.le (h : Tre N root c P) {d : Nat} (hd : c ≤ d) : Tre N root d P := by obtain ⟨m, L, g, h1, h2, h3, h4⟩ := h; exact ⟨m, L, g, h1, h2, h3, by omega⟩
theorem Tre.root_le (h : Tre N root c P) : root ≤ N.length := by
  obtain ⟨m, L, g, h1, h2, h3, h4⟩ := h
  rcases h1.rt with ⟨rfl, _⟩ | ⟨l, _, hT, _⟩
  · exact Nat.zero_le _
  · obtain ⟨r, e⟩ := Tr.one hT
    exact (Tr.pages hT root (by rw [e]; simp)).2
theorem Tre.root0 (h : Tre N 0 c P) : P = [] := by
  obtain ⟨m, L, g, h1, h2, rfl, h4⟩ := h
  rcases h1.rt with ⟨_, rfl, _⟩ | ⟨l, _, hT, _⟩
  · rfl
  · obtain ⟨r, e⟩ := Tr.one hT
    have := (Tr.pages hT 0 (by rw [e]; simp)).1
    omega
theorem Tre.root1 (h : Tre N root c P) (hr : root ≠ 0) : P ≠ [] := by
  obtain ⟨m, L, g, h1, h2, rfl, h4⟩ := h
  rcases h1.rt with ⟨e, _⟩ | ⟨l, _, hT, _⟩
  · exact absurd e hr
  · exact Tr.ne hT
end
/-- What a put brings. -/
def PutL (N N' : List Nd) (room : Int) (root k v c : Nat) (P : List Pr) (root' er : Int) : Prop :=
  (∃ M, N' = N ++ M ∧ M.length ≤ 5) ∧ ((er = 6 ∧ root' = 0 ∧ ¬ (N.length + 5 ≤ 511 ∧ ((N.length + 5 : Nat) : Int) ≤ room)) ∨ (er = 0 ∧ ∃ r : Nat, root' = r ∧ 1 ≤ r ∧ r ≤ N'.length ∧ Tre N' r (c + if root = 0 then 8 else 1) (insP (k, v) P)))
section
variable {H : Nat} {A0 : World} {R : List Thing} {sb cap : Nat} {room : Int} {B : Option Addr} {vs : List Value} {N : List Nd} {root ky vl c : Nat} {P : List Pr}
theorem lPut (w : World) (O : OwnT H A0 (shT sb room B cap vs N R) w) (hT : Tre N root c P) (hc : c ≤ 119) (hN : N.length ≤ 511) (hk : ky < 18446744073709551616) (hv : vl < 18446744073709551616) :
    Calls Try.prog 60 #[.iface 47 (.pointer (some ⟨sb, 0, none⟩)), .int .i64 root, .int .u64 ky, .int .u64 vl] w fun e w' => ∃ N' root' er B' cap' vs', e = .returned (.tuple #[.int .i64 root', .int .i64 er]) ∧ OwnT H A0 (shT sb room B' cap' vs' N' R) w' ∧ PutL N N' room root ky vl c P root' er := by
  obtain ⟨m, L, g, h1, h2, rfl, h4⟩ := hT
  refine (tPut w O h1 (by omega) hN hk hv).mono ?_
  rintro e w' ⟨N', root', er, B', cap', vs', rfl, O', ⟨M, hM1, hM2⟩, hP⟩
  refine ⟨N', root', er, B', cap', vs', rfl, O', ⟨M, hM1, by omega⟩, ?_⟩
  rcases hP with ⟨e1, e2, e3⟩ | ⟨e1, r, L', g', m', e2, e3, e4, e5, e6, e7', e8, e9, _, _⟩
  · exact .inl ⟨e1, e2, fun h => e3 (by omega)⟩
  · have e7 := e7'.phi
    refine .inr ⟨e1, r, e2, e3, e4, m', L', g', e5, ?_, e6, by omega⟩
    have := phi_ge L'
    have h8 : (if root = 0 then 8 else 1) ≤ 8 := by split <;> omega
    omega
end
/-- The pair at a place of a row, in memory. -/
theorem ps_cells {w : World} {B : Option Addr} {n c : Nat} {ps : List Pr} (h : (tPs (.slice B n c) ps).holds w) {i : Nat} {x : Pr} (hi : ps[i]? = some x) : n = ps.length ∧ ∃ g, B = some ⟨g, 0, none⟩ ∧ w.cell? ⟨g, i * 2, none⟩ = some (.int .u64 (x.1 : Nat)) ∧ w.cell? ⟨g, i * 2 + 1, none⟩ = some (.int .u64 (x.2 : Nat)) := by
  have hl := (List.getElem?_eq_some_iff.1 hi).1
  obtain ⟨g, cap', cur, e, -⟩ := Z18 h (by omega)
  injection e with e1 e2 e3
  subst e1 e2 e3
  obtain ⟨B2, c2, e, _, _, hr, _⟩ := Z0x h
  injection e with e1 _ e3
  subst e1 e3
  obtain ⟨b, o, e, _, hc⟩ := hr i x hi
  injection e with e
  injection e with e e'
  subst e e'
  refine ⟨rfl, g, rfl, ?_, ?_⟩
  · have := hc 0 _ rfl; simpa using this
  · have := hc 1 _ rfl; simpa using this
end Go.Proofs.Ytbfgacmfjfbooaa

/- reach: node, root (printed by XRcB.gen.py). -/
namespace Go.Proofs.Ytbfgacmfjfbooaa
attribute [local simp] BigFrame.eval_const BigFrame.eval_global BigFrame.eval_func
set_option linter.unusedVariables false
set_option linter.unusedSimpArgs false
open Go.RowKit Go.Maps


theorem Z35 (w : World) : (zeroValue 3).run Try.prog w = .ok (.int .i64 0) w := by kernel_rfl
theorem Z6k (w : World) : (zeroValue 4).run Try.prog w = .ok (.bool false) w := by kernel_rfl
theorem OwnT.mapSet {H : Nat} {A w w' : World} {L : List Thing} {b k n : Nat} {m m' : Int → Option Value} (O : OwnT H A (tMap b k m :: L) w) (hv : VM w' b n m') (hC : Chg [b] w w') : OwnT H A (tMap b n m' :: L) w' :=
 O.call hC (fun i hi => by simpa [tMap] using hi) (tMap b n m') hv (fun i hi => .inl hi)
theorem Z6l {w w' : World} {o : Oper} {ρ : Operand → Value} {t : TypeId} {mo x v : Operand} {b : Nat} {c : Int} {u : Value} (ho : o.op = .mapUpdate t mo x v) (hm : ρ mo = .map (some b)) (hx : ρ x = .int .i64 c) (hv : ρ v = u) (h : (Instr.mapUpdate t (.map (some b)) (.int .i64 c) u).run Try.prog w = .ok () w') : (execOp ρ o).run Try.prog w = .ok .skip w' := by
 simp [execOp, ho, hm, hx, hv, h]
theorem Z66 {w : World} {B : Option Addr} {n c z : Nat} {ns : List Nat} {v : Nat} (h : (tNs (.slice B n c) ns).holds w) (hz : ns[z]? = some v) : ∃ g, B = some ⟨g, 0, none⟩ ∧ w.cell? ⟨g, z, none⟩ = some (.int .i64 (v : Nat)) := by
 have hl := (List.getElem?_eq_some_iff.1 hz).1
 obtain ⟨g, cap', cur, e, -⟩ := Z18 h (by omega)
 injection e with e1
 subst e1
 obtain ⟨B2, c2, e, _, _, _, hr⟩ := Z23 (enc := encN) (X := ns) (fun _ => rfl) Nat.one_pos h
 injection e with e1
 subst e1
 obtain ⟨b, o, e, _, hc⟩ := hr z v hz
 injection e with e
 injection e with e e'
 subst e e'
 refine ⟨g, rfl, ?_⟩
 have := hc 0 _ rfl
 simpa using this

set_option maxRecDepth 100000 in
set_option maxHeartbeats 4000000 in
theorem rcNode {H : Nat} {A0 : World} {R : List Thing} {sb cap : Nat} {room : Int} {B : Option Addr} {vs : List Value} {N : List Nd} {cb lb sm nl ns p l : Nat} {rs : List Nat} {sn : Nat → Bool} {xs : List Pr} (w : World) (O : OwnT H A0 (shT sb room B cap vs N (tBlk cb 90 #[.map (some lb), .map (some sm)] :: tMap lb nl (mapL (ldF N rs sn)) :: tMap sm ns (mapS sn) :: R)) w) (hN : N.length ≤ 1000) (hp : ndAt N p = some (l, xs)) (hp1 : 1 ≤ p) (hp2 : p ≤ 1000) (hx : xs.length ≤ 15) (hxs : l ≠ 0 → ∀ x ∈ xs, 1 ≤ x.2 ∧ x.2 ≤ 1000) (hnl : nl ≤ 1000000) (hns : ns ≤ 1000000) (hsk : SnOk N sn) (hrl : rs.length ≤ 1000) : Calls Try.prog 62 #[.pointer (some ⟨cb, 0, none⟩), .iface 47 (.pointer (some ⟨sb, 0, none⟩)), .int .i64 (p : Nat)] w fun e w' => e = .returned (.int .i64 0) ∧ ∃ nl' ns', nl' ≤ nl + 15 ∧ ns' ≤ ns + 1 ∧ OwnT H A0 (shT sb room B cap vs N (tBlk cb 90 #[.map (some lb), .map (some sm)] :: tMap lb nl' (mapL (ldF N rs (insB p sn))) :: tMap sm ns' (mapS (insB p sn)) :: R)) w' := by
 refine Z0a Try.func62 rfl 53 rfl (by rfl) ?_
 intro a1 k hargs; have e0 : a1.eval (.tmp 0) = .pointer (some ⟨cb, 0, none⟩) := hargs 0 _ rfl
 have e1 : a1.eval (.tmp 1) = .iface 47 (.pointer (some ⟨sb, 0, none⟩)) := hargs 1 _ rfl
 have e2 : a1.eval (.tmp 2) = .int .i64 ↑p := hargs 2 _ rfl
 clear hargs; have hpw : wfV (p : Int) := Z2s (by omega) (by omega)
 have hbig : ∀ q, ldF N rs sn q ≤ 1000000 := fun q => Nat.le_trans (ldF_le hsk q) (by omega)
 cases hsn : sn p with
 | true =>
  refine wp_seq ?_; refine wp_region_lit ?_
  have hE := Env.refl a1 [6]; refine sd 6 hE k (Z01 rfl rfl) ?_; intro a2 hE e6 kp; refine wpList_nil ?_; replace e0 := hE.g e0; replace e1 := hE.g e1; replace e2 := hE.g e2; replace k := k.env hE; clear hE e6; refine Z00 (wp_seq ?_); refine wp_seq ?_; refine wp_region_lit ?_
  have hE := Env.refl a2 [11, 12, 13, 14, 15, 16]; refine zm 11 hE k e0 ?_; intro a3 hE e11 kp; refine sd 12 hE k (Z17 rfl e11) ?_; intro a4 hE e12 kp; apply Z03 13 hE k rfl rfl rfl rfl; case h =>
   simp [go_sem, ↓IntWalk.iteOmega, ev e12]
   with_reducible rfl
  intro a5 hE e13 kp; refine sd 14 hE k (Z08 O 3 rfl rfl e13 rfl Try.underlying88 rfl) ?_; intro a6 hE e14 kp; refine zm 15 hE k e2 ?_; intro a7 hE e15 kp; replace e14 := kt kp e14; refine sd 16 hE k (Z1c (v := .bool true) (Z5r (OwnT.get O 5 rfl) rfl Try.underlying88 (Z6k _) e14 e15 hpw) ((Z42 sn hp1).trans (by rw [hsn]))) ?_
  intro a8 hE e16 kp; refine wpList_nil ?_; replace e0 := hE.g e0; replace e1 := hE.g e1; replace e2 := hE.g e2; replace k := k.env hE; clear hE; refine Z00 ?_; refine Z0h e16 rfl ?_
  refine wp_seq ?_; refine wp_region_lit ?_
  have hE := Env.refl a8 [6]; refine sd 6 hE k (Z01 rfl rfl) ?_; intro a9 hE e6 kp; refine wpList_nil ?_; replace k := k.env hE; clear hE e0 e1 e2 e16; refine Z00 ?_; refine wp_ret ?_
  refine Z0o ?_
  refine Z0v rfl k e6 ?_
  exact ⟨rfl, nl, ns, by omega, by omega, by rw [insB_seen hsn]; exact O⟩
 | false =>
  refine wp_seq ?_; refine wp_region_lit ?_
  have hE := Env.refl a1 [6]; refine sd 6 hE k (Z01 rfl rfl) ?_; intro a10 hE e6 kp; refine wpList_nil ?_; replace e0 := hE.g e0; replace e1 := hE.g e1; replace e2 := hE.g e2; replace k := k.env hE; clear hE e6; refine Z00 (wp_seq ?_); refine wp_seq ?_; refine wp_region_lit ?_
  have hE := Env.refl a10 [11, 12, 13, 14, 15, 16]; refine zm 11 hE k e0 ?_; intro a11 hE e11 kp; refine sd 12 hE k (Z17 rfl e11) ?_; intro a12 hE e12 kp; apply Z03 13 hE k rfl rfl rfl rfl; case h =>
   simp [go_sem, ↓IntWalk.iteOmega, ev e12]
   with_reducible rfl
  intro a13 hE e13 kp; refine sd 14 hE k (Z08 O 3 rfl rfl e13 rfl Try.underlying88 rfl) ?_; intro a14 hE e14 kp; refine zm 15 hE k e2 ?_; intro a15 hE e15 kp; replace e14 := kt kp e14; refine sd 16 hE k (Z1c (v := .bool false) (Z5r (OwnT.get O 5 rfl) rfl Try.underlying88 (Z6k _) e14 e15 hpw) ((Z42 sn hp1).trans (by rw [hsn]))) ?_
  intro a16 hE e16 kp; refine wpList_nil ?_; replace e0 := hE.g e0; replace e1 := hE.g e1; replace e2 := hE.g e2; replace k := k.env hE; clear hE; refine Z00 ?_; refine Z06 e16 rfl ?_
  refine wp_skip ?_; refine Z00 ?_; obtain ⟨w8, hcl, hV, hC⟩ := VM.store (OwnT.get O 5 rfl) Try.underlying88 (by unfold maxLen; omega) hpw (.bool true)
  refine wp_seq ?_; refine wp_region_lit ?_
  have hE := Env.refl a16 [17, 18, 19, 20, 21]; refine zm 17 hE k e0 ?_; intro a17 hE e17 kp; refine sd 18 hE k (Z17 rfl e17) ?_; intro a18 hE e18 kp; apply Z03 19 hE k rfl rfl rfl rfl; case h =>
   simp [go_sem, ↓IntWalk.iteOmega, ev e18]
   with_reducible rfl
  intro a19 hE e19 kp; refine sd 20 hE k (Z08 O 3 rfl rfl e19 rfl Try.underlying88 rfl) ?_; intro a20 hE e20 kp; refine zm 21 hE k e2 ?_; intro a21 hE e21 kp; replace e20 := kt kp e20; refine Z51 (w' := w8) hE rfl rfl ?_ ?_
  · exact Z6l rfl e20 e21 rfl hcl
  replace O := OwnT.push (L := _ :: _ :: _ :: _ :: _ :: _ :: R) 5 rfl (OwnT.mapSet (OwnT.pull O 5 rfl) hV hC)
  clear hV hC hcl; rw [Z7u sn hp1] at O
  refine wpList_nil ?_; replace e0 := hE.g e0; replace e1 := hE.g e1; replace e2 := hE.g e2; replace k := k.env hE; clear hE e16 e20 e21; refine Z00 (wp_seq ?_); refine wp_region_lit ?_
  have hE := Env.refl a21 [23, 24, 25, 22, 26, 27, 7, 8]; refine zm 23 hE k e1 ?_; intro a22 hE e23 kp; refine zm 24 hE k e2 ?_; intro a23 hE e24 kp; replace e23 := kt kp e23; apply Z09 25 hE k rfl (by rfl) (by rfl) rfl
  case h =>
   exact Z3s rfl e23 e24 (Z2h _ _ _)
  case hc => exact Z4z p l xs _ O (by omega) hp (by omega)
  clear O; rintro e w25 ⟨v, rfl, O, -⟩
  obtain ⟨Bx, cx, rfl, -, -, -, -⟩ := Z0x (OwnT.get O 0 rfl : (tPs v xs).holds _)
  refine ⟨_, rfl, ?_⟩
  intro a24 hE e25 kp; refine sd 22 hE k (Z02 rfl e25) ?_; intro a26 hE e22 kp; apply Z03 26 hE k rfl rfl rfl rfl; case h =>
   simp [go_sem, ↓IntWalk.iteOmega, ev e22]
   with_reducible rfl
  intro a27 hE e26 kp; replace e22 := kt kp e22; apply Z03 27 hE k rfl rfl rfl rfl; case h =>
   simp [go_sem, ↓IntWalk.iteOmega, ev e22]
   with_reducible rfl
  intro a28 hE e27 kp; replace e26 := kt kp e26; refine Z0k O (cs := #[.int .i64 0, .slice none 0 0]) (t := 46) 7 hE k rfl (by rfl) (by rfl) rfl (by simp [go_sem, ↓IntWalk.iteOmega]) ?_
  clear O; intro xb a29 w30 O hE e7 kp; replace e26 := kt kp e26; replace e27 := kt kp e27; refine Z1f O 0 0 hE e7 e26 ?_
  clear O; intro w31 O; replace O : OwnT _ _ ((tBlk xb 46 #[.int .i64 ↑l, .slice Bx xs.length cx]) :: _) w31 := O
  refine sd 8 hE k (Z01 rfl e27) ?_; intro a32 hE e8 kp; replace e7 := kt kp e7; refine wpList_nil ?_; replace e0 := hE.g e0; replace k := k.env hE; clear hE e1 e2; refine Z00 ?_; replace O : OwnT _ _ ((tBlk sb 49 #[.slice B N.length cap, .int .i64 room]) :: (tRow 46 2 (.slice B N.length cap) N.length (leafV vs N)) :: (tPool vs N) :: (tBlk cb 90 #[.map (some lb), .map (some sm)]) :: (tMap lb nl (mapL (ldF N rs sn))) :: (tMap sm ((ns + 1)) (mapS (insB p sn))) :: (tBlk xb 46 #[.int .i64 ↑l, .slice Bx xs.length cx]) :: (tPs (.slice Bx xs.length cx) xs) :: R) w31 := OwnT.pickR (L := [_, _, _, _, _, _, _, _]) (R := R) O [2, 3, 4, 5, 6, 7, 0, 1] (by decide)
  by_cases hl : l = 0
  · subst hl
    replace O : OwnT _ _ ((tBlk sb 49 #[.slice B N.length cap, .int .i64 room]) :: (tRow 46 2 (.slice B N.length cap) N.length (leafV vs N)) :: (tPool vs N) :: (tBlk cb 90 #[.map (some lb), .map (some sm)]) :: (tMap lb nl (mapL (ldF N rs sn))) :: (tMap sm ((ns + 1)) (mapS (insB p sn))) :: (tBlk xb 46 #[.int .i64 0, .slice Bx xs.length cx]) :: (tPs (.slice Bx xs.length cx) xs) :: R) w31 := O
    refine wp_seq ?_; refine wp_seq ?_; refine wp_region_lit ?_
    have hE := Env.refl a32 [28, 29, 30, 31, 32, 33, 34]; refine zm 28 hE k e8 ?_; intro a33 hE e28 kp; refine sd 29 hE k (Z05 (Z0q rfl e28 rfl) (decide_eq_false (by omega))) ?_
    intro a34 hE e29 kp; refine sd 30 hE k (Z02 rfl e29) ?_; intro a35 hE e30 kp; apply Z04 31 hE k rfl rfl rfl rfl rfl e30
    case h =>
     simp [go_sem, ↓IntWalk.iteOmega, ev (hE.g e7)]
     with_reducible rfl
    intro a36 hE e31 kp; replace e30 := kt kp e30; apply Z04 32 hE k rfl rfl rfl rfl rfl e30
    case h =>
     exact Z08 O 6 rfl rfl e31 rfl Try.underlying3 rfl
    intro a37 hE e32 kp; replace e30 := kt kp e30; apply Z04 33 hE k rfl rfl rfl rfl rfl e30
    case h =>
     exact Z05 (Z12 rfl e32 rfl) (decide_eq_true rfl)
    intro a38 hE e33 kp; replace e30 := kt kp e30; refine sd 34 hE k (Z07 rfl e30 e33) ?_; intro a39 hE e34 kp; refine wpList_nil ?_; replace e0 := hE.g e0; replace e7 := hE.g e7; replace e8 := hE.g e8; replace k := k.env hE; clear hE; refine Z00 ?_; refine Z0h e34 rfl ?_
    refine wp_seq ?_; refine wp_region_lit ?_
    have hE := Env.refl a39 [35, 6]; refine zm 35 hE k e8 ?_; intro a40 hE e35 kp; refine sd 6 hE k (Z01 rfl e35) ?_; intro a41 hE e6 kp; refine wpList_nil ?_; replace k := k.env hE; clear hE e0 e7 e8 e34; refine Z00 ?_; refine wp_ret ?_
    refine Z0o ?_
    refine Z0v rfl k e6 ?_
    exact ⟨rfl, nl, ns + 1, by omega, Nat.le_refl _, by rw [ldF_leaf hsn hp1 (by omega) hp]; exact OwnT.pickR (L := [_, _, _, _, _, _, _, _]) (R := R) O [0, 1, 2, 3, 4, 5] (by decide)⟩
  · have hxr := hxs hl
    refine wp_seq ?_; refine wp_seq ?_; refine wp_region_lit ?_
    have hE := Env.refl a32 [28, 29, 30, 31, 32, 33, 34]; refine zm 28 hE k e8 ?_; intro a42 hE e28 kp; refine sd 29 hE k (Z05 (Z0q rfl e28 rfl) (decide_eq_false (by omega))) ?_
    intro a43 hE e29 kp; refine sd 30 hE k (Z02 rfl e29) ?_; intro a44 hE e30 kp; apply Z04 31 hE k rfl rfl rfl rfl rfl e30
    case h =>
     simp [go_sem, ↓IntWalk.iteOmega, ev (hE.g e7)]
     with_reducible rfl
    intro a45 hE e31 kp; replace e30 := kt kp e30; apply Z04 32 hE k rfl rfl rfl rfl rfl e30
    case h =>
     exact Z08 O 6 rfl rfl e31 rfl Try.underlying3 rfl
    intro a46 hE e32 kp; replace e30 := kt kp e30; apply Z04 33 hE k rfl rfl rfl rfl rfl e30
    case h =>
     exact Z05 (Z12 rfl e32 rfl) (decide_eq_false (by omega))
    intro a47 hE e33 kp; replace e30 := kt kp e30; refine sd 34 hE k (Z07 rfl e30 e33) ?_; intro a48 hE e34 kp; refine wpList_nil ?_; replace e0 := hE.g e0; replace e7 := hE.g e7; replace e8 := hE.g e8; replace k := k.env hE; clear hE; refine Z00 ?_; refine Z06 e34 rfl ?_
    refine wp_skip ?_; refine Z00 (wp_seq ?_); refine wp_seq ?_; refine wp_region_lit ?_
    have hE := Env.refl a48 [36, 37, 38, 39]; apply Z03 36 hE k rfl rfl rfl rfl; case h =>
     simp [go_sem, ↓IntWalk.iteOmega, ev (hE.g e7)]
     with_reducible rfl
    intro a49 hE e36 kp; refine sd 37 hE k (Z08 O 6 rfl rfl e36 rfl Try.underlying44 rfl) ?_; intro a50 hE e37 kp; refine sd 38 hE k (Z0j Try.underlying44 rfl e37) ?_; intro a51 hE e38 kp; replace e37 := kt kp e37; refine sd 39 hE k (Z02 rfl rfl) ?_; intro a52 hE e39 kp; replace e37 := kt kp e37; replace e38 := kt kp e38; refine wpList_nil ?_; replace e0 := hE.g e0; replace k := k.env hE; clear hE e7 e8 e34; refine Z00 ?_; refine wp_block ?_; rw [← addX_zero (ldF N rs sn) xs] at O
    refine wp_loop (fun a w => Fr 53 a ∧ a.eval (.tmp 0) = .pointer (some ⟨cb, 0, none⟩) ∧ a.eval (.tmp 37) = .slice Bx xs.length cx ∧ a.eval (.tmp 38) = .int .i64 ↑xs.length ∧ ∃ (j nj : Nat), a.eval (.tmp 39) = .int .i64 ↑j ∧ j ≤ xs.length ∧ nj ≤ nl + j ∧ OwnT H A0 ((tBlk sb 49 #[.slice B N.length cap, .int .i64 room]) :: (tRow 46 2 (.slice B N.length cap) N.length (leafV vs N)) :: (tPool vs N) :: (tBlk cb 90 #[.map (some lb), .map (some sm)]) :: (tMap lb nj (mapL (addX (ldF N rs sn) xs j))) :: (tMap sm ((ns + 1)) (mapS (insB p sn))) :: (tBlk xb 46 #[.int .i64 ↑l, .slice Bx xs.length cx]) :: (tPs (.slice Bx xs.length cx) xs) :: R) w) (fun a w => xs.length - (intOf (a.eval (.tmp 39))).toNat) ?_ ?_
    · exact ⟨k, e0, e37, e38, 0, nl, e39, Nat.zero_le _, Nat.le_refl _, O⟩
    intro a53 w54 hI; clear k e0 e37 e38; obtain ⟨k, e0, e37, e38, h_⟩ := hI
    clear O e39; obtain ⟨j, nj, e39, hj, hnj, O⟩ := h_
    have mj := e39
    by_cases hlt : j < xs.length
    · have hltI : (j : Int) < (xs.length : Int) := by omega
      obtain ⟨y, hy⟩ : ∃ y, xs[j]? = some y := ⟨_, List.getElem?_eq_getElem hlt⟩
      obtain ⟨hy1, hy2⟩ := hxr y (List.mem_of_getElem? hy)
      have hyw : wfV (y.2 : Int) := Z2s (by omega) (by omega)
      obtain ⟨-, gp, rfl, d0, d1⟩ := ps_cells (OwnT.get O 7 rfl) hy
      obtain ⟨z, hz⟩ : ∃ z, addX (ldF N rs sn) xs j y.2 = z := ⟨_, rfl⟩
      have hzb : z ≤ 1000015 := by
       rw [← hz]
       unfold addX cntX
       have h1 := hbig y.2
       have h2 := List.countP_le_length (p := fun x : Pr => decide (x.2 = y.2)) (l := xs.take j)
       have h3 : (xs.take j).length ≤ 15 := by rw [List.length_take]; omega
       omega

      replace O : OwnT _ _ ((tBlk sb 49 #[.slice B N.length cap, .int .i64 room]) :: (tRow 46 2 (.slice B N.length cap) N.length (leafV vs N)) :: (tPool vs N) :: (tBlk cb 90 #[.map (some lb), .map (some sm)]) :: (tMap lb nj (mapL (addX (ldF N rs sn) xs j))) :: (tMap sm ((ns + 1)) (mapS (insB p sn))) :: (tBlk xb 46 #[.int .i64 ↑l, .slice (some ⟨gp, 0, none⟩) xs.length cx]) :: (tPs (.slice (some ⟨gp, 0, none⟩) xs.length cx) xs) :: R) w54 := O
      refine wp_seq ?_; refine wp_region_lit ?_
      have hE := Env.refl a53 [40]; refine sd 40 hE k (Z05 (Z1d rfl (hE.g e39) (hE.g e38)) (decide_eq_true (by omega))) ?_
      intro a55 hE e40 kp; refine wpList_nil ?_; replace e0 := hE.g e0; replace e37 := hE.g e37; replace e38 := hE.g e38; replace e39 := hE.g e39; replace k := k.env hE; clear hE; refine Z00 (wp_seq ?_); refine Z0h e40 rfl ?_
      refine wp_skip ?_; refine Z00 (wp_seq ?_); refine wp_block ?_; refine wp_seq ?_; refine wp_region_lit ?_
      have hE := Env.refl a55 [41, 42, 10]; apply Z03 41 hE k rfl rfl rfl rfl; case h =>
       simp [go_sem, ↓IntWalk.iteOmega, ev (hE.g e37), ev (hE.g e39)]
       with_reducible rfl
      intro a56 hE e41 kp; apply Z03 42 hE k rfl rfl rfl rfl; case h =>
       simp [go_sem, ↓IntWalk.iteOmega, ev e41, d0, d1]
       with_reducible rfl
      intro a57 hE e42 kp; refine Z0k O (cs := #[.int .u64 0, .int .u64 0]) (t := 103) 10 hE k rfl (by rfl) (by rfl) rfl (by simp [go_sem, ↓IntWalk.iteOmega]) ?_
      clear O; intro yb a58 w59 O hE e10 kp; replace e42 := kt kp e42; refine Z1f O 0 0 hE e10 e42 ?_
      clear O; intro w60 O; replace O : OwnT _ _ ((tBlk yb 103 #[.int .u64 ↑y.1, .int .u64 ↑y.2]) :: _) w60 := O
      refine wpList_nil ?_; replace e0 := hE.g e0; replace e37 := hE.g e37; replace e38 := hE.g e38; replace e39 := hE.g e39; replace k := k.env hE; clear hE e40 e42; refine Z00 ?_; clear d0 d1; replace O : OwnT _ _ ((tBlk sb 49 #[.slice B N.length cap, .int .i64 room]) :: (tRow 46 2 (.slice B N.length cap) N.length (leafV vs N)) :: (tPool vs N) :: (tBlk cb 90 #[.map (some lb), .map (some sm)]) :: (tMap lb nj (mapL (addX (ldF N rs sn) xs j))) :: (tMap sm ((ns + 1)) (mapS (insB p sn))) :: (tBlk xb 46 #[.int .i64 ↑l, .slice (some ⟨gp, 0, none⟩) xs.length cx]) :: (tPs (.slice (some ⟨gp, 0, none⟩) xs.length cx) xs) :: (tBlk yb 103 #[.int .u64 ↑y.1, .int .u64 ↑y.2]) :: R) w60 := OwnT.pickR (L := [_, _, _, _, _, _, _, _, _]) (R := R) O [1, 2, 3, 4, 5, 6, 7, 8, 0] (by decide)
      refine Z0b (R := Ext) (w0 := w60) [[], [0], [0, 1], [0, 1, 2], [], [4], [4, 5], rg 7, rg 8, rg 9] [43, 44, 45, 46, 47, 48, 49, 50, 51] Ext.refl (fun _ _ _ => Ext.trans) (Ext.drew _) (by kernel_rfl) ?_
      refine bd 43 k rfl rfl rfl (fun ax wx hE hR hF => Z02 rfl (hE.g e0)) ?_
      refine bd 44 k rfl rfl rfl (fun ax wx hE hR hF => have e43 := zhF hF 0 43 ml0; Z17 rfl e43) ?_
      apply bd 45 k rfl rfl rfl; case h =>
       intro ax wx hE hR hF; have e44 := zhF hF 1 44 ml0; simp [go_sem, ↓IntWalk.iteOmega, ev e44]
       with_reducible rfl
      refine bd 46 k rfl rfl rfl (fun ax wx hE hR hF => have e45 := zhF hF 2 45 ml0; Z08 (OwnT.ext O hR) 3 rfl rfl e45 rfl Try.underlying87 rfl) ?_
      apply bd 47 k rfl rfl rfl; case h =>
       intro ax wx hE hR hF; simp [go_sem, ↓IntWalk.iteOmega, ev (hE.g e10)]
       with_reducible rfl
      refine bd 48 k rfl rfl rfl (fun ax wx hE hR hF => have e47 := zhF hF 4 47 ml0; Z08 (OwnT.ext O hR) 8 rfl rfl e47 rfl Try.underlying71 rfl) ?_
      refine bd 49 k rfl rfl rfl (fun ax wx hE hR hF => have e48 := zhF hF 5 48 ml0; Z2r rfl e48 (Z2g y.2 _ (by omega))) ?_
      refine bd 50 k rfl rfl rfl (fun ax wx hE hR hF => have e46 := zhF hF 3 46 ml3; have e49 := zhF hF 6 49 ml0; Z1c (v := .int .i64 (z : Nat)) (Z5r (OwnT.get (OwnT.ext O hR) 4 rfl) rfl Try.underlying87 (Z35 _) e46 e49 hyw) ((Z1v _ hy1).trans (by rw [hz]))) ?_
      refine bd 51 k rfl rfl rfl (fun ax wx hE hR hF => have e50 := zhF hF 7 50 ml0; Z11 rfl e50 rfl (by omega)) ?_
      apply Build.stop
      refine ⟨by kernel_rfl, .inr ⟨by kernel_rfl, _, rfl, rfl, ?_⟩⟩
      intro a61 w62 hE R hF; have e46 : a61.eval (.tmp 46) = _ := hF 3 (det 46 _) ml5
      have e49 : a61.eval (.tmp 49) = _ := hF 6 (det 49 _) ml2
      have e51 : a61.eval (.tmp 51) = _ := hF 8 (det 51 _) ml0
      clear hF; replace O := OwnT.ext O R; clear R; obtain ⟨w8, hcl, hV, hC⟩ := VM.store (OwnT.get O 4 rfl) Try.underlying87 (by unfold maxLen; omega) hyw (.int .i64 ((z : Int) + 1))
      refine last_skip (w' := w8) rfl (Z6l rfl e46 e49 e51 hcl) ?_
      replace O := OwnT.push (L := _ :: _ :: _ :: _ :: _ :: _ :: _ :: _ :: _ :: R) 4 rfl (OwnT.mapSet (OwnT.pull O 4 rfl) hV hC)
      clear hV hC hcl; rw [show ((z : Int) + 1) = ((z + 1 : Nat) : Int) from rfl, Z5e _ hy1 (Nat.succ_ne_zero z), ← hz, addX_step _ hy] at O
      replace e0 := hE.g e0; replace e37 := hE.g e37; replace e38 := hE.g e38; replace e39 := hE.g e39; replace k := k.env hE; clear hE e10 e46 e49 e51; refine Z0u ?_; refine Z00 ?_; refine wp_region_lit ?_
      have hE := Env.refl a61 [52, 39]; refine sd 52 hE k (Z11 rfl e39 rfl (by omega)) ?_; intro a63 hE e52 kp; replace e39 := kt kp e39; refine sd 39 hE k (Z02 rfl e52) ?_; intro a64 hE e39 kp; refine wpList_nil ?_; replace e0 := hE.g e0; replace e37 := hE.g e37; replace e38 := hE.g e38; replace k := k.env hE; clear hE; refine Z00 ?_; refine ⟨⟨k, e0, e37, e38, j + 1, nj + 1, e39, by omega, by omega, OwnT.pickR (L := [_, _, _, _, _, _, _, _, _]) (R := R) O [0, 1, 2, 3, 4, 5, 6, 7] (by decide)⟩, ?_⟩
      rw [e39, mj]; simp only [intOf]; omega
    · obtain rfl : j = xs.length := by omega
      clear mj; refine wp_seq ?_; refine wp_region_lit ?_
      have hE := Env.refl a53 [40]; refine sd 40 hE k (Z05 (Z1d rfl (hE.g e39) (hE.g e38)) (decide_eq_false (by omega))) ?_
      intro a65 hE e40 kp; refine wpList_nil ?_; replace e0 := hE.g e0; replace e37 := hE.g e37; replace e38 := hE.g e38; replace e39 := hE.g e39; replace k := k.env hE; clear hE; refine Z00 (wp_seq ?_); refine Z06 e40 rfl ?_
      refine wp_exit ?_
      refine Z1g ?_
      refine Z1g ?_
      refine Z1q ?_
      refine Z00 (wp_seq ?_); refine wp_region_lit ?_
      have hE := Env.refl a65 [6]; refine sd 6 hE k (Z01 rfl rfl) ?_; intro a66 hE e6 kp; refine wpList_nil ?_; replace k := k.env hE; clear hE e0 e37 e38 e39 e40; refine Z00 ?_; refine wp_ret ?_
      refine Z0v rfl k e6 ?_
      exact ⟨rfl, nj, ns + 1, by omega, Nat.le_refl _, by rw [ldF_inner hsn hp1 (by omega) hp hl]; exact OwnT.pickR (L := [_, _, _, _, _, _, _, _]) (R := R) O [0, 1, 2, 3, 4, 5] (by decide)⟩
end Go.Proofs.Ytbfgacmfjfbooaa

/- reach: node, root over any reader of pages (by the machine). -/
namespace Go.Proofs.Ytbfgacmfjfbooaa
set_option linter.unusedVariables false
set_option linter.unusedSimpArgs false
set_option linter.unusedVariables false
set_option linter.unusedSimpArgs false
open Go.RowKit

theorem goodB_pos {l : Int} {ps : List Pr} (h : goodB l ps = true) (h0 : 0 < l) : 0 < ps.length := by
  unfold goodB at h
  simp only [Bool.and_eq_true, decide_eq_true_eq, Bool.or_eq_true, Bool.not_eq_true'] at h
  omega
set_option maxRecDepth 10000 in
theorem cnodeX {A : World} {p : Value} {N : Nfn} {R : List Thing} {cb lb sm : Nat} (hR : Reads A p N) (hpv : ∃ t v, p = .iface t v) (q : Nat) (l : Int) (ps : List Pr) (hN : N q = some (l, ps)) (hg : goodB l ps = true) (E S : List Nat) (w : World) (O : OwnT A.heap.size A (tCs cb lb sm E S ++ R) w) (hEl : E.length ≤ 1000000000) (hSl : S.length ≤ 1000000000) :
    Calls Try.prog 62 #[.pointer (some ⟨cb, 0, none⟩), p, .int .i64 (q : Nat)] w fun e w' => e = .returned (.int .i64 0) ∧ OwnT A.heap.size A (tCs cb lb sm (nodeE N q (E, S)).1 (nodeE N q (E, S)).2 ++ R) w' := by
  obtain ⟨pt, pv, rfl⟩ := hpv
  obtain ⟨hq1, hq2, hl, hx⟩ := hR.bd q l ps hN
  obtain ⟨⟨hl0, hl8, h15⟩, hv512⟩ := Z2m hg
  have hqw : wfV (q : Int) := Z2s (by omega) (by omega)
  unfold nodeE
  rw [hN]
  simp only
  refine fnG O 53 Try.func62 rfl rfl rfl fun a h => ?_
  refine gX h [0] rfl fun a w h => ?_
  refine gL h rfl 2 rfl Try.underlying88 Z6k hqw (Z42 (sen S) (by omega)) fun a h => ?_
  by_cases hs : q ∈ S
  · rw [show sen S q = true by simpa [sen] using hs] at h
    rw [if_pos hs]
    refine gX h [] rfl fun a w h => ?_
    exact gR h rfl ⟨rfl, h.O⟩
  rw [show sen S q = false by simpa [sen] using hs] at h
  rw [if_neg hs]
  refine gX h [0] rfl fun a w h => ?_
  refine gM h rfl 2 rfl rfl Try.underlying88 (by unfold maxLen; omega) hqw (fun _ _ => trivial) fun a w h => ?_
  rw [sen_put S (by omega), show S.length + 1 = (S ++ [q]).length by simp] at h
  refine gX h [] rfl fun a w h => ?_
  obtain ⟨f, us, hm, hc⟩ := hR.run w h.O.below q
  refine gI h rfl (hm w) hc ?_
  intro e w' hP
  rw [hN] at hP
  obtain ⟨v, rfl, O2⟩ := hP
  obtain ⟨B, c, rfl⟩ := Z0c O2.r0
  refine ⟨_, rfl, _, h.O.graft O2, trivial, fun a h => ?_⟩
  refine gX h [] rfl fun a w h => ?_
  refine gW h rfl fun g7 a w Ew h => ?_
  by_cases hz : l = 0
  · rw [if_pos hz]
    refine gX h [0, .f, 0, .t] rfl fun a w h => ?_
    exact gR h rfl ⟨rfl, h.O.sub (.cons _ (.cons _ (List.Sublist.refl _)))⟩
  rw [if_neg hz]
  refine gX h [0, .f, 0, .f, 0] rfl fun a w h => ?_
  have hne : 0 < ps.length := goodB_pos hg (by omega)
  obtain ⟨b, rfl⟩ : ∃ b, B = some ⟨b, 0, none⟩ := by
    rcases (show World.ownsRow _ 0 _ _ _ _ _ from h.O.all.2.1).2 with ⟨-, h0⟩ | ⟨g, cap, cur, hv, -⟩
    · omega
    · injection hv with h1; exact ⟨g, h1⟩
  refine lpG (G := Nat) (fun j => [(0, .pointer (some ⟨cb, 0, none⟩)), (37, .slice (some ⟨b, 0, none⟩) ps.length c), (38, .int .i64 ps.length), (39, .int .i64 j)])
    (fun j => tBlk g7 46 ⟨[.int .i64 l, .slice (some ⟨b, 0, none⟩) ps.length c]⟩ :: tPs (.slice (some ⟨b, 0, none⟩) ps.length c) ps :: (tCs cb lb sm (E ++ (ps.take j).map (·.2)) (S ++ [q]) ++ R)) (fun j => j ≤ ps.length) (fun j => ps.length - j) 0 h ⟨rfl, rfl, rfl, rfl, trivial⟩ (by simpa using h.O) (Nat.zero_le _) fun j hj a w h => ?_
  by_cases h1 : j < ps.length
  · obtain ⟨x, hx0⟩ : ∃ x, ps[j]? = some x := ⟨_, List.getElem?_eq_getElem h1⟩
    have q2 := Z44 hx0
    have hxm := List.mem_of_getElem? hx0
    obtain ⟨hx1, hx2⟩ := hv512 (by omega) x hxm
    have hxw : wfV (x.2 : Int) := Z2s (by omega) (by omega)
    have htk : E ++ (ps.take (j + 1)).map (·.2) = E ++ (ps.take j).map (·.2) ++ [x.2] := by
      rw [List.take_add_one, hx0]
      simp
    have hel : (E ++ (ps.take j).map (·.2)).length ≤ 1000000015 := by simp; omega
    generalize E ++ (ps.take j).map (·.2) = E2 at h htk hel
    have hcn : cn E2 x.2 ≤ 1000000015 := Nat.le_trans List.count_le_length hel
    refine gX h [.t, vj (2 * j), 1, .v (.agg ⟨[.int .u64 (x.1 : Nat), .int .u64 (x.2 : Nat)]⟩)] rfl fun a w h => ?_
    refine gW h rfl fun g10 a w Ew h => ?_
    refine gX h [0, .k [0, 3, 1007], 1, 0] rfl fun a w h => ?_
    refine gL h rfl 4 rfl Try.underlying87 Z35 hxw (Z1v (cn E2) hx1) fun a h => ?_
    refine gX h [] rfl fun a w h => ?_
    refine gM h rfl 4 rfl rfl Try.underlying87 (by unfold maxLen; omega) hxw (fun w' O => ⟨O.all.1, O.all.2.2.2.1, trivial⟩) fun a w h => ?_
    rw [cn_put E2 hx1, show E2.length + 1 = (E2 ++ [x.2]).length by simp, ← htk] at h
    refine gX h [vI (j + 1 : Nat)] rfl fun a w h => ?_
    exact reG (j + 1) h ⟨rfl, rfl, rfl, rfl, trivial⟩ h.O.tail h1 (by omega)
  · obtain rfl : j = ps.length := by omega
    refine gX h [.f] rfl fun a w h => ?_
    rw [List.take_length] at h
    exact gR h rfl ⟨rfl, h.O.sub (.cons _ (.cons _ (List.Sublist.refl _)))⟩
/-- What holds of all pages that a walk meets. -/
theorem Z7y {Z : Nat → Prop} {f : Int → Nat → Bool → Nat → List Nat → Option (List Nat)} (hf : ∀ c f0 hb h0 P P', f c f0 hb h0 P = some P' → (∀ x ∈ P, Z x) → ∀ x ∈ P', Z x) {hb : Bool} {h0 : Nat} : ∀ {ps : List Pr} {P P' : List Nat}, kidsV f hb h0 ps P = some P' → (∀ x ∈ P, Z x) → ∀ x ∈ P', Z x
  | [], P, P', h, hP => by simp only [kidsV] at h; cases h; exact hP
  | x :: r, P, P', h, hP => by
    rw [kidsV] at h
    split at h
    · cases h
    · rename_i P2 h2
      exact Z7y hf h (hf _ _ _ _ _ _ h2 hP)
def PgOk (N : Nfn) (q : Nat) : Prop := ∃ l ps, N (q : Int) = some (l, ps) ∧ goodB l ps = true
theorem Z6o {A : World} {p : Value} {N : Nfn} (hR : Reads A p N) : ∀ (k : Nat) (q lv : Int) (f0 : Nat) (fb : Bool) (h0 : Nat) (hb : Bool) (P P' : List Nat), vis N k q lv f0 fb h0 hb P = some P' → (∀ x ∈ P, PgOk N x) → ∀ x ∈ P', PgOk N x
  | 0, q, lv, f0, fb, h0, hb, P, P', h, _ => by cases h
  | k + 1, q, lv, f0, fb, h0, hb, P, P', h, hP => by
    rw [vis] at h
    split at h
    · cases h
    · rename_i l ps hG
      have h1 : PgOk N q.toNat := by
        unfold nodeG at hG
        split at hG
        · cases hG
        · split at hG
          · rename_i l' ps' hN hc
            cases hG
            have := hR.bd _ _ _ hN
            exact ⟨l, ps, by rw [show ((q.toNat : Nat) : Int) = q by omega]; exact hN, hc.1⟩
          · cases hG
      have h2 : ∀ x ∈ P ++ [q.toNat], PgOk N x := fun x hx => by
        rcases List.mem_append.1 hx with hx | hx
        · exact hP x hx
        · rw [List.mem_singleton.1 hx]; exact h1
      split at h
      · cases h
      · split at h
        · cases h; exact h2
        · exact Z7y (fun c f0 hb h0 P P' h hP => Z6o hR k c (l - 1) f0 true h0 hb P P' h hP) h h2
/-- A tree is gone through. -/
def rootE (N : Nfn) (r : Int) (st : List Nat × List Nat) : Option (List Nat × List Nat) :=
  if r = 0 then some st else (reachV N r).map fun P => P.foldl (fun st q => nodeE N q st) (st.1 ++ [r.toNat], st.2)
theorem Z67 {A : World} {p : Value} {N : Nfn} (hR : Reads A p N) {q : Nat} (h : PgOk N q) (st : List Nat × List Nat) : (nodeE N q st).1.length ≤ st.1.length + 15 ∧ (nodeE N q st).2.length ≤ st.2.length + 1 := by
  obtain ⟨l, ps, hN, hg⟩ := h
  have := (Z2m hg).1
  unfold nodeE
  rw [hN]
  split
  · omega
  · simp only
    split <;> simp <;> omega
set_option maxRecDepth 10000 in
theorem crootX {A : World} {p : Value} {N : Nfn} {R : List Thing} {cb lb sm : Nat} (hR : Reads A p N) (hpv : ∃ t v, p = .iface t v) (r : Int) (E S : List Nat) (w : World) (O : OwnT A.heap.size A (tCs cb lb sm E S ++ R) w) (hEl : E.length ≤ 400000000) (hSl : S.length ≤ 400000000) :
    Calls Try.prog 34 #[.pointer (some ⟨cb, 0, none⟩), p, .int .i64 r] w fun e w' => match rootE N r (E, S) with
      | none => e = .returned (.int .i64 3) ∧ OwnT A.heap.size A (tCs cb lb sm E S ++ R) w'
      | some st => e = .returned (.int .i64 0) ∧ OwnT A.heap.size A (tCs cb lb sm st.1 st.2 ++ R) w' ∧ st.1.length ≤ E.length + 16000 ∧ st.2.length ≤ S.length + 16000 := by
  obtain ⟨pt, pv, rfl⟩ := hpv
  unfold rootE
  refine fnG O 44 Try.func34 rfl rfl rfl fun a h => ?_
  by_cases h0 : r = 0
  · rw [if_pos h0]
    refine gX h [.t] rfl fun a w h => ?_
    exact gR h rfl ⟨rfl, h.O, by simp only; omega, by simp only; omega⟩
  rw [if_neg h0]
  refine gX h [.f] rfl fun a w h => ?_
  refine gC h rfl (treachX hR ⟨pt, pv, rfl⟩ r w h.O.below) ?_
  intro e w' hP
  cases hv : reachV N r with
  | none =>
    rw [hv] at hP
    obtain ⟨rfl, E2⟩ := hP
    refine ⟨_, rfl, _, h.O.ext E2, trivial, fun a h => ?_⟩
    refine gX h [.t] rfl fun a w h => ?_
    exact gR h rfl ⟨rfl, h.O⟩
  | some P =>
  rw [hv] at hP
  obtain ⟨hpl, v, rfl, O2⟩ := hP
  obtain ⟨B, c, rfl⟩ := Z0c O2.r0
  have hpg : ∀ x ∈ P, PgOk N x := by
    unfold reachV at hv
    rw [if_neg h0] at hv
    exact Z6o hR _ _ _ _ _ _ _ _ _ hv (by simp)
  obtain ⟨hr1, hr2⟩ : 1 ≤ r ∧ r ≤ 1023 := by
    unfold reachV at hv
    rw [if_neg h0, vis] at hv
    split at hv
    · cases hv
    · rename_i l ps hG
      unfold nodeG at hG
      split at hG
      · cases hG
      · rename_i l' ps' hN
        have := hR.bd _ _ _ hN
        omega
  obtain ⟨rn, rfl⟩ : ∃ rn : Nat, r = rn := ⟨r.toNat, by omega⟩
  have hrw : wfV (rn : Int) := Z2s (by omega) (by omega)
  obtain ⟨stJ, hst⟩ : ∃ stJ : Nat → List Nat × List Nat, stJ = fun j => (P.take j).foldl (fun st q => nodeE N q st) (E ++ [rn], S) := ⟨_, rfl⟩
  have hst0 : stJ 0 = (E ++ [rn], S) := by rw [hst]; rfl
  have hstS : ∀ j q, P[j]? = some q → stJ (j + 1) = nodeE N q (stJ j) := fun j q h => by rw [hst]; simp only [List.take_add_one, h]; simp
  have hstE : stJ P.length = P.foldl (fun st q => nodeE N q st) (E ++ [rn], S) := by rw [hst]; simp only [List.take_length]
  have hlen : ∀ j, j ≤ P.length → (stJ j).1.length ≤ E.length + 1 + 15 * j ∧ (stJ j).2.length ≤ S.length + j := fun j => by
    induction j with
    | zero => intro _; rw [hst0]; simp
    | succ j ih =>
      intro hj
      obtain ⟨q, hq⟩ : ∃ q, P[j]? = some q := ⟨_, List.getElem?_eq_getElem (by omega)⟩
      have h1 := ih (by omega)
      have h2 := Z67 hR (hpg q (List.mem_of_getElem? hq)) (stJ j)
      rw [hstS j q hq]
      omega
  simp only [Option.map_some, Int.toNat_natCast]
  rw [← hstE]
  clear hst hstE
  refine ⟨_, rfl, _, (h.O.graft O2).pickR (L := [_, _, _, _]) (R := R) [1, 2, 3, 0] (by decide), trivial, fun a h => ?_⟩
  have hcn : cn E rn ≤ 400000000 := Nat.le_trans List.count_le_length hEl
  refine gX h [.f, 0] rfl fun a w h => ?_
  refine gL h rfl 1 rfl Try.underlying87 Z35 hrw (Z1v (cn E) (by omega)) fun a h => ?_
  refine gX h [] rfl fun a w h => ?_
  refine gM h rfl 1 rfl rfl Try.underlying87 (by unfold maxLen; omega) hrw (fun _ _ => trivial) fun a w h => ?_
  rw [cn_put E (by omega), show E.length + 1 = (E ++ [rn]).length by simp] at h
  refine gX h [] rfl fun a w h => ?_
  refine lpG (G := Nat) (fun j => [(0, .pointer (some ⟨cb, 0, none⟩)), (1, .iface pt pv), (30, .slice B P.length c), (31, .int .i64 P.length), (32, .int .i64 j)])
    (fun j => tCs cb lb sm (stJ j).1 (stJ j).2 ++ (tNs (.slice B P.length c) P :: R)) (fun j => j ≤ P.length) (fun j => P.length - j) 0 h ⟨rfl, rfl, rfl, rfl, rfl, trivial⟩ (by rw [hst0]; exact h.O) (Nat.zero_le _) fun j hj a w h => ?_
  by_cases h1 : j < P.length
  · obtain ⟨q, hq⟩ : ∃ q, P[j]? = some q := ⟨_, List.getElem?_eq_getElem h1⟩
    have qq : (P.flatMap encN)[j]? = some (Value.int .i64 (q : Int)) := by rw [Z4k, hq]; rfl
    obtain ⟨l, ps, hN, hg⟩ := hpg q (List.mem_of_getElem? hq)
    have hl1 := hlen j hj
    obtain ⟨b, rfl⟩ : ∃ b, B = some ⟨b, 0, none⟩ := by
      rcases (show World.ownsRow _ 0 _ _ _ _ _ from h.O.all.2.2.2.1).2 with ⟨-, h0⟩ | ⟨g, cap, cur, hv, -⟩
      · omega
      · injection hv with h1; exact ⟨g, h1⟩
    refine gX h [.t, vj j, 3, .v (.int .i64 (q : Nat))] rfl fun a w h => ?_
    refine gC h rfl (cnodeX hR ⟨pt, pv, rfl⟩ q l ps hN hg (stJ j).1 (stJ j).2 w h.O (by omega) (by omega)) ?_
    rintro e w' ⟨rfl, O4⟩
    refine ⟨_, rfl, _, O4, trivial, fun a h => ?_⟩
    refine gX h [.f, vI (j + 1 : Nat)] rfl fun a w h => ?_
    exact reG (j + 1) h ⟨rfl, rfl, rfl, rfl, rfl, trivial⟩ (by rw [hstS j q hq]; exact h.O) h1 (by omega)
  · obtain rfl : j = P.length := by omega
    have hl1 := hlen P.length (Nat.le_refl _)
    refine gX h [.f] rfl fun a w h => ?_
    exact gR h rfl ⟨rfl, OwnT.pickR (L := [_, _, _, _]) (R := R) h.O [0, 1, 2] (by decide), by omega, by omega⟩
end Go.Proofs.Ytbfgacmfjfbooaa

/- The library's contracts that this proof uses, laid by the kit's own tool at this translation (plain words). -/
namespace Go.Proofs
open Go.Shelf
def Try.keysA_ren : Go.Shelf.Ren := ⟨fun | 7 => 36 | 10 => 65 | n => n, fun | 23 => 87 | 26 => 3 | 3 => 3 | 28 => 94 | 0 => 0 | 27 => 93 | 33 => 136 | 4 => 4 | n => n, fun | n => n⟩
theorem Try.keysA : Go.Proofs.SlLaysZI.n7 Try.prog Try.keysA_ren := {
  mixed := by kernel_rfl
  f7 := ⟨Try.f36.name, by decide, Try.func36.trans (congrArg some (by kernel_rfl))⟩
  f10 := ⟨Try.f65.name, by decide, Try.func65.trans (congrArg some (by kernel_rfl))⟩
  t0 := Try.underlying0
  a0 := Try.isAgg0
  z0 := Try.sizeOf0
  v0 := Try.zeroValue0
  t4 := Try.underlying4
  a4 := Try.isAgg4
  z4 := Try.sizeOf4
  v4 := Try.zeroValue4
  t23 := Try.underlying87
  a23 := Try.isAgg87
  z23 := Try.sizeOf87
  v23 := Try.zeroValue87
  t26 := Try.underlying3
  a26 := Try.isAgg3
  z26 := Try.sizeOf3
  v26 := Try.zeroValue3
  t27 := Try.underlying93
  a27 := Try.isAgg93
  z27 := Try.sizeOf93
  v27 := Try.zeroValue93
  t28 := Try.underlying94
  a28 := Try.isAgg94
  z28 := Try.sizeOf94
  v28 := Try.zeroValue94
  t33 := Try.underlying136
  a33 := Try.isAgg136
  z33 := Try.sizeOf136
  v33 := Try.zeroValue136 }
def Try.sortedA_ren : Go.Shelf.Ren := ⟨fun | 6 => 35 | 8 => 63 | 9 => 64 | 11 => 79 | 13 => 81 | 12 => 80 | 23 => 104 | 24 => 105 | 14 => 95 | 15 => 96 | 16 => 97 | 17 => 98 | 18 => 99 | 19 => 100 | 20 => 101 | 21 => 102 | 22 => 103 | 25 => 118 | 26 => 119 | 27 => 120 | 28 => 121 | 29 => 122 | 30 => 123 | 31 => 130 | n => n, fun | 26 => 3 | 28 => 94 | 24 => 43 | 0 => 0 | 3 => 3 | 37 => 119 | 48 => 27 | 50 => 71 | 4 => 4 | 40 => 182 | 39 => 181 | 45 => 170 | 5 => 5 | 9 => 9 | 51 => 201 | 55 => 205 | 57 => 213 | 58 => 214 | 33 => 136 | n => n, fun | n => n⟩
theorem Try.sortedA : Go.Proofs.SlLaysZI.n6 Try.prog Try.sortedA_ren := {
  mixed := by kernel_rfl
  f6 := ⟨Try.f35.name, by decide, Try.func35.trans (congrArg some (by kernel_rfl))⟩
  f8 := ⟨Try.f63.name, by decide, Try.func63.trans (congrArg some (by kernel_rfl))⟩
  f11 := ⟨Try.f79.name, by decide, Try.func79.trans (congrArg some (by kernel_rfl))⟩
  t0 := Try.underlying0
  a0 := Try.isAgg0
  z0 := Try.sizeOf0
  v0 := Try.zeroValue0
  t24 := Try.underlying43
  a24 := Try.isAgg43
  z24 := Try.sizeOf43
  v24 := Try.zeroValue43
  t26 := Try.underlying3
  a26 := Try.isAgg3
  z26 := Try.sizeOf3
  v26 := Try.zeroValue3
  t28 := Try.underlying94
  a28 := Try.isAgg94
  z28 := Try.sizeOf94
  v28 := Try.zeroValue94
  i26 := by kernel_rfl }
def Try.sortA_ren : Go.Shelf.Ren := ⟨fun | 5 => 64 | 8 => 81 | 7 => 80 | 19 => 104 | 20 => 105 | 10 => 95 | 11 => 96 | 12 => 97 | 13 => 98 | 14 => 99 | 15 => 100 | 16 => 101 | 17 => 102 | 18 => 103 | 30 => 118 | 31 => 119 | 32 => 120 | 33 => 121 | 34 => 122 | 35 => 123 | 40 => 130 | n => n, fun | 23 => 43 | 25 => 3 | 3 => 3 | 32 => 119 | 22 => 43 | 0 => 0 | 44 => 27 | 46 => 71 | 4 => 4 | 36 => 182 | 35 => 181 | 41 => 170 | 5 => 5 | 9 => 9 | 53 => 201 | 57 => 205 | 63 => 213 | 64 => 214 | n => n, fun | n => n⟩
theorem Try.sortA : Go.Proofs.SlLaysM.n5 Try.prog Try.sortA_ren := {
  mixed := by kernel_rfl
  f5 := ⟨Try.f64.name, by decide, Try.func64.trans (congrArg some (by kernel_rfl))⟩
  f7 := ⟨Try.f80.name, by decide, Try.func80.trans (congrArg some (by kernel_rfl))⟩
  f8 := Try.func81.trans (congrArg some (by kernel_rfl))
  f10 := ⟨Try.f95.name, by decide, Try.func95.trans (congrArg some (by kernel_rfl))⟩
  f11 := ⟨Try.f96.name, by decide, Try.func96.trans (congrArg some (by kernel_rfl))⟩
  f12 := ⟨Try.f97.name, by decide, Try.func97.trans (congrArg some (by kernel_rfl))⟩
  f13 := ⟨Try.f98.name, by decide, Try.func98.trans (congrArg some (by kernel_rfl))⟩
  f14 := ⟨Try.f99.name, by decide, Try.func99.trans (congrArg some (by kernel_rfl))⟩
  f15 := ⟨Try.f100.name, by decide, Try.func100.trans (congrArg some (by kernel_rfl))⟩
  f16 := ⟨Try.f101.name, by decide, Try.func101.trans (congrArg some (by kernel_rfl))⟩
  f17 := ⟨Try.f102.name, by decide, Try.func102.trans (congrArg some (by kernel_rfl))⟩
  f18 := ⟨Try.f103.name, by decide, Try.func103.trans (congrArg some (by kernel_rfl))⟩
  f19 := Try.func104.trans (congrArg some (by kernel_rfl))
  f20 := Try.func105.trans (congrArg some (by kernel_rfl))
  f30 := ⟨Try.f118.name, by decide, Try.func118.trans (congrArg some (by kernel_rfl))⟩
  f31 := Try.func119.trans (congrArg some (by kernel_rfl))
  f32 := Try.func120.trans (congrArg some (by kernel_rfl))
  f33 := ⟨Try.f121.name, by decide, Try.func121.trans (congrArg some (by kernel_rfl))⟩
  f34 := ⟨Try.f122.name, by decide, Try.func122.trans (congrArg some (by kernel_rfl))⟩
  f35 := ⟨Try.f123.name, by decide, Try.func123.trans (congrArg some (by kernel_rfl))⟩
  f40 := ⟨Try.f130.name, by decide, Try.func130.trans (congrArg some (by kernel_rfl))⟩
  t0 := Try.underlying0
  a0 := Try.isAgg0
  z0 := Try.sizeOf0
  v0 := Try.zeroValue0
  t3 := Try.underlying3
  a3 := Try.isAgg3
  z3 := Try.sizeOf3
  v3 := Try.zeroValue3
  t4 := Try.underlying4
  a4 := Try.isAgg4
  z4 := Try.sizeOf4
  v4 := Try.zeroValue4
  t5 := Try.underlying5
  a5 := Try.isAgg5
  z5 := Try.sizeOf5
  v5 := Try.zeroValue5
  t9 := Try.underlying9
  a9 := Try.isAgg9
  z9 := Try.sizeOf9
  v9 := Try.zeroValue9
  t22 := Try.underlying43
  a22 := Try.isAgg43
  z22 := Try.sizeOf43
  v22 := Try.zeroValue43
  t23 := Try.underlying43
  a23 := Try.isAgg43
  z23 := Try.sizeOf43
  v23 := Try.zeroValue43
  t25 := Try.underlying3
  a25 := Try.isAgg3
  z25 := Try.sizeOf3
  v25 := Try.zeroValue3
  t32 := Try.underlying119
  a32 := Try.isAgg119
  z32 := Try.sizeOf119
  v32 := Try.zeroValue119
  t35 := Try.underlying181
  a35 := Try.isAgg181
  z35 := Try.sizeOf181
  v35 := Try.zeroValue181
  t36 := Try.underlying182
  a36 := Try.isAgg182
  z36 := Try.sizeOf182
  v36 := Try.zeroValue182
  t41 := Try.underlying170
  a41 := Try.isAgg170
  z41 := Try.sizeOf170
  v41 := Try.zeroValue170
  t44 := Try.underlying27
  a44 := Try.isAgg27
  z44 := Try.sizeOf27
  v44 := Try.zeroValue27
  t46 := Try.underlying71
  a46 := Try.isAgg71
  z46 := Try.sizeOf71
  v46 := Try.zeroValue71
  t53 := Try.underlying201
  a53 := Try.isAgg201
  z53 := Try.sizeOf201
  v53 := Try.zeroValue201
  t57 := Try.underlying205
  a57 := Try.isAgg205
  z57 := Try.sizeOf205
  v57 := Try.zeroValue205
  t63 := Try.underlying213
  a63 := Try.isAgg213
  z63 := Try.sizeOf213
  v63 := Try.zeroValue213
  t64 := Try.underlying214
  a64 := Try.isAgg214
  z64 := Try.sizeOf214
  v64 := Try.zeroValue214 }
end Go.Proofs
