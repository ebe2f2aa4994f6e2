/- trees: Put (printed by XTrPt.gen.py). -/
import Derived.Test.YtngehbhhpkkijaaKTreeBuilds19
namespace Go.Proofs.Ytngehbhhpkkijaa
attribute [local simp] BigFrame.eval_const BigFrame.eval_global BigFrame.eval_func
set_option linter.unusedVariables false
set_option linter.unusedSimpArgs false
open Go.RowKit Go.Maps

/-- One pair more, at a leaf. -/
def GrowL (root : Nat) (x : Pr) (L L' : List (List Pr)) : Prop := (root = 0 ∧ L = [] ∧ L' = [[x]]) ∨ (root ≠ 0 ∧ SplitL x L L')
theorem GrowL.phi {root : Nat} {x : Pr} {L L' : List (List Pr)} (h : GrowL root x L L') : phi L' ≤ phi L + if root = 0 then 8 else 1 := by
 rcases h with ⟨h, rfl, rfl⟩ | ⟨h, h2⟩
 · rw [if_pos h]; simp [Go.Proofs.Ytngehbhhpkkijaa.phi]
 · rw [if_neg h]; exact Z7p h2
/-- What 'Put' brings: no room; or a tree with the pair, at most one level higher (only if there are sixteen leaves), by at most so many nodes more. -/
structure PutT (m : Nat) (N N' : List Nd) (room : Int) (root k v : Nat) (L : List (List Pr)) (g : List Nat) (root' : Int) (er : Int) : Prop where
 app : ∃ M, N' = N ++ M ∧ M.length ≤ 2 * (m + 1) + 1
 how : (er = 6 ∧ root' = 0 ∧ ¬ (N.length + (2 * (m + 1) + 1) ≤ 511 ∧ ((N.length + (2 * (m + 1) + 1) : Nat) : Int) ≤ room)) ∨
  (er = 0 ∧ ∃ (r : Nat) (L' : List (List Pr)) (g' : List Nat) (m' : Nat), root' = r ∧ 1 ≤ r ∧ r ≤ N'.length ∧ RT m' N' r L' g' ∧ L'.flatten = insP (k, v) L.flatten ∧ GrowL root (k, v) L L' ∧ m' ≤ m + 1 ∧ (m' = m ∨ m = 0 ∨ 16 ≤ L'.length) ∧ (∀ q ∈ g', q ∈ g ∨ N.length < q) ∧ N'.length + L.length ≤ N.length + L'.length + 2 * m + 2)
theorem rt_leaf {N : List Nd} {k v : Nat} (hk : k < 18446744073709551616) (hv : v < 18446744073709551616) : RT 0 (N ++ [(0, [(k, v)])]) (N.length + 1) [[(k, v)]] [N.length + 1] :=
 ⟨.inr ⟨0, Nat.le_refl _, ⟨[(k, v)], [], Z28 N _ [], by simp, by simp, Z0i.2 ⟨by simp, rfl⟩, rfl⟩, fun h => by cases h⟩, by simp [Up], by simp, fun y hy => by
  obtain rfl : y = (k, v) := by simpa using hy
  exact ⟨hk, hv⟩⟩
theorem rt_one {m l : Nat} {N N' : List Nd} {root k q : Nat} {x : Pr} {L : List (List Pr)} {g : List Nat} (hu : Up L.flatten) (hwf : ∀ y ∈ L.flatten, y.1 < 18446744073709551616 ∧ y.2 < 18446744073709551616) (hx : x.1 < 18446744073709551616 ∧ x.2 < 18446744073709551616) (hl : l ≤ m)
 (h2 : 0 < l → ∃ xs, ndAt N root = some (l, xs) ∧ 2 ≤ xs.length) (hp : PutR N N' l root x L g [(k, q)]) : 1 ≤ q ∧ q ≤ N'.length ∧ ∃ L' g', RT m N' q L' g' ∧ L'.flatten = insP x L.flatten ∧ SplitL x L L' ∧ (∀ q ∈ g', q ∈ g ∨ N.length < q) ∧ N'.length + L.length ≤ N.length + L'.length + 2 * m + 2 := by
 obtain ⟨L', g', k1, k2, k3, k4, k5, _, k7⟩ := hp.kids
 simp only [List.length_singleton] at k7
 have hT := k1.of_one.1
 obtain ⟨r, e⟩ := Tr.one hT
 have hq := Tr.pages hT q (by rw [e]; simp)
 refine ⟨hq.1, hq.2, L', g', ⟨.inr ⟨l, hl, hT, fun h0 => ?_⟩, by rw [k5]; exact Z7w hu, k2, by rw [k5]; exact wf_ins hwf hx⟩, k5, k4, k3, (by split at k7 <;> omega)⟩
 obtain ⟨xs, h3, h4⟩ := hp.root h0
 obtain ⟨xs', h5, h6⟩ := h2 h0
 rw [h5] at h3
 injection h3 with h3
 injection h3 with _ h3
 subst h3
 obtain ⟨k', q', ys, e1, e2, e3⟩ := h4 rfl
 injection e1 with e1
 injection e1 with _ e1
 subst e1
 exact ⟨ys, e2, by omega⟩
theorem rt_two {m l : Nat} {N N' : List Nd} {root : Nat} {x : Pr} {L : List (List Pr)} {g : List Nat} {es : List Pr} (hu : Up L.flatten) (hwf : ∀ y ∈ L.flatten, y.1 < 18446744073709551616 ∧ y.2 < 18446744073709551616) (hx : x.1 < 18446744073709551616 ∧ x.2 < 18446744073709551616) (hl : l ≤ m) (he : es.length = 2)
 (hp : PutR N N' l root x L g es) : ∃ L' g' m', RT m' (N' ++ [(l + 1, es)]) (N'.length + 1) L' g' ∧ L'.flatten = insP x L.flatten ∧ SplitL x L L' ∧ m' ≤ m + 1 ∧ (m' = m ∨ m = 0 ∨ 16 ≤ L'.length) ∧ (∀ q ∈ g', q ∈ g ∨ N.length < q) ∧ (N' ++ [(l + 1, es)]).length + L.length ≤ N.length + L'.length + 2 * m + 2 := by
 obtain ⟨L', g', k1, k2, k3, k4, k5, k6, k7⟩ := hp.kids
 rw [he] at k7
 have hne : es ≠ [] := fun e => by rw [e] at he; cases he
 have hT : Tr (N' ++ [(l + 1, es)]) (l + 1) (N'.length + 1) L' ((N'.length + 1) :: g') := Z2h (Z0l.2 k1 : Body (Tb N' (l + 1)) (l + 1) es L' g') hne (by omega) (Z28 N' _ [])
 have hpg : ∀ q ∈ g', 1 ≤ q ∧ q ≤ N'.length := k1.pages fun _ _ _ h => Tr.pages h
 have hR : RT (l + 1) (N' ++ [(l + 1, es)]) (N'.length + 1) L' ((N'.length + 1) :: g') := ⟨.inr ⟨l + 1, Nat.le_refl _, hT, fun _ => ⟨es, Z28 N' _ [], by omega⟩⟩, by rw [k5]; exact Z7w hu, List.nodup_cons.2 ⟨fun h => by have := (hpg _ h).2; omega, k2⟩, by rw [k5]; exact wf_ins hwf hx⟩
 have hsub : ∀ q ∈ (N'.length + 1) :: g', q ∈ g ∨ N.length < q := fun q hq => by
  rcases List.mem_cons.1 hq with rfl | hq
  · obtain ⟨M, rfl, _⟩ := hp.app
    exact .inr (by rw [List.length_append]; omega)
  · exact k3 q hq
 have hcnt : (N' ++ [(l + 1, es)]).length + L.length ≤ N.length + L'.length + 2 * m + 2 := by
  rw [List.length_append, List.length_singleton]
  split at k7 <;> omega
 by_cases h0 : l < m
 · exact ⟨L', _, m, ⟨(hR.rt).imp id (fun ⟨l', h1, h2, h3⟩ => ⟨l', by omega, h2, h3⟩), hR.up, hR.nod, hR.wf⟩, k5, k4, by omega, .inl rfl, hsub, hcnt⟩
 · obtain rfl : l = m := by omega
   refine ⟨L', _, l + 1, hR, k5, k4, Nat.le_refl _, .inr ?_, hsub, hcnt⟩
   by_cases h1 : l = 0
   · exact .inl h1
   · exact .inr (k6 he (by omega))

set_option maxRecDepth 100000 in
set_option maxHeartbeats 4000000 in
theorem Z7d {H : Nat} {A0 : World} {R : List Thing} {sb cap : Nat} {room : Int} {B : Option Addr} {vs : List Value} {N : List Nd} {root ky vl m : Nat} {L : List (List Pr)} {g : List Nat} (w : World) (O : OwnT H A0 (shT sb room B cap vs N R) w) (hRT : RT m N root L g) (h6 : m ≤ 6) (hN : N.length ≤ 511) (hk : ky < 18446744073709551616) (hv : vl < 18446744073709551616) (hr : root = 0) : Calls Try.prog 15 #[.iface 24 (.pointer (some ⟨sb, 0, none⟩)), .int .i64 root, .int .u64 ky, .int .u64 vl] w fun e w' => ∃ N' root' er B' cap' vs', e = .returned (.tuple #[.int .i64 root', .int .i64 er]) ∧ OwnT H A0 (shT sb room B' cap' vs' N' R) w' ∧ PutT m N N' room root ky vl L g root' er := by
 refine Z0c Try.func15 rfl 59 rfl (by rfl) ?_
 intro a1 k hargs
 have e0 : a1.eval (.tmp 0) = .iface 24 (.pointer (some ⟨sb, 0, none⟩)) := hargs 0 _ rfl
 have e1 : a1.eval (.tmp 1) = .int .i64 ↑root := hargs 1 _ rfl
 have e2 : a1.eval (.tmp 2) = .int .u64 ↑ky := hargs 2 _ rfl
 have e3 : a1.eval (.tmp 3) = .int .u64 ↑vl := hargs 3 _ rfl
 clear hargs
 refine wp_seq ?_
 refine wp_region_lit ?_
 have hE := Env.refl a1 [8, 9]
 refine sd 8 hE k (Z01 rfl rfl) ?_
 intro a2 hE e8 kp
 refine sd 9 hE k (Z01 rfl rfl) ?_
 intro a3 hE e9 kp
 refine wpList_nil ?_
 replace e0 := hE.g e0; replace e1 := hE.g e1; replace e2 := hE.g e2; replace e3 := hE.g e3
 replace k := k.env hE
 clear hE e9
 refine Z00 (wp_seq ?_)
 refine wp_region_lit ?_
 have hE := Env.refl a3 [14, 15, 16, 10]
 refine zm 14 hE k e2 ?_
 intro a4 hE e14 kp
 refine zm 15 hE k e3 ?_
 intro a5 hE e15 kp
 replace e14 := kt kp e14
 apply Z02 16 hE k rfl rfl rfl rfl
 case h =>
  simp [go_sem, ↓IntWalk.iteOmega, ev e14, ev e15]
  with_reducible rfl
 intro a6 hE e16 kp
 refine Z0k O (cs := #[.int .u64 0, .int .u64 0]) (t := 38) 10 hE k rfl (by rfl) (by rfl) rfl (by simp [go_sem, ↓IntWalk.iteOmega]) ?_
 clear O
 intro xb a7 w8 O hE e10 kp
 replace e16 := kt kp e16
 have q0 : w8.cell? ⟨xb, 0, none⟩ = some (.int .u64 0) := (OwnT.blk O 0 rfl).cell 0
 have z0 : w8.frozen? ⟨xb, 0, none⟩ = false := (OwnT.blk O 0 rfl).frozen 0
 have q1 : w8.cell? ⟨xb, 1, none⟩ = some (.int .u64 0) := (OwnT.blk O 0 rfl).cell 1
 have z1 : w8.frozen? ⟨xb, 1, none⟩ = false := (OwnT.blk O 0 rfl).frozen 1
 refine Z0y (w' := ((w8.setCell ⟨xb, 0, none⟩ (.int .u64 ↑ky)).setCell ⟨xb, 1, none⟩ (.int .u64 ↑vl))) hE rfl rfl (by simp [go_sem, ↓IntWalk.iteOmega, ev e10, ev e16, q0, z0, q1, z1]) ?_
 replace O := OwnT.push 0 rfl (((OwnT.pull O 0 rfl).set 0 (.int .u64 ↑ky)).set 1 (.int .u64 ↑vl))
 clear q0 z0 q1 z1
 generalize ((w8.setCell ⟨xb, 0, none⟩ (.int .u64 ↑ky)).setCell ⟨xb, 1, none⟩ (.int .u64 ↑vl)) = w9 at O ⊢
 replace O : OwnT _ _ ((tBlk xb 38 #[.int .u64 ↑ky, .int .u64 ↑vl]) :: (tBlk sb 28 #[.slice B N.length cap, .int .i64 room]) :: (tRow 125 2 (.slice B N.length cap) N.length (leafV vs N)) :: (tPool vs N) :: R) w9 := O
 refine wpList_nil ?_
 replace e0 := hE.g e0; replace e1 := hE.g e1
 replace k := k.env hE
 clear hE e2 e3 e16
 refine Z00 ?_
 replace O : OwnT _ _ ((tBlk sb 28 #[.slice B N.length cap, .int .i64 room]) :: (tRow 125 2 (.slice B N.length cap) N.length (leafV vs N)) :: (tPool vs N) :: (tBlk xb 38 #[.int .u64 ↑ky, .int .u64 ↑vl]) :: R) w9 := OwnT.pickR (L := [_, _, _, _]) (R := R) O [1, 2, 3, 0] (by decide)
 refine wp_seq ?_
 refine wp_seq ?_
 refine wp_region_lit ?_
 have hE := Env.refl a7 [17, 18]
 refine zm 17 hE k e1 ?_
 intro a10 hE e17 kp
 refine sd 18 hE k (Z06 (Z0n rfl e17 rfl) (decide_eq_true (by omega))) ?_
 intro a11 hE e18 kp
 refine wpList_nil ?_
 replace e0 := hE.g e0; replace e1 := hE.g e1; replace e10 := hE.g e10
 replace k := k.env hE
 clear hE
 refine Z00 ?_
 refine Z0g e18 rfl ?_
 have hLg : L = [] ∧ g = [] := by
  rcases hRT.rt with ⟨_, h1, h2⟩ | ⟨l, _, hT, _⟩
  · exact ⟨h1, h2⟩
  · obtain ⟨r, e⟩ := Tr.one hT; have := Tr.pages hT root (by rw [e]; simp); omega
 obtain ⟨rfl, rfl⟩ := hLg
 have hadd : ∀ gs W, OwnT H A0 (shT sb room B cap vs N (tBlk gs 38 #[.int .u64 ky, .int .u64 vl] :: R)) W → Calls Try.prog 118 #[.pointer (some ⟨sb, 0, none⟩), .agg #[.int .i64 0, .slice (some ⟨gs, 0, none⟩) 1 1]] W fun e w' => ∃ N' root' er B' cap' vs', e = .returned (.tuple #[.int .i64 root', .int .i64 er]) ∧ OwnT H A0 (shT sb room B' cap' vs' N' (tBlk gs 38 #[.int .u64 ky, .int .u64 vl] :: R)) w' ∧ PutT m N N' room root ky vl [] [] root' er := by
  intro gs W O
  by_cases hf : N.length < 511 ∧ (N.length : Int) < room
  · have hrow : Row W (some ⟨gs, 0, none⟩) 2 pairC [(ky, vl)] := by
     intro i x hi
     have hb := OwnT.blk O 3 rfl
     cases i with
     | zero =>
      obtain rfl : (ky, vl) = x := by simpa using hi
      refine ⟨gs, 0, rfl, hb.lt, fun j u hu => ?_⟩
      rw [hb.cell]
      match j, hu with
      | 0, hu => simpa [pairC] using hu
      | 1, hu => simpa [pairC] using hu
      | j + 2, hu => simp [pairC] at hu
     | succ i => simp at hi
    refine (Z3b (l := 0) (cx := 1) [(ky, vl)] W O (by omega) hf hrow (.inr ⟨gs, 0, rfl⟩) (by simp)).mono ?_
    rintro e w' ⟨rfl, B', cap', vs', h⟩
    refine ⟨_, _, _, B', cap', vs', rfl, h, ⟨⟨_, rfl, by simp⟩, .inr ⟨rfl, N.length + 1, [[(ky, vl)]], [N.length + 1], m, rfl, by omega, by simp, ?_, by simp [insP], .inl ⟨hr, rfl, rfl⟩, by omega, .inl rfl, (fun q hq => .inr (by have := List.mem_singleton.1 hq; omega)), by simp; omega⟩⟩⟩
    have h0 := rt_leaf (N := N) hk hv
    exact ⟨(h0.rt).imp id (fun ⟨l, h1, h2, h3⟩ => ⟨l, by omega, h2, h3⟩), h0.up, h0.nod, h0.wf⟩
  · refine (Z2b (l := 0) (cx := 1) (Bx := some ⟨gs, 0, none⟩) [(ky, vl)] W O (by omega) hf).mono ?_
    rintro e w' ⟨rfl, h⟩
    exact ⟨N, 0, 6, B, cap, vs, rfl, h, ⟨⟨[], by simp, by simp⟩, .inl ⟨rfl, rfl, by omega⟩⟩⟩

 refine wp_seq ?_
 refine wp_region_lit ?_
 have hE := Env.refl a11 [19, 20, 21, 22, 23, 24, 25, 8, 9]
 refine zm 19 hE k e0 ?_
 intro a12 hE e19 kp
 apply Z02 20 hE k rfl rfl rfl rfl
 case h =>
  have q0 : w9.cell? ⟨xb, 0, none⟩ = some (.int .u64 ↑ky) := (OwnT.blk O 3 rfl).cell 0
  have q1 : w9.cell? ⟨xb, 1, none⟩ = some (.int .u64 ↑vl) := (OwnT.blk O 3 rfl).cell 1
  simp [go_sem, ↓IntWalk.iteOmega, ev (hE.g e10), q0, q1]
  with_reducible rfl
 intro a13 hE e20 kp
 replace e19 := kt kp e19
 refine Z2j (m := 1) (c := 1) O (cs := #[.int .u64 ↑ky, .int .u64 ↑vl]) (t := 38) 21 hE k rfl (by rfl) (by rfl) rfl (by simp [go_sem, ↓IntWalk.iteOmega, ev e20]) ?_
 clear O
 intro gs a14 w15 O hE e21 kp
 replace e19 := kt kp e19
 apply Z02 22 hE k rfl rfl rfl rfl
 case h =>
  simp [go_sem, ↓IntWalk.iteOmega, ev e21]
  with_reducible rfl
 intro a16 hE e22 kp
 replace e19 := kt kp e19
 apply Z08 23 hE k rfl (by rfl) (by rfl) rfl
 case h =>
  exact Z34 rfl e19 e22 (Z1q _ _ _)
 case hc => exact (hadd gs _ (OwnT.pickR (L := [_, _, _, _, _]) (R := R) O [1, 2, 3, 0] (by decide)))
 clear O
 rintro e w18 ⟨N2, r2, er, B2, cap2, vs2, rfl, O, hP⟩
 refine ⟨_, rfl, ?_⟩
 intro a17 hE e23 kp
 apply Z02 24 hE k rfl rfl rfl rfl
 case h =>
  simp [go_sem, ↓IntWalk.iteOmega, ev e23]
  with_reducible rfl
 intro a19 hE e24 kp
 replace e23 := kt kp e23
 apply Z02 25 hE k rfl rfl rfl rfl
 case h =>
  simp [go_sem, ↓IntWalk.iteOmega, ev e23]
  with_reducible rfl
 intro a20 hE e25 kp
 replace e24 := kt kp e24
 refine sd 8 hE k (Z01 rfl e24) ?_
 intro a21 hE e8 kp
 replace e25 := kt kp e25
 refine sd 9 hE k (Z01 rfl e25) ?_
 intro a22 hE e9 kp
 replace e8 := kt kp e8
 refine wpList_nil ?_
 replace k := k.env hE
 clear hE e0 e1 e10 e18
 refine Z00 ?_
 refine wp_ret ?_
 refine Z0d ?_
 refine Z1o rfl k e8 e9 ?_
 exact ⟨N2, r2, er, B2, cap2, vs2, rfl, OwnT.pickR (L := [_, _, _, _]) (R := R) O [0, 1, 2] (by decide), hP⟩
set_option maxRecDepth 100000 in
set_option maxHeartbeats 4000000 in
theorem Z7e {H : Nat} {A0 : World} {R : List Thing} {sb cap : Nat} {room : Int} {B : Option Addr} {vs : List Value} {N : List Nd} {root ky vl m : Nat} {L : List (List Pr)} {g : List Nat} (w : World) (O : OwnT H A0 (shT sb room B cap vs N R) w) (hRT : RT m N root L g) (h6 : m ≤ 6) (hN : N.length ≤ 511) (hk : ky < 18446744073709551616) (hv : vl < 18446744073709551616) (hr : root ≠ 0) : Calls Try.prog 15 #[.iface 24 (.pointer (some ⟨sb, 0, none⟩)), .int .i64 root, .int .u64 ky, .int .u64 vl] w fun e w' => ∃ N' root' er B' cap' vs', e = .returned (.tuple #[.int .i64 root', .int .i64 er]) ∧ OwnT H A0 (shT sb room B' cap' vs' N' R) w' ∧ PutT m N N' room root ky vl L g root' er := by
 refine Z0c Try.func15 rfl 59 rfl (by rfl) ?_
 intro a1 k hargs
 have e0 : a1.eval (.tmp 0) = .iface 24 (.pointer (some ⟨sb, 0, none⟩)) := hargs 0 _ rfl
 have e1 : a1.eval (.tmp 1) = .int .i64 ↑root := hargs 1 _ rfl
 have e2 : a1.eval (.tmp 2) = .int .u64 ↑ky := hargs 2 _ rfl
 have e3 : a1.eval (.tmp 3) = .int .u64 ↑vl := hargs 3 _ rfl
 clear hargs
 refine wp_seq ?_
 refine wp_region_lit ?_
 have hE := Env.refl a1 [8, 9]
 refine sd 8 hE k (Z01 rfl rfl) ?_
 intro a2 hE e8 kp
 refine sd 9 hE k (Z01 rfl rfl) ?_
 intro a3 hE e9 kp
 refine wpList_nil ?_
 replace e0 := hE.g e0; replace e1 := hE.g e1; replace e2 := hE.g e2; replace e3 := hE.g e3
 replace k := k.env hE
 clear hE e9
 refine Z00 (wp_seq ?_)
 refine wp_region_lit ?_
 have hE := Env.refl a3 [14, 15, 16, 10]
 refine zm 14 hE k e2 ?_
 intro a4 hE e14 kp
 refine zm 15 hE k e3 ?_
 intro a5 hE e15 kp
 replace e14 := kt kp e14
 apply Z02 16 hE k rfl rfl rfl rfl
 case h =>
  simp [go_sem, ↓IntWalk.iteOmega, ev e14, ev e15]
  with_reducible rfl
 intro a6 hE e16 kp
 refine Z0k O (cs := #[.int .u64 0, .int .u64 0]) (t := 38) 10 hE k rfl (by rfl) (by rfl) rfl (by simp [go_sem, ↓IntWalk.iteOmega]) ?_
 clear O
 intro xb a7 w8 O hE e10 kp
 replace e16 := kt kp e16
 have q0 : w8.cell? ⟨xb, 0, none⟩ = some (.int .u64 0) := (OwnT.blk O 0 rfl).cell 0
 have z0 : w8.frozen? ⟨xb, 0, none⟩ = false := (OwnT.blk O 0 rfl).frozen 0
 have q1 : w8.cell? ⟨xb, 1, none⟩ = some (.int .u64 0) := (OwnT.blk O 0 rfl).cell 1
 have z1 : w8.frozen? ⟨xb, 1, none⟩ = false := (OwnT.blk O 0 rfl).frozen 1
 refine Z0y (w' := ((w8.setCell ⟨xb, 0, none⟩ (.int .u64 ↑ky)).setCell ⟨xb, 1, none⟩ (.int .u64 ↑vl))) hE rfl rfl (by simp [go_sem, ↓IntWalk.iteOmega, ev e10, ev e16, q0, z0, q1, z1]) ?_
 replace O := OwnT.push 0 rfl (((OwnT.pull O 0 rfl).set 0 (.int .u64 ↑ky)).set 1 (.int .u64 ↑vl))
 clear q0 z0 q1 z1
 generalize ((w8.setCell ⟨xb, 0, none⟩ (.int .u64 ↑ky)).setCell ⟨xb, 1, none⟩ (.int .u64 ↑vl)) = w9 at O ⊢
 replace O : OwnT _ _ ((tBlk xb 38 #[.int .u64 ↑ky, .int .u64 ↑vl]) :: (tBlk sb 28 #[.slice B N.length cap, .int .i64 room]) :: (tRow 125 2 (.slice B N.length cap) N.length (leafV vs N)) :: (tPool vs N) :: R) w9 := O
 refine wpList_nil ?_
 replace e0 := hE.g e0; replace e1 := hE.g e1
 replace k := k.env hE
 clear hE e2 e3 e16
 refine Z00 ?_
 replace O : OwnT _ _ ((tBlk sb 28 #[.slice B N.length cap, .int .i64 room]) :: (tRow 125 2 (.slice B N.length cap) N.length (leafV vs N)) :: (tPool vs N) :: (tBlk xb 38 #[.int .u64 ↑ky, .int .u64 ↑vl]) :: R) w9 := OwnT.pickR (L := [_, _, _, _]) (R := R) O [1, 2, 3, 0] (by decide)
 obtain ⟨l, hlm, hT, h2⟩ : ∃ l, l ≤ m ∧ Tr N l root L g ∧ (0 < l → ∃ xs, ndAt N root = some (l, xs) ∧ 2 ≤ xs.length) := by
  rcases hRT.rt with ⟨h, _⟩ | h
  · exact absurd h hr
  · exact h
 have hx : (ky, vl).1 < 18446744073709551616 ∧ (ky, vl).2 < 18446744073709551616 := ⟨hk, hv⟩
 refine wp_seq ?_
 refine wp_seq ?_
 refine wp_region_lit ?_
 have hE := Env.refl a7 [17, 18]
 refine zm 17 hE k e1 ?_
 intro a10 hE e17 kp
 refine sd 18 hE k (Z06 (Z0n rfl e17 rfl) (decide_eq_false (by omega))) ?_
 intro a11 hE e18 kp
 refine wpList_nil ?_
 replace e0 := hE.g e0; replace e1 := hE.g e1; replace e10 := hE.g e10
 replace k := k.env hE
 clear hE
 refine Z00 ?_
 refine Z05 e18 rfl ?_
 refine wp_skip ?_
 refine Z00 (wp_seq ?_)
 refine wp_region_lit ?_
 have hE := Env.refl a11 [27, 28, 29, 30, 26, 31, 32, 33, 11, 12, 13]
 refine zm 27 hE k e0 ?_
 intro a12 hE e27 kp
 refine zm 28 hE k e1 ?_
 intro a13 hE e28 kp
 replace e27 := kt kp e27
 apply Z02 29 hE k rfl rfl rfl rfl
 case h =>
  have q0 : w9.cell? ⟨xb, 0, none⟩ = some (.int .u64 ↑ky) := (OwnT.blk O 3 rfl).cell 0
  have q1 : w9.cell? ⟨xb, 1, none⟩ = some (.int .u64 ↑vl) := (OwnT.blk O 3 rfl).cell 1
  simp [go_sem, ↓IntWalk.iteOmega, ev (hE.g e10), q0, q1]
  with_reducible rfl
 intro a14 hE e29 kp
 replace e27 := kt kp e27; replace e28 := kt kp e28
 apply Z08 30 hE k rfl (by rfl) (by rfl) rfl
 case h =>
  simp [go_sem, ↓IntWalk.iteOmega, ev e27, ev e28, ev e29]
  with_reducible exact ⟨rfl, rfl⟩
 case hc => exact tput l (x := (ky, vl)) (R := _ :: R) _ O hT hRT.up hRT.nod (by omega) hN hRT.wf hx (.inl (by decide))
 clear O
 rintro e w16 ⟨N1, o, es, er, lv, B1, cap1, vs1, rfl, O, hPE⟩
 refine ⟨_, rfl, ?_⟩
 intro a15 hE e30 kp
 refine sd 26 hE k (Z03 rfl e30) ?_
 intro a17 hE e26 kp
 apply Z02 31 hE k rfl rfl rfl rfl
 case h =>
  simp [go_sem, ↓IntWalk.iteOmega, ev e26]
  with_reducible rfl
 intro a18 hE e31 kp
 replace e26 := kt kp e26
 apply Z02 32 hE k rfl rfl rfl rfl
 case h =>
  simp [go_sem, ↓IntWalk.iteOmega, ev e26]
  with_reducible rfl
 intro a19 hE e32 kp
 replace e26 := kt kp e26; replace e31 := kt kp e31
 apply Z02 33 hE k rfl rfl rfl rfl
 case h =>
  simp [go_sem, ↓IntWalk.iteOmega, ev e26]
  with_reducible rfl
 intro a20 hE e33 kp
 replace e31 := kt kp e31; replace e32 := kt kp e32
 refine sd 11 hE k (Z01 rfl e31) ?_
 intro a21 hE e11 kp
 replace e32 := kt kp e32; replace e33 := kt kp e33
 refine sd 12 hE k (Z01 rfl e32) ?_
 intro a22 hE e12 kp
 replace e33 := kt kp e33; replace e11 := kt kp e11
 refine sd 13 hE k (Z01 rfl e33) ?_
 intro a23 hE e13 kp
 replace e11 := kt kp e11; replace e12 := kt kp e12
 refine wpList_nil ?_
 replace e0 := hE.g e0
 replace k := k.env hE
 clear hE e1 e10 e18
 refine Z00 (wp_seq ?_)
 refine wp_block ?_
 rcases hPE with ⟨rfl, ⟨M1, rfl, hM1⟩, hrm⟩ | ⟨rfl, rfl, hPR⟩
 · skip
   refine wp_seq ?_
   refine wp_region_lit ?_
   have hE := Env.refl a23 [35, 36, 34]
   refine zm 35 hE k e13 ?_
   intro a24 hE e35 kp
   refine sd 36 hE k (Z1f rfl e35 rfl) ?_
   intro a25 hE e36 kp
   refine sd 34 hE k (Z01 rfl e36) ?_
   intro a26 hE e34 kp
   refine wpList_nil ?_
   replace e0 := hE.g e0; replace e11 := hE.g e11; replace e12 := hE.g e12; replace e13 := hE.g e13
   replace k := k.env hE
   clear hE
   refine Z00 ?_
   refine Z0g e34 rfl ?_
   refine wp_seq ?_
   refine wp_region_lit ?_
   have hE := Env.refl a26 [37, 8, 9]
   refine zm 37 hE k e13 ?_
   intro a27 hE e37 kp
   refine sd 8 hE k (Z01 rfl rfl) ?_
   intro a28 hE e8 kp
   replace e37 := kt kp e37
   refine sd 9 hE k (Z01 rfl e37) ?_
   intro a29 hE e9 kp
   replace e8 := kt kp e8
   refine wpList_nil ?_
   replace k := k.env hE
   clear hE e0 e11 e12 e13 e34
   refine Z00 ?_
   refine wp_ret ?_
   refine Z0s ?_
   refine Z0d ?_
   refine Z1o rfl k e8 e9 ?_
   exact ⟨N ++ M1, 0, 6, B1, cap1, vs1, rfl, OwnT.pickR (L := [_, _, _, _, _]) (R := R) O [1, 2, 3] (by decide), ⟨⟨M1, rfl, by omega⟩, .inl ⟨rfl, rfl, fun h => hrm (by omega)⟩⟩⟩
 · skip
   obtain ⟨Bo, co, rfl, hc1, hc2, -, hc4⟩ := Z0r (OwnT.t0 O)
   have hon := hPR.one
   obtain ⟨M1, hM1, hM1l⟩ := hPR.app
   have hN1l : N1.length = N.length + M1.length := by rw [hM1, List.length_append]
   refine wp_seq ?_
   refine wp_region_lit ?_
   have hE := Env.refl a23 [35, 36, 34]
   refine zm 35 hE k e13 ?_
   intro a30 hE e35 kp
   refine sd 36 hE k (Z1f rfl e35 rfl) ?_
   intro a31 hE e36 kp
   refine sd 34 hE k (Z01 rfl e36) ?_
   intro a32 hE e34 kp
   refine wpList_nil ?_
   replace e0 := hE.g e0; replace e11 := hE.g e11; replace e12 := hE.g e12; replace e13 := hE.g e13
   replace k := k.env hE
   clear hE
   refine Z00 ?_
   refine Z05 e34 rfl ?_
   rcases hon with he1 | he2
   · skip
     obtain ⟨⟨k1, q1⟩, rfl⟩ : ∃ y, es = [y] := List.length_eq_one_iff.1 he1
     obtain ⟨hq1, hq2, L', g', hR', hfl, hph, hsub, hcnt⟩ := rt_one hRT.up hRT.wf hx hlm h2 hPR
     obtain ⟨go, rfl⟩ : ∃ go, Bo = some ⟨go, 0, none⟩ := by
      obtain ⟨g2, c2, _, e2, _⟩ := Z17 (OwnT.t0 O : World.ownsRow _ 0 38 2 _ [(k1, q1)].length _) (by simp)
      injection e2 with e2
      exact ⟨g2, e2⟩

     have cq : w16.cell? ⟨go, 1, none⟩ = some (.int .u64 (q1 : Int)) := by
      obtain ⟨_, _, e2, _, _, h, _⟩ := Z0r (OwnT.t0 O); injection e2 with e2 _ e3; subst e2
      obtain ⟨b, o, e, _, hc⟩ := h 0 (k1, q1) rfl; injection e with e; injection e with e e'; subst e e'
      have := hc 1 _ rfl; simpa using this
     refine wp_seq ?_
     refine wp_region_lit ?_
     have hE := Env.refl a32 [39, 40, 41, 38]
     refine zm 39 hE k e11 ?_
     intro a33 hE e39 kp
     refine sd 40 hE k (Z0f Try.underlying29 rfl e39) ?_
     intro a34 hE e40 kp
     refine sd 41 hE k (Z06 (Z0n rfl e40 rfl) (decide_eq_true (by simp))) ?_
     intro a35 hE e41 kp
     refine sd 38 hE k (Z01 rfl e41) ?_
     intro a36 hE e38 kp
     refine wpList_nil ?_
     replace e0 := hE.g e0; replace e11 := hE.g e11; replace e12 := hE.g e12
     replace k := k.env hE
     clear hE e13 e34
     refine Z00 ?_
     refine Z0g e38 rfl ?_
     refine wp_seq ?_
     refine wp_region_lit ?_
     have hE := Env.refl a36 [42, 43, 44, 45, 46, 8, 9]
     refine zm 42 hE k e11 ?_
     intro a37 hE e42 kp
     apply Z02 43 hE k rfl rfl rfl rfl
     case h =>
      simp [go_sem, ↓IntWalk.iteOmega, ev e42]
      with_reducible rfl
     intro a38 hE e43 kp
     apply Z02 44 hE k rfl rfl rfl rfl
     case h =>
      simp [go_sem, ↓IntWalk.iteOmega, ev e43]
      with_reducible rfl
     intro a39 hE e44 kp
     apply Z02 45 hE k rfl rfl rfl rfl
     case h =>
      simp [go_sem, ↓IntWalk.iteOmega, ev e44, cq]
      with_reducible rfl
     intro a40 hE e45 kp
     refine sd 46 hE k (Z1w rfl e45 (Z23 q1 _ (by omega))) ?_
     intro a41 hE e46 kp
     refine sd 8 hE k (Z01 rfl e46) ?_
     intro a42 hE e8 kp
     refine sd 9 hE k (Z01 rfl rfl) ?_
     intro a43 hE e9 kp
     replace e8 := kt kp e8
     refine wpList_nil ?_
     replace k := k.env hE
     clear hE e0 e11 e12 e38
     refine Z00 ?_
     refine wp_ret ?_
     refine Z0s ?_
     refine Z0d ?_
     refine Z1o rfl k e8 e9 ?_
     exact ⟨N1, q1, 0, B1, cap1, vs1, rfl, OwnT.pickR (L := [_, _, _, _, _]) (R := R) O [1, 2, 3] (by decide), ⟨⟨M1, hM1, by omega⟩, .inr ⟨rfl, q1, L', g', m, rfl, hq1, hq2, hR', hfl, .inr ⟨hr, hph⟩, by omega, .inl rfl, hsub, hcnt⟩⟩⟩
   · skip
     obtain ⟨L', g', m', hR', hfl, hph, hm1, hm2, hsub, hcnt⟩ := rt_two hRT.up hRT.wf hx hlm he2 hPR
     refine wp_seq ?_
     refine wp_region_lit ?_
     have hE := Env.refl a32 [39, 40, 41, 38]
     refine zm 39 hE k e11 ?_
     intro a44 hE e39 kp
     refine sd 40 hE k (Z0f Try.underlying29 rfl e39) ?_
     intro a45 hE e40 kp
     refine sd 41 hE k (Z06 (Z0n rfl e40 rfl) (decide_eq_false (by omega))) ?_
     intro a46 hE e41 kp
     refine sd 38 hE k (Z01 rfl e41) ?_
     intro a47 hE e38 kp
     refine wpList_nil ?_
     replace e0 := hE.g e0; replace e11 := hE.g e11; replace e12 := hE.g e12
     replace k := k.env hE
     clear hE e13 e34
     refine Z00 ?_
     refine Z05 e38 rfl ?_
     refine wp_seq ?_
     refine wp_region_lit ?_
     have hE := Env.refl a47 [48, 49, 50, 47]
     refine zm 48 hE k e12 ?_
     intro a48 hE e48 kp
     refine sd 49 hE k (Z0x rfl e48 rfl (by omega)) ?_
     intro a49 hE e49 kp
     refine sd 50 hE k (Z06 (Z3n rfl e49 rfl) (decide_eq_false (by omega))) ?_
     intro a50 hE e50 kp
     refine sd 47 hE k (Z01 rfl e50) ?_
     intro a51 hE e47 kp
     refine wpList_nil ?_
     replace e0 := hE.g e0; replace e11 := hE.g e11; replace e12 := hE.g e12
     replace k := k.env hE
     clear hE e38
     refine Z00 ?_
     refine Z05 e47 rfl ?_
     refine wp_skip ?_
     refine Z0t ?_
     refine Z00 ?_
     replace O : OwnT _ _ ((tBlk sb 28 #[.slice B1 N1.length cap1, .int .i64 room]) :: (tRow 125 2 (.slice B1 N1.length cap1) N1.length (leafV vs1 N1)) :: (tPool vs1 N1) :: (tPs (.slice Bo es.length co) es) :: (tBlk xb 38 #[.int .u64 ↑ky, .int .u64 ↑vl]) :: R) w16 := OwnT.pickR (L := [_, _, _, _, _]) (R := R) O [1, 2, 3, 0, 4] (by decide)
     obtain ⟨Bq, cq, e2q, -, -, hrow, -⟩ := Z0r (OwnT.get O 3 rfl : (tPs (.slice Bo es.length co) es).holds _)
     injection e2q with e2q _ e3q
     subst e2q e3q
     obtain ⟨l2, hl2⟩ : ∃ z, l + 1 = z := ⟨_, rfl⟩
     rw [hl2] at hR' hcnt
     by_cases hf : N1.length < 511 ∧ (N1.length : Int) < room
     · skip
       refine wp_seq ?_
       refine wp_region_lit ?_
       have hE := Env.refl a51 [51, 52, 53, 54, 55, 56, 57, 58, 8, 9]
       refine zm 51 hE k e0 ?_
       intro a52 hE e51 kp
       refine zm 52 hE k e12 ?_
       intro a53 hE e52 kp
       replace e51 := kt kp e51
       refine sd 53 hE k (Z16 (v := .int .i64 (l2 : Int)) (Z0x rfl e52 rfl (by omega)) (Z0h (by omega))) ?_
       intro a54 hE e53 kp
       replace e51 := kt kp e51
       refine zm 54 hE k e11 ?_
       intro a55 hE e54 kp
       replace e51 := kt kp e51; replace e53 := kt kp e53
       apply Z02 55 hE k rfl rfl rfl rfl
       case h =>
        simp [go_sem, ↓IntWalk.iteOmega, ev e53, ev e54]
        with_reducible rfl
       intro a56 hE e55 kp
       replace e51 := kt kp e51
       apply Z08 56 hE k rfl (by rfl) (by rfl) rfl
       case h =>
        exact Z34 rfl e51 e55 (Z1q _ _ _)
       case hc => exact Z3b (R := _ :: _ :: R) es _ O (by omega) hf hrow hc4 (by omega)
       clear O
       rintro e w58 ⟨rfl, B2, cap2, vs2, O⟩
       refine ⟨_, rfl, ?_⟩
       intro a57 hE e56 kp
       apply Z02 57 hE k rfl rfl rfl rfl
       case h =>
        simp [go_sem, ↓IntWalk.iteOmega, ev e56]
        with_reducible rfl
       intro a59 hE e57 kp
       replace e56 := kt kp e56
       apply Z02 58 hE k rfl rfl rfl rfl
       case h =>
        simp [go_sem, ↓IntWalk.iteOmega, ev e56]
        with_reducible rfl
       intro a60 hE e58 kp
       replace e57 := kt kp e57
       refine sd 8 hE k (Z01 rfl e57) ?_
       intro a61 hE e8 kp
       replace e58 := kt kp e58
       refine sd 9 hE k (Z01 rfl e58) ?_
       intro a62 hE e9 kp
       replace e8 := kt kp e8
       refine wpList_nil ?_
       replace k := k.env hE
       clear hE e0 e11 e12 e47
       refine Z00 ?_
       refine wp_ret ?_
       refine Z1o rfl k e8 e9 ?_
       exact ⟨N1 ++ [(l2, es)], ((N1.length + 1 : Nat) : Int), 0, B2, cap2, vs2, rfl, OwnT.pickR (L := [_, _, _, _, _]) (R := R) O [0, 1, 2] (by decide), ⟨⟨M1 ++ [(l2, es)], by rw [hM1, List.append_assoc], by rw [List.length_append]; simp; omega⟩, .inr ⟨rfl, N1.length + 1, L', g', m', rfl, by omega, by simp, hR', hfl, .inr ⟨hr, hph⟩, hm1, hm2, hsub, hcnt⟩⟩⟩
     · skip
       refine wp_seq ?_
       refine wp_region_lit ?_
       have hE := Env.refl a51 [51, 52, 53, 54, 55, 56, 57, 58, 8, 9]
       refine zm 51 hE k e0 ?_
       intro a63 hE e51 kp
       refine zm 52 hE k e12 ?_
       intro a64 hE e52 kp
       replace e51 := kt kp e51
       refine sd 53 hE k (Z16 (v := .int .i64 (l2 : Int)) (Z0x rfl e52 rfl (by omega)) (Z0h (by omega))) ?_
       intro a65 hE e53 kp
       replace e51 := kt kp e51
       refine zm 54 hE k e11 ?_
       intro a66 hE e54 kp
       replace e51 := kt kp e51; replace e53 := kt kp e53
       apply Z02 55 hE k rfl rfl rfl rfl
       case h =>
        simp [go_sem, ↓IntWalk.iteOmega, ev e53, ev e54]
        with_reducible rfl
       intro a67 hE e55 kp
       replace e51 := kt kp e51
       apply Z08 56 hE k rfl (by rfl) (by rfl) rfl
       case h =>
        exact Z34 rfl e51 e55 (Z1q _ _ _)
       case hc => exact Z2b (R := _ :: _ :: R) es _ O (by omega) hf
       clear O
       rintro e w69 ⟨rfl, O⟩
       refine ⟨_, rfl, ?_⟩
       intro a68 hE e56 kp
       apply Z02 57 hE k rfl rfl rfl rfl
       case h =>
        simp [go_sem, ↓IntWalk.iteOmega, ev e56]
        with_reducible rfl
       intro a70 hE e57 kp
       replace e56 := kt kp e56
       apply Z02 58 hE k rfl rfl rfl rfl
       case h =>
        simp [go_sem, ↓IntWalk.iteOmega, ev e56]
        with_reducible rfl
       intro a71 hE e58 kp
       replace e57 := kt kp e57
       refine sd 8 hE k (Z01 rfl e57) ?_
       intro a72 hE e8 kp
       replace e58 := kt kp e58
       refine sd 9 hE k (Z01 rfl e58) ?_
       intro a73 hE e9 kp
       replace e8 := kt kp e8
       refine wpList_nil ?_
       replace k := k.env hE
       clear hE e0 e11 e12 e47
       refine Z00 ?_
       refine wp_ret ?_
       refine Z1o rfl k e8 e9 ?_
       exact ⟨N1, 0, 6, B1, cap1, vs1, rfl, OwnT.pickR (L := [_, _, _, _, _]) (R := R) O [0, 1, 2] (by decide), ⟨⟨M1, hM1, by omega⟩, .inl ⟨rfl, rfl, fun h => hf (by omega)⟩⟩⟩
theorem tPut {H : Nat} {A0 : World} {R : List Thing} {sb cap : Nat} {room : Int} {B : Option Addr} {vs : List Value} {N : List Nd} {root ky vl m : Nat} {L : List (List Pr)} {g : List Nat} (w : World) (O : OwnT H A0 (shT sb room B cap vs N R) w) (hRT : RT m N root L g) (h6 : m ≤ 6) (hN : N.length ≤ 511) (hk : ky < 18446744073709551616) (hv : vl < 18446744073709551616) : Calls Try.prog 15 #[.iface 24 (.pointer (some ⟨sb, 0, none⟩)), .int .i64 root, .int .u64 ky, .int .u64 vl] w fun e w' => ∃ N' root' er B' cap' vs', e = .returned (.tuple #[.int .i64 root', .int .i64 er]) ∧ OwnT H A0 (shT sb room B' cap' vs' N' R) w' ∧ PutT m N N' room root ky vl L g root' er := by
 by_cases hr : root = 0
 · exact Z7d w O hRT h6 hN hk hv hr
 · exact Z7e w O hRT h6 hN hk hv hr
end Go.Proofs.Ytngehbhhpkkijaa
