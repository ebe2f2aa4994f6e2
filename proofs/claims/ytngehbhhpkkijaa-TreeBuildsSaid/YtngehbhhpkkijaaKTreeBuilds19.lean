/- trees: put (printed by XTrP.gen.py). -/
import Derived.Test.YtngehbhhpkkijaaKTreeBuilds18
namespace Go.Proofs.Ytngehbhhpkkijaa
attribute [local simp] BigFrame.eval_const BigFrame.eval_global BigFrame.eval_func
set_option linter.unusedVariables false
set_option linter.unusedSimpArgs false
open Go.RowKit Go.Maps

theorem tread {H : Nat} {A0 : World} {R : List Thing} {sb cap : Nat} {room : Int} {B : Option Addr} {vs : List Value} {N : List Nd} {q l : Nat} {xs : List Pr} {q0 : Int} (w : World) (O : OwnT H A0 (shT sb room B cap vs N R) w) (hN : N.length ≤ 1000000) (hq : ndAt N q = some (l, xs)) (hg : goodB (l : Int) xs = true) (hne : xs ≠ []) (h15 : xs.length ≤ 15) (hx : ∀ x ∈ xs, x.1 < 18446744073709551616) (h0 : q0 < 0 ∨ q0 = l) :
 Calls Try.prog 58 #[.iface 24 (.pointer (some ⟨sb, 0, none⟩)), .int .i64 q, .int .i64 q0] w fun e w' => ∃ v, e = .returned (.tuple #[.agg #[.int .i64 l, v], .int .i64 0]) ∧ OwnT H A0 (tPs v xs :: shT sb room B cap vs N R) w' := by
 rcases h0 with h | rfl
 · exact Z76 w O hN hq hg hne h15 hx h
 · exact Z87 w O hN hq hg hne h15 hx
theorem Kids.kid {T : Nat → List (List Pr) → List Nat → Prop} : ∀ {xs : List Pr} {L : List (List Pr)} {g : List Nat}, Kids T xs L g → ∀ x ∈ xs, ∃ L1 g1, T x.2 L1 g1
 | [], _, _, _, _, h => by cases h
 | _ :: _, _, _, ⟨L1, g1, L2, g2, h1, h2, h3, _, _⟩, y, hy => by
  rcases List.mem_cons.1 hy with rfl | hy
  · exact ⟨_, _, h1⟩
  · exact h3.kid y hy
/-- A sound subtree's node can be. -/
theorem Z39 {N : List Nd} {l p : Nat} {L : List (List Pr)} {g : List Nat} (hT : Tr N l p L g) (hu : Up L.flatten) (h7 : l ≤ 7) (hN : N.length ≤ 511) (hwf : ∀ y ∈ L.flatten, y.1 < 18446744073709551616 ∧ y.2 < 18446744073709551616) :
 ∃ xs, ndAt N p = some (l, xs) ∧ xs ≠ [] ∧ xs.length ≤ 15 ∧ Up xs ∧ goodB (l : Int) xs = true ∧ (∀ x ∈ xs, x.1 < 18446744073709551616 ∧ x.2 < 18446744073709551616) := by
 obtain ⟨xs, h, h1, h2, h3, h4, _⟩ := Z2s.1 hT
 cases l with
 | zero =>
  obtain ⟨rfl, _⟩ := Z0i.1 h4
  rw [if_neg h2] at hu hwf
  have e : [xs].flatten = xs := by simp
  rw [e] at hu hwf
  exact ⟨xs, h1, h2, h3, hu, Z6b (by omega) h3 hu (fun h => by cases h), hwf⟩
 | succ l =>
  have hk := Z0l.1 h4
  obtain ⟨hux, hkx⟩ := hk.up hu
  have hv : ∀ x ∈ xs, 1 ≤ x.2 ∧ x.2 < 512 := fun x hx => by
   obtain ⟨L1, g1, hT1⟩ := hk.kid x hx
   obtain ⟨r, e⟩ := Tr.one hT1
   have := Tr.pages hT1 x.2 (by rw [e]; simp)
   omega
  refine ⟨xs, h1, h2, h3, hux, Z6b (by omega) h3 hux (fun _ => ⟨h2, hv⟩), fun x hx => ?_⟩
  obtain ⟨v, hm⟩ := hkx x hx
  have := hv x hx
  exact ⟨(hwf _ hm).1, by omega⟩
theorem Z7y {xs : List Pr} {n : Nat} {x : Pr} (hn : n < xs.length) : ((flatP xs).set (n * 2) (.int .u64 x.1)).set (n * 2 + 1) (.int .u64 x.2) = flatP (xs.set n x) := by
 induction xs generalizing n with
 | nil => simp at hn
 | cons y xs ih =>
  cases n with
  | zero => rfl
  | succ n =>
   have := ih (n := n) (by simpa using hn)
   rw [show (n + 1) * 2 = n * 2 + 1 + 1 by omega, show n * 2 + 1 + 1 + 1 = n * 2 + 1 + 2 by omega]
   show Value.int .u64 y.1 :: Value.int .u64 y.2 :: ((flatP xs).set (n * 2) _).set (n * 2 + 1) _ = Value.int .u64 y.1 :: Value.int .u64 y.2 :: flatP (xs.set n x)
   rw [this]
/-- A pair of a row is turned. -/
theorem OwnT.setPair {H : Nat} {A w : World} {R : List Thing} {g cap n : Nat} {xs : List Pr} {x : Pr} (O : OwnT H A (tPs (.slice (some ⟨g, 0, none⟩) xs.length cap) xs :: R) w) (hn : n < xs.length) :
 (∃ u v, w.cell? ⟨g, n * 2, none⟩ = some u ∧ w.frozen? ⟨g, n * 2, none⟩ = false ∧ w.cell? ⟨g, n * 2 + 1, none⟩ = some v ∧ w.frozen? ⟨g, n * 2 + 1, none⟩ = false) ∧
 OwnT H A (tPs (.slice (some ⟨g, 0, none⟩) (xs.set n x).length cap) (xs.set n x) :: R) ((w.setCell ⟨g, n * 2, none⟩ (.int .u64 x.1)).setCell ⟨g, n * 2 + 1, none⟩ (.int .u64 x.2)) := by
 obtain ⟨g', cap', cur, e, h1, h2, h3, h4, OB⟩ := O.rowBlk (by omega)
 injection e with e _ e3
 injection e with e
 injection e with e
 subst e e3
 have hfl : (flatP xs).length = xs.length * 2 := Z0w xs
 have hcl : xs.length * 2 ≤ cur.length := by rw [h3]; omega
 have hb := OB.b0
 refine ⟨⟨_, _, by rw [hb.cell]; exact Array.getElem?_eq_getElem (by simp; omega), hb.frozen _, by rw [hb.cell]; exact Array.getElem?_eq_getElem (by simp; omega), hb.frozen _⟩, ?_⟩
 have O2 := (OB.set (n * 2) (.int .u64 x.1)).set (n * 2 + 1) (.int .u64 x.2)
 have e1 : (cur.toArray.setIfInBounds (n * 2) (.int .u64 x.1)).setIfInBounds (n * 2 + 1) (.int .u64 x.2) = ((cur.set (n * 2) (.int .u64 x.1)).set (n * 2 + 1) (.int .u64 x.2)).toArray := by simp
 rw [e1] at O2
 have hl : (xs.set n x).length = xs.length := by simp
 show OwnT H A (tRow 38 2 (.slice _ (xs.set n x).length cap) (xs.set n x).length (flatP (xs.set n x)) :: R) _
 rw [hl]
 refine O2.blkRow h1 h2 (by simp [h3]) ?_
 rw [List.take_set, List.take_set, h4, Z7y hn]

/-- What 'put' brings. -/
def PutE (N N' : List Nd) (room : Int) (l p : Nat) (x : Pr) (L : List (List Pr)) (g : List Nat) (es : List Pr) (er lv : Int) : Prop :=
 (er = 6 ∧ (∃ M, N' = N ++ M ∧ M.length ≤ 2 * (l + 1)) ∧ ¬ (N.length + 2 * (l + 1) ≤ 511 ∧ ((N.length + 2 * (l + 1) : Nat) : Int) ≤ room)) ∨ (er = 0 ∧ lv = l ∧ PutR N N' l p x L g es)
theorem Z4s {N M : List Nd} {room : Int} {l p : Nat} {x : Pr} {L : List (List Pr)} {g : List Nat} {es ys : List Pr} {er : Int} (hM : M.length ≤ (parts ys).length)
 (hA : (er = 6 ∧ es = [] ∧ ¬ (N.length + (parts ys).length ≤ 511 ∧ ((N.length + (parts ys).length : Nat) : Int) ≤ room)) ∨ (er = 0 ∧ M = newN l (parts ys) ∧ es = outs (parts ys) N.length)) (hp : PutR N (N ++ newN l (parts ys)) l p x L g (outs (parts ys) N.length)) : PutE N (N ++ M) room l p x L g es er l := by
 have h2 := Z1y ys
 rcases hA with ⟨rfl, rfl, h⟩ | ⟨rfl, rfl, rfl⟩
 · exact .inl ⟨rfl, ⟨M, rfl, by omega⟩, fun h3 => h (by omega)⟩
 · exact .inr ⟨rfl, rfl, hp⟩

set_option maxRecDepth 100000 in
set_option maxHeartbeats 800000 in
theorem Z7a {H : Nat} {A0 : World} {R : List Thing} {sb cap : Nat} {room : Int} {B : Option Addr} {vs : List Value} {N : List Nd} {l p : Nat} {x : Pr} {L : List (List Pr)} {g : List Nat} {q0 : Int} (w : World) (O : OwnT H A0 (shT sb room B cap vs N R) w) (hT : Tr N l p L g) (hu : Up L.flatten) (hgn : g.Nodup) (h7 : l ≤ 7) (hN : N.length ≤ 511) (hwf : ∀ y ∈ L.flatten, y.1 < 18446744073709551616 ∧ y.2 < 18446744073709551616) (hx : x.1 < 18446744073709551616 ∧ x.2 < 18446744073709551616) (h0 : q0 < 0 ∨ q0 = l) (hl0 : l = 0) : Calls Try.prog 56 #[.iface 24 (.pointer (some ⟨sb, 0, none⟩)), .int .i64 p, .int .i64 q0, .agg #[.int .u64 x.1, .int .u64 x.2]] w fun e w' => ∃ N' o es er lv B' cap' vs', e = .returned (.tuple #[o, .int .i64 lv, .int .i64 er]) ∧ OwnT H A0 (tPs o es :: shT sb room B' cap' vs' N' R) w' ∧ PutE N N' room l p x L g es er lv := by
 obtain ⟨xs, hnd, hne, h15, hux, hg, hxw⟩ := Z39 hT hu h7 hN hwf
 obtain ⟨n, hpl⟩ := Z4a xs x.1 (Z45 hux)
 have hn15 := hpl.le
 refine Z0c Try.func56 rfl 100 rfl (by rfl) ?_
 intro a1 k hargs
 have e0 : a1.eval (.tmp 0) = .iface 24 (.pointer (some ⟨sb, 0, none⟩)) := hargs 0 _ rfl
 have e1 : a1.eval (.tmp 1) = .int .i64 ↑p := hargs 1 _ rfl
 have e2 : a1.eval (.tmp 2) = .int .i64 q0 := hargs 2 _ rfl
 have e3 : a1.eval (.tmp 3) = .agg #[.int .u64 ↑x.1, .int .u64 ↑x.2] := hargs 3 _ rfl
 clear hargs
 refine wp_seq ?_
 refine wp_region_lit ?_
 have hE := Env.refl a1 [7, 8, 9, 10]
 refine Z0k O (cs := #[.int .u64 ↑x.1, .int .u64 ↑x.2]) (t := 38) 7 hE k rfl (by rfl) (by rfl) rfl (by simp [go_sem, ↓IntWalk.iteOmega, ev (hE.g e3)]) ?_
 clear O
 intro xb a2 w3 O hE e7 kp
 refine sd 8 hE k (Z01 rfl rfl) ?_
 intro a4 hE e8 kp
 replace e7 := kt kp e7
 refine sd 9 hE k (Z01 rfl rfl) ?_
 intro a5 hE e9 kp
 replace e7 := kt kp e7
 refine sd 10 hE k (Z01 rfl rfl) ?_
 intro a6 hE e10 kp
 replace e7 := kt kp e7
 refine wpList_nil ?_
 replace e0 := hE.g e0; replace e1 := hE.g e1; replace e2 := hE.g e2
 replace k := k.env hE
 clear hE e3 e10
 refine Z00 ?_
 replace O : OwnT _ _ ((tBlk sb 28 #[.slice B N.length cap, .int .i64 room]) :: (tRow 125 2 (.slice B N.length cap) N.length (leafV vs N)) :: (tPool vs N) :: (tBlk xb 38 #[.int .u64 ↑x.1, .int .u64 ↑x.2]) :: R) w3 := OwnT.pickR (L := [_, _, _, _]) (R := R) O [1, 2, 3, 0] (by decide)
 refine wp_seq ?_
 refine wp_region_lit ?_
 have hE := Env.refl a6 [20, 21, 22, 23, 19, 24, 25, 11, 12]
 refine zm 20 hE k e0 ?_
 intro a7 hE e20 kp
 refine zm 21 hE k e1 ?_
 intro a8 hE e21 kp
 replace e20 := kt kp e20
 refine zm 22 hE k e2 ?_
 intro a9 hE e22 kp
 replace e20 := kt kp e20; replace e21 := kt kp e21
 apply Z08 23 hE k rfl (by rfl) (by rfl) rfl
 case h =>
  simp [go_sem, ↓IntWalk.iteOmega, ev e20, ev e21, ev e22]
  with_reducible exact ⟨rfl, rfl⟩
 case hc => exact tread (R := _ :: R) _ O (by omega) hnd hg hne h15 (fun y hy => (hxw y hy).1) h0
 clear O
 rintro e w11 ⟨v, rfl, O⟩
 obtain ⟨Bv, cv, rfl, hv1, hv2, -, hv3⟩ := Z0r (OwnT.t0 O)
 refine ⟨_, rfl, ?_⟩
 intro a10 hE e23 kp
 refine sd 19 hE k (Z03 rfl e23) ?_
 intro a12 hE e19 kp
 apply Z02 24 hE k rfl rfl rfl rfl
 case h =>
  simp [go_sem, ↓IntWalk.iteOmega, ev e19]
  with_reducible rfl
 intro a13 hE e24 kp
 replace e19 := kt kp e19
 apply Z02 25 hE k rfl rfl rfl rfl
 case h =>
  simp [go_sem, ↓IntWalk.iteOmega, ev e19]
  with_reducible rfl
 intro a14 hE e25 kp
 replace e24 := kt kp e24
 refine Z0k O (cs := #[.int .i64 0, .slice none 0 0]) (t := 125) 11 hE k rfl (by rfl) (by rfl) rfl (by simp [go_sem, ↓IntWalk.iteOmega]) ?_
 clear O
 intro lb a15 w16 O hE e11 kp
 replace e24 := kt kp e24; replace e25 := kt kp e25
 have q0 : w16.cell? ⟨lb, 0, none⟩ = some (.int .i64 0) := (OwnT.blk O 0 rfl).cell 0
 have z0 : w16.frozen? ⟨lb, 0, none⟩ = false := (OwnT.blk O 0 rfl).frozen 0
 have q1 : w16.cell? ⟨lb, 1, none⟩ = some (.slice none 0 0) := (OwnT.blk O 0 rfl).cell 1
 have z1 : w16.frozen? ⟨lb, 1, none⟩ = false := (OwnT.blk O 0 rfl).frozen 1
 refine Z0y (w' := ((w16.setCell ⟨lb, 0, none⟩ (.int .i64 ↑l)).setCell ⟨lb, 1, none⟩ (.slice Bv xs.length cv))) hE rfl rfl (by simp [go_sem, ↓IntWalk.iteOmega, ev e11, ev e24, q0, z0, q1, z1]) ?_
 replace O := OwnT.push 0 rfl (((OwnT.pull O 0 rfl).set 0 (.int .i64 ↑l)).set 1 (.slice Bv xs.length cv))
 clear q0 z0 q1 z1
 generalize ((w16.setCell ⟨lb, 0, none⟩ (.int .i64 ↑l)).setCell ⟨lb, 1, none⟩ (.slice Bv xs.length cv)) = w17 at O ⊢
 replace O : OwnT _ _ ((tBlk lb 125 #[.int .i64 ↑l, .slice Bv xs.length cv]) :: (tPs (.slice Bv xs.length cv) xs) :: (tBlk sb 28 #[.slice B N.length cap, .int .i64 room]) :: (tRow 125 2 (.slice B N.length cap) N.length (leafV vs N)) :: (tPool vs N) :: (tBlk xb 38 #[.int .u64 ↑x.1, .int .u64 ↑x.2]) :: R) w17 := O
 refine sd 12 hE k (Z01 rfl e25) ?_
 intro a18 hE e12 kp
 replace e11 := kt kp e11
 refine wpList_nil ?_
 replace e0 := hE.g e0; replace e7 := hE.g e7
 replace k := k.env hE
 clear hE e1 e2
 refine Z00 (wp_seq ?_)
 refine wp_seq ?_
 refine wp_region_lit ?_
 have hE := Env.refl a18 [26, 27]
 refine zm 26 hE k e12 ?_
 intro a19 hE e26 kp
 refine sd 27 hE k (Z06 (Z1f rfl e26 rfl) (decide_eq_false (by omega))) ?_
 intro a20 hE e27 kp
 refine wpList_nil ?_
 replace e0 := hE.g e0; replace e7 := hE.g e7; replace e11 := hE.g e11; replace e12 := hE.g e12
 replace k := k.env hE
 clear hE
 refine Z00 ?_
 refine Z05 e27 rfl ?_
 refine wp_skip ?_
 refine Z00 ?_
 replace O : OwnT _ _ ((tPs (.slice Bv xs.length cv) xs) :: (tBlk sb 28 #[.slice B N.length cap, .int .i64 room]) :: (tRow 125 2 (.slice B N.length cap) N.length (leafV vs N)) :: (tPool vs N) :: (tBlk lb 125 #[.int .i64 ↑l, .slice Bv xs.length cv]) :: (tBlk xb 38 #[.int .u64 ↑x.1, .int .u64 ↑x.2]) :: R) w17 := OwnT.pickR (L := [_, _, _, _, _, _]) (R := R) O [1, 2, 3, 4, 0, 5] (by decide)
 obtain ⟨gv, ev⟩ : ∃ gv, Bv = some ⟨gv, 0, none⟩ := by
  obtain ⟨g2, c2, _, e2, _⟩ := Z17 (OwnT.t0 O : World.ownsRow _ 0 38 2 _ xs.length _) (List.length_pos_iff.2 hne)
  injection e2 with e2; exact ⟨g2, e2⟩
 subst ev
 obtain ⟨_, _, e2, -, -, hrow, -⟩ := Z0r (OwnT.t0 O)
 injection e2 with e2 _ e3
 subst e2 e3
 obtain ⟨bb, hbb⟩ : ∃ b, decide (n < xs.length ∧ keyAt xs n = x.1) = b := ⟨_, rfl⟩
 refine wp_seq ?_
 refine wp_region_lit ?_
 have hE := Env.refl a20 [30, 31, 32, 33, 29, 34, 35, 13, 14]
 apply Z02 30 hE k rfl rfl rfl rfl
 case h =>
  have q0 : w17.cell? ⟨lb, 0, none⟩ = some (.int .i64 ↑l) := (OwnT.blk O 4 rfl).cell 0
  have q1 : w17.cell? ⟨lb, 1, none⟩ = some (.slice (some ⟨gv, 0, none⟩) xs.length cv) := (OwnT.blk O 4 rfl).cell 1
  simp [go_sem, ↓IntWalk.iteOmega, ev (hE.g e11), q0, q1]
  with_reducible rfl
 intro a21 hE e30 kp
 apply Z02 31 hE k rfl rfl rfl rfl
 case h =>
  simp [go_sem, ↓IntWalk.iteOmega, ev (hE.g e7)]
  with_reducible rfl
 intro a22 hE e31 kp
 replace e30 := kt kp e30
 apply Z02 32 hE k rfl rfl rfl rfl
 case h =>
  have q0 : w17.cell? ⟨xb, 0, none⟩ = some (.int .u64 ↑x.1) := (OwnT.blk O 5 rfl).cell 0
  simp [go_sem, ↓IntWalk.iteOmega, ev e31, q0]
  with_reducible rfl
 intro a23 hE e32 kp
 replace e30 := kt kp e30
 apply Z08 33 hE k rfl (by rfl) (by rfl) rfl
 case h =>
  simp [go_sem, ↓IntWalk.iteOmega, ev e30, ev e32]
  with_reducible exact ⟨rfl, rfl⟩
 case hc => exact Z32 (l : Int) (some ⟨gv, 0, none⟩) xs.length cv xs _ rfl (by omega) hrow x.1 n hpl
 rintro e w25 ⟨rfl, RE⟩
 replace hrow := hrow.below RE
 replace O := OwnT.ext O RE
 refine ⟨_, congrArg (fun b => Ending.returned (.tuple #[.int .i64 (n : Int), .bool b])) hbb, ?_⟩
 intro a24 hE e33 kp
 refine sd 29 hE k (Z03 rfl e33) ?_
 intro a26 hE e29 kp
 apply Z02 34 hE k rfl rfl rfl rfl
 case h =>
  simp [go_sem, ↓IntWalk.iteOmega, ev e29]
  with_reducible rfl
 intro a27 hE e34 kp
 replace e29 := kt kp e29
 apply Z02 35 hE k rfl rfl rfl rfl
 case h =>
  simp [go_sem, ↓IntWalk.iteOmega, ev e29]
  with_reducible rfl
 intro a28 hE e35 kp
 replace e34 := kt kp e34
 refine sd 13 hE k (Z01 rfl e34) ?_
 intro a29 hE e13 kp
 replace e35 := kt kp e35
 refine sd 14 hE k (Z01 rfl e35) ?_
 intro a30 hE e14 kp
 replace e13 := kt kp e13
 refine wpList_nil ?_
 replace e0 := hE.g e0; replace e7 := hE.g e7; replace e11 := hE.g e11
 replace k := k.env hE
 clear hE e12 e27
 refine Z00 (wp_seq ?_)
 refine wp_block ?_
 have hput : ∀ ys, insP x xs = ys → PutR N (N ++ newN l (parts ys)) l p x L g (outs (parts ys) N.length) ∧ ys.length ≤ 16 := by
  intro ys e; subst e hl0; obtain ⟨h1, h2, _⟩ := put_leaf (x := x) hT hnd; exact ⟨h1, h2⟩
 refine wp_seq ?_
 refine wp_region_lit ?_
 have hE := Env.refl a30 [44, 45, 46, 43]
 apply Z02 44 hE k rfl rfl rfl rfl
 case h =>
  simp [go_sem, ↓IntWalk.iteOmega, ev (hE.g e11)]
  with_reducible rfl
 intro a31 hE e44 kp
 apply Z02 45 hE k rfl rfl rfl rfl
 case h =>
  have q0 : w25.cell? ⟨lb, 0, none⟩ = some (.int .i64 ↑l) := (OwnT.blk O 4 rfl).cell 0
  simp [go_sem, ↓IntWalk.iteOmega, ev e44, q0]
  with_reducible rfl
 intro a32 hE e45 kp
 refine sd 46 hE k (Z06 (Z1m rfl e45 rfl) (decide_eq_false (by omega))) ?_
 intro a33 hE e46 kp
 refine sd 43 hE k (Z01 rfl e46) ?_
 intro a34 hE e43 kp
 refine wpList_nil ?_
 replace e0 := hE.g e0; replace e7 := hE.g e7; replace e11 := hE.g e11; replace e13 := hE.g e13; replace e14 := hE.g e14
 replace k := k.env hE
 clear hE
 refine Z00 ?_
 refine Z05 e43 rfl ?_
 cases bb with
 | true =>
  have hy := of_decide_eq_true hbb
  have hnI : (n : Int) < (xs.length : Int) := by omega
  refine wp_seq ?_
  refine wp_region_lit ?_
  have hE := Env.refl a34 [81, 80]
  refine zm 81 hE k e14 ?_
  intro a35 hE e81 kp
  refine sd 80 hE k (Z01 rfl e81) ?_
  intro a36 hE e80 kp
  refine wpList_nil ?_
  replace e0 := hE.g e0; replace e7 := hE.g e7; replace e11 := hE.g e11; replace e13 := hE.g e13
  replace k := k.env hE
  clear hE e14 e43
  refine Z00 ?_
  refine Z0g e80 rfl ?_
  obtain ⟨ys, hys⟩ : ∃ ys, xs.set n x = ys := ⟨_, rfl⟩
  have hyl : ys.length = xs.length := by rw [← hys]; simp
  obtain ⟨hput, hy16⟩ := hput ys (by rw [← hys]; exact insP_yes hux hpl hy)
  obtain ⟨u0, v0, q0_, q1_, q2_, q3_⟩ := (OwnT.setPair (x := x) O hy.1).1
  refine wp_region_lit ?_
  have hE := Env.refl a36 [82, 83, 84, 85, 86]
  apply Z02 82 hE k rfl rfl rfl rfl
  case h =>
   simp [go_sem, ↓IntWalk.iteOmega, ev (hE.g e11)]
   with_reducible rfl
  intro a37 hE e82 kp
  apply Z02 83 hE k rfl rfl rfl rfl
  case h =>
   have q0 : w25.cell? ⟨lb, 1, none⟩ = some (.slice (some ⟨gv, 0, none⟩) xs.length cv) := (OwnT.blk O 4 rfl).cell 1
   simp [go_sem, ↓IntWalk.iteOmega, ev e82, q0]
   with_reducible rfl
  intro a38 hE e83 kp
  refine zm 84 hE k e13 ?_
  intro a39 hE e84 kp
  replace e83 := kt kp e83
  apply Z02 85 hE k rfl rfl rfl rfl
  case h =>
   have q0 : w25.cell? ⟨xb, 0, none⟩ = some (.int .u64 ↑x.1) := (OwnT.blk O 5 rfl).cell 0
   have q1 : w25.cell? ⟨xb, 1, none⟩ = some (.int .u64 ↑x.2) := (OwnT.blk O 5 rfl).cell 1
   simp [go_sem, ↓IntWalk.iteOmega, ev (hE.g e7), q0, q1]
   with_reducible rfl
  intro a40 hE e85 kp
  replace e83 := kt kp e83; replace e84 := kt kp e84
  apply Z02 86 hE k rfl rfl rfl rfl
  case h =>
   simp [go_sem, ↓IntWalk.iteOmega, ev e83, ev e84]
   with_reducible rfl
  intro a41 hE e86 kp
  replace e85 := kt kp e85
  refine Z0y (w' := ((w25.setCell ⟨gv, n * 2, none⟩ (.int .u64 x.1)).setCell ⟨gv, n * 2 + 1, none⟩ (.int .u64 x.2))) hE rfl rfl ?_ ?_
  · simp [go_sem, ↓IntWalk.iteOmega, ev e86, ev e85, q0_, q1_, q2_, q3_]
  replace O := (OwnT.setPair (x := x) O hy.1).2
  rw [hys, ← hyl] at O
  clear q0_ q1_ q2_ q3_
  generalize ((w25.setCell ⟨gv, n * 2, none⟩ (.int .u64 x.1)).setCell ⟨gv, n * 2 + 1, none⟩ (.int .u64 x.2)) = w42 at O ⊢
  refine wpList_nil ?_
  replace e0 := hE.g e0; replace e11 := hE.g e11
  replace k := k.env hE
  clear hE e7 e13 e80 e85 e86
  refine Z0t ?_
  refine Z00 (wp_seq ?_)
  refine wp_region_lit ?_
  have hE := Env.refl a41 [88, 89, 90, 91, 92, 93, 87, 94, 95, 18, 12]
  refine zm 88 hE k e0 ?_
  intro a43 hE e88 kp
  apply Z02 89 hE k rfl rfl rfl rfl
  case h =>
   simp [go_sem, ↓IntWalk.iteOmega, ev (hE.g e11)]
   with_reducible rfl
  intro a44 hE e89 kp
  replace e88 := kt kp e88
  apply Z02 90 hE k rfl rfl rfl rfl
  case h =>
   have q0 : w42.cell? ⟨lb, 0, none⟩ = some (.int .i64 ↑l) := (OwnT.blk O 4 rfl).cell 0
   simp [go_sem, ↓IntWalk.iteOmega, ev e89, q0]
   with_reducible rfl
  intro a45 hE e90 kp
  replace e88 := kt kp e88
  apply Z02 91 hE k rfl rfl rfl rfl
  case h =>
   simp [go_sem, ↓IntWalk.iteOmega, ev (hE.g e11)]
   with_reducible rfl
  intro a46 hE e91 kp
  replace e88 := kt kp e88; replace e90 := kt kp e90
  apply Z02 92 hE k rfl rfl rfl rfl
  case h =>
   have q0 : w42.cell? ⟨lb, 1, none⟩ = some (.slice (some ⟨gv, 0, none⟩) ys.length cv) := (OwnT.blk O 4 rfl).cell 1
   simp [go_sem, ↓IntWalk.iteOmega, ev e91, q0]
   with_reducible rfl
  intro a47 hE e92 kp
  replace e88 := kt kp e88; replace e90 := kt kp e90
  apply Z08 93 hE k rfl (by rfl) (by rfl) rfl
  case h =>
   simp [go_sem, ↓IntWalk.iteOmega, ev e88, ev e90, ev e92]
   with_reducible exact ⟨rfl, rfl⟩
  case hc => exact tadded (R := _ :: _ :: R) _ O (by omega) hy16
  clear O
  rintro e w49 ⟨M, es, er, o, B2, cap2, vs2, rfl, hA, O⟩
  refine ⟨_, rfl, ?_⟩
  intro a48 hE e93 kp
  refine sd 87 hE k (Z03 rfl e93) ?_
  intro a50 hE e87 kp
  apply Z02 94 hE k rfl rfl rfl rfl
  case h =>
   simp [go_sem, ↓IntWalk.iteOmega, ev e87]
   with_reducible rfl
  intro a51 hE e94 kp
  replace e87 := kt kp e87
  apply Z02 95 hE k rfl rfl rfl rfl
  case h =>
   simp [go_sem, ↓IntWalk.iteOmega, ev e87]
   with_reducible rfl
  intro a52 hE e95 kp
  replace e94 := kt kp e94
  refine sd 18 hE k (Z01 rfl e94) ?_
  intro a53 hE e18 kp
  replace e95 := kt kp e95
  refine sd 12 hE k (Z01 rfl e95) ?_
  intro a54 hE e12 kp
  replace e18 := kt kp e18
  refine wpList_nil ?_
  replace e11 := hE.g e11
  replace k := k.env hE
  clear hE e0
  refine Z00 (wp_seq ?_)
  refine Z0a (R := Ext) (w0 := w49) [[], [], [1], [], [0], [0, 1, 2, 4], [0, 1, 2, 3, 4, 5]] [96, 97, 98, 99, 8, 9, 10] Ext.refl (fun _ _ _ => Ext.trans) (Ext.drew _) (by kernel_rfl) ?_
  apply bd 96 k rfl rfl rfl
  case h =>
   intro ax wx hE hR hF
   exact Z03 rfl (hE.g e18)
  apply bd 97 k rfl rfl rfl
  case h =>
   intro ax wx hE hR hF
   simp [go_sem, ↓IntWalk.iteOmega, ev (hE.g e11)]
   with_reducible rfl
  apply bd 98 k rfl rfl rfl
  case h =>
   intro ax wx hE hR hF
   have e97 := zhF hF 1 97 ml0
   have q0 : wx.cell? ⟨lb, 0, none⟩ = some (.int .i64 ↑l) := (OwnT.blk (OwnT.ext O hR) 5 rfl).cell 0
   simp [go_sem, ↓IntWalk.iteOmega, ev e97, q0]
   with_reducible rfl
  apply bd 99 k rfl rfl rfl
  case h =>
   intro ax wx hE hR hF
   exact Z03 rfl (hE.g e12)
  apply bd 8 k rfl rfl rfl
  case h =>
   intro ax wx hE hR hF
   have e96 := zhF hF 0 96 ml3
   exact Z01 rfl e96
  apply bd 9 k rfl rfl rfl
  case h =>
   intro ax wx hE hR hF
   have e98 := zhF hF 2 98 ml2
   exact Z01 rfl e98
  apply bd 10 k rfl rfl rfl
  case h =>
   intro ax wx hE hR hF
   have e99 := zhF hF 3 99 ml2
   exact Z01 rfl e99
  apply Build.stop
  refine ⟨by kernel_rfl, .inl ⟨rfl, ?_⟩⟩
  intro a55 w56 hE R hF
  have e8 : a55.eval (.tmp 8) = _ := hF 4 (det 8 _) ml2
  have e9 : a55.eval (.tmp 9) = _ := hF 5 (det 9 _) ml1
  have e10 : a55.eval (.tmp 10) = _ := hF 6 (det 10 _) ml0
  clear hF
  replace O := OwnT.ext O R
  clear R
  replace k := k.env hE
  clear hE e11 e12 e18
  refine Z00 ?_
  refine wp_ret ?_
  have O2 := OwnT.pickR (L := [_, _, _, _, _, _, _]) (R := R) O [0, 2, 3, 4] (by decide)
  obtain ⟨hM2, hA⟩ := hA
  refine Z3f rfl k e8 e9 e10 ?_
  exact ⟨_, o, es, er, _, B2, cap2, vs2, rfl, O2, Z4s hM2 hA hput⟩
 | false =>
  have hy := of_decide_eq_false hbb
  obtain ⟨ys, hys⟩ : ∃ ys, xs.take n ++ x :: xs.drop n = ys := ⟨_, rfl⟩
  have hyl : ys.length = xs.length + 1 := by rw [← hys]; simp; omega
  have hyf : (flatP xs).take (n * 2) ++ ([Value.int .u64 (x.1 : Int), Value.int .u64 (x.2 : Int)] ++ (flatP xs).drop (n * 2)) = flatP ys := by rw [← hys, Z2e, Z3x, ← Z3y]; rfl
  obtain ⟨hput, hy16⟩ := hput ys (by rw [← hys]; exact insP_no hux hpl hy)
  refine wp_seq ?_
  refine wp_region_lit ?_
  have hE := Env.refl a34 [81, 80]
  refine zm 81 hE k e14 ?_
  intro a57 hE e81 kp
  refine sd 80 hE k (Z01 rfl e81) ?_
  intro a58 hE e80 kp
  refine wpList_nil ?_
  replace e0 := hE.g e0; replace e7 := hE.g e7; replace e11 := hE.g e11; replace e13 := hE.g e13
  replace k := k.env hE
  clear hE e14 e43
  refine Z00 ?_
  refine Z05 e80 rfl ?_
  refine wp_region_lit ?_
  have hE := Env.refl a58 [36, 37, 38, 39, 40, 41, 42]
  apply Z02 36 hE k rfl rfl rfl rfl
  case h =>
   simp [go_sem, ↓IntWalk.iteOmega, ev (hE.g e11)]
   with_reducible rfl
  intro a59 hE e36 kp
  apply Z02 37 hE k rfl rfl rfl rfl
  case h =>
   have q0 : w25.cell? ⟨lb, 1, none⟩ = some (.slice (some ⟨gv, 0, none⟩) xs.length cv) := (OwnT.blk O 4 rfl).cell 1
   simp [go_sem, ↓IntWalk.iteOmega, ev e36, q0]
   with_reducible rfl
  intro a60 hE e37 kp
  refine zm 38 hE k e13 ?_
  intro a61 hE e38 kp
  replace e37 := kt kp e37
  apply Z02 39 hE k rfl rfl rfl rfl
  case h =>
   have q0 : w25.cell? ⟨xb, 0, none⟩ = some (.int .u64 ↑x.1) := (OwnT.blk O 5 rfl).cell 0
   have q1 : w25.cell? ⟨xb, 1, none⟩ = some (.int .u64 ↑x.2) := (OwnT.blk O 5 rfl).cell 1
   simp [go_sem, ↓IntWalk.iteOmega, ev (hE.g e7), q0, q1]
   with_reducible rfl
  intro a62 hE e39 kp
  replace e37 := kt kp e37; replace e38 := kt kp e38
  refine Z2j (m := 1) (c := 1) O (cs := #[.int .u64 ↑x.1, .int .u64 ↑x.2]) (t := 38) 40 hE k rfl (by rfl) (by rfl) rfl (by simp [go_sem, ↓IntWalk.iteOmega, ev e39]) ?_
  clear O
  intro gn a63 w64 O hE e40 kp
  replace e37 := kt kp e37; replace e38 := kt kp e38
  apply Z08 41 hE k rfl (by rfl) (by rfl) rfl
  case h =>
   simp [go_sem, ↓IntWalk.iteOmega, ev e37, ev e38, ev e40]
   with_reducible exact ⟨rfl, rfl⟩
  case hc => exact Z6u _ xs.length n gn (flatP xs) [.int .u64 x.1, .int .u64 x.2] _ (OwnT.pickR (L := [_, _, _, _, _, _, _]) (R := R) O [1, 0, 2, 3, 4, 5, 6] (by decide)) hn15 (by omega) rfl (Z1l xs) (by intro u hu; simp at hu; rcases hu with rfl | rfl <;> rfl)
  clear O
  rintro e w66 ⟨v', rfl, O⟩
  obtain ⟨g3, c3, rfl⟩ := OwnT.slice0 O (by omega)
  rw [hyf, ← hyl] at O
  refine ⟨.slice (some ⟨g3, 0, none⟩) ys.length c3, by rw [hyl], ?_⟩
  intro a65 hE e41 kp
  apply Z02 42 hE k rfl rfl rfl rfl
  case h =>
   simp [go_sem, ↓IntWalk.iteOmega, ev (hE.g e11)]
   with_reducible rfl
  intro a67 hE e42 kp
  replace e41 := kt kp e41
  have q0 : w66.cell? ⟨lb, 1, none⟩ = some (.slice (some ⟨gv, 0, none⟩) xs.length cv) := (OwnT.blk O 5 rfl).cell 1
  have q1 : w66.frozen? ⟨lb, 1, none⟩ = false := (OwnT.blk O 5 rfl).frozen 1
  refine Z1b (off := 1) (v := .slice (some ⟨g3, 0, none⟩) ys.length c3) O 5 rfl hE rfl rfl (by simp [go_sem, ↓IntWalk.iteOmega, ev e41, ev e42, q0, q1]) ?_
  clear q0 q1
  clear O
  intro w68 O
  replace O : OwnT _ _ ((tPs (.slice (some ⟨g3, 0, none⟩) ys.length c3) ys) :: (tBlk gn 38 #[.int .u64 ↑x.1, .int .u64 ↑x.2]) :: (tBlk sb 28 #[.slice B N.length cap, .int .i64 room]) :: (tRow 125 2 (.slice B N.length cap) N.length (leafV vs N)) :: (tPool vs N) :: (tBlk lb 125 #[.int .i64 ↑l, .slice (some ⟨g3, 0, none⟩) ys.length c3]) :: (tBlk xb 38 #[.int .u64 ↑x.1, .int .u64 ↑x.2]) :: R) w68 := O
  refine wpList_nil ?_
  replace e0 := hE.g e0; replace e11 := hE.g e11
  replace k := k.env hE
  clear hE e7 e13 e80 e41 e42
  refine Z0t ?_
  refine Z00 ?_
  replace O : OwnT _ _ ((tPs (.slice (some ⟨g3, 0, none⟩) ys.length c3) ys) :: (tBlk sb 28 #[.slice B N.length cap, .int .i64 room]) :: (tRow 125 2 (.slice B N.length cap) N.length (leafV vs N)) :: (tPool vs N) :: (tBlk lb 125 #[.int .i64 ↑l, .slice (some ⟨g3, 0, none⟩) ys.length c3]) :: (tBlk xb 38 #[.int .u64 ↑x.1, .int .u64 ↑x.2]) :: R) w68 := OwnT.pickR (L := [_, _, _, _, _, _, _]) (R := R) O [0, 2, 3, 4, 5, 6] (by decide)
  refine wp_seq ?_
  refine wp_region_lit ?_
  have hE := Env.refl a67 [88, 89, 90, 91, 92, 93, 87, 94, 95, 18, 12]
  refine zm 88 hE k e0 ?_
  intro a69 hE e88 kp
  apply Z02 89 hE k rfl rfl rfl rfl
  case h =>
   simp [go_sem, ↓IntWalk.iteOmega, ev (hE.g e11)]
   with_reducible rfl
  intro a70 hE e89 kp
  replace e88 := kt kp e88
  apply Z02 90 hE k rfl rfl rfl rfl
  case h =>
   have q0 : w68.cell? ⟨lb, 0, none⟩ = some (.int .i64 ↑l) := (OwnT.blk O 4 rfl).cell 0
   simp [go_sem, ↓IntWalk.iteOmega, ev e89, q0]
   with_reducible rfl
  intro a71 hE e90 kp
  replace e88 := kt kp e88
  apply Z02 91 hE k rfl rfl rfl rfl
  case h =>
   simp [go_sem, ↓IntWalk.iteOmega, ev (hE.g e11)]
   with_reducible rfl
  intro a72 hE e91 kp
  replace e88 := kt kp e88; replace e90 := kt kp e90
  apply Z02 92 hE k rfl rfl rfl rfl
  case h =>
   have q0 : w68.cell? ⟨lb, 1, none⟩ = some (.slice (some ⟨g3, 0, none⟩) ys.length c3) := (OwnT.blk O 4 rfl).cell 1
   simp [go_sem, ↓IntWalk.iteOmega, ev e91, q0]
   with_reducible rfl
  intro a73 hE e92 kp
  replace e88 := kt kp e88; replace e90 := kt kp e90
  apply Z08 93 hE k rfl (by rfl) (by rfl) rfl
  case h =>
   simp [go_sem, ↓IntWalk.iteOmega, ev e88, ev e90, ev e92]
   with_reducible exact ⟨rfl, rfl⟩
  case hc => exact tadded (R := _ :: _ :: R) _ O (by omega) hy16
  clear O
  rintro e w75 ⟨M, es, er, o, B2, cap2, vs2, rfl, hA, O⟩
  refine ⟨_, rfl, ?_⟩
  intro a74 hE e93 kp
  refine sd 87 hE k (Z03 rfl e93) ?_
  intro a76 hE e87 kp
  apply Z02 94 hE k rfl rfl rfl rfl
  case h =>
   simp [go_sem, ↓IntWalk.iteOmega, ev e87]
   with_reducible rfl
  intro a77 hE e94 kp
  replace e87 := kt kp e87
  apply Z02 95 hE k rfl rfl rfl rfl
  case h =>
   simp [go_sem, ↓IntWalk.iteOmega, ev e87]
   with_reducible rfl
  intro a78 hE e95 kp
  replace e94 := kt kp e94
  refine sd 18 hE k (Z01 rfl e94) ?_
  intro a79 hE e18 kp
  replace e95 := kt kp e95
  refine sd 12 hE k (Z01 rfl e95) ?_
  intro a80 hE e12 kp
  replace e18 := kt kp e18
  refine wpList_nil ?_
  replace e11 := hE.g e11
  replace k := k.env hE
  clear hE e0
  refine Z00 (wp_seq ?_)
  refine Z0a (R := Ext) (w0 := w75) [[], [], [1], [], [0], [0, 1, 2, 4], [0, 1, 2, 3, 4, 5]] [96, 97, 98, 99, 8, 9, 10] Ext.refl (fun _ _ _ => Ext.trans) (Ext.drew _) (by kernel_rfl) ?_
  apply bd 96 k rfl rfl rfl
  case h =>
   intro ax wx hE hR hF
   exact Z03 rfl (hE.g e18)
  apply bd 97 k rfl rfl rfl
  case h =>
   intro ax wx hE hR hF
   simp [go_sem, ↓IntWalk.iteOmega, ev (hE.g e11)]
   with_reducible rfl
  apply bd 98 k rfl rfl rfl
  case h =>
   intro ax wx hE hR hF
   have e97 := zhF hF 1 97 ml0
   have q0 : wx.cell? ⟨lb, 0, none⟩ = some (.int .i64 ↑l) := (OwnT.blk (OwnT.ext O hR) 5 rfl).cell 0
   simp [go_sem, ↓IntWalk.iteOmega, ev e97, q0]
   with_reducible rfl
  apply bd 99 k rfl rfl rfl
  case h =>
   intro ax wx hE hR hF
   exact Z03 rfl (hE.g e12)
  apply bd 8 k rfl rfl rfl
  case h =>
   intro ax wx hE hR hF
   have e96 := zhF hF 0 96 ml3
   exact Z01 rfl e96
  apply bd 9 k rfl rfl rfl
  case h =>
   intro ax wx hE hR hF
   have e98 := zhF hF 2 98 ml2
   exact Z01 rfl e98
  apply bd 10 k rfl rfl rfl
  case h =>
   intro ax wx hE hR hF
   have e99 := zhF hF 3 99 ml2
   exact Z01 rfl e99
  apply Build.stop
  refine ⟨by kernel_rfl, .inl ⟨rfl, ?_⟩⟩
  intro a81 w82 hE R hF
  have e8 : a81.eval (.tmp 8) = _ := hF 4 (det 8 _) ml2
  have e9 : a81.eval (.tmp 9) = _ := hF 5 (det 9 _) ml1
  have e10 : a81.eval (.tmp 10) = _ := hF 6 (det 10 _) ml0
  clear hF
  replace O := OwnT.ext O R
  clear R
  replace k := k.env hE
  clear hE e11 e12 e18
  refine Z00 ?_
  refine wp_ret ?_
  have O2 := OwnT.pickR (L := [_, _, _, _, _, _, _]) (R := R) O [0, 2, 3, 4] (by decide)
  obtain ⟨hM2, hA⟩ := hA
  refine Z3f rfl k e8 e9 e10 ?_
  exact ⟨_, o, es, er, _, B2, cap2, vs2, rfl, O2, Z4s hM2 hA hput⟩
theorem Z7m {N N1 M : List Nd} {room : Int} {l l1 p : Nat} {x : Pr} {L : List (List Pr)} {g : List Nat} {es ys : List Pr} {er : Int} (hl1 : l = l1 + 1) (hN1 : ∃ M1, N1 = N ++ M1 ∧ M1.length ≤ 2 * (l1 + 1)) (hM : M.length ≤ (parts ys).length)
 (hA : (er = 6 ∧ es = [] ∧ ¬ (N1.length + (parts ys).length ≤ 511 ∧ ((N1.length + (parts ys).length : Nat) : Int) ≤ room)) ∨ (er = 0 ∧ M = newN l (parts ys) ∧ es = outs (parts ys) N1.length)) (hp : PutR N (N1 ++ newN (l1 + 1) (parts ys)) (l1 + 1) p x L g (outs (parts ys) N1.length)) : PutE N (N1 ++ M) room l p x L g es er (l : Int) := by
 subst hl1
 have h2 := Z1y ys
 obtain ⟨M1, rfl, hM1⟩ := hN1
 rw [List.length_append] at hA
 rcases hA with ⟨rfl, rfl, h⟩ | ⟨rfl, rfl, rfl⟩
 · exact .inl ⟨rfl, ⟨M1 ++ M, by rw [List.append_assoc], by rw [List.length_append]; omega⟩, fun h3 => h (by omega)⟩
 · rw [← List.length_append] at *
   exact .inr ⟨rfl, rfl, hp⟩
theorem Z23 (m : Nat) (w : World) (h : m ≤ 1000000) : (convert 30 3 (.int .u64 ((m : Nat) : Int))).run Try.prog w = .ok (.int .i64 ((m : Nat) : Int)) w := by
 simp [convert, run_underlying Try.underlying3, run_underlying Try.underlying30, Conv.intToInt, IntWalk.i64_in _ (show -9223372036854775808 ≤ (m : Int) ∧ (m : Int) ≤ 9223372036854775807 by omega)]
theorem Z7u {xs : List Pr} {k n : Nat} : max (if n < xs.length ∧ keyAt xs n = k then (n : Int) else (n : Int) - 1) 0 = (kidN xs k n : Nat) := by
 unfold kidN
 split
 · omega
 · omega

def PutOk (l : Nat) : Prop := ∀ {H : Nat} {A0 : World} {R : List Thing} {sb cap : Nat} {room : Int} {B : Option Addr} {vs : List Value} {N : List Nd} {p : Nat} {x : Pr} {L : List (List Pr)} {g : List Nat} {q0 : Int} (w : World) (_ : OwnT H A0 (shT sb room B cap vs N R) w) (_ : Tr N l p L g) (_ : Up L.flatten) (_ : g.Nodup) (_ : l ≤ 7) (_ : N.length ≤ 511) (_ : ∀ y ∈ L.flatten, y.1 < 18446744073709551616 ∧ y.2 < 18446744073709551616) (_ : x.1 < 18446744073709551616 ∧ x.2 < 18446744073709551616) (_ : q0 < 0 ∨ q0 = l), Calls Try.prog 56 #[.iface 24 (.pointer (some ⟨sb, 0, none⟩)), .int .i64 p, .int .i64 q0, .agg #[.int .u64 x.1, .int .u64 x.2]] w fun e w' => ∃ N' o es er lv B' cap' vs', e = .returned (.tuple #[o, .int .i64 lv, .int .i64 er]) ∧ OwnT H A0 (tPs o es :: shT sb room B' cap' vs' N' R) w' ∧ PutE N N' room l p x L g es er lv
set_option maxRecDepth 100000 in
set_option maxHeartbeats 800000 in
theorem Z79 {H : Nat} {A0 : World} {R : List Thing} {sb cap : Nat} {room : Int} {B : Option Addr} {vs : List Value} {N : List Nd} {l p : Nat} {x : Pr} {L : List (List Pr)} {g : List Nat} {q0 : Int} (w : World) (O : OwnT H A0 (shT sb room B cap vs N R) w) (hT : Tr N l p L g) (hu : Up L.flatten) (hgn : g.Nodup) (h7 : l ≤ 7) (hN : N.length ≤ 511) (hwf : ∀ y ∈ L.flatten, y.1 < 18446744073709551616 ∧ y.2 < 18446744073709551616) (hx : x.1 < 18446744073709551616 ∧ x.2 < 18446744073709551616) (h0 : q0 < 0 ∨ q0 = l) {l1 : Nat} (hl1 : l = l1 + 1) (ih : PutOk l1) : Calls Try.prog 56 #[.iface 24 (.pointer (some ⟨sb, 0, none⟩)), .int .i64 p, .int .i64 q0, .agg #[.int .u64 x.1, .int .u64 x.2]] w fun e w' => ∃ N' o es er lv B' cap' vs', e = .returned (.tuple #[o, .int .i64 lv, .int .i64 er]) ∧ OwnT H A0 (tPs o es :: shT sb room B' cap' vs' N' R) w' ∧ PutE N N' room l p x L g es er lv := by
 obtain ⟨xs, hnd, hne, h15, hux, hg, hxw⟩ := Z39 hT hu h7 hN hwf
 obtain ⟨n, hpl⟩ := Z4a xs x.1 (Z45 hux)
 have hn15 := hpl.le
 refine Z0c Try.func56 rfl 100 rfl (by rfl) ?_
 intro a1 k hargs
 have e0 : a1.eval (.tmp 0) = .iface 24 (.pointer (some ⟨sb, 0, none⟩)) := hargs 0 _ rfl
 have e1 : a1.eval (.tmp 1) = .int .i64 ↑p := hargs 1 _ rfl
 have e2 : a1.eval (.tmp 2) = .int .i64 q0 := hargs 2 _ rfl
 have e3 : a1.eval (.tmp 3) = .agg #[.int .u64 ↑x.1, .int .u64 ↑x.2] := hargs 3 _ rfl
 clear hargs
 refine wp_seq ?_
 refine wp_region_lit ?_
 have hE := Env.refl a1 [7, 8, 9, 10]
 refine Z0k O (cs := #[.int .u64 ↑x.1, .int .u64 ↑x.2]) (t := 38) 7 hE k rfl (by rfl) (by rfl) rfl (by simp [go_sem, ↓IntWalk.iteOmega, ev (hE.g e3)]) ?_
 clear O
 intro xb a2 w3 O hE e7 kp
 refine sd 8 hE k (Z01 rfl rfl) ?_
 intro a4 hE e8 kp
 replace e7 := kt kp e7
 refine sd 9 hE k (Z01 rfl rfl) ?_
 intro a5 hE e9 kp
 replace e7 := kt kp e7
 refine sd 10 hE k (Z01 rfl rfl) ?_
 intro a6 hE e10 kp
 replace e7 := kt kp e7
 refine wpList_nil ?_
 replace e0 := hE.g e0; replace e1 := hE.g e1; replace e2 := hE.g e2
 replace k := k.env hE
 clear hE e3 e10
 refine Z00 ?_
 replace O : OwnT _ _ ((tBlk sb 28 #[.slice B N.length cap, .int .i64 room]) :: (tRow 125 2 (.slice B N.length cap) N.length (leafV vs N)) :: (tPool vs N) :: (tBlk xb 38 #[.int .u64 ↑x.1, .int .u64 ↑x.2]) :: R) w3 := OwnT.pickR (L := [_, _, _, _]) (R := R) O [1, 2, 3, 0] (by decide)
 refine wp_seq ?_
 refine wp_region_lit ?_
 have hE := Env.refl a6 [20, 21, 22, 23, 19, 24, 25, 11, 12]
 refine zm 20 hE k e0 ?_
 intro a7 hE e20 kp
 refine zm 21 hE k e1 ?_
 intro a8 hE e21 kp
 replace e20 := kt kp e20
 refine zm 22 hE k e2 ?_
 intro a9 hE e22 kp
 replace e20 := kt kp e20; replace e21 := kt kp e21
 apply Z08 23 hE k rfl (by rfl) (by rfl) rfl
 case h =>
  simp [go_sem, ↓IntWalk.iteOmega, ev e20, ev e21, ev e22]
  with_reducible exact ⟨rfl, rfl⟩
 case hc => exact tread (R := _ :: R) _ O (by omega) hnd hg hne h15 (fun y hy => (hxw y hy).1) h0
 clear O
 rintro e w11 ⟨v, rfl, O⟩
 obtain ⟨Bv, cv, rfl, hv1, hv2, -, hv3⟩ := Z0r (OwnT.t0 O)
 refine ⟨_, rfl, ?_⟩
 intro a10 hE e23 kp
 refine sd 19 hE k (Z03 rfl e23) ?_
 intro a12 hE e19 kp
 apply Z02 24 hE k rfl rfl rfl rfl
 case h =>
  simp [go_sem, ↓IntWalk.iteOmega, ev e19]
  with_reducible rfl
 intro a13 hE e24 kp
 replace e19 := kt kp e19
 apply Z02 25 hE k rfl rfl rfl rfl
 case h =>
  simp [go_sem, ↓IntWalk.iteOmega, ev e19]
  with_reducible rfl
 intro a14 hE e25 kp
 replace e24 := kt kp e24
 refine Z0k O (cs := #[.int .i64 0, .slice none 0 0]) (t := 125) 11 hE k rfl (by rfl) (by rfl) rfl (by simp [go_sem, ↓IntWalk.iteOmega]) ?_
 clear O
 intro lb a15 w16 O hE e11 kp
 replace e24 := kt kp e24; replace e25 := kt kp e25
 have q0 : w16.cell? ⟨lb, 0, none⟩ = some (.int .i64 0) := (OwnT.blk O 0 rfl).cell 0
 have z0 : w16.frozen? ⟨lb, 0, none⟩ = false := (OwnT.blk O 0 rfl).frozen 0
 have q1 : w16.cell? ⟨lb, 1, none⟩ = some (.slice none 0 0) := (OwnT.blk O 0 rfl).cell 1
 have z1 : w16.frozen? ⟨lb, 1, none⟩ = false := (OwnT.blk O 0 rfl).frozen 1
 refine Z0y (w' := ((w16.setCell ⟨lb, 0, none⟩ (.int .i64 ↑l)).setCell ⟨lb, 1, none⟩ (.slice Bv xs.length cv))) hE rfl rfl (by simp [go_sem, ↓IntWalk.iteOmega, ev e11, ev e24, q0, z0, q1, z1]) ?_
 replace O := OwnT.push 0 rfl (((OwnT.pull O 0 rfl).set 0 (.int .i64 ↑l)).set 1 (.slice Bv xs.length cv))
 clear q0 z0 q1 z1
 generalize ((w16.setCell ⟨lb, 0, none⟩ (.int .i64 ↑l)).setCell ⟨lb, 1, none⟩ (.slice Bv xs.length cv)) = w17 at O ⊢
 replace O : OwnT _ _ ((tBlk lb 125 #[.int .i64 ↑l, .slice Bv xs.length cv]) :: (tPs (.slice Bv xs.length cv) xs) :: (tBlk sb 28 #[.slice B N.length cap, .int .i64 room]) :: (tRow 125 2 (.slice B N.length cap) N.length (leafV vs N)) :: (tPool vs N) :: (tBlk xb 38 #[.int .u64 ↑x.1, .int .u64 ↑x.2]) :: R) w17 := O
 refine sd 12 hE k (Z01 rfl e25) ?_
 intro a18 hE e12 kp
 replace e11 := kt kp e11
 refine wpList_nil ?_
 replace e0 := hE.g e0; replace e7 := hE.g e7
 replace k := k.env hE
 clear hE e1 e2
 refine Z00 (wp_seq ?_)
 refine wp_seq ?_
 refine wp_region_lit ?_
 have hE := Env.refl a18 [26, 27]
 refine zm 26 hE k e12 ?_
 intro a19 hE e26 kp
 refine sd 27 hE k (Z06 (Z1f rfl e26 rfl) (decide_eq_false (by omega))) ?_
 intro a20 hE e27 kp
 refine wpList_nil ?_
 replace e0 := hE.g e0; replace e7 := hE.g e7; replace e11 := hE.g e11; replace e12 := hE.g e12
 replace k := k.env hE
 clear hE
 refine Z00 ?_
 refine Z05 e27 rfl ?_
 refine wp_skip ?_
 refine Z00 ?_
 replace O : OwnT _ _ ((tPs (.slice Bv xs.length cv) xs) :: (tBlk sb 28 #[.slice B N.length cap, .int .i64 room]) :: (tRow 125 2 (.slice B N.length cap) N.length (leafV vs N)) :: (tPool vs N) :: (tBlk lb 125 #[.int .i64 ↑l, .slice Bv xs.length cv]) :: (tBlk xb 38 #[.int .u64 ↑x.1, .int .u64 ↑x.2]) :: R) w17 := OwnT.pickR (L := [_, _, _, _, _, _]) (R := R) O [1, 2, 3, 4, 0, 5] (by decide)
 obtain ⟨gv, ev⟩ : ∃ gv, Bv = some ⟨gv, 0, none⟩ := by
  obtain ⟨g2, c2, _, e2, _⟩ := Z17 (OwnT.t0 O : World.ownsRow _ 0 38 2 _ xs.length _) (List.length_pos_iff.2 hne)
  injection e2 with e2; exact ⟨g2, e2⟩
 subst ev
 obtain ⟨_, _, e2, -, -, hrow, -⟩ := Z0r (OwnT.t0 O)
 injection e2 with e2 _ e3
 subst e2 e3
 obtain ⟨bb, hbb⟩ : ∃ b, decide (n < xs.length ∧ keyAt xs n = x.1) = b := ⟨_, rfl⟩
 refine wp_seq ?_
 refine wp_region_lit ?_
 have hE := Env.refl a20 [30, 31, 32, 33, 29, 34, 35, 13, 14]
 apply Z02 30 hE k rfl rfl rfl rfl
 case h =>
  have q0 : w17.cell? ⟨lb, 0, none⟩ = some (.int .i64 ↑l) := (OwnT.blk O 4 rfl).cell 0
  have q1 : w17.cell? ⟨lb, 1, none⟩ = some (.slice (some ⟨gv, 0, none⟩) xs.length cv) := (OwnT.blk O 4 rfl).cell 1
  simp [go_sem, ↓IntWalk.iteOmega, ev (hE.g e11), q0, q1]
  with_reducible rfl
 intro a21 hE e30 kp
 apply Z02 31 hE k rfl rfl rfl rfl
 case h =>
  simp [go_sem, ↓IntWalk.iteOmega, ev (hE.g e7)]
  with_reducible rfl
 intro a22 hE e31 kp
 replace e30 := kt kp e30
 apply Z02 32 hE k rfl rfl rfl rfl
 case h =>
  have q0 : w17.cell? ⟨xb, 0, none⟩ = some (.int .u64 ↑x.1) := (OwnT.blk O 5 rfl).cell 0
  simp [go_sem, ↓IntWalk.iteOmega, ev e31, q0]
  with_reducible rfl
 intro a23 hE e32 kp
 replace e30 := kt kp e30
 apply Z08 33 hE k rfl (by rfl) (by rfl) rfl
 case h =>
  simp [go_sem, ↓IntWalk.iteOmega, ev e30, ev e32]
  with_reducible exact ⟨rfl, rfl⟩
 case hc => exact Z32 (l : Int) (some ⟨gv, 0, none⟩) xs.length cv xs _ rfl (by omega) hrow x.1 n hpl
 rintro e w25 ⟨rfl, RE⟩
 replace hrow := hrow.below RE
 replace O := OwnT.ext O RE
 refine ⟨_, congrArg (fun b => Ending.returned (.tuple #[.int .i64 (n : Int), .bool b])) hbb, ?_⟩
 intro a24 hE e33 kp
 refine sd 29 hE k (Z03 rfl e33) ?_
 intro a26 hE e29 kp
 apply Z02 34 hE k rfl rfl rfl rfl
 case h =>
  simp [go_sem, ↓IntWalk.iteOmega, ev e29]
  with_reducible rfl
 intro a27 hE e34 kp
 replace e29 := kt kp e29
 apply Z02 35 hE k rfl rfl rfl rfl
 case h =>
  simp [go_sem, ↓IntWalk.iteOmega, ev e29]
  with_reducible rfl
 intro a28 hE e35 kp
 replace e34 := kt kp e34
 refine sd 13 hE k (Z01 rfl e34) ?_
 intro a29 hE e13 kp
 replace e35 := kt kp e35
 refine sd 14 hE k (Z01 rfl e35) ?_
 intro a30 hE e14 kp
 replace e13 := kt kp e13
 refine wpList_nil ?_
 replace e0 := hE.g e0; replace e7 := hE.g e7; replace e11 := hE.g e11
 replace k := k.env hE
 clear hE e12 e27
 refine Z00 (wp_seq ?_)
 refine wp_block ?_
 have hTk := hT
 rw [hl1] at hTk
 obtain ⟨A, y, Bk, LA, gA, Lx, gx, LB, gB, hxs, hAl, kA, kx, kB, hL, hgg, hlo, hhi⟩ := Z53 (k := x.1) (n := n) hTk hu (by rw [← hl1]; exact hnd) hpl
 obtain ⟨kn, hkn⟩ : ∃ k, kidN xs x.1 n = k := ⟨_, rfl⟩
 rw [hkn] at hAl
 have hkl : kn < xs.length := by rw [hxs]; simp; omega
 obtain ⟨cI, hcI⟩ : ∃ c : Int, (if n < xs.length ∧ keyAt xs n = x.1 then (n : Int) else (n : Int) - 1) = c := ⟨_, rfl⟩
 have hmx : max cI 0 = (kn : Int) := by rw [← hcI, ← hkn]; exact Z7u
 have hyk : xs[kn]? = some y := by rw [hxs, List.getElem?_append_right (by omega), hAl, Nat.sub_self]; rfl
 refine wp_seq ?_
 refine wp_region_lit ?_
 have hE := Env.refl a30 [44, 45, 46, 43]
 apply Z02 44 hE k rfl rfl rfl rfl
 case h =>
  simp [go_sem, ↓IntWalk.iteOmega, ev (hE.g e11)]
  with_reducible rfl
 intro a31 hE e44 kp
 apply Z02 45 hE k rfl rfl rfl rfl
 case h =>
  have q0 : w25.cell? ⟨lb, 0, none⟩ = some (.int .i64 ↑l) := (OwnT.blk O 4 rfl).cell 0
  simp [go_sem, ↓IntWalk.iteOmega, ev e44, q0]
  with_reducible rfl
 intro a32 hE e45 kp
 refine sd 46 hE k (Z06 (Z1m rfl e45 rfl) (decide_eq_true (by omega))) ?_
 intro a33 hE e46 kp
 refine sd 43 hE k (Z01 rfl e46) ?_
 intro a34 hE e43 kp
 refine wpList_nil ?_
 replace e0 := hE.g e0; replace e7 := hE.g e7; replace e11 := hE.g e11; replace e13 := hE.g e13; replace e14 := hE.g e14
 replace k := k.env hE
 clear hE
 refine Z00 ?_
 refine Z0g e43 rfl ?_
 obtain ⟨Bq, cq, e2q, -, -, hrow, -⟩ := Z0r (OwnT.t0 O)
 injection e2q with e2q _ e3q
 subst e2q e3q
 refine wp_seq ?_
 refine wp_region_lit ?_
 have hE := Env.refl a34 [47, 48, 49, 50, 51, 13]
 apply Z02 47 hE k rfl rfl rfl rfl
 case h =>
  have q0 : w25.cell? ⟨lb, 0, none⟩ = some (.int .i64 ↑l) := (OwnT.blk O 4 rfl).cell 0
  have q1 : w25.cell? ⟨lb, 1, none⟩ = some (.slice (some ⟨gv, 0, none⟩) xs.length cv) := (OwnT.blk O 4 rfl).cell 1
  simp [go_sem, ↓IntWalk.iteOmega, ev (hE.g e11), q0, q1]
  with_reducible rfl
 intro a35 hE e47 kp
 apply Z02 48 hE k rfl rfl rfl rfl
 case h =>
  simp [go_sem, ↓IntWalk.iteOmega, ev (hE.g e7)]
  with_reducible rfl
 intro a36 hE e48 kp
 replace e47 := kt kp e47
 apply Z02 49 hE k rfl rfl rfl rfl
 case h =>
  have q0 : w25.cell? ⟨xb, 0, none⟩ = some (.int .u64 ↑x.1) := (OwnT.blk O 5 rfl).cell 0
  simp [go_sem, ↓IntWalk.iteOmega, ev e48, q0]
  with_reducible rfl
 intro a37 hE e49 kp
 replace e47 := kt kp e47
 apply Z08 50 hE k rfl (by rfl) (by rfl) rfl
 case h =>
  simp [go_sem, ↓IntWalk.iteOmega, ev e47, ev e49]
  with_reducible exact ⟨rfl, rfl⟩
 case hc => exact Z5a (l : Int) (some ⟨gv, 0, none⟩) xs.length cv xs _ rfl (by omega) hrow x.1 n hpl
 rintro e w39 ⟨rfl, RE⟩
 replace O := OwnT.ext O RE
 refine ⟨_, congrArg (fun c => Ending.returned (.int .i64 c)) hcI, ?_⟩
 intro a38 hE e50 kp
 refine sd 51 hE k (Z16 (v := .int .i64 (kn : Int)) (x_max rfl e50 rfl) (Z0h hmx)) ?_
 intro a40 hE e51 kp
 refine sd 13 hE k (Z01 rfl e51) ?_
 intro a41 hE e13 kp
 refine wpList_nil ?_
 replace e0 := hE.g e0; replace e7 := hE.g e7; replace e11 := hE.g e11
 replace k := k.env hE
 clear hE e14 e43
 refine Z00 ?_
 clear hrow
 replace O : OwnT _ _ ((tBlk sb 28 #[.slice B N.length cap, .int .i64 room]) :: (tRow 125 2 (.slice B N.length cap) N.length (leafV vs N)) :: (tPool vs N) :: (tPs (.slice (some ⟨gv, 0, none⟩) xs.length cv) xs) :: (tBlk lb 125 #[.int .i64 ↑l, .slice (some ⟨gv, 0, none⟩) xs.length cv]) :: (tBlk xb 38 #[.int .u64 ↑x.1, .int .u64 ↑x.2]) :: R) w39 := OwnT.pickR (L := [_, _, _, _, _, _]) (R := R) O [1, 2, 3, 0, 4, 5] (by decide)
 have hkI : (kn : Int) < (xs.length : Int) := by omega
 have hy5 : y.2 ≤ 511 := by obtain ⟨r, e⟩ := Tr.one kx; have := Tr.pages kx y.2 (by rw [e]; simp); omega
 have hux2 : Up Lx.flatten ∧ (∀ z ∈ Lx.flatten, z ∈ L.flatten) := by
  rw [hL, List.flatten_append, List.flatten_append] at hu ⊢
  exact ⟨hu.app.2.1.app.1, fun z hz => by simp [hz]⟩
 have hgx : gx.Nodup := by rw [hgg] at hgn; exact ((List.nodup_append.1 (List.nodup_append.1 (List.nodup_cons.1 hgn).2).2.1).1)
 refine wp_seq ?_
 refine Z3s (w0 := w39) 12 [[], [], [1], [], [1, 2, 3], [1, 2, 3, 4], [1, 2, 3, 4, 5], [1, 2, 3, 4, 5, 6], [], [8], [8, 9], [], [0, 1, 2, 3, 4, 5, 6, 7, 8, 9, 10, 11], [0, 1, 2, 3, 4, 5, 6, 7, 8, 9, 10, 11, 12], [0, 1, 2, 3, 4, 5, 6, 7, 8, 9, 10, 11, 12, 13], [0, 1, 2, 3, 4, 5, 6, 7, 8, 9, 10, 11, 12, 13], [0, 1, 2, 3, 4, 5, 6, 7, 8, 9, 10, 11, 12, 13], [0, 1, 2, 3, 4, 5, 6, 7, 8, 9, 10, 11, 12, 13, 14], [0, 1, 2, 3, 4, 5, 6, 7, 8, 9, 10, 11, 12, 13, 14, 15, 17], [0, 1, 2, 3, 4, 5, 6, 7, 8, 9, 10, 11, 12, 13, 14, 15, 16, 17, 18]] [53, 54, 55, 56, 57, 58, 59, 60, 61, 62, 63, 64, 65, 52, 66, 67, 68, 15, 16, 17] (by kernel_rfl) ?_
 apply BuildL.detA 53 (fun _ w_ _ => Ext.refl w_) (fun _ _ h => h.upd (by rfl)) (by rfl) (by rw [k.size]; rfl) rfl
 case h =>
  intro lx ax wx hE hI hl hA hF
  have hR := hI.pre (by rfl) hl
  exact Z03 rfl (hE.g e0)
 apply BuildL.detA 54 (fun _ w_ _ => Ext.refl w_) (fun _ _ h => h.upd (by rfl)) (by rfl) (by rw [k.size]; rfl) rfl
 case h =>
  intro lx ax wx hE hI hl hA hF
  have hR := hI.pre (by rfl) hl
  simp [go_sem, ↓IntWalk.iteOmega, ev (hE.g e11)]
  with_reducible rfl
 apply BuildL.detA 55 (fun _ w_ _ => Ext.refl w_) (fun _ _ h => h.upd (by rfl)) (by rfl) (by rw [k.size]; rfl) rfl
 case h =>
  intro lx ax wx hE hI hl hA hF
  have e54 := hF 1 (detL 1 54 _) (by decide) ml0
  have hR := hI.pre (by rfl) hl
  have q0 : wx.cell? ⟨lb, 1, none⟩ = some (.slice (some ⟨gv, 0, none⟩) xs.length cv) := (OwnT.blk (OwnT.ext O hR) 4 rfl).cell 1
  simp [go_sem, ↓IntWalk.iteOmega, ev e54, q0]
  with_reducible rfl
 apply BuildL.detA 56 (fun _ w_ _ => Ext.refl w_) (fun _ _ h => h.upd (by rfl)) (by rfl) (by rw [k.size]; rfl) rfl
 case h =>
  intro lx ax wx hE hI hl hA hF
  have hR := hI.pre (by rfl) hl
  exact Z03 rfl (hE.g e13)
 apply BuildL.detA 57 (fun _ w_ _ => Ext.refl w_) (fun _ _ h => h.upd (by rfl)) (by rfl) (by rw [k.size]; rfl) rfl
 case h =>
  intro lx ax wx hE hI hl hA hF
  have e55 := hF 2 (detL 2 55 _) (by decide) ml1
  have e56 := hF 3 (detL 3 56 _) (by decide) ml0
  have hR := hI.pre (by rfl) hl
  simp [go_sem, ↓IntWalk.iteOmega, ev e55, ev e56]
  with_reducible rfl
 apply BuildL.detA 58 (fun _ w_ _ => Ext.refl w_) (fun _ _ h => h.upd (by rfl)) (by rfl) (by rw [k.size]; rfl) rfl
 case h =>
  intro lx ax wx hE hI hl hA hF
  have e57 := hF 4 (detL 4 57 _) (by decide) ml0
  have hR := hI.pre (by rfl) hl
  simp [go_sem, ↓IntWalk.iteOmega, ev e57]
  with_reducible rfl
 apply BuildL.detA 59 (fun _ w_ _ => Ext.refl w_) (fun _ _ h => h.upd (by rfl)) (by rfl) (by rw [k.size]; rfl) rfl
 case h =>
  intro lx ax wx hE hI hl hA hF
  have e58 := hF 5 (detL 5 58 _) (by decide) ml0
  have hR := hI.pre (by rfl) hl
  have cy : wx.cell? ⟨gv, kn * 2 + 1, none⟩ = some (.int .u64 (y.2 : Int)) := by obtain ⟨_, _, e2, _, _, h, _⟩ := Z0r (OwnT.get (OwnT.ext O hR) 3 rfl : (tPs (.slice (some ⟨gv, 0, none⟩) xs.length cv) xs).holds wx); injection e2 with e2 _ e3; subst e2; obtain ⟨b, o, e, _, hc⟩ := h kn y hyk; injection e with e; injection e with e e'; subst e e'; have := hc 1 _ rfl; rwa [Nat.zero_add] at this
  simp [go_sem, ↓IntWalk.iteOmega, ev e58, cy]
  with_reducible rfl
 apply BuildL.detA 60 (fun _ w_ _ => Ext.refl w_) (fun _ _ h => h.upd (by rfl)) (by rfl) (by rw [k.size]; rfl) rfl
 case h =>
  intro lx ax wx hE hI hl hA hF
  have e59 := hF 6 (detL 6 59 _) (by decide) ml0
  have hR := hI.pre (by rfl) hl
  exact Z1w rfl e59 (Z23 y.2 _ (by omega))
 apply BuildL.detA 61 (fun _ w_ _ => Ext.refl w_) (fun _ _ h => h.upd (by rfl)) (by rfl) (by rw [k.size]; rfl) rfl
 case h =>
  intro lx ax wx hE hI hl hA hF
  have hR := hI.pre (by rfl) hl
  simp [go_sem, ↓IntWalk.iteOmega, ev (hE.g e11)]
  with_reducible rfl
 apply BuildL.detA 62 (fun _ w_ _ => Ext.refl w_) (fun _ _ h => h.upd (by rfl)) (by rfl) (by rw [k.size]; rfl) rfl
 case h =>
  intro lx ax wx hE hI hl hA hF
  have e61 := hF 8 (detL 8 61 _) (by decide) ml0
  have hR := hI.pre (by rfl) hl
  have q0 : wx.cell? ⟨lb, 0, none⟩ = some (.int .i64 ↑l) := (OwnT.blk (OwnT.ext O hR) 4 rfl).cell 0
  simp [go_sem, ↓IntWalk.iteOmega, ev e61, q0]
  with_reducible rfl
 apply BuildL.detA 63 (fun _ w_ _ => Ext.refl w_) (fun _ _ h => h.upd (by rfl)) (by rfl) (by rw [k.size]; rfl) rfl
 case h =>
  intro lx ax wx hE hI hl hA hF
  have e62 := hF 9 (detL 9 62 _) (by decide) ml0
  have hR := hI.pre (by rfl) hl
  exact Z16 (v := .int .i64 (l1 : Int)) (Z2t rfl e62 rfl (by omega)) (Z0h (by omega))
 apply BuildL.detA 64 (fun _ w_ _ => Ext.refl w_) (fun _ _ h => h.upd (by rfl)) (by rfl) (by rw [k.size]; rfl) rfl
 case h =>
  intro lx ax wx hE hI hl hA hF
  have hR := hI.pre (by rfl) hl
  have q0 : wx.cell? ⟨xb, 0, none⟩ = some (.int .u64 ↑x.1) := (OwnT.blk (OwnT.ext O hR) 5 rfl).cell 0
  have q1 : wx.cell? ⟨xb, 1, none⟩ = some (.int .u64 ↑x.2) := (OwnT.blk (OwnT.ext O hR) 5 rfl).cell 1
  simp [go_sem, ↓IntWalk.iteOmega, ev (hE.g e7), q0, q1]
  with_reducible rfl
 refine BuildL.callnew 65 (fun v_ w_ => ∃ N' o es er lv B' cap' vs', v_ = .tuple #[o, .int .i64 lv, .int .i64 er] ∧ OwnT H A0 (tPs o es :: shT sb room B' cap' vs' N' (tPs (.slice (some ⟨gv, 0, none⟩) xs.length cv) xs :: (tBlk lb 125 #[.int .i64 ↑l, .slice (some ⟨gv, 0, none⟩) xs.length cv]) :: (tBlk xb 38 #[.int .u64 ↑x.1, .int .u64 ↑x.2]) :: R)) w_ ∧ PutE N N' room l1 y.2 x Lx gx es er lv) (fun l v_ w_ w2_ hl hR h => by obtain ⟨N1, o, es, er, lv, B1, cap1, vs1, hv, O, hPE⟩ := h; exact ⟨N1, o, es, er, lv, B1, cap1, vs1, hv, OwnT.ext O (hR hl), hPE⟩) (by rfl) (by rw [k.size]; rfl) rfl ?_ ?_
 · intro lx ax wx hE hI hl hA hF
   have e53 := hF 0 (detL 0 53 _) (by decide) ml11
   have e60 := hF 7 (detL 7 60 _) (by decide) ml4
   have e63 := hF 10 (detL 10 63 _) (by decide) ml1
   have e64 := hF 11 (detL 11 64 _) (by decide) ml0
   have hR := hI.1 hl
   refine ⟨_, _, by simp [go_sem, ↓IntWalk.iteOmega, ev e53, ev e60, ev e63, ev e64], (ih (R := (tPs (.slice (some ⟨gv, 0, none⟩) xs.length cv) xs :: (tBlk lb 125 #[.int .i64 ↑l, .slice (some ⟨gv, 0, none⟩) xs.length cv]) :: (tBlk xb 38 #[.int .u64 ↑x.1, .int .u64 ↑x.2]) :: R)) (p := y.2) (q0 := (l1 : Int)) (x := x) wx (OwnT.ext O hR) kx hux2.1 hgx (by omega) hN (fun z hz => hwf z (hux2.2 z hz)) hx (.inr rfl)).mono ?_⟩
   rintro e w' ⟨N1, o, es, er, lv, B1, cap1, vs1, rfl, O, hPE⟩
   exact ⟨_, rfl, fun h => absurd (hl.symm.trans h) Bool.false_ne_true, IM.at_ hA, N1, o, es, er, lv, B1, cap1, vs1, rfl, O, hPE⟩
 refine BuildL.rel 52 65 (fun v => v) (by rfl) (fun _ w_ _ => Ext.refl w_) (fun _ _ h => h.upd (by rfl)) (by rfl) (by rw [k.size]; rfl) rfl ?_ ?_
 · intro lx ax wx hE hI hF
   exact Z03 rfl rfl
 refine BuildL.rel 66 65 (fun v => projV v 0) (by rfl) (fun _ w_ _ => Ext.refl w_) (fun _ _ h => h.upd (by rfl)) (by rfl) (by rw [k.size]; rfl) rfl ?_ ?_
 · intro lx ax wx hE hI hF
   have e52 : ax.eval (.tmp 52) = _ := hF 13 (relL 13 52 65 (fun v => v)) (by decide) ml0
   have fic := hF 12 _ (by decide) ml1
   obtain ⟨N1, o, es, er, lv, B1, cap1, vs1, hv, O, hPE⟩ := fic
   rw [hv]
   rw [hv] at e52
   simp [go_sem, ↓IntWalk.iteOmega, ev e52, projV]
 refine BuildL.rel 67 65 (fun v => projV v 1) (by rfl) (fun _ w_ _ => Ext.refl w_) (fun _ _ h => h.upd (by rfl)) (by rfl) (by rw [k.size]; rfl) rfl ?_ ?_
 · intro lx ax wx hE hI hF
   have e52 : ax.eval (.tmp 52) = _ := hF 13 (relL 13 52 65 (fun v => v)) (by decide) ml1
   have fic := hF 12 _ (by decide) ml2
   obtain ⟨N1, o, es, er, lv, B1, cap1, vs1, hv, O, hPE⟩ := fic
   rw [hv]
   rw [hv] at e52
   simp [go_sem, ↓IntWalk.iteOmega, ev e52, projV]
 refine BuildL.rel 68 65 (fun v => projV v 2) (by rfl) (fun _ w_ _ => Ext.refl w_) (fun _ _ h => h.upd (by rfl)) (by rfl) (by rw [k.size]; rfl) rfl ?_ ?_
 · intro lx ax wx hE hI hF
   have e52 : ax.eval (.tmp 52) = _ := hF 13 (relL 13 52 65 (fun v => v)) (by decide) ml2
   have fic := hF 12 _ (by decide) ml3
   obtain ⟨N1, o, es, er, lv, B1, cap1, vs1, hv, O, hPE⟩ := fic
   rw [hv]
   rw [hv] at e52
   simp [go_sem, ↓IntWalk.iteOmega, ev e52, projV]
 refine BuildL.rel 15 65 (fun v => projV v 0) (by rfl) (fun _ w_ _ => Ext.refl w_) (fun _ _ h => h.upd (by rfl)) (by rfl) (by rw [k.size]; rfl) rfl ?_ ?_
 · intro lx ax wx hE hI hF
   have e66 : ax.eval (.tmp 66) = _ := hF 14 (relL 14 66 65 (fun v => projV v 0)) (by decide) ml2
   exact Z01 rfl e66
 refine BuildL.rel 16 65 (fun v => projV v 1) (by rfl) (fun _ w_ _ => Ext.refl w_) (fun _ _ h => h.upd (by rfl)) (by rfl) (by rw [k.size]; rfl) rfl ?_ ?_
 · intro lx ax wx hE hI hF
   have e67 : ax.eval (.tmp 67) = _ := hF 15 (relL 15 67 65 (fun v => projV v 1)) (by decide) ml2
   exact Z01 rfl e67
 refine BuildL.rel 17 65 (fun v => projV v 2) (by rfl) (fun _ w_ _ => Ext.refl w_) (fun _ _ h => h.upd (by rfl)) (by rfl) (by rw [k.size]; rfl) rfl ?_ ?_
 · intro lx ax wx hE hI hF
   have e68 : ax.eval (.tmp 68) = _ := hF 16 (relL 16 68 65 (fun v => projV v 2)) (by decide) ml2
   exact Z01 rfl e68
 apply BuildL.stop
 refine ⟨by kernel_rfl, ?_⟩
 clear O
 intro lx a42 w43 hE hI hL hF
 clear hI hL
 have fic := hF 12 _ ml7
 have e15 : a42.eval (.tmp 15) = _ := hF 17 (relL 17 15 65 (fun v => projV v 0)) ml2
 have e17 : a42.eval (.tmp 17) = _ := hF 19 (relL 19 17 65 (fun v => projV v 2)) ml0
 clear hF
 obtain ⟨N1, o, es, er, lv, B1, cap1, vs1, hv, O, hPE⟩ := fic
 rw [hv] at e15
 replace e15 : a42.eval (.tmp 15) = o := e15
 rw [hv] at e17
 replace e17 : a42.eval (.tmp 17) = .int .i64 er := e17
 clear hv
 replace e0 := hE.g e0; replace e11 := hE.g e11; replace e13 := hE.g e13
 replace k := k.env hE
 clear hE e7
 refine Z00 ?_
 rcases hPE with ⟨rfl, hM1, hrm⟩ | ⟨rfl, rfl, hPR⟩
 · skip
   refine wp_seq ?_
   refine wp_seq ?_
   refine wp_region_lit ?_
   have hE := Env.refl a42 [69, 70]
   refine zm 69 hE k e17 ?_
   intro a44 hE e69 kp
   refine sd 70 hE k (Z1f rfl e69 rfl) ?_
   intro a45 hE e70 kp
   refine wpList_nil ?_
   replace e0 := hE.g e0; replace e11 := hE.g e11; replace e13 := hE.g e13; replace e15 := hE.g e15; replace e17 := hE.g e17
   replace k := k.env hE
   clear hE
   refine Z00 ?_
   refine Z0g e70 rfl ?_
   refine wp_seq ?_
   refine wp_region_lit ?_
   have hE := Env.refl a45 [71, 8, 9, 10]
   refine zm 71 hE k e17 ?_
   intro a46 hE e71 kp
   refine sd 8 hE k (Z01 rfl rfl) ?_
   intro a47 hE e8 kp
   replace e71 := kt kp e71
   refine sd 9 hE k (Z01 rfl rfl) ?_
   intro a48 hE e9 kp
   replace e71 := kt kp e71; replace e8 := kt kp e8
   refine sd 10 hE k (Z01 rfl e71) ?_
   intro a49 hE e10 kp
   replace e8 := kt kp e8; replace e9 := kt kp e9
   refine wpList_nil ?_
   replace k := k.env hE
   clear hE e0 e11 e13 e15 e17 e70
   refine Z00 ?_
   refine wp_ret ?_
   refine Z0d ?_
   refine Z0s ?_
   refine Z0d ?_
   obtain ⟨M1, rfl, hM1⟩ := hM1
   have O2 := OwnT.nilRow (OwnT.pickR (L := [_, _, _, _, _, _, _]) (R := R) O [1, 2, 3] (by decide)) 38 2
   refine Z3f rfl k e8 e9 e10 ?_
   exact ⟨N ++ M1, _, [], 6, 0, B1, cap1, vs1, rfl, O2, .inl ⟨rfl, ⟨M1, rfl, by omega⟩, fun h => hrm (by omega)⟩⟩
 · skip
   have hes := hPR.one
   have hap := hPR.app
   refine wp_seq ?_
   refine wp_seq ?_
   refine wp_region_lit ?_
   have hE := Env.refl a42 [69, 70]
   refine zm 69 hE k e17 ?_
   intro a50 hE e69 kp
   refine sd 70 hE k (Z1f rfl e69 rfl) ?_
   intro a51 hE e70 kp
   refine wpList_nil ?_
   replace e0 := hE.g e0; replace e11 := hE.g e11; replace e13 := hE.g e13; replace e15 := hE.g e15; replace e17 := hE.g e17
   replace k := k.env hE
   clear hE
   refine Z00 ?_
   refine Z05 e70 rfl ?_
   refine wp_skip ?_
   refine Z00 ?_
   replace O : OwnT _ _ ((tPs (.slice (some ⟨gv, 0, none⟩) xs.length cv) xs) :: (tPs o es) :: (tBlk sb 28 #[.slice B1 N1.length cap1, .int .i64 room]) :: (tRow 125 2 (.slice B1 N1.length cap1) N1.length (leafV vs1 N1)) :: (tPool vs1 N1) :: (tBlk lb 125 #[.int .i64 ↑l, .slice (some ⟨gv, 0, none⟩) xs.length cv]) :: (tBlk xb 38 #[.int .u64 ↑x.1, .int .u64 ↑x.2]) :: R) w43 := OwnT.pickR (L := [_, _, _, _, _, _, _]) (R := R) O [4, 0, 1, 2, 3, 5, 6] (by decide)
   obtain ⟨ys, hys⟩ : ∃ ys, xs.take kn ++ es ++ xs.drop (kn + 1) = ys := ⟨_, rfl⟩
   have hyAB : A ++ (es ++ Bk) = ys := by rw [← hys, hxs, ← hAl, List.take_left, show A.length + 1 = A.length + 1 from rfl, List.drop_append, List.append_assoc]; simp
   have hgl : ∀ q ∈ g, q ≤ N.length := fun q hq => (Tr.pages hT q hq).2
   obtain ⟨hput, hy16, hy0⟩ := put_node (n := 0) (x := x) (by rw [← hl1, ← hxs]; exact hnd) (by rw [← hxs]; exact h15) kA kB hL hgg hgn hgl hlo hhi hPR
   rw [hyAB] at hput hy16 hy0
   have hyp := List.length_pos_iff.2 hy0
   have hN1l : N1.length ≤ 600 := by obtain ⟨M1, rfl, hM1⟩ := hap; rw [List.length_append]; omega
   refine wp_region_lit ?_
   have hE := Env.refl a51 [72, 73, 74, 75, 76, 77, 78, 79]
   apply Z02 72 hE k rfl rfl rfl rfl
   case h =>
    simp [go_sem, ↓IntWalk.iteOmega, ev (hE.g e11)]
    with_reducible rfl
   intro a52 hE e72 kp
   apply Z02 73 hE k rfl rfl rfl rfl
   case h =>
    have q0 : w43.cell? ⟨lb, 1, none⟩ = some (.slice (some ⟨gv, 0, none⟩) xs.length cv) := (OwnT.blk O 5 rfl).cell 1
    simp [go_sem, ↓IntWalk.iteOmega, ev e72, q0]
    with_reducible rfl
   intro a53 hE e73 kp
   refine zm 74 hE k e13 ?_
   intro a54 hE e74 kp
   replace e73 := kt kp e73
   refine zm 75 hE k e13 ?_
   intro a55 hE e75 kp
   replace e73 := kt kp e73; replace e74 := kt kp e74
   refine sd 76 hE k (Z0x rfl e75 rfl (by omega)) ?_
   intro a56 hE e76 kp
   replace e73 := kt kp e73; replace e74 := kt kp e74
   refine zm 77 hE k e15 ?_
   intro a57 hE e77 kp
   replace e73 := kt kp e73; replace e74 := kt kp e74; replace e76 := kt kp e76
   apply Z08 78 hE k rfl (by rfl) (by rfl) rfl
   case h =>
    simp [go_sem, ↓IntWalk.iteOmega, ev e73, ev e74, ev e76, ev e77]
    with_reducible exact ⟨rfl, rfl⟩
   case hc => exact Z5j _ o kn xs es _ O hkl (by omega) (by omega)
   clear O
   rintro e w59 ⟨v', rfl, O⟩
   rw [hys] at O
   obtain ⟨g3, c3, rfl⟩ := OwnT.slice0 O hyp
   refine ⟨_, rfl, ?_⟩
   intro a58 hE e78 kp
   apply Z02 79 hE k rfl rfl rfl rfl
   case h =>
    simp [go_sem, ↓IntWalk.iteOmega, ev (hE.g e11)]
    with_reducible rfl
   intro a60 hE e79 kp
   replace e78 := kt kp e78
   have q0 : w59.cell? ⟨lb, 1, none⟩ = some (.slice (some ⟨gv, 0, none⟩) xs.length cv) := (OwnT.blk O 5 rfl).cell 1
   have q1 : w59.frozen? ⟨lb, 1, none⟩ = false := (OwnT.blk O 5 rfl).frozen 1
   refine Z1b (off := 1) (v := .slice (some ⟨g3, 0, none⟩) ys.length c3) O 5 rfl hE rfl rfl (by simp [go_sem, ↓IntWalk.iteOmega, ev e78, ev e79, q0, q1]) ?_
   clear q0 q1
   clear O
   intro w61 O
   replace O : OwnT _ _ ((tPs (.slice (some ⟨g3, 0, none⟩) ys.length c3) ys) :: (tPs o es) :: (tBlk sb 28 #[.slice B1 N1.length cap1, .int .i64 room]) :: (tRow 125 2 (.slice B1 N1.length cap1) N1.length (leafV vs1 N1)) :: (tPool vs1 N1) :: (tBlk lb 125 #[.int .i64 ↑l, .slice (some ⟨g3, 0, none⟩) ys.length c3]) :: (tBlk xb 38 #[.int .u64 ↑x.1, .int .u64 ↑x.2]) :: R) w61 := O
   refine wpList_nil ?_
   replace e0 := hE.g e0; replace e11 := hE.g e11
   replace k := k.env hE
   clear hE e13 e15 e17 e70 e78 e79
   refine Z0t ?_
   refine Z00 ?_
   replace O : OwnT _ _ ((tPs (.slice (some ⟨g3, 0, none⟩) ys.length c3) ys) :: (tBlk sb 28 #[.slice B1 N1.length cap1, .int .i64 room]) :: (tRow 125 2 (.slice B1 N1.length cap1) N1.length (leafV vs1 N1)) :: (tPool vs1 N1) :: (tBlk lb 125 #[.int .i64 ↑l, .slice (some ⟨g3, 0, none⟩) ys.length c3]) :: (tBlk xb 38 #[.int .u64 ↑x.1, .int .u64 ↑x.2]) :: R) w61 := OwnT.pickR (L := [_, _, _, _, _, _, _]) (R := R) O [0, 2, 3, 4, 5, 6] (by decide)
   refine wp_seq ?_
   refine wp_region_lit ?_
   have hE := Env.refl a60 [88, 89, 90, 91, 92, 93, 87, 94, 95, 18, 12]
   refine zm 88 hE k e0 ?_
   intro a62 hE e88 kp
   apply Z02 89 hE k rfl rfl rfl rfl
   case h =>
    simp [go_sem, ↓IntWalk.iteOmega, ev (hE.g e11)]
    with_reducible rfl
   intro a63 hE e89 kp
   replace e88 := kt kp e88
   apply Z02 90 hE k rfl rfl rfl rfl
   case h =>
    have q0 : w61.cell? ⟨lb, 0, none⟩ = some (.int .i64 ↑l) := (OwnT.blk O 4 rfl).cell 0
    simp [go_sem, ↓IntWalk.iteOmega, ev e89, q0]
    with_reducible rfl
   intro a64 hE e90 kp
   replace e88 := kt kp e88
   apply Z02 91 hE k rfl rfl rfl rfl
   case h =>
    simp [go_sem, ↓IntWalk.iteOmega, ev (hE.g e11)]
    with_reducible rfl
   intro a65 hE e91 kp
   replace e88 := kt kp e88; replace e90 := kt kp e90
   apply Z02 92 hE k rfl rfl rfl rfl
   case h =>
    have q0 : w61.cell? ⟨lb, 1, none⟩ = some (.slice (some ⟨g3, 0, none⟩) ys.length c3) := (OwnT.blk O 4 rfl).cell 1
    simp [go_sem, ↓IntWalk.iteOmega, ev e91, q0]
    with_reducible rfl
   intro a66 hE e92 kp
   replace e88 := kt kp e88; replace e90 := kt kp e90
   apply Z08 93 hE k rfl (by rfl) (by rfl) rfl
   case h =>
    simp [go_sem, ↓IntWalk.iteOmega, ev e88, ev e90, ev e92]
    with_reducible exact ⟨rfl, rfl⟩
   case hc => exact tadded (R := _ :: _ :: R) _ O (by omega) hy16
   clear O
   rintro e w68 ⟨M, es, er, o, B2, cap2, vs2, rfl, hA, O⟩
   refine ⟨_, rfl, ?_⟩
   intro a67 hE e93 kp
   refine sd 87 hE k (Z03 rfl e93) ?_
   intro a69 hE e87 kp
   apply Z02 94 hE k rfl rfl rfl rfl
   case h =>
    simp [go_sem, ↓IntWalk.iteOmega, ev e87]
    with_reducible rfl
   intro a70 hE e94 kp
   replace e87 := kt kp e87
   apply Z02 95 hE k rfl rfl rfl rfl
   case h =>
    simp [go_sem, ↓IntWalk.iteOmega, ev e87]
    with_reducible rfl
   intro a71 hE e95 kp
   replace e94 := kt kp e94
   refine sd 18 hE k (Z01 rfl e94) ?_
   intro a72 hE e18 kp
   replace e95 := kt kp e95
   refine sd 12 hE k (Z01 rfl e95) ?_
   intro a73 hE e12 kp
   replace e18 := kt kp e18
   refine wpList_nil ?_
   replace e11 := hE.g e11
   replace k := k.env hE
   clear hE e0
   refine Z00 (wp_seq ?_)
   refine Z0a (R := Ext) (w0 := w68) [[], [], [1], [], [0], [0, 1, 2, 4], [0, 1, 2, 3, 4, 5]] [96, 97, 98, 99, 8, 9, 10] Ext.refl (fun _ _ _ => Ext.trans) (Ext.drew _) (by kernel_rfl) ?_
   apply bd 96 k rfl rfl rfl
   case h =>
    intro ax wx hE hR hF
    exact Z03 rfl (hE.g e18)
   apply bd 97 k rfl rfl rfl
   case h =>
    intro ax wx hE hR hF
    simp [go_sem, ↓IntWalk.iteOmega, ev (hE.g e11)]
    with_reducible rfl
   apply bd 98 k rfl rfl rfl
   case h =>
    intro ax wx hE hR hF
    have e97 := zhF hF 1 97 ml0
    have q0 : wx.cell? ⟨lb, 0, none⟩ = some (.int .i64 ↑l) := (OwnT.blk (OwnT.ext O hR) 5 rfl).cell 0
    simp [go_sem, ↓IntWalk.iteOmega, ev e97, q0]
    with_reducible rfl
   apply bd 99 k rfl rfl rfl
   case h =>
    intro ax wx hE hR hF
    exact Z03 rfl (hE.g e12)
   apply bd 8 k rfl rfl rfl
   case h =>
    intro ax wx hE hR hF
    have e96 := zhF hF 0 96 ml3
    exact Z01 rfl e96
   apply bd 9 k rfl rfl rfl
   case h =>
    intro ax wx hE hR hF
    have e98 := zhF hF 2 98 ml2
    exact Z01 rfl e98
   apply bd 10 k rfl rfl rfl
   case h =>
    intro ax wx hE hR hF
    have e99 := zhF hF 3 99 ml2
    exact Z01 rfl e99
   apply Build.stop
   refine ⟨by kernel_rfl, .inl ⟨rfl, ?_⟩⟩
   intro a74 w75 hE R hF
   have e8 : a74.eval (.tmp 8) = _ := hF 4 (det 8 _) ml2
   have e9 : a74.eval (.tmp 9) = _ := hF 5 (det 9 _) ml1
   have e10 : a74.eval (.tmp 10) = _ := hF 6 (det 10 _) ml0
   clear hF
   replace O := OwnT.ext O R
   clear R
   replace k := k.env hE
   clear hE e11 e12 e18
   refine Z00 ?_
   refine wp_ret ?_
   have O2 := OwnT.pickR (L := [_, _, _, _, _, _, _]) (R := R) O [0, 2, 3, 4] (by decide)
   obtain ⟨hM2, hA⟩ := hA
   refine Z3f rfl k e8 e9 e10 ?_
   exact ⟨_, o, es, er, _, B2, cap2, vs2, rfl, O2, Z7m hl1 hap hM2 hA hput⟩
theorem tput : ∀ l, PutOk l
 | 0 => fun w O hT hu hgn h7 hN hwf hx h0 => Z7a w O hT hu hgn h7 hN hwf hx h0 rfl
 | l + 1 => fun w O hT hu hgn h7 hN hwf hx h0 => Z79 w O hT hu hgn h7 hN hwf hx h0 rfl (tput l)
end Go.Proofs.Ytngehbhhpkkijaa
