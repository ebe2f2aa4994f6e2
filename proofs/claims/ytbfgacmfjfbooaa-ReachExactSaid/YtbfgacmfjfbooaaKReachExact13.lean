/- trees: walk.node (printed by XTrW.gen.py). -/
import Derived.Test.YtbfgacmfjfbooaaKReachExact12
namespace Go.Proofs.Ytbfgacmfjfbooaa
attribute [local simp] BigFrame.eval_const BigFrame.eval_global BigFrame.eval_func
set_option linter.unusedVariables false
set_option linter.unusedSimpArgs false
open Go.RowKit Go.Maps

theorem Z56 {E : Type} {enc : E → List Value} {k : Nat} (hk : ∀ x, (enc x).length = k) (hk0 : 0 < k) {w : World} {base n cap : Nat} {T : TypeId} {B : Option Addr} {X : List E} (h : w.ownsRow base T k (.slice B n cap) n (X.flatMap enc)) : Row w B k enc X := by
 obtain ⟨B', cap', e, _, _, _, hR⟩ := Z23 hk hk0 h
 cases e
 exact hR
theorem elemIt : ElemI Try.prog 43 3 1 8 := ⟨Try.underlying43, by
 have h : (Try.prog.info? 3).map (fun i => (i.zero, i.size, i.bytes)) = some (some (.int .i64 0), 1, 8) := by kernel_rfl
 obtain ⟨i, h1, h2, h3, h4⟩ := info_parts h
 exact ⟨i, _, h1, h2, h3, h4, rfl⟩⟩
abbrev tNs (v : Value) (ns : List Nat) : Thing := tRow 3 1 v ns.length (ns.flatMap encN)
/-- A walk: its block, its pages, its pairs. -/
abbrev tWk (gw cp cq : Nat) (P Q : Option Addr) (pgs : List Nat) (prs : List Pr) (R : List Thing) : List Thing :=
 tBlk gw 157 #[.slice P pgs.length cp, .slice Q prs.length cq, .int .i64 0] :: tNs (.slice P pgs.length cp) pgs :: tPs (.slice Q prs.length cq) prs :: R
/-- The bounds of a subtree: its first key, or none; all keys below, or no bound. -/
structure Bnd (fb : Bool) (f0 : Nat) (hb : Bool) (h0 : Nat) (L : List (List Pr)) : Prop where
 fst : fb = true → hdk L = some f0
 fno : fb = false → f0 = 0
 hgh : hb = true → ∀ y ∈ L.flatten, y.1 < h0
 hno : hb = false → h0 = 0
theorem Z3y {gv o cap f0 h0 l : Nat} {fb hb : Bool} {xs : List Pr} (W0 : World) (hrow : Row W0 (some ⟨gv, o, none⟩) 2 pairC xs) (hne : 0 < xs.length) (h15 : xs.length ≤ 15) (hf : fb = true → keyAt xs 0 = f0) (hf0 : fb = false → f0 = 0) (h2 : fb = false → 0 < l → 2 ≤ xs.length) (hh : hb = true → keyAt xs (xs.length - 1) < h0) (hh0 : hb = false → h0 = 0) :
 Calls Try.prog 117 #[.agg #[.int .u64 (f0 : Nat), .bool fb, .int .u64 (h0 : Nat), .bool hb], .agg #[.int .i64 l, .slice (some ⟨gv, o, none⟩) xs.length cap]] W0 fun e w' => e = .returned (.bool true) ∧ Ext W0 w' := by
 cases fb <;> cases hb
 · obtain rfl := hf0 rfl; obtain rfl := hh0 rfl
   exact rightly_nn (f0 := 0) (h0 := 0) W0 hrow hne h15 (h2 rfl)
 · obtain rfl := hf0 rfl
   exact rightly_nh (f0 := 0) W0 hrow hne h15 (h2 rfl) (hh rfl)
 · obtain rfl := hh0 rfl
   exact rightly_fn (h0 := 0) W0 hrow hne h15 (hf rfl)
 · exact rightly_fh W0 hrow hne h15 (hf rfl) (hh rfl)
/-- A node's first key and its last one. -/
theorem tr_keys {N : List Nd} {l p : Nat} {L : List (List Pr)} {g : List Nat} {xs : List Pr} (hT : Tr N l p L g) (hp : ndAt N p = some (l, xs)) (hu : Up L.flatten) : hdk L = some (keyAt xs 0) ∧ ∃ v, (keyAt xs (xs.length - 1), v) ∈ L.flatten := by
 obtain ⟨_, hx, h15, h, hb, rfl⟩ := tr_at hT hp
 have hxl := List.length_pos_iff.2 hx
 cases l with
 | zero =>
  obtain ⟨rfl, _⟩ := Z0f.1 hb
  rw [if_neg hx]
  refine ⟨?_, ?_⟩
  · cases xs with
    | nil => exact absurd rfl hx
    | cons x xs => simp [hdk, keyAt]
  · refine ⟨(xs[xs.length - 1]'(by omega)).2, ?_⟩
    have : (keyAt xs (xs.length - 1), (xs[xs.length - 1]'(by omega)).2) = xs[xs.length - 1]'(by omega) := by unfold keyAt; rw [List.getD, List.getElem?_eq_getElem (by omega)]; rfl
    rw [this]; simp
 | succ l =>
  have hk := Z0i.1 hb
  refine ⟨?_, ?_⟩
  · cases xs with
    | nil => exact absurd rfl hx
    | cons x xs => simpa [keyAt] using hk.hdk
  · obtain ⟨v, hv⟩ := (hk.up hu).2 (xs[xs.length - 1]'(by omega)) (List.getElem_mem _)
    refine ⟨v, ?_⟩
    have : keyAt xs (xs.length - 1) = (xs[xs.length - 1]'(by omega)).1 := by unfold keyAt; rw [List.getD, List.getElem?_eq_getElem (by omega)]; rfl
    rw [this]; exact hv
/-- The bounds of a node's child. -/
theorem kid_bnd {T : Nat → List (List Pr) → List Nat → Prop} {L1 L2 : List (List Pr)} {g2 : List Nat} {x : Pr} {xs : List Pr} {hb : Bool} {h0 : Nat} (h : hdk L1 = some x.1) (hk : Kids T xs L2 g2) (hu : Up (L1.flatten ++ L2.flatten)) (hh : hb = true → ∀ y ∈ L1.flatten ++ L2.flatten, y.1 < h0) (hh0 : hb = false → h0 = 0) :
 Bnd true x.1 (xs.head?.isSome || hb) (((xs.head?).map Prod.fst).getD h0) L1 := by
 cases xs with
 | nil => exact ⟨fun _ => h, fun h => (by cases h), fun hb' y hy => hh (by simpa using hb') y (by simp [hy]), fun hb' => hh0 (by simpa using hb')⟩
 | cons z zs =>
  obtain ⟨v, r, e⟩ := Z43 hk.hdk
  refine ⟨fun _ => h, fun h => (by cases h), fun _ y hy => hu.app.2.2 y hy (z.1, v) (by rw [e]; simp), fun h => (by simp at h)⟩

def WalkOk (l : Nat) : Prop := ∀ {H : Nat} {A0 : World} {R : List Thing} {sb cap : Nat} {room : Int} {B : Option Addr} {vs : List Value} {N : List Nd} {gw cp cq p f0 h0 : Nat} {q0 : Int} {P Q : Option Addr} {pgs : List Nat} {prs : List Pr} {fb hb : Bool} {L : List (List Pr)} {g : List Nat} (w : World) (O : OwnT H A0 (shT sb room B cap vs N (tWk gw cp cq P Q pgs prs R)) w) (hT : Tr N l p L g) (hu : Up L.flatten) (h7 : l ≤ 7) (hN : N.length ≤ 511) (hwf : ∀ y ∈ L.flatten, y.1 < 18446744073709551616 ∧ y.2 < 18446744073709551616) (h0l : q0 < 0 ∨ q0 = l) (hB : Bnd fb f0 hb h0 L) (h2 : fb = false → 0 < l → ∃ xs, ndAt N p = some (l, xs) ∧ 2 ≤ xs.length) (hgn : (pgs ++ g).Nodup) (hgl : (pgs ++ g).length ≤ 600) (hpl : prs.length + L.flatten.length ≤ 100000), Calls Try.prog 94 #[.pointer (some ⟨gw, 0, none⟩), .iface 47 (.pointer (some ⟨sb, 0, none⟩)), .int .i64 p, .int .i64 q0, .agg #[.int .u64 (f0 : Nat), .bool fb, .int .u64 (h0 : Nat), .bool hb]] w fun e w' => e = .returned (.tuple #[]) ∧ ∃ P' Q' cp' cq', OwnT H A0 (shT sb room B cap vs N (tWk gw cp' cq' P' Q' (pgs ++ g) (prs ++ L.flatten) R)) w'
set_option maxRecDepth 100000 in
set_option maxHeartbeats 4000000 in
theorem Z8b {l : Nat} {H : Nat} {A0 : World} {R : List Thing} {sb cap : Nat} {room : Int} {B : Option Addr} {vs : List Value} {N : List Nd} {gw cp cq p f0 h0 : Nat} {q0 : Int} {P Q : Option Addr} {pgs : List Nat} {prs : List Pr} {fb hb : Bool} {L : List (List Pr)} {g : List Nat} (w : World) (O : OwnT H A0 (shT sb room B cap vs N (tWk gw cp cq P Q pgs prs R)) w) (hT : Tr N l p L g) (hu : Up L.flatten) (h7 : l ≤ 7) (hN : N.length ≤ 511) (hwf : ∀ y ∈ L.flatten, y.1 < 18446744073709551616 ∧ y.2 < 18446744073709551616) (h0l : q0 < 0 ∨ q0 = l) (hB : Bnd fb f0 hb h0 L) (h2 : fb = false → 0 < l → ∃ xs, ndAt N p = some (l, xs) ∧ 2 ≤ xs.length) (hgn : (pgs ++ g).Nodup) (hgl : (pgs ++ g).length ≤ 600) (hpl : prs.length + L.flatten.length ≤ 100000) (hl0 : l = 0) : Calls Try.prog 94 #[.pointer (some ⟨gw, 0, none⟩), .iface 47 (.pointer (some ⟨sb, 0, none⟩)), .int .i64 p, .int .i64 q0, .agg #[.int .u64 (f0 : Nat), .bool fb, .int .u64 (h0 : Nat), .bool hb]] w fun e w' => e = .returned (.tuple #[]) ∧ ∃ P' Q' cp' cq', OwnT H A0 (shT sb room B cap vs N (tWk gw cp' cq' P' Q' (pgs ++ g) (prs ++ L.flatten) R)) w' := by
 obtain ⟨xs, hnd, hne, h15, hux, hg, hxw⟩ := Z4w hT hu (by omega) hN hwf
 have hxl := List.length_pos_iff.2 hne
 obtain ⟨hk0, vk, hkn⟩ := tr_keys hT hnd hu
 obtain ⟨g1, hg1⟩ := Tr.one hT
 subst hg1
 have hpn : ∀ y ∈ pgs, ((y : Nat) : Int) ≠ (p : Int) := fun y hy e => (List.nodup_append.1 hgn).2.2 y hy p (by simp) (by omega)
 have hgl2 : pgs.length + 1 ≤ 600 := by rw [List.length_append, List.length_cons] at hgl; omega
 refine Z0a Try.func94 rfl 117 rfl (by rfl) ?_
 intro a1 k hargs; have e0 : a1.eval (.tmp 0) = .pointer (some ⟨gw, 0, none⟩) := hargs 0 _ rfl
 have e1 : a1.eval (.tmp 1) = .iface 47 (.pointer (some ⟨sb, 0, none⟩)) := hargs 1 _ rfl
 have e2 : a1.eval (.tmp 2) = .int .i64 ↑p := hargs 2 _ rfl
 have e3 : a1.eval (.tmp 3) = .int .i64 q0 := hargs 3 _ rfl
 have e4 : a1.eval (.tmp 4) = .agg #[.int .u64 ↑f0, .bool fb, .int .u64 ↑h0, .bool hb] := hargs 4 _ rfl
 clear hargs; refine wp_seq ?_; refine wp_region_lit ?_
 have hE := Env.refl a1 [9]; refine Z0k O (cs := #[.int .u64 ↑f0, .bool fb, .int .u64 ↑h0, .bool hb]) (t := 179) 9 hE k rfl (by rfl) (by rfl) rfl (by simp [go_sem, ↓IntWalk.iteOmega, ev (hE.g e4)]) ?_
 clear O; intro bx a2 w3 O hE e9 kp; refine wpList_nil ?_; replace e0 := hE.g e0; replace e1 := hE.g e1; replace e2 := hE.g e2; replace e3 := hE.g e3; replace k := k.env hE; clear hE e4; refine Z00 (wp_seq ?_); refine wp_seq ?_; refine wp_region_lit ?_
 have hE := Env.refl a2 [15, 16, 17, 18, 19]; refine zm 15 hE k e0 ?_; intro a4 hE e15 kp; refine sd 16 hE k (Z17 rfl e15) ?_; intro a5 hE e16 kp; apply Z03 17 hE k rfl rfl rfl rfl; case h =>
  simp [go_sem, ↓IntWalk.iteOmega, ev e16]
  with_reducible rfl
 intro a6 hE e17 kp; refine sd 18 hE k (Z08 O 4 rfl rfl e17 rfl Try.underlying23 rfl) ?_; intro a7 hE e18 kp; refine sd 19 hE k (Z05 (Z0q rfl e18 rfl) (decide_eq_false (by omega))) ?_
 intro a8 hE e19 kp; refine wpList_nil ?_; replace e0 := hE.g e0; replace e1 := hE.g e1; replace e2 := hE.g e2; replace e3 := hE.g e3; replace e9 := hE.g e9; replace k := k.env hE; clear hE; refine Z00 ?_; refine Z06 e19 rfl ?_
 refine wp_skip ?_; refine Z00 ?_; replace O : OwnT _ _ ((tBlk sb 49 #[.slice B N.length cap, .int .i64 room]) :: (tRow 46 2 (.slice B N.length cap) N.length (leafV vs N)) :: (tPool vs N) :: (tBlk bx 179 #[.int .u64 ↑f0, .bool fb, .int .u64 ↑h0, .bool hb]) :: (tBlk gw 157 #[.slice P pgs.length cp, .slice Q prs.length cq, .int .i64 0]) :: (tRow 3 1 (.slice P pgs.length cp) pgs.length (pgs.flatMap encN)) :: (tPs (.slice Q prs.length cq) prs) :: R) w3 := OwnT.pickR (L := [_, _, _, _, _, _, _]) (R := R) O [1, 2, 3, 0, 4, 5, 6] (by decide)
 refine wp_seq ?_; refine wp_region_lit ?_
 have hE := Env.refl a8 [21, 22, 23, 24, 20, 25, 26, 10, 11]; refine zm 21 hE k e1 ?_; intro a9 hE e21 kp; refine zm 22 hE k e2 ?_; intro a10 hE e22 kp; replace e21 := kt kp e21; refine zm 23 hE k e3 ?_; intro a11 hE e23 kp; replace e21 := kt kp e21; replace e22 := kt kp e22; apply Z09 24 hE k rfl (by rfl) (by rfl) rfl
 case h =>
  simp [go_sem, ↓IntWalk.iteOmega, ev e21, ev e22, ev e23]
  with_reducible exact ⟨rfl, rfl⟩
 case hc => exact tread (R := (tBlk bx 179 #[.int .u64 ↑f0, .bool fb, .int .u64 ↑h0, .bool hb] :: tWk gw cp cq P Q pgs prs R)) _ O (by omega) hnd hg hne h15 (fun y hy => (hxw y hy).1) h0l
 clear O; rintro e w13 ⟨v, rfl, O⟩
 obtain ⟨Bv, cv, rfl, hv1, hv2, -, hv3⟩ := Z0x (OwnT.t0 O)
 refine ⟨_, rfl, ?_⟩
 intro a12 hE e24 kp; refine sd 20 hE k (Z02 rfl e24) ?_; intro a14 hE e20 kp; apply Z03 25 hE k rfl rfl rfl rfl; case h =>
  simp [go_sem, ↓IntWalk.iteOmega, ev e20]
  with_reducible rfl
 intro a15 hE e25 kp; replace e20 := kt kp e20; apply Z03 26 hE k rfl rfl rfl rfl; case h =>
  simp [go_sem, ↓IntWalk.iteOmega, ev e20]
  with_reducible rfl
 intro a16 hE e26 kp; replace e25 := kt kp e25; refine Z0k O (cs := #[.int .i64 0, .slice none 0 0]) (t := 46) 10 hE k rfl (by rfl) (by rfl) rfl (by simp [go_sem, ↓IntWalk.iteOmega]) ?_
 clear O; intro lb a17 w18 O hE e10 kp; replace e25 := kt kp e25; replace e26 := kt kp e26; refine Z1f O 0 0 hE e10 e25 ?_
 clear O; intro w19 O; replace O : OwnT _ _ ((tBlk lb 46 #[.int .i64 ↑l, .slice Bv xs.length cv]) :: _) w19 := O
 refine sd 11 hE k (Z01 rfl e26) ?_; intro a20 hE e11 kp; replace e10 := kt kp e10; refine wpList_nil ?_; replace e0 := hE.g e0; replace e1 := hE.g e1; replace e2 := hE.g e2; replace e9 := hE.g e9; replace k := k.env hE; clear hE e3 e19; refine Z00 (wp_seq ?_); refine wp_block ?_; refine wp_seq ?_; refine wp_region_lit ?_
 have hE := Env.refl a20 [28, 29, 27]; refine zm 28 hE k e11 ?_; intro a21 hE e28 kp; refine sd 29 hE k (Z05 (Z12 rfl e28 rfl) (decide_eq_false (by omega))) ?_
 intro a22 hE e29 kp; refine sd 27 hE k (Z01 rfl e29) ?_; intro a23 hE e27 kp; refine wpList_nil ?_; replace e0 := hE.g e0; replace e1 := hE.g e1; replace e2 := hE.g e2; replace e9 := hE.g e9; replace e10 := hE.g e10; replace e11 := hE.g e11; replace k := k.env hE; clear hE; refine Z00 ?_; refine Z06 e27 rfl ?_
 refine wp_seq ?_; refine wp_region_lit ?_
 have hE := Env.refl a23 [33, 34, 32]; refine zm 33 hE k e11 ?_; intro a24 hE e33 kp; refine sd 34 hE k (Z05 (Z0q rfl e33 rfl) (decide_eq_false (by omega))) ?_
 intro a25 hE e34 kp; refine sd 32 hE k (Z01 rfl e34) ?_; intro a26 hE e32 kp; refine wpList_nil ?_; replace e0 := hE.g e0; replace e1 := hE.g e1; replace e2 := hE.g e2; replace e9 := hE.g e9; replace e10 := hE.g e10; replace e11 := hE.g e11; replace k := k.env hE; clear hE e27; refine Z00 ?_; refine Z06 e32 rfl ?_
 obtain ⟨gv, ev⟩ : ∃ gv, Bv = some ⟨gv, 0, none⟩ := by
  obtain ⟨g2, c2, _, e2, _⟩ := Z18 (OwnT.get O 1 rfl : World.ownsRow _ 0 103 2 _ xs.length _) hxl
  injection e2 with e2; exact ⟨g2, e2⟩
 subst ev
 obtain ⟨_, _, e2q, -, -, hrow, -⟩ := Z0x (OwnT.get O 1 rfl : (tPs (.slice (some ⟨gv, 0, none⟩) xs.length cv) xs).holds _)
 injection e2q with e2q _ e3q
 subst e2q e3q
 have hrowN := Z56 (enc := encN) (fun _ => rfl) Nat.one_pos (OwnT.get O 7 rfl : World.ownsRow _ 0 3 1 (.slice P pgs.length cp) pgs.length (pgs.flatMap encN))
 refine wp_seq ?_; refine wp_region_lit ?_
 have hE := Env.refl a26 [39, 40, 41, 42, 43, 44, 45, 46, 47, 48, 49, 50, 38]; refine zm 39 hE k e0 ?_; intro a27 hE e39 kp; refine sd 40 hE k (Z17 rfl e39) ?_; intro a28 hE e40 kp; apply Z03 41 hE k rfl rfl rfl rfl; case h =>
  simp [go_sem, ↓IntWalk.iteOmega, ev e40]
  with_reducible rfl
 intro a29 hE e41 kp; refine sd 42 hE k (Z08 O 6 rfl rfl e41 rfl Try.underlying43 rfl) ?_; intro a30 hE e42 kp; refine zm 43 hE k e2 ?_; intro a31 hE e43 kp; replace e42 := kt kp e42; apply Z09 44 hE k rfl (by rfl) (by rfl) rfl
 case h =>
  simp [go_sem, ↓IntWalk.iteOmega, ev e42, ev e43]
  with_reducible exact ⟨rfl, rfl⟩
 case hc => exact Z46 (p : Int) pgs _ rfl hrowN (by omega) hpn
 rintro e w33 ⟨rfl, RE⟩
 replace hrow := hrow.below RE
 replace O := OwnT.ext O RE; refine ⟨_, rfl, ?_⟩
 intro a32 hE e44 kp; refine sd 45 hE k (Z02 rfl e44) ?_; intro a34 hE e45 kp; apply Z04 46 hE k rfl rfl rfl rfl rfl e45
 case h =>
  exact Z1s O 5 rfl rfl (hE.g e9) [.int .u64 ↑f0, .bool fb, .int .u64 ↑h0, .bool hb] rfl Try.underlying179 rfl (by kernel_rfl)
 intro a35 hE e46 kp; replace e45 := kt kp e45; apply Z04 47 hE k rfl rfl rfl rfl rfl e45
 case h =>
  exact Z1s O 0 rfl rfl (hE.g e10) [.int .i64 ↑l, .slice (some ⟨gv, 0, none⟩) xs.length cv] rfl Try.underlying46 rfl (by kernel_rfl)
 intro a36 hE e47 kp; replace e45 := kt kp e45; replace e46 := kt kp e46; apply Z3l 48 hE k rfl (by rfl) (by rfl) rfl rfl e45
 case h =>
  simp [go_sem, ↓IntWalk.iteOmega, ev e46, ev e47]
  with_reducible exact ⟨rfl, rfl⟩
 case hc => exact Z3y _ hrow hxl h15 (fun e => by have := hB.fst e; rw [hk0] at this; injection this) hB.fno (fun e h => by obtain ⟨ys, e1, e2⟩ := h2 e h; rw [hnd] at e1; injection e1 with e1; injection e1 with _ e1; subst e1; exact e2) (fun e => hB.hgh e (_, vk) hkn) hB.hno
 rintro e w38 ⟨rfl, RE⟩
 replace O := OwnT.ext O RE; refine ⟨_, rfl, ?_⟩
 intro a37 hE e48 kp; replace e45 := kt kp e45; apply Z04 49 hE k rfl rfl rfl rfl rfl e45
 case h =>
  exact Z2a rfl e48
 intro a39 hE e49 kp; replace e45 := kt kp e45; refine sd 50 hE k (Z07 rfl e45 e49) ?_; intro a40 hE e50 kp; refine sd 38 hE k (Z01 rfl e50) ?_; intro a41 hE e38 kp; refine wpList_nil ?_; replace e0 := hE.g e0; replace e1 := hE.g e1; replace e2 := hE.g e2; replace e9 := hE.g e9; replace e10 := hE.g e10; replace k := k.env hE; clear hE e11 e32; refine Z00 ?_; refine Z06 e38 rfl ?_
 refine wp_skip ?_; refine Z0u ?_; refine Z00 ?_; clear hrow hrowN; replace O : OwnT _ _ ((tRow 3 1 (.slice P pgs.length cp) pgs.length (pgs.flatMap encN)) :: (tBlk lb 46 #[.int .i64 ↑l, .slice (some ⟨gv, 0, none⟩) xs.length cv]) :: (tPs (.slice (some ⟨gv, 0, none⟩) xs.length cv) xs) :: (tBlk sb 49 #[.slice B N.length cap, .int .i64 room]) :: (tRow 46 2 (.slice B N.length cap) N.length (leafV vs N)) :: (tPool vs N) :: (tBlk bx 179 #[.int .u64 ↑f0, .bool fb, .int .u64 ↑h0, .bool hb]) :: (tBlk gw 157 #[.slice P pgs.length cp, .slice Q prs.length cq, .int .i64 0]) :: (tPs (.slice Q prs.length cq) prs) :: R) w38 := OwnT.pickR (L := [_, _, _, _, _, _, _, _, _]) (R := R) O [7, 0, 1, 2, 3, 4, 5, 6, 8] (by decide)
 refine wp_seq ?_; refine wp_region_lit ?_
 have hE := Env.refl a41 [53, 54, 55, 56, 57, 58, 59, 60, 61, 62]; refine zm 53 hE k e0 ?_; intro a42 hE e53 kp; refine zm 54 hE k e0 ?_; intro a43 hE e54 kp; replace e53 := kt kp e53; refine sd 55 hE k (Z17 rfl e54) ?_; intro a44 hE e55 kp; replace e53 := kt kp e53; apply Z03 56 hE k rfl rfl rfl rfl; case h =>
  simp [go_sem, ↓IntWalk.iteOmega, ev e55]
  with_reducible rfl
 intro a45 hE e56 kp; replace e53 := kt kp e53; refine sd 57 hE k (Z08 O 7 rfl rfl e56 rfl Try.underlying43 rfl) ?_; intro a46 hE e57 kp; replace e53 := kt kp e53; refine zm 58 hE k e2 ?_; intro a47 hE e58 kp; replace e53 := kt kp e53; replace e57 := kt kp e57; refine Z1n (m := 1) (c := 1) O (cs := #[.int .i64 ↑p]) (t := 3) 59 hE k rfl (by rfl) (by rfl) rfl (by simp [go_sem, ↓IntWalk.iteOmega, ev e58]) ?_
 clear O; intro g3 a48 w49 O hE e59 kp; replace e53 := kt kp e53; replace e57 := kt kp e57; obtain ⟨gr, cr, w50, hrun, O⟩ := Z3d O elemIt (by decide) rfl (by intro u hu; simp at hu; subst hu; rfl) (by unfold maxLen; omega) (by omega)
 apply Z1r 60 hE k rfl (by rfl) (by rfl) rfl
 case h => exact Z1e rfl e57 e59 (hrun _)
 clear hrun; intro a51 hE e60 kp; replace e53 := kt kp e53; refine sd 61 hE k (Z17 rfl e53) ?_; intro a52 hE e61 kp; replace e60 := kt kp e60; apply Z03 62 hE k rfl rfl rfl rfl; case h =>
  simp [go_sem, ↓IntWalk.iteOmega, ev e61]
  with_reducible rfl
 intro a53 hE e62 kp; replace e60 := kt kp e60; refine Z1f O 7 0 hE e62 e60 ?_
 clear O; intro w54 O; replace O : OwnT _ _ (_ :: _ :: _ :: _ :: _ :: _ :: _ :: (tBlk gw 157 #[.slice (some ⟨gr, 0, none⟩) ((pgs.length + 1)) cr, .slice Q prs.length cq, .int .i64 0]) :: _) w54 := O
 refine wpList_nil ?_; replace e0 := hE.g e0; replace e1 := hE.g e1; replace e9 := hE.g e9; replace e10 := hE.g e10; replace k := k.env hE; clear hE e2 e38 e60 e62; refine Z00 ?_; have hln : (pgs ++ [p]).length = pgs.length + 1 := by simp
 rw [show pgs.flatMap encN ++ [Value.int .i64 (p : Int)] = (pgs ++ [p]).flatMap encN by simp [encN], ← hln] at O
 have hL1 : L.flatten = xs := by subst hl0; exact (drop_leaf (k := 0) hT hnd).2
 have hg0 : g1 = [] := by subst hl0; obtain ⟨_, _, _, h, hb, e⟩ := tr_at hT hnd; obtain ⟨_, rfl⟩ := Z0f.1 hb; injection e
 subst hg0
 replace O : OwnT _ _ ((tPs (.slice Q prs.length cq) prs) :: (tRow 3 1 (.slice (some ⟨gr, 0, none⟩) (pgs ++ [p]).length cr) (pgs ++ [p]).length ((pgs ++ [p]).flatMap encN)) :: (tBlk lb 46 #[.int .i64 ↑l, .slice (some ⟨gv, 0, none⟩) xs.length cv]) :: (tPs (.slice (some ⟨gv, 0, none⟩) xs.length cv) xs) :: (tBlk sb 49 #[.slice B N.length cap, .int .i64 room]) :: (tRow 46 2 (.slice B N.length cap) N.length (leafV vs N)) :: (tPool vs N) :: (tBlk bx 179 #[.int .u64 ↑f0, .bool fb, .int .u64 ↑h0, .bool hb]) :: (tBlk gw 157 #[.slice (some ⟨gr, 0, none⟩) ((pgs ++ [p]).length) cr, .slice Q prs.length cq, .int .i64 0]) :: R) w54 := OwnT.pickR (L := [_, _, _, _, _, _, _, _, _]) (R := R) O [8, 0, 1, 2, 3, 4, 5, 6, 7] (by decide)
 have hpx : prs.length + xs.length ≤ 100000 := by rw [← hL1]; exact hpl
 refine wp_seq ?_; refine wp_seq ?_; refine wp_region_lit ?_
 have hE := Env.refl a53 [63, 64, 65]; apply Z03 63 hE k rfl rfl rfl rfl; case h =>
  simp [go_sem, ↓IntWalk.iteOmega, ev (hE.g e10)]
  with_reducible rfl
 intro a55 hE e63 kp; refine sd 64 hE k (Z08 O 2 rfl rfl e63 rfl Try.underlying3 rfl) ?_; intro a56 hE e64 kp; refine sd 65 hE k (Z05 (Z12 rfl e64 rfl) (decide_eq_true (by omega))) ?_
 intro a57 hE e65 kp; refine wpList_nil ?_; replace e0 := hE.g e0; replace e1 := hE.g e1; replace e9 := hE.g e9; replace e10 := hE.g e10; replace k := k.env hE; clear hE; refine Z00 ?_; refine Z0h e65 rfl ?_
 refine wp_seq ?_; refine Z4c (w0 := w54) 7 [[], [], [1], [1, 2], [1, 2, 3], [], [5], [1, 2, 3, 4, 5, 6], rg 8, rg 9, rg 10] [66, 67, 68, 69, 70, 71, 72, 73, 74, 75] (by kernel_rfl) ?_
 apply BuildL.detA 66 (fun _ w_ _ => Ext.refl w_) (fun _ _ h => h.upd (by rfl)) (by rfl) (by rw [k.size]; rfl) rfl
 case h =>
  intro lx ax wx hE hI hl hA hF; exact Z02 rfl (hE.g e0)
 apply BuildL.detA 67 (fun _ w_ _ => Ext.refl w_) (fun _ _ h => h.upd (by rfl)) (by rfl) (by rw [k.size]; rfl) rfl
 case h =>
  intro lx ax wx hE hI hl hA hF; have hR := hI.pre (by rfl) hl
  exact Z02 rfl (hE.g e0)
 apply BuildL.detA 68 (fun _ w_ _ => Ext.refl w_) (fun _ _ h => h.upd (by rfl)) (by rfl) (by rw [k.size]; rfl) rfl
 case h =>
  intro lx ax wx hE hI hl hA hF; have e67 := hF 1 (detL 1 67 _) (by decide) ml0
  have hR := hI.pre (by rfl) hl
  exact Z17 rfl e67
 apply BuildL.detA 69 (fun _ w_ _ => Ext.refl w_) (fun _ _ h => h.upd (by rfl)) (by rfl) (by rw [k.size]; rfl) rfl
 case h =>
  intro lx ax wx hE hI hl hA hF; have e68 := hF 2 (detL 2 68 _) (by decide) ml0
  have hR := hI.pre (by rfl) hl
  simp [go_sem, ↓IntWalk.iteOmega, ev e68]
  with_reducible rfl
 apply BuildL.detA 70 (fun _ w_ _ => Ext.refl w_) (fun _ _ h => h.upd (by rfl)) (by rfl) (by rw [k.size]; rfl) rfl
 case h =>
  intro lx ax wx hE hI hl hA hF; have e69 := hF 3 (detL 3 69 _) (by decide) ml0
  have hR := hI.pre (by rfl) hl
  exact Z08 (OwnT.ext O hR) 8 rfl rfl e69 rfl Try.underlying44 rfl
 apply BuildL.detA 71 (fun _ w_ _ => Ext.refl w_) (fun _ _ h => h.upd (by rfl)) (by rfl) (by rw [k.size]; rfl) rfl
 case h =>
  intro lx ax wx hE hI hl hA hF; have hR := hI.pre (by rfl) hl
  simp [go_sem, ↓IntWalk.iteOmega, ev (hE.g e10)]
  with_reducible rfl
 apply BuildL.detA 72 (fun _ w_ _ => Ext.refl w_) (fun _ _ h => h.upd (by rfl)) (by rfl) (by rw [k.size]; rfl) rfl
 case h =>
  intro lx ax wx hE hI hl hA hF; have e71 := hF 5 (detL 5 71 _) (by decide) ml0
  have hR := hI.pre (by rfl) hl
  exact Z08 (OwnT.ext O hR) 2 rfl rfl e71 rfl Try.underlying44 rfl
 refine BuildL.new 73 (fun v_ w_ => ∃ B2 c2, v_ = .slice B2 (prs ++ xs).length c2 ∧ OwnT H A0 (tPs (.slice B2 (prs ++ xs).length c2) (prs ++ xs) :: (tRow 3 1 (.slice (some ⟨gr, 0, none⟩) (pgs ++ [p]).length cr) (pgs ++ [p]).length ((pgs ++ [p]).flatMap encN)) :: (tBlk lb 46 #[.int .i64 ↑l, .slice (some ⟨gv, 0, none⟩) xs.length cv]) :: (tPs (.slice (some ⟨gv, 0, none⟩) xs.length cv) xs) :: (tBlk sb 49 #[.slice B N.length cap, .int .i64 room]) :: (tRow 46 2 (.slice B N.length cap) N.length (leafV vs N)) :: (tPool vs N) :: (tBlk bx 179 #[.int .u64 ↑f0, .bool fb, .int .u64 ↑h0, .bool hb]) :: (tBlk gw 157 #[.slice (some ⟨gr, 0, none⟩) ((pgs ++ [p]).length) cr, .slice Q prs.length cq, .int .i64 0]) :: R) w_) (fun l v_ w_ w2_ hl hR h => by obtain ⟨B2, c2, hv, O⟩ := h; exact ⟨B2, c2, hv, OwnT.ext O (hR hl)⟩) (by rfl) (by rw [k.size]; rfl) rfl ?_ ?_
 · intro lx ax wx hE hI hl hA hF; have e70 := hF 4 (detL 4 70 _) (by decide) ml2
   have e72 := hF 6 (detL 6 72 _) (by decide) ml0
   have hR := hI.1 hl
   have O1 := (OwnT.ext O hR)
   obtain ⟨_, _, e2q, -, -, hrow, -⟩ := Z0x (OwnT.get O1 3 rfl : (tPs (.slice (some ⟨gv, 0, none⟩) xs.length cv) xs).holds _)
   injection e2q with e2q _ e3q
   subst e2q e3q
   obtain ⟨v2, w2, hrun, O2⟩ := Z34 (m := xs.length) (c := cv) O1 elemPr (by decide) (Z0t xs) (Z27 hrow) (Z1m xs) (by unfold maxLen; omega) (by omega)
   rw [show flatP prs ++ flatP xs = flatP (prs ++ xs) by simp [flatP], show prs.length + xs.length = (prs ++ xs).length by simp] at O2
   obtain ⟨B2, c2, rfl⟩ := Z0c O2.r0
   exact ⟨_, _, Z1e rfl e70 e72 (hrun _), fun h => absurd (hl.symm.trans h) Bool.false_ne_true, IM.at_ hA, B2, c2, rfl, O2⟩
 apply BuildL.detA 74 (fun _ w_ _ => Ext.refl w_) (fun _ _ h => h.upd (by rfl)) (by rfl) (by rw [k.size]; rfl) rfl
 case h =>
  intro lx ax wx hE hI hl hA hF; have e66 := hF 0 (detL 0 66 _) (by decide) ml7
  exact Z17 rfl e66
 apply BuildL.detA 75 (fun _ w_ _ => Ext.refl w_) (fun _ _ h => h.upd (by rfl)) (by rfl) (by rw [k.size]; rfl) rfl
 case h =>
  intro lx ax wx hE hI hl hA hF; have e74 := hF 8 (detL 8 74 _) (by decide) ml0
  simp [go_sem, ↓IntWalk.iteOmega, ev e74]
  with_reducible rfl
 apply BuildL.stop
 refine ⟨by kernel_rfl, ?_⟩
 clear O; intro lx a58 w59 hE hI hL hF; clear hI hL; have fic := hF 7 _ ml2
 have e75 : a58.eval (.tmp 75) = _ := hF 9 (detL 9 75 _) ml0
 clear hF; obtain ⟨B2, c2, hv, O⟩ := fic
 have e73 := hv
 clear hv; simp only [List.length_cons, List.length_nil, Nat.zero_add, Nat.reduceAdd, List.drop_succ_cons, List.drop_zero, List.drop_nil, tailOps]
 show Oper.wp _ _ _ _ _ _
 have q0 : w59.cell? ⟨gw, 1, none⟩ = some (.slice Q prs.length cq) := (OwnT.blk O 8 rfl).cell 1
 have q1 : w59.frozen? ⟨gw, 1, none⟩ = false := (OwnT.blk O 8 rfl).frozen 1
 refine Z4l (off := 1) (v := .slice B2 ((prs ++ xs).length) c2) O 8 rfl rfl (by simp [go_sem, ↓IntWalk.iteOmega, ev e73, ev e75, q0, q1]) ?_
 clear q0 q1; clear O; intro w60 O; replace O : OwnT _ _ (_ :: _ :: _ :: _ :: _ :: _ :: _ :: _ :: (tBlk gw 157 #[.slice (some ⟨gr, 0, none⟩) ((pgs ++ [p]).length) cr, .slice B2 ((prs ++ xs).length) c2, .int .i64 0]) :: _) w60 := O
 replace k := k.env hE; clear hE e0 e1 e9 e10 e65 e75 e73; refine Z00 ?_; refine wp_ret ?_
 refine Z0o ?_
 replace O : OwnT _ _ ((tBlk sb 49 #[.slice B N.length cap, .int .i64 room]) :: (tRow 46 2 (.slice B N.length cap) N.length (leafV vs N)) :: (tPool vs N) :: (tBlk gw 157 #[.slice (some ⟨gr, 0, none⟩) ((pgs ++ [p]).length) cr, .slice B2 ((prs ++ xs).length) c2, .int .i64 0]) :: (tRow 3 1 (.slice (some ⟨gr, 0, none⟩) (pgs ++ [p]).length cr) (pgs ++ [p]).length ((pgs ++ [p]).flatMap encN)) :: (tPs (.slice B2 (prs ++ xs).length c2) (prs ++ xs)) :: R) w60 := OwnT.pickR (L := [_, _, _, _, _, _, _, _, _]) (R := R) O [4, 5, 6, 8, 1, 0] (by decide)
 rw [hL1]
 refine ret_F0 rfl k ?_
 exact ⟨rfl, some ⟨gr, 0, none⟩, B2, cr, c2, O⟩
set_option maxRecDepth 100000 in
set_option maxHeartbeats 4000000 in
theorem Z8a {l : Nat} {H : Nat} {A0 : World} {R : List Thing} {sb cap : Nat} {room : Int} {B : Option Addr} {vs : List Value} {N : List Nd} {gw cp cq p f0 h0 : Nat} {q0 : Int} {P Q : Option Addr} {pgs : List Nat} {prs : List Pr} {fb hb : Bool} {L : List (List Pr)} {g : List Nat} (w : World) (O : OwnT H A0 (shT sb room B cap vs N (tWk gw cp cq P Q pgs prs R)) w) (hT : Tr N l p L g) (hu : Up L.flatten) (h7 : l ≤ 7) (hN : N.length ≤ 511) (hwf : ∀ y ∈ L.flatten, y.1 < 18446744073709551616 ∧ y.2 < 18446744073709551616) (h0l : q0 < 0 ∨ q0 = l) (hB : Bnd fb f0 hb h0 L) (h2 : fb = false → 0 < l → ∃ xs, ndAt N p = some (l, xs) ∧ 2 ≤ xs.length) (hgn : (pgs ++ g).Nodup) (hgl : (pgs ++ g).length ≤ 600) (hpl : prs.length + L.flatten.length ≤ 100000) {l1 : Nat} (hl1 : l = l1 + 1) (ih : WalkOk l1) : Calls Try.prog 94 #[.pointer (some ⟨gw, 0, none⟩), .iface 47 (.pointer (some ⟨sb, 0, none⟩)), .int .i64 p, .int .i64 q0, .agg #[.int .u64 (f0 : Nat), .bool fb, .int .u64 (h0 : Nat), .bool hb]] w fun e w' => e = .returned (.tuple #[]) ∧ ∃ P' Q' cp' cq', OwnT H A0 (shT sb room B cap vs N (tWk gw cp' cq' P' Q' (pgs ++ g) (prs ++ L.flatten) R)) w' := by
 obtain ⟨xs, hnd, hne, h15, hux, hg, hxw⟩ := Z4w hT hu (by omega) hN hwf
 have hxl := List.length_pos_iff.2 hne
 obtain ⟨hk0, vk, hkn⟩ := tr_keys hT hnd hu
 obtain ⟨g1, hg1⟩ := Tr.one hT
 subst hg1
 have hpn : ∀ y ∈ pgs, ((y : Nat) : Int) ≠ (p : Int) := fun y hy e => (List.nodup_append.1 hgn).2.2 y hy p (by simp) (by omega)
 have hgl2 : pgs.length + 1 ≤ 600 := by rw [List.length_append, List.length_cons] at hgl; omega
 refine Z0a Try.func94 rfl 117 rfl (by rfl) ?_
 intro a1 k hargs; have e0 : a1.eval (.tmp 0) = .pointer (some ⟨gw, 0, none⟩) := hargs 0 _ rfl
 have e1 : a1.eval (.tmp 1) = .iface 47 (.pointer (some ⟨sb, 0, none⟩)) := hargs 1 _ rfl
 have e2 : a1.eval (.tmp 2) = .int .i64 ↑p := hargs 2 _ rfl
 have e3 : a1.eval (.tmp 3) = .int .i64 q0 := hargs 3 _ rfl
 have e4 : a1.eval (.tmp 4) = .agg #[.int .u64 ↑f0, .bool fb, .int .u64 ↑h0, .bool hb] := hargs 4 _ rfl
 clear hargs; refine wp_seq ?_; refine wp_region_lit ?_
 have hE := Env.refl a1 [9]; refine Z0k O (cs := #[.int .u64 ↑f0, .bool fb, .int .u64 ↑h0, .bool hb]) (t := 179) 9 hE k rfl (by rfl) (by rfl) rfl (by simp [go_sem, ↓IntWalk.iteOmega, ev (hE.g e4)]) ?_
 clear O; intro bx a2 w3 O hE e9 kp; refine wpList_nil ?_; replace e0 := hE.g e0; replace e1 := hE.g e1; replace e2 := hE.g e2; replace e3 := hE.g e3; replace k := k.env hE; clear hE e4; refine Z00 (wp_seq ?_); refine wp_seq ?_; refine wp_region_lit ?_
 have hE := Env.refl a2 [15, 16, 17, 18, 19]; refine zm 15 hE k e0 ?_; intro a4 hE e15 kp; refine sd 16 hE k (Z17 rfl e15) ?_; intro a5 hE e16 kp; apply Z03 17 hE k rfl rfl rfl rfl; case h =>
  simp [go_sem, ↓IntWalk.iteOmega, ev e16]
  with_reducible rfl
 intro a6 hE e17 kp; refine sd 18 hE k (Z08 O 4 rfl rfl e17 rfl Try.underlying23 rfl) ?_; intro a7 hE e18 kp; refine sd 19 hE k (Z05 (Z0q rfl e18 rfl) (decide_eq_false (by omega))) ?_
 intro a8 hE e19 kp; refine wpList_nil ?_; replace e0 := hE.g e0; replace e1 := hE.g e1; replace e2 := hE.g e2; replace e3 := hE.g e3; replace e9 := hE.g e9; replace k := k.env hE; clear hE; refine Z00 ?_; refine Z06 e19 rfl ?_
 refine wp_skip ?_; refine Z00 ?_; replace O : OwnT _ _ ((tBlk sb 49 #[.slice B N.length cap, .int .i64 room]) :: (tRow 46 2 (.slice B N.length cap) N.length (leafV vs N)) :: (tPool vs N) :: (tBlk bx 179 #[.int .u64 ↑f0, .bool fb, .int .u64 ↑h0, .bool hb]) :: (tBlk gw 157 #[.slice P pgs.length cp, .slice Q prs.length cq, .int .i64 0]) :: (tRow 3 1 (.slice P pgs.length cp) pgs.length (pgs.flatMap encN)) :: (tPs (.slice Q prs.length cq) prs) :: R) w3 := OwnT.pickR (L := [_, _, _, _, _, _, _]) (R := R) O [1, 2, 3, 0, 4, 5, 6] (by decide)
 refine wp_seq ?_; refine wp_region_lit ?_
 have hE := Env.refl a8 [21, 22, 23, 24, 20, 25, 26, 10, 11]; refine zm 21 hE k e1 ?_; intro a9 hE e21 kp; refine zm 22 hE k e2 ?_; intro a10 hE e22 kp; replace e21 := kt kp e21; refine zm 23 hE k e3 ?_; intro a11 hE e23 kp; replace e21 := kt kp e21; replace e22 := kt kp e22; apply Z09 24 hE k rfl (by rfl) (by rfl) rfl
 case h =>
  simp [go_sem, ↓IntWalk.iteOmega, ev e21, ev e22, ev e23]
  with_reducible exact ⟨rfl, rfl⟩
 case hc => exact tread (R := (tBlk bx 179 #[.int .u64 ↑f0, .bool fb, .int .u64 ↑h0, .bool hb] :: tWk gw cp cq P Q pgs prs R)) _ O (by omega) hnd hg hne h15 (fun y hy => (hxw y hy).1) h0l
 clear O; rintro e w13 ⟨v, rfl, O⟩
 obtain ⟨Bv, cv, rfl, hv1, hv2, -, hv3⟩ := Z0x (OwnT.t0 O)
 refine ⟨_, rfl, ?_⟩
 intro a12 hE e24 kp; refine sd 20 hE k (Z02 rfl e24) ?_; intro a14 hE e20 kp; apply Z03 25 hE k rfl rfl rfl rfl; case h =>
  simp [go_sem, ↓IntWalk.iteOmega, ev e20]
  with_reducible rfl
 intro a15 hE e25 kp; replace e20 := kt kp e20; apply Z03 26 hE k rfl rfl rfl rfl; case h =>
  simp [go_sem, ↓IntWalk.iteOmega, ev e20]
  with_reducible rfl
 intro a16 hE e26 kp; replace e25 := kt kp e25; refine Z0k O (cs := #[.int .i64 0, .slice none 0 0]) (t := 46) 10 hE k rfl (by rfl) (by rfl) rfl (by simp [go_sem, ↓IntWalk.iteOmega]) ?_
 clear O; intro lb a17 w18 O hE e10 kp; replace e25 := kt kp e25; replace e26 := kt kp e26; refine Z1f O 0 0 hE e10 e25 ?_
 clear O; intro w19 O; replace O : OwnT _ _ ((tBlk lb 46 #[.int .i64 ↑l, .slice Bv xs.length cv]) :: _) w19 := O
 refine sd 11 hE k (Z01 rfl e26) ?_; intro a20 hE e11 kp; replace e10 := kt kp e10; refine wpList_nil ?_; replace e0 := hE.g e0; replace e1 := hE.g e1; replace e2 := hE.g e2; replace e9 := hE.g e9; replace k := k.env hE; clear hE e3 e19; refine Z00 (wp_seq ?_); refine wp_block ?_; refine wp_seq ?_; refine wp_region_lit ?_
 have hE := Env.refl a20 [28, 29, 27]; refine zm 28 hE k e11 ?_; intro a21 hE e28 kp; refine sd 29 hE k (Z05 (Z12 rfl e28 rfl) (decide_eq_false (by omega))) ?_
 intro a22 hE e29 kp; refine sd 27 hE k (Z01 rfl e29) ?_; intro a23 hE e27 kp; refine wpList_nil ?_; replace e0 := hE.g e0; replace e1 := hE.g e1; replace e2 := hE.g e2; replace e9 := hE.g e9; replace e10 := hE.g e10; replace e11 := hE.g e11; replace k := k.env hE; clear hE; refine Z00 ?_; refine Z06 e27 rfl ?_
 refine wp_seq ?_; refine wp_region_lit ?_
 have hE := Env.refl a23 [33, 34, 32]; refine zm 33 hE k e11 ?_; intro a24 hE e33 kp; refine sd 34 hE k (Z05 (Z0q rfl e33 rfl) (decide_eq_false (by omega))) ?_
 intro a25 hE e34 kp; refine sd 32 hE k (Z01 rfl e34) ?_; intro a26 hE e32 kp; refine wpList_nil ?_; replace e0 := hE.g e0; replace e1 := hE.g e1; replace e2 := hE.g e2; replace e9 := hE.g e9; replace e10 := hE.g e10; replace e11 := hE.g e11; replace k := k.env hE; clear hE e27; refine Z00 ?_; refine Z06 e32 rfl ?_
 obtain ⟨gv, ev⟩ : ∃ gv, Bv = some ⟨gv, 0, none⟩ := by
  obtain ⟨g2, c2, _, e2, _⟩ := Z18 (OwnT.get O 1 rfl : World.ownsRow _ 0 103 2 _ xs.length _) hxl
  injection e2 with e2; exact ⟨g2, e2⟩
 subst ev
 obtain ⟨_, _, e2q, -, -, hrow, -⟩ := Z0x (OwnT.get O 1 rfl : (tPs (.slice (some ⟨gv, 0, none⟩) xs.length cv) xs).holds _)
 injection e2q with e2q _ e3q
 subst e2q e3q
 have hrowN := Z56 (enc := encN) (fun _ => rfl) Nat.one_pos (OwnT.get O 7 rfl : World.ownsRow _ 0 3 1 (.slice P pgs.length cp) pgs.length (pgs.flatMap encN))
 refine wp_seq ?_; refine wp_region_lit ?_
 have hE := Env.refl a26 [39, 40, 41, 42, 43, 44, 45, 46, 47, 48, 49, 50, 38]; refine zm 39 hE k e0 ?_; intro a27 hE e39 kp; refine sd 40 hE k (Z17 rfl e39) ?_; intro a28 hE e40 kp; apply Z03 41 hE k rfl rfl rfl rfl; case h =>
  simp [go_sem, ↓IntWalk.iteOmega, ev e40]
  with_reducible rfl
 intro a29 hE e41 kp; refine sd 42 hE k (Z08 O 6 rfl rfl e41 rfl Try.underlying43 rfl) ?_; intro a30 hE e42 kp; refine zm 43 hE k e2 ?_; intro a31 hE e43 kp; replace e42 := kt kp e42; apply Z09 44 hE k rfl (by rfl) (by rfl) rfl
 case h =>
  simp [go_sem, ↓IntWalk.iteOmega, ev e42, ev e43]
  with_reducible exact ⟨rfl, rfl⟩
 case hc => exact Z46 (p : Int) pgs _ rfl hrowN (by omega) hpn
 rintro e w33 ⟨rfl, RE⟩
 replace hrow := hrow.below RE
 replace O := OwnT.ext O RE; refine ⟨_, rfl, ?_⟩
 intro a32 hE e44 kp; refine sd 45 hE k (Z02 rfl e44) ?_; intro a34 hE e45 kp; apply Z04 46 hE k rfl rfl rfl rfl rfl e45
 case h =>
  exact Z1s O 5 rfl rfl (hE.g e9) [.int .u64 ↑f0, .bool fb, .int .u64 ↑h0, .bool hb] rfl Try.underlying179 rfl (by kernel_rfl)
 intro a35 hE e46 kp; replace e45 := kt kp e45; apply Z04 47 hE k rfl rfl rfl rfl rfl e45
 case h =>
  exact Z1s O 0 rfl rfl (hE.g e10) [.int .i64 ↑l, .slice (some ⟨gv, 0, none⟩) xs.length cv] rfl Try.underlying46 rfl (by kernel_rfl)
 intro a36 hE e47 kp; replace e45 := kt kp e45; replace e46 := kt kp e46; apply Z3l 48 hE k rfl (by rfl) (by rfl) rfl rfl e45
 case h =>
  simp [go_sem, ↓IntWalk.iteOmega, ev e46, ev e47]
  with_reducible exact ⟨rfl, rfl⟩
 case hc => exact Z3y _ hrow hxl h15 (fun e => by have := hB.fst e; rw [hk0] at this; injection this) hB.fno (fun e h => by obtain ⟨ys, e1, e2⟩ := h2 e h; rw [hnd] at e1; injection e1 with e1; injection e1 with _ e1; subst e1; exact e2) (fun e => hB.hgh e (_, vk) hkn) hB.hno
 rintro e w38 ⟨rfl, RE⟩
 replace O := OwnT.ext O RE; refine ⟨_, rfl, ?_⟩
 intro a37 hE e48 kp; replace e45 := kt kp e45; apply Z04 49 hE k rfl rfl rfl rfl rfl e45
 case h =>
  exact Z2a rfl e48
 intro a39 hE e49 kp; replace e45 := kt kp e45; refine sd 50 hE k (Z07 rfl e45 e49) ?_; intro a40 hE e50 kp; refine sd 38 hE k (Z01 rfl e50) ?_; intro a41 hE e38 kp; refine wpList_nil ?_; replace e0 := hE.g e0; replace e1 := hE.g e1; replace e2 := hE.g e2; replace e9 := hE.g e9; replace e10 := hE.g e10; replace k := k.env hE; clear hE e11 e32; refine Z00 ?_; refine Z06 e38 rfl ?_
 refine wp_skip ?_; refine Z0u ?_; refine Z00 ?_; clear hrow hrowN; replace O : OwnT _ _ ((tRow 3 1 (.slice P pgs.length cp) pgs.length (pgs.flatMap encN)) :: (tBlk lb 46 #[.int .i64 ↑l, .slice (some ⟨gv, 0, none⟩) xs.length cv]) :: (tPs (.slice (some ⟨gv, 0, none⟩) xs.length cv) xs) :: (tBlk sb 49 #[.slice B N.length cap, .int .i64 room]) :: (tRow 46 2 (.slice B N.length cap) N.length (leafV vs N)) :: (tPool vs N) :: (tBlk bx 179 #[.int .u64 ↑f0, .bool fb, .int .u64 ↑h0, .bool hb]) :: (tBlk gw 157 #[.slice P pgs.length cp, .slice Q prs.length cq, .int .i64 0]) :: (tPs (.slice Q prs.length cq) prs) :: R) w38 := OwnT.pickR (L := [_, _, _, _, _, _, _, _, _]) (R := R) O [7, 0, 1, 2, 3, 4, 5, 6, 8] (by decide)
 refine wp_seq ?_; refine wp_region_lit ?_
 have hE := Env.refl a41 [53, 54, 55, 56, 57, 58, 59, 60, 61, 62]; refine zm 53 hE k e0 ?_; intro a42 hE e53 kp; refine zm 54 hE k e0 ?_; intro a43 hE e54 kp; replace e53 := kt kp e53; refine sd 55 hE k (Z17 rfl e54) ?_; intro a44 hE e55 kp; replace e53 := kt kp e53; apply Z03 56 hE k rfl rfl rfl rfl; case h =>
  simp [go_sem, ↓IntWalk.iteOmega, ev e55]
  with_reducible rfl
 intro a45 hE e56 kp; replace e53 := kt kp e53; refine sd 57 hE k (Z08 O 7 rfl rfl e56 rfl Try.underlying43 rfl) ?_; intro a46 hE e57 kp; replace e53 := kt kp e53; refine zm 58 hE k e2 ?_; intro a47 hE e58 kp; replace e53 := kt kp e53; replace e57 := kt kp e57; refine Z1n (m := 1) (c := 1) O (cs := #[.int .i64 ↑p]) (t := 3) 59 hE k rfl (by rfl) (by rfl) rfl (by simp [go_sem, ↓IntWalk.iteOmega, ev e58]) ?_
 clear O; intro g3 a48 w49 O hE e59 kp; replace e53 := kt kp e53; replace e57 := kt kp e57; obtain ⟨gr, cr, w50, hrun, O⟩ := Z3d O elemIt (by decide) rfl (by intro u hu; simp at hu; subst hu; rfl) (by unfold maxLen; omega) (by omega)
 apply Z1r 60 hE k rfl (by rfl) (by rfl) rfl
 case h => exact Z1e rfl e57 e59 (hrun _)
 clear hrun; intro a51 hE e60 kp; replace e53 := kt kp e53; refine sd 61 hE k (Z17 rfl e53) ?_; intro a52 hE e61 kp; replace e60 := kt kp e60; apply Z03 62 hE k rfl rfl rfl rfl; case h =>
  simp [go_sem, ↓IntWalk.iteOmega, ev e61]
  with_reducible rfl
 intro a53 hE e62 kp; replace e60 := kt kp e60; refine Z1f O 7 0 hE e62 e60 ?_
 clear O; intro w54 O; replace O : OwnT _ _ (_ :: _ :: _ :: _ :: _ :: _ :: _ :: (tBlk gw 157 #[.slice (some ⟨gr, 0, none⟩) ((pgs.length + 1)) cr, .slice Q prs.length cq, .int .i64 0]) :: _) w54 := O
 refine wpList_nil ?_; replace e0 := hE.g e0; replace e1 := hE.g e1; replace e9 := hE.g e9; replace e10 := hE.g e10; replace k := k.env hE; clear hE e2 e38 e60 e62; refine Z00 ?_; have hln : (pgs ++ [p]).length = pgs.length + 1 := by simp
 rw [show pgs.flatMap encN ++ [Value.int .i64 (p : Int)] = (pgs ++ [p]).flatMap encN by simp [encN], ← hln] at O
 have hkk : Kids (Tr N l1) xs L g1 := by
  subst hl1
  obtain ⟨_, _, _, h, hb, e⟩ := tr_at hT hnd
  injection e with _ e
  subst e
  exact Z0i.1 hb

 replace O : OwnT _ _ ((tBlk lb 46 #[.int .i64 ↑l, .slice (some ⟨gv, 0, none⟩) xs.length cv]) :: (tPs (.slice (some ⟨gv, 0, none⟩) xs.length cv) xs) :: (tBlk bx 179 #[.int .u64 ↑f0, .bool fb, .int .u64 ↑h0, .bool hb]) :: (tBlk sb 49 #[.slice B N.length cap, .int .i64 room]) :: (tRow 46 2 (.slice B N.length cap) N.length (leafV vs N)) :: (tPool vs N) :: (tBlk gw 157 #[.slice (some ⟨gr, 0, none⟩) ((pgs ++ [p]).length) cr, .slice Q prs.length cq, .int .i64 0]) :: (tRow 3 1 (.slice (some ⟨gr, 0, none⟩) (pgs ++ [p]).length cr) (pgs ++ [p]).length ((pgs ++ [p]).flatMap encN)) :: (tPs (.slice Q prs.length cq) prs) :: R) w54 := OwnT.pickR (L := [_, _, _, _, _, _, _, _, _]) (R := R) O [1, 2, 6, 3, 4, 5, 7, 0, 8] (by decide)
 refine wp_seq ?_; refine wp_seq ?_; refine wp_region_lit ?_
 have hE := Env.refl a53 [63, 64, 65]; apply Z03 63 hE k rfl rfl rfl rfl; case h =>
  simp [go_sem, ↓IntWalk.iteOmega, ev (hE.g e10)]
  with_reducible rfl
 intro a55 hE e63 kp; refine sd 64 hE k (Z08 O 0 rfl rfl e63 rfl Try.underlying3 rfl) ?_; intro a56 hE e64 kp; refine sd 65 hE k (Z05 (Z12 rfl e64 rfl) (decide_eq_false (by omega))) ?_
 intro a57 hE e65 kp; refine wpList_nil ?_; replace e0 := hE.g e0; replace e1 := hE.g e1; replace e9 := hE.g e9; replace e10 := hE.g e10; replace k := k.env hE; clear hE; refine Z00 ?_; refine Z06 e65 rfl ?_
 refine wp_skip ?_; refine Z00 (wp_seq ?_); refine wp_region_lit ?_
 have hE := Env.refl a57 [76, 77, 78, 79]; apply Z03 76 hE k rfl rfl rfl rfl; case h =>
  simp [go_sem, ↓IntWalk.iteOmega, ev (hE.g e10)]
  with_reducible rfl
 intro a58 hE e76 kp; refine sd 77 hE k (Z08 O 0 rfl rfl e76 rfl Try.underlying44 rfl) ?_; intro a59 hE e77 kp; refine sd 78 hE k (Z0j Try.underlying44 rfl e77) ?_; intro a60 hE e78 kp; replace e77 := kt kp e77; refine sd 79 hE k (Z02 rfl rfl) ?_; intro a61 hE e79 kp; replace e77 := kt kp e77; replace e78 := kt kp e78; refine wpList_nil ?_; replace e0 := hE.g e0; replace e1 := hE.g e1; replace e9 := hE.g e9; replace e10 := hE.g e10; replace k := k.env hE; clear hE e65; refine Z00 ?_; refine wp_block ?_; refine wp_loop (fun a w => Fr 117 a ∧ a.eval (.tmp 0) = .pointer (some ⟨gw, 0, none⟩) ∧ a.eval (.tmp 1) = .iface 47 (.pointer (some ⟨sb, 0, none⟩)) ∧ a.eval (.tmp 9) = .pointer (some ⟨bx, 0, none⟩) ∧ a.eval (.tmp 10) = .pointer (some ⟨lb, 0, none⟩) ∧ a.eval (.tmp 77) = .slice (some ⟨gv, 0, none⟩) xs.length cv ∧ a.eval (.tmp 78) = .int .i64 ↑xs.length ∧ ∃ (i : Nat) (P1 Q1 : Option Addr) (c1 c2 : Nat) (A Bk : List Pr) (LA LB : List (List Pr)) (gA gB : List Nat) (pg : List Nat) (pr : List Pr), a.eval (.tmp 79) = .int .i64 ↑i ∧ A.length = i ∧ xs = A ++ Bk ∧ Kids (Tr N l1) Bk LB gB ∧ L = LA ++ LB ∧ g1 = gA ++ gB ∧ pg = pgs ++ p :: gA ∧ pr = prs ++ LA.flatten ∧ OwnT H A0 ((tBlk lb 46 #[.int .i64 ↑l, .slice (some ⟨gv, 0, none⟩) xs.length cv]) :: (tPs (.slice (some ⟨gv, 0, none⟩) xs.length cv) xs) :: (tBlk bx 179 #[.int .u64 ↑f0, .bool fb, .int .u64 ↑h0, .bool hb]) :: (tBlk sb 49 #[.slice B N.length cap, .int .i64 room]) :: (tRow 46 2 (.slice B N.length cap) N.length (leafV vs N)) :: (tPool vs N) :: (tBlk gw 157 #[.slice P1 pg.length c1, .slice Q1 pr.length c2, .int .i64 0]) :: (tRow 3 1 (.slice P1 pg.length c1) pg.length (pg.flatMap encN)) :: (tPs (.slice Q1 pr.length c2) pr) :: R) w) (fun a w => xs.length - (intOf (a.eval (.tmp 79))).toNat) ?_ ?_
 · exact ⟨k, e0, e1, e9, e10, e77, e78, 0, some ⟨gr, 0, none⟩, Q, cr, cq, [], xs, [], L, [], g1, pgs ++ [p], prs, e79, rfl, rfl, hkk, rfl, rfl, rfl, (by simp), O⟩
 intro a62 w63 hI; clear k e0 e1 e9 e10 e77 e78; obtain ⟨k, e0, e1, e9, e10, e77, e78, h_⟩ := hI
 clear O e79; obtain ⟨i, P1, Q1, c1, c2, A, Bk, LA, LB, gA, gB, pg, pr, e79, hA, hAB, kB, hL, hgg, hpg, hpr, O⟩ := h_
 have mj := e79
 have hxs : xs.length = i + Bk.length := by rw [hAB, List.length_append, hA]
 by_cases hlt : i < xs.length
 · skip
   obtain ⟨x, Bk', rfl⟩ : ∃ x r, Bk = x :: r := by
    cases Bk with
    | nil => simp at hxs; omega
    | cons x r => exact ⟨x, r, rfl⟩
   obtain ⟨L1, gx, L2, g2, kx, hkx, kB2, rfl, rfl⟩ := kB
   have hyk : xs[i]? = some x := by rw [hAB, List.getElem?_append_right (by omega), hA, Nat.sub_self]; rfl
   have hiI : (i : Int) < (xs.length : Int) := by omega
   have hy5 : x.2 ≤ 511 := by obtain ⟨r, e⟩ := Tr.one kx; have := Tr.pages kx x.2 (by rw [e]; simp); omega
   have hLf : L.flatten = LA.flatten ++ (L1.flatten ++ L2.flatten) := by rw [hL, List.flatten_append, List.flatten_append]
   have hu12 : Up (L1.flatten ++ L2.flatten) := by rw [hLf] at hu; exact hu.app.2.1
   have hin : ∀ z ∈ L1.flatten ++ L2.flatten, z ∈ L.flatten := fun z hz => by rw [hLf]; exact List.mem_append.2 (.inr hz)
   have hnod : (pg ++ gx).Nodup := by
    rw [hpg]; rw [hgg] at hgn
    rw [show pgs ++ p :: (gA ++ (gx ++ g2)) = (pgs ++ p :: gA ++ gx) ++ g2 by simp] at hgn
    exact (List.nodup_append.1 hgn).1
   have hgl3 : (pg ++ gx).length ≤ 600 := by rw [hpg]; rw [hgg] at hgl; simp at hgl ⊢; omega
   have hpl3 : pr.length + L1.flatten.length ≤ 100000 := by rw [hpr, List.length_append]; rw [hLf] at hpl; simp only [List.length_append] at hpl; omega
   have hbd := kid_bnd hkx kB2 hu12 (fun e y hy => hB.hgh e y (hin y hy)) hB.hno

   obtain ⟨_, _, e2q, -, -, hrow, -⟩ := Z0x (OwnT.get O 1 rfl : (tPs (.slice (some ⟨gv, 0, none⟩) xs.length cv) xs).holds _)
   injection e2q with e2q _ e3q
   subst e2q e3q
   have d0 : w63.cell? ⟨gv, i * 2, none⟩ = some (.int .u64 (x.1 : Int)) := by
    obtain ⟨b, o, e, _, hc⟩ := hrow i x hyk; injection e with e; injection e with e e'; subst e e'
    have := hc 0 _ rfl; simpa using this
   have d1 : w63.cell? ⟨gv, i * 2 + 1, none⟩ = some (.int .u64 (x.2 : Int)) := by
    obtain ⟨b, o, e, _, hc⟩ := hrow i x hyk; injection e with e; injection e with e e'; subst e e'
    have := hc 1 _ rfl; simpa using this
   clear hrow; refine wp_seq ?_; refine wp_region_lit ?_
   have hE := Env.refl a62 [80]; refine sd 80 hE k (Z05 (Z1d rfl (hE.g e79) (hE.g e78)) (decide_eq_true (by omega))) ?_
   intro a64 hE e80 kp; refine wpList_nil ?_; replace e0 := hE.g e0; replace e1 := hE.g e1; replace e9 := hE.g e9; replace e10 := hE.g e10; replace e77 := hE.g e77; replace e78 := hE.g e78; replace e79 := hE.g e79; replace k := k.env hE; clear hE; refine Z00 (wp_seq ?_); refine Z0h e80 rfl ?_
   refine wp_skip ?_; refine Z00 (wp_seq ?_); refine wp_block ?_; refine wp_seq ?_; refine wp_region_lit ?_
   have hE := Env.refl a64 [81, 82, 83, 13, 12]; refine zm 81 hE k e79 ?_; intro a65 hE e81 kp; apply Z03 82 hE k rfl rfl rfl rfl; case h =>
    simp [go_sem, ↓IntWalk.iteOmega, ev (hE.g e77), ev (hE.g e79)]
    with_reducible rfl
   intro a66 hE e82 kp; replace e81 := kt kp e81; apply Z03 83 hE k rfl rfl rfl rfl; case h =>
    simp [go_sem, ↓IntWalk.iteOmega, ev e82, d0, d1]
    with_reducible rfl
   intro a67 hE e83 kp; replace e81 := kt kp e81; refine Z0k O (cs := #[.int .u64 0, .int .u64 0]) (t := 103) 13 hE k rfl (by rfl) (by rfl) rfl (by simp [go_sem, ↓IntWalk.iteOmega]) ?_
   clear O; intro xb a68 w69 O hE e13 kp; replace e81 := kt kp e81; replace e83 := kt kp e83; refine sd 12 hE k (Z01 rfl e81) ?_; intro a70 hE e12 kp; replace e83 := kt kp e83; replace e13 := kt kp e13; refine Z1f O 0 0 hE e13 e83 ?_
   clear O; intro w71 O; replace O : OwnT _ _ ((tBlk xb 103 #[.int .u64 ↑x.1, .int .u64 ↑x.2]) :: _) w71 := O
   refine wpList_nil ?_; replace e0 := hE.g e0; replace e1 := hE.g e1; replace e9 := hE.g e9; replace e10 := hE.g e10; replace e77 := hE.g e77; replace e78 := hE.g e78; replace e79 := hE.g e79; replace k := k.env hE; clear hE e80 e83; refine Z00 (wp_seq ?_); refine wp_region_lit ?_
   have hE := Env.refl a70 [84, 85, 86, 87, 88, 89, 90, 14]; apply Z03 84 hE k rfl rfl rfl rfl; case h =>
    simp [go_sem, ↓IntWalk.iteOmega, ev (hE.g e13)]
    with_reducible rfl
   intro a72 hE e84 kp; refine sd 85 hE k (Z08 O 0 rfl rfl e84 rfl Try.underlying71 rfl) ?_; intro a73 hE e85 kp; apply Z03 86 hE k rfl rfl rfl rfl; case h =>
    simp [go_sem, ↓IntWalk.iteOmega, ev (hE.g e9)]
    with_reducible rfl
   intro a74 hE e86 kp; replace e85 := kt kp e85; refine sd 87 hE k (Z08 O 3 rfl rfl e86 rfl Try.underlying71 rfl) ?_; intro a75 hE e87 kp; replace e85 := kt kp e85; apply Z03 88 hE k rfl rfl rfl rfl; case h =>
    simp [go_sem, ↓IntWalk.iteOmega, ev (hE.g e9)]
    with_reducible rfl
   intro a76 hE e88 kp; replace e85 := kt kp e85; replace e87 := kt kp e87; refine sd 89 hE k (Z08 O 3 rfl rfl e88 rfl Try.underlying4 rfl) ?_; intro a77 hE e89 kp; replace e85 := kt kp e85; replace e87 := kt kp e87; apply Z03 90 hE k rfl rfl rfl rfl; case h =>
    simp [go_sem, ↓IntWalk.iteOmega, ev e85, ev e87, ev e89]
    with_reducible rfl
   intro a78 hE e90 kp; refine Z0k O (cs := #[.int .u64 0, .bool false, .int .u64 0, .bool false]) (t := 179) 14 hE k rfl (by rfl) (by rfl) rfl (by simp [go_sem, ↓IntWalk.iteOmega]) ?_
   clear O; intro cb a79 w80 O hE e14 kp; replace e90 := kt kp e90; refine Z1f O 0 0 hE e14 e90 ?_
   clear O; intro w81 O; replace O : OwnT _ _ ((tBlk cb 179 #[.int .u64 ↑x.1, .bool true, .int .u64 ↑h0, .bool hb]) :: _) w81 := O
   refine wpList_nil ?_; replace e0 := hE.g e0; replace e1 := hE.g e1; replace e9 := hE.g e9; replace e10 := hE.g e10; replace e12 := hE.g e12; replace e13 := hE.g e13; replace e77 := hE.g e77; replace e78 := hE.g e78; replace e79 := hE.g e79; replace k := k.env hE; clear hE e90; refine Z00 ?_; cases Bk' with
   | nil =>
    have hlast : ¬ (i : Int) + 1 < (xs.length : Int) := by simp at hxs; omega
    refine wp_seq ?_; refine wp_seq ?_; refine wp_region_lit ?_
    have hE := Env.refl a79 [91, 92, 93, 94, 95, 96]; refine zm 91 hE k e12 ?_; intro a82 hE e91 kp; refine sd 92 hE k (Z11 rfl e91 rfl (by omega)) ?_; intro a83 hE e92 kp; apply Z03 93 hE k rfl rfl rfl rfl; case h =>
     simp [go_sem, ↓IntWalk.iteOmega, ev (hE.g e10)]
     with_reducible rfl
    intro a84 hE e93 kp; replace e92 := kt kp e92; refine sd 94 hE k (Z08 O 2 rfl rfl e93 rfl Try.underlying44 rfl) ?_; intro a85 hE e94 kp; replace e92 := kt kp e92; refine sd 95 hE k (Z0j Try.underlying44 rfl e94) ?_; intro a86 hE e95 kp; replace e92 := kt kp e92; refine sd 96 hE k (Z05 (Z1d rfl e92 e95) (decide_eq_false (by omega))) ?_
    intro a87 hE e96 kp; refine wpList_nil ?_; replace e0 := hE.g e0; replace e1 := hE.g e1; replace e9 := hE.g e9; replace e10 := hE.g e10; replace e12 := hE.g e12; replace e13 := hE.g e13; replace e14 := hE.g e14; replace e77 := hE.g e77; replace e78 := hE.g e78; replace e79 := hE.g e79; replace k := k.env hE; clear hE; refine Z00 ?_; refine Z06 e96 rfl ?_
    refine wp_skip ?_; refine Z00 ?_; replace O : OwnT _ _ ((tBlk sb 49 #[.slice B N.length cap, .int .i64 room]) :: (tRow 46 2 (.slice B N.length cap) N.length (leafV vs N)) :: (tPool vs N) :: (tBlk gw 157 #[.slice P1 pg.length c1, .slice Q1 pr.length c2, .int .i64 0]) :: (tRow 3 1 (.slice P1 pg.length c1) pg.length (pg.flatMap encN)) :: (tPs (.slice Q1 pr.length c2) pr) :: (tBlk cb 179 #[.int .u64 ↑x.1, .bool true, .int .u64 ↑h0, .bool hb]) :: (tBlk xb 103 #[.int .u64 ↑x.1, .int .u64 ↑x.2]) :: (tBlk lb 46 #[.int .i64 ↑l, .slice (some ⟨gv, 0, none⟩) xs.length cv]) :: (tPs (.slice (some ⟨gv, 0, none⟩) xs.length cv) xs) :: (tBlk bx 179 #[.int .u64 ↑f0, .bool fb, .int .u64 ↑h0, .bool hb]) :: R) w81 := OwnT.pickR (L := [_, _, _, _, _, _, _, _, _, _, _]) (R := R) O [5, 6, 7, 8, 9, 10, 0, 1, 2, 3, 4] (by decide)
    refine wp_region_lit ?_
    have hE := Env.refl a87 [106, 107, 108, 109, 110, 111, 112, 113, 114, 115]; refine zm 106 hE k e0 ?_; intro a88 hE e106 kp; refine zm 107 hE k e1 ?_; intro a89 hE e107 kp; replace e106 := kt kp e106; apply Z03 108 hE k rfl rfl rfl rfl; case h =>
     simp [go_sem, ↓IntWalk.iteOmega, ev (hE.g e13)]
     with_reducible rfl
    intro a90 hE e108 kp; replace e106 := kt kp e106; replace e107 := kt kp e107; refine sd 109 hE k (Z08 O 7 rfl rfl e108 rfl Try.underlying71 rfl) ?_; intro a91 hE e109 kp; replace e106 := kt kp e106; replace e107 := kt kp e107; refine sd 110 hE k (Z2r rfl e109 (Z2g x.2 _ (by omega))) ?_
    intro a92 hE e110 kp; replace e106 := kt kp e106; replace e107 := kt kp e107; apply Z03 111 hE k rfl rfl rfl rfl; case h =>
     simp [go_sem, ↓IntWalk.iteOmega, ev (hE.g e10)]
     with_reducible rfl
    intro a93 hE e111 kp; replace e106 := kt kp e106; replace e107 := kt kp e107; replace e110 := kt kp e110; refine sd 112 hE k (Z08 O 8 rfl rfl e111 rfl Try.underlying3 rfl) ?_; intro a94 hE e112 kp; replace e106 := kt kp e106; replace e107 := kt kp e107; replace e110 := kt kp e110; refine sd 113 hE k (Z1c (v := .int .i64 (l1 : Int)) (Z5q rfl e112 rfl (by omega)) (Z0s (by omega))) ?_
    intro a95 hE e113 kp; replace e106 := kt kp e106; replace e107 := kt kp e107; replace e110 := kt kp e110; refine sd 114 hE k (Z1s O 6 rfl rfl (hE.g e14) [.int .u64 ↑x.1, .bool true, .int .u64 ↑h0, .bool hb] rfl Try.underlying179 rfl (by kernel_rfl)) ?_; intro a96 hE e114 kp; replace e106 := kt kp e106; replace e107 := kt kp e107; replace e110 := kt kp e110; replace e113 := kt kp e113; apply Z09 115 hE k rfl (by rfl) (by rfl) rfl
    case h =>
     simp [go_sem, ↓IntWalk.iteOmega, ev e106, ev e107, ev e110, ev e113, ev e114]
     with_reducible exact ⟨rfl, rfl⟩
    case hc => exact ih (R := (tBlk cb 179 #[.int .u64 ↑x.1, .bool true, .int .u64 ↑h0, .bool hb] :: (tBlk xb 103 #[.int .u64 ↑x.1, .int .u64 ↑x.2]) :: (tBlk lb 46 #[.int .i64 ↑l, .slice (some ⟨gv, 0, none⟩) xs.length cv]) :: (tPs (.slice (some ⟨gv, 0, none⟩) xs.length cv) xs) :: (tBlk bx 179 #[.int .u64 ↑f0, .bool fb, .int .u64 ↑h0, .bool hb]) :: R)) (p := x.2) (q0 := (l1 : Int)) _ O kx hu12.app.1 (by omega) hN (fun y hy => hwf y (hin y (List.mem_append.2 (.inl hy)))) (.inr rfl) hbd (fun h => by cases h) hnod hgl3 hpl3
    clear O; rintro e w98 ⟨rfl, P2, Q2, c3, c4, O⟩
    refine ⟨_, rfl, ?_⟩
    intro a97 hE e115 kp; refine wpList_nil ?_; replace e0 := hE.g e0; replace e1 := hE.g e1; replace e9 := hE.g e9; replace e10 := hE.g e10; replace e77 := hE.g e77; replace e78 := hE.g e78; replace e79 := hE.g e79; replace k := k.env hE; clear hE e12 e13 e14 e96 e115; refine Z0u ?_; refine Z00 ?_; refine wp_region_lit ?_
    have hE := Env.refl a97 [116, 79]; refine sd 116 hE k (Z11 rfl e79 rfl (by omega)) ?_; intro a99 hE e116 kp; replace e79 := kt kp e79; refine sd 79 hE k (Z02 rfl e116) ?_; intro a100 hE e79 kp; refine wpList_nil ?_; replace e0 := hE.g e0; replace e1 := hE.g e1; replace e9 := hE.g e9; replace e10 := hE.g e10; replace e77 := hE.g e77; replace e78 := hE.g e78; replace k := k.env hE; clear hE; refine Z00 ?_; replace O : OwnT _ _ ((tBlk lb 46 #[.int .i64 ↑l, .slice (some ⟨gv, 0, none⟩) xs.length cv]) :: (tPs (.slice (some ⟨gv, 0, none⟩) xs.length cv) xs) :: (tBlk bx 179 #[.int .u64 ↑f0, .bool fb, .int .u64 ↑h0, .bool hb]) :: (tBlk sb 49 #[.slice B N.length cap, .int .i64 room]) :: (tRow 46 2 (.slice B N.length cap) N.length (leafV vs N)) :: (tPool vs N) :: (tBlk gw 157 #[.slice P2 (((pg ++ gx)).length) c3, .slice Q2 (((pr ++ L1.flatten)).length) c4, .int .i64 0]) :: (tRow 3 1 (.slice P2 ((pg ++ gx)).length c3) ((pg ++ gx)).length (((pg ++ gx)).flatMap encN)) :: (tPs (.slice Q2 ((pr ++ L1.flatten)).length c4) ((pr ++ L1.flatten))) :: R) w98 := OwnT.pickR (L := [_, _, _, _, _, _, _, _, _, _, _]) (R := R) O [8, 9, 10, 0, 1, 2, 3, 4, 5] (by decide)
    refine ⟨⟨k, e0, e1, e9, e10, e77, e78, i + 1, P2, Q2, c3, c4, A ++ [x], [], LA ++ L1, L2, gA ++ gx, g2, pg ++ gx, pr ++ L1.flatten, e79, by rw [List.length_append, hA]; rfl, by rw [hAB]; simp, kB2, by rw [hL, List.append_assoc], by rw [hgg, List.append_assoc], by rw [hpg]; simp, by rw [hpr]; simp, O⟩, ?_⟩
    rw [e79, mj]; simp only [intOf]; omega
   | cons z zs =>
    have hlast : (i : Int) + 1 < (xs.length : Int) := by simp at hxs; omega
    have hzk : xs[i + 1]? = some z := by rw [hAB, List.getElem?_append_right (by omega), hA, show i + 1 - i = 1 by omega]; rfl
    obtain ⟨_, _, e2q, -, -, hrow, -⟩ := Z0x (OwnT.get O 3 rfl : (tPs (.slice (some ⟨gv, 0, none⟩) xs.length cv) xs).holds _)
    injection e2q with e2q _ e3q
    subst e2q e3q
    have d2 : w81.cell? ⟨gv, (i + 1) * 2, none⟩ = some (.int .u64 (z.1 : Int)) := by
     obtain ⟨b, o, e, _, hc⟩ := hrow (i + 1) z hzk; injection e with e; injection e with e e'; subst e e'
     have := hc 0 _ rfl; simpa using this
    refine wp_seq ?_; refine wp_seq ?_; refine wp_region_lit ?_
    have hE := Env.refl a79 [91, 92, 93, 94, 95, 96]; refine zm 91 hE k e12 ?_; intro a101 hE e91 kp; refine sd 92 hE k (Z11 rfl e91 rfl (by omega)) ?_; intro a102 hE e92 kp; apply Z03 93 hE k rfl rfl rfl rfl; case h =>
     simp [go_sem, ↓IntWalk.iteOmega, ev (hE.g e10)]
     with_reducible rfl
    intro a103 hE e93 kp; replace e92 := kt kp e92; refine sd 94 hE k (Z08 O 2 rfl rfl e93 rfl Try.underlying44 rfl) ?_; intro a104 hE e94 kp; replace e92 := kt kp e92; refine sd 95 hE k (Z0j Try.underlying44 rfl e94) ?_; intro a105 hE e95 kp; replace e92 := kt kp e92; refine sd 96 hE k (Z05 (Z1d rfl e92 e95) (decide_eq_true (by omega))) ?_
    intro a106 hE e96 kp; refine wpList_nil ?_; replace e0 := hE.g e0; replace e1 := hE.g e1; replace e9 := hE.g e9; replace e10 := hE.g e10; replace e12 := hE.g e12; replace e13 := hE.g e13; replace e14 := hE.g e14; replace e77 := hE.g e77; replace e78 := hE.g e78; replace e79 := hE.g e79; replace k := k.env hE; clear hE; refine Z00 ?_; refine Z0h e96 rfl ?_
    refine wp_region_lit ?_
    have hE := Env.refl a106 [97, 98, 99, 100, 101, 102, 103, 104, 105]; apply Z03 97 hE k rfl rfl rfl rfl; case h =>
     simp [go_sem, ↓IntWalk.iteOmega, ev (hE.g e10)]
     with_reducible rfl
    intro a107 hE e97 kp; refine sd 98 hE k (Z08 O 2 rfl rfl e97 rfl Try.underlying44 rfl) ?_; intro a108 hE e98 kp; refine zm 99 hE k e12 ?_; intro a109 hE e99 kp; replace e98 := kt kp e98; refine sd 100 hE k (Z11 rfl e99 rfl (by omega)) ?_; intro a110 hE e100 kp; replace e98 := kt kp e98; apply Z03 101 hE k rfl rfl rfl rfl; case h =>
     simp [go_sem, ↓IntWalk.iteOmega, ev e98, ev e100]
     with_reducible rfl
    intro a111 hE e101 kp; apply Z03 102 hE k rfl rfl rfl rfl; case h =>
     simp [go_sem, ↓IntWalk.iteOmega, ev e101]
     with_reducible rfl
    intro a112 hE e102 kp; apply Z03 103 hE k rfl rfl rfl rfl; case h =>
     simp [go_sem, ↓IntWalk.iteOmega, ev e102, d2]
     with_reducible rfl
    intro a113 hE e103 kp; apply Z03 104 hE k rfl rfl rfl rfl; case h =>
     simp [go_sem, ↓IntWalk.iteOmega, ev (hE.g e14)]
     with_reducible rfl
    intro a114 hE e104 kp; replace e103 := kt kp e103; refine Z1f O 0 2 hE e104 e103 ?_
    clear O; intro w115 O; replace O : OwnT _ _ ((tBlk cb 179 #[.int .u64 ↑x.1, .bool true, .int .u64 ↑z.1, .bool hb]) :: _) w115 := O
    apply Z03 105 hE k rfl rfl rfl rfl; case h =>
     simp [go_sem, ↓IntWalk.iteOmega, ev (hE.g e14)]
     with_reducible rfl
    intro a116 hE e105 kp; refine Z1f O 0 3 hE e105 rfl ?_
    clear O; intro w117 O; replace O : OwnT _ _ ((tBlk cb 179 #[.int .u64 ↑x.1, .bool true, .int .u64 ↑z.1, .bool true]) :: _) w117 := O
    refine wpList_nil ?_; replace e0 := hE.g e0; replace e1 := hE.g e1; replace e9 := hE.g e9; replace e10 := hE.g e10; replace e13 := hE.g e13; replace e14 := hE.g e14; replace e77 := hE.g e77; replace e78 := hE.g e78; replace e79 := hE.g e79; replace k := k.env hE; clear hE e12 e96 e105; refine Z00 ?_; replace O : OwnT _ _ ((tBlk sb 49 #[.slice B N.length cap, .int .i64 room]) :: (tRow 46 2 (.slice B N.length cap) N.length (leafV vs N)) :: (tPool vs N) :: (tBlk gw 157 #[.slice P1 pg.length c1, .slice Q1 pr.length c2, .int .i64 0]) :: (tRow 3 1 (.slice P1 pg.length c1) pg.length (pg.flatMap encN)) :: (tPs (.slice Q1 pr.length c2) pr) :: (tBlk cb 179 #[.int .u64 ↑x.1, .bool true, .int .u64 ↑z.1, .bool true]) :: (tBlk xb 103 #[.int .u64 ↑x.1, .int .u64 ↑x.2]) :: (tBlk lb 46 #[.int .i64 ↑l, .slice (some ⟨gv, 0, none⟩) xs.length cv]) :: (tPs (.slice (some ⟨gv, 0, none⟩) xs.length cv) xs) :: (tBlk bx 179 #[.int .u64 ↑f0, .bool fb, .int .u64 ↑h0, .bool hb]) :: R) w117 := OwnT.pickR (L := [_, _, _, _, _, _, _, _, _, _, _]) (R := R) O [5, 6, 7, 8, 9, 10, 0, 1, 2, 3, 4] (by decide)
    refine wp_region_lit ?_
    have hE := Env.refl a116 [106, 107, 108, 109, 110, 111, 112, 113, 114, 115]; refine zm 106 hE k e0 ?_; intro a118 hE e106 kp; refine zm 107 hE k e1 ?_; intro a119 hE e107 kp; replace e106 := kt kp e106; apply Z03 108 hE k rfl rfl rfl rfl; case h =>
     simp [go_sem, ↓IntWalk.iteOmega, ev (hE.g e13)]
     with_reducible rfl
    intro a120 hE e108 kp; replace e106 := kt kp e106; replace e107 := kt kp e107; refine sd 109 hE k (Z08 O 7 rfl rfl e108 rfl Try.underlying71 rfl) ?_; intro a121 hE e109 kp; replace e106 := kt kp e106; replace e107 := kt kp e107; refine sd 110 hE k (Z2r rfl e109 (Z2g x.2 _ (by omega))) ?_
    intro a122 hE e110 kp; replace e106 := kt kp e106; replace e107 := kt kp e107; apply Z03 111 hE k rfl rfl rfl rfl; case h =>
     simp [go_sem, ↓IntWalk.iteOmega, ev (hE.g e10)]
     with_reducible rfl
    intro a123 hE e111 kp; replace e106 := kt kp e106; replace e107 := kt kp e107; replace e110 := kt kp e110; refine sd 112 hE k (Z08 O 8 rfl rfl e111 rfl Try.underlying3 rfl) ?_; intro a124 hE e112 kp; replace e106 := kt kp e106; replace e107 := kt kp e107; replace e110 := kt kp e110; refine sd 113 hE k (Z1c (v := .int .i64 (l1 : Int)) (Z5q rfl e112 rfl (by omega)) (Z0s (by omega))) ?_
    intro a125 hE e113 kp; replace e106 := kt kp e106; replace e107 := kt kp e107; replace e110 := kt kp e110; refine sd 114 hE k (Z1s O 6 rfl rfl (hE.g e14) [.int .u64 ↑x.1, .bool true, .int .u64 ↑z.1, .bool true] rfl Try.underlying179 rfl (by kernel_rfl)) ?_; intro a126 hE e114 kp; replace e106 := kt kp e106; replace e107 := kt kp e107; replace e110 := kt kp e110; replace e113 := kt kp e113; apply Z09 115 hE k rfl (by rfl) (by rfl) rfl
    case h =>
     simp [go_sem, ↓IntWalk.iteOmega, ev e106, ev e107, ev e110, ev e113, ev e114]
     with_reducible exact ⟨rfl, rfl⟩
    case hc => exact ih (R := (tBlk cb 179 #[.int .u64 ↑x.1, .bool true, .int .u64 ↑z.1, .bool true] :: (tBlk xb 103 #[.int .u64 ↑x.1, .int .u64 ↑x.2]) :: (tBlk lb 46 #[.int .i64 ↑l, .slice (some ⟨gv, 0, none⟩) xs.length cv]) :: (tPs (.slice (some ⟨gv, 0, none⟩) xs.length cv) xs) :: (tBlk bx 179 #[.int .u64 ↑f0, .bool fb, .int .u64 ↑h0, .bool hb]) :: R)) (p := x.2) (q0 := (l1 : Int)) _ O kx hu12.app.1 (by omega) hN (fun y hy => hwf y (hin y (List.mem_append.2 (.inl hy)))) (.inr rfl) hbd (fun h => by cases h) hnod hgl3 hpl3
    clear O; rintro e w128 ⟨rfl, P2, Q2, c3, c4, O⟩
    refine ⟨_, rfl, ?_⟩
    intro a127 hE e115 kp; refine wpList_nil ?_; replace e0 := hE.g e0; replace e1 := hE.g e1; replace e9 := hE.g e9; replace e10 := hE.g e10; replace e77 := hE.g e77; replace e78 := hE.g e78; replace e79 := hE.g e79; replace k := k.env hE; clear hE e13 e14 e115; refine Z0u ?_; refine Z00 ?_; refine wp_region_lit ?_
    have hE := Env.refl a127 [116, 79]; refine sd 116 hE k (Z11 rfl e79 rfl (by omega)) ?_; intro a129 hE e116 kp; replace e79 := kt kp e79; refine sd 79 hE k (Z02 rfl e116) ?_; intro a130 hE e79 kp; refine wpList_nil ?_; replace e0 := hE.g e0; replace e1 := hE.g e1; replace e9 := hE.g e9; replace e10 := hE.g e10; replace e77 := hE.g e77; replace e78 := hE.g e78; replace k := k.env hE; clear hE; refine Z00 ?_; replace O : OwnT _ _ ((tBlk lb 46 #[.int .i64 ↑l, .slice (some ⟨gv, 0, none⟩) xs.length cv]) :: (tPs (.slice (some ⟨gv, 0, none⟩) xs.length cv) xs) :: (tBlk bx 179 #[.int .u64 ↑f0, .bool fb, .int .u64 ↑h0, .bool hb]) :: (tBlk sb 49 #[.slice B N.length cap, .int .i64 room]) :: (tRow 46 2 (.slice B N.length cap) N.length (leafV vs N)) :: (tPool vs N) :: (tBlk gw 157 #[.slice P2 (((pg ++ gx)).length) c3, .slice Q2 (((pr ++ L1.flatten)).length) c4, .int .i64 0]) :: (tRow 3 1 (.slice P2 ((pg ++ gx)).length c3) ((pg ++ gx)).length (((pg ++ gx)).flatMap encN)) :: (tPs (.slice Q2 ((pr ++ L1.flatten)).length c4) ((pr ++ L1.flatten))) :: R) w128 := OwnT.pickR (L := [_, _, _, _, _, _, _, _, _, _, _]) (R := R) O [8, 9, 10, 0, 1, 2, 3, 4, 5] (by decide)
    refine ⟨⟨k, e0, e1, e9, e10, e77, e78, i + 1, P2, Q2, c3, c4, A ++ [x], z :: zs, LA ++ L1, L2, gA ++ gx, g2, pg ++ gx, pr ++ L1.flatten, e79, by rw [List.length_append, hA]; rfl, by rw [hAB]; simp, kB2, by rw [hL, List.append_assoc], by rw [hgg, List.append_assoc], by rw [hpg]; simp, by rw [hpr]; simp, O⟩, ?_⟩
    rw [e79, mj]; simp only [intOf]; omega
 · skip
   obtain rfl : Bk = [] := List.eq_nil_of_length_eq_zero (by omega)
   obtain ⟨rfl, rfl⟩ := kB

   refine wp_seq ?_; refine wp_region_lit ?_
   have hE := Env.refl a62 [80]; refine sd 80 hE k (Z05 (Z1d rfl (hE.g e79) (hE.g e78)) (decide_eq_false (by omega))) ?_
   intro a131 hE e80 kp; refine wpList_nil ?_; replace e0 := hE.g e0; replace e1 := hE.g e1; replace e9 := hE.g e9; replace e10 := hE.g e10; replace e77 := hE.g e77; replace e78 := hE.g e78; replace e79 := hE.g e79; replace k := k.env hE; clear hE; refine Z00 (wp_seq ?_); refine Z06 e80 rfl ?_
   refine wp_exit ?_
   refine Z1g ?_
   refine Z1g ?_
   refine Z1q ?_
   rw [List.append_nil] at hL hgg
   subst hL hgg hpg hpr
   refine end_F0 rfl k ?_
   exact ⟨rfl, P1, Q1, c1, c2, OwnT.pickR (L := [_, _, _, _, _, _, _, _, _]) (R := R) O [3, 4, 5, 6, 7, 8] (by decide)⟩
theorem wnode : ∀ l, WalkOk l
 | 0 => fun w O hT hu h7 hN hwf h0l hB h2 hgn hgl hpl => Z8b w O hT hu h7 hN hwf h0l hB h2 hgn hgl hpl rfl
 | l + 1 => fun w O hT hu h7 hN hwf h0l hB h2 hgn hgl hpl => Z8a w O hT hu h7 hN hwf h0l hB h2 hgn hgl hpl rfl (wnode l)
end Go.Proofs.Ytbfgacmfjfbooaa
