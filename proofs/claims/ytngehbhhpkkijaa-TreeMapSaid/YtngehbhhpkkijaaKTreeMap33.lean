/- trees' reference: look, Look (printed by XTrLo.gen.py). -/
import Derived.Test.YtngehbhhpkkijaaKTreeMap32
namespace Go.Proofs.Ytngehbhhpkkijaa
attribute [local simp] BigFrame.eval_const BigFrame.eval_global BigFrame.eval_func
set_option linter.unusedVariables false
set_option linter.unusedSimpArgs false
open Go.RowKit Go.Maps

/-- A tree looked at: its block, its pages, its pairs. -/
abbrev tTe (gw cp cq : Nat) (P Q : Option Addr) (pgs : List Nat) (prs : List Pr) (R : List Thing) : List Thing :=
 tBlk gw 53 #[.slice P pgs.length cp, .slice Q prs.length cq, .bool false] :: tNs (.slice P pgs.length cp) pgs :: tPs (.slice Q prs.length cq) prs :: R
theorem Z6b {H : Nat} {A w : World} {R : List Thing} {sb cap : Nat} {room : Int} {B : Option Addr} {vs : List Value} {N : List Nd} (h : OwnT H A (shT sb room B cap vs N R) w) {i : Nat} {nd : Nd} (hi : N[i]? = some nd) : ∃ g Bv cv, B = some ⟨g, 0, none⟩ ∧ vs[i]? = some (.slice Bv nd.2.length cv) ∧ w.cell? ⟨g, i * 2, none⟩ = some (.int .i64 (nd.1 : Nat)) ∧ w.cell? ⟨g, i * 2 + 1, none⟩ = some (.slice Bv nd.2.length cv) := by
 obtain ⟨h1, h2, h3, _⟩ := h.all
 obtain ⟨v, hv, c0, c1⟩ := Z52 h3.1 hi
 have hil := (List.getElem?_eq_some_iff.1 hi).1
 obtain ⟨g, cap', cur, e, hg, _, _, hcs, htk⟩ := Z11 h2 (by omega)
 injection e with e1 _ e3
 subst e1 e3
 obtain ⟨Bv, cv, rfl, _⟩ := Z0n (h3.2 i v nd hv hi)
 refine ⟨g, Bv, cv, rfl, hv, ?_, ?_⟩
 · rw [hg.cell, ← c0, ← htk, List.getElem?_take_of_lt (by omega)]; simp
 · rw [hg.cell, ← c1, ← htk, List.getElem?_take_of_lt (by omega)]; simp
theorem Z2j {w : World} {vs : List Value} {N : List Nd} {i l cv : Nat} {Bv : Option Addr} {xs : List Pr} (h : (tPool vs N).holds w) (hv : vs[i]? = some (.slice Bv xs.length cv)) (hi : N[i]? = some (l, xs)) (hx : 0 < xs.length) : ∃ g, Bv = some ⟨g, 0, none⟩ ∧ Row w Bv 2 pairC xs := by
 have h2 : (tPs (.slice Bv xs.length cv) xs).holds w := h.2 i _ _ hv hi
 obtain ⟨B', c', e, _, _, h4, _⟩ := Z0n h2
 obtain ⟨g, c2, _, e2, _⟩ := Z11 (h2 : World.ownsRow _ 0 38 2 _ xs.length _) hx
 injection e with e
 injection e2 with e2
 subst e
 exact ⟨g, e2, h4⟩
theorem Z3b {N : List Nd} {l p : Nat} {L : List (List Pr)} {g : List Nat} {xs : List Pr} (hT : Tr N l p L g) (hp : ndAt N p = some (l, xs)) (hN : N.length ≤ 511) (h0 : 0 < l) : ∀ y ∈ xs, 1 ≤ y.2 ∧ y.2 ≤ 511 := by
 obtain ⟨_, _, _, h, hb, _⟩ := Z4t hT hp
 obtain ⟨l, rfl⟩ : ∃ m, l = m + 1 := ⟨l - 1, by omega⟩
 intro y hy
 obtain ⟨A, Bk, rfl⟩ := List.append_of_mem hy
 obtain ⟨_, _, Lx, gx, _, _, _, h2, _⟩ := (Z0i.1 hb).at_
 obtain ⟨r, e⟩ := Tr.one (h2 : Tr N l y.2 Lx gx)
 have := Tr.pages (h2 : Tr N l y.2 Lx gx) y.2 (by rw [e]; simp)
 omega
theorem Z5h {xs : List Pr} {y : Pr} (h : xs[0]? = some y) : keyAt xs 0 = y.1 := by unfold keyAt; rw [List.getD, h]; rfl
/-- A node's keys are keys of its leaves. -/
theorem Z5f {N : List Nd} {l p : Nat} {L : List (List Pr)} {g : List Nat} {xs : List Pr} (hT : Tr N l p L g) (hp : ndAt N p = some (l, xs)) (hu : Up L.flatten) : ∀ y ∈ xs, ∃ v, (y.1, v) ∈ L.flatten := by
 obtain ⟨_, hx, h15, h, hb, rfl⟩ := Z4t hT hp
 intro y hy
 cases l with
 | zero =>
  obtain ⟨rfl, _⟩ := Z0l.1 hb
  rw [if_neg hx]
  exact ⟨y.2, by simpa using hy⟩
 | succ l => exact ((Z0i.1 hb).up hu).2 y hy

def LookOk (l : Nat) : Prop := ∀ {H : Nat} {A0 : World} {R : List Thing} {sb cap : Nat} {room : Int} {B : Option Addr} {vs : List Value} {N : List Nd} {gw cp cq p f0 h0 : Nat} {q0 : Int} {P Q : Option Addr} {pgs : List Nat} {prs : List Pr} {hb : Bool} {L : List (List Pr)} {g : List Nat} (w : World) (O : OwnT H A0 (shT sb room B cap vs N (tTe gw cp cq P Q pgs prs R)) w) (hT : Tr N l p L g) (hu : Up L.flatten) (h7 : l ≤ 7) (hN : N.length ≤ 511) (hwf : ∀ y ∈ L.flatten, y.1 < 18446744073709551616 ∧ y.2 < 18446744073709551616) (hh : hb = true → ∀ y ∈ L.flatten, y.1 < h0) (h0l : (q0 = l ∧ hdk L = some f0) ∨ (q0 = -1 ∧ (0 < l → ∃ xs, ndAt N p = some (l, xs) ∧ 2 ≤ xs.length))) (hgn : (pgs ++ g).Nodup) (hgl : (pgs ++ g).length ≤ 600) (hpl : prs.length + L.flatten.length ≤ 100000), Calls Try.prog 64 #[.pointer (some ⟨gw, 0, none⟩), .slice B N.length cap, .int .i64 p, .int .i64 q0, .int .u64 f0, .bool hb, .int .u64 h0] w fun e w' => e = .returned (.tuple #[]) ∧ ∃ P' Q' cp' cq', OwnT H A0 (shT sb room B cap vs N (tTe gw cp' cq' P' Q' (pgs ++ g) (prs ++ L.flatten) R)) w'
set_option maxRecDepth 100000 in
set_option maxHeartbeats 4000000 in
theorem Z83 {l : Nat} {H : Nat} {A0 : World} {R : List Thing} {sb cap : Nat} {room : Int} {B : Option Addr} {vs : List Value} {N : List Nd} {gw cp cq p f0 h0 : Nat} {q0 : Int} {P Q : Option Addr} {pgs : List Nat} {prs : List Pr} {hb : Bool} {L : List (List Pr)} {g : List Nat} (w : World) (O : OwnT H A0 (shT sb room B cap vs N (tTe gw cp cq P Q pgs prs R)) w) (hT : Tr N l p L g) (hu : Up L.flatten) (h7 : l ≤ 7) (hN : N.length ≤ 511) (hwf : ∀ y ∈ L.flatten, y.1 < 18446744073709551616 ∧ y.2 < 18446744073709551616) (hh : hb = true → ∀ y ∈ L.flatten, y.1 < h0) (h0l : (q0 = l ∧ hdk L = some f0) ∨ (q0 = -1 ∧ (0 < l → ∃ xs, ndAt N p = some (l, xs) ∧ 2 ≤ xs.length))) (hgn : (pgs ++ g).Nodup) (hgl : (pgs ++ g).length ≤ 600) (hpl : prs.length + L.flatten.length ≤ 100000) (hl0 : l = 0) : Calls Try.prog 64 #[.pointer (some ⟨gw, 0, none⟩), .slice B N.length cap, .int .i64 p, .int .i64 q0, .int .u64 f0, .bool hb, .int .u64 h0] w fun e w' => e = .returned (.tuple #[]) ∧ ∃ P' Q' cp' cq', OwnT H A0 (shT sb room B cap vs N (tTe gw cp' cq' P' Q' (pgs ++ g) (prs ++ L.flatten) R)) w' := by
 obtain ⟨xs, hnd, hne, h15, hux, -, hxw⟩ := Z28 hT hu (by omega) hN hwf
 have hxl := List.length_pos_iff.2 hne
 obtain ⟨hk0, -⟩ := Z4s hT hnd hu
 obtain ⟨x0, hx0⟩ : ∃ x, xs[0]? = some x := ⟨_, List.getElem?_eq_getElem hxl⟩
 rw [Z5h hx0] at hk0
 obtain ⟨g1, hg1⟩ := Tr.one hT
 subst hg1
 have hpn : ∀ y ∈ pgs, ((y : Nat) : Int) ≠ (p : Int) := fun y hy e => (List.nodup_append.1 hgn).2.2 y hy p (by simp) (by omega)
 have hgl2 : pgs.length + 1 ≤ 600 := by rw [List.length_append, List.length_cons] at hgl; omega
 obtain ⟨hp1, hp2⟩ := Z33 hnd
 obtain ⟨ip, rfl⟩ : ∃ i, p = i + 1 := ⟨p - 1, by omega⟩
 have hip : N[ip]? = some (l, xs) := by have h := hnd; unfold ndAt at h; rwa [if_neg (by omega), Nat.add_sub_cancel] at h
 have hipI : (ip : Int) < (N.length : Int) := by omega

 refine Z0e Try.func64 rfl 189 rfl (by rfl) ?_
 intro a1 k hargs
 have e0 : a1.eval (.tmp 0) = .pointer (some ⟨gw, 0, none⟩) := hargs 0 _ rfl
 have e1 : a1.eval (.tmp 1) = .slice B N.length cap := hargs 1 _ rfl
 have e2 : a1.eval (.tmp 2) = .int .i64 (↑(ip + 1)) := hargs 2 _ rfl
 have e3 : a1.eval (.tmp 3) = .int .i64 q0 := hargs 3 _ rfl
 have e4 : a1.eval (.tmp 4) = .int .u64 ↑f0 := hargs 4 _ rfl
 have e5 : a1.eval (.tmp 5) = .bool hb := hargs 5 _ rfl
 have e6 : a1.eval (.tmp 6) = .int .u64 ↑h0 := hargs 6 _ rfl
 clear hargs
 refine wp_seq ?_
 refine wp_seq ?_
 refine wp_region_lit ?_
 have hE := Env.refl a1 [18, 19, 20, 21, 22, 23, 24, 25, 26, 27, 28, 29, 30, 31]
 refine sm 18 hE k e0 ?_
 intro a2 hE e18 kp
 refine sd 19 hE k (Z14 rfl e18) ?_
 intro a3 hE e19 kp
 apply Z03 20 hE k rfl rfl rfl rfl
 case h =>
  simp [go_sem, ↓IntWalk.iteOmega, ev e19]
  with_reducible rfl
 intro a4 hE e20 kp
 apply Z03 21 hE k rfl rfl rfl rfl
 case h =>
  have q0 : w.cell? ⟨gw, 2, none⟩ = some (.bool false) := (OwnT.blk O 3 rfl).cell 2
  simp [go_sem, ↓IntWalk.iteOmega, ev e20, q0]
  with_reducible rfl
 intro a5 hE e21 kp
 refine sd 22 hE k (Z04 rfl e21) ?_
 intro a6 hE e22 kp
 apply Z02 23 hE k rfl rfl rfl rfl rfl e22
 case h =>
  exact Z04 rfl (hE.g e2)
 intro a7 hE e23 kp
 replace e22 := kt kp e22
 apply Z02 24 hE k rfl rfl rfl rfl rfl e22
 case h =>
  exact Z06 (Z0r rfl e23 rfl) (decide_eq_false (by omega))
 intro a8 hE e24 kp
 replace e22 := kt kp e22
 refine sd 25 hE k (Z05 rfl e22 e24) ?_
 intro a9 hE e25 kp
 refine sd 26 hE k (Z04 rfl e25) ?_
 intro a10 hE e26 kp
 apply Z02 27 hE k rfl rfl rfl rfl rfl e26
 case h =>
  exact Z04 rfl (hE.g e2)
 intro a11 hE e27 kp
 replace e26 := kt kp e26
 apply Z02 28 hE k rfl rfl rfl rfl rfl e26
 case h =>
  exact Z04 rfl (hE.g e1)
 intro a12 hE e28 kp
 replace e26 := kt kp e26; replace e27 := kt kp e27
 apply Z02 29 hE k rfl rfl rfl rfl rfl e26
 case h =>
  exact Z0d Try.underlying26 rfl e28
 intro a13 hE e29 kp
 replace e26 := kt kp e26; replace e27 := kt kp e27
 apply Z02 30 hE k rfl rfl rfl rfl rfl e26
 case h =>
  exact Z06 (Z17 rfl e27 e29) (decide_eq_false (by omega))
 intro a14 hE e30 kp
 replace e26 := kt kp e26
 refine sd 31 hE k (Z05 rfl e26 e30) ?_
 intro a15 hE e31 kp
 refine wpList_nil ?_
 replace e0 := hE.g e0; replace e1 := hE.g e1; replace e2 := hE.g e2; replace e3 := hE.g e3; replace e4 := hE.g e4; replace e5 := hE.g e5; replace e6 := hE.g e6
 replace k := k.env hE
 clear hE
 refine Z01 ?_
 refine Z08 e31 rfl ?_
 refine wp_skip ?_
 refine Z01 (wp_seq ?_)
 refine wp_seq ?_
 refine wp_region_lit ?_
 have hE := Env.refl a15 [14]
 refine sd 14 hE k (Z00 rfl rfl) ?_
 intro a16 hE e14 kp
 refine wpList_nil ?_
 replace e0 := hE.g e0; replace e1 := hE.g e1; replace e2 := hE.g e2; replace e3 := hE.g e3; replace e4 := hE.g e4; replace e5 := hE.g e5; replace e6 := hE.g e6
 replace k := k.env hE
 clear hE e31
 refine Z01 ?_
 refine wp_block ?_
 refine wp_loop (fun a w => Fr 189 a ∧ a.eval (.tmp 0) = .pointer (some ⟨gw, 0, none⟩) ∧ a.eval (.tmp 1) = .slice B N.length cap ∧ a.eval (.tmp 2) = .int .i64 (↑(ip + 1)) ∧ a.eval (.tmp 3) = .int .i64 q0 ∧ a.eval (.tmp 4) = .int .u64 ↑f0 ∧ a.eval (.tmp 5) = .bool hb ∧ a.eval (.tmp 6) = .int .u64 ↑h0 ∧ ∃ (z : Nat), a.eval (.tmp 14) = .int .i64 ↑z ∧ z ≤ pgs.length ∧ OwnT H A0 ((tBlk sb 28 #[.slice B N.length cap, .int .i64 room]) :: (tRow 125 2 (.slice B N.length cap) N.length (leafV vs N)) :: (tPool vs N) :: (tBlk gw 53 #[.slice P pgs.length cp, .slice Q prs.length cq, .bool false]) :: (tRow 3 1 (.slice P pgs.length cp) pgs.length (pgs.flatMap encN)) :: (tPs (.slice Q prs.length cq) prs) :: R) w) (fun a w => pgs.length - (intOf (a.eval (.tmp 14))).toNat) ?_ ?_
 · exact ⟨k, e0, e1, e2, e3, e4, e5, e6, 0, e14, Nat.zero_le _, O⟩
 intro a17 w18 hI
 clear k e0 e1 e2 e3 e4 e5 e6
 obtain ⟨k, e0, e1, e2, e3, e4, e5, e6, h_⟩ := hI
 clear O e14
 obtain ⟨z, e14, hz, O⟩ := h_
 have mz := e14
 by_cases hlt : z < pgs.length
 · have hltI : (z : Int) < (pgs.length : Int) := by omega
   obtain ⟨y, hy⟩ : ∃ y, pgs[z]? = some y := ⟨_, List.getElem?_eq_getElem hlt⟩
   have hyn := hpn y (List.mem_of_getElem? hy)
   obtain ⟨bp, op, e, cz⟩ := Z31 (Z3m (enc := encN) (fun _ => rfl) Nat.one_pos (OwnT.get O 4 rfl : World.ownsRow _ 0 3 1 (.slice P pgs.length cp) pgs.length (pgs.flatMap encN))) (Below.refl _ _) hy
   subst e

   refine wp_seq ?_
   refine wp_seq ?_
   refine wp_region_lit ?_
   have hE := Env.refl a17 [35, 36, 37, 38, 39, 40, 41]
   refine sm 35 hE k e14 ?_
   intro a19 hE e35 kp
   refine sm 36 hE k e0 ?_
   intro a20 hE e36 kp
   replace e35 := kt kp e35
   refine sd 37 hE k (Z14 rfl e36) ?_
   intro a21 hE e37 kp
   replace e35 := kt kp e35
   apply Z03 38 hE k rfl rfl rfl rfl
   case h =>
    simp [go_sem, ↓IntWalk.iteOmega, ev e37]
    with_reducible rfl
   intro a22 hE e38 kp
   replace e35 := kt kp e35
   apply Z03 39 hE k rfl rfl rfl rfl
   case h =>
    have q0 : w18.cell? ⟨gw, 0, none⟩ = some (.slice (some ⟨bp, op, none⟩) pgs.length cp) := (OwnT.blk O 3 rfl).cell 0
    simp [go_sem, ↓IntWalk.iteOmega, ev e38, q0]
    with_reducible rfl
   intro a23 hE e39 kp
   replace e35 := kt kp e35
   refine sd 40 hE k (Z0d Try.underlying51 rfl e39) ?_
   intro a24 hE e40 kp
   replace e35 := kt kp e35
   refine sd 41 hE k (Z06 (Z0r rfl e35 e40) (decide_eq_true (by omega))) ?_
   intro a25 hE e41 kp
   refine wpList_nil ?_
   replace e0 := hE.g e0; replace e1 := hE.g e1; replace e2 := hE.g e2; replace e3 := hE.g e3; replace e4 := hE.g e4; replace e5 := hE.g e5; replace e6 := hE.g e6; replace e14 := hE.g e14
   replace k := k.env hE
   clear hE
   refine Z01 ?_
   refine Z0b e41 rfl ?_
   refine wp_skip ?_
   refine Z01 (wp_seq ?_)
   refine wp_block ?_
   refine wp_seq ?_
   refine wp_region_lit ?_
   have hE := Env.refl a25 [44, 45, 46, 47, 48, 49, 50, 51, 52]
   refine sm 44 hE k e0 ?_
   intro a26 hE e44 kp
   refine sd 45 hE k (Z14 rfl e44) ?_
   intro a27 hE e45 kp
   apply Z03 46 hE k rfl rfl rfl rfl
   case h =>
    simp [go_sem, ↓IntWalk.iteOmega, ev e45]
    with_reducible rfl
   intro a28 hE e46 kp
   apply Z03 47 hE k rfl rfl rfl rfl
   case h =>
    have q0 : w18.cell? ⟨gw, 0, none⟩ = some (.slice (some ⟨bp, op, none⟩) pgs.length cp) := (OwnT.blk O 3 rfl).cell 0
    simp [go_sem, ↓IntWalk.iteOmega, ev e46, q0]
    with_reducible rfl
   intro a29 hE e47 kp
   refine sm 48 hE k e14 ?_
   intro a30 hE e48 kp
   replace e47 := kt kp e47
   apply Z03 49 hE k rfl rfl rfl rfl
   case h =>
    simp [go_sem, ↓IntWalk.iteOmega, ev e47, ev e48]
    with_reducible rfl
   intro a31 hE e49 kp
   apply Z03 50 hE k rfl rfl rfl rfl
   case h =>
    simp [go_sem, ↓IntWalk.iteOmega, ev e49, cz]
    with_reducible rfl
   intro a32 hE e50 kp
   refine sm 51 hE k e2 ?_
   intro a33 hE e51 kp
   replace e50 := kt kp e50
   refine sd 52 hE k (Z06 (Z0k rfl e50 e51) (decide_eq_false (by omega))) ?_
   intro a34 hE e52 kp
   refine wpList_nil ?_
   replace e0 := hE.g e0; replace e1 := hE.g e1; replace e2 := hE.g e2; replace e3 := hE.g e3; replace e4 := hE.g e4; replace e5 := hE.g e5; replace e6 := hE.g e6; replace e14 := hE.g e14
   replace k := k.env hE
   clear hE e41
   refine Z01 ?_
   refine Z08 e52 rfl ?_
   refine wp_skip ?_
   refine Z0f ?_
   refine Z01 ?_
   refine wp_region_lit ?_
   have hE := Env.refl a34 [42, 43, 14]
   refine sd 42 hE k (Z04 rfl e14) ?_
   intro a35 hE e42 kp
   replace e14 := kt kp e14
   refine sd 43 hE k (Z0v rfl e42 rfl (by omega)) ?_
   intro a36 hE e43 kp
   replace e14 := kt kp e14
   refine sd 14 hE k (Z00 rfl e43) ?_
   intro a37 hE e14 kp
   refine wpList_nil ?_
   replace e0 := hE.g e0; replace e1 := hE.g e1; replace e2 := hE.g e2; replace e3 := hE.g e3; replace e4 := hE.g e4; replace e5 := hE.g e5; replace e6 := hE.g e6
   replace k := k.env hE
   clear hE e52
   refine Z01 ?_
   refine ⟨⟨k, e0, e1, e2, e3, e4, e5, e6, z + 1, e14, by omega, O⟩, ?_⟩
   rw [e14, mz]; simp only [intOf]; omega
 · clear mz
   refine wp_seq ?_
   refine wp_seq ?_
   refine wp_region_lit ?_
   have hE := Env.refl a17 [35, 36, 37, 38, 39, 40, 41]
   refine sm 35 hE k e14 ?_
   intro a38 hE e35 kp
   refine sm 36 hE k e0 ?_
   intro a39 hE e36 kp
   replace e35 := kt kp e35
   refine sd 37 hE k (Z14 rfl e36) ?_
   intro a40 hE e37 kp
   replace e35 := kt kp e35
   apply Z03 38 hE k rfl rfl rfl rfl
   case h =>
    simp [go_sem, ↓IntWalk.iteOmega, ev e37]
    with_reducible rfl
   intro a41 hE e38 kp
   replace e35 := kt kp e35
   apply Z03 39 hE k rfl rfl rfl rfl
   case h =>
    have q0 : w18.cell? ⟨gw, 0, none⟩ = some (.slice P pgs.length cp) := (OwnT.blk O 3 rfl).cell 0
    simp [go_sem, ↓IntWalk.iteOmega, ev e38, q0]
    with_reducible rfl
   intro a42 hE e39 kp
   replace e35 := kt kp e35
   refine sd 40 hE k (Z0d Try.underlying51 rfl e39) ?_
   intro a43 hE e40 kp
   replace e35 := kt kp e35
   refine sd 41 hE k (Z06 (Z0r rfl e35 e40) (decide_eq_false (by omega))) ?_
   intro a44 hE e41 kp
   refine wpList_nil ?_
   replace e0 := hE.g e0; replace e1 := hE.g e1; replace e2 := hE.g e2; replace e3 := hE.g e3; replace e4 := hE.g e4; replace e5 := hE.g e5; replace e6 := hE.g e6; replace e14 := hE.g e14
   replace k := k.env hE
   clear hE
   refine Z01 ?_
   refine Z08 e41 rfl ?_
   refine wp_exit ?_
   refine Z0q ?_
   refine Z0q ?_
   refine Z13 ?_
   refine Z01 ?_
   replace O : OwnT _ _ ((tRow 3 1 (.slice P pgs.length cp) pgs.length (pgs.flatMap encN)) :: (tBlk gw 53 #[.slice P pgs.length cp, .slice Q prs.length cq, .bool false]) :: (tBlk sb 28 #[.slice B N.length cap, .int .i64 room]) :: (tRow 125 2 (.slice B N.length cap) N.length (leafV vs N)) :: (tPool vs N) :: (tPs (.slice Q prs.length cq) prs) :: R) w18 := OwnT.pickR (L := [_, _, _, _, _, _]) (R := R) O [4, 3, 0, 1, 2, 5] (by decide)
   refine wp_seq ?_
   refine wp_region_lit ?_
   have hE := Env.refl a44 [56, 57, 58, 59, 60, 61, 62, 63, 64, 65]
   refine sm 56 hE k e0 ?_
   intro a45 hE e56 kp
   refine sm 57 hE k e0 ?_
   intro a46 hE e57 kp
   replace e56 := kt kp e56
   refine sd 58 hE k (Z14 rfl e57) ?_
   intro a47 hE e58 kp
   replace e56 := kt kp e56
   apply Z03 59 hE k rfl rfl rfl rfl
   case h =>
    simp [go_sem, ↓IntWalk.iteOmega, ev e58]
    with_reducible rfl
   intro a48 hE e59 kp
   replace e56 := kt kp e56
   apply Z03 60 hE k rfl rfl rfl rfl
   case h =>
    have q0 : w18.cell? ⟨gw, 0, none⟩ = some (.slice P pgs.length cp) := (OwnT.blk O 1 rfl).cell 0
    simp [go_sem, ↓IntWalk.iteOmega, ev e59, q0]
    with_reducible rfl
   intro a49 hE e60 kp
   replace e56 := kt kp e56
   refine sm 61 hE k e2 ?_
   intro a50 hE e61 kp
   replace e56 := kt kp e56; replace e60 := kt kp e60
   refine Z18 (m := 1) (c := 1) O (cs := #[.int .i64 (↑(ip + 1))]) (t := 3) 62 hE k rfl (by rfl) (by rfl) rfl (by simp [go_sem, ↓IntWalk.iteOmega, ev e61]) ?_
   clear O
   intro g3 a51 w52 O hE e62 kp
   replace e56 := kt kp e56; replace e60 := kt kp e60
   obtain ⟨gr, cr, w53, hrun, O⟩ := Z1y O elemIt (by decide) rfl (by intro u hu; simp at hu; subst hu; rfl) (by unfold maxLen; omega) (by omega)
   apply Z1p 63 hE k rfl (by rfl) (by rfl) rfl
   case h => exact Z15 rfl e60 e62 (hrun _)
   clear hrun
   intro a54 hE e63 kp
   replace e56 := kt kp e56
   refine sd 64 hE k (Z14 rfl e56) ?_
   intro a55 hE e64 kp
   replace e63 := kt kp e63
   apply Z03 65 hE k rfl rfl rfl rfl
   case h =>
    simp [go_sem, ↓IntWalk.iteOmega, ev e64]
    with_reducible rfl
   intro a56 hE e65 kp
   replace e63 := kt kp e63
   have q0 : w53.cell? ⟨gw, 0, none⟩ = some (.slice P pgs.length cp) := (OwnT.blk O 1 rfl).cell 0
   have q1 : w53.frozen? ⟨gw, 0, none⟩ = false := (OwnT.blk O 1 rfl).frozen 0
   refine Z1n (off := 0) (v := .slice (some ⟨gr, 0, none⟩) ((pgs.length + 1)) cr) O 1 rfl hE rfl rfl (by simp [go_sem, ↓IntWalk.iteOmega, ev e63, ev e65, q0, q1]) ?_
   clear q0 q1
   clear O
   intro w57 O
   replace O : OwnT _ _ ((tRow 3 1 (.slice (some ⟨gr, 0, none⟩) ((pgs.length + 1)) cr) (pgs.length + 1) ((pgs.flatMap encN) ++ [Value.int .i64 ((ip + 1 : Nat) : Int)])) :: (tBlk gw 53 #[.slice (some ⟨gr, 0, none⟩) ((pgs.length + 1)) cr, .slice Q prs.length cq, .bool false]) :: (tBlk sb 28 #[.slice B N.length cap, .int .i64 room]) :: (tRow 125 2 (.slice B N.length cap) N.length (leafV vs N)) :: (tPool vs N) :: (tPs (.slice Q prs.length cq) prs) :: R) w57 := O
   refine wpList_nil ?_
   replace e0 := hE.g e0; replace e1 := hE.g e1; replace e2 := hE.g e2; replace e3 := hE.g e3; replace e4 := hE.g e4; replace e5 := hE.g e5; replace e6 := hE.g e6
   replace k := k.env hE
   clear hE e14 e41 e63 e65
   refine Z01 ?_
   have hln : (pgs ++ [ip + 1]).length = pgs.length + 1 := by simp
   rw [show pgs.flatMap encN ++ [Value.int .i64 ((ip + 1 : Nat) : Int)] = (pgs ++ [ip + 1]).flatMap encN by simp [encN], ← hln] at O
   replace O : OwnT _ _ ((tBlk sb 28 #[.slice B N.length cap, .int .i64 room]) :: (tRow 125 2 (.slice B N.length cap) N.length (leafV vs N)) :: (tPool vs N) :: (tBlk gw 53 #[.slice (some ⟨gr, 0, none⟩) (((pgs ++ [ip + 1])).length) cr, .slice Q prs.length cq, .bool false]) :: (tRow 3 1 (.slice (some ⟨gr, 0, none⟩) ((pgs ++ [ip + 1])).length cr) ((pgs ++ [ip + 1])).length (((pgs ++ [ip + 1])).flatMap encN)) :: (tPs (.slice Q prs.length cq) prs) :: R) w57 := OwnT.pickR (L := [_, _, _, _, _, _]) (R := R) O [2, 3, 4, 1, 0, 5] (by decide)
   obtain ⟨gB, Bv, cv, eB, hvv, c0, c1⟩ := Z6b O hip
   subst eB
   obtain ⟨gv, ev, -⟩ := Z2j (OwnT.get O 2 rfl) hvv hip hxl
   subst ev
   refine wp_seq ?_
   refine wp_region_lit ?_
   have hE := Env.refl a56 [66, 67, 68, 69, 70, 15]
   refine sm 66 hE k e1 ?_
   intro a58 hE e66 kp
   refine sm 67 hE k e2 ?_
   intro a59 hE e67 kp
   replace e66 := kt kp e66
   refine sd 68 hE k (Z2l rfl e67 rfl (by omega)) ?_
   intro a60 hE e68 kp
   replace e66 := kt kp e66
   replace e68 := e68.trans (Z0u (show ((ip + 1 : Nat) : Int) - 1 = (ip : Int) by omega))
   apply Z03 69 hE k rfl rfl rfl rfl
   case h =>
    simp [go_sem, ↓IntWalk.iteOmega, ev e66, ev e68]
    with_reducible rfl
   intro a61 hE e69 kp
   apply Z03 70 hE k rfl rfl rfl rfl
   case h =>
    simp [go_sem, ↓IntWalk.iteOmega, ev e69, c0, c1]
    with_reducible rfl
   intro a62 hE e70 kp
   refine Z0m O (cs := #[.int .i64 0, .slice none 0 0]) (t := 125) 15 hE k rfl (by rfl) (by rfl) rfl (by simp [go_sem, ↓IntWalk.iteOmega]) ?_
   clear O
   intro nb a63 w64 O hE e15 kp
   replace e70 := kt kp e70
   have q0 : w64.cell? ⟨nb, 0, none⟩ = some (.int .i64 0) := (OwnT.blk O 0 rfl).cell 0
   have z0 : w64.frozen? ⟨nb, 0, none⟩ = false := (OwnT.blk O 0 rfl).frozen 0
   have q1 : w64.cell? ⟨nb, 1, none⟩ = some (.slice none 0 0) := (OwnT.blk O 0 rfl).cell 1
   have z1 : w64.frozen? ⟨nb, 1, none⟩ = false := (OwnT.blk O 0 rfl).frozen 1
   refine Z0o (w' := ((w64.setCell ⟨nb, 0, none⟩ (.int .i64 ↑l)).setCell ⟨nb, 1, none⟩ (.slice (some ⟨gv, 0, none⟩) xs.length cv))) hE rfl rfl (by simp [go_sem, ↓IntWalk.iteOmega, ev e15, ev e70, q0, z0, q1, z1]) ?_
   replace O := OwnT.push 0 rfl (((OwnT.pull O 0 rfl).set 0 (.int .i64 ↑l)).set 1 (.slice (some ⟨gv, 0, none⟩) xs.length cv))
   clear q0 z0 q1 z1
   generalize ((w64.setCell ⟨nb, 0, none⟩ (.int .i64 ↑l)).setCell ⟨nb, 1, none⟩ (.slice (some ⟨gv, 0, none⟩) xs.length cv)) = w65 at O ⊢
   replace O : OwnT _ _ ((tBlk nb 125 #[.int .i64 ↑l, .slice (some ⟨gv, 0, none⟩) xs.length cv]) :: (tBlk sb 28 #[.slice (some ⟨gB, 0, none⟩) N.length cap, .int .i64 room]) :: (tRow 125 2 (.slice (some ⟨gB, 0, none⟩) N.length cap) N.length (leafV vs N)) :: (tPool vs N) :: (tBlk gw 53 #[.slice (some ⟨gr, 0, none⟩) (((pgs ++ [ip + 1])).length) cr, .slice Q prs.length cq, .bool false]) :: (tRow 3 1 (.slice (some ⟨gr, 0, none⟩) ((pgs ++ [ip + 1])).length cr) ((pgs ++ [ip + 1])).length (((pgs ++ [ip + 1])).flatMap encN)) :: (tPs (.slice Q prs.length cq) prs) :: R) w65 := O
   refine wpList_nil ?_
   replace e0 := hE.g e0; replace e1 := hE.g e1; replace e3 := hE.g e3; replace e4 := hE.g e4; replace e5 := hE.g e5; replace e6 := hE.g e6
   replace k := k.env hE
   clear hE e2 e70
   refine Z01 ?_
   clear c0 c1
   refine Z43 (fun a w => Fr 189 a ∧ a.eval (.tmp 0) = .pointer (some ⟨gw, 0, none⟩) ∧ a.eval (.tmp 1) = .slice (some ⟨gB, 0, none⟩) N.length cap ∧ a.eval (.tmp 5) = .bool hb ∧ a.eval (.tmp 6) = .int .u64 ↑h0 ∧ a.eval (.tmp 15) = .pointer (some ⟨nb, 0, none⟩) ∧ ∃ (_ : Unit), OwnT H A0 ((tBlk nb 125 #[.int .i64 ↑l, .slice (some ⟨gv, 0, none⟩) xs.length cv]) :: (tBlk sb 28 #[.slice (some ⟨gB, 0, none⟩) N.length cap, .int .i64 room]) :: (tRow 125 2 (.slice (some ⟨gB, 0, none⟩) N.length cap) N.length (leafV vs N)) :: (tPool vs N) :: (tBlk gw 53 #[.slice (some ⟨gr, 0, none⟩) (((pgs ++ [ip + 1])).length) cr, .slice Q prs.length cq, .bool false]) :: (tRow 3 1 (.slice (some ⟨gr, 0, none⟩) ((pgs ++ [ip + 1])).length cr) ((pgs ++ [ip + 1])).length (((pgs ++ [ip + 1])).flatMap encN)) :: (tPs (.slice Q prs.length cq) prs) :: R) w) ?_ ?_
   · skip
     obtain ⟨_, _, hrow⟩ := Z2j (OwnT.get O 3 rfl) hvv hip hxl
     rcases h0l with ⟨rfl, hq1⟩ | ⟨rfl, hq1⟩
     · have hf0 : x0.1 = f0 := by rw [hq1] at hk0; injection hk0 with h; exact h.symm
       refine wp_seq ?_
       refine wp_region_lit ?_
       have hE := Env.refl a63 [71, 72, 73, 74, 75, 76, 77, 78, 79, 80, 81, 82, 83, 84, 85, 86, 87, 88, 89, 90, 91, 92, 93, 94, 95, 96, 97, 98, 99, 100, 101, 102, 103, 104, 105, 106, 107, 108, 109, 110, 111, 112, 113]
       apply Z03 71 hE k rfl rfl rfl rfl
       case h =>
        have q0 : w65.cell? ⟨nb, 0, none⟩ = some (.int .i64 ↑l) := (OwnT.blk O 0 rfl).cell 0
        have q1 : w65.cell? ⟨nb, 1, none⟩ = some (.slice (some ⟨gv, 0, none⟩) xs.length cv) := (OwnT.blk O 0 rfl).cell 1
        simp [go_sem, ↓IntWalk.iteOmega, ev (hE.g e15), q0, q1]
        with_reducible rfl
       intro a66 hE e71 kp
       apply Z09 72 hE k rfl (by rfl) (by rfl) rfl
       case h =>
        simp [go_sem, ↓IntWalk.iteOmega, ev e71]
        with_reducible exact ⟨rfl, rfl⟩
       case hc => exact Z36 _ hrow hxl h15 hux h7 (Z3b hT hnd hN)
       rintro e w68 ⟨rfl, RE⟩
       replace hrow := hrow.below RE
       obtain ⟨_, _, e, k0, -⟩ := Z1q hrow (Below.refl _ _) hx0
       injection e with e; injection e with e e'; subst e e'
       replace O := OwnT.ext O RE
       refine ⟨_, rfl, ?_⟩
       intro a67 hE e72 kp
       refine sd 73 hE k (Z1a rfl e72) ?_
       intro a69 hE e73 kp
       refine sd 74 hE k (Z04 rfl e73) ?_
       intro a70 hE e74 kp
       apply Z02 75 hE k rfl rfl rfl rfl rfl e74
       case h =>
        simp [go_sem, ↓IntWalk.iteOmega, ev (hE.g e15)]
        with_reducible rfl
       intro a71 hE e75 kp
       replace e74 := kt kp e74
       apply Z02 76 hE k rfl rfl rfl rfl rfl e74
       case h =>
        have q0 : w68.cell? ⟨nb, 1, none⟩ = some (.slice (some ⟨gv, 0, none⟩) xs.length cv) := (OwnT.blk O 0 rfl).cell 1
        simp [go_sem, ↓IntWalk.iteOmega, ev e75, q0]
        with_reducible rfl
       intro a72 hE e76 kp
       replace e74 := kt kp e74
       apply Z02 77 hE k rfl rfl rfl rfl rfl e74
       case h =>
        exact Z0d Try.underlying29 rfl e76
       intro a73 hE e77 kp
       replace e74 := kt kp e74
       apply Z02 78 hE k rfl rfl rfl rfl rfl e74
       case h =>
        exact Z06 (Z0k rfl e77 rfl) (decide_eq_false (by omega))
       intro a74 hE e78 kp
       replace e74 := kt kp e74
       refine sd 79 hE k (Z05 rfl e74 e78) ?_
       intro a75 hE e79 kp
       refine sd 80 hE k (Z04 rfl e79) ?_
       intro a76 hE e80 kp
       apply Z02 81 hE k rfl rfl rfl rfl rfl e80
       case h =>
        exact Z04 rfl (hE.g e3)
       intro a77 hE e81 kp
       replace e80 := kt kp e80
       apply Z02 82 hE k rfl rfl rfl rfl rfl e80
       case h =>
        exact Z06 (Z29 rfl e81 rfl) (decide_eq_true (by omega))
       intro a78 hE e82 kp
       replace e80 := kt kp e80
       apply Z02 83 hE k rfl rfl rfl rfl rfl e80
       case h =>
        exact Z04 rfl e82
       intro a79 hE e83 kp
       replace e80 := kt kp e80
       apply Z02 84 hE k rfl rfl rfl rfl rfl e83
       case h =>
        simp [go_sem, ↓IntWalk.iteOmega, ev (hE.g e15)]
        with_reducible rfl
       intro a80 hE e84 kp
       replace e80 := kt kp e80; replace e83 := kt kp e83
       apply Z02 85 hE k rfl rfl rfl rfl rfl e83
       case h =>
        have q0 : w68.cell? ⟨nb, 0, none⟩ = some (.int .i64 ↑l) := (OwnT.blk O 0 rfl).cell 0
        simp [go_sem, ↓IntWalk.iteOmega, ev e84, q0]
        with_reducible rfl
       intro a81 hE e85 kp
       replace e80 := kt kp e80; replace e83 := kt kp e83
       apply Z02 86 hE k rfl rfl rfl rfl rfl e83
       case h =>
        exact Z04 rfl (hE.g e3)
       intro a82 hE e86 kp
       replace e80 := kt kp e80; replace e83 := kt kp e83; replace e85 := kt kp e85
       apply Z02 87 hE k rfl rfl rfl rfl rfl e83
       case h =>
        exact Z06 (Z0j rfl e85 e86) (decide_eq_false (fun h => h rfl))
       intro a83 hE e87 kp
       replace e80 := kt kp e80; replace e83 := kt kp e83
       apply Z02 88 hE k rfl rfl rfl rfl rfl e83
       case h =>
        exact Z04 rfl e87
       intro a84 hE e88 kp
       replace e80 := kt kp e80; replace e83 := kt kp e83
       apply Z02 89 hE k rfl rfl rfl rfl rfl e88
       case h =>
        simp [go_sem, ↓IntWalk.iteOmega, ev (hE.g e15)]
        with_reducible rfl
       intro a85 hE e89 kp
       replace e80 := kt kp e80; replace e83 := kt kp e83; replace e88 := kt kp e88
       apply Z02 90 hE k rfl rfl rfl rfl rfl e88
       case h =>
        have q0 : w68.cell? ⟨nb, 1, none⟩ = some (.slice (some ⟨gv, 0, none⟩) xs.length cv) := (OwnT.blk O 0 rfl).cell 1
        simp [go_sem, ↓IntWalk.iteOmega, ev e89, q0]
        with_reducible rfl
       intro a86 hE e90 kp
       replace e80 := kt kp e80; replace e83 := kt kp e83; replace e88 := kt kp e88
       apply Z02 91 hE k rfl rfl rfl rfl rfl e88
       case h =>
        simp [go_sem, ↓IntWalk.iteOmega, ev e90]
        with_reducible rfl
       intro a87 hE e91 kp
       replace e80 := kt kp e80; replace e83 := kt kp e83; replace e88 := kt kp e88
       apply Z02 92 hE k rfl rfl rfl rfl rfl e88
       case h =>
        simp [go_sem, ↓IntWalk.iteOmega, ev e91]
        with_reducible rfl
       intro a88 hE e92 kp
       replace e80 := kt kp e80; replace e83 := kt kp e83; replace e88 := kt kp e88
       apply Z02 93 hE k rfl rfl rfl rfl rfl e88
       case h =>
        simp [go_sem, ↓IntWalk.iteOmega, ev e92, k0]
        with_reducible rfl
       intro a89 hE e93 kp
       replace e80 := kt kp e80; replace e83 := kt kp e83; replace e88 := kt kp e88
       apply Z02 94 hE k rfl rfl rfl rfl rfl e88
       case h =>
        exact Z04 rfl (hE.g e4)
       intro a90 hE e94 kp
       replace e80 := kt kp e80; replace e83 := kt kp e83; replace e88 := kt kp e88; replace e93 := kt kp e93
       apply Z02 95 hE k rfl rfl rfl rfl rfl e88
       case h =>
        exact Z06 (Z0j rfl e93 e94) (decide_eq_false (fun h => h (by rw [hf0])))
       intro a91 hE e95 kp
       replace e80 := kt kp e80; replace e83 := kt kp e83; replace e88 := kt kp e88
       apply Z02 96 hE k rfl rfl rfl rfl rfl e83
       case h =>
        exact Z05 rfl e88 e95
       intro a92 hE e96 kp
       replace e80 := kt kp e80; replace e83 := kt kp e83
       apply Z02 97 hE k rfl rfl rfl rfl rfl e80
       case h =>
        exact Z0a rfl e83 e96
       intro a93 hE e97 kp
       replace e80 := kt kp e80
       refine sd 98 hE k (Z05 rfl e80 e97) ?_
       intro a94 hE e98 kp
       refine sd 99 hE k (Z04 rfl e98) ?_
       intro a95 hE e99 kp
       apply Z02 100 hE k rfl rfl rfl rfl rfl e99
       case h =>
        exact Z04 rfl (hE.g e3)
       intro a96 hE e100 kp
       replace e99 := kt kp e99
       apply Z02 101 hE k rfl rfl rfl rfl rfl e99
       case h =>
        exact Z06 (Z0r rfl e100 rfl) (decide_eq_false (by omega))
       intro a97 hE e101 kp
       replace e99 := kt kp e99
       apply Z02 102 hE k rfl rfl rfl rfl rfl e99
       case h =>
        exact Z04 rfl e101
       intro a98 hE e102 kp
       replace e99 := kt kp e99
       refine Z07 103 hE k rfl (by rfl) (by rfl) rfl rfl (.inl e102) ?_
       intro a99 hE e103 kp
       replace e99 := kt kp e99; replace e102 := kt kp e102
       refine Z07 104 hE k rfl (by rfl) (by rfl) rfl rfl (.inl e102) ?_
       intro a100 hE e104 kp
       replace e99 := kt kp e99; replace e102 := kt kp e102
       refine Z07 105 hE k rfl (by rfl) (by rfl) rfl rfl (.inl e102) ?_
       intro a101 hE e105 kp
       replace e99 := kt kp e99; replace e102 := kt kp e102
       apply Z02 106 hE k rfl rfl rfl rfl rfl e99
       case h =>
        exact Z05 rfl e102 rfl
       intro a102 hE e106 kp
       replace e99 := kt kp e99
       apply Z02 107 hE k rfl rfl rfl rfl rfl e99
       case h =>
        exact Z04 rfl e106
       intro a103 hE e107 kp
       replace e99 := kt kp e99
       refine Z07 108 hE k rfl (by rfl) (by rfl) rfl rfl (.inl e107) ?_
       intro a104 hE e108 kp
       replace e99 := kt kp e99; replace e107 := kt kp e107
       refine Z07 109 hE k rfl (by rfl) (by rfl) rfl rfl (.inl e107) ?_
       intro a105 hE e109 kp
       replace e99 := kt kp e99; replace e107 := kt kp e107
       refine Z07 110 hE k rfl (by rfl) (by rfl) rfl rfl (.inl e107) ?_
       intro a106 hE e110 kp
       replace e99 := kt kp e99; replace e107 := kt kp e107
       refine Z07 111 hE k rfl (by rfl) (by rfl) rfl rfl (.inl e107) ?_
       intro a107 hE e111 kp
       replace e99 := kt kp e99; replace e107 := kt kp e107
       apply Z02 112 hE k rfl rfl rfl rfl rfl e99
       case h =>
        exact Z05 rfl e107 rfl
       intro a108 hE e112 kp
       replace e99 := kt kp e99
       refine sd 113 hE k (Z05 rfl e99 e112) ?_
       intro a109 hE e113 kp
       refine wpList_nil ?_
       replace e0 := hE.g e0; replace e1 := hE.g e1; replace e5 := hE.g e5; replace e6 := hE.g e6; replace e15 := hE.g e15
       replace k := k.env hE
       clear hE e3 e4
       refine Z01 ?_
       refine Z08 e113 rfl ?_
       refine wp_skip ?_
       refine Z01 ?_
       exact ⟨k, e0, e1, e5, e6, e15, (), O⟩
     · skip
       refine wp_seq ?_
       refine wp_region_lit ?_
       have hE := Env.refl a63 [71, 72, 73, 74, 75, 76, 77, 78, 79, 80, 81, 82, 83, 84, 85, 86, 87, 88, 89, 90, 91, 92, 93, 94, 95, 96, 97, 98, 99, 100, 101, 102, 103, 104, 105, 106, 107, 108, 109, 110, 111, 112, 113]
       apply Z03 71 hE k rfl rfl rfl rfl
       case h =>
        have q0 : w65.cell? ⟨nb, 0, none⟩ = some (.int .i64 ↑l) := (OwnT.blk O 0 rfl).cell 0
        have q1 : w65.cell? ⟨nb, 1, none⟩ = some (.slice (some ⟨gv, 0, none⟩) xs.length cv) := (OwnT.blk O 0 rfl).cell 1
        simp [go_sem, ↓IntWalk.iteOmega, ev (hE.g e15), q0, q1]
        with_reducible rfl
       intro a110 hE e71 kp
       apply Z09 72 hE k rfl (by rfl) (by rfl) rfl
       case h =>
        simp [go_sem, ↓IntWalk.iteOmega, ev e71]
        with_reducible exact ⟨rfl, rfl⟩
       case hc => exact Z36 _ hrow hxl h15 hux h7 (Z3b hT hnd hN)
       rintro e w112 ⟨rfl, RE⟩
       replace hrow := hrow.below RE
       obtain ⟨_, _, e, k0, -⟩ := Z1q hrow (Below.refl _ _) hx0
       injection e with e; injection e with e e'; subst e e'
       replace O := OwnT.ext O RE
       refine ⟨_, rfl, ?_⟩
       intro a111 hE e72 kp
       refine sd 73 hE k (Z1a rfl e72) ?_
       intro a113 hE e73 kp
       refine sd 74 hE k (Z04 rfl e73) ?_
       intro a114 hE e74 kp
       apply Z02 75 hE k rfl rfl rfl rfl rfl e74
       case h =>
        simp [go_sem, ↓IntWalk.iteOmega, ev (hE.g e15)]
        with_reducible rfl
       intro a115 hE e75 kp
       replace e74 := kt kp e74
       apply Z02 76 hE k rfl rfl rfl rfl rfl e74
       case h =>
        have q0 : w112.cell? ⟨nb, 1, none⟩ = some (.slice (some ⟨gv, 0, none⟩) xs.length cv) := (OwnT.blk O 0 rfl).cell 1
        simp [go_sem, ↓IntWalk.iteOmega, ev e75, q0]
        with_reducible rfl
       intro a116 hE e76 kp
       replace e74 := kt kp e74
       apply Z02 77 hE k rfl rfl rfl rfl rfl e74
       case h =>
        exact Z0d Try.underlying29 rfl e76
       intro a117 hE e77 kp
       replace e74 := kt kp e74
       apply Z02 78 hE k rfl rfl rfl rfl rfl e74
       case h =>
        exact Z06 (Z0k rfl e77 rfl) (decide_eq_false (by omega))
       intro a118 hE e78 kp
       replace e74 := kt kp e74
       refine sd 79 hE k (Z05 rfl e74 e78) ?_
       intro a119 hE e79 kp
       refine sd 80 hE k (Z04 rfl e79) ?_
       intro a120 hE e80 kp
       apply Z02 81 hE k rfl rfl rfl rfl rfl e80
       case h =>
        exact Z04 rfl (hE.g e3)
       intro a121 hE e81 kp
       replace e80 := kt kp e80
       apply Z02 82 hE k rfl rfl rfl rfl rfl e80
       case h =>
        exact Z06 (Z29 rfl e81 rfl) (decide_eq_false (by omega))
       intro a122 hE e82 kp
       replace e80 := kt kp e80
       apply Z02 83 hE k rfl rfl rfl rfl rfl e80
       case h =>
        exact Z04 rfl e82
       intro a123 hE e83 kp
       replace e80 := kt kp e80
       refine Z07 84 hE k rfl (by rfl) (by rfl) rfl rfl (.inl e83) ?_
       intro a124 hE e84 kp
       replace e80 := kt kp e80; replace e83 := kt kp e83
       refine Z07 85 hE k rfl (by rfl) (by rfl) rfl rfl (.inl e83) ?_
       intro a125 hE e85 kp
       replace e80 := kt kp e80; replace e83 := kt kp e83
       refine Z07 86 hE k rfl (by rfl) (by rfl) rfl rfl (.inl e83) ?_
       intro a126 hE e86 kp
       replace e80 := kt kp e80; replace e83 := kt kp e83; replace e85 := kt kp e85
       refine Z07 87 hE k rfl (by rfl) (by rfl) rfl rfl (.inl e83) ?_
       intro a127 hE e87 kp
       replace e80 := kt kp e80; replace e83 := kt kp e83
       refine Z07 88 hE k rfl (by rfl) (by rfl) rfl rfl (.inl e83) ?_
       intro a128 hE e88 kp
       replace e80 := kt kp e80; replace e83 := kt kp e83
       refine Z07 89 hE k rfl (by rfl) (by rfl) rfl rfl (.inr e88) ?_
       intro a129 hE e89 kp
       replace e80 := kt kp e80; replace e83 := kt kp e83; replace e88 := kt kp e88
       refine Z07 90 hE k rfl (by rfl) (by rfl) rfl rfl (.inr e88) ?_
       intro a130 hE e90 kp
       replace e80 := kt kp e80; replace e83 := kt kp e83; replace e88 := kt kp e88
       refine Z07 91 hE k rfl (by rfl) (by rfl) rfl rfl (.inr e88) ?_
       intro a131 hE e91 kp
       replace e80 := kt kp e80; replace e83 := kt kp e83; replace e88 := kt kp e88
       refine Z07 92 hE k rfl (by rfl) (by rfl) rfl rfl (.inr e88) ?_
       intro a132 hE e92 kp
       replace e80 := kt kp e80; replace e83 := kt kp e83; replace e88 := kt kp e88
       refine Z07 93 hE k rfl (by rfl) (by rfl) rfl rfl (.inr e88) ?_
       intro a133 hE e93 kp
       replace e80 := kt kp e80; replace e83 := kt kp e83; replace e88 := kt kp e88
       refine Z07 94 hE k rfl (by rfl) (by rfl) rfl rfl (.inr e88) ?_
       intro a134 hE e94 kp
       replace e80 := kt kp e80; replace e83 := kt kp e83; replace e88 := kt kp e88; replace e93 := kt kp e93
       refine Z07 95 hE k rfl (by rfl) (by rfl) rfl rfl (.inr e88) ?_
       intro a135 hE e95 kp
       replace e80 := kt kp e80; replace e83 := kt kp e83; replace e88 := kt kp e88
       refine Z07 96 hE k rfl (by rfl) (by rfl) rfl rfl (.inl e83) ?_
       intro a136 hE e96 kp
       replace e80 := kt kp e80; replace e83 := kt kp e83
       apply Z02 97 hE k rfl rfl rfl rfl rfl e80
       case h =>
        exact Z05 rfl e83 rfl
       intro a137 hE e97 kp
       replace e80 := kt kp e80
       refine sd 98 hE k (Z05 rfl e80 e97) ?_
       intro a138 hE e98 kp
       refine sd 99 hE k (Z04 rfl e98) ?_
       intro a139 hE e99 kp
       apply Z02 100 hE k rfl rfl rfl rfl rfl e99
       case h =>
        exact Z04 rfl (hE.g e3)
       intro a140 hE e100 kp
       replace e99 := kt kp e99
       apply Z02 101 hE k rfl rfl rfl rfl rfl e99
       case h =>
        exact Z06 (Z0r rfl e100 rfl) (decide_eq_true (by omega))
       intro a141 hE e101 kp
       replace e99 := kt kp e99
       apply Z02 102 hE k rfl rfl rfl rfl rfl e99
       case h =>
        exact Z04 rfl e101
       intro a142 hE e102 kp
       replace e99 := kt kp e99
       apply Z02 103 hE k rfl rfl rfl rfl rfl e102
       case h =>
        simp [go_sem, ↓IntWalk.iteOmega, ev (hE.g e15)]
        with_reducible rfl
       intro a143 hE e103 kp
       replace e99 := kt kp e99; replace e102 := kt kp e102
       apply Z02 104 hE k rfl rfl rfl rfl rfl e102
       case h =>
        have q0 : w112.cell? ⟨nb, 0, none⟩ = some (.int .i64 ↑l) := (OwnT.blk O 0 rfl).cell 0
        simp [go_sem, ↓IntWalk.iteOmega, ev e103, q0]
        with_reducible rfl
       intro a144 hE e104 kp
       replace e99 := kt kp e99; replace e102 := kt kp e102
       apply Z02 105 hE k rfl rfl rfl rfl rfl e102
       case h =>
        exact Z06 (Z17 rfl e104 rfl) (decide_eq_false (by omega))
       intro a145 hE e105 kp
       replace e99 := kt kp e99; replace e102 := kt kp e102
       apply Z02 106 hE k rfl rfl rfl rfl rfl e99
       case h =>
        exact Z0a rfl e102 e105
       intro a146 hE e106 kp
       replace e99 := kt kp e99
       apply Z02 107 hE k rfl rfl rfl rfl rfl e99
       case h =>
        exact Z04 rfl e106
       intro a147 hE e107 kp
       replace e99 := kt kp e99
       refine Z07 108 hE k rfl (by rfl) (by rfl) rfl rfl (.inl e107) ?_
       intro a148 hE e108 kp
       replace e99 := kt kp e99; replace e107 := kt kp e107
       refine Z07 109 hE k rfl (by rfl) (by rfl) rfl rfl (.inl e107) ?_
       intro a149 hE e109 kp
       replace e99 := kt kp e99; replace e107 := kt kp e107
       refine Z07 110 hE k rfl (by rfl) (by rfl) rfl rfl (.inl e107) ?_
       intro a150 hE e110 kp
       replace e99 := kt kp e99; replace e107 := kt kp e107
       refine Z07 111 hE k rfl (by rfl) (by rfl) rfl rfl (.inl e107) ?_
       intro a151 hE e111 kp
       replace e99 := kt kp e99; replace e107 := kt kp e107
       apply Z02 112 hE k rfl rfl rfl rfl rfl e99
       case h =>
        exact Z05 rfl e107 rfl
       intro a152 hE e112 kp
       replace e99 := kt kp e99
       refine sd 113 hE k (Z05 rfl e99 e112) ?_
       intro a153 hE e113 kp
       refine wpList_nil ?_
       replace e0 := hE.g e0; replace e1 := hE.g e1; replace e5 := hE.g e5; replace e6 := hE.g e6; replace e15 := hE.g e15
       replace k := k.env hE
       clear hE e3 e4
       refine Z01 ?_
       refine Z08 e113 rfl ?_
       refine wp_skip ?_
       refine Z01 ?_
       exact ⟨k, e0, e1, e5, e6, e15, (), O⟩
   · clear k e0 e1 e3 e4 e5 e6 e15 O
     intro a154 w155 h_
     obtain ⟨k, e0, e1, e5, e6, e15, _, O⟩ := h_
     have hL1 : L.flatten = xs := by subst hl0; exact (Z3e (k := 0) hT hnd).2
     have hg0 : g1 = [] := by subst hl0; obtain ⟨_, _, _, h, hb, e⟩ := Z4t hT hnd; obtain ⟨_, rfl⟩ := Z0l.1 hb; injection e
     subst hg0
     have hpx : prs.length + xs.length ≤ 100000 := by rw [← hL1]; exact hpl
     refine wp_seq ?_
     refine wp_region_lit ?_
     have hE := Env.refl a154 [16]
     refine sd 16 hE k (Z00 rfl rfl) ?_
     intro a156 hE e16 kp
     refine wpList_nil ?_
     replace e0 := hE.g e0; replace e1 := hE.g e1; replace e5 := hE.g e5; replace e6 := hE.g e6; replace e15 := hE.g e15
     replace k := k.env hE
     clear hE
     refine Z01 ?_
     refine wp_block ?_
     have hpr0 : prs = prs ++ xs.take 0 := by simp
     refine wp_loop (fun a w => Fr 189 a ∧ a.eval (.tmp 0) = .pointer (some ⟨gw, 0, none⟩) ∧ a.eval (.tmp 1) = .slice (some ⟨gB, 0, none⟩) N.length cap ∧ a.eval (.tmp 5) = .bool hb ∧ a.eval (.tmp 6) = .int .u64 ↑h0 ∧ a.eval (.tmp 15) = .pointer (some ⟨nb, 0, none⟩) ∧ ∃ (i : Nat) (Q1 : Option Addr) (c2 : Nat) (pr : List Pr), a.eval (.tmp 16) = .int .i64 ↑i ∧ i ≤ xs.length ∧ pr = prs ++ xs.take i ∧ OwnT H A0 ((tBlk nb 125 #[.int .i64 ↑l, .slice (some ⟨gv, 0, none⟩) xs.length cv]) :: (tBlk sb 28 #[.slice (some ⟨gB, 0, none⟩) N.length cap, .int .i64 room]) :: (tRow 125 2 (.slice (some ⟨gB, 0, none⟩) N.length cap) N.length (leafV vs N)) :: (tPool vs N) :: (tBlk gw 53 #[.slice (some ⟨gr, 0, none⟩) (((pgs ++ [ip + 1])).length) cr, .slice Q1 pr.length c2, .bool false]) :: (tRow 3 1 (.slice (some ⟨gr, 0, none⟩) ((pgs ++ [ip + 1])).length cr) ((pgs ++ [ip + 1])).length (((pgs ++ [ip + 1])).flatMap encN)) :: (tPs (.slice Q1 pr.length c2) pr) :: R) w) (fun a w => xs.length - (intOf (a.eval (.tmp 16))).toNat) ?_ ?_
     · exact ⟨k, e0, e1, e5, e6, e15, 0, Q, cq, prs, e16, Nat.zero_le _, hpr0, O⟩
     intro a157 w158 hI
     clear k e0 e1 e5 e6 e15
     obtain ⟨k, e0, e1, e5, e6, e15, h_⟩ := hI
     clear O e16
     obtain ⟨i, Q1, c2, pr, e16, hi, hpr, O⟩ := h_
     have mi := e16
     by_cases hlt : i < xs.length
     · have hltI : (i : Int) < (xs.length : Int) := by omega
       obtain ⟨x, hx⟩ : ∃ x, xs[i]? = some x := ⟨_, List.getElem?_eq_getElem hlt⟩
       have hxb : hb = true → x.1 < h0 := fun e => by obtain ⟨v, hv⟩ := Z5f hT hnd hu x (List.mem_of_getElem? hx); exact hh e (x.1, v) hv
       have hprl : pr.length = prs.length + i := by rw [hpr, List.length_append, List.length_take]; omega
       obtain ⟨_, _, hrow⟩ := Z2j (OwnT.get O 3 rfl) hvv hip hxl
       obtain ⟨_, _, e, d0, d1⟩ := Z1q hrow (Below.refl _ _) hx
       injection e with e; injection e with e e'; subst e e'
       clear hrow
       rw [Nat.zero_add] at d0 d1

       refine wp_seq ?_
       refine wp_seq ?_
       refine wp_region_lit ?_
       have hE := Env.refl a157 [117, 118, 119, 120, 121]
       refine sm 117 hE k e16 ?_
       intro a159 hE e117 kp
       apply Z03 118 hE k rfl rfl rfl rfl
       case h =>
        simp [go_sem, ↓IntWalk.iteOmega, ev (hE.g e15)]
        with_reducible rfl
       intro a160 hE e118 kp
       replace e117 := kt kp e117
       apply Z03 119 hE k rfl rfl rfl rfl
       case h =>
        have q0 : w158.cell? ⟨nb, 1, none⟩ = some (.slice (some ⟨gv, 0, none⟩) xs.length cv) := (OwnT.blk O 0 rfl).cell 1
        simp [go_sem, ↓IntWalk.iteOmega, ev e118, q0]
        with_reducible rfl
       intro a161 hE e119 kp
       replace e117 := kt kp e117
       refine sd 120 hE k (Z0d Try.underlying29 rfl e119) ?_
       intro a162 hE e120 kp
       replace e117 := kt kp e117
       refine sd 121 hE k (Z06 (Z0r rfl e117 e120) (decide_eq_true (by omega))) ?_
       intro a163 hE e121 kp
       refine wpList_nil ?_
       replace e0 := hE.g e0; replace e1 := hE.g e1; replace e5 := hE.g e5; replace e6 := hE.g e6; replace e15 := hE.g e15; replace e16 := hE.g e16
       replace k := k.env hE
       clear hE
       refine Z01 ?_
       refine Z0b e121 rfl ?_
       refine wp_skip ?_
       refine Z01 (wp_seq ?_)
       refine wp_block ?_
       refine wp_seq ?_
       refine wp_region_lit ?_
       have hE := Env.refl a163 [124, 125, 126, 127, 128, 17]
       apply Z03 124 hE k rfl rfl rfl rfl
       case h =>
        simp [go_sem, ↓IntWalk.iteOmega, ev (hE.g e15)]
        with_reducible rfl
       intro a164 hE e124 kp
       apply Z03 125 hE k rfl rfl rfl rfl
       case h =>
        have q0 : w158.cell? ⟨nb, 1, none⟩ = some (.slice (some ⟨gv, 0, none⟩) xs.length cv) := (OwnT.blk O 0 rfl).cell 1
        simp [go_sem, ↓IntWalk.iteOmega, ev e124, q0]
        with_reducible rfl
       intro a165 hE e125 kp
       refine sm 126 hE k e16 ?_
       intro a166 hE e126 kp
       replace e125 := kt kp e125
       apply Z03 127 hE k rfl rfl rfl rfl
       case h =>
        simp [go_sem, ↓IntWalk.iteOmega, ev e125, ev e126]
        with_reducible rfl
       intro a167 hE e127 kp
       apply Z03 128 hE k rfl rfl rfl rfl
       case h =>
        simp [go_sem, ↓IntWalk.iteOmega, ev e127, d0, d1]
        with_reducible rfl
       intro a168 hE e128 kp
       refine Z0m O (cs := #[.int .u64 0, .int .u64 0]) (t := 38) 17 hE k rfl (by rfl) (by rfl) rfl (by simp [go_sem, ↓IntWalk.iteOmega]) ?_
       clear O
       intro xb a169 w170 O hE e17 kp
       replace e128 := kt kp e128
       have q0 : w170.cell? ⟨xb, 0, none⟩ = some (.int .u64 0) := (OwnT.blk O 0 rfl).cell 0
       have z0 : w170.frozen? ⟨xb, 0, none⟩ = false := (OwnT.blk O 0 rfl).frozen 0
       have q1 : w170.cell? ⟨xb, 1, none⟩ = some (.int .u64 0) := (OwnT.blk O 0 rfl).cell 1
       have z1 : w170.frozen? ⟨xb, 1, none⟩ = false := (OwnT.blk O 0 rfl).frozen 1
       refine Z0o (w' := ((w170.setCell ⟨xb, 0, none⟩ (.int .u64 ↑x.1)).setCell ⟨xb, 1, none⟩ (.int .u64 ↑x.2))) hE rfl rfl (by simp [go_sem, ↓IntWalk.iteOmega, ev e17, ev e128, q0, z0, q1, z1]) ?_
       replace O := OwnT.push 0 rfl (((OwnT.pull O 0 rfl).set 0 (.int .u64 ↑x.1)).set 1 (.int .u64 ↑x.2))
       clear q0 z0 q1 z1
       generalize ((w170.setCell ⟨xb, 0, none⟩ (.int .u64 ↑x.1)).setCell ⟨xb, 1, none⟩ (.int .u64 ↑x.2)) = w171 at O ⊢
       replace O : OwnT _ _ ((tBlk xb 38 #[.int .u64 ↑x.1, .int .u64 ↑x.2]) :: (tBlk nb 125 #[.int .i64 ↑l, .slice (some ⟨gv, 0, none⟩) xs.length cv]) :: (tBlk sb 28 #[.slice (some ⟨gB, 0, none⟩) N.length cap, .int .i64 room]) :: (tRow 125 2 (.slice (some ⟨gB, 0, none⟩) N.length cap) N.length (leafV vs N)) :: (tPool vs N) :: (tBlk gw 53 #[.slice (some ⟨gr, 0, none⟩) (((pgs ++ [ip + 1])).length) cr, .slice Q1 pr.length c2, .bool false]) :: (tRow 3 1 (.slice (some ⟨gr, 0, none⟩) ((pgs ++ [ip + 1])).length cr) ((pgs ++ [ip + 1])).length (((pgs ++ [ip + 1])).flatMap encN)) :: (tPs (.slice Q1 pr.length c2) pr) :: R) w171 := O
       refine wpList_nil ?_
       replace e0 := hE.g e0; replace e1 := hE.g e1; replace e5 := hE.g e5; replace e6 := hE.g e6; replace e15 := hE.g e15; replace e16 := hE.g e16
       replace k := k.env hE
       clear hE e121 e128
       refine Z01 ?_
       clear d0 d1
       refine Z43 (fun a w => Fr 189 a ∧ a.eval (.tmp 0) = .pointer (some ⟨gw, 0, none⟩) ∧ a.eval (.tmp 1) = .slice (some ⟨gB, 0, none⟩) N.length cap ∧ a.eval (.tmp 5) = .bool hb ∧ a.eval (.tmp 6) = .int .u64 ↑h0 ∧ a.eval (.tmp 15) = .pointer (some ⟨nb, 0, none⟩) ∧ a.eval (.tmp 16) = .int .i64 ↑i ∧ a.eval (.tmp 17) = .pointer (some ⟨xb, 0, none⟩) ∧ ∃ (_ : Unit), OwnT H A0 ((tBlk xb 38 #[.int .u64 ↑x.1, .int .u64 ↑x.2]) :: (tBlk nb 125 #[.int .i64 ↑l, .slice (some ⟨gv, 0, none⟩) xs.length cv]) :: (tBlk sb 28 #[.slice (some ⟨gB, 0, none⟩) N.length cap, .int .i64 room]) :: (tRow 125 2 (.slice (some ⟨gB, 0, none⟩) N.length cap) N.length (leafV vs N)) :: (tPool vs N) :: (tBlk gw 53 #[.slice (some ⟨gr, 0, none⟩) (((pgs ++ [ip + 1])).length) cr, .slice Q1 pr.length c2, .bool false]) :: (tRow 3 1 (.slice (some ⟨gr, 0, none⟩) ((pgs ++ [ip + 1])).length cr) ((pgs ++ [ip + 1])).length (((pgs ++ [ip + 1])).flatMap encN)) :: (tPs (.slice Q1 pr.length c2) pr) :: R) w) ?_ ?_
       · skip
         cases hb with
         | true =>
          have hxb' := hxb rfl
          refine wp_seq ?_
          refine wp_region_lit ?_
          have hE := Env.refl a169 [129, 130, 131, 132, 133, 134, 135]
          refine sm 129 hE k e5 ?_
          intro a172 hE e129 kp
          refine sd 130 hE k (Z04 rfl e129) ?_
          intro a173 hE e130 kp
          apply Z02 131 hE k rfl rfl rfl rfl rfl e130
          case h =>
           simp [go_sem, ↓IntWalk.iteOmega, ev (hE.g e17)]
           with_reducible rfl
          intro a174 hE e131 kp
          replace e130 := kt kp e130
          apply Z02 132 hE k rfl rfl rfl rfl rfl e130
          case h =>
           have q0 : w171.cell? ⟨xb, 0, none⟩ = some (.int .u64 ↑x.1) := (OwnT.blk O 0 rfl).cell 0
           simp [go_sem, ↓IntWalk.iteOmega, ev e131, q0]
           with_reducible rfl
          intro a175 hE e132 kp
          replace e130 := kt kp e130
          apply Z02 133 hE k rfl rfl rfl rfl rfl e130
          case h =>
           exact Z04 rfl (hE.g e6)
          intro a176 hE e133 kp
          replace e130 := kt kp e130; replace e132 := kt kp e132
          apply Z02 134 hE k rfl rfl rfl rfl rfl e130
          case h =>
           exact Z06 (Z29 rfl e132 e133) (decide_eq_false (by omega))
          intro a177 hE e134 kp
          replace e130 := kt kp e130
          refine sd 135 hE k (Z0a rfl e130 e134) ?_
          intro a178 hE e135 kp
          refine wpList_nil ?_
          replace e0 := hE.g e0; replace e1 := hE.g e1; replace e5 := hE.g e5; replace e6 := hE.g e6; replace e15 := hE.g e15; replace e16 := hE.g e16; replace e17 := hE.g e17
          replace k := k.env hE
          clear hE
          refine Z01 ?_
          refine Z08 e135 rfl ?_
          refine wp_skip ?_
          refine Z01 ?_
          exact ⟨k, e0, e1, e5, e6, e15, e16, e17, (), O⟩
         | false =>
          refine wp_seq ?_
          refine wp_region_lit ?_
          have hE := Env.refl a169 [129, 130, 131, 132, 133, 134, 135]
          refine sm 129 hE k e5 ?_
          intro a179 hE e129 kp
          refine sd 130 hE k (Z04 rfl e129) ?_
          intro a180 hE e130 kp
          refine Z07 131 hE k rfl (by rfl) (by rfl) rfl rfl (.inl e130) ?_
          intro a181 hE e131 kp
          replace e130 := kt kp e130
          refine Z07 132 hE k rfl (by rfl) (by rfl) rfl rfl (.inl e130) ?_
          intro a182 hE e132 kp
          replace e130 := kt kp e130
          refine Z07 133 hE k rfl (by rfl) (by rfl) rfl rfl (.inl e130) ?_
          intro a183 hE e133 kp
          replace e130 := kt kp e130; replace e132 := kt kp e132
          refine Z07 134 hE k rfl (by rfl) (by rfl) rfl rfl (.inl e130) ?_
          intro a184 hE e134 kp
          replace e130 := kt kp e130
          refine sd 135 hE k (Z05 rfl e130 rfl) ?_
          intro a185 hE e135 kp
          refine wpList_nil ?_
          replace e0 := hE.g e0; replace e1 := hE.g e1; replace e5 := hE.g e5; replace e6 := hE.g e6; replace e15 := hE.g e15; replace e16 := hE.g e16; replace e17 := hE.g e17
          replace k := k.env hE
          clear hE
          refine Z01 ?_
          refine Z08 e135 rfl ?_
          refine wp_skip ?_
          refine Z01 ?_
          exact ⟨k, e0, e1, e5, e6, e15, e16, e17, (), O⟩
       · clear k e0 e1 e5 e6 e15 e16 e17 O
         intro a186 w187 h_
         obtain ⟨k, e0, e1, e5, e6, e15, e16, e17, _, O⟩ := h_
         refine wp_seq ?_
         refine wp_seq ?_
         refine wp_region_lit ?_
         have hE := Env.refl a186 [139, 140, 141]
         apply Z03 139 hE k rfl rfl rfl rfl
         case h =>
          simp [go_sem, ↓IntWalk.iteOmega, ev (hE.g e15)]
          with_reducible rfl
         intro a188 hE e139 kp
         apply Z03 140 hE k rfl rfl rfl rfl
         case h =>
          have q0 : w187.cell? ⟨nb, 0, none⟩ = some (.int .i64 ↑l) := (OwnT.blk O 1 rfl).cell 0
          simp [go_sem, ↓IntWalk.iteOmega, ev e139, q0]
          with_reducible rfl
         intro a189 hE e140 kp
         refine sd 141 hE k (Z06 (Z0k rfl e140 rfl) (decide_eq_true (by omega))) ?_
         intro a190 hE e141 kp
         refine wpList_nil ?_
         replace e0 := hE.g e0; replace e1 := hE.g e1; replace e5 := hE.g e5; replace e6 := hE.g e6; replace e15 := hE.g e15; replace e16 := hE.g e16; replace e17 := hE.g e17
         replace k := k.env hE
         clear hE
         refine Z01 ?_
         refine Z0b e141 rfl ?_
         replace O : OwnT _ _ ((tPs (.slice Q1 pr.length c2) pr) :: (tBlk xb 38 #[.int .u64 ↑x.1, .int .u64 ↑x.2]) :: (tBlk nb 125 #[.int .i64 ↑l, .slice (some ⟨gv, 0, none⟩) xs.length cv]) :: (tBlk sb 28 #[.slice (some ⟨gB, 0, none⟩) N.length cap, .int .i64 room]) :: (tRow 125 2 (.slice (some ⟨gB, 0, none⟩) N.length cap) N.length (leafV vs N)) :: (tPool vs N) :: (tBlk gw 53 #[.slice (some ⟨gr, 0, none⟩) (((pgs ++ [ip + 1])).length) cr, .slice Q1 pr.length c2, .bool false]) :: (tRow 3 1 (.slice (some ⟨gr, 0, none⟩) ((pgs ++ [ip + 1])).length cr) ((pgs ++ [ip + 1])).length (((pgs ++ [ip + 1])).flatMap encN)) :: R) w187 := OwnT.pickR (L := [_, _, _, _, _, _, _, _]) (R := R) O [7, 0, 1, 2, 3, 4, 5, 6] (by decide)
         replace O : OwnT _ _ ((tRow 38 2 (.slice Q1 pr.length c2) pr.length (flatP pr)) :: (tBlk xb 38 #[.int .u64 ↑x.1, .int .u64 ↑x.2]) :: (tBlk nb 125 #[.int .i64 ↑l, .slice (some ⟨gv, 0, none⟩) xs.length cv]) :: (tBlk sb 28 #[.slice (some ⟨gB, 0, none⟩) N.length cap, .int .i64 room]) :: (tRow 125 2 (.slice (some ⟨gB, 0, none⟩) N.length cap) N.length (leafV vs N)) :: (tPool vs N) :: (tBlk gw 53 #[.slice (some ⟨gr, 0, none⟩) (((pgs ++ [ip + 1])).length) cr, .slice Q1 pr.length c2, .bool false]) :: (tRow 3 1 (.slice (some ⟨gr, 0, none⟩) ((pgs ++ [ip + 1])).length cr) ((pgs ++ [ip + 1])).length (((pgs ++ [ip + 1])).flatMap encN)) :: R) w187 := O
         refine wp_seq ?_
         obtain ⟨gs, hgs⟩ : ∃ z, w187.heap.size = z := ⟨_, rfl⟩
         refine Z2q (fun l_ w_ w_' => if l_ 7 = true then Ext w_ w_' else True) (fun l_ w_ => AppI _ _ 38 2 (.slice Q1 pr.length c2) pr.length (flatP pr) gs [Value.int .u64 (x.1 : Int), Value.int .u64 (x.2 : Int)] ((tBlk xb 38 #[.int .u64 ↑x.1, .int .u64 ↑x.2]) :: (tBlk nb 125 #[.int .i64 ↑l, .slice (some ⟨gv, 0, none⟩) xs.length cv]) :: (tBlk sb 28 #[.slice (some ⟨gB, 0, none⟩) N.length cap, .int .i64 room]) :: (tRow 125 2 (.slice (some ⟨gB, 0, none⟩) N.length cap) N.length (leafV vs N)) :: (tPool vs N) :: (tBlk gw 53 #[.slice (some ⟨gr, 0, none⟩) (((pgs ++ [ip + 1])).length) cr, .slice Q1 pr.length c2, .bool false]) :: (tRow 3 1 (.slice (some ⟨gr, 0, none⟩) ((pgs ++ [ip + 1])).length cr) ((pgs ++ [ip + 1])).length (((pgs ++ [ip + 1])).flatMap encN)) :: R) (l_ 6) (l_ 7) w_) [[], [], [1], [1, 2], [1, 2, 3], [], [5], [1, 2, 3, 4, 5, 6], [0, 1, 2, 3, 4, 5, 6, 7], [0, 1, 2, 3, 4, 5, 6, 7, 8], [0, 1, 2, 3, 4, 5, 6, 7, 8, 9]] [142, 143, 144, 145, 146, 147, 148, 149, 150, 151] (fun l w => by split; exact Ext.refl _; exact True.intro) (by rw [← hgs]; exact AppI.start O) (by kernel_rfl) ?_
         apply BuildL.det 142 (fun l w => by split; exact Ext.refl _; exact True.intro) (fun l w h => h) (by rfl) (by rw [k.size]; rfl) rfl
         case h =>
          intro lx ax wx hE hR hF
          exact Z04 rfl (hE.g e0)
         apply BuildL.det 143 (fun l w => by split; exact Ext.refl _; exact True.intro) (fun l w h => h) (by rfl) (by rw [k.size]; rfl) rfl
         case h =>
          intro lx ax wx hE hR hF
          exact Z04 rfl (hE.g e0)
         apply BuildL.det 144 (fun l w => by split; exact Ext.refl _; exact True.intro) (fun l w h => h) (by rfl) (by rw [k.size]; rfl) rfl
         case h =>
          intro lx ax wx hE hR hF
          have e143 := hF 1 (detL 1 143 _) (by decide) ml0
          exact Z14 rfl e143
         apply BuildL.det 145 (fun l w => by split; exact Ext.refl _; exact True.intro) (fun l w h => h) (by rfl) (by rw [k.size]; rfl) rfl
         case h =>
          intro lx ax wx hE hR hF
          have e144 := hF 2 (detL 2 144 _) (by decide) ml0
          simp [go_sem, ↓IntWalk.iteOmega, ev e144]
          with_reducible rfl
         apply BuildL.det 146 (fun l w => by split; exact Ext.refl _; exact True.intro) (fun l w h => h) (by rfl) (by rw [k.size]; rfl) rfl
         case h =>
          intro lx ax wx hE hR hF
          have e145 := hF 3 (detL 3 145 _) (by decide) ml0
          have q0 : wx.cell? ⟨gw, 1, none⟩ = some (.slice Q1 pr.length c2) := (OwnT.blk (AppI.own hR) 5 rfl).cell 1
          simp [go_sem, ↓IntWalk.iteOmega, ev e145, q0]
          with_reducible rfl
         apply BuildL.det 147 (fun l w => by split; exact Ext.refl _; exact True.intro) (fun l w h => h) (by rfl) (by rw [k.size]; rfl) rfl
         case h =>
          intro lx ax wx hE hR hF
          have q0 : wx.cell? ⟨xb, 0, none⟩ = some (.int .u64 ↑x.1) := (OwnT.blk (AppI.own hR) 0 rfl).cell 0
          have q1 : wx.cell? ⟨xb, 1, none⟩ = some (.int .u64 ↑x.2) := (OwnT.blk (AppI.own hR) 0 rfl).cell 1
          simp [go_sem, ↓IntWalk.iteOmega, ev (hE.g e17), q0, q1]
          with_reducible rfl
         refine BuildL.new 148 (fun v w => v = .slice (some ⟨gs, 0, none⟩) 1 1) (fun l v w w' _ _ h => h) (by rfl) (by rw [k.size]; rfl) rfl ?_ ?_
         · intro lx ax wx hE hR hl hA hF
           have e147 := hF 5 (detL 5 147 _) (by decide) ml0
           exact Z5o hR hl (by decide) (by simp [go_sem, ↓IntWalk.iteOmega, ev e147])
         refine BuildL.new 149 (fun v_ w_ => OwnT H A0 (tRow 38 2 v_ (pr.length + 1) ((flatP pr) ++ [Value.int .u64 (x.1 : Int), Value.int .u64 (x.2 : Int)]) :: tBlk gs 38 #[Value.int .u64 (x.1 : Int), Value.int .u64 (x.2 : Int)] :: (tBlk xb 38 #[.int .u64 ↑x.1, .int .u64 ↑x.2]) :: (tBlk nb 125 #[.int .i64 ↑l, .slice (some ⟨gv, 0, none⟩) xs.length cv]) :: (tBlk sb 28 #[.slice (some ⟨gB, 0, none⟩) N.length cap, .int .i64 room]) :: (tRow 125 2 (.slice (some ⟨gB, 0, none⟩) N.length cap) N.length (leafV vs N)) :: (tPool vs N) :: (tBlk gw 53 #[.slice (some ⟨gr, 0, none⟩) (((pgs ++ [ip + 1])).length) cr, .slice Q1 pr.length c2, .bool false]) :: (tRow 3 1 (.slice (some ⟨gr, 0, none⟩) ((pgs ++ [ip + 1])).length cr) ((pgs ++ [ip + 1])).length (((pgs ++ [ip + 1])).flatMap encN)) :: R) w_) (fun l_ v_ w_ w_' hl hR h => by rw [if_pos hl] at hR; exact h.ext hR) (by rfl) (by rw [k.size]; rfl) rfl ?_ ?_
         · intro lx ax wx hE hR hl hA hF
           have e146 := hF 4 (detL 4 146 _) (by decide) ml2
           have f148 := hF 6 _ (by decide) ml0
           exact Z6l hR hl (hA 6 (by decide)) (by decide) elemPr (by decide) rfl (by intro u hu; simp at hu; rcases hu with rfl | rfl <;> rfl) (by unfold maxLen; omega) (by omega) (fun r w' h => Z15 rfl e146 f148 h)
         apply BuildL.det 150 (fun l w => by split; exact Ext.refl _; exact True.intro) (fun l w h => h) (by rfl) (by rw [k.size]; rfl) rfl
         case h =>
          intro lx ax wx hE hR hF
          have e142 := hF 0 (detL 0 142 _) (by decide) ml7
          exact Z14 rfl e142
         apply BuildL.det 151 (fun l w => by split; exact Ext.refl _; exact True.intro) (fun l w h => h) (by rfl) (by rw [k.size]; rfl) rfl
         case h =>
          intro lx ax wx hE hR hF
          have e150 := hF 8 (detL 8 150 _) (by decide) ml0
          simp [go_sem, ↓IntWalk.iteOmega, ev e150]
          with_reducible rfl
         apply BuildL.stop
         refine ⟨by kernel_rfl, ?_⟩
         clear O
         intro lx a191 w192 hE RI hL hF
         clear RI
         have f149 := hF 7 _ ml2
         have e151 : a191.eval (.tmp 151) = _ := hF 9 (detL 9 151 _) ml0
         clear hF hL
         obtain ⟨vr, e149, O⟩ : ∃ v', a191.eval (.tmp 149) = v' ∧ OwnT H A0 (tRow 38 2 v' (pr.length + 1) ((flatP pr) ++ [Value.int .u64 (x.1 : Int), Value.int .u64 (x.2 : Int)]) :: tBlk gs 38 #[Value.int .u64 (x.1 : Int), Value.int .u64 (x.2 : Int)] :: (tBlk xb 38 #[.int .u64 ↑x.1, .int .u64 ↑x.2]) :: (tBlk nb 125 #[.int .i64 ↑l, .slice (some ⟨gv, 0, none⟩) xs.length cv]) :: (tBlk sb 28 #[.slice (some ⟨gB, 0, none⟩) N.length cap, .int .i64 room]) :: (tRow 125 2 (.slice (some ⟨gB, 0, none⟩) N.length cap) N.length (leafV vs N)) :: (tPool vs N) :: (tBlk gw 53 #[.slice (some ⟨gr, 0, none⟩) (((pgs ++ [ip + 1])).length) cr, .slice Q1 pr.length c2, .bool false]) :: (tRow 3 1 (.slice (some ⟨gr, 0, none⟩) ((pgs ++ [ip + 1])).length cr) ((pgs ++ [ip + 1])).length (((pgs ++ [ip + 1])).flatMap encN)) :: R) w192 := ⟨_, rfl, f149⟩
         clear f149
         obtain ⟨gq, cq2, rfl⟩ := OwnT.slice0 O (by omega)
         replace O := OwnT.pick01 O
         simp only [List.length_cons, List.length_nil, Nat.zero_add, Nat.reduceAdd, List.drop_succ_cons, List.drop_zero, List.drop_nil, tailOps]
         show Oper.wp _ _ _ _ _ _
         have q0 : w192.cell? ⟨gw, 1, none⟩ = some (.slice Q1 pr.length c2) := (OwnT.blk O 6 rfl).cell 1
         have q1 : w192.frozen? ⟨gw, 1, none⟩ = false := (OwnT.blk O 6 rfl).frozen 1
         refine Z3p (off := 1) (v := .slice (some ⟨gq, 0, none⟩) ((pr.length + 1)) cq2) O 6 rfl rfl (by simp [go_sem, ↓IntWalk.iteOmega, ev e149, ev e151, q0, q1]) ?_
         clear q0 q1
         clear O
         intro w193 O
         replace O : OwnT _ _ ((tRow 38 2 (.slice (some ⟨gq, 0, none⟩) ((pr.length + 1)) cq2) (pr.length + 1) ((flatP pr) ++ [Value.int .u64 (x.1 : Int), Value.int .u64 (x.2 : Int)])) :: (tBlk xb 38 #[.int .u64 ↑x.1, .int .u64 ↑x.2]) :: (tBlk nb 125 #[.int .i64 ↑l, .slice (some ⟨gv, 0, none⟩) xs.length cv]) :: (tBlk sb 28 #[.slice (some ⟨gB, 0, none⟩) N.length cap, .int .i64 room]) :: (tRow 125 2 (.slice (some ⟨gB, 0, none⟩) N.length cap) N.length (leafV vs N)) :: (tPool vs N) :: (tBlk gw 53 #[.slice (some ⟨gr, 0, none⟩) (((pgs ++ [ip + 1])).length) cr, .slice (some ⟨gq, 0, none⟩) ((pr.length + 1)) cq2, .bool false]) :: (tRow 3 1 (.slice (some ⟨gr, 0, none⟩) ((pgs ++ [ip + 1])).length cr) ((pgs ++ [ip + 1])).length (((pgs ++ [ip + 1])).flatMap encN)) :: R) w193 := O
         replace e0 := hE.g e0; replace e1 := hE.g e1; replace e5 := hE.g e5; replace e6 := hE.g e6; replace e15 := hE.g e15; replace e16 := hE.g e16
         replace k := k.env hE
         clear hE e17 e141 e149 e151
         refine Z01 ?_
         refine wp_exit ?_
         refine Z0q ?_
         refine Z13 ?_
         refine Z01 ?_
         refine wp_region_lit ?_
         have hE := Env.refl a191 [122, 123, 16]
         refine sd 122 hE k (Z04 rfl e16) ?_
         intro a194 hE e122 kp
         replace e16 := kt kp e16
         refine sd 123 hE k (Z0v rfl e122 rfl (by omega)) ?_
         intro a195 hE e123 kp
         replace e16 := kt kp e16
         refine sd 16 hE k (Z00 rfl e123) ?_
         intro a196 hE e16 kp
         refine wpList_nil ?_
         replace e0 := hE.g e0; replace e1 := hE.g e1; replace e5 := hE.g e5; replace e6 := hE.g e6; replace e15 := hE.g e15
         replace k := k.env hE
         clear hE
         refine Z01 ?_
         replace O : OwnT _ _ ((tBlk nb 125 #[.int .i64 ↑l, .slice (some ⟨gv, 0, none⟩) xs.length cv]) :: (tBlk sb 28 #[.slice (some ⟨gB, 0, none⟩) N.length cap, .int .i64 room]) :: (tRow 125 2 (.slice (some ⟨gB, 0, none⟩) N.length cap) N.length (leafV vs N)) :: (tPool vs N) :: (tBlk gw 53 #[.slice (some ⟨gr, 0, none⟩) (((pgs ++ [ip + 1])).length) cr, .slice (some ⟨gq, 0, none⟩) ((pr.length + 1)) cq2, .bool false]) :: (tRow 3 1 (.slice (some ⟨gr, 0, none⟩) ((pgs ++ [ip + 1])).length cr) ((pgs ++ [ip + 1])).length (((pgs ++ [ip + 1])).flatMap encN)) :: (tRow 38 2 (.slice (some ⟨gq, 0, none⟩) ((pr.length + 1)) cq2) (pr.length + 1) ((flatP pr) ++ [Value.int .u64 (x.1 : Int), Value.int .u64 (x.2 : Int)])) :: R) w193 := OwnT.pickR (L := [_, _, _, _, _, _, _, _]) (R := R) O [2, 3, 4, 5, 6, 7, 0] (by decide)
         rw [show flatP pr ++ [Value.int .u64 (x.1 : Int), Value.int .u64 (x.2 : Int)] = flatP (pr ++ [x]) by simp [flatP, pairC], ← (show (pr ++ [x]).length = pr.length + 1 by simp)] at O
         refine ⟨⟨k, e0, e1, e5, e6, e15, i + 1, some ⟨gq, 0, none⟩, cq2, pr ++ [x], e16, by omega, by rw [hpr, List.take_add_one, hx, List.append_assoc]; rfl, O⟩, ?_⟩
         rw [e16, mi]; simp only [intOf]; omega
     · skip
       refine wp_seq ?_
       refine wp_seq ?_
       refine wp_region_lit ?_
       have hE := Env.refl a157 [117, 118, 119, 120, 121]
       refine sm 117 hE k e16 ?_
       intro a197 hE e117 kp
       apply Z03 118 hE k rfl rfl rfl rfl
       case h =>
        simp [go_sem, ↓IntWalk.iteOmega, ev (hE.g e15)]
        with_reducible rfl
       intro a198 hE e118 kp
       replace e117 := kt kp e117
       apply Z03 119 hE k rfl rfl rfl rfl
       case h =>
        have q0 : w158.cell? ⟨nb, 1, none⟩ = some (.slice (some ⟨gv, 0, none⟩) xs.length cv) := (OwnT.blk O 0 rfl).cell 1
        simp [go_sem, ↓IntWalk.iteOmega, ev e118, q0]
        with_reducible rfl
       intro a199 hE e119 kp
       replace e117 := kt kp e117
       refine sd 120 hE k (Z0d Try.underlying29 rfl e119) ?_
       intro a200 hE e120 kp
       replace e117 := kt kp e117
       refine sd 121 hE k (Z06 (Z0r rfl e117 e120) (decide_eq_false (by omega))) ?_
       intro a201 hE e121 kp
       refine wpList_nil ?_
       replace e0 := hE.g e0; replace e1 := hE.g e1; replace e5 := hE.g e5; replace e6 := hE.g e6; replace e15 := hE.g e15; replace e16 := hE.g e16
       replace k := k.env hE
       clear hE
       refine Z01 ?_
       refine Z08 e121 rfl ?_
       refine wp_exit ?_
       refine Z0q ?_
       refine Z0q ?_
       refine Z13 ?_
       obtain rfl : i = xs.length := by omega
       rw [List.take_length, ← hL1] at hpr
       subst hpr
       refine end_F0 rfl k ?_
       exact ⟨rfl, some ⟨gr, 0, none⟩, Q1, cr, c2, OwnT.pickR (L := [_, _, _, _, _, _, _]) (R := R) O [1, 2, 3, 4, 5, 6] (by decide)⟩
set_option maxRecDepth 100000 in
set_option maxHeartbeats 4000000 in
theorem Z81 {l : Nat} {H : Nat} {A0 : World} {R : List Thing} {sb cap : Nat} {room : Int} {B : Option Addr} {vs : List Value} {N : List Nd} {gw cp cq p f0 h0 : Nat} {q0 : Int} {P Q : Option Addr} {pgs : List Nat} {prs : List Pr} {hb : Bool} {L : List (List Pr)} {g : List Nat} (w : World) (O : OwnT H A0 (shT sb room B cap vs N (tTe gw cp cq P Q pgs prs R)) w) (hT : Tr N l p L g) (hu : Up L.flatten) (h7 : l ≤ 7) (hN : N.length ≤ 511) (hwf : ∀ y ∈ L.flatten, y.1 < 18446744073709551616 ∧ y.2 < 18446744073709551616) (hh : hb = true → ∀ y ∈ L.flatten, y.1 < h0) (h0l : (q0 = l ∧ hdk L = some f0) ∨ (q0 = -1 ∧ (0 < l → ∃ xs, ndAt N p = some (l, xs) ∧ 2 ≤ xs.length))) (hgn : (pgs ++ g).Nodup) (hgl : (pgs ++ g).length ≤ 600) (hpl : prs.length + L.flatten.length ≤ 100000) {l1 : Nat} (hl1 : l = l1 + 1) (ih : LookOk l1) : Calls Try.prog 64 #[.pointer (some ⟨gw, 0, none⟩), .slice B N.length cap, .int .i64 p, .int .i64 q0, .int .u64 f0, .bool hb, .int .u64 h0] w fun e w' => e = .returned (.tuple #[]) ∧ ∃ P' Q' cp' cq', OwnT H A0 (shT sb room B cap vs N (tTe gw cp' cq' P' Q' (pgs ++ g) (prs ++ L.flatten) R)) w' := by
 obtain ⟨xs, hnd, hne, h15, hux, -, hxw⟩ := Z28 hT hu (by omega) hN hwf
 have hxl := List.length_pos_iff.2 hne
 obtain ⟨hk0, -⟩ := Z4s hT hnd hu
 obtain ⟨x0, hx0⟩ : ∃ x, xs[0]? = some x := ⟨_, List.getElem?_eq_getElem hxl⟩
 rw [Z5h hx0] at hk0
 obtain ⟨g1, hg1⟩ := Tr.one hT
 subst hg1
 have hpn : ∀ y ∈ pgs, ((y : Nat) : Int) ≠ (p : Int) := fun y hy e => (List.nodup_append.1 hgn).2.2 y hy p (by simp) (by omega)
 have hgl2 : pgs.length + 1 ≤ 600 := by rw [List.length_append, List.length_cons] at hgl; omega
 obtain ⟨hp1, hp2⟩ := Z33 hnd
 obtain ⟨ip, rfl⟩ : ∃ i, p = i + 1 := ⟨p - 1, by omega⟩
 have hip : N[ip]? = some (l, xs) := by have h := hnd; unfold ndAt at h; rwa [if_neg (by omega), Nat.add_sub_cancel] at h
 have hipI : (ip : Int) < (N.length : Int) := by omega

 refine Z0e Try.func64 rfl 189 rfl (by rfl) ?_
 intro a1 k hargs
 have e0 : a1.eval (.tmp 0) = .pointer (some ⟨gw, 0, none⟩) := hargs 0 _ rfl
 have e1 : a1.eval (.tmp 1) = .slice B N.length cap := hargs 1 _ rfl
 have e2 : a1.eval (.tmp 2) = .int .i64 (↑(ip + 1)) := hargs 2 _ rfl
 have e3 : a1.eval (.tmp 3) = .int .i64 q0 := hargs 3 _ rfl
 have e4 : a1.eval (.tmp 4) = .int .u64 ↑f0 := hargs 4 _ rfl
 have e5 : a1.eval (.tmp 5) = .bool hb := hargs 5 _ rfl
 have e6 : a1.eval (.tmp 6) = .int .u64 ↑h0 := hargs 6 _ rfl
 clear hargs
 refine wp_seq ?_
 refine wp_seq ?_
 refine wp_region_lit ?_
 have hE := Env.refl a1 [18, 19, 20, 21, 22, 23, 24, 25, 26, 27, 28, 29, 30, 31]
 refine sm 18 hE k e0 ?_
 intro a2 hE e18 kp
 refine sd 19 hE k (Z14 rfl e18) ?_
 intro a3 hE e19 kp
 apply Z03 20 hE k rfl rfl rfl rfl
 case h =>
  simp [go_sem, ↓IntWalk.iteOmega, ev e19]
  with_reducible rfl
 intro a4 hE e20 kp
 apply Z03 21 hE k rfl rfl rfl rfl
 case h =>
  have q0 : w.cell? ⟨gw, 2, none⟩ = some (.bool false) := (OwnT.blk O 3 rfl).cell 2
  simp [go_sem, ↓IntWalk.iteOmega, ev e20, q0]
  with_reducible rfl
 intro a5 hE e21 kp
 refine sd 22 hE k (Z04 rfl e21) ?_
 intro a6 hE e22 kp
 apply Z02 23 hE k rfl rfl rfl rfl rfl e22
 case h =>
  exact Z04 rfl (hE.g e2)
 intro a7 hE e23 kp
 replace e22 := kt kp e22
 apply Z02 24 hE k rfl rfl rfl rfl rfl e22
 case h =>
  exact Z06 (Z0r rfl e23 rfl) (decide_eq_false (by omega))
 intro a8 hE e24 kp
 replace e22 := kt kp e22
 refine sd 25 hE k (Z05 rfl e22 e24) ?_
 intro a9 hE e25 kp
 refine sd 26 hE k (Z04 rfl e25) ?_
 intro a10 hE e26 kp
 apply Z02 27 hE k rfl rfl rfl rfl rfl e26
 case h =>
  exact Z04 rfl (hE.g e2)
 intro a11 hE e27 kp
 replace e26 := kt kp e26
 apply Z02 28 hE k rfl rfl rfl rfl rfl e26
 case h =>
  exact Z04 rfl (hE.g e1)
 intro a12 hE e28 kp
 replace e26 := kt kp e26; replace e27 := kt kp e27
 apply Z02 29 hE k rfl rfl rfl rfl rfl e26
 case h =>
  exact Z0d Try.underlying26 rfl e28
 intro a13 hE e29 kp
 replace e26 := kt kp e26; replace e27 := kt kp e27
 apply Z02 30 hE k rfl rfl rfl rfl rfl e26
 case h =>
  exact Z06 (Z17 rfl e27 e29) (decide_eq_false (by omega))
 intro a14 hE e30 kp
 replace e26 := kt kp e26
 refine sd 31 hE k (Z05 rfl e26 e30) ?_
 intro a15 hE e31 kp
 refine wpList_nil ?_
 replace e0 := hE.g e0; replace e1 := hE.g e1; replace e2 := hE.g e2; replace e3 := hE.g e3; replace e4 := hE.g e4; replace e5 := hE.g e5; replace e6 := hE.g e6
 replace k := k.env hE
 clear hE
 refine Z01 ?_
 refine Z08 e31 rfl ?_
 refine wp_skip ?_
 refine Z01 (wp_seq ?_)
 refine wp_seq ?_
 refine wp_region_lit ?_
 have hE := Env.refl a15 [14]
 refine sd 14 hE k (Z00 rfl rfl) ?_
 intro a16 hE e14 kp
 refine wpList_nil ?_
 replace e0 := hE.g e0; replace e1 := hE.g e1; replace e2 := hE.g e2; replace e3 := hE.g e3; replace e4 := hE.g e4; replace e5 := hE.g e5; replace e6 := hE.g e6
 replace k := k.env hE
 clear hE e31
 refine Z01 ?_
 refine wp_block ?_
 refine wp_loop (fun a w => Fr 189 a ∧ a.eval (.tmp 0) = .pointer (some ⟨gw, 0, none⟩) ∧ a.eval (.tmp 1) = .slice B N.length cap ∧ a.eval (.tmp 2) = .int .i64 (↑(ip + 1)) ∧ a.eval (.tmp 3) = .int .i64 q0 ∧ a.eval (.tmp 4) = .int .u64 ↑f0 ∧ a.eval (.tmp 5) = .bool hb ∧ a.eval (.tmp 6) = .int .u64 ↑h0 ∧ ∃ (z : Nat), a.eval (.tmp 14) = .int .i64 ↑z ∧ z ≤ pgs.length ∧ OwnT H A0 ((tBlk sb 28 #[.slice B N.length cap, .int .i64 room]) :: (tRow 125 2 (.slice B N.length cap) N.length (leafV vs N)) :: (tPool vs N) :: (tBlk gw 53 #[.slice P pgs.length cp, .slice Q prs.length cq, .bool false]) :: (tRow 3 1 (.slice P pgs.length cp) pgs.length (pgs.flatMap encN)) :: (tPs (.slice Q prs.length cq) prs) :: R) w) (fun a w => pgs.length - (intOf (a.eval (.tmp 14))).toNat) ?_ ?_
 · exact ⟨k, e0, e1, e2, e3, e4, e5, e6, 0, e14, Nat.zero_le _, O⟩
 intro a17 w18 hI
 clear k e0 e1 e2 e3 e4 e5 e6
 obtain ⟨k, e0, e1, e2, e3, e4, e5, e6, h_⟩ := hI
 clear O e14
 obtain ⟨z, e14, hz, O⟩ := h_
 have mz := e14
 by_cases hlt : z < pgs.length
 · have hltI : (z : Int) < (pgs.length : Int) := by omega
   obtain ⟨y, hy⟩ : ∃ y, pgs[z]? = some y := ⟨_, List.getElem?_eq_getElem hlt⟩
   have hyn := hpn y (List.mem_of_getElem? hy)
   obtain ⟨bp, op, e, cz⟩ := Z31 (Z3m (enc := encN) (fun _ => rfl) Nat.one_pos (OwnT.get O 4 rfl : World.ownsRow _ 0 3 1 (.slice P pgs.length cp) pgs.length (pgs.flatMap encN))) (Below.refl _ _) hy
   subst e

   refine wp_seq ?_
   refine wp_seq ?_
   refine wp_region_lit ?_
   have hE := Env.refl a17 [35, 36, 37, 38, 39, 40, 41]
   refine sm 35 hE k e14 ?_
   intro a19 hE e35 kp
   refine sm 36 hE k e0 ?_
   intro a20 hE e36 kp
   replace e35 := kt kp e35
   refine sd 37 hE k (Z14 rfl e36) ?_
   intro a21 hE e37 kp
   replace e35 := kt kp e35
   apply Z03 38 hE k rfl rfl rfl rfl
   case h =>
    simp [go_sem, ↓IntWalk.iteOmega, ev e37]
    with_reducible rfl
   intro a22 hE e38 kp
   replace e35 := kt kp e35
   apply Z03 39 hE k rfl rfl rfl rfl
   case h =>
    have q0 : w18.cell? ⟨gw, 0, none⟩ = some (.slice (some ⟨bp, op, none⟩) pgs.length cp) := (OwnT.blk O 3 rfl).cell 0
    simp [go_sem, ↓IntWalk.iteOmega, ev e38, q0]
    with_reducible rfl
   intro a23 hE e39 kp
   replace e35 := kt kp e35
   refine sd 40 hE k (Z0d Try.underlying51 rfl e39) ?_
   intro a24 hE e40 kp
   replace e35 := kt kp e35
   refine sd 41 hE k (Z06 (Z0r rfl e35 e40) (decide_eq_true (by omega))) ?_
   intro a25 hE e41 kp
   refine wpList_nil ?_
   replace e0 := hE.g e0; replace e1 := hE.g e1; replace e2 := hE.g e2; replace e3 := hE.g e3; replace e4 := hE.g e4; replace e5 := hE.g e5; replace e6 := hE.g e6; replace e14 := hE.g e14
   replace k := k.env hE
   clear hE
   refine Z01 ?_
   refine Z0b e41 rfl ?_
   refine wp_skip ?_
   refine Z01 (wp_seq ?_)
   refine wp_block ?_
   refine wp_seq ?_
   refine wp_region_lit ?_
   have hE := Env.refl a25 [44, 45, 46, 47, 48, 49, 50, 51, 52]
   refine sm 44 hE k e0 ?_
   intro a26 hE e44 kp
   refine sd 45 hE k (Z14 rfl e44) ?_
   intro a27 hE e45 kp
   apply Z03 46 hE k rfl rfl rfl rfl
   case h =>
    simp [go_sem, ↓IntWalk.iteOmega, ev e45]
    with_reducible rfl
   intro a28 hE e46 kp
   apply Z03 47 hE k rfl rfl rfl rfl
   case h =>
    have q0 : w18.cell? ⟨gw, 0, none⟩ = some (.slice (some ⟨bp, op, none⟩) pgs.length cp) := (OwnT.blk O 3 rfl).cell 0
    simp [go_sem, ↓IntWalk.iteOmega, ev e46, q0]
    with_reducible rfl
   intro a29 hE e47 kp
   refine sm 48 hE k e14 ?_
   intro a30 hE e48 kp
   replace e47 := kt kp e47
   apply Z03 49 hE k rfl rfl rfl rfl
   case h =>
    simp [go_sem, ↓IntWalk.iteOmega, ev e47, ev e48]
    with_reducible rfl
   intro a31 hE e49 kp
   apply Z03 50 hE k rfl rfl rfl rfl
   case h =>
    simp [go_sem, ↓IntWalk.iteOmega, ev e49, cz]
    with_reducible rfl
   intro a32 hE e50 kp
   refine sm 51 hE k e2 ?_
   intro a33 hE e51 kp
   replace e50 := kt kp e50
   refine sd 52 hE k (Z06 (Z0k rfl e50 e51) (decide_eq_false (by omega))) ?_
   intro a34 hE e52 kp
   refine wpList_nil ?_
   replace e0 := hE.g e0; replace e1 := hE.g e1; replace e2 := hE.g e2; replace e3 := hE.g e3; replace e4 := hE.g e4; replace e5 := hE.g e5; replace e6 := hE.g e6; replace e14 := hE.g e14
   replace k := k.env hE
   clear hE e41
   refine Z01 ?_
   refine Z08 e52 rfl ?_
   refine wp_skip ?_
   refine Z0f ?_
   refine Z01 ?_
   refine wp_region_lit ?_
   have hE := Env.refl a34 [42, 43, 14]
   refine sd 42 hE k (Z04 rfl e14) ?_
   intro a35 hE e42 kp
   replace e14 := kt kp e14
   refine sd 43 hE k (Z0v rfl e42 rfl (by omega)) ?_
   intro a36 hE e43 kp
   replace e14 := kt kp e14
   refine sd 14 hE k (Z00 rfl e43) ?_
   intro a37 hE e14 kp
   refine wpList_nil ?_
   replace e0 := hE.g e0; replace e1 := hE.g e1; replace e2 := hE.g e2; replace e3 := hE.g e3; replace e4 := hE.g e4; replace e5 := hE.g e5; replace e6 := hE.g e6
   replace k := k.env hE
   clear hE e52
   refine Z01 ?_
   refine ⟨⟨k, e0, e1, e2, e3, e4, e5, e6, z + 1, e14, by omega, O⟩, ?_⟩
   rw [e14, mz]; simp only [intOf]; omega
 · clear mz
   refine wp_seq ?_
   refine wp_seq ?_
   refine wp_region_lit ?_
   have hE := Env.refl a17 [35, 36, 37, 38, 39, 40, 41]
   refine sm 35 hE k e14 ?_
   intro a38 hE e35 kp
   refine sm 36 hE k e0 ?_
   intro a39 hE e36 kp
   replace e35 := kt kp e35
   refine sd 37 hE k (Z14 rfl e36) ?_
   intro a40 hE e37 kp
   replace e35 := kt kp e35
   apply Z03 38 hE k rfl rfl rfl rfl
   case h =>
    simp [go_sem, ↓IntWalk.iteOmega, ev e37]
    with_reducible rfl
   intro a41 hE e38 kp
   replace e35 := kt kp e35
   apply Z03 39 hE k rfl rfl rfl rfl
   case h =>
    have q0 : w18.cell? ⟨gw, 0, none⟩ = some (.slice P pgs.length cp) := (OwnT.blk O 3 rfl).cell 0
    simp [go_sem, ↓IntWalk.iteOmega, ev e38, q0]
    with_reducible rfl
   intro a42 hE e39 kp
   replace e35 := kt kp e35
   refine sd 40 hE k (Z0d Try.underlying51 rfl e39) ?_
   intro a43 hE e40 kp
   replace e35 := kt kp e35
   refine sd 41 hE k (Z06 (Z0r rfl e35 e40) (decide_eq_false (by omega))) ?_
   intro a44 hE e41 kp
   refine wpList_nil ?_
   replace e0 := hE.g e0; replace e1 := hE.g e1; replace e2 := hE.g e2; replace e3 := hE.g e3; replace e4 := hE.g e4; replace e5 := hE.g e5; replace e6 := hE.g e6; replace e14 := hE.g e14
   replace k := k.env hE
   clear hE
   refine Z01 ?_
   refine Z08 e41 rfl ?_
   refine wp_exit ?_
   refine Z0q ?_
   refine Z0q ?_
   refine Z13 ?_
   refine Z01 ?_
   replace O : OwnT _ _ ((tRow 3 1 (.slice P pgs.length cp) pgs.length (pgs.flatMap encN)) :: (tBlk gw 53 #[.slice P pgs.length cp, .slice Q prs.length cq, .bool false]) :: (tBlk sb 28 #[.slice B N.length cap, .int .i64 room]) :: (tRow 125 2 (.slice B N.length cap) N.length (leafV vs N)) :: (tPool vs N) :: (tPs (.slice Q prs.length cq) prs) :: R) w18 := OwnT.pickR (L := [_, _, _, _, _, _]) (R := R) O [4, 3, 0, 1, 2, 5] (by decide)
   refine wp_seq ?_
   refine wp_region_lit ?_
   have hE := Env.refl a44 [56, 57, 58, 59, 60, 61, 62, 63, 64, 65]
   refine sm 56 hE k e0 ?_
   intro a45 hE e56 kp
   refine sm 57 hE k e0 ?_
   intro a46 hE e57 kp
   replace e56 := kt kp e56
   refine sd 58 hE k (Z14 rfl e57) ?_
   intro a47 hE e58 kp
   replace e56 := kt kp e56
   apply Z03 59 hE k rfl rfl rfl rfl
   case h =>
    simp [go_sem, ↓IntWalk.iteOmega, ev e58]
    with_reducible rfl
   intro a48 hE e59 kp
   replace e56 := kt kp e56
   apply Z03 60 hE k rfl rfl rfl rfl
   case h =>
    have q0 : w18.cell? ⟨gw, 0, none⟩ = some (.slice P pgs.length cp) := (OwnT.blk O 1 rfl).cell 0
    simp [go_sem, ↓IntWalk.iteOmega, ev e59, q0]
    with_reducible rfl
   intro a49 hE e60 kp
   replace e56 := kt kp e56
   refine sm 61 hE k e2 ?_
   intro a50 hE e61 kp
   replace e56 := kt kp e56; replace e60 := kt kp e60
   refine Z18 (m := 1) (c := 1) O (cs := #[.int .i64 (↑(ip + 1))]) (t := 3) 62 hE k rfl (by rfl) (by rfl) rfl (by simp [go_sem, ↓IntWalk.iteOmega, ev e61]) ?_
   clear O
   intro g3 a51 w52 O hE e62 kp
   replace e56 := kt kp e56; replace e60 := kt kp e60
   obtain ⟨gr, cr, w53, hrun, O⟩ := Z1y O elemIt (by decide) rfl (by intro u hu; simp at hu; subst hu; rfl) (by unfold maxLen; omega) (by omega)
   apply Z1p 63 hE k rfl (by rfl) (by rfl) rfl
   case h => exact Z15 rfl e60 e62 (hrun _)
   clear hrun
   intro a54 hE e63 kp
   replace e56 := kt kp e56
   refine sd 64 hE k (Z14 rfl e56) ?_
   intro a55 hE e64 kp
   replace e63 := kt kp e63
   apply Z03 65 hE k rfl rfl rfl rfl
   case h =>
    simp [go_sem, ↓IntWalk.iteOmega, ev e64]
    with_reducible rfl
   intro a56 hE e65 kp
   replace e63 := kt kp e63
   have q0 : w53.cell? ⟨gw, 0, none⟩ = some (.slice P pgs.length cp) := (OwnT.blk O 1 rfl).cell 0
   have q1 : w53.frozen? ⟨gw, 0, none⟩ = false := (OwnT.blk O 1 rfl).frozen 0
   refine Z1n (off := 0) (v := .slice (some ⟨gr, 0, none⟩) ((pgs.length + 1)) cr) O 1 rfl hE rfl rfl (by simp [go_sem, ↓IntWalk.iteOmega, ev e63, ev e65, q0, q1]) ?_
   clear q0 q1
   clear O
   intro w57 O
   replace O : OwnT _ _ ((tRow 3 1 (.slice (some ⟨gr, 0, none⟩) ((pgs.length + 1)) cr) (pgs.length + 1) ((pgs.flatMap encN) ++ [Value.int .i64 ((ip + 1 : Nat) : Int)])) :: (tBlk gw 53 #[.slice (some ⟨gr, 0, none⟩) ((pgs.length + 1)) cr, .slice Q prs.length cq, .bool false]) :: (tBlk sb 28 #[.slice B N.length cap, .int .i64 room]) :: (tRow 125 2 (.slice B N.length cap) N.length (leafV vs N)) :: (tPool vs N) :: (tPs (.slice Q prs.length cq) prs) :: R) w57 := O
   refine wpList_nil ?_
   replace e0 := hE.g e0; replace e1 := hE.g e1; replace e2 := hE.g e2; replace e3 := hE.g e3; replace e4 := hE.g e4; replace e5 := hE.g e5; replace e6 := hE.g e6
   replace k := k.env hE
   clear hE e14 e41 e63 e65
   refine Z01 ?_
   have hln : (pgs ++ [ip + 1]).length = pgs.length + 1 := by simp
   rw [show pgs.flatMap encN ++ [Value.int .i64 ((ip + 1 : Nat) : Int)] = (pgs ++ [ip + 1]).flatMap encN by simp [encN], ← hln] at O
   replace O : OwnT _ _ ((tBlk sb 28 #[.slice B N.length cap, .int .i64 room]) :: (tRow 125 2 (.slice B N.length cap) N.length (leafV vs N)) :: (tPool vs N) :: (tBlk gw 53 #[.slice (some ⟨gr, 0, none⟩) (((pgs ++ [ip + 1])).length) cr, .slice Q prs.length cq, .bool false]) :: (tRow 3 1 (.slice (some ⟨gr, 0, none⟩) ((pgs ++ [ip + 1])).length cr) ((pgs ++ [ip + 1])).length (((pgs ++ [ip + 1])).flatMap encN)) :: (tPs (.slice Q prs.length cq) prs) :: R) w57 := OwnT.pickR (L := [_, _, _, _, _, _]) (R := R) O [2, 3, 4, 1, 0, 5] (by decide)
   obtain ⟨gB, Bv, cv, eB, hvv, c0, c1⟩ := Z6b O hip
   subst eB
   obtain ⟨gv, ev, -⟩ := Z2j (OwnT.get O 2 rfl) hvv hip hxl
   subst ev
   refine wp_seq ?_
   refine wp_region_lit ?_
   have hE := Env.refl a56 [66, 67, 68, 69, 70, 15]
   refine sm 66 hE k e1 ?_
   intro a58 hE e66 kp
   refine sm 67 hE k e2 ?_
   intro a59 hE e67 kp
   replace e66 := kt kp e66
   refine sd 68 hE k (Z2l rfl e67 rfl (by omega)) ?_
   intro a60 hE e68 kp
   replace e66 := kt kp e66
   replace e68 := e68.trans (Z0u (show ((ip + 1 : Nat) : Int) - 1 = (ip : Int) by omega))
   apply Z03 69 hE k rfl rfl rfl rfl
   case h =>
    simp [go_sem, ↓IntWalk.iteOmega, ev e66, ev e68]
    with_reducible rfl
   intro a61 hE e69 kp
   apply Z03 70 hE k rfl rfl rfl rfl
   case h =>
    simp [go_sem, ↓IntWalk.iteOmega, ev e69, c0, c1]
    with_reducible rfl
   intro a62 hE e70 kp
   refine Z0m O (cs := #[.int .i64 0, .slice none 0 0]) (t := 125) 15 hE k rfl (by rfl) (by rfl) rfl (by simp [go_sem, ↓IntWalk.iteOmega]) ?_
   clear O
   intro nb a63 w64 O hE e15 kp
   replace e70 := kt kp e70
   have q0 : w64.cell? ⟨nb, 0, none⟩ = some (.int .i64 0) := (OwnT.blk O 0 rfl).cell 0
   have z0 : w64.frozen? ⟨nb, 0, none⟩ = false := (OwnT.blk O 0 rfl).frozen 0
   have q1 : w64.cell? ⟨nb, 1, none⟩ = some (.slice none 0 0) := (OwnT.blk O 0 rfl).cell 1
   have z1 : w64.frozen? ⟨nb, 1, none⟩ = false := (OwnT.blk O 0 rfl).frozen 1
   refine Z0o (w' := ((w64.setCell ⟨nb, 0, none⟩ (.int .i64 ↑l)).setCell ⟨nb, 1, none⟩ (.slice (some ⟨gv, 0, none⟩) xs.length cv))) hE rfl rfl (by simp [go_sem, ↓IntWalk.iteOmega, ev e15, ev e70, q0, z0, q1, z1]) ?_
   replace O := OwnT.push 0 rfl (((OwnT.pull O 0 rfl).set 0 (.int .i64 ↑l)).set 1 (.slice (some ⟨gv, 0, none⟩) xs.length cv))
   clear q0 z0 q1 z1
   generalize ((w64.setCell ⟨nb, 0, none⟩ (.int .i64 ↑l)).setCell ⟨nb, 1, none⟩ (.slice (some ⟨gv, 0, none⟩) xs.length cv)) = w65 at O ⊢
   replace O : OwnT _ _ ((tBlk nb 125 #[.int .i64 ↑l, .slice (some ⟨gv, 0, none⟩) xs.length cv]) :: (tBlk sb 28 #[.slice (some ⟨gB, 0, none⟩) N.length cap, .int .i64 room]) :: (tRow 125 2 (.slice (some ⟨gB, 0, none⟩) N.length cap) N.length (leafV vs N)) :: (tPool vs N) :: (tBlk gw 53 #[.slice (some ⟨gr, 0, none⟩) (((pgs ++ [ip + 1])).length) cr, .slice Q prs.length cq, .bool false]) :: (tRow 3 1 (.slice (some ⟨gr, 0, none⟩) ((pgs ++ [ip + 1])).length cr) ((pgs ++ [ip + 1])).length (((pgs ++ [ip + 1])).flatMap encN)) :: (tPs (.slice Q prs.length cq) prs) :: R) w65 := O
   refine wpList_nil ?_
   replace e0 := hE.g e0; replace e1 := hE.g e1; replace e3 := hE.g e3; replace e4 := hE.g e4; replace e5 := hE.g e5; replace e6 := hE.g e6
   replace k := k.env hE
   clear hE e2 e70
   refine Z01 ?_
   clear c0 c1
   refine Z43 (fun a w => Fr 189 a ∧ a.eval (.tmp 0) = .pointer (some ⟨gw, 0, none⟩) ∧ a.eval (.tmp 1) = .slice (some ⟨gB, 0, none⟩) N.length cap ∧ a.eval (.tmp 5) = .bool hb ∧ a.eval (.tmp 6) = .int .u64 ↑h0 ∧ a.eval (.tmp 15) = .pointer (some ⟨nb, 0, none⟩) ∧ ∃ (_ : Unit), OwnT H A0 ((tBlk nb 125 #[.int .i64 ↑l, .slice (some ⟨gv, 0, none⟩) xs.length cv]) :: (tBlk sb 28 #[.slice (some ⟨gB, 0, none⟩) N.length cap, .int .i64 room]) :: (tRow 125 2 (.slice (some ⟨gB, 0, none⟩) N.length cap) N.length (leafV vs N)) :: (tPool vs N) :: (tBlk gw 53 #[.slice (some ⟨gr, 0, none⟩) (((pgs ++ [ip + 1])).length) cr, .slice Q prs.length cq, .bool false]) :: (tRow 3 1 (.slice (some ⟨gr, 0, none⟩) ((pgs ++ [ip + 1])).length cr) ((pgs ++ [ip + 1])).length (((pgs ++ [ip + 1])).flatMap encN)) :: (tPs (.slice Q prs.length cq) prs) :: R) w) ?_ ?_
   · skip
     obtain ⟨_, _, hrow⟩ := Z2j (OwnT.get O 3 rfl) hvv hip hxl
     rcases h0l with ⟨rfl, hq1⟩ | ⟨rfl, hq1⟩
     · have hf0 : x0.1 = f0 := by rw [hq1] at hk0; injection hk0 with h; exact h.symm
       refine wp_seq ?_
       refine wp_region_lit ?_
       have hE := Env.refl a63 [71, 72, 73, 74, 75, 76, 77, 78, 79, 80, 81, 82, 83, 84, 85, 86, 87, 88, 89, 90, 91, 92, 93, 94, 95, 96, 97, 98, 99, 100, 101, 102, 103, 104, 105, 106, 107, 108, 109, 110, 111, 112, 113]
       apply Z03 71 hE k rfl rfl rfl rfl
       case h =>
        have q0 : w65.cell? ⟨nb, 0, none⟩ = some (.int .i64 ↑l) := (OwnT.blk O 0 rfl).cell 0
        have q1 : w65.cell? ⟨nb, 1, none⟩ = some (.slice (some ⟨gv, 0, none⟩) xs.length cv) := (OwnT.blk O 0 rfl).cell 1
        simp [go_sem, ↓IntWalk.iteOmega, ev (hE.g e15), q0, q1]
        with_reducible rfl
       intro a66 hE e71 kp
       apply Z09 72 hE k rfl (by rfl) (by rfl) rfl
       case h =>
        simp [go_sem, ↓IntWalk.iteOmega, ev e71]
        with_reducible exact ⟨rfl, rfl⟩
       case hc => exact Z36 _ hrow hxl h15 hux h7 (Z3b hT hnd hN)
       rintro e w68 ⟨rfl, RE⟩
       replace hrow := hrow.below RE
       obtain ⟨_, _, e, k0, -⟩ := Z1q hrow (Below.refl _ _) hx0
       injection e with e; injection e with e e'; subst e e'
       replace O := OwnT.ext O RE
       refine ⟨_, rfl, ?_⟩
       intro a67 hE e72 kp
       refine sd 73 hE k (Z1a rfl e72) ?_
       intro a69 hE e73 kp
       refine sd 74 hE k (Z04 rfl e73) ?_
       intro a70 hE e74 kp
       apply Z02 75 hE k rfl rfl rfl rfl rfl e74
       case h =>
        simp [go_sem, ↓IntWalk.iteOmega, ev (hE.g e15)]
        with_reducible rfl
       intro a71 hE e75 kp
       replace e74 := kt kp e74
       apply Z02 76 hE k rfl rfl rfl rfl rfl e74
       case h =>
        have q0 : w68.cell? ⟨nb, 1, none⟩ = some (.slice (some ⟨gv, 0, none⟩) xs.length cv) := (OwnT.blk O 0 rfl).cell 1
        simp [go_sem, ↓IntWalk.iteOmega, ev e75, q0]
        with_reducible rfl
       intro a72 hE e76 kp
       replace e74 := kt kp e74
       apply Z02 77 hE k rfl rfl rfl rfl rfl e74
       case h =>
        exact Z0d Try.underlying29 rfl e76
       intro a73 hE e77 kp
       replace e74 := kt kp e74
       apply Z02 78 hE k rfl rfl rfl rfl rfl e74
       case h =>
        exact Z06 (Z0k rfl e77 rfl) (decide_eq_false (by omega))
       intro a74 hE e78 kp
       replace e74 := kt kp e74
       refine sd 79 hE k (Z05 rfl e74 e78) ?_
       intro a75 hE e79 kp
       refine sd 80 hE k (Z04 rfl e79) ?_
       intro a76 hE e80 kp
       apply Z02 81 hE k rfl rfl rfl rfl rfl e80
       case h =>
        exact Z04 rfl (hE.g e3)
       intro a77 hE e81 kp
       replace e80 := kt kp e80
       apply Z02 82 hE k rfl rfl rfl rfl rfl e80
       case h =>
        exact Z06 (Z29 rfl e81 rfl) (decide_eq_true (by omega))
       intro a78 hE e82 kp
       replace e80 := kt kp e80
       apply Z02 83 hE k rfl rfl rfl rfl rfl e80
       case h =>
        exact Z04 rfl e82
       intro a79 hE e83 kp
       replace e80 := kt kp e80
       apply Z02 84 hE k rfl rfl rfl rfl rfl e83
       case h =>
        simp [go_sem, ↓IntWalk.iteOmega, ev (hE.g e15)]
        with_reducible rfl
       intro a80 hE e84 kp
       replace e80 := kt kp e80; replace e83 := kt kp e83
       apply Z02 85 hE k rfl rfl rfl rfl rfl e83
       case h =>
        have q0 : w68.cell? ⟨nb, 0, none⟩ = some (.int .i64 ↑l) := (OwnT.blk O 0 rfl).cell 0
        simp [go_sem, ↓IntWalk.iteOmega, ev e84, q0]
        with_reducible rfl
       intro a81 hE e85 kp
       replace e80 := kt kp e80; replace e83 := kt kp e83
       apply Z02 86 hE k rfl rfl rfl rfl rfl e83
       case h =>
        exact Z04 rfl (hE.g e3)
       intro a82 hE e86 kp
       replace e80 := kt kp e80; replace e83 := kt kp e83; replace e85 := kt kp e85
       apply Z02 87 hE k rfl rfl rfl rfl rfl e83
       case h =>
        exact Z06 (Z0j rfl e85 e86) (decide_eq_false (fun h => h rfl))
       intro a83 hE e87 kp
       replace e80 := kt kp e80; replace e83 := kt kp e83
       apply Z02 88 hE k rfl rfl rfl rfl rfl e83
       case h =>
        exact Z04 rfl e87
       intro a84 hE e88 kp
       replace e80 := kt kp e80; replace e83 := kt kp e83
       apply Z02 89 hE k rfl rfl rfl rfl rfl e88
       case h =>
        simp [go_sem, ↓IntWalk.iteOmega, ev (hE.g e15)]
        with_reducible rfl
       intro a85 hE e89 kp
       replace e80 := kt kp e80; replace e83 := kt kp e83; replace e88 := kt kp e88
       apply Z02 90 hE k rfl rfl rfl rfl rfl e88
       case h =>
        have q0 : w68.cell? ⟨nb, 1, none⟩ = some (.slice (some ⟨gv, 0, none⟩) xs.length cv) := (OwnT.blk O 0 rfl).cell 1
        simp [go_sem, ↓IntWalk.iteOmega, ev e89, q0]
        with_reducible rfl
       intro a86 hE e90 kp
       replace e80 := kt kp e80; replace e83 := kt kp e83; replace e88 := kt kp e88
       apply Z02 91 hE k rfl rfl rfl rfl rfl e88
       case h =>
        simp [go_sem, ↓IntWalk.iteOmega, ev e90]
        with_reducible rfl
       intro a87 hE e91 kp
       replace e80 := kt kp e80; replace e83 := kt kp e83; replace e88 := kt kp e88
       apply Z02 92 hE k rfl rfl rfl rfl rfl e88
       case h =>
        simp [go_sem, ↓IntWalk.iteOmega, ev e91]
        with_reducible rfl
       intro a88 hE e92 kp
       replace e80 := kt kp e80; replace e83 := kt kp e83; replace e88 := kt kp e88
       apply Z02 93 hE k rfl rfl rfl rfl rfl e88
       case h =>
        simp [go_sem, ↓IntWalk.iteOmega, ev e92, k0]
        with_reducible rfl
       intro a89 hE e93 kp
       replace e80 := kt kp e80; replace e83 := kt kp e83; replace e88 := kt kp e88
       apply Z02 94 hE k rfl rfl rfl rfl rfl e88
       case h =>
        exact Z04 rfl (hE.g e4)
       intro a90 hE e94 kp
       replace e80 := kt kp e80; replace e83 := kt kp e83; replace e88 := kt kp e88; replace e93 := kt kp e93
       apply Z02 95 hE k rfl rfl rfl rfl rfl e88
       case h =>
        exact Z06 (Z0j rfl e93 e94) (decide_eq_false (fun h => h (by rw [hf0])))
       intro a91 hE e95 kp
       replace e80 := kt kp e80; replace e83 := kt kp e83; replace e88 := kt kp e88
       apply Z02 96 hE k rfl rfl rfl rfl rfl e83
       case h =>
        exact Z05 rfl e88 e95
       intro a92 hE e96 kp
       replace e80 := kt kp e80; replace e83 := kt kp e83
       apply Z02 97 hE k rfl rfl rfl rfl rfl e80
       case h =>
        exact Z0a rfl e83 e96
       intro a93 hE e97 kp
       replace e80 := kt kp e80
       refine sd 98 hE k (Z05 rfl e80 e97) ?_
       intro a94 hE e98 kp
       refine sd 99 hE k (Z04 rfl e98) ?_
       intro a95 hE e99 kp
       apply Z02 100 hE k rfl rfl rfl rfl rfl e99
       case h =>
        exact Z04 rfl (hE.g e3)
       intro a96 hE e100 kp
       replace e99 := kt kp e99
       apply Z02 101 hE k rfl rfl rfl rfl rfl e99
       case h =>
        exact Z06 (Z0r rfl e100 rfl) (decide_eq_false (by omega))
       intro a97 hE e101 kp
       replace e99 := kt kp e99
       apply Z02 102 hE k rfl rfl rfl rfl rfl e99
       case h =>
        exact Z04 rfl e101
       intro a98 hE e102 kp
       replace e99 := kt kp e99
       refine Z07 103 hE k rfl (by rfl) (by rfl) rfl rfl (.inl e102) ?_
       intro a99 hE e103 kp
       replace e99 := kt kp e99; replace e102 := kt kp e102
       refine Z07 104 hE k rfl (by rfl) (by rfl) rfl rfl (.inl e102) ?_
       intro a100 hE e104 kp
       replace e99 := kt kp e99; replace e102 := kt kp e102
       refine Z07 105 hE k rfl (by rfl) (by rfl) rfl rfl (.inl e102) ?_
       intro a101 hE e105 kp
       replace e99 := kt kp e99; replace e102 := kt kp e102
       apply Z02 106 hE k rfl rfl rfl rfl rfl e99
       case h =>
        exact Z05 rfl e102 rfl
       intro a102 hE e106 kp
       replace e99 := kt kp e99
       apply Z02 107 hE k rfl rfl rfl rfl rfl e99
       case h =>
        exact Z04 rfl e106
       intro a103 hE e107 kp
       replace e99 := kt kp e99
       refine Z07 108 hE k rfl (by rfl) (by rfl) rfl rfl (.inl e107) ?_
       intro a104 hE e108 kp
       replace e99 := kt kp e99; replace e107 := kt kp e107
       refine Z07 109 hE k rfl (by rfl) (by rfl) rfl rfl (.inl e107) ?_
       intro a105 hE e109 kp
       replace e99 := kt kp e99; replace e107 := kt kp e107
       refine Z07 110 hE k rfl (by rfl) (by rfl) rfl rfl (.inl e107) ?_
       intro a106 hE e110 kp
       replace e99 := kt kp e99; replace e107 := kt kp e107
       refine Z07 111 hE k rfl (by rfl) (by rfl) rfl rfl (.inl e107) ?_
       intro a107 hE e111 kp
       replace e99 := kt kp e99; replace e107 := kt kp e107
       apply Z02 112 hE k rfl rfl rfl rfl rfl e99
       case h =>
        exact Z05 rfl e107 rfl
       intro a108 hE e112 kp
       replace e99 := kt kp e99
       refine sd 113 hE k (Z05 rfl e99 e112) ?_
       intro a109 hE e113 kp
       refine wpList_nil ?_
       replace e0 := hE.g e0; replace e1 := hE.g e1; replace e5 := hE.g e5; replace e6 := hE.g e6; replace e15 := hE.g e15
       replace k := k.env hE
       clear hE e3 e4
       refine Z01 ?_
       refine Z08 e113 rfl ?_
       refine wp_skip ?_
       refine Z01 ?_
       exact ⟨k, e0, e1, e5, e6, e15, (), O⟩
     · skip
       have h2x : 2 ≤ xs.length := by obtain ⟨ys, e1, e2⟩ := hq1 (by omega); rw [hnd] at e1; injection e1 with e1; injection e1 with _ e1; subst e1; exact e2
       refine wp_seq ?_
       refine wp_region_lit ?_
       have hE := Env.refl a63 [71, 72, 73, 74, 75, 76, 77, 78, 79, 80, 81, 82, 83, 84, 85, 86, 87, 88, 89, 90, 91, 92, 93, 94, 95, 96, 97, 98, 99, 100, 101, 102, 103, 104, 105, 106, 107, 108, 109, 110, 111, 112, 113]
       apply Z03 71 hE k rfl rfl rfl rfl
       case h =>
        have q0 : w65.cell? ⟨nb, 0, none⟩ = some (.int .i64 ↑l) := (OwnT.blk O 0 rfl).cell 0
        have q1 : w65.cell? ⟨nb, 1, none⟩ = some (.slice (some ⟨gv, 0, none⟩) xs.length cv) := (OwnT.blk O 0 rfl).cell 1
        simp [go_sem, ↓IntWalk.iteOmega, ev (hE.g e15), q0, q1]
        with_reducible rfl
       intro a110 hE e71 kp
       apply Z09 72 hE k rfl (by rfl) (by rfl) rfl
       case h =>
        simp [go_sem, ↓IntWalk.iteOmega, ev e71]
        with_reducible exact ⟨rfl, rfl⟩
       case hc => exact Z36 _ hrow hxl h15 hux h7 (Z3b hT hnd hN)
       rintro e w112 ⟨rfl, RE⟩
       replace hrow := hrow.below RE
       obtain ⟨_, _, e, k0, -⟩ := Z1q hrow (Below.refl _ _) hx0
       injection e with e; injection e with e e'; subst e e'
       replace O := OwnT.ext O RE
       refine ⟨_, rfl, ?_⟩
       intro a111 hE e72 kp
       refine sd 73 hE k (Z1a rfl e72) ?_
       intro a113 hE e73 kp
       refine sd 74 hE k (Z04 rfl e73) ?_
       intro a114 hE e74 kp
       apply Z02 75 hE k rfl rfl rfl rfl rfl e74
       case h =>
        simp [go_sem, ↓IntWalk.iteOmega, ev (hE.g e15)]
        with_reducible rfl
       intro a115 hE e75 kp
       replace e74 := kt kp e74
       apply Z02 76 hE k rfl rfl rfl rfl rfl e74
       case h =>
        have q0 : w112.cell? ⟨nb, 1, none⟩ = some (.slice (some ⟨gv, 0, none⟩) xs.length cv) := (OwnT.blk O 0 rfl).cell 1
        simp [go_sem, ↓IntWalk.iteOmega, ev e75, q0]
        with_reducible rfl
       intro a116 hE e76 kp
       replace e74 := kt kp e74
       apply Z02 77 hE k rfl rfl rfl rfl rfl e74
       case h =>
        exact Z0d Try.underlying29 rfl e76
       intro a117 hE e77 kp
       replace e74 := kt kp e74
       apply Z02 78 hE k rfl rfl rfl rfl rfl e74
       case h =>
        exact Z06 (Z0k rfl e77 rfl) (decide_eq_false (by omega))
       intro a118 hE e78 kp
       replace e74 := kt kp e74
       refine sd 79 hE k (Z05 rfl e74 e78) ?_
       intro a119 hE e79 kp
       refine sd 80 hE k (Z04 rfl e79) ?_
       intro a120 hE e80 kp
       apply Z02 81 hE k rfl rfl rfl rfl rfl e80
       case h =>
        exact Z04 rfl (hE.g e3)
       intro a121 hE e81 kp
       replace e80 := kt kp e80
       apply Z02 82 hE k rfl rfl rfl rfl rfl e80
       case h =>
        exact Z06 (Z29 rfl e81 rfl) (decide_eq_false (by omega))
       intro a122 hE e82 kp
       replace e80 := kt kp e80
       apply Z02 83 hE k rfl rfl rfl rfl rfl e80
       case h =>
        exact Z04 rfl e82
       intro a123 hE e83 kp
       replace e80 := kt kp e80
       refine Z07 84 hE k rfl (by rfl) (by rfl) rfl rfl (.inl e83) ?_
       intro a124 hE e84 kp
       replace e80 := kt kp e80; replace e83 := kt kp e83
       refine Z07 85 hE k rfl (by rfl) (by rfl) rfl rfl (.inl e83) ?_
       intro a125 hE e85 kp
       replace e80 := kt kp e80; replace e83 := kt kp e83
       refine Z07 86 hE k rfl (by rfl) (by rfl) rfl rfl (.inl e83) ?_
       intro a126 hE e86 kp
       replace e80 := kt kp e80; replace e83 := kt kp e83; replace e85 := kt kp e85
       refine Z07 87 hE k rfl (by rfl) (by rfl) rfl rfl (.inl e83) ?_
       intro a127 hE e87 kp
       replace e80 := kt kp e80; replace e83 := kt kp e83
       refine Z07 88 hE k rfl (by rfl) (by rfl) rfl rfl (.inl e83) ?_
       intro a128 hE e88 kp
       replace e80 := kt kp e80; replace e83 := kt kp e83
       refine Z07 89 hE k rfl (by rfl) (by rfl) rfl rfl (.inr e88) ?_
       intro a129 hE e89 kp
       replace e80 := kt kp e80; replace e83 := kt kp e83; replace e88 := kt kp e88
       refine Z07 90 hE k rfl (by rfl) (by rfl) rfl rfl (.inr e88) ?_
       intro a130 hE e90 kp
       replace e80 := kt kp e80; replace e83 := kt kp e83; replace e88 := kt kp e88
       refine Z07 91 hE k rfl (by rfl) (by rfl) rfl rfl (.inr e88) ?_
       intro a131 hE e91 kp
       replace e80 := kt kp e80; replace e83 := kt kp e83; replace e88 := kt kp e88
       refine Z07 92 hE k rfl (by rfl) (by rfl) rfl rfl (.inr e88) ?_
       intro a132 hE e92 kp
       replace e80 := kt kp e80; replace e83 := kt kp e83; replace e88 := kt kp e88
       refine Z07 93 hE k rfl (by rfl) (by rfl) rfl rfl (.inr e88) ?_
       intro a133 hE e93 kp
       replace e80 := kt kp e80; replace e83 := kt kp e83; replace e88 := kt kp e88
       refine Z07 94 hE k rfl (by rfl) (by rfl) rfl rfl (.inr e88) ?_
       intro a134 hE e94 kp
       replace e80 := kt kp e80; replace e83 := kt kp e83; replace e88 := kt kp e88; replace e93 := kt kp e93
       refine Z07 95 hE k rfl (by rfl) (by rfl) rfl rfl (.inr e88) ?_
       intro a135 hE e95 kp
       replace e80 := kt kp e80; replace e83 := kt kp e83; replace e88 := kt kp e88
       refine Z07 96 hE k rfl (by rfl) (by rfl) rfl rfl (.inl e83) ?_
       intro a136 hE e96 kp
       replace e80 := kt kp e80; replace e83 := kt kp e83
       apply Z02 97 hE k rfl rfl rfl rfl rfl e80
       case h =>
        exact Z05 rfl e83 rfl
       intro a137 hE e97 kp
       replace e80 := kt kp e80
       refine sd 98 hE k (Z05 rfl e80 e97) ?_
       intro a138 hE e98 kp
       refine sd 99 hE k (Z04 rfl e98) ?_
       intro a139 hE e99 kp
       apply Z02 100 hE k rfl rfl rfl rfl rfl e99
       case h =>
        exact Z04 rfl (hE.g e3)
       intro a140 hE e100 kp
       replace e99 := kt kp e99
       apply Z02 101 hE k rfl rfl rfl rfl rfl e99
       case h =>
        exact Z06 (Z0r rfl e100 rfl) (decide_eq_true (by omega))
       intro a141 hE e101 kp
       replace e99 := kt kp e99
       apply Z02 102 hE k rfl rfl rfl rfl rfl e99
       case h =>
        exact Z04 rfl e101
       intro a142 hE e102 kp
       replace e99 := kt kp e99
       apply Z02 103 hE k rfl rfl rfl rfl rfl e102
       case h =>
        simp [go_sem, ↓IntWalk.iteOmega, ev (hE.g e15)]
        with_reducible rfl
       intro a143 hE e103 kp
       replace e99 := kt kp e99; replace e102 := kt kp e102
       apply Z02 104 hE k rfl rfl rfl rfl rfl e102
       case h =>
        have q0 : w112.cell? ⟨nb, 0, none⟩ = some (.int .i64 ↑l) := (OwnT.blk O 0 rfl).cell 0
        simp [go_sem, ↓IntWalk.iteOmega, ev e103, q0]
        with_reducible rfl
       intro a144 hE e104 kp
       replace e99 := kt kp e99; replace e102 := kt kp e102
       apply Z02 105 hE k rfl rfl rfl rfl rfl e102
       case h =>
        exact Z06 (Z17 rfl e104 rfl) (decide_eq_true (by omega))
       intro a145 hE e105 kp
       replace e99 := kt kp e99; replace e102 := kt kp e102
       apply Z02 106 hE k rfl rfl rfl rfl rfl e99
       case h =>
        exact Z0a rfl e102 e105
       intro a146 hE e106 kp
       replace e99 := kt kp e99
       apply Z02 107 hE k rfl rfl rfl rfl rfl e99
       case h =>
        exact Z04 rfl e106
       intro a147 hE e107 kp
       replace e99 := kt kp e99
       apply Z02 108 hE k rfl rfl rfl rfl rfl e107
       case h =>
        simp [go_sem, ↓IntWalk.iteOmega, ev (hE.g e15)]
        with_reducible rfl
       intro a148 hE e108 kp
       replace e99 := kt kp e99; replace e107 := kt kp e107
       apply Z02 109 hE k rfl rfl rfl rfl rfl e107
       case h =>
        have q0 : w112.cell? ⟨nb, 1, none⟩ = some (.slice (some ⟨gv, 0, none⟩) xs.length cv) := (OwnT.blk O 0 rfl).cell 1
        simp [go_sem, ↓IntWalk.iteOmega, ev e108, q0]
        with_reducible rfl
       intro a149 hE e109 kp
       replace e99 := kt kp e99; replace e107 := kt kp e107
       apply Z02 110 hE k rfl rfl rfl rfl rfl e107
       case h =>
        exact Z0d Try.underlying29 rfl e109
       intro a150 hE e110 kp
       replace e99 := kt kp e99; replace e107 := kt kp e107
       apply Z02 111 hE k rfl rfl rfl rfl rfl e107
       case h =>
        exact Z06 (Z0r rfl e110 rfl) (decide_eq_false (by omega))
       intro a151 hE e111 kp
       replace e99 := kt kp e99; replace e107 := kt kp e107
       apply Z02 112 hE k rfl rfl rfl rfl rfl e99
       case h =>
        exact Z0a rfl e107 e111
       intro a152 hE e112 kp
       replace e99 := kt kp e99
       refine sd 113 hE k (Z05 rfl e99 e112) ?_
       intro a153 hE e113 kp
       refine wpList_nil ?_
       replace e0 := hE.g e0; replace e1 := hE.g e1; replace e5 := hE.g e5; replace e6 := hE.g e6; replace e15 := hE.g e15
       replace k := k.env hE
       clear hE e3 e4
       refine Z01 ?_
       refine Z08 e113 rfl ?_
       refine wp_skip ?_
       refine Z01 ?_
       exact ⟨k, e0, e1, e5, e6, e15, (), O⟩
   · clear k e0 e1 e3 e4 e5 e6 e15 O
     intro a154 w155 h_
     obtain ⟨k, e0, e1, e5, e6, e15, _, O⟩ := h_
     have hkk : Kids (Tr N l1) xs L g1 := by
      subst hl1
      obtain ⟨_, _, _, h, hb, e⟩ := Z4t hT hnd
      injection e with _ e
      subst e
      exact Z0i.1 hb

     refine wp_seq ?_
     refine wp_region_lit ?_
     have hE := Env.refl a154 [16]
     refine sd 16 hE k (Z00 rfl rfl) ?_
     intro a156 hE e16 kp
     refine wpList_nil ?_
     replace e0 := hE.g e0; replace e1 := hE.g e1; replace e5 := hE.g e5; replace e6 := hE.g e6; replace e15 := hE.g e15
     replace k := k.env hE
     clear hE
     refine Z01 ?_
     refine wp_block ?_
     refine wp_loop (fun a w => Fr 189 a ∧ a.eval (.tmp 0) = .pointer (some ⟨gw, 0, none⟩) ∧ a.eval (.tmp 1) = .slice (some ⟨gB, 0, none⟩) N.length cap ∧ a.eval (.tmp 5) = .bool hb ∧ a.eval (.tmp 6) = .int .u64 ↑h0 ∧ a.eval (.tmp 15) = .pointer (some ⟨nb, 0, none⟩) ∧ ∃ (i : Nat) (P1 Q1 : Option Addr) (c1 c2 : Nat) (A Bk : List Pr) (LA LB : List (List Pr)) (gA gB2 : List Nat) (pg : List Nat) (pr : List Pr), a.eval (.tmp 16) = .int .i64 ↑i ∧ A.length = i ∧ xs = A ++ Bk ∧ Kids (Tr N l1) Bk LB gB2 ∧ L = LA ++ LB ∧ g1 = gA ++ gB2 ∧ pg = pgs ++ (ip + 1) :: gA ∧ pr = prs ++ LA.flatten ∧ OwnT H A0 ((tBlk nb 125 #[.int .i64 ↑l, .slice (some ⟨gv, 0, none⟩) xs.length cv]) :: (tBlk sb 28 #[.slice (some ⟨gB, 0, none⟩) N.length cap, .int .i64 room]) :: (tRow 125 2 (.slice (some ⟨gB, 0, none⟩) N.length cap) N.length (leafV vs N)) :: (tPool vs N) :: (tBlk gw 53 #[.slice P1 pg.length c1, .slice Q1 pr.length c2, .bool false]) :: (tRow 3 1 (.slice P1 pg.length c1) pg.length (pg.flatMap encN)) :: (tPs (.slice Q1 pr.length c2) pr) :: R) w) (fun a w => xs.length - (intOf (a.eval (.tmp 16))).toNat) ?_ ?_
     · exact ⟨k, e0, e1, e5, e6, e15, 0, some ⟨gr, 0, none⟩, Q, cr, cq, [], xs, [], L, [], g1, pgs ++ [ip + 1], prs, e16, rfl, rfl, hkk, rfl, rfl, rfl, (by simp), O⟩
     intro a157 w158 hI
     clear k e0 e1 e5 e6 e15
     obtain ⟨k, e0, e1, e5, e6, e15, h_⟩ := hI
     clear O e16
     obtain ⟨i, P1, Q1, c1, c2, A, Bk, LA, LB, gA, gB2, pg, pr, e16, hA, hAB, kB, hL, hgg, hpg, hpr, O⟩ := h_
     have mi := e16
     have hxs : xs.length = i + Bk.length := by rw [hAB, List.length_append, hA]
     by_cases hlt : i < xs.length
     · have hltI : (i : Int) < (xs.length : Int) := by omega
       obtain ⟨x, Bk', rfl⟩ : ∃ x r, Bk = x :: r := by
        cases Bk with
        | nil => simp at hxs; omega
        | cons x r => exact ⟨x, r, rfl⟩
       obtain ⟨L1, gx, L2, g2, kx, hkx, kB2, rfl, rfl⟩ := kB
       have hx : xs[i]? = some x := by rw [hAB, List.getElem?_append_right (by omega), hA, Nat.sub_self]; rfl
       have hxb : hb = true → x.1 < h0 := fun e => by obtain ⟨v, hv⟩ := Z5f hT hnd hu x (List.mem_of_getElem? hx); exact hh e (x.1, v) hv
       have hy5 : x.2 ≤ 511 := (Z3b hT hnd hN (by omega) x (List.mem_of_getElem? hx)).2
       have hLf : L.flatten = LA.flatten ++ (L1.flatten ++ L2.flatten) := by rw [hL, List.flatten_append, List.flatten_append]
       have hu12 : Up (L1.flatten ++ L2.flatten) := by rw [hLf] at hu; exact hu.app.2.1
       have hin : ∀ z ∈ L1.flatten ++ L2.flatten, z ∈ L.flatten := fun z hz => by rw [hLf]; exact List.mem_append.2 (.inr hz)
       have hnod : (pg ++ gx).Nodup := by
        rw [hpg]; rw [hgg] at hgn
        rw [show pgs ++ (ip + 1) :: (gA ++ (gx ++ g2)) = (pgs ++ (ip + 1) :: gA ++ gx) ++ g2 by simp] at hgn
        exact (List.nodup_append.1 hgn).1
       have hgl3 : (pg ++ gx).length ≤ 600 := by rw [hpg]; rw [hgg] at hgl; simp at hgl ⊢; omega
       have hpl3 : pr.length + L1.flatten.length ≤ 100000 := by rw [hpr, List.length_append]; rw [hLf] at hpl; simp only [List.length_append] at hpl; omega
       obtain ⟨_, _, hrow⟩ := Z2j (OwnT.get O 3 rfl) hvv hip hxl
       obtain ⟨_, _, e, d0, d1⟩ := Z1q hrow (Below.refl _ _) hx
       injection e with e; injection e with e e'; subst e e'
       clear hrow
       rw [Nat.zero_add] at d0 d1

       refine wp_seq ?_
       refine wp_seq ?_
       refine wp_region_lit ?_
       have hE := Env.refl a157 [117, 118, 119, 120, 121]
       refine sm 117 hE k e16 ?_
       intro a159 hE e117 kp
       apply Z03 118 hE k rfl rfl rfl rfl
       case h =>
        simp [go_sem, ↓IntWalk.iteOmega, ev (hE.g e15)]
        with_reducible rfl
       intro a160 hE e118 kp
       replace e117 := kt kp e117
       apply Z03 119 hE k rfl rfl rfl rfl
       case h =>
        have q0 : w158.cell? ⟨nb, 1, none⟩ = some (.slice (some ⟨gv, 0, none⟩) xs.length cv) := (OwnT.blk O 0 rfl).cell 1
        simp [go_sem, ↓IntWalk.iteOmega, ev e118, q0]
        with_reducible rfl
       intro a161 hE e119 kp
       replace e117 := kt kp e117
       refine sd 120 hE k (Z0d Try.underlying29 rfl e119) ?_
       intro a162 hE e120 kp
       replace e117 := kt kp e117
       refine sd 121 hE k (Z06 (Z0r rfl e117 e120) (decide_eq_true (by omega))) ?_
       intro a163 hE e121 kp
       refine wpList_nil ?_
       replace e0 := hE.g e0; replace e1 := hE.g e1; replace e5 := hE.g e5; replace e6 := hE.g e6; replace e15 := hE.g e15; replace e16 := hE.g e16
       replace k := k.env hE
       clear hE
       refine Z01 ?_
       refine Z0b e121 rfl ?_
       refine wp_skip ?_
       refine Z01 (wp_seq ?_)
       refine wp_block ?_
       refine wp_seq ?_
       refine wp_region_lit ?_
       have hE := Env.refl a163 [124, 125, 126, 127, 128, 17]
       apply Z03 124 hE k rfl rfl rfl rfl
       case h =>
        simp [go_sem, ↓IntWalk.iteOmega, ev (hE.g e15)]
        with_reducible rfl
       intro a164 hE e124 kp
       apply Z03 125 hE k rfl rfl rfl rfl
       case h =>
        have q0 : w158.cell? ⟨nb, 1, none⟩ = some (.slice (some ⟨gv, 0, none⟩) xs.length cv) := (OwnT.blk O 0 rfl).cell 1
        simp [go_sem, ↓IntWalk.iteOmega, ev e124, q0]
        with_reducible rfl
       intro a165 hE e125 kp
       refine sm 126 hE k e16 ?_
       intro a166 hE e126 kp
       replace e125 := kt kp e125
       apply Z03 127 hE k rfl rfl rfl rfl
       case h =>
        simp [go_sem, ↓IntWalk.iteOmega, ev e125, ev e126]
        with_reducible rfl
       intro a167 hE e127 kp
       apply Z03 128 hE k rfl rfl rfl rfl
       case h =>
        simp [go_sem, ↓IntWalk.iteOmega, ev e127, d0, d1]
        with_reducible rfl
       intro a168 hE e128 kp
       refine Z0m O (cs := #[.int .u64 0, .int .u64 0]) (t := 38) 17 hE k rfl (by rfl) (by rfl) rfl (by simp [go_sem, ↓IntWalk.iteOmega]) ?_
       clear O
       intro xb a169 w170 O hE e17 kp
       replace e128 := kt kp e128
       have q0 : w170.cell? ⟨xb, 0, none⟩ = some (.int .u64 0) := (OwnT.blk O 0 rfl).cell 0
       have z0 : w170.frozen? ⟨xb, 0, none⟩ = false := (OwnT.blk O 0 rfl).frozen 0
       have q1 : w170.cell? ⟨xb, 1, none⟩ = some (.int .u64 0) := (OwnT.blk O 0 rfl).cell 1
       have z1 : w170.frozen? ⟨xb, 1, none⟩ = false := (OwnT.blk O 0 rfl).frozen 1
       refine Z0o (w' := ((w170.setCell ⟨xb, 0, none⟩ (.int .u64 ↑x.1)).setCell ⟨xb, 1, none⟩ (.int .u64 ↑x.2))) hE rfl rfl (by simp [go_sem, ↓IntWalk.iteOmega, ev e17, ev e128, q0, z0, q1, z1]) ?_
       replace O := OwnT.push 0 rfl (((OwnT.pull O 0 rfl).set 0 (.int .u64 ↑x.1)).set 1 (.int .u64 ↑x.2))
       clear q0 z0 q1 z1
       generalize ((w170.setCell ⟨xb, 0, none⟩ (.int .u64 ↑x.1)).setCell ⟨xb, 1, none⟩ (.int .u64 ↑x.2)) = w171 at O ⊢
       replace O : OwnT _ _ ((tBlk xb 38 #[.int .u64 ↑x.1, .int .u64 ↑x.2]) :: (tBlk nb 125 #[.int .i64 ↑l, .slice (some ⟨gv, 0, none⟩) xs.length cv]) :: (tBlk sb 28 #[.slice (some ⟨gB, 0, none⟩) N.length cap, .int .i64 room]) :: (tRow 125 2 (.slice (some ⟨gB, 0, none⟩) N.length cap) N.length (leafV vs N)) :: (tPool vs N) :: (tBlk gw 53 #[.slice P1 pg.length c1, .slice Q1 pr.length c2, .bool false]) :: (tRow 3 1 (.slice P1 pg.length c1) pg.length (pg.flatMap encN)) :: (tPs (.slice Q1 pr.length c2) pr) :: R) w171 := O
       refine wpList_nil ?_
       replace e0 := hE.g e0; replace e1 := hE.g e1; replace e5 := hE.g e5; replace e6 := hE.g e6; replace e15 := hE.g e15; replace e16 := hE.g e16
       replace k := k.env hE
       clear hE e121 e128
       refine Z01 ?_
       clear d0 d1
       refine Z43 (fun a w => Fr 189 a ∧ a.eval (.tmp 0) = .pointer (some ⟨gw, 0, none⟩) ∧ a.eval (.tmp 1) = .slice (some ⟨gB, 0, none⟩) N.length cap ∧ a.eval (.tmp 5) = .bool hb ∧ a.eval (.tmp 6) = .int .u64 ↑h0 ∧ a.eval (.tmp 15) = .pointer (some ⟨nb, 0, none⟩) ∧ a.eval (.tmp 16) = .int .i64 ↑i ∧ a.eval (.tmp 17) = .pointer (some ⟨xb, 0, none⟩) ∧ ∃ (_ : Unit), OwnT H A0 ((tBlk xb 38 #[.int .u64 ↑x.1, .int .u64 ↑x.2]) :: (tBlk nb 125 #[.int .i64 ↑l, .slice (some ⟨gv, 0, none⟩) xs.length cv]) :: (tBlk sb 28 #[.slice (some ⟨gB, 0, none⟩) N.length cap, .int .i64 room]) :: (tRow 125 2 (.slice (some ⟨gB, 0, none⟩) N.length cap) N.length (leafV vs N)) :: (tPool vs N) :: (tBlk gw 53 #[.slice P1 pg.length c1, .slice Q1 pr.length c2, .bool false]) :: (tRow 3 1 (.slice P1 pg.length c1) pg.length (pg.flatMap encN)) :: (tPs (.slice Q1 pr.length c2) pr) :: R) w) ?_ ?_
       · skip
         cases hb with
         | true =>
          have hxb' := hxb rfl
          refine wp_seq ?_
          refine wp_region_lit ?_
          have hE := Env.refl a169 [129, 130, 131, 132, 133, 134, 135]
          refine sm 129 hE k e5 ?_
          intro a172 hE e129 kp
          refine sd 130 hE k (Z04 rfl e129) ?_
          intro a173 hE e130 kp
          apply Z02 131 hE k rfl rfl rfl rfl rfl e130
          case h =>
           simp [go_sem, ↓IntWalk.iteOmega, ev (hE.g e17)]
           with_reducible rfl
          intro a174 hE e131 kp
          replace e130 := kt kp e130
          apply Z02 132 hE k rfl rfl rfl rfl rfl e130
          case h =>
           have q0 : w171.cell? ⟨xb, 0, none⟩ = some (.int .u64 ↑x.1) := (OwnT.blk O 0 rfl).cell 0
           simp [go_sem, ↓IntWalk.iteOmega, ev e131, q0]
           with_reducible rfl
          intro a175 hE e132 kp
          replace e130 := kt kp e130
          apply Z02 133 hE k rfl rfl rfl rfl rfl e130
          case h =>
           exact Z04 rfl (hE.g e6)
          intro a176 hE e133 kp
          replace e130 := kt kp e130; replace e132 := kt kp e132
          apply Z02 134 hE k rfl rfl rfl rfl rfl e130
          case h =>
           exact Z06 (Z29 rfl e132 e133) (decide_eq_false (by omega))
          intro a177 hE e134 kp
          replace e130 := kt kp e130
          refine sd 135 hE k (Z0a rfl e130 e134) ?_
          intro a178 hE e135 kp
          refine wpList_nil ?_
          replace e0 := hE.g e0; replace e1 := hE.g e1; replace e5 := hE.g e5; replace e6 := hE.g e6; replace e15 := hE.g e15; replace e16 := hE.g e16; replace e17 := hE.g e17
          replace k := k.env hE
          clear hE
          refine Z01 ?_
          refine Z08 e135 rfl ?_
          refine wp_skip ?_
          refine Z01 ?_
          exact ⟨k, e0, e1, e5, e6, e15, e16, e17, (), O⟩
         | false =>
          refine wp_seq ?_
          refine wp_region_lit ?_
          have hE := Env.refl a169 [129, 130, 131, 132, 133, 134, 135]
          refine sm 129 hE k e5 ?_
          intro a179 hE e129 kp
          refine sd 130 hE k (Z04 rfl e129) ?_
          intro a180 hE e130 kp
          refine Z07 131 hE k rfl (by rfl) (by rfl) rfl rfl (.inl e130) ?_
          intro a181 hE e131 kp
          replace e130 := kt kp e130
          refine Z07 132 hE k rfl (by rfl) (by rfl) rfl rfl (.inl e130) ?_
          intro a182 hE e132 kp
          replace e130 := kt kp e130
          refine Z07 133 hE k rfl (by rfl) (by rfl) rfl rfl (.inl e130) ?_
          intro a183 hE e133 kp
          replace e130 := kt kp e130; replace e132 := kt kp e132
          refine Z07 134 hE k rfl (by rfl) (by rfl) rfl rfl (.inl e130) ?_
          intro a184 hE e134 kp
          replace e130 := kt kp e130
          refine sd 135 hE k (Z05 rfl e130 rfl) ?_
          intro a185 hE e135 kp
          refine wpList_nil ?_
          replace e0 := hE.g e0; replace e1 := hE.g e1; replace e5 := hE.g e5; replace e6 := hE.g e6; replace e15 := hE.g e15; replace e16 := hE.g e16; replace e17 := hE.g e17
          replace k := k.env hE
          clear hE
          refine Z01 ?_
          refine Z08 e135 rfl ?_
          refine wp_skip ?_
          refine Z01 ?_
          exact ⟨k, e0, e1, e5, e6, e15, e16, e17, (), O⟩
       · clear k e0 e1 e5 e6 e15 e16 e17 O
         intro a186 w187 h_
         obtain ⟨k, e0, e1, e5, e6, e15, e16, e17, _, O⟩ := h_
         cases Bk' with
         | nil =>
          have hlast : ¬ (i : Int) + 1 < (xs.length : Int) := by simp at hxs; omega
          refine wp_seq ?_
          refine wp_seq ?_
          refine wp_region_lit ?_
          have hE := Env.refl a186 [139, 140, 141]
          apply Z03 139 hE k rfl rfl rfl rfl
          case h =>
           simp [go_sem, ↓IntWalk.iteOmega, ev (hE.g e15)]
           with_reducible rfl
          intro a188 hE e139 kp
          apply Z03 140 hE k rfl rfl rfl rfl
          case h =>
           have q0 : w187.cell? ⟨nb, 0, none⟩ = some (.int .i64 ↑l) := (OwnT.blk O 1 rfl).cell 0
           simp [go_sem, ↓IntWalk.iteOmega, ev e139, q0]
           with_reducible rfl
          intro a189 hE e140 kp
          refine sd 141 hE k (Z06 (Z0k rfl e140 rfl) (decide_eq_false (by omega))) ?_
          intro a190 hE e141 kp
          refine wpList_nil ?_
          replace e0 := hE.g e0; replace e1 := hE.g e1; replace e5 := hE.g e5; replace e6 := hE.g e6; replace e15 := hE.g e15; replace e16 := hE.g e16; replace e17 := hE.g e17
          replace k := k.env hE
          clear hE
          refine Z01 ?_
          refine Z08 e141 rfl ?_
          refine wp_skip ?_
          refine Z01 (wp_seq ?_)
          refine wp_region_lit ?_
          have hE := Env.refl a190 [152, 153, 154, 155, 156, 157]
          refine sm 152 hE k e16 ?_
          intro a191 hE e152 kp
          refine sd 153 hE k (Z0v rfl e152 rfl (by omega)) ?_
          intro a192 hE e153 kp
          apply Z03 154 hE k rfl rfl rfl rfl
          case h =>
           simp [go_sem, ↓IntWalk.iteOmega, ev (hE.g e15)]
           with_reducible rfl
          intro a193 hE e154 kp
          replace e153 := kt kp e153
          apply Z03 155 hE k rfl rfl rfl rfl
          case h =>
           have q0 : w187.cell? ⟨nb, 1, none⟩ = some (.slice (some ⟨gv, 0, none⟩) xs.length cv) := (OwnT.blk O 1 rfl).cell 1
           simp [go_sem, ↓IntWalk.iteOmega, ev e154, q0]
           with_reducible rfl
          intro a194 hE e155 kp
          replace e153 := kt kp e153
          refine sd 156 hE k (Z0d Try.underlying29 rfl e155) ?_
          intro a195 hE e156 kp
          replace e153 := kt kp e153
          refine sd 157 hE k (Z06 (Z0r rfl e153 e156) (decide_eq_false (by omega))) ?_
          intro a196 hE e157 kp
          refine wpList_nil ?_
          replace e0 := hE.g e0; replace e1 := hE.g e1; replace e5 := hE.g e5; replace e6 := hE.g e6; replace e15 := hE.g e15; replace e16 := hE.g e16; replace e17 := hE.g e17
          replace k := k.env hE
          clear hE e141
          refine Z01 ?_
          refine Z08 e157 rfl ?_
          replace O : OwnT _ _ ((tBlk sb 28 #[.slice (some ⟨gB, 0, none⟩) N.length cap, .int .i64 room]) :: (tRow 125 2 (.slice (some ⟨gB, 0, none⟩) N.length cap) N.length (leafV vs N)) :: (tPool vs N) :: (tBlk gw 53 #[.slice P1 pg.length c1, .slice Q1 pr.length c2, .bool false]) :: (tRow 3 1 (.slice P1 pg.length c1) pg.length (pg.flatMap encN)) :: (tPs (.slice Q1 pr.length c2) pr) :: (tBlk xb 38 #[.int .u64 ↑x.1, .int .u64 ↑x.2]) :: (tBlk nb 125 #[.int .i64 ↑l, .slice (some ⟨gv, 0, none⟩) xs.length cv]) :: R) w187 := OwnT.pickR (L := [_, _, _, _, _, _, _, _]) (R := R) O [2, 3, 4, 5, 6, 7, 0, 1] (by decide)
          refine wp_region_lit ?_
          have hE := Env.refl a196 [176, 177, 178, 179, 180, 181, 182, 183, 184, 185, 186, 187, 188]
          refine sm 176 hE k e0 ?_
          intro a197 hE e176 kp
          refine sm 177 hE k e1 ?_
          intro a198 hE e177 kp
          replace e176 := kt kp e176
          apply Z03 178 hE k rfl rfl rfl rfl
          case h =>
           simp [go_sem, ↓IntWalk.iteOmega, ev (hE.g e17)]
           with_reducible rfl
          intro a199 hE e178 kp
          replace e176 := kt kp e176; replace e177 := kt kp e177
          apply Z03 179 hE k rfl rfl rfl rfl
          case h =>
           have q0 : w187.cell? ⟨xb, 1, none⟩ = some (.int .u64 ↑x.2) := (OwnT.blk O 6 rfl).cell 1
           simp [go_sem, ↓IntWalk.iteOmega, ev e178, q0]
           with_reducible rfl
          intro a200 hE e179 kp
          replace e176 := kt kp e176; replace e177 := kt kp e177
          refine sd 180 hE k (Z23 rfl e179 (Z1t x.2 _ (by omega))) ?_
          intro a201 hE e180 kp
          replace e176 := kt kp e176; replace e177 := kt kp e177
          apply Z03 181 hE k rfl rfl rfl rfl
          case h =>
           simp [go_sem, ↓IntWalk.iteOmega, ev (hE.g e15)]
           with_reducible rfl
          intro a202 hE e181 kp
          replace e176 := kt kp e176; replace e177 := kt kp e177; replace e180 := kt kp e180
          apply Z03 182 hE k rfl rfl rfl rfl
          case h =>
           have q0 : w187.cell? ⟨nb, 0, none⟩ = some (.int .i64 ↑l) := (OwnT.blk O 7 rfl).cell 0
           simp [go_sem, ↓IntWalk.iteOmega, ev e181, q0]
           with_reducible rfl
          intro a203 hE e182 kp
          replace e176 := kt kp e176; replace e177 := kt kp e177; replace e180 := kt kp e180
          refine sd 183 hE k (Z1b (v := .int .i64 (l1 : Int)) (Z2l rfl e182 rfl (by omega)) (Z0u (by omega))) ?_
          intro a204 hE e183 kp
          replace e176 := kt kp e176; replace e177 := kt kp e177; replace e180 := kt kp e180
          apply Z03 184 hE k rfl rfl rfl rfl
          case h =>
           simp [go_sem, ↓IntWalk.iteOmega, ev (hE.g e17)]
           with_reducible rfl
          intro a205 hE e184 kp
          replace e176 := kt kp e176; replace e177 := kt kp e177; replace e180 := kt kp e180; replace e183 := kt kp e183
          apply Z03 185 hE k rfl rfl rfl rfl
          case h =>
           have q0 : w187.cell? ⟨xb, 0, none⟩ = some (.int .u64 ↑x.1) := (OwnT.blk O 6 rfl).cell 0
           simp [go_sem, ↓IntWalk.iteOmega, ev e184, q0]
           with_reducible rfl
          intro a206 hE e185 kp
          replace e176 := kt kp e176; replace e177 := kt kp e177; replace e180 := kt kp e180; replace e183 := kt kp e183
          refine sm 186 hE k e5 ?_
          intro a207 hE e186 kp
          replace e176 := kt kp e176; replace e177 := kt kp e177; replace e180 := kt kp e180; replace e183 := kt kp e183; replace e185 := kt kp e185
          refine sm 187 hE k e6 ?_
          intro a208 hE e187 kp
          replace e176 := kt kp e176; replace e177 := kt kp e177; replace e180 := kt kp e180; replace e183 := kt kp e183; replace e185 := kt kp e185; replace e186 := kt kp e186
          apply Z09 188 hE k rfl (by rfl) (by rfl) rfl
          case h =>
           simp [go_sem, ↓IntWalk.iteOmega, ev e176, ev e177, ev e180, ev e183, ev e185, ev e186, ev e187]
           with_reducible exact ⟨rfl, rfl⟩
          case hc => exact ih (R := ((tBlk xb 38 #[.int .u64 ↑x.1, .int .u64 ↑x.2]) :: (tBlk nb 125 #[.int .i64 ↑l, .slice (some ⟨gv, 0, none⟩) xs.length cv]) :: R)) (p := x.2) (q0 := (l1 : Int)) (f0 := x.1) _ O kx hu12.app.1 (by omega) hN (fun y hy => hwf y (hin y (List.mem_append.2 (.inl hy)))) (fun e y hy => hh e y (hin y (List.mem_append.2 (.inl hy)))) (.inl ⟨rfl, hkx⟩) hnod hgl3 hpl3
          clear O
          rintro e w210 ⟨rfl, P2, Q2, c3, c4, O⟩
          refine ⟨_, rfl, ?_⟩
          intro a209 hE e188 kp
          refine wpList_nil ?_
          replace e0 := hE.g e0; replace e1 := hE.g e1; replace e5 := hE.g e5; replace e6 := hE.g e6; replace e15 := hE.g e15; replace e16 := hE.g e16
          replace k := k.env hE
          clear hE e17 e157 e188
          refine Z0f ?_
          refine Z01 ?_
          refine wp_region_lit ?_
          have hE := Env.refl a209 [122, 123, 16]
          refine sd 122 hE k (Z04 rfl e16) ?_
          intro a211 hE e122 kp
          replace e16 := kt kp e16
          refine sd 123 hE k (Z0v rfl e122 rfl (by omega)) ?_
          intro a212 hE e123 kp
          replace e16 := kt kp e16
          refine sd 16 hE k (Z00 rfl e123) ?_
          intro a213 hE e16 kp
          refine wpList_nil ?_
          replace e0 := hE.g e0; replace e1 := hE.g e1; replace e5 := hE.g e5; replace e6 := hE.g e6; replace e15 := hE.g e15
          replace k := k.env hE
          clear hE
          refine Z01 ?_
          replace O : OwnT _ _ ((tBlk nb 125 #[.int .i64 ↑l, .slice (some ⟨gv, 0, none⟩) xs.length cv]) :: (tBlk sb 28 #[.slice (some ⟨gB, 0, none⟩) N.length cap, .int .i64 room]) :: (tRow 125 2 (.slice (some ⟨gB, 0, none⟩) N.length cap) N.length (leafV vs N)) :: (tPool vs N) :: (tBlk gw 53 #[.slice P2 (((pg ++ gx)).length) c3, .slice Q2 (((pr ++ L1.flatten)).length) c4, .bool false]) :: (tRow 3 1 (.slice P2 ((pg ++ gx)).length c3) ((pg ++ gx)).length (((pg ++ gx)).flatMap encN)) :: (tPs (.slice Q2 ((pr ++ L1.flatten)).length c4) ((pr ++ L1.flatten))) :: R) w210 := OwnT.pickR (L := [_, _, _, _, _, _, _, _]) (R := R) O [7, 0, 1, 2, 3, 4, 5] (by decide)
          refine ⟨⟨k, e0, e1, e5, e6, e15, i + 1, P2, Q2, c3, c4, A ++ [x], [], LA ++ L1, L2, gA ++ gx, g2, pg ++ gx, pr ++ L1.flatten, e16, by rw [List.length_append, hA]; rfl, by rw [hAB]; simp, kB2, by rw [hL, List.append_assoc], by rw [hgg, List.append_assoc], by rw [hpg]; simp, by rw [hpr]; simp, O⟩, ?_⟩
          rw [e16, mi]; simp only [intOf]; omega
         | cons z zs =>
          have hlast : (i : Int) + 1 < (xs.length : Int) := by simp at hxs; omega
          have hzk : xs[i + 1]? = some z := by rw [hAB, List.getElem?_append_right (by omega), hA, show i + 1 - i = 1 by omega]; rfl
          refine wp_seq ?_
          refine wp_seq ?_
          refine wp_region_lit ?_
          have hE := Env.refl a186 [139, 140, 141]
          apply Z03 139 hE k rfl rfl rfl rfl
          case h =>
           simp [go_sem, ↓IntWalk.iteOmega, ev (hE.g e15)]
           with_reducible rfl
          intro a214 hE e139 kp
          apply Z03 140 hE k rfl rfl rfl rfl
          case h =>
           have q0 : w187.cell? ⟨nb, 0, none⟩ = some (.int .i64 ↑l) := (OwnT.blk O 1 rfl).cell 0
           simp [go_sem, ↓IntWalk.iteOmega, ev e139, q0]
           with_reducible rfl
          intro a215 hE e140 kp
          refine sd 141 hE k (Z06 (Z0k rfl e140 rfl) (decide_eq_false (by omega))) ?_
          intro a216 hE e141 kp
          refine wpList_nil ?_
          replace e0 := hE.g e0; replace e1 := hE.g e1; replace e5 := hE.g e5; replace e6 := hE.g e6; replace e15 := hE.g e15; replace e16 := hE.g e16; replace e17 := hE.g e17
          replace k := k.env hE
          clear hE
          refine Z01 ?_
          refine Z08 e141 rfl ?_
          refine wp_skip ?_
          refine Z01 (wp_seq ?_)
          refine wp_region_lit ?_
          have hE := Env.refl a216 [152, 153, 154, 155, 156, 157]
          refine sm 152 hE k e16 ?_
          intro a217 hE e152 kp
          refine sd 153 hE k (Z0v rfl e152 rfl (by omega)) ?_
          intro a218 hE e153 kp
          apply Z03 154 hE k rfl rfl rfl rfl
          case h =>
           simp [go_sem, ↓IntWalk.iteOmega, ev (hE.g e15)]
           with_reducible rfl
          intro a219 hE e154 kp
          replace e153 := kt kp e153
          apply Z03 155 hE k rfl rfl rfl rfl
          case h =>
           have q0 : w187.cell? ⟨nb, 1, none⟩ = some (.slice (some ⟨gv, 0, none⟩) xs.length cv) := (OwnT.blk O 1 rfl).cell 1
           simp [go_sem, ↓IntWalk.iteOmega, ev e154, q0]
           with_reducible rfl
          intro a220 hE e155 kp
          replace e153 := kt kp e153
          refine sd 156 hE k (Z0d Try.underlying29 rfl e155) ?_
          intro a221 hE e156 kp
          replace e153 := kt kp e153
          refine sd 157 hE k (Z06 (Z0r rfl e153 e156) (decide_eq_true (by omega))) ?_
          intro a222 hE e157 kp
          refine wpList_nil ?_
          replace e0 := hE.g e0; replace e1 := hE.g e1; replace e5 := hE.g e5; replace e6 := hE.g e6; replace e15 := hE.g e15; replace e16 := hE.g e16; replace e17 := hE.g e17
          replace k := k.env hE
          clear hE e141
          refine Z01 ?_
          refine Z0b e157 rfl ?_
          replace O : OwnT _ _ ((tBlk sb 28 #[.slice (some ⟨gB, 0, none⟩) N.length cap, .int .i64 room]) :: (tRow 125 2 (.slice (some ⟨gB, 0, none⟩) N.length cap) N.length (leafV vs N)) :: (tPool vs N) :: (tBlk gw 53 #[.slice P1 pg.length c1, .slice Q1 pr.length c2, .bool false]) :: (tRow 3 1 (.slice P1 pg.length c1) pg.length (pg.flatMap encN)) :: (tPs (.slice Q1 pr.length c2) pr) :: (tBlk xb 38 #[.int .u64 ↑x.1, .int .u64 ↑x.2]) :: (tBlk nb 125 #[.int .i64 ↑l, .slice (some ⟨gv, 0, none⟩) xs.length cv]) :: R) w187 := OwnT.pickR (L := [_, _, _, _, _, _, _, _]) (R := R) O [2, 3, 4, 5, 6, 7, 0, 1] (by decide)
          refine Z0c (R := Ext) (w0 := w187) [[], [], [], [2], [2, 3], [], [5], [5, 6], [], [8], [], [10], [], [12], [10, 11, 12, 13], [10, 11, 12, 13, 14], [10, 11, 12, 13, 14, 15], [0, 1, 2, 3, 4, 5, 6, 7, 8, 9, 10, 11, 12, 13, 14, 15, 16]] [158, 159, 160, 161, 162, 163, 164, 165, 166, 167, 168, 169, 170, 171, 172, 173, 174] Ext.refl (fun _ _ _ => Ext.trans) (Ext.drew _) (by kernel_rfl) ?_
          apply bd 158 k rfl rfl rfl
          case h =>
           intro ax wx hE hR hF
           exact Z04 rfl (hE.g e0)
          apply bd 159 k rfl rfl rfl
          case h =>
           intro ax wx hE hR hF
           exact Z04 rfl (hE.g e1)
          apply bd 160 k rfl rfl rfl
          case h =>
           intro ax wx hE hR hF
           simp [go_sem, ↓IntWalk.iteOmega, ev (hE.g e17)]
           with_reducible rfl
          apply bd 161 k rfl rfl rfl
          case h =>
           intro ax wx hE hR hF
           have e160 := zhF hF 2 160 ml0
           have q0 : wx.cell? ⟨xb, 1, none⟩ = some (.int .u64 ↑x.2) := (OwnT.blk (OwnT.ext O hR) 6 rfl).cell 1
           simp [go_sem, ↓IntWalk.iteOmega, ev e160, q0]
           with_reducible rfl
          apply bd 162 k rfl rfl rfl
          case h =>
           intro ax wx hE hR hF
           have e161 := zhF hF 3 161 ml0
           exact Z23 rfl e161 (Z1t x.2 _ (by omega))
          apply bd 163 k rfl rfl rfl
          case h =>
           intro ax wx hE hR hF
           simp [go_sem, ↓IntWalk.iteOmega, ev (hE.g e15)]
           with_reducible rfl
          apply bd 164 k rfl rfl rfl
          case h =>
           intro ax wx hE hR hF
           have e163 := zhF hF 5 163 ml0
           have q0 : wx.cell? ⟨nb, 0, none⟩ = some (.int .i64 ↑l) := (OwnT.blk (OwnT.ext O hR) 7 rfl).cell 0
           simp [go_sem, ↓IntWalk.iteOmega, ev e163, q0]
           with_reducible rfl
          apply bd 165 k rfl rfl rfl
          case h =>
           intro ax wx hE hR hF
           have e164 := zhF hF 6 164 ml0
           exact Z1b (v := .int .i64 (l1 : Int)) (Z2l rfl e164 rfl (by omega)) (Z0u (by omega))
          apply bd 166 k rfl rfl rfl
          case h =>
           intro ax wx hE hR hF
           simp [go_sem, ↓IntWalk.iteOmega, ev (hE.g e17)]
           with_reducible rfl
          apply bd 167 k rfl rfl rfl
          case h =>
           intro ax wx hE hR hF
           have e166 := zhF hF 8 166 ml0
           have q0 : wx.cell? ⟨xb, 0, none⟩ = some (.int .u64 ↑x.1) := (OwnT.blk (OwnT.ext O hR) 6 rfl).cell 0
           simp [go_sem, ↓IntWalk.iteOmega, ev e166, q0]
           with_reducible rfl
          apply bd 168 k rfl rfl rfl
          case h =>
           intro ax wx hE hR hF
           simp [go_sem, ↓IntWalk.iteOmega, ev (hE.g e15)]
           with_reducible rfl
          apply bd 169 k rfl rfl rfl
          case h =>
           intro ax wx hE hR hF
           have e168 := zhF hF 10 168 ml0
           have q0 : wx.cell? ⟨nb, 1, none⟩ = some (.slice (some ⟨gv, 0, none⟩) xs.length cv) := (OwnT.blk (OwnT.ext O hR) 7 rfl).cell 1
           simp [go_sem, ↓IntWalk.iteOmega, ev e168, q0]
           with_reducible rfl
          apply bd 170 k rfl rfl rfl
          case h =>
           intro ax wx hE hR hF
           exact Z04 rfl (hE.g e16)
          apply bd 171 k rfl rfl rfl
          case h =>
           intro ax wx hE hR hF
           have e170 := zhF hF 12 170 ml0
           exact Z0v rfl e170 rfl (by omega)
          apply bd 172 k rfl rfl rfl
          case h =>
           intro ax wx hE hR hF
           have e169 := zhF hF 11 169 ml2
           have e171 := zhF hF 13 171 ml0
           simp [go_sem, ↓IntWalk.iteOmega, ev e169, ev e171]
           with_reducible rfl
          apply bd 173 k rfl rfl rfl
          case h =>
           intro ax wx hE hR hF
           have e172 := zhF hF 14 172 ml0
           simp [go_sem, ↓IntWalk.iteOmega, ev e172]
           with_reducible rfl
          apply bd 174 k rfl rfl rfl
          case h =>
           intro ax wx hE hR hF
           have e173 := zhF hF 15 173 ml0
           obtain ⟨_, _, hrow⟩ := Z2j (OwnT.get (OwnT.ext O hR) 2 rfl) hvv hip hxl; obtain ⟨_, _, e, d2, -⟩ := Z1q hrow (Below.refl _ _) hzk; injection e with e; injection e with e e'; subst e e'; clear hrow; rw [Nat.zero_add] at d2
           simp [go_sem, ↓IntWalk.iteOmega, ev e173, d2]
           with_reducible rfl
          apply Build.stop
          refine ⟨by kernel_rfl, .inr ⟨by kernel_rfl, _, rfl, rfl, ?_⟩⟩
          intro a223 w224 hE R hF
          have e158 : a223.eval (.tmp 158) = _ := hF 0 (det 158 _) ml16
          have e159 : a223.eval (.tmp 159) = _ := hF 1 (det 159 _) ml15
          have e162 : a223.eval (.tmp 162) = _ := hF 4 (det 162 _) ml12
          have e165 : a223.eval (.tmp 165) = _ := hF 7 (det 165 _) ml9
          have e167 : a223.eval (.tmp 167) = _ := hF 9 (det 167 _) ml7
          have e174 : a223.eval (.tmp 174) = _ := hF 16 (det 174 _) ml0
          clear hF
          replace O := OwnT.ext O R
          clear R
          apply Z84 175 [158, 159, 160, 161, 162, 163, 164, 165, 166, 167, 168, 169, 170, 171, 172, 173, 174, 175] hE k rfl (by rfl) (by rfl) (by rfl)
          case h =>
           simp [go_sem, ↓IntWalk.iteOmega, ev e158, ev e159, ev e162, ev e165, ev e167, ev e174]
           with_reducible exact ⟨rfl, rfl⟩
          case hc => exact ih (R := ((tBlk xb 38 #[.int .u64 ↑x.1, .int .u64 ↑x.2]) :: (tBlk nb 125 #[.int .i64 ↑l, .slice (some ⟨gv, 0, none⟩) xs.length cv]) :: R)) (p := x.2) (q0 := (l1 : Int)) (f0 := x.1) _ O kx hu12.app.1 (by omega) hN (fun y hy => hwf y (hin y (List.mem_append.2 (.inl hy)))) (fun _ y hy => by obtain ⟨vz, rz, ez⟩ := Z4e kB2.hdk; exact hu12.app.2.2 y hy (z.1, vz) (by rw [ez]; simp)) (.inl ⟨rfl, hkx⟩) hnod hgl3 hpl3
          clear O
          rintro e w225 ⟨rfl, P2, Q2, c3, c4, O⟩
          refine ⟨_, rfl, ?_⟩
          intro a226 hE e175 kp
          replace e0 := hE.g e0; replace e1 := hE.g e1; replace e5 := hE.g e5; replace e6 := hE.g e6; replace e15 := hE.g e15; replace e16 := hE.g e16
          replace k := k.env hE
          clear hE e17 e157 e175
          refine Z0f ?_
          refine Z01 ?_
          refine wp_region_lit ?_
          have hE := Env.refl a226 [122, 123, 16]
          refine sd 122 hE k (Z04 rfl e16) ?_
          intro a227 hE e122 kp
          replace e16 := kt kp e16
          refine sd 123 hE k (Z0v rfl e122 rfl (by omega)) ?_
          intro a228 hE e123 kp
          replace e16 := kt kp e16
          refine sd 16 hE k (Z00 rfl e123) ?_
          intro a229 hE e16 kp
          refine wpList_nil ?_
          replace e0 := hE.g e0; replace e1 := hE.g e1; replace e5 := hE.g e5; replace e6 := hE.g e6; replace e15 := hE.g e15
          replace k := k.env hE
          clear hE
          refine Z01 ?_
          replace O : OwnT _ _ ((tBlk nb 125 #[.int .i64 ↑l, .slice (some ⟨gv, 0, none⟩) xs.length cv]) :: (tBlk sb 28 #[.slice (some ⟨gB, 0, none⟩) N.length cap, .int .i64 room]) :: (tRow 125 2 (.slice (some ⟨gB, 0, none⟩) N.length cap) N.length (leafV vs N)) :: (tPool vs N) :: (tBlk gw 53 #[.slice P2 (((pg ++ gx)).length) c3, .slice Q2 (((pr ++ L1.flatten)).length) c4, .bool false]) :: (tRow 3 1 (.slice P2 ((pg ++ gx)).length c3) ((pg ++ gx)).length (((pg ++ gx)).flatMap encN)) :: (tPs (.slice Q2 ((pr ++ L1.flatten)).length c4) ((pr ++ L1.flatten))) :: R) w225 := OwnT.pickR (L := [_, _, _, _, _, _, _, _]) (R := R) O [7, 0, 1, 2, 3, 4, 5] (by decide)
          refine ⟨⟨k, e0, e1, e5, e6, e15, i + 1, P2, Q2, c3, c4, A ++ [x], z :: zs, LA ++ L1, L2, gA ++ gx, g2, pg ++ gx, pr ++ L1.flatten, e16, by rw [List.length_append, hA]; rfl, by rw [hAB]; simp, kB2, by rw [hL, List.append_assoc], by rw [hgg, List.append_assoc], by rw [hpg]; simp, by rw [hpr]; simp, O⟩, ?_⟩
          rw [e16, mi]; simp only [intOf]; omega
     · skip
       refine wp_seq ?_
       refine wp_seq ?_
       refine wp_region_lit ?_
       have hE := Env.refl a157 [117, 118, 119, 120, 121]
       refine sm 117 hE k e16 ?_
       intro a230 hE e117 kp
       apply Z03 118 hE k rfl rfl rfl rfl
       case h =>
        simp [go_sem, ↓IntWalk.iteOmega, ev (hE.g e15)]
        with_reducible rfl
       intro a231 hE e118 kp
       replace e117 := kt kp e117
       apply Z03 119 hE k rfl rfl rfl rfl
       case h =>
        have q0 : w158.cell? ⟨nb, 1, none⟩ = some (.slice (some ⟨gv, 0, none⟩) xs.length cv) := (OwnT.blk O 0 rfl).cell 1
        simp [go_sem, ↓IntWalk.iteOmega, ev e118, q0]
        with_reducible rfl
       intro a232 hE e119 kp
       replace e117 := kt kp e117
       refine sd 120 hE k (Z0d Try.underlying29 rfl e119) ?_
       intro a233 hE e120 kp
       replace e117 := kt kp e117
       refine sd 121 hE k (Z06 (Z0r rfl e117 e120) (decide_eq_false (by omega))) ?_
       intro a234 hE e121 kp
       refine wpList_nil ?_
       replace e0 := hE.g e0; replace e1 := hE.g e1; replace e5 := hE.g e5; replace e6 := hE.g e6; replace e15 := hE.g e15; replace e16 := hE.g e16
       replace k := k.env hE
       clear hE
       refine Z01 ?_
       refine Z08 e121 rfl ?_
       refine wp_exit ?_
       refine Z0q ?_
       refine Z0q ?_
       refine Z13 ?_
       obtain rfl : Bk = [] := List.eq_nil_of_length_eq_zero (by omega)
       obtain ⟨rfl, rfl⟩ := kB

       rw [List.append_nil] at hL hgg
       subst hL hgg hpg hpr
       refine end_F0 rfl k ?_
       exact ⟨rfl, P1, Q1, c1, c2, OwnT.pickR (L := [_, _, _, _, _, _, _]) (R := R) O [1, 2, 3, 4, 5, 6] (by decide)⟩
theorem rlook : ∀ l, LookOk l
 | 0 => fun w O hT hu h7 hN hwf hh h0l hgn hgl hpl => Z83 w O hT hu h7 hN hwf hh h0l hgn hgl hpl rfl
 | l + 1 => fun w O hT hu h7 hN hwf hh h0l hgn hgl hpl => Z81 w O hT hu h7 hN hwf hh h0l hgn hgl hpl rfl (rlook l)
end Go.Proofs.Ytngehbhhpkkijaa
