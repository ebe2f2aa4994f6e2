/- trees: Drop (printed by XTrDr.gen.py). -/
import Derived.Test.YtdeocidlkpbhcaaKReachShares31
namespace Go.Proofs.Ytdeocidlkpbhcaa
attribute [local simp] BigFrame.eval_const BigFrame.eval_global BigFrame.eval_func
set_option linter.unusedVariables false
set_option linter.unusedSimpArgs false
open Go.RowKit Go.Maps

/-- What 'Drop' brings. -/
def DropT (m : Nat) (N N' : List Nd) (room : Int) (root k : Nat) (L : List (List Pr)) (g : List Nat) (root' : Int) (ok : Bool) (er : Int) : Prop :=
 (er = 0 ∧ ok = false ∧ root' = root ∧ N' = N ∧ lookP k L.flatten = none) ∨
 (er = 6 ∧ ok = false ∧ root' = 0 ∧ (lookP k L.flatten).isSome = true ∧ (∃ M, N' = N ++ M ∧ M.length ≤ m + 1) ∧ ¬ (N.length + (m + 1) ≤ 511 ∧ ((N.length + (m + 1) : Nat) : Int) ≤ room)) ∨
 (er = 0 ∧ ok = true ∧ (lookP k L.flatten).isSome = true ∧ (∃ M, N' = N ++ M ∧ M.length ≤ m + 1) ∧ ∃ (r : Nat) (L' : List (List Pr)) (g' : List Nat), root' = r ∧ RT m N' r L' g' ∧ L'.flatten = delP k L.flatten ∧ phi L' ≤ phi L ∧ ∀ q ∈ g', q ∈ g ∨ N.length < q)
def lvC : Option Value → Nat
 | some (.int _ i) => i.toNat
 | _ => 0
/-- Down to the only child. -/
theorem only_kid {N : List Nd} {l : Nat} {x : Pr} {L : List (List Pr)} {h : List Nat} (hb : Body (Tb N (l + 1)) (l + 1) [x] L h) (hn : h.Nodup) :
 Tr N l x.2 L h ∧ ∃ xs h2, ndAt N x.2 = some (l, xs) ∧ xs ≠ [] ∧ Body (Tb N l) l xs L h2 ∧ h = x.2 :: h2 ∧ h2.Nodup ∧ x.2 ∉ h2 := by
 have hT := (Kids.of_one (Z0f.1 hb)).1
 refine ⟨hT, ?_⟩
 obtain ⟨xs, h2, e1, e2, e3, e4, rfl⟩ := Z3n.1 hT
 obtain ⟨n1, n2⟩ := List.nodup_cons.1 hn
 exact ⟨xs, h2, e1, e2, e4, rfl, n2, n1⟩

set_option maxRecDepth 100000 in
set_option maxHeartbeats 4000000 in
theorem Z6y {H : Nat} {A0 : World} {R : List Thing} {sb cap : Nat} {room : Int} {B : Option Addr} {vs : List Value} {N : List Nd} {root ky m : Nat} {L : List (List Pr)} {g : List Nat} (w : World) (O : OwnT H A0 (shT sb room B cap vs N R) w) (hRT : RT m N root L g) (h7 : m ≤ 7) (hN : N.length ≤ 500) (hr : root = 0) : Calls Try.prog 11 #[.iface 24 (.pointer (some ⟨sb, 0, none⟩)), .int .i64 root, .int .u64 ky] w fun e w' => ∃ N' root' ok er B' cap' vs', e = .returned (.tuple #[.int .i64 root', .bool ok, .int .i64 er]) ∧ OwnT H A0 (shT sb room B' cap' vs' N' R) w' ∧ DropT m N N' room root ky L g root' ok er := by
 refine Z0b Try.func11 rfl 77 rfl (by rfl) ?_
 intro a1 k hargs
 have e0 : a1.eval (.tmp 0) = .iface 24 (.pointer (some ⟨sb, 0, none⟩)) := hargs 0 _ rfl
 have e1 : a1.eval (.tmp 1) = .int .i64 ↑root := hargs 1 _ rfl
 have e2 : a1.eval (.tmp 2) = .int .u64 ↑ky := hargs 2 _ rfl
 clear hargs
 refine wp_seq ?_
 refine wp_region_lit ?_
 have hE := Env.refl a1 [6, 7, 8]
 refine sd 6 hE k (Z00 rfl rfl) ?_
 intro a2 hE e6 kp
 refine sd 7 hE k (Z00 rfl rfl) ?_
 intro a3 hE e7 kp
 refine sd 8 hE k (Z00 rfl rfl) ?_
 intro a4 hE e8 kp
 refine wpList_nil ?_
 replace e0 := hE.g e0; replace e1 := hE.g e1; replace e2 := hE.g e2
 replace k := k.env hE
 clear hE e8
 refine Z01 ?_
 have hLg : L = [] := by
  rcases hRT.rt with ⟨_, h1, h2⟩ | ⟨l, _, hT, _⟩
  · exact h1
  · obtain ⟨r, e⟩ := Tr.one hT; have := Tr.pages hT root (by rw [e]; simp); omega
 refine wp_seq ?_
 refine wp_seq ?_
 refine wp_region_lit ?_
 have hE := Env.refl a4 [13, 14]
 refine zm 13 hE k e1 ?_
 intro a5 hE e13 kp
 refine sd 14 hE k (Z05 (Z0v rfl e13 rfl) (decide_eq_true (by omega))) ?_
 intro a6 hE e14 kp
 refine wpList_nil ?_
 replace e0 := hE.g e0; replace e1 := hE.g e1; replace e2 := hE.g e2
 replace k := k.env hE
 clear hE
 refine Z01 ?_
 refine Z0a e14 rfl ?_
 refine wp_seq ?_
 refine wp_region_lit ?_
 have hE := Env.refl a6 [6, 7, 8]
 refine sd 6 hE k (Z00 rfl rfl) ?_
 intro a7 hE e6 kp
 refine sd 7 hE k (Z00 rfl rfl) ?_
 intro a8 hE e7 kp
 replace e6 := kt kp e6
 refine sd 8 hE k (Z00 rfl rfl) ?_
 intro a9 hE e8 kp
 replace e6 := kt kp e6; replace e7 := kt kp e7
 refine wpList_nil ?_
 replace k := k.env hE
 clear hE e0 e1 e2 e14
 refine Z01 ?_
 refine wp_ret ?_
 refine Z0l ?_
 refine Z1x rfl k e6 e7 e8 ?_
 exact ⟨N, 0, false, 0, B, cap, vs, rfl, O, .inl ⟨rfl, rfl, by omega, rfl, by rw [hLg]; rfl⟩⟩
set_option maxRecDepth 100000 in
set_option maxHeartbeats 4000000 in
theorem Z6z {H : Nat} {A0 : World} {R : List Thing} {sb cap : Nat} {room : Int} {B : Option Addr} {vs : List Value} {N : List Nd} {root ky m : Nat} {L : List (List Pr)} {g : List Nat} (w : World) (O : OwnT H A0 (shT sb room B cap vs N R) w) (hRT : RT m N root L g) (h7 : m ≤ 7) (hN : N.length ≤ 500) (hr : root ≠ 0) : Calls Try.prog 11 #[.iface 24 (.pointer (some ⟨sb, 0, none⟩)), .int .i64 root, .int .u64 ky] w fun e w' => ∃ N' root' ok er B' cap' vs', e = .returned (.tuple #[.int .i64 root', .bool ok, .int .i64 er]) ∧ OwnT H A0 (shT sb room B' cap' vs' N' R) w' ∧ DropT m N N' room root ky L g root' ok er := by
 refine Z0b Try.func11 rfl 77 rfl (by rfl) ?_
 intro a1 k hargs
 have e0 : a1.eval (.tmp 0) = .iface 24 (.pointer (some ⟨sb, 0, none⟩)) := hargs 0 _ rfl
 have e1 : a1.eval (.tmp 1) = .int .i64 ↑root := hargs 1 _ rfl
 have e2 : a1.eval (.tmp 2) = .int .u64 ↑ky := hargs 2 _ rfl
 clear hargs
 refine wp_seq ?_
 refine wp_region_lit ?_
 have hE := Env.refl a1 [6, 7, 8]
 refine sd 6 hE k (Z00 rfl rfl) ?_
 intro a2 hE e6 kp
 refine sd 7 hE k (Z00 rfl rfl) ?_
 intro a3 hE e7 kp
 refine sd 8 hE k (Z00 rfl rfl) ?_
 intro a4 hE e8 kp
 refine wpList_nil ?_
 replace e0 := hE.g e0; replace e1 := hE.g e1; replace e2 := hE.g e2
 replace k := k.env hE
 clear hE e8
 refine Z01 ?_
 obtain ⟨l, hlm, hT, h2⟩ : ∃ l, l ≤ m ∧ Tr N l root L g ∧ (0 < l → ∃ xs, ndAt N root = some (l, xs) ∧ 2 ≤ xs.length) := by
  rcases hRT.rt with ⟨h, _⟩ | h
  · exact absurd h hr
  · exact h
 refine wp_seq ?_
 refine wp_seq ?_
 refine wp_region_lit ?_
 have hE := Env.refl a4 [13, 14]
 refine zm 13 hE k e1 ?_
 intro a5 hE e13 kp
 refine sd 14 hE k (Z05 (Z0v rfl e13 rfl) (decide_eq_false (by omega))) ?_
 intro a6 hE e14 kp
 refine wpList_nil ?_
 replace e0 := hE.g e0; replace e1 := hE.g e1; replace e2 := hE.g e2
 replace k := k.env hE
 clear hE
 refine Z01 ?_
 refine Z06 e14 rfl ?_
 refine wp_skip ?_
 refine Z01 (wp_seq ?_)
 refine wp_region_lit ?_
 have hE := Env.refl a6 [16, 17, 18, 19, 15, 20, 21, 22, 9, 10, 11]
 refine zm 16 hE k e0 ?_
 intro a7 hE e16 kp
 refine zm 17 hE k e1 ?_
 intro a8 hE e17 kp
 replace e16 := kt kp e16
 refine zm 18 hE k e2 ?_
 intro a9 hE e18 kp
 replace e16 := kt kp e16; replace e17 := kt kp e17
 apply Z07 19 hE k rfl (by rfl) (by rfl) rfl
 case h =>
  simp [go_sem, ↓IntWalk.iteOmega, ev e16, ev e17, ev e18]
  with_reducible exact ⟨rfl, rfl⟩
 case hc => exact tdrop l (ky := ky) _ O hT hRT.up hRT.nod (by omega) (by omega) hRT.wf (.inl (by decide))
 clear O
 rintro e w11 ⟨N1, lv, o, os, ok, er, B1, cap1, vs1, rfl, O, hPE⟩
 obtain ⟨Bo, co, rfl, hc1, hc2, -, hc4⟩ := Z0o (OwnT.t0 O)
 refine ⟨_, rfl, ?_⟩
 intro a10 hE e19 kp
 refine sd 15 hE k (Z03 rfl e19) ?_
 intro a12 hE e15 kp
 apply Z02 20 hE k rfl rfl rfl rfl
 case h =>
  simp [go_sem, ↓IntWalk.iteOmega, ev e15]
  with_reducible rfl
 intro a13 hE e20 kp
 replace e15 := kt kp e15
 apply Z02 21 hE k rfl rfl rfl rfl
 case h =>
  simp [go_sem, ↓IntWalk.iteOmega, ev e15]
  with_reducible rfl
 intro a14 hE e21 kp
 replace e15 := kt kp e15; replace e20 := kt kp e20
 apply Z02 22 hE k rfl rfl rfl rfl
 case h =>
  simp [go_sem, ↓IntWalk.iteOmega, ev e15]
  with_reducible rfl
 intro a15 hE e22 kp
 replace e20 := kt kp e20; replace e21 := kt kp e21
 refine Z0k O (cs := #[.int .i64 0, .slice none 0 0]) (t := 40) 9 hE k rfl (by rfl) (by rfl) rfl (by simp [go_sem, ↓IntWalk.iteOmega]) ?_
 clear O
 intro nb a16 w17 O hE e9 kp
 replace e20 := kt kp e20; replace e21 := kt kp e21; replace e22 := kt kp e22
 have q0 : w17.cell? ⟨nb, 0, none⟩ = some (.int .i64 0) := (OwnT.blk O 0 rfl).cell 0
 have z0 : w17.frozen? ⟨nb, 0, none⟩ = false := (OwnT.blk O 0 rfl).frozen 0
 have q1 : w17.cell? ⟨nb, 1, none⟩ = some (.slice none 0 0) := (OwnT.blk O 0 rfl).cell 1
 have z1 : w17.frozen? ⟨nb, 1, none⟩ = false := (OwnT.blk O 0 rfl).frozen 1
 refine Z0g (w' := ((w17.setCell ⟨nb, 0, none⟩ (.int .i64 lv)).setCell ⟨nb, 1, none⟩ (.slice Bo os.length co))) hE rfl rfl (by simp [go_sem, ↓IntWalk.iteOmega, ev e9, ev e20, q0, z0, q1, z1]) ?_
 replace O := OwnT.push 0 rfl (((OwnT.pull O 0 rfl).set 0 (.int .i64 lv)).set 1 (.slice Bo os.length co))
 clear q0 z0 q1 z1
 generalize ((w17.setCell ⟨nb, 0, none⟩ (.int .i64 lv)).setCell ⟨nb, 1, none⟩ (.slice Bo os.length co)) = w18 at O ⊢
 replace O : OwnT _ _ ((tBlk nb 40 #[.int .i64 lv, .slice Bo os.length co]) :: (tPs (.slice Bo os.length co) os) :: (tBlk sb 27 #[.slice B1 N1.length cap1, .int .i64 room]) :: (tRow 40 2 (.slice B1 N1.length cap1) N1.length (leafV vs1 N1)) :: (tPool vs1 N1) :: R) w18 := O
 refine sd 10 hE k (Z00 rfl e21) ?_
 intro a19 hE e10 kp
 replace e22 := kt kp e22; replace e9 := kt kp e9
 refine sd 11 hE k (Z00 rfl e22) ?_
 intro a20 hE e11 kp
 replace e9 := kt kp e9; replace e10 := kt kp e10
 refine wpList_nil ?_
 replace e0 := hE.g e0; replace e1 := hE.g e1
 replace k := k.env hE
 clear hE e2 e14
 refine Z01 (wp_seq ?_)
 refine wp_block ?_
 rcases hPE with ⟨rfl, rfl, rfl, hln⟩ | ⟨rfl, rfl, hls, ⟨M1, rfl, hM1⟩, hrm⟩ | ⟨rfl, rfl, rfl, hls, hDR⟩
 · skip
   refine wp_seq ?_
   refine wp_region_lit ?_
   have hE := Env.refl a20 [24, 25, 23]
   refine zm 24 hE k e11 ?_
   intro a21 hE e24 kp
   refine sd 25 hE k (Z0j rfl e24 rfl) ?_
   intro a22 hE e25 kp
   refine sd 23 hE k (Z00 rfl e25) ?_
   intro a23 hE e23 kp
   refine wpList_nil ?_
   replace e0 := hE.g e0; replace e1 := hE.g e1; replace e9 := hE.g e9; replace e10 := hE.g e10; replace e11 := hE.g e11
   replace k := k.env hE
   clear hE
   refine Z01 ?_
   refine Z06 e23 rfl ?_
   refine wp_seq ?_
   refine wp_region_lit ?_
   have hE := Env.refl a23 [28, 29, 27]
   refine zm 28 hE k e10 ?_
   intro a24 hE e28 kp
   refine sd 29 hE k (Z20 rfl e28) ?_
   intro a25 hE e29 kp
   refine sd 27 hE k (Z00 rfl e29) ?_
   intro a26 hE e27 kp
   refine wpList_nil ?_
   replace e0 := hE.g e0; replace e1 := hE.g e1; replace e9 := hE.g e9
   replace k := k.env hE
   clear hE e10 e11 e23
   refine Z01 ?_
   refine Z0a e27 rfl ?_
   refine wp_seq ?_
   refine wp_region_lit ?_
   have hE := Env.refl a26 [30, 6, 7, 8]
   refine zm 30 hE k e1 ?_
   intro a27 hE e30 kp
   refine sd 6 hE k (Z00 rfl e30) ?_
   intro a28 hE e6 kp
   refine sd 7 hE k (Z00 rfl rfl) ?_
   intro a29 hE e7 kp
   replace e6 := kt kp e6
   refine sd 8 hE k (Z00 rfl rfl) ?_
   intro a30 hE e8 kp
   replace e6 := kt kp e6; replace e7 := kt kp e7
   refine wpList_nil ?_
   replace k := k.env hE
   clear hE e0 e1 e9 e27
   refine Z01 ?_
   refine wp_ret ?_
   refine Z1j ?_
   refine Z0l ?_
   refine Z1x rfl k e6 e7 e8 ?_
   exact ⟨_, _, _, _, B1, cap1, vs1, rfl, OwnT.pickR (L := [_, _, _, _, _]) (R := R) O [2, 3, 4] (by decide), .inl ⟨rfl, rfl, rfl, rfl, hln⟩⟩
 · skip
   refine wp_seq ?_
   refine wp_region_lit ?_
   have hE := Env.refl a20 [24, 25, 23]
   refine zm 24 hE k e11 ?_
   intro a31 hE e24 kp
   refine sd 25 hE k (Z0j rfl e24 rfl) ?_
   intro a32 hE e25 kp
   refine sd 23 hE k (Z00 rfl e25) ?_
   intro a33 hE e23 kp
   refine wpList_nil ?_
   replace e0 := hE.g e0; replace e1 := hE.g e1; replace e9 := hE.g e9; replace e10 := hE.g e10; replace e11 := hE.g e11
   replace k := k.env hE
   clear hE
   refine Z01 ?_
   refine Z0a e23 rfl ?_
   refine wp_seq ?_
   refine wp_region_lit ?_
   have hE := Env.refl a33 [26, 6, 7, 8]
   refine zm 26 hE k e11 ?_
   intro a34 hE e26 kp
   refine sd 6 hE k (Z00 rfl rfl) ?_
   intro a35 hE e6 kp
   replace e26 := kt kp e26
   refine sd 7 hE k (Z00 rfl rfl) ?_
   intro a36 hE e7 kp
   replace e26 := kt kp e26; replace e6 := kt kp e6
   refine sd 8 hE k (Z00 rfl e26) ?_
   intro a37 hE e8 kp
   replace e6 := kt kp e6; replace e7 := kt kp e7
   refine wpList_nil ?_
   replace k := k.env hE
   clear hE e0 e1 e9 e10 e11 e23
   refine Z01 ?_
   refine wp_ret ?_
   refine Z1j ?_
   refine Z0l ?_
   refine Z1x rfl k e6 e7 e8 ?_
   exact ⟨_, _, _, _, B1, cap1, vs1, rfl, OwnT.pickR (L := [_, _, _, _, _]) (R := R) O [2, 3, 4] (by decide), .inr (.inl ⟨rfl, rfl, rfl, hls, ⟨M1, rfl, by omega⟩, fun h => hrm (by omega)⟩)⟩
 · skip
   obtain ⟨M1, hM1, hM1l⟩ := hDR.app
   have hos := hDR.len
   have hN1l : N1.length = N.length + M1.length := by rw [hM1, List.length_append]
   obtain ⟨L', h', hb, hnd, hpg, hdl, hfl⟩ := hDR.body
   have hup : Up L'.flatten := by rw [hfl]; exact delP_up hRT.up
   have hwf : ∀ y ∈ L'.flatten, y.1 < 18446744073709551616 ∧ y.2 < 18446744073709551616 := fun y hy => hRT.wf y (by rw [hfl] at hy; exact (List.mem_filter.1 hy).1)
   have hph := phi_del hdl

   replace O : OwnT _ _ ((tBlk sb 27 #[.slice B1 N1.length cap1, .int .i64 room]) :: (tRow 40 2 (.slice B1 N1.length cap1) N1.length (leafV vs1 N1)) :: (tPool vs1 N1) :: (tPs (.slice Bo os.length co) os) :: (tBlk nb 40 #[.int .i64 ↑l, .slice Bo os.length co]) :: R) w18 := OwnT.pickR (L := [_, _, _, _, _]) (R := R) O [2, 3, 4, 1, 0] (by decide)
   refine wp_seq ?_
   refine wp_region_lit ?_
   have hE := Env.refl a20 [24, 25, 23]
   refine zm 24 hE k e11 ?_
   intro a38 hE e24 kp
   refine sd 25 hE k (Z0j rfl e24 rfl) ?_
   intro a39 hE e25 kp
   refine sd 23 hE k (Z00 rfl e25) ?_
   intro a40 hE e23 kp
   refine wpList_nil ?_
   replace e0 := hE.g e0; replace e1 := hE.g e1; replace e9 := hE.g e9; replace e10 := hE.g e10; replace e11 := hE.g e11
   replace k := k.env hE
   clear hE
   refine Z01 ?_
   refine Z06 e23 rfl ?_
   refine wp_seq ?_
   refine wp_region_lit ?_
   have hE := Env.refl a40 [28, 29, 27]
   refine zm 28 hE k e10 ?_
   intro a41 hE e28 kp
   refine sd 29 hE k (Z20 rfl e28) ?_
   intro a42 hE e29 kp
   refine sd 27 hE k (Z00 rfl e29) ?_
   intro a43 hE e27 kp
   refine wpList_nil ?_
   replace e0 := hE.g e0; replace e1 := hE.g e1; replace e9 := hE.g e9
   replace k := k.env hE
   clear hE e10 e11 e23
   refine Z01 ?_
   refine Z06 e27 rfl ?_
   refine wp_skip ?_
   refine Z0s ?_
   refine Z01 (wp_seq ?_)
   refine wp_region_lit ?_
   have hE := Env.refl a43 [12]
   refine sd 12 hE k (Z00 rfl rfl) ?_
   intro a44 hE e12 kp
   refine wpList_nil ?_
   replace e0 := hE.g e0; replace e9 := hE.g e9
   replace k := k.env hE
   clear hE e1 e27
   refine Z01 (wp_seq ?_)
   refine wp_block ?_
   refine wp_loop (fun a w => Fr 77 a ∧ a.eval (.tmp 0) = .iface 24 (.pointer (some ⟨sb, 0, none⟩)) ∧ a.eval (.tmp 9) = .pointer (some ⟨nb, 0, none⟩) ∧ ∃ (lc pg : Nat) (os : List Pr) (Bo : Option Addr) (co : Nat) (h' : List Nat), a.eval (.tmp 12) = .int .i64 ↑pg ∧ lc ≤ l ∧ os.length ≤ 15 ∧ Body (Tb N1 lc) lc os L' h' ∧ h'.Nodup ∧ (pg ≠ 0 → ndAt N1 pg = some (lc, os) ∧ os ≠ [] ∧ pg ∉ h') ∧ (∀ q ∈ h', q ∈ g ∨ N.length < q) ∧ (pg ≠ 0 → pg ∈ g ∨ N.length < pg) ∧ OwnT H A0 ((tBlk sb 27 #[.slice B1 N1.length cap1, .int .i64 room]) :: (tRow 40 2 (.slice B1 N1.length cap1) N1.length (leafV vs1 N1)) :: (tPool vs1 N1) :: (tPs (.slice Bo os.length co) os) :: (tBlk nb 40 #[.int .i64 ↑lc, .slice Bo os.length co]) :: R) w) (fun a w => lvC (w.cell? ⟨nb, 0, none⟩)) ?_ ?_
   · exact ⟨k, e0, e9, l, 0, os, Bo, co, h', e12, Nat.le_refl _, hos, hb, hnd, (fun h => absurd rfl h), hpg, (fun h => absurd rfl h), O⟩
   intro a45 w46 hI
   clear k e0 e9
   obtain ⟨k, e0, e9, h_⟩ := hI
   clear O e12 hb hnd hos hc1 hc2 hc4
   obtain ⟨lc, pg, os, Bo, co, h', e12, hlc, hos, hb, hnd, hpgn, hsub, hpsub, O⟩ := h_
   have mz : lvC (w46.cell? ⟨nb, 0, none⟩) = lc := by rw [(OwnT.blk O 4 rfl).cell 0]; rfl
   obtain ⟨_, _, e2q, hc1, hc2, hrow, hc4⟩ := Z0o (OwnT.get O 3 rfl : (tPs (.slice Bo os.length co) os).holds _)
   injection e2q with e2q _ e3q
   subst e2q e3q
   by_cases hc : 0 < lc ∧ os.length = 1
   · skip
     obtain ⟨hc0, hc1'⟩ := hc
     obtain ⟨x, rfl⟩ : ∃ x, os = [x] := List.length_eq_one_iff.1 hc1'
     obtain ⟨l1, rfl⟩ : ∃ l1, lc = l1 + 1 := ⟨lc - 1, by omega⟩
     obtain ⟨hTx, xs, h2', hnx, hne, hbx, rfl, hnd2, hnm⟩ := only_kid hb hnd
     obtain ⟨ys, hny, -, h15, huy, hgy, hyw⟩ := Z2v hTx hup (by omega) (by omega) hwf
     rw [hnx] at hny
     injection hny with hny
     injection hny with _ hny
     subst hny
     have hx5 : x.2 ≤ 511 := by have := (Z4a hnx).2; omega
     have hx1 := (Z4a hnx).1
     obtain ⟨go, rfl⟩ : ∃ go, Bo = some ⟨go, 0, none⟩ := by
      obtain ⟨g2, c2, _, e2, _⟩ := Z11 (OwnT.get O 3 rfl : World.ownsRow _ 0 59 2 _ [x].length _) (by simp)
      injection e2 with e2
      exact ⟨g2, e2⟩
     have cq : w46.cell? ⟨go, 1, none⟩ = some (.int .u64 (x.2 : Int)) := by
      obtain ⟨b, o, e, _, hc⟩ := hrow 0 x rfl
      injection e with e
      injection e with e e'
      subst e e'
      have := hc 1 _ rfl
      simpa using this

     replace O : OwnT _ _ ((tBlk sb 27 #[.slice B1 N1.length cap1, .int .i64 room]) :: (tRow 40 2 (.slice B1 N1.length cap1) N1.length (leafV vs1 N1)) :: (tPool vs1 N1) :: (tPs (.slice (some ⟨go, 0, none⟩) 1 co) [x]) :: (tBlk nb 40 #[.int .i64 (↑(l1 + 1)), .slice (some ⟨go, 0, none⟩) 1 co]) :: R) w46 := O
     refine wp_seq ?_
     refine wp_seq ?_
     refine wp_region_lit ?_
     have hE := Env.refl a45 [31, 32, 33, 34, 35, 36, 37, 38, 39]
     apply Z02 31 hE k rfl rfl rfl rfl
     case h =>
      simp [go_sem, ↓IntWalk.iteOmega, ev (hE.g e9)]
      with_reducible rfl
     intro a47 hE e31 kp
     apply Z02 32 hE k rfl rfl rfl rfl
     case h =>
      have q0 : w46.cell? ⟨nb, 0, none⟩ = some (.int .i64 (↑(l1 + 1))) := (OwnT.blk O 4 rfl).cell 0
      simp [go_sem, ↓IntWalk.iteOmega, ev e31, q0]
      with_reducible rfl
     intro a48 hE e32 kp
     refine sd 33 hE k (Z05 (Z1r rfl e32 rfl) (decide_eq_true (by omega))) ?_
     intro a49 hE e33 kp
     refine sd 34 hE k (Z03 rfl e33) ?_
     intro a50 hE e34 kp
     apply Z04 35 hE k rfl rfl rfl rfl rfl e34
     case h =>
      simp [go_sem, ↓IntWalk.iteOmega, ev (hE.g e9)]
      with_reducible rfl
     intro a51 hE e35 kp
     replace e34 := kt kp e34
     apply Z04 36 hE k rfl rfl rfl rfl rfl e34
     case h =>
      have q0 : w46.cell? ⟨nb, 1, none⟩ = some (.slice (some ⟨go, 0, none⟩) 1 co) := (OwnT.blk O 4 rfl).cell 1
      simp [go_sem, ↓IntWalk.iteOmega, ev e35, q0]
      with_reducible rfl
     intro a52 hE e36 kp
     replace e34 := kt kp e34
     apply Z04 37 hE k rfl rfl rfl rfl rfl e34
     case h =>
      exact Z0i Try.underlying38 rfl e36
     intro a53 hE e37 kp
     replace e34 := kt kp e34
     apply Z04 38 hE k rfl rfl rfl rfl rfl e34
     case h =>
      exact Z05 (Z0v rfl e37 rfl) (decide_eq_true (by omega))
     intro a54 hE e38 kp
     replace e34 := kt kp e34
     refine sd 39 hE k (Z0m rfl e34 e38) ?_
     intro a55 hE e39 kp
     refine wpList_nil ?_
     replace e0 := hE.g e0; replace e9 := hE.g e9; replace e12 := hE.g e12
     replace k := k.env hE
     clear hE
     refine Z01 ?_
     refine Z0a e39 rfl ?_
     refine wp_skip ?_
     refine Z01 ?_
     refine wp_block ?_
     refine wp_seq ?_
     refine wp_region_lit ?_
     have hE := Env.refl a55 [40, 41, 42, 43, 44, 45, 12]
     apply Z02 40 hE k rfl rfl rfl rfl
     case h =>
      simp [go_sem, ↓IntWalk.iteOmega, ev (hE.g e9)]
      with_reducible rfl
     intro a56 hE e40 kp
     apply Z02 41 hE k rfl rfl rfl rfl
     case h =>
      have q0 : w46.cell? ⟨nb, 1, none⟩ = some (.slice (some ⟨go, 0, none⟩) 1 co) := (OwnT.blk O 4 rfl).cell 1
      simp [go_sem, ↓IntWalk.iteOmega, ev e40, q0]
      with_reducible rfl
     intro a57 hE e41 kp
     apply Z02 42 hE k rfl rfl rfl rfl
     case h =>
      simp [go_sem, ↓IntWalk.iteOmega, ev e41]
      with_reducible rfl
     intro a58 hE e42 kp
     apply Z02 43 hE k rfl rfl rfl rfl
     case h =>
      simp [go_sem, ↓IntWalk.iteOmega, ev e42]
      with_reducible rfl
     intro a59 hE e43 kp
     apply Z02 44 hE k rfl rfl rfl rfl
     case h =>
      simp [go_sem, ↓IntWalk.iteOmega, ev e43, cq]
      with_reducible rfl
     intro a60 hE e44 kp
     refine sd 45 hE k (Z1p rfl e44 (Z1z x.2 _ (by omega))) ?_
     intro a61 hE e45 kp
     refine sd 12 hE k (Z00 rfl e45) ?_
     intro a62 hE e12 kp
     refine wpList_nil ?_
     replace e0 := hE.g e0; replace e9 := hE.g e9
     replace k := k.env hE
     clear hE e39
     refine Z01 (wp_seq ?_)
     refine wp_region_lit ?_
     have hE := Env.refl a62 [47, 48, 49, 50, 51, 52, 46, 53, 54, 11]
     refine zm 47 hE k e0 ?_
     intro a63 hE e47 kp
     refine zm 48 hE k e12 ?_
     intro a64 hE e48 kp
     replace e47 := kt kp e47
     apply Z02 49 hE k rfl rfl rfl rfl
     case h =>
      simp [go_sem, ↓IntWalk.iteOmega, ev (hE.g e9)]
      with_reducible rfl
     intro a65 hE e49 kp
     replace e47 := kt kp e47; replace e48 := kt kp e48
     apply Z02 50 hE k rfl rfl rfl rfl
     case h =>
      have q0 : w46.cell? ⟨nb, 0, none⟩ = some (.int .i64 (↑(l1 + 1))) := (OwnT.blk O 4 rfl).cell 0
      simp [go_sem, ↓IntWalk.iteOmega, ev e49, q0]
      with_reducible rfl
     intro a66 hE e50 kp
     replace e47 := kt kp e47; replace e48 := kt kp e48
     refine sd 51 hE k (Z16 (v := .int .i64 (l1 : Int)) (Z3y rfl e50 rfl (by omega)) (Z0p (by omega))) ?_
     intro a67 hE e51 kp
     replace e47 := kt kp e47; replace e48 := kt kp e48
     apply Z07 52 hE k rfl (by rfl) (by rfl) rfl
     case h =>
      simp [go_sem, ↓IntWalk.iteOmega, ev e47, ev e48, ev e51]
      with_reducible exact ⟨rfl, rfl⟩
     case hc => exact tread (R := _ :: _ :: R) _ O (by omega) hnx hgy hne h15 (fun y hy => (hyw y hy).1) (.inr rfl)
     clear O
     rintro e w69 ⟨v, rfl, O⟩
     obtain ⟨Bv, cv, rfl, hv1, hv2, -, hv3⟩ := Z0o (OwnT.t0 O)
     refine ⟨_, rfl, ?_⟩
     intro a68 hE e52 kp
     refine sd 46 hE k (Z03 rfl e52) ?_
     intro a70 hE e46 kp
     apply Z02 53 hE k rfl rfl rfl rfl
     case h =>
      simp [go_sem, ↓IntWalk.iteOmega, ev e46]
      with_reducible rfl
     intro a71 hE e53 kp
     replace e46 := kt kp e46
     apply Z02 54 hE k rfl rfl rfl rfl
     case h =>
      simp [go_sem, ↓IntWalk.iteOmega, ev e46]
      with_reducible rfl
     intro a72 hE e54 kp
     replace e53 := kt kp e53
     have q0 : w69.cell? ⟨nb, 0, none⟩ = some (.int .i64 (↑(l1 + 1))) := (OwnT.blk O 5 rfl).cell 0
     have z0 : w69.frozen? ⟨nb, 0, none⟩ = false := (OwnT.blk O 5 rfl).frozen 0
     have q1 : w69.cell? ⟨nb, 1, none⟩ = some (.slice (some ⟨go, 0, none⟩) 1 co) := (OwnT.blk O 5 rfl).cell 1
     have z1 : w69.frozen? ⟨nb, 1, none⟩ = false := (OwnT.blk O 5 rfl).frozen 1
     refine Z0g (w' := ((w69.setCell ⟨nb, 0, none⟩ (.int .i64 ↑l1)).setCell ⟨nb, 1, none⟩ (.slice Bv xs.length cv))) hE rfl rfl (by simp [go_sem, ↓IntWalk.iteOmega, ev (hE.g e9), ev e53, q0, z0, q1, z1]) ?_
     replace O := OwnT.push 5 rfl (((OwnT.pull O 5 rfl).set 0 (.int .i64 ↑l1)).set 1 (.slice Bv xs.length cv))
     clear q0 z0 q1 z1
     generalize ((w69.setCell ⟨nb, 0, none⟩ (.int .i64 ↑l1)).setCell ⟨nb, 1, none⟩ (.slice Bv xs.length cv)) = w73 at O ⊢
     replace O : OwnT _ _ ((tPs (.slice Bv xs.length cv) xs) :: (tBlk sb 27 #[.slice B1 N1.length cap1, .int .i64 room]) :: (tRow 40 2 (.slice B1 N1.length cap1) N1.length (leafV vs1 N1)) :: (tPool vs1 N1) :: (tPs (.slice (some ⟨go, 0, none⟩) 1 co) [x]) :: (tBlk nb 40 #[.int .i64 ↑l1, .slice Bv xs.length cv]) :: R) w73 := O
     refine sd 11 hE k (Z00 rfl e54) ?_
     intro a74 hE e11 kp
     refine wpList_nil ?_
     replace e0 := hE.g e0; replace e9 := hE.g e9; replace e12 := hE.g e12
     replace k := k.env hE
     clear hE
     refine Z01 ?_
     replace O : OwnT _ _ ((tBlk sb 27 #[.slice B1 N1.length cap1, .int .i64 room]) :: (tRow 40 2 (.slice B1 N1.length cap1) N1.length (leafV vs1 N1)) :: (tPool vs1 N1) :: (tPs (.slice Bv xs.length cv) xs) :: (tBlk nb 40 #[.int .i64 ↑l1, .slice Bv xs.length cv]) :: R) w73 := OwnT.pickR (L := [_, _, _, _, _, _]) (R := R) O [1, 2, 3, 0, 5] (by decide)
     refine wp_seq ?_
     refine wp_region_lit ?_
     have hE := Env.refl a74 [55, 56]
     refine zm 55 hE k e11 ?_
     intro a75 hE e55 kp
     refine sd 56 hE k (Z05 (Z0j rfl e55 rfl) (decide_eq_false (by omega))) ?_
     intro a76 hE e56 kp
     refine wpList_nil ?_
     replace e0 := hE.g e0; replace e9 := hE.g e9; replace e11 := hE.g e11; replace e12 := hE.g e12
     replace k := k.env hE
     clear hE
     refine Z01 ?_
     refine Z06 e56 rfl ?_
     refine wp_skip ?_
     refine Z0s ?_
     refine Z01 ?_
     refine ⟨⟨k, e0, e9, l1, x.2, xs, Bv, cv, h2', e12, by omega, h15, hbx, hnd2, (fun _ => ⟨hnx, hne, hnm⟩), (fun q hq => hsub q (List.mem_cons_of_mem _ hq)), (fun _ => hsub x.2 List.mem_cons_self), O⟩, ?_⟩
     rw [mz, (OwnT.blk O 4 rfl).cell 0]; show lvC (some (.int .i64 (l1 : Int))) < _; simp only [lvC]; omega
   · skip
     clear mz
     by_cases h0 : 0 < lc
     · have h1 : os.length ≠ 1 := fun h => hc ⟨h0, h⟩
       refine wp_seq ?_
       refine wp_seq ?_
       refine wp_region_lit ?_
       have hE := Env.refl a45 [31, 32, 33, 34, 35, 36, 37, 38, 39]
       apply Z02 31 hE k rfl rfl rfl rfl
       case h =>
        simp [go_sem, ↓IntWalk.iteOmega, ev (hE.g e9)]
        with_reducible rfl
       intro a77 hE e31 kp
       apply Z02 32 hE k rfl rfl rfl rfl
       case h =>
        have q0 : w46.cell? ⟨nb, 0, none⟩ = some (.int .i64 ↑lc) := (OwnT.blk O 4 rfl).cell 0
        simp [go_sem, ↓IntWalk.iteOmega, ev e31, q0]
        with_reducible rfl
       intro a78 hE e32 kp
       refine sd 33 hE k (Z05 (Z1r rfl e32 rfl) (decide_eq_true (by omega))) ?_
       intro a79 hE e33 kp
       refine sd 34 hE k (Z03 rfl e33) ?_
       intro a80 hE e34 kp
       apply Z04 35 hE k rfl rfl rfl rfl rfl e34
       case h =>
        simp [go_sem, ↓IntWalk.iteOmega, ev (hE.g e9)]
        with_reducible rfl
       intro a81 hE e35 kp
       replace e34 := kt kp e34
       apply Z04 36 hE k rfl rfl rfl rfl rfl e34
       case h =>
        have q0 : w46.cell? ⟨nb, 1, none⟩ = some (.slice Bo os.length co) := (OwnT.blk O 4 rfl).cell 1
        simp [go_sem, ↓IntWalk.iteOmega, ev e35, q0]
        with_reducible rfl
       intro a82 hE e36 kp
       replace e34 := kt kp e34
       apply Z04 37 hE k rfl rfl rfl rfl rfl e34
       case h =>
        exact Z0i Try.underlying38 rfl e36
       intro a83 hE e37 kp
       replace e34 := kt kp e34
       apply Z04 38 hE k rfl rfl rfl rfl rfl e34
       case h =>
        exact Z05 (Z0v rfl e37 rfl) (decide_eq_false (by omega))
       intro a84 hE e38 kp
       replace e34 := kt kp e34
       refine sd 39 hE k (Z0m rfl e34 e38) ?_
       intro a85 hE e39 kp
       refine wpList_nil ?_
       replace e0 := hE.g e0; replace e9 := hE.g e9; replace e12 := hE.g e12
       replace k := k.env hE
       clear hE
       refine Z01 ?_
       refine Z06 e39 rfl ?_
       refine wp_exit ?_
       refine Z12 ?_
       refine Z12 ?_
       refine Z1o ?_
       refine Z01 ?_
       by_cases hp0 : pg = 0
       rotate_left
       · skip
         refine wp_seq ?_
         refine wp_seq ?_
         refine wp_region_lit ?_
         have hE := Env.refl a85 [58, 59, 60, 61, 62, 63, 64, 65]
         refine zm 58 hE k e12 ?_
         intro a86 hE e58 kp
         refine sd 59 hE k (Z05 (Z0j rfl e58 rfl) (decide_eq_true (by omega))) ?_
         intro a87 hE e59 kp
         refine sd 60 hE k (Z03 rfl e59) ?_
         intro a88 hE e60 kp
         refine Z09 61 hE k rfl (by rfl) (by rfl) rfl rfl (.inl e60) ?_
         intro a89 hE e61 kp
         replace e60 := kt kp e60
         refine Z09 62 hE k rfl (by rfl) (by rfl) rfl rfl (.inl e60) ?_
         intro a90 hE e62 kp
         replace e60 := kt kp e60
         refine Z09 63 hE k rfl (by rfl) (by rfl) rfl rfl (.inl e60) ?_
         intro a91 hE e63 kp
         replace e60 := kt kp e60
         refine Z09 64 hE k rfl (by rfl) (by rfl) rfl rfl (.inl e60) ?_
         intro a92 hE e64 kp
         replace e60 := kt kp e60
         refine sd 65 hE k (Z0m rfl e60 rfl) ?_
         intro a93 hE e65 kp
         refine wpList_nil ?_
         replace e0 := hE.g e0; replace e9 := hE.g e9; replace e12 := hE.g e12
         replace k := k.env hE
         clear hE e39
         refine Z01 ?_
         refine Z0a e65 rfl ?_
         refine wp_seq ?_
         refine wp_region_lit ?_
         have hE := Env.refl a93 [66, 6, 7, 8]
         refine zm 66 hE k e12 ?_
         intro a94 hE e66 kp
         refine sd 6 hE k (Z00 rfl e66) ?_
         intro a95 hE e6 kp
         refine sd 7 hE k (Z00 rfl rfl) ?_
         intro a96 hE e7 kp
         replace e6 := kt kp e6
         refine sd 8 hE k (Z00 rfl rfl) ?_
         intro a97 hE e8 kp
         replace e6 := kt kp e6; replace e7 := kt kp e7
         refine wpList_nil ?_
         replace k := k.env hE
         clear hE e0 e9 e12 e65
         refine Z01 ?_
         refine wp_ret ?_
         refine Z0l ?_
         obtain ⟨hn1, hn2, hn3⟩ := hpgn hp0
         refine Z1x rfl k e6 e7 e8 ?_
         exact ⟨N1, pg, true, 0, B1, cap1, vs1, rfl, OwnT.pickR (L := [_, _, _, _, _]) (R := R) O [0, 1, 2] (by decide), .inr (.inr ⟨rfl, rfl, hls, ⟨M1, hM1, by omega⟩, pg, L', pg :: h', rfl, ⟨.inr ⟨lc, by omega, Z3n.2 ⟨os, h', hn1, hn2, hos, hb, rfl⟩, fun h0 => ⟨os, hn1, by have := List.length_pos_iff.2 hn2; omega⟩⟩, hup, List.nodup_cons.2 ⟨hn3, hnd⟩, hwf⟩, hfl, hph, (fun q hq => by rcases List.mem_cons.1 hq with rfl | hq; exact hpsub hp0; exact hsub q hq)⟩)⟩
       subst hp0
       by_cases ho : os = []
       · have hol : os.length = 0 := by rw [ho]; rfl
         have hL' : L' = [] := by
          subst ho
          cases lc with
          | zero => have := (Z0e.1 hb).1; simpa using this
          | succ lc => exact (Z0f.1 hb).1
         refine wp_seq ?_
         refine wp_seq ?_
         refine wp_region_lit ?_
         have hE := Env.refl a85 [58, 59, 60, 61, 62, 63, 64, 65]
         refine zm 58 hE k e12 ?_
         intro a98 hE e58 kp
         refine sd 59 hE k (Z05 (Z0j rfl e58 rfl) (decide_eq_false (by omega))) ?_
         intro a99 hE e59 kp
         refine sd 60 hE k (Z03 rfl e59) ?_
         intro a100 hE e60 kp
         apply Z04 61 hE k rfl rfl rfl rfl rfl e60
         case h =>
          simp [go_sem, ↓IntWalk.iteOmega, ev (hE.g e9)]
          with_reducible rfl
         intro a101 hE e61 kp
         replace e60 := kt kp e60
         apply Z04 62 hE k rfl rfl rfl rfl rfl e60
         case h =>
          have q0 : w46.cell? ⟨nb, 1, none⟩ = some (.slice Bo os.length co) := (OwnT.blk O 4 rfl).cell 1
          simp [go_sem, ↓IntWalk.iteOmega, ev e61, q0]
          with_reducible rfl
         intro a102 hE e62 kp
         replace e60 := kt kp e60
         apply Z04 63 hE k rfl rfl rfl rfl rfl e60
         case h =>
          exact Z0i Try.underlying38 rfl e62
         intro a103 hE e63 kp
         replace e60 := kt kp e60
         apply Z04 64 hE k rfl rfl rfl rfl rfl e60
         case h =>
          exact Z05 (Z0v rfl e63 rfl) (decide_eq_true (by omega))
         intro a104 hE e64 kp
         replace e60 := kt kp e60
         refine sd 65 hE k (Z08 rfl e60 e64) ?_
         intro a105 hE e65 kp
         refine wpList_nil ?_
         replace e0 := hE.g e0; replace e9 := hE.g e9; replace e12 := hE.g e12
         replace k := k.env hE
         clear hE e39
         refine Z01 ?_
         refine Z0a e65 rfl ?_
         refine wp_seq ?_
         refine wp_region_lit ?_
         have hE := Env.refl a105 [66, 6, 7, 8]
         refine zm 66 hE k e12 ?_
         intro a106 hE e66 kp
         refine sd 6 hE k (Z00 rfl e66) ?_
         intro a107 hE e6 kp
         refine sd 7 hE k (Z00 rfl rfl) ?_
         intro a108 hE e7 kp
         replace e6 := kt kp e6
         refine sd 8 hE k (Z00 rfl rfl) ?_
         intro a109 hE e8 kp
         replace e6 := kt kp e6; replace e7 := kt kp e7
         refine wpList_nil ?_
         replace k := k.env hE
         clear hE e0 e9 e12 e65
         refine Z01 ?_
         refine wp_ret ?_
         refine Z0l ?_
         refine Z1x rfl k e6 e7 e8 ?_
         exact ⟨N1, (0 : Nat), true, 0, B1, cap1, vs1, rfl, OwnT.pickR (L := [_, _, _, _, _]) (R := R) O [0, 1, 2] (by decide), .inr (.inr ⟨rfl, rfl, hls, ⟨M1, hM1, by omega⟩, 0, L', [], rfl, ⟨.inl ⟨rfl, hL', rfl⟩, hup, List.nodup_nil, hwf⟩, hfl, hph, (fun q hq => by cases hq)⟩)⟩
       · have hol := List.length_pos_iff.2 ho
         refine wp_seq ?_
         refine wp_seq ?_
         refine wp_region_lit ?_
         have hE := Env.refl a85 [58, 59, 60, 61, 62, 63, 64, 65]
         refine zm 58 hE k e12 ?_
         intro a110 hE e58 kp
         refine sd 59 hE k (Z05 (Z0j rfl e58 rfl) (decide_eq_false (by omega))) ?_
         intro a111 hE e59 kp
         refine sd 60 hE k (Z03 rfl e59) ?_
         intro a112 hE e60 kp
         apply Z04 61 hE k rfl rfl rfl rfl rfl e60
         case h =>
          simp [go_sem, ↓IntWalk.iteOmega, ev (hE.g e9)]
          with_reducible rfl
         intro a113 hE e61 kp
         replace e60 := kt kp e60
         apply Z04 62 hE k rfl rfl rfl rfl rfl e60
         case h =>
          have q0 : w46.cell? ⟨nb, 1, none⟩ = some (.slice Bo os.length co) := (OwnT.blk O 4 rfl).cell 1
          simp [go_sem, ↓IntWalk.iteOmega, ev e61, q0]
          with_reducible rfl
         intro a114 hE e62 kp
         replace e60 := kt kp e60
         apply Z04 63 hE k rfl rfl rfl rfl rfl e60
         case h =>
          exact Z0i Try.underlying38 rfl e62
         intro a115 hE e63 kp
         replace e60 := kt kp e60
         apply Z04 64 hE k rfl rfl rfl rfl rfl e60
         case h =>
          exact Z05 (Z0v rfl e63 rfl) (decide_eq_false (by omega))
         intro a116 hE e64 kp
         replace e60 := kt kp e60
         refine sd 65 hE k (Z08 rfl e60 e64) ?_
         intro a117 hE e65 kp
         refine wpList_nil ?_
         replace e0 := hE.g e0; replace e9 := hE.g e9; replace e12 := hE.g e12
         replace k := k.env hE
         clear hE e39
         refine Z01 ?_
         refine Z06 e65 rfl ?_
         refine wp_skip ?_
         refine Z01 ?_
         by_cases hf : N1.length < 511 ∧ (N1.length : Int) < room
         · skip
           refine wp_seq ?_
           refine wp_region_lit ?_
           have hE := Env.refl a117 [68, 69, 70, 67, 71, 72, 12, 11]
           refine zm 68 hE k e0 ?_
           intro a118 hE e68 kp
           apply Z02 69 hE k rfl rfl rfl rfl
           case h =>
            have q0 : w46.cell? ⟨nb, 0, none⟩ = some (.int .i64 ↑lc) := (OwnT.blk O 4 rfl).cell 0
            have q1 : w46.cell? ⟨nb, 1, none⟩ = some (.slice Bo os.length co) := (OwnT.blk O 4 rfl).cell 1
            simp [go_sem, ↓IntWalk.iteOmega, ev (hE.g e9), q0, q1]
            with_reducible rfl
           intro a119 hE e69 kp
           replace e68 := kt kp e68
           apply Z07 70 hE k rfl (by rfl) (by rfl) rfl
           case h =>
            exact Z2t rfl e68 e69 (Z1n _ _ _)
           case hc => exact Z3e (R := _ :: _ :: R) os _ O (by omega) hf hrow hc4 (by omega)
           clear O
           rintro e w121 ⟨rfl, B2, cap2, vs2, O⟩
           refine ⟨_, rfl, ?_⟩
           intro a120 hE e70 kp
           refine sd 67 hE k (Z03 rfl e70) ?_
           intro a122 hE e67 kp
           apply Z02 71 hE k rfl rfl rfl rfl
           case h =>
            simp [go_sem, ↓IntWalk.iteOmega, ev e67]
            with_reducible rfl
           intro a123 hE e71 kp
           replace e67 := kt kp e67
           apply Z02 72 hE k rfl rfl rfl rfl
           case h =>
            simp [go_sem, ↓IntWalk.iteOmega, ev e67]
            with_reducible rfl
           intro a124 hE e72 kp
           replace e71 := kt kp e71
           refine sd 12 hE k (Z00 rfl e71) ?_
           intro a125 hE e12 kp
           replace e72 := kt kp e72
           refine sd 11 hE k (Z00 rfl e72) ?_
           intro a126 hE e11 kp
           replace e12 := kt kp e12
           refine wpList_nil ?_
           replace k := k.env hE
           clear hE e0 e9 e65
           refine Z01 (wp_seq ?_)
           refine wp_region_lit ?_
           have hE := Env.refl a126 [73, 74, 75, 76, 6, 7, 8]
           refine zm 73 hE k e12 ?_
           intro a127 hE e73 kp
           refine zm 74 hE k e11 ?_
           intro a128 hE e74 kp
           replace e73 := kt kp e73
           refine sd 75 hE k (Z0v rfl e74 rfl) ?_
           intro a129 hE e75 kp
           replace e73 := kt kp e73
           refine zm 76 hE k e11 ?_
           intro a130 hE e76 kp
           replace e73 := kt kp e73; replace e75 := kt kp e75
           refine sd 6 hE k (Z00 rfl e73) ?_
           intro a131 hE e6 kp
           replace e75 := kt kp e75; replace e76 := kt kp e76
           refine sd 7 hE k (Z00 rfl e75) ?_
           intro a132 hE e7 kp
           replace e76 := kt kp e76; replace e6 := kt kp e6
           refine sd 8 hE k (Z00 rfl e76) ?_
           intro a133 hE e8 kp
           replace e6 := kt kp e6; replace e7 := kt kp e7
           refine wpList_nil ?_
           replace k := k.env hE
           clear hE e11 e12
           refine Z01 ?_
           refine wp_ret ?_
           have hTn : Tr (N1 ++ [(lc, os)]) lc (N1.length + 1) L' ((N1.length + 1) :: h') := Z23 hb ho hos (Z1l N1 _ [])
           have hpg2 := hb.pages
           refine Z1x rfl k e6 e7 e8 ?_
           exact ⟨N1 ++ [(lc, os)], ((N1.length + 1 : Nat) : Int), true, 0, B2, cap2, vs2, rfl, OwnT.pickR (L := [_, _, _, _, _]) (R := R) O [0, 1, 2] (by decide), .inr (.inr ⟨rfl, rfl, hls, ⟨M1 ++ [(lc, os)], by rw [hM1, List.append_assoc], by rw [List.length_append]; simp; omega⟩, N1.length + 1, L', _, rfl, ⟨.inr ⟨lc, by omega, hTn, fun h0 => ⟨os, Z1l N1 _ [], by omega⟩⟩, hup, List.nodup_cons.2 ⟨fun h => by have := (hpg2 _ h).2; omega, hnd⟩, hwf⟩, hfl, hph, (fun q hq => by rcases List.mem_cons.1 hq with rfl | hq; exact .inr (by omega); exact hsub q hq)⟩)⟩
         · skip
           refine wp_seq ?_
           refine wp_region_lit ?_
           have hE := Env.refl a117 [68, 69, 70, 67, 71, 72, 12, 11]
           refine zm 68 hE k e0 ?_
           intro a134 hE e68 kp
           apply Z02 69 hE k rfl rfl rfl rfl
           case h =>
            have q0 : w46.cell? ⟨nb, 0, none⟩ = some (.int .i64 ↑lc) := (OwnT.blk O 4 rfl).cell 0
            have q1 : w46.cell? ⟨nb, 1, none⟩ = some (.slice Bo os.length co) := (OwnT.blk O 4 rfl).cell 1
            simp [go_sem, ↓IntWalk.iteOmega, ev (hE.g e9), q0, q1]
            with_reducible rfl
           intro a135 hE e69 kp
           replace e68 := kt kp e68
           apply Z07 70 hE k rfl (by rfl) (by rfl) rfl
           case h =>
            exact Z2t rfl e68 e69 (Z1n _ _ _)
           case hc => exact Z24 (R := _ :: _ :: R) os _ O (by omega) hf
           clear O
           rintro e w137 ⟨rfl, O⟩
           refine ⟨_, rfl, ?_⟩
           intro a136 hE e70 kp
           refine sd 67 hE k (Z03 rfl e70) ?_
           intro a138 hE e67 kp
           apply Z02 71 hE k rfl rfl rfl rfl
           case h =>
            simp [go_sem, ↓IntWalk.iteOmega, ev e67]
            with_reducible rfl
           intro a139 hE e71 kp
           replace e67 := kt kp e67
           apply Z02 72 hE k rfl rfl rfl rfl
           case h =>
            simp [go_sem, ↓IntWalk.iteOmega, ev e67]
            with_reducible rfl
           intro a140 hE e72 kp
           replace e71 := kt kp e71
           refine sd 12 hE k (Z00 rfl e71) ?_
           intro a141 hE e12 kp
           replace e72 := kt kp e72
           refine sd 11 hE k (Z00 rfl e72) ?_
           intro a142 hE e11 kp
           replace e12 := kt kp e12
           refine wpList_nil ?_
           replace k := k.env hE
           clear hE e0 e9 e65
           refine Z01 (wp_seq ?_)
           refine wp_region_lit ?_
           have hE := Env.refl a142 [73, 74, 75, 76, 6, 7, 8]
           refine zm 73 hE k e12 ?_
           intro a143 hE e73 kp
           refine zm 74 hE k e11 ?_
           intro a144 hE e74 kp
           replace e73 := kt kp e73
           refine sd 75 hE k (Z0v rfl e74 rfl) ?_
           intro a145 hE e75 kp
           replace e73 := kt kp e73
           refine zm 76 hE k e11 ?_
           intro a146 hE e76 kp
           replace e73 := kt kp e73; replace e75 := kt kp e75
           refine sd 6 hE k (Z00 rfl e73) ?_
           intro a147 hE e6 kp
           replace e75 := kt kp e75; replace e76 := kt kp e76
           refine sd 7 hE k (Z00 rfl e75) ?_
           intro a148 hE e7 kp
           replace e76 := kt kp e76; replace e6 := kt kp e6
           refine sd 8 hE k (Z00 rfl e76) ?_
           intro a149 hE e8 kp
           replace e6 := kt kp e6; replace e7 := kt kp e7
           refine wpList_nil ?_
           replace k := k.env hE
           clear hE e11 e12
           refine Z01 ?_
           refine wp_ret ?_
           refine Z1x rfl k e6 e7 e8 ?_
           exact ⟨N1, 0, false, 6, B1, cap1, vs1, rfl, OwnT.pickR (L := [_, _, _, _, _]) (R := R) O [0, 1, 2] (by decide), .inr (.inl ⟨rfl, rfl, rfl, hls, ⟨M1, hM1, by omega⟩, fun h => hf (by omega)⟩)⟩
     · skip
       refine wp_seq ?_
       refine wp_seq ?_
       refine wp_region_lit ?_
       have hE := Env.refl a45 [31, 32, 33, 34, 35, 36, 37, 38, 39]
       apply Z02 31 hE k rfl rfl rfl rfl
       case h =>
        simp [go_sem, ↓IntWalk.iteOmega, ev (hE.g e9)]
        with_reducible rfl
       intro a150 hE e31 kp
       apply Z02 32 hE k rfl rfl rfl rfl
       case h =>
        have q0 : w46.cell? ⟨nb, 0, none⟩ = some (.int .i64 ↑lc) := (OwnT.blk O 4 rfl).cell 0
        simp [go_sem, ↓IntWalk.iteOmega, ev e31, q0]
        with_reducible rfl
       intro a151 hE e32 kp
       refine sd 33 hE k (Z05 (Z1r rfl e32 rfl) (decide_eq_false (by omega))) ?_
       intro a152 hE e33 kp
       refine sd 34 hE k (Z03 rfl e33) ?_
       intro a153 hE e34 kp
       refine Z09 35 hE k rfl (by rfl) (by rfl) rfl rfl (.inl e34) ?_
       intro a154 hE e35 kp
       replace e34 := kt kp e34
       refine Z09 36 hE k rfl (by rfl) (by rfl) rfl rfl (.inl e34) ?_
       intro a155 hE e36 kp
       replace e34 := kt kp e34
       refine Z09 37 hE k rfl (by rfl) (by rfl) rfl rfl (.inl e34) ?_
       intro a156 hE e37 kp
       replace e34 := kt kp e34
       refine Z09 38 hE k rfl (by rfl) (by rfl) rfl rfl (.inl e34) ?_
       intro a157 hE e38 kp
       replace e34 := kt kp e34
       refine sd 39 hE k (Z08 rfl e34 rfl) ?_
       intro a158 hE e39 kp
       refine wpList_nil ?_
       replace e0 := hE.g e0; replace e9 := hE.g e9; replace e12 := hE.g e12
       replace k := k.env hE
       clear hE
       refine Z01 ?_
       refine Z06 e39 rfl ?_
       refine wp_exit ?_
       refine Z12 ?_
       refine Z12 ?_
       refine Z1o ?_
       refine Z01 ?_
       by_cases hp0 : pg = 0
       rotate_left
       · skip
         refine wp_seq ?_
         refine wp_seq ?_
         refine wp_region_lit ?_
         have hE := Env.refl a158 [58, 59, 60, 61, 62, 63, 64, 65]
         refine zm 58 hE k e12 ?_
         intro a159 hE e58 kp
         refine sd 59 hE k (Z05 (Z0j rfl e58 rfl) (decide_eq_true (by omega))) ?_
         intro a160 hE e59 kp
         refine sd 60 hE k (Z03 rfl e59) ?_
         intro a161 hE e60 kp
         refine Z09 61 hE k rfl (by rfl) (by rfl) rfl rfl (.inl e60) ?_
         intro a162 hE e61 kp
         replace e60 := kt kp e60
         refine Z09 62 hE k rfl (by rfl) (by rfl) rfl rfl (.inl e60) ?_
         intro a163 hE e62 kp
         replace e60 := kt kp e60
         refine Z09 63 hE k rfl (by rfl) (by rfl) rfl rfl (.inl e60) ?_
         intro a164 hE e63 kp
         replace e60 := kt kp e60
         refine Z09 64 hE k rfl (by rfl) (by rfl) rfl rfl (.inl e60) ?_
         intro a165 hE e64 kp
         replace e60 := kt kp e60
         refine sd 65 hE k (Z0m rfl e60 rfl) ?_
         intro a166 hE e65 kp
         refine wpList_nil ?_
         replace e0 := hE.g e0; replace e9 := hE.g e9; replace e12 := hE.g e12
         replace k := k.env hE
         clear hE e39
         refine Z01 ?_
         refine Z0a e65 rfl ?_
         refine wp_seq ?_
         refine wp_region_lit ?_
         have hE := Env.refl a166 [66, 6, 7, 8]
         refine zm 66 hE k e12 ?_
         intro a167 hE e66 kp
         refine sd 6 hE k (Z00 rfl e66) ?_
         intro a168 hE e6 kp
         refine sd 7 hE k (Z00 rfl rfl) ?_
         intro a169 hE e7 kp
         replace e6 := kt kp e6
         refine sd 8 hE k (Z00 rfl rfl) ?_
         intro a170 hE e8 kp
         replace e6 := kt kp e6; replace e7 := kt kp e7
         refine wpList_nil ?_
         replace k := k.env hE
         clear hE e0 e9 e12 e65
         refine Z01 ?_
         refine wp_ret ?_
         refine Z0l ?_
         obtain ⟨hn1, hn2, hn3⟩ := hpgn hp0
         refine Z1x rfl k e6 e7 e8 ?_
         exact ⟨N1, pg, true, 0, B1, cap1, vs1, rfl, OwnT.pickR (L := [_, _, _, _, _]) (R := R) O [0, 1, 2] (by decide), .inr (.inr ⟨rfl, rfl, hls, ⟨M1, hM1, by omega⟩, pg, L', pg :: h', rfl, ⟨.inr ⟨lc, by omega, Z3n.2 ⟨os, h', hn1, hn2, hos, hb, rfl⟩, fun h0 => ⟨os, hn1, by have := List.length_pos_iff.2 hn2; omega⟩⟩, hup, List.nodup_cons.2 ⟨hn3, hnd⟩, hwf⟩, hfl, hph, (fun q hq => by rcases List.mem_cons.1 hq with rfl | hq; exact hpsub hp0; exact hsub q hq)⟩)⟩
       subst hp0
       by_cases ho : os = []
       · have hol : os.length = 0 := by rw [ho]; rfl
         have hL' : L' = [] := by
          subst ho
          cases lc with
          | zero => have := (Z0e.1 hb).1; simpa using this
          | succ lc => exact (Z0f.1 hb).1
         refine wp_seq ?_
         refine wp_seq ?_
         refine wp_region_lit ?_
         have hE := Env.refl a158 [58, 59, 60, 61, 62, 63, 64, 65]
         refine zm 58 hE k e12 ?_
         intro a171 hE e58 kp
         refine sd 59 hE k (Z05 (Z0j rfl e58 rfl) (decide_eq_false (by omega))) ?_
         intro a172 hE e59 kp
         refine sd 60 hE k (Z03 rfl e59) ?_
         intro a173 hE e60 kp
         apply Z04 61 hE k rfl rfl rfl rfl rfl e60
         case h =>
          simp [go_sem, ↓IntWalk.iteOmega, ev (hE.g e9)]
          with_reducible rfl
         intro a174 hE e61 kp
         replace e60 := kt kp e60
         apply Z04 62 hE k rfl rfl rfl rfl rfl e60
         case h =>
          have q0 : w46.cell? ⟨nb, 1, none⟩ = some (.slice Bo os.length co) := (OwnT.blk O 4 rfl).cell 1
          simp [go_sem, ↓IntWalk.iteOmega, ev e61, q0]
          with_reducible rfl
         intro a175 hE e62 kp
         replace e60 := kt kp e60
         apply Z04 63 hE k rfl rfl rfl rfl rfl e60
         case h =>
          exact Z0i Try.underlying38 rfl e62
         intro a176 hE e63 kp
         replace e60 := kt kp e60
         apply Z04 64 hE k rfl rfl rfl rfl rfl e60
         case h =>
          exact Z05 (Z0v rfl e63 rfl) (decide_eq_true (by omega))
         intro a177 hE e64 kp
         replace e60 := kt kp e60
         refine sd 65 hE k (Z08 rfl e60 e64) ?_
         intro a178 hE e65 kp
         refine wpList_nil ?_
         replace e0 := hE.g e0; replace e9 := hE.g e9; replace e12 := hE.g e12
         replace k := k.env hE
         clear hE e39
         refine Z01 ?_
         refine Z0a e65 rfl ?_
         refine wp_seq ?_
         refine wp_region_lit ?_
         have hE := Env.refl a178 [66, 6, 7, 8]
         refine zm 66 hE k e12 ?_
         intro a179 hE e66 kp
         refine sd 6 hE k (Z00 rfl e66) ?_
         intro a180 hE e6 kp
         refine sd 7 hE k (Z00 rfl rfl) ?_
         intro a181 hE e7 kp
         replace e6 := kt kp e6
         refine sd 8 hE k (Z00 rfl rfl) ?_
         intro a182 hE e8 kp
         replace e6 := kt kp e6; replace e7 := kt kp e7
         refine wpList_nil ?_
         replace k := k.env hE
         clear hE e0 e9 e12 e65
         refine Z01 ?_
         refine wp_ret ?_
         refine Z0l ?_
         refine Z1x rfl k e6 e7 e8 ?_
         exact ⟨N1, (0 : Nat), true, 0, B1, cap1, vs1, rfl, OwnT.pickR (L := [_, _, _, _, _]) (R := R) O [0, 1, 2] (by decide), .inr (.inr ⟨rfl, rfl, hls, ⟨M1, hM1, by omega⟩, 0, L', [], rfl, ⟨.inl ⟨rfl, hL', rfl⟩, hup, List.nodup_nil, hwf⟩, hfl, hph, (fun q hq => by cases hq)⟩)⟩
       · have hol := List.length_pos_iff.2 ho
         refine wp_seq ?_
         refine wp_seq ?_
         refine wp_region_lit ?_
         have hE := Env.refl a158 [58, 59, 60, 61, 62, 63, 64, 65]
         refine zm 58 hE k e12 ?_
         intro a183 hE e58 kp
         refine sd 59 hE k (Z05 (Z0j rfl e58 rfl) (decide_eq_false (by omega))) ?_
         intro a184 hE e59 kp
         refine sd 60 hE k (Z03 rfl e59) ?_
         intro a185 hE e60 kp
         apply Z04 61 hE k rfl rfl rfl rfl rfl e60
         case h =>
          simp [go_sem, ↓IntWalk.iteOmega, ev (hE.g e9)]
          with_reducible rfl
         intro a186 hE e61 kp
         replace e60 := kt kp e60
         apply Z04 62 hE k rfl rfl rfl rfl rfl e60
         case h =>
          have q0 : w46.cell? ⟨nb, 1, none⟩ = some (.slice Bo os.length co) := (OwnT.blk O 4 rfl).cell 1
          simp [go_sem, ↓IntWalk.iteOmega, ev e61, q0]
          with_reducible rfl
         intro a187 hE e62 kp
         replace e60 := kt kp e60
         apply Z04 63 hE k rfl rfl rfl rfl rfl e60
         case h =>
          exact Z0i Try.underlying38 rfl e62
         intro a188 hE e63 kp
         replace e60 := kt kp e60
         apply Z04 64 hE k rfl rfl rfl rfl rfl e60
         case h =>
          exact Z05 (Z0v rfl e63 rfl) (decide_eq_false (by omega))
         intro a189 hE e64 kp
         replace e60 := kt kp e60
         refine sd 65 hE k (Z08 rfl e60 e64) ?_
         intro a190 hE e65 kp
         refine wpList_nil ?_
         replace e0 := hE.g e0; replace e9 := hE.g e9; replace e12 := hE.g e12
         replace k := k.env hE
         clear hE e39
         refine Z01 ?_
         refine Z06 e65 rfl ?_
         refine wp_skip ?_
         refine Z01 ?_
         by_cases hf : N1.length < 511 ∧ (N1.length : Int) < room
         · skip
           refine wp_seq ?_
           refine wp_region_lit ?_
           have hE := Env.refl a190 [68, 69, 70, 67, 71, 72, 12, 11]
           refine zm 68 hE k e0 ?_
           intro a191 hE e68 kp
           apply Z02 69 hE k rfl rfl rfl rfl
           case h =>
            have q0 : w46.cell? ⟨nb, 0, none⟩ = some (.int .i64 ↑lc) := (OwnT.blk O 4 rfl).cell 0
            have q1 : w46.cell? ⟨nb, 1, none⟩ = some (.slice Bo os.length co) := (OwnT.blk O 4 rfl).cell 1
            simp [go_sem, ↓IntWalk.iteOmega, ev (hE.g e9), q0, q1]
            with_reducible rfl
           intro a192 hE e69 kp
           replace e68 := kt kp e68
           apply Z07 70 hE k rfl (by rfl) (by rfl) rfl
           case h =>
            exact Z2t rfl e68 e69 (Z1n _ _ _)
           case hc => exact Z3e (R := _ :: _ :: R) os _ O (by omega) hf hrow hc4 (by omega)
           clear O
           rintro e w194 ⟨rfl, B2, cap2, vs2, O⟩
           refine ⟨_, rfl, ?_⟩
           intro a193 hE e70 kp
           refine sd 67 hE k (Z03 rfl e70) ?_
           intro a195 hE e67 kp
           apply Z02 71 hE k rfl rfl rfl rfl
           case h =>
            simp [go_sem, ↓IntWalk.iteOmega, ev e67]
            with_reducible rfl
           intro a196 hE e71 kp
           replace e67 := kt kp e67
           apply Z02 72 hE k rfl rfl rfl rfl
           case h =>
            simp [go_sem, ↓IntWalk.iteOmega, ev e67]
            with_reducible rfl
           intro a197 hE e72 kp
           replace e71 := kt kp e71
           refine sd 12 hE k (Z00 rfl e71) ?_
           intro a198 hE e12 kp
           replace e72 := kt kp e72
           refine sd 11 hE k (Z00 rfl e72) ?_
           intro a199 hE e11 kp
           replace e12 := kt kp e12
           refine wpList_nil ?_
           replace k := k.env hE
           clear hE e0 e9 e65
           refine Z01 (wp_seq ?_)
           refine wp_region_lit ?_
           have hE := Env.refl a199 [73, 74, 75, 76, 6, 7, 8]
           refine zm 73 hE k e12 ?_
           intro a200 hE e73 kp
           refine zm 74 hE k e11 ?_
           intro a201 hE e74 kp
           replace e73 := kt kp e73
           refine sd 75 hE k (Z0v rfl e74 rfl) ?_
           intro a202 hE e75 kp
           replace e73 := kt kp e73
           refine zm 76 hE k e11 ?_
           intro a203 hE e76 kp
           replace e73 := kt kp e73; replace e75 := kt kp e75
           refine sd 6 hE k (Z00 rfl e73) ?_
           intro a204 hE e6 kp
           replace e75 := kt kp e75; replace e76 := kt kp e76
           refine sd 7 hE k (Z00 rfl e75) ?_
           intro a205 hE e7 kp
           replace e76 := kt kp e76; replace e6 := kt kp e6
           refine sd 8 hE k (Z00 rfl e76) ?_
           intro a206 hE e8 kp
           replace e6 := kt kp e6; replace e7 := kt kp e7
           refine wpList_nil ?_
           replace k := k.env hE
           clear hE e11 e12
           refine Z01 ?_
           refine wp_ret ?_
           have hTn : Tr (N1 ++ [(lc, os)]) lc (N1.length + 1) L' ((N1.length + 1) :: h') := Z23 hb ho hos (Z1l N1 _ [])
           have hpg2 := hb.pages
           refine Z1x rfl k e6 e7 e8 ?_
           exact ⟨N1 ++ [(lc, os)], ((N1.length + 1 : Nat) : Int), true, 0, B2, cap2, vs2, rfl, OwnT.pickR (L := [_, _, _, _, _]) (R := R) O [0, 1, 2] (by decide), .inr (.inr ⟨rfl, rfl, hls, ⟨M1 ++ [(lc, os)], by rw [hM1, List.append_assoc], by rw [List.length_append]; simp; omega⟩, N1.length + 1, L', _, rfl, ⟨.inr ⟨lc, by omega, hTn, fun h0 => ⟨os, Z1l N1 _ [], by omega⟩⟩, hup, List.nodup_cons.2 ⟨fun h => by have := (hpg2 _ h).2; omega, hnd⟩, hwf⟩, hfl, hph, (fun q hq => by rcases List.mem_cons.1 hq with rfl | hq; exact .inr (by omega); exact hsub q hq)⟩)⟩
         · skip
           refine wp_seq ?_
           refine wp_region_lit ?_
           have hE := Env.refl a190 [68, 69, 70, 67, 71, 72, 12, 11]
           refine zm 68 hE k e0 ?_
           intro a207 hE e68 kp
           apply Z02 69 hE k rfl rfl rfl rfl
           case h =>
            have q0 : w46.cell? ⟨nb, 0, none⟩ = some (.int .i64 ↑lc) := (OwnT.blk O 4 rfl).cell 0
            have q1 : w46.cell? ⟨nb, 1, none⟩ = some (.slice Bo os.length co) := (OwnT.blk O 4 rfl).cell 1
            simp [go_sem, ↓IntWalk.iteOmega, ev (hE.g e9), q0, q1]
            with_reducible rfl
           intro a208 hE e69 kp
           replace e68 := kt kp e68
           apply Z07 70 hE k rfl (by rfl) (by rfl) rfl
           case h =>
            exact Z2t rfl e68 e69 (Z1n _ _ _)
           case hc => exact Z24 (R := _ :: _ :: R) os _ O (by omega) hf
           clear O
           rintro e w210 ⟨rfl, O⟩
           refine ⟨_, rfl, ?_⟩
           intro a209 hE e70 kp
           refine sd 67 hE k (Z03 rfl e70) ?_
           intro a211 hE e67 kp
           apply Z02 71 hE k rfl rfl rfl rfl
           case h =>
            simp [go_sem, ↓IntWalk.iteOmega, ev e67]
            with_reducible rfl
           intro a212 hE e71 kp
           replace e67 := kt kp e67
           apply Z02 72 hE k rfl rfl rfl rfl
           case h =>
            simp [go_sem, ↓IntWalk.iteOmega, ev e67]
            with_reducible rfl
           intro a213 hE e72 kp
           replace e71 := kt kp e71
           refine sd 12 hE k (Z00 rfl e71) ?_
           intro a214 hE e12 kp
           replace e72 := kt kp e72
           refine sd 11 hE k (Z00 rfl e72) ?_
           intro a215 hE e11 kp
           replace e12 := kt kp e12
           refine wpList_nil ?_
           replace k := k.env hE
           clear hE e0 e9 e65
           refine Z01 (wp_seq ?_)
           refine wp_region_lit ?_
           have hE := Env.refl a215 [73, 74, 75, 76, 6, 7, 8]
           refine zm 73 hE k e12 ?_
           intro a216 hE e73 kp
           refine zm 74 hE k e11 ?_
           intro a217 hE e74 kp
           replace e73 := kt kp e73
           refine sd 75 hE k (Z0v rfl e74 rfl) ?_
           intro a218 hE e75 kp
           replace e73 := kt kp e73
           refine zm 76 hE k e11 ?_
           intro a219 hE e76 kp
           replace e73 := kt kp e73; replace e75 := kt kp e75
           refine sd 6 hE k (Z00 rfl e73) ?_
           intro a220 hE e6 kp
           replace e75 := kt kp e75; replace e76 := kt kp e76
           refine sd 7 hE k (Z00 rfl e75) ?_
           intro a221 hE e7 kp
           replace e76 := kt kp e76; replace e6 := kt kp e6
           refine sd 8 hE k (Z00 rfl e76) ?_
           intro a222 hE e8 kp
           replace e6 := kt kp e6; replace e7 := kt kp e7
           refine wpList_nil ?_
           replace k := k.env hE
           clear hE e11 e12
           refine Z01 ?_
           refine wp_ret ?_
           refine Z1x rfl k e6 e7 e8 ?_
           exact ⟨N1, 0, false, 6, B1, cap1, vs1, rfl, OwnT.pickR (L := [_, _, _, _, _]) (R := R) O [0, 1, 2] (by decide), .inr (.inl ⟨rfl, rfl, rfl, hls, ⟨M1, hM1, by omega⟩, fun h => hf (by omega)⟩)⟩
theorem tDrop {H : Nat} {A0 : World} {R : List Thing} {sb cap : Nat} {room : Int} {B : Option Addr} {vs : List Value} {N : List Nd} {root ky m : Nat} {L : List (List Pr)} {g : List Nat} (w : World) (O : OwnT H A0 (shT sb room B cap vs N R) w) (hRT : RT m N root L g) (h7 : m ≤ 7) (hN : N.length ≤ 500) : Calls Try.prog 11 #[.iface 24 (.pointer (some ⟨sb, 0, none⟩)), .int .i64 root, .int .u64 ky] w fun e w' => ∃ N' root' ok er B' cap' vs', e = .returned (.tuple #[.int .i64 root', .bool ok, .int .i64 er]) ∧ OwnT H A0 (shT sb room B' cap' vs' N' R) w' ∧ DropT m N N' room root ky L g root' ok er := by
 by_cases hr : root = 0
 · exact Z6y w O hRT h7 hN hr
 · exact Z6z w O hRT h7 hN hr
end Go.Proofs.Ytdeocidlkpbhcaa
