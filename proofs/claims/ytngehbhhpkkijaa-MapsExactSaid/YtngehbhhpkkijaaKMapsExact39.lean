/- maps: Trim (printed by XMgE.gen.py). -/
import Derived.Test.YtngehbhhpkkijaaKMapsExact38
namespace Go.Proofs.Ytngehbhhpkkijaa
attribute [local simp] BigFrame.eval_const BigFrame.eval_global BigFrame.eval_func
set_option linter.unusedVariables false
set_option linter.unusedSimpArgs false
open Go.RowKit Go.Maps


def loP (sz : Nat) (P : List Pr) : List Pr := P.filter fun y => decide (y.1 < sz)
def hiP (sz : Nat) (P : List Pr) : List Pr := P.filter fun y => decide (sz ≤ y.1)
theorem Z7w {sz q : Nat} {P : List Pr} {y : Pr} (hy : P[q]? = some y) (h : y.1 < sz) : loP sz (P.take q) ++ P.drop q = loP sz (P.take (q + 1)) ++ P.drop (q + 1) ∧ hiP sz (P.take (q + 1)) = hiP sz (P.take q) := by
 have htk : P.take (q + 1) = P.take q ++ [y] := by rw [List.take_add_one, hy]; rfl
 have hql := (List.getElem?_eq_some_iff.1 hy).1
 have hd : P.drop q = y :: P.drop (q + 1) := by
  rw [List.drop_eq_getElem_cons hql]
  rw [List.getElem?_eq_getElem hql] at hy
  injection hy with hy
  rw [hy]
 unfold loP hiP
 rw [htk, List.filter_append, List.filter_append, hd, List.filter_cons_of_pos (by simpa using h), List.filter_cons_of_neg (by simp; omega)]
 simp
theorem Z7x {sz q : Nat} {P : List Pr} {y : Pr} (hu : Up P) (hy : P[q]? = some y) (h : sz ≤ y.1) : delP y.1 (loP sz (P.take q) ++ P.drop q) = loP sz (P.take (q + 1)) ++ P.drop (q + 1) ∧ hiP sz (P.take (q + 1)) = hiP sz (P.take q) ++ [y] ∧ (lookP y.1 (loP sz (P.take q) ++ P.drop q)).isSome = true := by
 have htk : P.take (q + 1) = P.take q ++ [y] := by rw [List.take_add_one, hy]; rfl
 have hql := (List.getElem?_eq_some_iff.1 hy).1
 have hd : P.drop q = y :: P.drop (q + 1) := by
  rw [List.drop_eq_getElem_cons hql]
  rw [List.getElem?_eq_getElem hql] at hy
  injection hy with hy
  rw [hy]
 have h2 : ∀ z ∈ P.drop (q + 1), y.1 < z.1 := by
  have h3 : Up (P.drop q) := List.Pairwise.sublist (List.drop_sublist _ _) hu
  rw [hd] at h3
  exact (List.pairwise_cons.1 h3).1
 refine ⟨?_, ?_, ?_⟩
 · unfold loP delP
   rw [htk, hd, List.filter_append, List.filter_append, List.filter_cons_of_neg (by simp), List.filter_cons_of_neg (by simp; omega), Z1q (l := P.drop (q + 1)) (fun z hz => decide_eq_true (by have := h2 z hz; omega)), Z1q (l := (P.take q).filter _) (fun z hz => decide_eq_true (by have := of_decide_eq_true (List.mem_filter.1 hz).2; omega))]
   simp
 · unfold hiP
   rw [htk, List.filter_append, List.filter_cons_of_pos (by simpa using h)]
   rfl
 · exact Z5n.2 ⟨y, by rw [hd]; simp, rfl⟩

set_option maxRecDepth 100000 in
set_option maxHeartbeats 4000000 in
theorem mTrim_bad {root : Nat} {u : Value} (at_ : Int) (W0 : World) (h1 : at_ < 0) : Calls Try.prog 37 #[u, .int .i64 root, .int .i64 at_] W0 fun e w' => e = .returned (.tuple #[.int .i64 0, .slice none 0 0, .int .i64 1]) ∧ Ext W0 w' := by
 have O := OwnT.start W0
 refine Z0d Try.func37 rfl 53 rfl (by rfl) ?_
 intro a1 k hargs
 have e0 : a1.eval (.tmp 0) = u := hargs 0 _ rfl
 have e1 : a1.eval (.tmp 1) = .int .i64 ↑root := hargs 1 _ rfl
 have e2 : a1.eval (.tmp 2) = .int .i64 at_ := hargs 2 _ rfl
 clear hargs
 refine wp_seq ?_
 refine wp_region_lit ?_
 have hE := Env.refl a1 [6, 7, 8]
 refine sd 6 hE k (Z00 rfl rfl) ?_
 intro a2 hE e6 kp
 refine sd 7 hE k (Z00 rfl rfl) ?_
 intro a3 hE e7 kp
 refine sd 8 hE k (Z00 rfl rfl) ?_
 intro a4 hE e8 kp
 refine wpList_nil ?_
 replace e0 := hE.g e0; replace e1 := hE.g e1; replace e2 := hE.g e2
 replace k := k.env hE
 clear hE e8
 refine Z01 (wp_seq ?_)
 refine wp_seq ?_
 refine wp_region_lit ?_
 have hE := Env.refl a4 [14, 15]
 refine sm 14 hE k e2 ?_
 intro a5 hE e14 kp
 refine sd 15 hE k (Z06 (Z0x rfl e14 rfl) (decide_eq_true (by omega))) ?_
 intro a6 hE e15 kp
 refine wpList_nil ?_
 replace e0 := hE.g e0; replace e1 := hE.g e1; replace e2 := hE.g e2
 replace k := k.env hE
 clear hE
 refine Z01 ?_
 refine Z0b e15 rfl ?_
 refine wp_seq ?_
 refine wp_region_lit ?_
 have hE := Env.refl a6 [6, 7, 8]
 refine sd 6 hE k (Z00 rfl rfl) ?_
 intro a7 hE e6 kp
 refine sd 7 hE k (Z00 rfl rfl) ?_
 intro a8 hE e7 kp
 replace e6 := kt kp e6
 refine sd 8 hE k (Z00 rfl rfl) ?_
 intro a9 hE e8 kp
 replace e6 := kt kp e6; replace e7 := kt kp e7
 refine wpList_nil ?_
 replace k := k.env hE
 clear hE e0 e1 e2 e15
 refine Z01 ?_
 refine wp_ret ?_
 refine Z0c ?_
 refine Z1o rfl k e6 e7 e8 ?_
 exact ⟨rfl, O.below⟩
set_option maxRecDepth 100000 in
set_option maxHeartbeats 4000000 in
theorem mTrim {H : Nat} {A0 : World} {R : List Thing} {sb cap : Nat} {room : Int} {B : Option Addr} {vs : List Value} {N : List Nd} {root c : Nat} {P : List Pr} {sz : Nat} (w : World) (O : OwnT H A0 (shT sb room B cap vs N R) w) (hT : Tre N root c P) (hc : c ≤ 1000) (hN : N.length + 2 * P.length ≤ 500) (hok : P.all enOk = true) : Calls Try.prog 37 #[.iface 24 (.pointer (some ⟨sb, 0, none⟩)), .int .i64 root, .int .i64 sz] w fun e w' => ∃ N' B' cap' vs', (∃ M, N' = N ++ M ∧ M.length ≤ 2 * (hiP sz P).length) ∧ ((e = .returned (.tuple #[.int .i64 0, .slice none 0 0, .int .i64 6]) ∧ ¬ (N.length + 2 * P.length ≤ 511 ∧ ((N.length + 2 * P.length : Nat) : Int) ≤ room) ∧ OwnT H A0 (shT sb room B' cap' vs' N' R) w') ∨ ∃ r B2 c2, e = .returned (.tuple #[.int .i64 (r : Nat), .slice B2 (hiP sz P).length c2, .int .i64 0]) ∧ OwnT H A0 (shT sb room B' cap' vs' N' (tEs (.slice B2 (hiP sz P).length c2) (hiP sz P) :: R)) w' ∧ Tre N' r c (loP sz P)) := by
 have hup := hT.up
 refine Z0d Try.func37 rfl 53 rfl (by rfl) ?_
 intro a1 k hargs
 have e0 : a1.eval (.tmp 0) = .iface 24 (.pointer (some ⟨sb, 0, none⟩)) := hargs 0 _ rfl
 have e1 : a1.eval (.tmp 1) = .int .i64 ↑root := hargs 1 _ rfl
 have e2 : a1.eval (.tmp 2) = .int .i64 ↑sz := hargs 2 _ rfl
 clear hargs
 refine wp_seq ?_
 refine wp_region_lit ?_
 have hE := Env.refl a1 [6, 7, 8]
 refine sd 6 hE k (Z00 rfl rfl) ?_
 intro a2 hE e6 kp
 refine sd 7 hE k (Z00 rfl rfl) ?_
 intro a3 hE e7 kp
 refine sd 8 hE k (Z00 rfl rfl) ?_
 intro a4 hE e8 kp
 refine wpList_nil ?_
 replace e0 := hE.g e0; replace e1 := hE.g e1; replace e2 := hE.g e2
 replace k := k.env hE
 clear hE e8
 refine Z01 (wp_seq ?_)
 refine wp_seq ?_
 refine wp_region_lit ?_
 have hE := Env.refl a4 [14, 15]
 refine sm 14 hE k e2 ?_
 intro a5 hE e14 kp
 refine sd 15 hE k (Z06 (Z0x rfl e14 rfl) (decide_eq_false (by omega))) ?_
 intro a6 hE e15 kp
 refine wpList_nil ?_
 replace e0 := hE.g e0; replace e1 := hE.g e1; replace e2 := hE.g e2
 replace k := k.env hE
 clear hE
 refine Z01 ?_
 refine Z05 e15 rfl ?_
 refine wp_skip ?_
 refine Z01 (wp_seq ?_)
 refine wp_region_lit ?_
 have hE := Env.refl a6 [17, 18, 19, 16, 20, 21, 9, 10]
 refine sm 17 hE k e0 ?_
 intro a7 hE e17 kp
 refine sm 18 hE k e1 ?_
 intro a8 hE e18 kp
 replace e17 := kt kp e17
 apply Z08 19 hE k rfl (by rfl) (by rfl) rfl
 case h =>
  simp [go_sem, ↓IntWalk.iteOmega, ev e17, ev e18]
  with_reducible exact ⟨rfl, rfl⟩
 case hc => exact mList _ O hT hc (by omega)
 rintro e w10 hL
 obtain ⟨Bl, cl, rfl, O⟩ := (hL.resolve_right (fun h => absurd (hok.symm.trans h.1) Bool.noConfusion)).2
 clear hL
 refine ⟨_, rfl, ?_⟩
 intro a9 hE e19 kp
 refine sd 16 hE k (Z03 rfl e19) ?_
 intro a11 hE e16 kp
 apply Z02 20 hE k rfl rfl rfl rfl
 case h =>
  simp [go_sem, ↓IntWalk.iteOmega, ev e16]
  with_reducible rfl
 intro a12 hE e20 kp
 replace e16 := kt kp e16
 apply Z02 21 hE k rfl rfl rfl rfl
 case h =>
  simp [go_sem, ↓IntWalk.iteOmega, ev e16]
  with_reducible rfl
 intro a13 hE e21 kp
 replace e20 := kt kp e20
 refine sd 9 hE k (Z00 rfl e20) ?_
 intro a14 hE e9 kp
 replace e21 := kt kp e21
 refine sd 10 hE k (Z00 rfl e21) ?_
 intro a15 hE e10 kp
 replace e9 := kt kp e9
 refine wpList_nil ?_
 replace e0 := hE.g e0; replace e1 := hE.g e1; replace e2 := hE.g e2
 replace k := k.env hE
 clear hE e15
 refine Z01 (wp_seq ?_)
 refine wp_seq ?_
 refine wp_region_lit ?_
 have hE := Env.refl a15 [22, 23]
 refine sm 22 hE k e10 ?_
 intro a16 hE e22 kp
 refine sd 23 hE k (Z06 (Z0v rfl e22 rfl) (decide_eq_false (by omega))) ?_
 intro a17 hE e23 kp
 refine wpList_nil ?_
 replace e0 := hE.g e0; replace e1 := hE.g e1; replace e2 := hE.g e2; replace e9 := hE.g e9; replace e10 := hE.g e10
 replace k := k.env hE
 clear hE
 refine Z01 ?_
 refine Z05 e23 rfl ?_
 refine wp_skip ?_
 refine Z01 ?_
 replace O := OwnT.nilRow O 67 2
 replace O : OwnT _ _ ((tEs (.slice none (hiP sz (P.take 0)).length 0) (hiP sz (P.take 0))) :: (tBlk sb 28 #[.slice B N.length cap, .int .i64 room]) :: (tRow 125 2 (.slice B N.length cap) N.length (leafV vs N)) :: (tPool vs N) :: (tEs (.slice Bl P.length cl) P) :: R) w10 := O
 replace O : OwnT _ _ ((tBlk sb 28 #[.slice B N.length cap, .int .i64 room]) :: (tRow 125 2 (.slice B N.length cap) N.length (leafV vs N)) :: (tPool vs N) :: (tEs (.slice Bl P.length cl) P) :: (tEs (.slice none (hiP sz (P.take 0)).length 0) (hiP sz (P.take 0))) :: R) w10 := OwnT.pickR (L := [_, _, _, _, _]) (R := R) O [1, 2, 3, 4, 0] (by decide)
 refine wp_seq ?_
 refine wp_region_lit ?_
 have hE := Env.refl a17 [11]
 refine sd 11 hE k (Z00 rfl rfl) ?_
 intro a18 hE e11 kp
 refine wpList_nil ?_
 replace e0 := hE.g e0; replace e1 := hE.g e1; replace e2 := hE.g e2; replace e9 := hE.g e9
 replace k := k.env hE
 clear hE e10 e23
 refine Z01 (wp_seq ?_)
 refine wp_seq ?_
 refine wp_region_lit ?_
 have hE := Env.refl a18 [25, 26, 27]
 refine sm 25 hE k e9 ?_
 intro a19 hE e25 kp
 refine sd 26 hE k (Z0j Try.underlying65 rfl e25) ?_
 intro a20 hE e26 kp
 replace e25 := kt kp e25
 refine sd 27 hE k (Z03 rfl rfl) ?_
 intro a21 hE e27 kp
 replace e25 := kt kp e25; replace e26 := kt kp e26
 refine wpList_nil ?_
 replace e0 := hE.g e0; replace e1 := hE.g e1; replace e2 := hE.g e2; replace e11 := hE.g e11
 replace k := k.env hE
 clear hE e9
 refine Z01 ?_
 refine wp_block ?_
 refine wp_loop (fun a w => Fr 53 a ∧ a.eval (.tmp 0) = .iface 24 (.pointer (some ⟨sb, 0, none⟩)) ∧ a.eval (.tmp 2) = .int .i64 ↑sz ∧ a.eval (.tmp 25) = .slice Bl P.length cl ∧ a.eval (.tmp 26) = .int .i64 ↑P.length ∧ ∃ (q rt : Nat) (Bg : Option Addr) (cg : Nat) (N1 : List Nd) (B1 : Option Addr) (cap1 : Nat) (vs1 : List Value), a.eval (.tmp 1) = .int .i64 ↑rt ∧ a.eval (.tmp 11) = .slice Bg ((hiP sz (P.take q)).length) cg ∧ a.eval (.tmp 27) = .int .i64 ↑q ∧ q ≤ P.length ∧ (∃ M, N1 = N ++ M ∧ M.length ≤ 2 * (hiP sz (P.take q)).length) ∧ Tre N1 rt c (loP sz (P.take q) ++ P.drop q) ∧ OwnT H A0 ((tBlk sb 28 #[.slice B1 N1.length cap1, .int .i64 room]) :: (tRow 125 2 (.slice B1 N1.length cap1) N1.length (leafV vs1 N1)) :: (tPool vs1 N1) :: (tEs (.slice Bl P.length cl) P) :: (tEs (.slice Bg (hiP sz (P.take q)).length cg) (hiP sz (P.take q))) :: R) w) (fun a w => P.length - (intOf (a.eval (.tmp 27))).toNat) ?_ ?_
 · exact ⟨k, e0, e2, e25, e26, 0, root, none, 0, N, B, cap, vs, e1, e11, e27, Nat.zero_le _, ⟨[], by simp, by simp⟩, hT, O⟩
 intro a22 w23 hI
 clear k e0 e2 e25 e26
 obtain ⟨k, e0, e2, e25, e26, h_⟩ := hI
 clear O e1 e11 e27
 obtain ⟨q, rt, Bg, cg, N1, B1, cap1, vs1, e1, e11, e27, hq, ⟨M, rfl, hM⟩, hT1, O⟩ := h_
 have mq := e27
 by_cases hlt : q < P.length
 · have hltI : (q : Int) < (P.length : Int) := by omega
   obtain ⟨y, hy⟩ : ∃ y, P[q]? = some y := ⟨_, List.getElem?_eq_getElem hlt⟩
   have hy64 : y.1 < 64 ∧ 1 ≤ y.2 ∧ y.2 ≤ 1023 := of_decide_eq_true (List.all_eq_true.1 hok y (List.mem_of_getElem? hy))
   have hgl : (hiP sz (P.take q)).length ≤ P.length := Nat.le_trans (List.length_filter_le _ _) (by rw [List.length_take]; omega)
   have hgl' : (hiP sz (P.take (q + 1))).length ≤ P.length := Nat.le_trans (List.length_filter_le _ _) (by rw [List.length_take]; omega)
   have hNM : (N ++ M).length ≤ 500 := by rw [List.length_append]; omega
   obtain ⟨b, o, rfl, _, hc9⟩ := Z4d (OwnT.get O 3 rfl) q y hy
   have d0 := hc9 0 _ rfl
   have d1 := hc9 1 _ rfl
   simp only [Nat.add_zero] at d0
   clear hc9

   refine wp_seq ?_
   refine wp_region_lit ?_
   have hE := Env.refl a22 [28]
   refine sd 28 hE k (Z06 (Z0x rfl (hE.g e27) (hE.g e26)) (decide_eq_true (by omega))) ?_
   intro a24 hE e28 kp
   refine wpList_nil ?_
   replace e0 := hE.g e0; replace e1 := hE.g e1; replace e2 := hE.g e2; replace e11 := hE.g e11; replace e25 := hE.g e25; replace e26 := hE.g e26; replace e27 := hE.g e27
   replace k := k.env hE
   clear hE
   refine Z01 (wp_seq ?_)
   refine Z0b e28 rfl ?_
   refine wp_skip ?_
   refine Z01 (wp_seq ?_)
   refine wp_block ?_
   refine wp_seq ?_
   refine wp_region_lit ?_
   have hE := Env.refl a24 [29, 30, 13]
   apply Z02 29 hE k rfl rfl rfl rfl
   case h =>
    simp [go_sem, ↓IntWalk.iteOmega, ev (hE.g e25), ev (hE.g e27)]
    with_reducible rfl
   intro a25 hE e29 kp
   apply Z02 30 hE k rfl rfl rfl rfl
   case h =>
    simp [go_sem, ↓IntWalk.iteOmega, ev e29, d0, d1]
    with_reducible rfl
   intro a26 hE e30 kp
   refine Z0m O (cs := #[.int .i64 0, .int .i64 0]) (t := 67) 13 hE k rfl (by rfl) (by rfl) rfl (by simp [go_sem, ↓IntWalk.iteOmega]) ?_
   clear O
   intro eb a27 w28 O hE e13 kp
   replace e30 := kt kp e30
   have q0 : w28.cell? ⟨eb, 0, none⟩ = some (.int .i64 0) := (OwnT.blk O 0 rfl).cell 0
   have z0 : w28.frozen? ⟨eb, 0, none⟩ = false := (OwnT.blk O 0 rfl).frozen 0
   have q1 : w28.cell? ⟨eb, 1, none⟩ = some (.int .i64 0) := (OwnT.blk O 0 rfl).cell 1
   have z1 : w28.frozen? ⟨eb, 1, none⟩ = false := (OwnT.blk O 0 rfl).frozen 1
   refine Z0h (w' := ((w28.setCell ⟨eb, 0, none⟩ (.int .i64 ↑y.1)).setCell ⟨eb, 1, none⟩ (.int .i64 ↑y.2))) hE rfl rfl (by simp [go_sem, ↓IntWalk.iteOmega, ev e13, ev e30, q0, z0, q1, z1]) ?_
   replace O := OwnT.push 0 rfl (((OwnT.pull O 0 rfl).set 0 (.int .i64 ↑y.1)).set 1 (.int .i64 ↑y.2))
   clear q0 z0 q1 z1
   generalize ((w28.setCell ⟨eb, 0, none⟩ (.int .i64 ↑y.1)).setCell ⟨eb, 1, none⟩ (.int .i64 ↑y.2)) = w29 at O ⊢
   replace O : OwnT _ _ ((tBlk eb 67 #[.int .i64 ↑y.1, .int .i64 ↑y.2]) :: (tBlk sb 28 #[.slice B1 (((N ++ M)).length) cap1, .int .i64 room]) :: (tRow 125 2 (.slice B1 ((N ++ M)).length cap1) ((N ++ M)).length (leafV vs1 ((N ++ M)))) :: (tPool vs1 ((N ++ M))) :: (tEs (.slice (some ⟨b, o, none⟩) P.length cl) P) :: (tEs (.slice Bg (hiP sz (P.take q)).length cg) (hiP sz (P.take q))) :: R) w29 := O
   refine wpList_nil ?_
   replace e0 := hE.g e0; replace e1 := hE.g e1; replace e2 := hE.g e2; replace e11 := hE.g e11; replace e25 := hE.g e25; replace e26 := hE.g e26; replace e27 := hE.g e27
   replace k := k.env hE
   clear hE e28 e30
   refine Z01 ?_
   clear d0 d1
   by_cases hsz : y.1 < sz
   · obtain ⟨k1, k2⟩ := Z7w hy hsz
     refine wp_seq ?_
     refine wp_seq ?_
     refine wp_region_lit ?_
     have hE := Env.refl a27 [31, 32, 33, 34]
     apply Z02 31 hE k rfl rfl rfl rfl
     case h =>
      simp [go_sem, ↓IntWalk.iteOmega, ev (hE.g e13)]
      with_reducible rfl
     intro a30 hE e31 kp
     apply Z02 32 hE k rfl rfl rfl rfl
     case h =>
      have q0 : w29.cell? ⟨eb, 0, none⟩ = some (.int .i64 ↑y.1) := (OwnT.blk O 0 rfl).cell 0
      simp [go_sem, ↓IntWalk.iteOmega, ev e31, q0]
      with_reducible rfl
     intro a31 hE e32 kp
     refine sm 33 hE k e2 ?_
     intro a32 hE e33 kp
     replace e32 := kt kp e32
     refine sd 34 hE k (Z06 (Z0x rfl e32 e33) (decide_eq_true (by omega))) ?_
     intro a33 hE e34 kp
     refine wpList_nil ?_
     replace e0 := hE.g e0; replace e1 := hE.g e1; replace e2 := hE.g e2; replace e11 := hE.g e11; replace e13 := hE.g e13; replace e25 := hE.g e25; replace e26 := hE.g e26; replace e27 := hE.g e27
     replace k := k.env hE
     clear hE
     refine Z01 ?_
     refine Z0b e34 rfl ?_
     refine wp_exit ?_
     refine Z0o ?_
     refine Z15 ?_
     refine Z01 ?_
     refine wp_region_lit ?_
     have hE := Env.refl a33 [50, 27]
     refine sd 50 hE k (Z12 rfl e27 rfl (by omega)) ?_
     intro a34 hE e50 kp
     replace e27 := kt kp e27
     refine sd 27 hE k (Z03 rfl e50) ?_
     intro a35 hE e27 kp
     refine wpList_nil ?_
     replace e0 := hE.g e0; replace e1 := hE.g e1; replace e2 := hE.g e2; replace e11 := hE.g e11; replace e25 := hE.g e25; replace e26 := hE.g e26
     replace k := k.env hE
     clear hE e13 e34
     refine Z01 ?_
     rw [k1] at hT1
     rw [← k2] at O e11
     refine ⟨⟨k, e0, e2, e25, e26, q + 1, rt, Bg, cg, N ++ M, B1, cap1, vs1, e1, e11, e27, by omega, ⟨M, rfl, by rw [k2]; exact hM⟩, hT1, OwnT.pickR (L := [_, _, _, _, _, _]) (R := R) O [1, 2, 3, 4, 5] (by decide)⟩, ?_⟩
     rw [e27, mq]; simp only [intOf]; omega
   · obtain ⟨k1, k2, k3⟩ := Z7x (sz := sz) hup hy (by omega)
     refine wp_seq ?_
     refine wp_seq ?_
     refine wp_region_lit ?_
     have hE := Env.refl a27 [31, 32, 33, 34]
     apply Z02 31 hE k rfl rfl rfl rfl
     case h =>
      simp [go_sem, ↓IntWalk.iteOmega, ev (hE.g e13)]
      with_reducible rfl
     intro a36 hE e31 kp
     apply Z02 32 hE k rfl rfl rfl rfl
     case h =>
      have q0 : w29.cell? ⟨eb, 0, none⟩ = some (.int .i64 ↑y.1) := (OwnT.blk O 0 rfl).cell 0
      simp [go_sem, ↓IntWalk.iteOmega, ev e31, q0]
      with_reducible rfl
     intro a37 hE e32 kp
     refine sm 33 hE k e2 ?_
     intro a38 hE e33 kp
     replace e32 := kt kp e32
     refine sd 34 hE k (Z06 (Z0x rfl e32 e33) (decide_eq_false (by omega))) ?_
     intro a39 hE e34 kp
     refine wpList_nil ?_
     replace e0 := hE.g e0; replace e1 := hE.g e1; replace e2 := hE.g e2; replace e11 := hE.g e11; replace e13 := hE.g e13; replace e25 := hE.g e25; replace e26 := hE.g e26; replace e27 := hE.g e27
     replace k := k.env hE
     clear hE
     refine Z01 ?_
     refine Z05 e34 rfl ?_
     refine wp_skip ?_
     refine Z01 ?_
     replace O : OwnT _ _ ((tEs (.slice Bg (hiP sz (P.take q)).length cg) (hiP sz (P.take q))) :: (tBlk eb 67 #[.int .i64 ↑y.1, .int .i64 ↑y.2]) :: (tBlk sb 28 #[.slice B1 (((N ++ M)).length) cap1, .int .i64 room]) :: (tRow 125 2 (.slice B1 ((N ++ M)).length cap1) ((N ++ M)).length (leafV vs1 ((N ++ M)))) :: (tPool vs1 ((N ++ M))) :: (tEs (.slice (some ⟨b, o, none⟩) P.length cl) P) :: R) w29 := OwnT.pickR (L := [_, _, _, _, _, _]) (R := R) O [5, 0, 1, 2, 3, 4] (by decide)
     replace O : OwnT _ _ ((tRow 67 2 (.slice Bg (hiP sz (P.take q)).length cg) (hiP sz (P.take q)).length (flatE (hiP sz (P.take q)))) :: (tBlk eb 67 #[.int .i64 ↑y.1, .int .i64 ↑y.2]) :: (tBlk sb 28 #[.slice B1 (((N ++ M)).length) cap1, .int .i64 room]) :: (tRow 125 2 (.slice B1 ((N ++ M)).length cap1) ((N ++ M)).length (leafV vs1 ((N ++ M)))) :: (tPool vs1 ((N ++ M))) :: (tEs (.slice (some ⟨b, o, none⟩) P.length cl) P) :: R) w29 := O
     refine wp_seq ?_
     refine wp_region_lit ?_
     have hE := Env.refl a39 [35, 36, 37, 38, 11]
     refine sd 35 hE k (Z03 rfl e11) ?_
     intro a40 hE e35 kp
     replace e11 := kt kp e11
     apply Z02 36 hE k rfl rfl rfl rfl
     case h =>
      have q0 : w29.cell? ⟨eb, 0, none⟩ = some (.int .i64 ↑y.1) := (OwnT.blk O 1 rfl).cell 0
      have q1 : w29.cell? ⟨eb, 1, none⟩ = some (.int .i64 ↑y.2) := (OwnT.blk O 1 rfl).cell 1
      simp [go_sem, ↓IntWalk.iteOmega, ev (hE.g e13), q0, q1]
      with_reducible rfl
     intro a41 hE e36 kp
     replace e11 := kt kp e11; replace e35 := kt kp e35
     refine Z1s (m := 1) (c := 1) O (cs := #[.int .i64 ↑y.1, .int .i64 ↑y.2]) (t := 67) 37 hE k rfl (by rfl) (by rfl) rfl (by simp [go_sem, ↓IntWalk.iteOmega, ev e36]) ?_
     clear O
     intro gn a42 w43 O hE e37 kp
     replace e11 := kt kp e11; replace e35 := kt kp e35
     obtain ⟨gr, cr, w44, hrun, O⟩ := Z2p O elemEn (by decide) rfl (by intro u hu; simp at hu; rcases hu with rfl | rfl <;> rfl) (by unfold maxLen; omega) (by omega)
     apply Z1n 38 hE k rfl (by rfl) (by rfl) rfl
     case h => exact Z1r rfl e35 e37 (hrun _)
     clear hrun
     intro a45 hE e38 kp
     replace e11 := kt kp e11
     refine sd 11 hE k (Z00 rfl e38) ?_
     intro a46 hE e11 kp
     refine wpList_nil ?_
     replace e0 := hE.g e0; replace e1 := hE.g e1; replace e2 := hE.g e2; replace e13 := hE.g e13; replace e25 := hE.g e25; replace e26 := hE.g e26; replace e27 := hE.g e27
     replace k := k.env hE
     clear hE e34
     refine Z01 ?_
     rw [show flatE (hiP sz (P.take q)) ++ [Value.int .i64 (y.1 : Int), Value.int .i64 (y.2 : Int)] = flatE (hiP sz (P.take (q + 1))) by rw [k2, flatE, flatE, List.flatMap_append]; rfl, show (hiP sz (P.take q)).length + 1 = (hiP sz (P.take (q + 1))).length by rw [k2, List.length_append]; rfl] at O
     rw [show (hiP sz (P.take q)).length + 1 = (hiP sz (P.take (q + 1))).length by rw [k2, List.length_append]; rfl] at e11
     replace O : OwnT _ _ ((tBlk sb 28 #[.slice B1 (((N ++ M)).length) cap1, .int .i64 room]) :: (tRow 125 2 (.slice B1 ((N ++ M)).length cap1) ((N ++ M)).length (leafV vs1 ((N ++ M)))) :: (tPool vs1 ((N ++ M))) :: (tEs (.slice (some ⟨b, o, none⟩) P.length cl) P) :: (tEs (.slice (some ⟨gr, 0, none⟩) (hiP sz (P.take (q + 1))).length cr) (hiP sz (P.take (q + 1)))) :: (tBlk eb 67 #[.int .i64 ↑y.1, .int .i64 ↑y.2]) :: R) w44 := OwnT.pickR (L := [_, _, _, _, _, _]) (R := R) O [2, 3, 4, 5, 0, 1] (by decide)
     refine wp_seq ?_
     refine wp_region_lit ?_
     have hE := Env.refl a46 [40, 41, 42, 43, 44, 39, 45, 46, 1, 10]
     refine sm 40 hE k e0 ?_
     intro a47 hE e40 kp
     replace e1 := kt kp e1
     refine sd 41 hE k (Z03 rfl e1) ?_
     intro a48 hE e41 kp
     replace e1 := kt kp e1; replace e40 := kt kp e40
     apply Z02 42 hE k rfl rfl rfl rfl
     case h =>
      simp [go_sem, ↓IntWalk.iteOmega, ev (hE.g e13)]
      with_reducible rfl
     intro a49 hE e42 kp
     replace e1 := kt kp e1; replace e40 := kt kp e40; replace e41 := kt kp e41
     apply Z02 43 hE k rfl rfl rfl rfl
     case h =>
      have q0 : w44.cell? ⟨eb, 0, none⟩ = some (.int .i64 ↑y.1) := (OwnT.blk O 5 rfl).cell 0
      simp [go_sem, ↓IntWalk.iteOmega, ev e42, q0]
      with_reducible rfl
     intro a50 hE e43 kp
     replace e1 := kt kp e1; replace e40 := kt kp e40; replace e41 := kt kp e41
     apply Z08 44 hE k rfl (by rfl) (by rfl) rfl
     case h =>
      simp [go_sem, ↓IntWalk.iteOmega, ev e40, ev e41, ev e43]
      with_reducible exact ⟨rfl, rfl⟩
     case hc => exact mClear (R := _ :: _ :: _ :: R) (ky := y.1) _ O hT1 hNM hy64.1
     clear O
     rintro e w52 ⟨N2, r2, ok, er, B2, cap2, vs2, rfl, O, hDL⟩
     refine ⟨_, rfl, ?_⟩
     intro a51 hE e44 kp
     replace e1 := kt kp e1
     refine sd 39 hE k (Z03 rfl e44) ?_
     intro a53 hE e39 kp
     replace e1 := kt kp e1
     apply Z02 45 hE k rfl rfl rfl rfl
     case h =>
      simp [go_sem, ↓IntWalk.iteOmega, ev e39]
      with_reducible rfl
     intro a54 hE e45 kp
     replace e1 := kt kp e1; replace e39 := kt kp e39
     apply Z02 46 hE k rfl rfl rfl rfl
     case h =>
      simp [go_sem, ↓IntWalk.iteOmega, ev e39]
      with_reducible rfl
     intro a55 hE e46 kp
     replace e1 := kt kp e1; replace e45 := kt kp e45
     refine sd 1 hE k (Z00 rfl e45) ?_
     intro a56 hE e1 kp
     replace e46 := kt kp e46
     refine sd 10 hE k (Z00 rfl e46) ?_
     intro a57 hE e10 kp
     replace e1 := kt kp e1
     refine wpList_nil ?_
     replace e0 := hE.g e0; replace e2 := hE.g e2; replace e11 := hE.g e11; replace e25 := hE.g e25; replace e26 := hE.g e26; replace e27 := hE.g e27
     replace k := k.env hE
     clear hE e13
     refine Z01 ?_
     obtain ⟨⟨M2, rfl, hM2⟩, hDL⟩ := hDL
     have hl1 : (hiP sz (P.take (q + 1))).length = (hiP sz (P.take q)).length + 1 := by rw [k2, List.length_append]; rfl
     rw [List.length_append] at hDL
     rcases hDL with ⟨-, -, -, -, h5⟩ | ⟨rfl, -, rfl, -, hfull⟩ | ⟨rfl, -, -, r, rfl, h4⟩

     · rw [h5] at k3; cases k3
     · skip
       refine wp_seq ?_
       refine wp_region_lit ?_
       have hE := Env.refl a57 [47, 48]
       refine sm 47 hE k e10 ?_
       intro a58 hE e47 kp
       refine sd 48 hE k (Z06 (Z0v rfl e47 rfl) (decide_eq_true (by omega))) ?_
       intro a59 hE e48 kp
       refine wpList_nil ?_
       replace e0 := hE.g e0; replace e1 := hE.g e1; replace e2 := hE.g e2; replace e10 := hE.g e10; replace e11 := hE.g e11; replace e25 := hE.g e25; replace e26 := hE.g e26; replace e27 := hE.g e27
       replace k := k.env hE
       clear hE
       refine Z01 ?_
       refine Z0b e48 rfl ?_
       refine wp_seq ?_
       refine wp_region_lit ?_
       have hE := Env.refl a59 [49, 6, 7, 8]
       refine sm 49 hE k e10 ?_
       intro a60 hE e49 kp
       refine sd 6 hE k (Z00 rfl rfl) ?_
       intro a61 hE e6 kp
       replace e49 := kt kp e49
       refine sd 7 hE k (Z00 rfl rfl) ?_
       intro a62 hE e7 kp
       replace e49 := kt kp e49; replace e6 := kt kp e6
       refine sd 8 hE k (Z00 rfl e49) ?_
       intro a63 hE e8 kp
       replace e6 := kt kp e6; replace e7 := kt kp e7
       refine wpList_nil ?_
       replace k := k.env hE
       clear hE e0 e1 e2 e10 e11 e25 e26 e27 e48
       refine Z01 ?_
       refine wp_ret ?_
       refine Z0q ?_
       refine Z0c ?_
       refine Z0c ?_
       refine Z0q ?_
       refine Z0c ?_
       refine Z1o rfl k e6 e7 e8 ?_
       exact ⟨N ++ M ++ M2, B2, cap2, vs2, ⟨M ++ M2, by rw [List.append_assoc], by rw [List.length_append]; exact Nat.le_trans (by omega) (Nat.mul_le_mul_left 2 (show (hiP sz (P.take (q + 1))).length ≤ (hiP sz P).length from List.Sublist.length_le (List.Sublist.filter _ (List.take_sublist _ _))))⟩, .inl ⟨rfl, (fun h => hfull ⟨by omega, by omega⟩), OwnT.pickR (L := [_, _, _, _, _, _]) (R := R) O [0, 1, 2] (by decide)⟩⟩
     · rw [k1] at h4
       refine wp_seq ?_
       refine wp_region_lit ?_
       have hE := Env.refl a57 [47, 48]
       refine sm 47 hE k e10 ?_
       intro a64 hE e47 kp
       refine sd 48 hE k (Z06 (Z0v rfl e47 rfl) (decide_eq_false (by omega))) ?_
       intro a65 hE e48 kp
       refine wpList_nil ?_
       replace e0 := hE.g e0; replace e1 := hE.g e1; replace e2 := hE.g e2; replace e10 := hE.g e10; replace e11 := hE.g e11; replace e25 := hE.g e25; replace e26 := hE.g e26; replace e27 := hE.g e27
       replace k := k.env hE
       clear hE
       refine Z01 ?_
       refine Z05 e48 rfl ?_
       refine wp_skip ?_
       refine Z0i ?_
       refine Z01 ?_
       refine wp_region_lit ?_
       have hE := Env.refl a65 [50, 27]
       refine sd 50 hE k (Z12 rfl e27 rfl (by omega)) ?_
       intro a66 hE e50 kp
       replace e27 := kt kp e27
       refine sd 27 hE k (Z03 rfl e50) ?_
       intro a67 hE e27 kp
       refine wpList_nil ?_
       replace e0 := hE.g e0; replace e1 := hE.g e1; replace e2 := hE.g e2; replace e11 := hE.g e11; replace e25 := hE.g e25; replace e26 := hE.g e26
       replace k := k.env hE
       clear hE e10 e48
       refine Z01 ?_
       refine ⟨⟨k, e0, e2, e25, e26, q + 1, r, some ⟨gr, 0, none⟩, cr, N ++ M ++ M2, B2, cap2, vs2, e1, e11, e27, by omega, ⟨M ++ M2, by rw [List.append_assoc], by rw [List.length_append]; omega⟩, h4, OwnT.pickR (L := [_, _, _, _, _, _]) (R := R) O [0, 1, 2, 3, 4] (by decide)⟩, ?_⟩
       rw [e27, mq]; simp only [intOf]; omega
 · obtain rfl : q = P.length := by omega
   rw [List.take_length, List.drop_length, List.append_nil] at hT1
   rw [List.take_length] at e11 O hM
   refine wp_seq ?_
   refine wp_region_lit ?_
   have hE := Env.refl a22 [28]
   refine sd 28 hE k (Z06 (Z0x rfl (hE.g e27) (hE.g e26)) (decide_eq_false (by omega))) ?_
   intro a68 hE e28 kp
   refine wpList_nil ?_
   replace e0 := hE.g e0; replace e1 := hE.g e1; replace e2 := hE.g e2; replace e11 := hE.g e11; replace e25 := hE.g e25; replace e26 := hE.g e26; replace e27 := hE.g e27
   replace k := k.env hE
   clear hE
   refine Z01 (wp_seq ?_)
   refine Z05 e28 rfl ?_
   refine wp_exit ?_
   refine Z0o ?_
   refine Z0o ?_
   refine Z15 ?_
   refine Z01 (wp_seq ?_)
   refine wp_region_lit ?_
   have hE := Env.refl a68 [51, 52, 6, 7, 8]
   refine sm 51 hE k e1 ?_
   intro a69 hE e51 kp
   refine sm 52 hE k e11 ?_
   intro a70 hE e52 kp
   replace e51 := kt kp e51
   refine sd 6 hE k (Z00 rfl e51) ?_
   intro a71 hE e6 kp
   replace e52 := kt kp e52
   refine sd 7 hE k (Z00 rfl e52) ?_
   intro a72 hE e7 kp
   replace e6 := kt kp e6
   refine sd 8 hE k (Z00 rfl rfl) ?_
   intro a73 hE e8 kp
   replace e6 := kt kp e6; replace e7 := kt kp e7
   refine wpList_nil ?_
   replace k := k.env hE
   clear hE e0 e1 e2 e11 e25 e26 e27 e28
   refine Z01 ?_
   refine wp_ret ?_
   refine Z1o rfl k e6 e7 e8 ?_
   exact ⟨N ++ M, B1, cap1, vs1, ⟨M, rfl, hM⟩, .inr ⟨rt, Bg, cg, rfl, OwnT.pickR (L := [_, _, _, _, _]) (R := R) O [0, 1, 2, 4] (by decide), hT1⟩⟩
end Go.Proofs.Ytngehbhhpkkijaa
