/- tapes: read, wipe (printed by XTpD.gen.py). -/
import Derived.Test.YtakkhglbdljfiaaKTapeExact17
import Derived.Test.YtakkhglbdljfiaaKTapeExact14
import Derived.Test.YtakkhglbdljfiaaKTapeExact15
import Derived.Test.YtakkhglbdljfiaaKTapeExact18
namespace Go.Proofs.Ytakkhglbdljfiaa
attribute [local simp] BigFrame.eval_const BigFrame.eval_global BigFrame.eval_func
set_option linter.unusedVariables false
set_option linter.unusedSimpArgs false
open Go.RowKit Go.Maps

def cellNat (w : World) (b o : Nat) : Nat := match w.cell? ⟨b, o, none⟩ with
 | some (.int _ z) => z.toNat
 | _ => 0
theorem Z3x {w : World} {b o : Nat} {k : IntKind} {z : Int} (h : w.cell? ⟨b, o, none⟩ = some (.int k z)) : cellNat w b o = z.toNat := by
 unfold cellNat
 rw [h]

set_option maxRecDepth 100000 in
set_option maxHeartbeats 4000000 in
theorem Z6n {H : Nat} {A0 : World} {R : List Thing} {tb p : Nat} (im : List UInt8) (w : World) (O : OwnT H A0 (tBlk tb 55 #[.pointer (some ⟨p, 0, none⟩), .slice none 0 0, .int .i64 0, .bool false] :: R) w) (hl : im.length ≤ 300000) : Calls Try.prog 23 #[.pointer (some ⟨tb, 0, none⟩), .string (sB im)] w fun e w' => e = .returned (.tuple #[]) ∧ ∃ T u Bt ct, OnT im T u ∧ rdT im im.length [] 0 = (T, u) ∧ OwnT H A0 ((tBlk tb 55 #[.pointer (some ⟨p, 0, none⟩), .slice Bt T.length ct, .int .i64 ↑u, .bool false]) :: (tRow 9 1 (.slice Bt T.length ct) T.length (strsV T)) :: R) w' := by
 replace O := OwnT.nilRow O 9 1
 replace O := O.perm (.swap _ _ _)
 refine Z0a Try.func23 rfl 44 rfl (by rfl) ?_
 intro a1 k hargs
 have e0 : a1.eval (.tmp 0) = .pointer (some ⟨tb, 0, none⟩) := hargs 0 _ rfl
 have e1 : a1.eval (.tmp 1) = .string (sB im) := hargs 1 _ rfl
 clear hargs
 refine wp_block ?_
 refine wp_loop (fun a w => Fr 44 a ∧ a.eval (.tmp 0) = .pointer (some ⟨tb, 0, none⟩) ∧ a.eval (.tmp 1) = .string (sB im) ∧ ∃ (T : List (List UInt8)) (u : Nat) (Bt : Option Addr) (ct : Nat), OnT im T u ∧ OwnT H A0 ((tBlk tb 55 #[.pointer (some ⟨p, 0, none⟩), .slice Bt T.length ct, .int .i64 ↑u, .bool false]) :: (tRow 9 1 (.slice Bt T.length ct) T.length (strsV T)) :: R) w) (fun a w => im.length + 1 - cellNat w tb 2) ?_ ?_
 · exact ⟨k, e0, e1, [], 0, none, 0, OnT.start im, O⟩
 intro a2 w3 hI
 clear k e0 e1
 obtain ⟨k, e0, e1, h_⟩ := hI
 clear O
 obtain ⟨T, u, Bt, ct, hT, O⟩ := h_
 have m1 := Z3x ((OwnT.blk O 0 rfl).cell 2)
 have h16 := hT.le
 have hTl := hT.len
 obtain ⟨F, hFs⟩ : ∃ F, fstT (T.length + 1) (im.drop (16 * u)) = F := ⟨_, rfl⟩

 refine wp_block ?_
 refine wp_seq ?_
 refine Z10 (R := Ext) (w0 := w3) [[], [0], [0, 1], [0, 1, 2], [0, 1, 2, 3], [0, 1, 2, 3, 4], [], [], [7], [7, 8], [7, 8, 9], [7, 8, 9, 10], [6, 7, 8, 9, 10, 11], [0, 1, 2, 3, 4, 5, 6, 7, 8, 9, 10, 11, 12], [0, 1, 2, 3, 4, 5, 6, 7, 8, 9, 10, 11, 12, 13], [0, 1, 2, 3, 4, 5, 6, 7, 8, 9, 10, 11, 12, 13, 14], [0, 1, 2, 3, 4, 5, 6, 7, 8, 9, 10, 11, 12, 13, 14], [0, 1, 2, 3, 4, 5, 6, 7, 8, 9, 10, 11, 12, 13, 14, 15], [0, 1, 2, 3, 4, 5, 6, 7, 8, 9, 10, 11, 12, 13, 14, 15, 16, 17]] [7, 8, 9, 10, 11, 12, 13, 14, 15, 16, 17, 18, 19, 20, 6, 21, 22, 4, 5] Ext.refl (fun _ _ _ => Ext.trans) (Ext.drew _) (by kernel_rfl) ?_
 apply bd 7 k rfl rfl rfl
 case h =>
  intro ax wx hE hR hF
  exact Z03 rfl (hE.g e0)
 apply bd 8 k rfl rfl rfl
 case h =>
  intro ax wx hE hR hF
  have e7 := zhF hF 0 7 ml0
  exact Z0p rfl e7
 apply bd 9 k rfl rfl rfl
 case h =>
  intro ax wx hE hR hF
  have e8 := zhF hF 1 8 ml0
  simp [go_sem, ↓IntWalk.iteOmega, ev e8]
  with_reducible rfl
 apply bd 10 k rfl rfl rfl
 case h =>
  intro ax wx hE hR hF
  have e9 := zhF hF 2 9 ml0
  have q0 : wx.cell? ⟨tb, 1, none⟩ = some (.slice Bt T.length ct) := (OwnT.blk (OwnT.ext O hR) 0 rfl).cell 1
  simp [go_sem, ↓IntWalk.iteOmega, ev e9, q0]
  with_reducible rfl
 apply bd 11 k rfl rfl rfl
 case h =>
  intro ax wx hE hR hF
  have e10 := zhF hF 3 10 ml0
  exact Z1c Try.underlying22 rfl e10
 apply bd 12 k rfl rfl rfl
 case h =>
  intro ax wx hE hR hF
  have e11 := zhF hF 4 11 ml0
  exact Z2g (v := .int .i64 ↑(T.length + 1)) (Z0r rfl e11 rfl (by omega)) (Z0e (by omega))
 apply bd 13 k rfl rfl rfl
 case h =>
  intro ax wx hE hR hF
  exact Z03 rfl (hE.g e1)
 apply bd 14 k rfl rfl rfl
 case h =>
  intro ax wx hE hR hF
  exact Z03 rfl (hE.g e0)
 apply bd 15 k rfl rfl rfl
 case h =>
  intro ax wx hE hR hF
  have e14 := zhF hF 7 14 ml0
  exact Z0p rfl e14
 apply bd 16 k rfl rfl rfl
 case h =>
  intro ax wx hE hR hF
  have e15 := zhF hF 8 15 ml0
  simp [go_sem, ↓IntWalk.iteOmega, ev e15]
  with_reducible rfl
 apply bd 17 k rfl rfl rfl
 case h =>
  intro ax wx hE hR hF
  have e16 := zhF hF 9 16 ml0
  have q0 : wx.cell? ⟨tb, 2, none⟩ = some (.int .i64 ↑u) := (OwnT.blk (OwnT.ext O hR) 0 rfl).cell 2
  simp [go_sem, ↓IntWalk.iteOmega, ev e16, q0]
  with_reducible rfl
 apply bd 18 k rfl rfl rfl
 case h =>
  intro ax wx hE hR hF
  have e17 := zhF hF 10 17 ml0
  exact Z2g (v := .int .i64 ↑(16 * u)) (Z2n rfl e17 rfl (by omega)) (Z0e (by omega))
 apply bd 19 k rfl rfl rfl
 case h =>
  intro ax wx hE hR hF
  have e13 := zhF hF 6 13 ml5
  have e18 := zhF hF 11 18 ml0
  exact Z3z (l := im) Try.underlying9 rfl e13 e18 (16 * u) rfl (by omega)
 apply Build.call 20 Ext.refl (by rfl) (by rw [k.size]; rfl) rfl
 case h =>
  intro ax wx hE hR hF
  have e12 := zhF hF 5 12 ml7
  have e19 := zhF hF 12 19 ml0
  simp [go_sem, ↓IntWalk.iteOmega, ev e12, ev e19]
  with_reducible exact ⟨rfl, rfl⟩
 case hc => intro wx hR; exact (show Calls _ _ _ _ (fun e w' => e = .returned (.tuple #[.string (sB (F.getD [])), .bool F.isSome]) ∧ Ext wx w') from (Z63 (T.length + 1) (im.drop (16 * u)) wx (by omega) (by rw [List.length_drop]; omega)).mono (fun e w' h => ⟨h.1.trans (by rw [hFs]), h.2⟩))
 apply bd 6 k rfl rfl rfl
 case h =>
  intro ax wx hE hR hF
  have e20 := zhF hF 13 20 ml0
  exact Z03 rfl e20
 apply bd 21 k rfl rfl rfl
 case h =>
  intro ax wx hE hR hF
  have e6 := zhF hF 14 6 ml0
  simp [go_sem, ↓IntWalk.iteOmega, ev e6]
  with_reducible rfl
 apply bd 22 k rfl rfl rfl
 case h =>
  intro ax wx hE hR hF
  have e6 := zhF hF 14 6 ml1
  simp [go_sem, ↓IntWalk.iteOmega, ev e6]
  with_reducible rfl
 apply bd 4 k rfl rfl rfl
 case h =>
  intro ax wx hE hR hF
  have e21 := zhF hF 15 21 ml1
  exact Z01 rfl e21
 apply bd 5 k rfl rfl rfl
 case h =>
  intro ax wx hE hR hF
  have e22 := zhF hF 16 22 ml1
  exact Z01 rfl e22
 apply Build.stop
 refine ⟨by kernel_rfl, .inl ⟨rfl, ?_⟩⟩
 intro a4 w5 hE R hF
 have e4 : a4.eval (.tmp 4) = _ := hF 17 (det 4 _) ml1
 have e5 : a4.eval (.tmp 5) = _ := hF 18 (det 5 _) ml0
 clear hF
 replace O := OwnT.ext O R
 clear R
 replace e0 := hE.g e0; replace e1 := hE.g e1
 replace k := k.env hE
 clear hE
 refine Z00 (wp_seq ?_)
 refine wp_seq ?_
 refine wp_region_lit ?_
 have hE := Env.refl a4 [23, 24]
 refine zm 23 hE k e5 ?_
 intro a6 hE e23 kp
 refine sd 24 hE k (Z4f rfl e23) ?_
 intro a7 hE e24 kp
 refine wpList_nil ?_
 replace e0 := hE.g e0; replace e1 := hE.g e1; replace e4 := hE.g e4
 replace k := k.env hE
 clear hE e5
 refine Z00 ?_
 cases F with
 | none =>
  refine Z0h e24 (rfl) ?_
  clear e0 e1 e4 e24
  refine wp_ret ?_
  refine Z0n ?_
  refine Z1a ?_
  refine Z0n ?_
  refine Z1a ?_
  refine ret_F0 rfl k ?_
  exact ⟨rfl, T, u, Bt, ct, hT, hT.stop hFs, O⟩
 | some s =>
  replace e4 : a7.eval (.tmp 4) = .string (sB s) := e4
  obtain ⟨s1, s2, -, -⟩ := Z5u hFs
  rw [List.length_drop] at s2
  refine Z08 e24 (rfl) ?_
  clear e24
  replace O : OwnT _ _ ((tRow 9 1 (.slice Bt T.length ct) T.length (strsV T)) :: (tBlk tb 55 #[.pointer (some ⟨p, 0, none⟩), .slice Bt T.length ct, .int .i64 ↑u, .bool false]) :: R) w5 := OwnT.pickR (L := [_, _]) (R := R) O [1, 0] (by decide)
  refine wp_skip ?_
  refine Z00 (wp_seq ?_)
  refine wp_region_lit ?_
  have hE := Env.refl a7 [25, 26, 27, 28, 29, 30, 31, 32, 33, 34]
  refine zm 25 hE k e0 ?_
  intro a8 hE e25 kp
  refine zm 26 hE k e0 ?_
  intro a9 hE e26 kp
  replace e25 := kt kp e25
  refine sd 27 hE k (Z0p rfl e26) ?_
  intro a10 hE e27 kp
  replace e25 := kt kp e25
  apply Z05 28 hE k rfl rfl rfl rfl
  case h =>
   simp [go_sem, ↓IntWalk.iteOmega, ev e27]
   with_reducible rfl
  intro a11 hE e28 kp
  replace e25 := kt kp e25
  apply Z05 29 hE k rfl rfl rfl rfl
  case h =>
   have q0 : w5.cell? ⟨tb, 1, none⟩ = some (.slice Bt T.length ct) := (OwnT.blk O 1 rfl).cell 1
   simp [go_sem, ↓IntWalk.iteOmega, ev e28, q0]
   with_reducible rfl
  intro a12 hE e29 kp
  replace e25 := kt kp e25
  refine zm 30 hE k e4 ?_
  intro a13 hE e30 kp
  replace e25 := kt kp e25; replace e29 := kt kp e29
  refine Z27 (m := 1) (c := 1) O (cs := #[.string (sB s)]) (t := 9) 31 hE k rfl (by rfl) (by rfl) rfl (by simp [go_sem, ↓IntWalk.iteOmega, ev e30]) ?_
  clear O
  intro gn a14 w15 O hE e31 kp
  replace e25 := kt kp e25; replace e29 := kt kp e29
  obtain ⟨gr, cr, w16, hrun, O⟩ := Z4d O elemS (by decide) rfl (by intro u hu; simp at hu; subst hu; rfl) (by unfold maxLen; omega) (by omega)
  apply Z1f 32 hE k rfl (by rfl) (by rfl) rfl
  case h => exact Z1x rfl e29 e31 (hrun _)
  clear hrun
  intro a17 hE e32 kp
  replace e25 := kt kp e25
  refine sd 33 hE k (Z0p rfl e25) ?_
  intro a18 hE e33 kp
  replace e32 := kt kp e32
  apply Z05 34 hE k rfl rfl rfl rfl
  case h =>
   simp [go_sem, ↓IntWalk.iteOmega, ev e33]
   with_reducible rfl
  intro a19 hE e34 kp
  replace e32 := kt kp e32
  have q0 : w16.cell? ⟨tb, 1, none⟩ = some (.slice Bt T.length ct) := (OwnT.blk O 1 rfl).cell 1
  have q1 : w16.frozen? ⟨tb, 1, none⟩ = false := (OwnT.blk O 1 rfl).frozen 1
  refine Z42 (off := 1) (v := .slice (some ⟨gr, 0, none⟩) ((T.length + 1)) cr) O 1 rfl hE rfl rfl (by simp [go_sem, ↓IntWalk.iteOmega, ev e32, ev e34, q0, q1]) ?_
  clear q0 q1
  clear O
  intro w20 O
  replace O : OwnT _ _ ((tRow 9 1 (.slice (some ⟨gr, 0, none⟩) ((T.length + 1)) cr) (T.length + 1) ((strsV T) ++ [Value.string (sB s)])) :: (tBlk tb 55 #[.pointer (some ⟨p, 0, none⟩), .slice (some ⟨gr, 0, none⟩) ((T.length + 1)) cr, .int .i64 ↑u, .bool false]) :: R) w20 := O
  refine wpList_nil ?_
  replace e0 := hE.g e0; replace e1 := hE.g e1; replace e4 := hE.g e4
  replace k := k.env hE
  clear hE e32 e34
  refine Z00 ?_
  have hn1 : T.length + 1 = (T ++ [s]).length := by simp
  rw [show strsV T ++ [Value.string (sB s)] = strsV (T ++ [s]) by rw [Z1n]; rfl, hn1] at O
  replace O : OwnT _ _ ((tRow 9 1 (.slice (some ⟨gr, 0, none⟩) (T ++ [s]).length cr) (T ++ [s]).length (strsV (T ++ [s]))) :: (tBlk tb 55 #[.pointer (some ⟨p, 0, none⟩), .slice (some ⟨gr, 0, none⟩) ((T ++ [s]).length) cr, .int .i64 ↑u, .bool false]) :: R) w20 := O
  refine Z10 (R := Ext) (w0 := w20) [[], [0], [0, 1], [0, 1, 2], [], [4], [0, 1, 2, 3, 4, 5], [0, 1, 2, 3, 4, 5, 6], [0, 1, 2, 3, 4, 5, 6, 7], [0, 1, 2, 3, 4, 5, 6, 7, 8]] [35, 36, 37, 38, 39, 40, 41, 42, 43] Ext.refl (fun _ _ _ => Ext.trans) (Ext.drew _) (by kernel_rfl) ?_
  apply bd 35 k rfl rfl rfl
  case h =>
   intro ax wx hE hR hF
   exact Z03 rfl (hE.g e0)
  apply bd 36 k rfl rfl rfl
  case h =>
   intro ax wx hE hR hF
   have e35 := zhF hF 0 35 ml0
   exact Z0p rfl e35
  apply bd 37 k rfl rfl rfl
  case h =>
   intro ax wx hE hR hF
   have e36 := zhF hF 1 36 ml0
   simp [go_sem, ↓IntWalk.iteOmega, ev e36]
   with_reducible rfl
  apply bd 38 k rfl rfl rfl
  case h =>
   intro ax wx hE hR hF
   have e37 := zhF hF 2 37 ml0
   have q0 : wx.cell? ⟨tb, 2, none⟩ = some (.int .i64 ↑u) := (OwnT.blk (OwnT.ext O hR) 1 rfl).cell 2
   simp [go_sem, ↓IntWalk.iteOmega, ev e37, q0]
   with_reducible rfl
  apply bd 39 k rfl rfl rfl
  case h =>
   intro ax wx hE hR hF
   exact Z03 rfl (hE.g e4)
  apply Build.call 40 Ext.refl (by rfl) (by rw [k.size]; rfl) rfl
  case h =>
   intro ax wx hE hR hF
   have e39 := zhF hF 4 39 ml0
   simp [go_sem, ↓IntWalk.iteOmega, ev e39]
   with_reducible exact ⟨rfl, rfl⟩
  case hc => intro wx hR; exact Z0w s wx (by omega)
  apply bd 41 k rfl rfl rfl
  case h =>
   intro ax wx hE hR hF
   have e38 := zhF hF 3 38 ml2
   have e40 := zhF hF 5 40 ml0
   exact Z2g (v := .int .i64 ↑(u + szT s)) (Z0r rfl e38 e40 (by omega)) (Z0e (by omega))
  apply bd 42 k rfl rfl rfl
  case h =>
   intro ax wx hE hR hF
   have e35 := zhF hF 0 35 ml6
   exact Z0p rfl e35
  apply bd 43 k rfl rfl rfl
  case h =>
   intro ax wx hE hR hF
   have e42 := zhF hF 7 42 ml0
   simp [go_sem, ↓IntWalk.iteOmega, ev e42]
   with_reducible rfl
  apply Build.stop
  refine ⟨by kernel_rfl, .inr ⟨by kernel_rfl, _, rfl, rfl, ?_⟩⟩
  intro a21 w22 hE R hF
  have e41 : a21.eval (.tmp 41) = _ := hF 6 (det 41 _) ml2
  have e43 : a21.eval (.tmp 43) = _ := hF 8 (det 43 _) ml0
  clear hF
  replace O := OwnT.ext O R
  clear R
  have q0 : w22.cell? ⟨tb, 2, none⟩ = some (.int .i64 ↑u) := (OwnT.blk O 1 rfl).cell 2
  have q1 : w22.frozen? ⟨tb, 2, none⟩ = false := (OwnT.blk O 1 rfl).frozen 2
  refine Z29 (off := 2) (v := .int .i64 (↑(u + szT s))) O 1 rfl rfl (by simp [go_sem, ↓IntWalk.iteOmega, ev e41, ev e43, q0, q1]) ?_
  clear q0 q1
  clear O
  intro w23 O
  replace O : OwnT _ _ ((tRow 9 1 (.slice (some ⟨gr, 0, none⟩) (T ++ [s]).length cr) (T ++ [s]).length (strsV (T ++ [s]))) :: (tBlk tb 55 #[.pointer (some ⟨p, 0, none⟩), .slice (some ⟨gr, 0, none⟩) ((T ++ [s]).length) cr, .int .i64 (↑(u + szT s)), .bool false]) :: R) w23 := O
  replace e0 := hE.g e0; replace e1 := hE.g e1
  replace k := k.env hE
  clear hE e4 e41 e43
  refine Z14 ?_
  refine Z00 ?_
  replace O : OwnT _ _ ((tBlk tb 55 #[.pointer (some ⟨p, 0, none⟩), .slice (some ⟨gr, 0, none⟩) ((T ++ [s]).length) cr, .int .i64 (↑(u + szT s)), .bool false]) :: (tRow 9 1 (.slice (some ⟨gr, 0, none⟩) (T ++ [s]).length cr) (T ++ [s]).length (strsV (T ++ [s]))) :: R) w23 := OwnT.pickR (L := [_, _]) (R := R) O [1, 0] (by decide)
  have hst := hT.step hFs
  have m2 := Z3x ((OwnT.blk O 0 rfl).cell 2)
  have hp := Z2v s
  refine ⟨⟨k, e0, e1, T ++ [s], u + szT s, some ⟨gr, 0, none⟩, cr, hst, O⟩, ?_⟩
  rw [m1, m2]; omega
theorem dwrite_1 {M : Mn} {H : Nat} {A0 : World} {R : List Thing} {p mb n cap bm : Nat} {B : Option Addr} {S : List Sec} {L : Int → Option Sec} {c : Int} (i : Nat) (s : Sec) (w : World) (O : OwnT H A0 (tDisc p mb B n cap bm S L :: tMn mb M :: R) w) (hs : s.length = 16) (hi : i < n) (hM : M.Ok c) (hc : c ≤ 1000000000000) (hF : M.Free) :
 Calls Try.prog 31 #[.pointer (some ⟨p, 0, none⟩), .int .i64 i, .string (sB s)] w fun e w' => e = .returned (.int .i64 0) ∧ OwnT H A0 (tDisc p mb B n cap bm S (putS L i s) :: tMn mb M.use :: R) w' := by
 have e1 : s.length / 16 = 1 := by rw [hs]
 have h := Z3s i s w O (by omega) (by omega) (by rw [e1]; exact decide_eq_true (by omega)) hM hc hF
 rw [e1] at h
 have e2 : wrS s i L 1 = putS L i s := by
  unfold wrS wrS
  have e3 : secOf s 0 = s := by unfold secOf; rw [Nat.mul_zero, List.drop_zero, List.take_of_length_le (by omega)]
  rw [e3]
  congr 1
  all_goals omega
 rw [e2] at h
 exact h
theorem cut_sec {S : List Sec} (hS : ∀ s ∈ S, s.length = 16) {j : Nat} {s : Sec} (h : S[j]? = some s) : (S.flatten.take (16 * j + 16)).drop (16 * j) = s := by
 rw [← Z54 hS h]
 unfold secOf
 rw [List.drop_take]
 congr 1
 omega
set_option maxRecDepth 100000 in
set_option maxHeartbeats 4000000 in
theorem twipe {H : Nat} {A0 : World} {R : List Thing} {tb p mb n cap bm : Nat} {B : Option Addr} {S : List Sec} {M : Mn} {c : Int} {T : List (List UInt8)} {u ct : Nat} {Bt : Option Addr} (w : World) (O : OwnT H A0 ((tDisc p mb B n cap bm S (fun _ => none)) :: (tMn mb M) :: (tBlk tb 55 #[.pointer (some ⟨p, 0, none⟩), .slice Bt T.length ct, .int .i64 ↑u, .bool false]) :: (tRow 9 1 (.slice Bt T.length ct) T.length (strsV T)) :: R) w) (hM : M.Ok c) (hc : c ≤ 1000000000) (hF : M.Free) (ha : u ≤ n) : Calls Try.prog 24 #[.pointer (some ⟨tb, 0, none⟩), .string (sB S.flatten)] w fun e w' => e = .returned (.int .i64 0) ∧ ∃ M', M'.Free ∧ M'.Ok (c + n + 1) ∧ OwnT H A0 ((tDisc p mb B n cap bm (tpS (S.flatten.take (16 * u)) n) (fun _ => none)) :: (tMn mb M') :: (tBlk tb 55 #[.pointer (some ⟨p, 0, none⟩), .slice Bt T.length ct, .int .i64 ↑u, .bool false]) :: (tRow 9 1 (.slice Bt T.length ct) T.length (strsV T)) :: R) w' := by
 have hdk := O.dok
 have hn1 := hdk.le
 have hend := wpL_end (a := u) hdk.sz hdk.len ha
 have hfl : S.flatten.length = 16 * n := by rw [flat16 hdk.sz, hdk.len]
 obtain ⟨FL, hFL⟩ : ∃ z, S.flatten = z := ⟨_, rfl⟩
 rw [hFL] at hfl hend
 rw [hFL]

 refine Z0a Try.func24 rfl 49 rfl (by rfl) ?_
 intro a1 k hargs
 have e0 : a1.eval (.tmp 0) = .pointer (some ⟨tb, 0, none⟩) := hargs 0 _ rfl
 have e1 : a1.eval (.tmp 1) = .string (sB FL) := hargs 1 _ rfl
 clear hargs
 refine wp_seq ?_
 refine wp_region_lit ?_
 have hE := Env.refl a1 [4]
 refine sd 4 hE k (Z01 rfl rfl) ?_
 intro a2 hE e4 kp
 refine wpList_nil ?_
 replace e0 := hE.g e0; replace e1 := hE.g e1
 replace k := k.env hE
 clear hE e4
 refine Z00 (wp_seq ?_)
 refine wp_region_lit ?_
 have hE := Env.refl a2 [9, 5]
 apply Z06 9 hE k rfl (by rfl) (by rfl) rfl
 case h =>
  simp [go_sem, ↓IntWalk.iteOmega]
  with_reducible exact ⟨rfl, rfl⟩
 case hc => exact rep_l 16 _ (by omega)
 rintro e w4 ⟨rfl, RE⟩
 replace O := OwnT.ext O RE
 refine ⟨_, rfl, ?_⟩
 intro a3 hE e9 kp
 refine sd 5 hE k (Z01 rfl e9) ?_
 intro a5 hE e5 kp
 refine wpList_nil ?_
 replace e0 := hE.g e0; replace e1 := hE.g e1
 replace k := k.env hE
 clear hE
 refine Z00 (wp_seq ?_)
 refine wp_region_lit ?_
 have hE := Env.refl a5 [6]
 refine sd 6 hE k (Z01 rfl rfl) ?_
 intro a6 hE e6 kp
 refine wpList_nil ?_
 replace e0 := hE.g e0; replace e1 := hE.g e1; replace e5 := hE.g e5
 replace k := k.env hE
 clear hE
 refine Z00 (wp_seq ?_)
 refine wp_seq ?_
 refine wp_region_lit ?_
 have hE := Env.refl a6 [10, 11, 12, 13, 7]
 refine zm 10 hE k e0 ?_
 intro a7 hE e10 kp
 refine sd 11 hE k (Z0p rfl e10) ?_
 intro a8 hE e11 kp
 apply Z05 12 hE k rfl rfl rfl rfl
 case h =>
  simp [go_sem, ↓IntWalk.iteOmega, ev e11]
  with_reducible rfl
 intro a9 hE e12 kp
 apply Z05 13 hE k rfl rfl rfl rfl
 case h =>
  have q0 : w4.cell? ⟨tb, 2, none⟩ = some (.int .i64 ↑u) := (OwnT.blk O 2 rfl).cell 2
  simp [go_sem, ↓IntWalk.iteOmega, ev e12, q0]
  with_reducible rfl
 intro a10 hE e13 kp
 refine sd 7 hE k (Z01 rfl e13) ?_
 intro a11 hE e7 kp
 refine wpList_nil ?_
 replace e0 := hE.g e0; replace e1 := hE.g e1; replace e5 := hE.g e5; replace e6 := hE.g e6
 replace k := k.env hE
 clear hE
 refine Z00 ?_
 refine wp_block ?_
 rw [← Z4g S u] at O
 refine wp_loop (fun a w => Fr 49 a ∧ a.eval (.tmp 0) = .pointer (some ⟨tb, 0, none⟩) ∧ a.eval (.tmp 1) = .string (sB FL) ∧ a.eval (.tmp 5) = .string (sB (List.replicate 16 0)) ∧ ∃ (wp : Bool) (i : Nat) (M : Mn), a.eval (.tmp 6) = .bool wp ∧ a.eval (.tmp 7) = .int .i64 ↑i ∧ u ≤ i ∧ i ≤ n ∧ M.Free ∧ M.Ok (c + i) ∧ (wp = false → wpL S u i = fun _ => none) ∧ OwnT H A0 ((tDisc p mb B n cap bm S (wpL S u i)) :: (tMn mb M) :: (tBlk tb 55 #[.pointer (some ⟨p, 0, none⟩), .slice Bt T.length ct, .int .i64 ↑u, .bool false]) :: (tRow 9 1 (.slice Bt T.length ct) T.length (strsV T)) :: R) w) (fun a w => n - (intOf (a.eval (.tmp 7))).toNat) ?_ ?_
 · exact ⟨k, e0, e1, e5, false, u, M, e6, e7, Nat.le_refl _, ha, hF, hM.mono (by omega), (fun _ => Z4g S u), O⟩
 intro a12 w13 hI
 clear k e0 e1 e5
 obtain ⟨k, e0, e1, e5, h_⟩ := hI
 clear O e6 e7 hM hF
 obtain ⟨wp, i, M, e6, e7, hai, hin, hF, hM, hwp, O⟩ := h_
 have mi := e7

 refine wp_seq ?_
 refine wp_seq ?_
 refine wp_region_lit ?_
 have hE := Env.refl a12 [14, 15, 16, 17, 18, 19, 20]
 refine zm 14 hE k e7 ?_
 intro a14 hE e14 kp
 refine zm 15 hE k e0 ?_
 intro a15 hE e15 kp
 replace e14 := kt kp e14
 refine sd 16 hE k (Z0p rfl e15) ?_
 intro a16 hE e16 kp
 replace e14 := kt kp e14
 apply Z05 17 hE k rfl rfl rfl rfl
 case h =>
  simp [go_sem, ↓IntWalk.iteOmega, ev e16]
  with_reducible rfl
 intro a17 hE e17 kp
 replace e14 := kt kp e14
 apply Z05 18 hE k rfl rfl rfl rfl
 case h =>
  have q0 : w13.cell? ⟨tb, 0, none⟩ = some (.pointer (some ⟨p, 0, none⟩)) := (OwnT.blk O 2 rfl).cell 0
  simp [go_sem, ↓IntWalk.iteOmega, ev e17, q0]
  with_reducible rfl
 intro a18 hE e18 kp
 replace e14 := kt kp e14
 apply Z06 19 hE k rfl (by rfl) (by rfl) rfl
 case h =>
  simp [go_sem, ↓IntWalk.iteOmega, ev e18]
  with_reducible exact ⟨rfl, rfl⟩
 case hc => exact Z4a _ (OwnT.disc O)
 rintro e _ ⟨rfl, rfl⟩
 refine ⟨_, rfl, ?_⟩
 intro a19 hE e19 kp
 replace e14 := kt kp e14
 refine sd 20 hE k (Z5z rfl e14 e19) ?_
 intro a20 hE e20 kp
 refine wpList_nil ?_
 replace e0 := hE.g e0; replace e1 := hE.g e1; replace e5 := hE.g e5; replace e6 := hE.g e6; replace e7 := hE.g e7
 replace k := k.env hE
 clear hE
 refine Z00 ?_
 by_cases hlt : i < n
 · have hltI : (i : Int) < (n : Int) := by omega
   refine Z0h e20 (congrArg Value.bool (decide_eq_true (by omega))) ?_
   clear e20
   obtain ⟨s, hs⟩ : ∃ s, S[i]? = some s := ⟨_, List.getElem?_eq_getElem (by rw [hdk.len]; exact hlt)⟩
   have hcut := cut_sec hdk.sz hs
   rw [hFL] at hcut
   by_cases hz : s = List.replicate 16 0
   · skip
     refine wp_skip ?_
     refine Z00 (wp_seq ?_)
     refine wp_block ?_
     refine wp_seq ?_
     refine wp_seq ?_
     refine wp_region_lit ?_
     have hE := Env.refl a20 [23, 24, 25, 26, 27, 28, 29, 30, 31]
     refine zm 23 hE k e1 ?_
     intro a21 hE e23 kp
     refine zm 24 hE k e7 ?_
     intro a22 hE e24 kp
     replace e23 := kt kp e23
     refine sd 25 hE k (Z2n rfl e24 rfl (by omega)) ?_
     intro a23 hE e25 kp
     replace e23 := kt kp e23
     replace e25 := e25.trans (Z0e (show (i : Int) * 16 = ((16 * i : Nat) : Int) by omega))
     refine zm 26 hE k e7 ?_
     intro a24 hE e26 kp
     replace e23 := kt kp e23; replace e25 := kt kp e25
     refine sd 27 hE k (Z0r rfl e26 rfl (by omega)) ?_
     intro a25 hE e27 kp
     replace e23 := kt kp e23; replace e25 := kt kp e25
     refine sd 28 hE k (Z2n rfl e27 rfl (by omega)) ?_
     intro a26 hE e28 kp
     replace e23 := kt kp e23; replace e25 := kt kp e25
     replace e28 := e28.trans (Z0e (show ((i : Int) + 1) * 16 = ((16 * i + 16 : Nat) : Int) by omega))
     refine sd 29 hE k (Z17 (l := FL) (a := 16 * i) (b := 16 * i + 16) Try.underlying9 rfl e23 e25 e28 (by omega) (by omega)) ?_
     intro a27 hE e29 kp
     replace e29 := e29.trans (congrArg (fun l => Value.string (sB l)) hcut)
     refine zm 30 hE k e5 ?_
     intro a28 hE e30 kp
     replace e29 := kt kp e29
     refine sd 31 hE k (Z09 (Z7s (l := s) (m := List.replicate 16 0) rfl e29 e30) (decide_eq_true hz)) ?_
     intro a29 hE e31 kp
     refine wpList_nil ?_
     replace e0 := hE.g e0; replace e1 := hE.g e1; replace e5 := hE.g e5; replace e6 := hE.g e6; replace e7 := hE.g e7
     replace k := k.env hE
     clear hE
     refine Z00 ?_
     refine Z0h e31 rfl ?_
     refine wp_exit ?_
     refine Z0k ?_
     refine Z0t ?_
     refine Z00 ?_
     refine wp_region_lit ?_
     have hE := Env.refl a29 [21, 22, 7]
     refine sd 21 hE k (Z03 rfl e7) ?_
     intro a30 hE e21 kp
     replace e7 := kt kp e7
     refine sd 22 hE k (Z0r rfl e21 rfl (by omega)) ?_
     intro a31 hE e22 kp
     replace e7 := kt kp e7
     refine sd 7 hE k (Z01 rfl e22) ?_
     intro a32 hE e7 kp
     refine wpList_nil ?_
     replace e0 := hE.g e0; replace e1 := hE.g e1; replace e5 := hE.g e5; replace e6 := hE.g e6
     replace k := k.env hE
     clear hE e31
     refine Z00 ?_
     rw [hz] at hs
     have hsk := Z7t (a := u) hs
     rw [← hsk] at O hwp
     refine ⟨⟨k, e0, e1, e5, wp, i + 1, M, e6, e7, by omega, by omega, hF, hM.mono (by omega), hwp, O⟩, ?_⟩
     rw [e7, mi]; simp only [intOf]; omega
   · skip
     refine wp_skip ?_
     refine Z00 (wp_seq ?_)
     refine wp_block ?_
     refine wp_seq ?_
     refine wp_seq ?_
     refine wp_region_lit ?_
     have hE := Env.refl a20 [23, 24, 25, 26, 27, 28, 29, 30, 31]
     refine zm 23 hE k e1 ?_
     intro a33 hE e23 kp
     refine zm 24 hE k e7 ?_
     intro a34 hE e24 kp
     replace e23 := kt kp e23
     refine sd 25 hE k (Z2n rfl e24 rfl (by omega)) ?_
     intro a35 hE e25 kp
     replace e23 := kt kp e23
     replace e25 := e25.trans (Z0e (show (i : Int) * 16 = ((16 * i : Nat) : Int) by omega))
     refine zm 26 hE k e7 ?_
     intro a36 hE e26 kp
     replace e23 := kt kp e23; replace e25 := kt kp e25
     refine sd 27 hE k (Z0r rfl e26 rfl (by omega)) ?_
     intro a37 hE e27 kp
     replace e23 := kt kp e23; replace e25 := kt kp e25
     refine sd 28 hE k (Z2n rfl e27 rfl (by omega)) ?_
     intro a38 hE e28 kp
     replace e23 := kt kp e23; replace e25 := kt kp e25
     replace e28 := e28.trans (Z0e (show ((i : Int) + 1) * 16 = ((16 * i + 16 : Nat) : Int) by omega))
     refine sd 29 hE k (Z17 (l := FL) (a := 16 * i) (b := 16 * i + 16) Try.underlying9 rfl e23 e25 e28 (by omega) (by omega)) ?_
     intro a39 hE e29 kp
     replace e29 := e29.trans (congrArg (fun l => Value.string (sB l)) hcut)
     refine zm 30 hE k e5 ?_
     intro a40 hE e30 kp
     replace e29 := kt kp e29
     refine sd 31 hE k (Z09 (Z7s (l := s) (m := List.replicate 16 0) rfl e29 e30) (decide_eq_false hz)) ?_
     intro a41 hE e31 kp
     refine wpList_nil ?_
     replace e0 := hE.g e0; replace e1 := hE.g e1; replace e5 := hE.g e5; replace e6 := hE.g e6; replace e7 := hE.g e7
     replace k := k.env hE
     clear hE
     refine Z00 ?_
     refine Z08 e31 rfl ?_
     refine wp_skip ?_
     refine Z00 (wp_seq ?_)
     refine wp_seq ?_
     refine wp_region_lit ?_
     have hE := Env.refl a41 [32, 33, 34, 35, 36, 37, 38, 8]
     refine zm 32 hE k e0 ?_
     intro a42 hE e32 kp
     refine sd 33 hE k (Z0p rfl e32) ?_
     intro a43 hE e33 kp
     apply Z05 34 hE k rfl rfl rfl rfl
     case h =>
      simp [go_sem, ↓IntWalk.iteOmega, ev e33]
      with_reducible rfl
     intro a44 hE e34 kp
     apply Z05 35 hE k rfl rfl rfl rfl
     case h =>
      have q0 : w13.cell? ⟨tb, 0, none⟩ = some (.pointer (some ⟨p, 0, none⟩)) := (OwnT.blk O 2 rfl).cell 0
      simp [go_sem, ↓IntWalk.iteOmega, ev e34, q0]
      with_reducible rfl
     intro a45 hE e35 kp
     refine zm 36 hE k e7 ?_
     intro a46 hE e36 kp
     replace e35 := kt kp e35
     refine zm 37 hE k e5 ?_
     intro a47 hE e37 kp
     replace e35 := kt kp e35; replace e36 := kt kp e36
     apply Z06 38 hE k rfl (by rfl) (by rfl) rfl
     case h =>
      simp [go_sem, ↓IntWalk.iteOmega, ev e35, ev e36, ev e37]
      with_reducible exact ⟨rfl, rfl⟩
     case hc => exact dwrite_1 i zsec _ O (by decide) hlt hM (by omega) hF
     clear O
     rintro e w49 ⟨rfl, O⟩
     rw [wpL_put hs hz hai] at O
     refine ⟨_, rfl, ?_⟩
     intro a48 hE e38 kp
     refine sd 8 hE k (Z01 rfl e38) ?_
     intro a50 hE e8 kp
     refine wpList_nil ?_
     replace e0 := hE.g e0; replace e1 := hE.g e1; replace e5 := hE.g e5; replace e7 := hE.g e7
     replace k := k.env hE
     clear hE e6 e31
     refine Z00 (wp_seq ?_)
     refine wp_region_lit ?_
     have hE := Env.refl a50 [39, 40]
     refine zm 39 hE k e8 ?_
     intro a51 hE e39 kp
     refine sd 40 hE k (Z09 (Z15 rfl e39 rfl) (decide_eq_false (by omega))) ?_
     intro a52 hE e40 kp
     refine wpList_nil ?_
     replace e0 := hE.g e0; replace e1 := hE.g e1; replace e5 := hE.g e5; replace e7 := hE.g e7; replace e8 := hE.g e8
     replace k := k.env hE
     clear hE
     refine Z00 ?_
     refine Z08 e40 rfl ?_
     refine wp_skip ?_
     refine Z00 ?_
     refine wp_region_lit ?_
     have hE := Env.refl a52 [6]
     refine sd 6 hE k (Z01 rfl rfl) ?_
     intro a53 hE e6 kp
     refine wpList_nil ?_
     replace e0 := hE.g e0; replace e1 := hE.g e1; replace e5 := hE.g e5; replace e7 := hE.g e7
     replace k := k.env hE
     clear hE e8 e40
     refine Z14 ?_
     refine Z00 ?_
     refine wp_region_lit ?_
     have hE := Env.refl a53 [21, 22, 7]
     refine sd 21 hE k (Z03 rfl e7) ?_
     intro a54 hE e21 kp
     replace e7 := kt kp e7
     refine sd 22 hE k (Z0r rfl e21 rfl (by omega)) ?_
     intro a55 hE e22 kp
     replace e7 := kt kp e7
     refine sd 7 hE k (Z01 rfl e22) ?_
     intro a56 hE e7 kp
     refine wpList_nil ?_
     replace e0 := hE.g e0; replace e1 := hE.g e1; replace e5 := hE.g e5; replace e6 := hE.g e6
     replace k := k.env hE
     clear hE
     refine Z00 ?_
     refine ⟨⟨k, e0, e1, e5, true, i + 1, M.use, e6, e7, by omega, by omega, hF.use, hM.use.mono (by omega), (fun h => (by cases h)), O⟩, ?_⟩
     rw [e7, mi]; simp only [intOf]; omega
 · have hltI : ¬ (i : Int) < (n : Int) := by omega
   refine Z08 e20 (congrArg Value.bool (decide_eq_false (by omega))) ?_
   clear e1 e5 e7 e20
   obtain rfl : i = n := by omega
   refine wp_exit ?_
   refine Z0k ?_
   refine Z0k ?_
   refine Z0t ?_
   refine Z00 (wp_seq ?_)
   refine wp_seq ?_
   refine wp_region_lit ?_
   have hE := Env.refl a20 [42, 43]
   refine zm 42 hE k e6 ?_
   intro a57 hE e42 kp
   refine sd 43 hE k (Z4f rfl e42) ?_
   intro a58 hE e43 kp
   refine wpList_nil ?_
   replace e0 := hE.g e0
   replace k := k.env hE
   clear hE e6
   refine Z00 ?_
   cases wp with
   | false =>
    refine Z0h e43 (rfl) ?_
    clear e0 e43
    refine wp_seq ?_
    refine wp_region_lit ?_
    have hE := Env.refl a58 [4]
    refine sd 4 hE k (Z01 rfl rfl) ?_
    intro a59 hE e4 kp
    refine wpList_nil ?_
    replace k := k.env hE
    clear hE
    refine Z00 ?_
    refine wp_ret ?_
    refine Z0n ?_
    refine Z0f rfl k e4 ?_
    exact ⟨rfl, M, hF, hM.mono (by omega), by rw [← hend, hwp rfl, Z21]; rw [hwp rfl] at O; exact O⟩
   | true =>
    refine Z08 e43 (rfl) ?_
    clear e43
    refine wp_skip ?_
    refine Z00 (wp_seq ?_)
    refine wp_region_lit ?_
    have hE := Env.refl a58 [44, 45, 46, 47, 48, 4]
    refine zm 44 hE k e0 ?_
    intro a60 hE e44 kp
    refine sd 45 hE k (Z0p rfl e44) ?_
    intro a61 hE e45 kp
    apply Z05 46 hE k rfl rfl rfl rfl
    case h =>
     simp [go_sem, ↓IntWalk.iteOmega, ev e45]
     with_reducible rfl
    intro a62 hE e46 kp
    apply Z05 47 hE k rfl rfl rfl rfl
    case h =>
     have q0 : w13.cell? ⟨tb, 0, none⟩ = some (.pointer (some ⟨p, 0, none⟩)) := (OwnT.blk O 2 rfl).cell 0
     simp [go_sem, ↓IntWalk.iteOmega, ev e46, q0]
     with_reducible rfl
    intro a63 hE e47 kp
    apply Z06 48 hE k rfl (by rfl) (by rfl) rfl
    case h =>
     simp [go_sem, ↓IntWalk.iteOmega, ev e47]
     with_reducible exact ⟨rfl, rfl⟩
    case hc => exact Z4v _ O hM (by omega) hF.up
    clear O
    rintro e w65 ⟨rfl, O⟩
    refine ⟨_, rfl, ?_⟩
    intro a64 hE e48 kp
    refine sd 4 hE k (Z01 rfl e48) ?_
    intro a66 hE e4 kp
    refine wpList_nil ?_
    replace k := k.env hE
    clear hE e0
    refine Z00 ?_
    refine wp_ret ?_
    refine Z0f rfl k e4 ?_
    exact ⟨rfl, M.use, hF.use, hM.use.mono (by omega), by rw [← hend]; exact O⟩
end Go.Proofs.Ytakkhglbdljfiaa
