/- trees' law: TreeBuilds (printed by XRdE.gen.py). -/
import Derived.Test.YtngehbhhpkkijaaKTreeBuilds20
import Derived.Test.YtngehbhhpkkijaaKTreeBuilds33
import Derived.Test.YtngehbhhpkkijaaKTreeBuilds26
import Derived.Test.YtngehbhhpkkijaaKTreeBuilds24
import Derived.Test.YtngehbhhpkkijaaKTreeBuilds05
import Derived.Laws.Tables
import Derived.Laws.CopyRow
namespace Go.Proofs.Ytngehbhhpkkijaa
attribute [local simp] BigFrame.eval_const BigFrame.eval_global BigFrame.eval_func
set_option linter.unusedVariables false
set_option linter.unusedSimpArgs false
open Go.RowKit Go.Maps

theorem Z7n {w : World} {B : Option Addr} {n c : Nat} {P : List Pr} (h : (tPs (.slice B n c) P).holds w) : Row w B 2 pairC P := by
 obtain ⟨_, _, e1, _, _, r1, _⟩ := Z0r h
 injection e1 with e1
 subst e1
 exact r1
theorem Z5c : Try.prog.cellsOf 38 = 2 := by kernel_rfl
theorem Z5b : Try.prog.cellsOf 30 = 1 := by kernel_rfl
theorem arg_prd {w : World} {v : Value} (h : Arg Try.prog w 29 v) :
 ∃ A len cap, ∃ xs : List Pr, v = .slice A len cap ∧ len ≤ cap ∧ cap ≤ maxLen ∧ xs.length = len ∧ (∀ x ∈ xs, x.1 < 18446744073709551616 ∧ x.2 < 18446744073709551616) ∧ Row w A 2 pairC xs :=
 fit_row pairC (fun x => x.1 < 18446744073709551616 ∧ x.2 < 18446744073709551616) Try.underlying29 Z5c (by decide) (fun cs _ hf => by
  obtain ⟨hl, hx⟩ := Z6y 2 Try.underlying38 Z5c hf
  obtain ⟨k, e2, w2⟩ := Z6c Try.underlying30 (hx 0 0 30 1 rfl Z5b)
  obtain ⟨x, e3, w3⟩ := Z6c Try.underlying30 (hx 1 1 30 1 rfl Z5b)
  have b2 := bounds_u64 w2
  have b3 := bounds_u64 w3
  refine ⟨(k.toNat, x.toNat), ?_, by show k.toNat < _; omega, by show x.toNat < _; omega⟩
  match cs, hl with
  | [u0, u1], _ =>
   simp at e2 e3
   subst e2 e3
   show _ = [Value.int .u64 ((k.toNat : Nat) : Int), Value.int .u64 ((x.toNat : Nat) : Int)]
   rw [show ((k.toNat : Nat) : Int) = k by omega, show ((x.toNat : Nat) : Int) = x by omega]) (Z83 Try.underlying29 h)

set_option maxRecDepth 100000 in
set_option maxHeartbeats 4000000 in
theorem Z38 {Bx : Option Addr} {n c0 : Nat} {xs : List Pr} (x1 : Int) (W0 : World) (hrow : Row W0 Bx 2 pairC xs) (hxl : xs.length = n) (hcap : n ≤ c0) (hcm : c0 ≤ maxLen) (hw : ∀ y ∈ xs, y.1 < 18446744073709551616 ∧ y.2 < 18446744073709551616) : Calls Try.prog 6 #[.slice Bx n c0, .int .i64 x1] W0 fun e w' => e = .returned (.bool true) ∧ Below W0.heap.size W0 w' := by
 have O := OwnT.start W0
 obtain ⟨rm, hrm⟩ : ∃ z, uN x1 % 40 = z := ⟨_, rfl⟩
 have hrm40 : rm < 40 := by omega
 unfold maxLen at hcm
 refine Z0c Try.func6 rfl 123 rfl (by rfl) ?_
 intro a1 k hargs
 have e0 : a1.eval (.tmp 0) = .slice Bx n c0 := hargs 0 _ rfl
 have e1 : a1.eval (.tmp 1) = .int .i64 x1 := hargs 1 _ rfl
 clear hargs
 refine wp_seq ?_
 refine wp_region_lit ?_
 have hE := Env.refl a1 [4]
 refine sd 4 hE k (Z01 rfl rfl) ?_
 intro a2 hE e4 kp
 refine wpList_nil ?_
 replace e0 := hE.g e0; replace e1 := hE.g e1
 replace k := k.env hE
 clear hE e4
 refine Z00 (wp_seq ?_)
 refine wp_seq ?_
 refine wp_region_lit ?_
 have hE := Env.refl a2 [13, 14]
 apply Z08 13 hE k rfl (by rfl) (by rfl) rfl
 case h =>
  simp [go_sem, ↓IntWalk.iteOmega]
  with_reducible exact ⟨rfl, rfl⟩
 case hc => exact awake08 _
 rintro e w4 ⟨rfl, R⟩
 replace O := OwnT.ext O R
 refine ⟨_, rfl, ?_⟩
 intro a3 hE e13 kp
 refine sd 14 hE k (Z1v rfl e13) ?_
 intro a5 hE e14 kp
 refine wpList_nil ?_
 replace e0 := hE.g e0; replace e1 := hE.g e1
 replace k := k.env hE
 clear hE
 refine Z00 ?_
 refine Z05 e14 rfl ?_
 refine wp_skip ?_
 refine Z00 ?_
 by_cases hbig : 300 < n
 · skip
   refine wp_seq ?_
   refine wp_seq ?_
   refine wp_region_lit ?_
   have hE := Env.refl a5 [15, 16, 17]
   refine zm 15 hE k e0 ?_
   intro a6 hE e15 kp
   refine sd 16 hE k (Z0f Try.underlying29 rfl e15) ?_
   intro a7 hE e16 kp
   refine sd 17 hE k (Z06 (Z1m rfl e16 rfl) (decide_eq_true (by omega))) ?_
   intro a8 hE e17 kp
   refine wpList_nil ?_
   replace e0 := hE.g e0; replace e1 := hE.g e1
   replace k := k.env hE
   clear hE e14
   refine Z00 ?_
   refine Z0g e17 rfl ?_
   refine wp_seq ?_
   refine wp_region_lit ?_
   have hE := Env.refl a8 [4]
   refine sd 4 hE k (Z01 rfl rfl) ?_
   intro a9 hE e4 kp
   refine wpList_nil ?_
   replace k := k.env hE
   clear hE e0 e1 e17
   refine Z00 ?_
   refine wp_ret ?_
   refine Z0d ?_
   refine Z0p rfl k e4 ?_
   exact ⟨rfl, O.below⟩
 · skip
   refine wp_seq ?_
   refine wp_seq ?_
   refine wp_region_lit ?_
   have hE := Env.refl a5 [15, 16, 17]
   refine zm 15 hE k e0 ?_
   intro a10 hE e15 kp
   refine sd 16 hE k (Z0f Try.underlying29 rfl e15) ?_
   intro a11 hE e16 kp
   refine sd 17 hE k (Z06 (Z1m rfl e16 rfl) (decide_eq_false (by omega))) ?_
   intro a12 hE e17 kp
   refine wpList_nil ?_
   replace e0 := hE.g e0; replace e1 := hE.g e1
   replace k := k.env hE
   clear hE e14
   refine Z00 ?_
   refine Z05 e17 rfl ?_
   refine wp_skip ?_
   refine Z00 (wp_seq ?_)
   refine wp_region_lit ?_
   have hE := Env.refl a12 [18, 19, 20, 21, 22, 23, 5]
   refine zm 18 hE k e1 ?_
   intro a13 hE e18 kp
   refine sd 19 hE k (Z1w rfl e18 (Z81 x1 _)) ?_
   intro a14 hE e19 kp
   refine sd 20 hE k (x_remU (m := uN x1) (j := 40) rfl e19 rfl rfl (by decide)) ?_
   intro a15 hE e20 kp
   refine sd 21 hE k (Z1w rfl e20 (conv_int _ _ (by omega))) ?_
   intro a16 hE e21 kp
   replace e21 := e21.trans (Z0h (show ((uN x1 % 40 : Nat) : Int) = (rm : Int) by rw [hrm]))
   apply Z02 22 hE k rfl rfl rfl rfl
   case h =>
    simp [go_sem, ↓IntWalk.iteOmega, ev e21]
    with_reducible rfl
   intro a17 hE e22 kp
   refine Z0k O (cs := #[.slice none 0 0, .int .i64 ↑rm]) (t := 28) 23 hE k rfl (by rfl) (by rfl) rfl (by simp [go_sem, ↓IntWalk.iteOmega, ev e22]) ?_
   clear O
   intro sb a18 w19 O hE e23 kp
   refine sd 5 hE k (Z01 rfl e23) ?_
   intro a20 hE e5 kp
   refine wpList_nil ?_
   replace e0 := hE.g e0
   replace k := k.env hE
   clear hE e1 e17
   refine Z00 ?_
   replace O := sh_nil O
   refine wp_seq ?_
   refine wp_region_lit ?_
   have hE := Env.refl a20 [25, 26, 27, 28, 24, 29, 30, 6, 7]
   refine zm 25 hE k e5 ?_
   intro a21 hE e25 kp
   apply Z02 26 hE k rfl rfl rfl rfl
   case h =>
    simp [go_sem, ↓IntWalk.iteOmega, ev e25]
    with_reducible rfl
   intro a22 hE e26 kp
   refine zm 27 hE k e0 ?_
   intro a23 hE e27 kp
   replace e26 := kt kp e26
   apply Z08 28 hE k rfl (by rfl) (by rfl) rfl
   case h =>
    simp [go_sem, ↓IntWalk.iteOmega, ev e26, ev e27]
    with_reducible exact ⟨rfl, rfl⟩
   case hc => exact tbuild (R := []) _ O (by omega) hxl (by omega) hcap hw (fun W hb _ => Row.below hrow hb)
   clear O
   rintro e w25 ⟨rt, er, rfl, B, cap, vs, N, O, hcase⟩
   refine ⟨_, rfl, ?_⟩
   intro a24 hE e28 kp
   refine sd 24 hE k (Z03 rfl e28) ?_
   intro a26 hE e24 kp
   apply Z02 29 hE k rfl rfl rfl rfl
   case h =>
    simp [go_sem, ↓IntWalk.iteOmega, ev e24]
    with_reducible rfl
   intro a27 hE e29 kp
   replace e24 := kt kp e24
   apply Z02 30 hE k rfl rfl rfl rfl
   case h =>
    simp [go_sem, ↓IntWalk.iteOmega, ev e24]
    with_reducible rfl
   intro a28 hE e30 kp
   replace e29 := kt kp e29
   refine sd 6 hE k (Z01 rfl e29) ?_
   intro a29 hE e6 kp
   replace e30 := kt kp e30
   refine sd 7 hE k (Z01 rfl e30) ?_
   intro a30 hE e7 kp
   replace e6 := kt kp e6
   refine wpList_nil ?_
   replace e0 := hE.g e0; replace e5 := hE.g e5
   replace k := k.env hE
   clear hE
   refine Z00 (wp_seq ?_)
   refine wp_seq ?_
   refine wp_region_lit ?_
   have hE := Env.refl a30 [8]
   refine sd 8 hE k (Z01 rfl rfl) ?_
   intro a31 hE e8 kp
   refine wpList_nil ?_
   replace e0 := hE.g e0; replace e5 := hE.g e5; replace e6 := hE.g e6; replace e7 := hE.g e7
   replace k := k.env hE
   clear hE
   refine Z00 ?_
   refine wp_block ?_
   refine wp_loop (fun a w => Fr 123 a ∧ a.eval (.tmp 0) = .slice Bx n c0 ∧ a.eval (.tmp 5) = .pointer (some ⟨sb, 0, none⟩) ∧ a.eval (.tmp 6) = .int .i64 ↑rt ∧ a.eval (.tmp 7) = .int .i64 er ∧ ∃ (i : Nat), a.eval (.tmp 8) = .int .i64 ↑i ∧ 1 ≤ i ∧ (∀ (j : Nat) (y z : Pr), j + 1 < i → xs[j]? = some y → xs[j + 1]? = some z → y.1 < z.1) ∧ OwnT W0.heap.size W0 ((tBlk sb 28 #[.slice B N.length cap, .int .i64 ↑rm]) :: (tRow 125 2 (.slice B N.length cap) N.length (leafV vs N)) :: (tPool vs N) :: []) w) (fun a w => n - (intOf (a.eval (.tmp 8))).toNat) ?_ ?_
   · exact ⟨k, e0, e5, e6, e7, 1, e8, Nat.le_refl _, (fun j y z h => by omega), O⟩
   intro a32 w33 hI
   clear k e0 e5 e6 e7
   obtain ⟨k, e0, e5, e6, e7, h_⟩ := hI
   clear O e8
   obtain ⟨i, e8, hi1, hri, O⟩ := h_
   have mi := e8
   by_cases hlt : i < n
   · have hltI : (i : Int) < (n : Int) := by omega
     obtain ⟨g, off, rfl⟩ : ∃ g off, Bx = some ⟨g, off, none⟩ := by
      obtain ⟨x, hx⟩ : ∃ x, xs[0]? = some x := ⟨_, List.getElem?_eq_getElem (by omega)⟩
      obtain ⟨b, o, e, _⟩ := hrow 0 x hx
      exact ⟨b, o, e⟩
     refine wp_seq ?_
     refine wp_seq ?_
     refine wp_region_lit ?_
     have hE := Env.refl a32 [31, 32, 33, 34]
     refine zm 31 hE k e8 ?_
     intro a34 hE e31 kp
     refine zm 32 hE k e0 ?_
     intro a35 hE e32 kp
     replace e31 := kt kp e31
     refine sd 33 hE k (Z0f Try.underlying29 rfl e32) ?_
     intro a36 hE e33 kp
     replace e31 := kt kp e31
     refine sd 34 hE k (Z06 (Z1c rfl e31 e33) (decide_eq_true (by omega))) ?_
     intro a37 hE e34 kp
     refine wpList_nil ?_
     replace e0 := hE.g e0; replace e5 := hE.g e5; replace e6 := hE.g e6; replace e7 := hE.g e7; replace e8 := hE.g e8
     replace k := k.env hE
     clear hE
     refine Z00 ?_
     refine Z0g e34 rfl ?_
     refine wp_skip ?_
     refine Z00 (wp_seq ?_)
     refine wp_block ?_
     obtain ⟨p, rfl⟩ : ∃ p, i = p + 1 := ⟨i - 1, by omega⟩
     obtain ⟨y, hy⟩ : ∃ y, xs[p]? = some y := ⟨_, List.getElem?_eq_getElem (by omega)⟩
     obtain ⟨z, hz⟩ : ∃ z, xs[p + 1]? = some z := ⟨_, List.getElem?_eq_getElem (by omega)⟩
     have hpI : (p : Int) < (n : Int) := by omega
     have hpI2 : ((p + 1 : Nat) : Int) < (n : Int) := by omega

     by_cases hle : z.1 ≤ y.1
     · have hnu := not_up hy hz hle
       obtain ⟨-, rfl, rfl, rfl⟩ := hcase.resolve_right (fun h => h.elim (fun h => hnu h.1) (fun h => hnu h.1))
       refine wp_seq ?_
       refine Z0a (R := Ext) (w0 := w33) [[], [], [1], [0, 1, 2], [0, 1, 2, 3], [0, 1, 2, 3, 4], [], [], [6, 7], [6, 7, 8], [6, 7, 8, 9], [0, 1, 2, 3, 4, 5, 6, 7, 8, 9, 10]] [37, 38, 39, 40, 41, 42, 43, 44, 45, 46, 47, 48] Ext.refl (fun _ _ _ => Ext.trans) (Ext.drew _) (by kernel_rfl) ?_
       apply bd 37 k rfl rfl rfl
       case h =>
        intro ax wx hE hR hF
        exact Z03 rfl (hE.g e0)
       apply bd 38 k rfl rfl rfl
       case h =>
        intro ax wx hE hR hF
        exact Z03 rfl (hE.g e8)
       apply bd 39 k rfl rfl rfl
       case h =>
        intro ax wx hE hR hF
        have e38 := zhF hF 1 38 ml0
        exact Z16 (v := .int .i64 (p : Int)) (Z2t rfl e38 rfl (by omega)) (Z0h (by omega))
       apply bd 40 k rfl rfl rfl
       case h =>
        intro ax wx hE hR hF
        have e37 := zhF hF 0 37 ml2
        have e39 := zhF hF 2 39 ml0
        simp [go_sem, ↓IntWalk.iteOmega, ev e37, ev e39]
        with_reducible rfl
       apply bd 41 k rfl rfl rfl
       case h =>
        intro ax wx hE hR hF
        have e40 := zhF hF 3 40 ml0
        simp [go_sem, ↓IntWalk.iteOmega, ev e40]
        with_reducible rfl
       apply bd 42 k rfl rfl rfl
       case h =>
        intro ax wx hE hR hF
        have e41 := zhF hF 4 41 ml0
        have d := Z2m (Row.below hrow (OwnT.ext O hR).below) hy
        simp [go_sem, ↓IntWalk.iteOmega, ev e41, d.1]
        with_reducible rfl
       apply bd 43 k rfl rfl rfl
       case h =>
        intro ax wx hE hR hF
        exact Z03 rfl (hE.g e0)
       apply bd 44 k rfl rfl rfl
       case h =>
        intro ax wx hE hR hF
        exact Z03 rfl (hE.g e8)
       apply bd 45 k rfl rfl rfl
       case h =>
        intro ax wx hE hR hF
        have e43 := zhF hF 6 43 ml1
        have e44 := zhF hF 7 44 ml0
        simp [go_sem, ↓IntWalk.iteOmega, ev e43, ev e44]
        with_reducible rfl
       apply bd 46 k rfl rfl rfl
       case h =>
        intro ax wx hE hR hF
        have e45 := zhF hF 8 45 ml0
        simp [go_sem, ↓IntWalk.iteOmega, ev e45]
        with_reducible rfl
       apply bd 47 k rfl rfl rfl
       case h =>
        intro ax wx hE hR hF
        have e46 := zhF hF 9 46 ml0
        have d := Z2m (Row.below hrow (OwnT.ext O hR).below) hz
        simp [go_sem, ↓IntWalk.iteOmega, ev e46, d.1]
        with_reducible rfl
       apply bd 48 k rfl rfl rfl
       case h =>
        intro ax wx hE hR hF
        have e42 := zhF hF 5 42 ml5
        have e47 := zhF hF 10 47 ml0
        exact Z06 (Z3n rfl e42 e47) (decide_eq_true (by omega))
       apply Build.stop
       refine ⟨by kernel_rfl, .inl ⟨rfl, ?_⟩⟩
       intro a38 w39 hE R hF
       have e48 : a38.eval (.tmp 48) = _ := hF 11 (det 48 _) ml0
       clear hF
       replace O := OwnT.ext O R
       clear R
       replace e0 := hE.g e0; replace e5 := hE.g e5; replace e6 := hE.g e6; replace e7 := hE.g e7; replace e8 := hE.g e8
       replace k := k.env hE
       clear hE e34
       refine Z00 ?_
       refine Z0g e48 rfl ?_
       refine wp_seq ?_
       refine wp_region_lit ?_
       have hE := Env.refl a38 [49, 50, 51, 52, 53, 54, 55, 56, 57, 58, 59, 60, 61, 62, 4]
       refine zm 49 hE k e6 ?_
       intro a40 hE e49 kp
       refine sd 50 hE k (Z06 (Z0n rfl e49 rfl) (decide_eq_true (by rfl))) ?_
       intro a41 hE e50 kp
       refine sd 51 hE k (Z03 rfl e50) ?_
       intro a42 hE e51 kp
       apply Z04 52 hE k rfl rfl rfl rfl rfl e51
       case h =>
        exact Z03 rfl (hE.g e7)
       intro a43 hE e52 kp
       replace e51 := kt kp e51
       apply Z04 53 hE k rfl rfl rfl rfl rfl e51
       case h =>
        exact Z0n rfl e52 rfl
       intro a44 hE e53 kp
       replace e51 := kt kp e51
       refine sd 54 hE k (Z09 rfl e51 e53) ?_
       intro a45 hE e54 kp
       refine sd 55 hE k (Z03 rfl e54) ?_
       intro a46 hE e55 kp
       apply Z04 56 hE k rfl rfl rfl rfl rfl e55
       case h =>
        exact Z03 rfl (hE.g e5)
       intro a47 hE e56 kp
       replace e55 := kt kp e55
       apply Z04 57 hE k rfl rfl rfl rfl rfl e55
       case h =>
        exact Z1e rfl e56
       intro a48 hE e57 kp
       replace e55 := kt kp e55
       apply Z04 58 hE k rfl rfl rfl rfl rfl e55
       case h =>
        simp [go_sem, ↓IntWalk.iteOmega, ev e57]
        with_reducible rfl
       intro a49 hE e58 kp
       replace e55 := kt kp e55
       apply Z04 59 hE k rfl rfl rfl rfl rfl e55
       case h =>
        have q0 : w39.cell? ⟨sb, 0, none⟩ = some (.slice B ((([] : List Nd)).length) cap) := (OwnT.blk O 0 rfl).cell 0
        simp [go_sem, ↓IntWalk.iteOmega, ev e58, q0]
        with_reducible rfl
       intro a50 hE e59 kp
       replace e55 := kt kp e55
       apply Z04 60 hE k rfl rfl rfl rfl rfl e55
       case h =>
        exact Z0f Try.underlying26 rfl e59
       intro a51 hE e60 kp
       replace e55 := kt kp e55
       apply Z04 61 hE k rfl rfl rfl rfl rfl e55
       case h =>
        exact Z06 (Z0n rfl e60 rfl) (decide_eq_true (by rfl))
       intro a52 hE e61 kp
       replace e55 := kt kp e55
       refine sd 62 hE k (Z09 rfl e55 e61) ?_
       intro a53 hE e62 kp
       refine sd 4 hE k (Z01 rfl e62) ?_
       intro a54 hE e4 kp
       refine wpList_nil ?_
       replace k := k.env hE
       clear hE e0 e5 e6 e7 e8 e48
       refine Z00 ?_
       refine wp_ret ?_
       refine Z0s ?_
       refine Z0d ?_
       refine Z0d ?_
       refine Z0s ?_
       refine Z0d ?_
       refine Z0p rfl k e4 ?_
       exact ⟨rfl, O.below⟩
     · skip
       refine wp_seq ?_
       refine Z0a (R := Ext) (w0 := w33) [[], [], [1], [0, 1, 2], [0, 1, 2, 3], [0, 1, 2, 3, 4], [], [], [6, 7], [6, 7, 8], [6, 7, 8, 9], [0, 1, 2, 3, 4, 5, 6, 7, 8, 9, 10]] [37, 38, 39, 40, 41, 42, 43, 44, 45, 46, 47, 48] Ext.refl (fun _ _ _ => Ext.trans) (Ext.drew _) (by kernel_rfl) ?_
       apply bd 37 k rfl rfl rfl
       case h =>
        intro ax wx hE hR hF
        exact Z03 rfl (hE.g e0)
       apply bd 38 k rfl rfl rfl
       case h =>
        intro ax wx hE hR hF
        exact Z03 rfl (hE.g e8)
       apply bd 39 k rfl rfl rfl
       case h =>
        intro ax wx hE hR hF
        have e38 := zhF hF 1 38 ml0
        exact Z16 (v := .int .i64 (p : Int)) (Z2t rfl e38 rfl (by omega)) (Z0h (by omega))
       apply bd 40 k rfl rfl rfl
       case h =>
        intro ax wx hE hR hF
        have e37 := zhF hF 0 37 ml2
        have e39 := zhF hF 2 39 ml0
        simp [go_sem, ↓IntWalk.iteOmega, ev e37, ev e39]
        with_reducible rfl
       apply bd 41 k rfl rfl rfl
       case h =>
        intro ax wx hE hR hF
        have e40 := zhF hF 3 40 ml0
        simp [go_sem, ↓IntWalk.iteOmega, ev e40]
        with_reducible rfl
       apply bd 42 k rfl rfl rfl
       case h =>
        intro ax wx hE hR hF
        have e41 := zhF hF 4 41 ml0
        have d := Z2m (Row.below hrow (OwnT.ext O hR).below) hy
        simp [go_sem, ↓IntWalk.iteOmega, ev e41, d.1]
        with_reducible rfl
       apply bd 43 k rfl rfl rfl
       case h =>
        intro ax wx hE hR hF
        exact Z03 rfl (hE.g e0)
       apply bd 44 k rfl rfl rfl
       case h =>
        intro ax wx hE hR hF
        exact Z03 rfl (hE.g e8)
       apply bd 45 k rfl rfl rfl
       case h =>
        intro ax wx hE hR hF
        have e43 := zhF hF 6 43 ml1
        have e44 := zhF hF 7 44 ml0
        simp [go_sem, ↓IntWalk.iteOmega, ev e43, ev e44]
        with_reducible rfl
       apply bd 46 k rfl rfl rfl
       case h =>
        intro ax wx hE hR hF
        have e45 := zhF hF 8 45 ml0
        simp [go_sem, ↓IntWalk.iteOmega, ev e45]
        with_reducible rfl
       apply bd 47 k rfl rfl rfl
       case h =>
        intro ax wx hE hR hF
        have e46 := zhF hF 9 46 ml0
        have d := Z2m (Row.below hrow (OwnT.ext O hR).below) hz
        simp [go_sem, ↓IntWalk.iteOmega, ev e46, d.1]
        with_reducible rfl
       apply bd 48 k rfl rfl rfl
       case h =>
        intro ax wx hE hR hF
        have e42 := zhF hF 5 42 ml5
        have e47 := zhF hF 10 47 ml0
        exact Z06 (Z3n rfl e42 e47) (decide_eq_false (by omega))
       apply Build.stop
       refine ⟨by kernel_rfl, .inl ⟨rfl, ?_⟩⟩
       intro a55 w56 hE R hF
       have e48 : a55.eval (.tmp 48) = _ := hF 11 (det 48 _) ml0
       clear hF
       replace O := OwnT.ext O R
       clear R
       replace e0 := hE.g e0; replace e5 := hE.g e5; replace e6 := hE.g e6; replace e7 := hE.g e7; replace e8 := hE.g e8
       replace k := k.env hE
       clear hE e34
       refine Z00 ?_
       refine Z05 e48 rfl ?_
       refine wp_skip ?_
       refine Z0t ?_
       refine Z00 ?_
       refine wp_region_lit ?_
       have hE := Env.refl a55 [35, 36, 8]
       refine sd 35 hE k (Z03 rfl e8) ?_
       intro a57 hE e35 kp
       replace e8 := kt kp e8
       refine sd 36 hE k (Z0x rfl e35 rfl (by omega)) ?_
       intro a58 hE e36 kp
       replace e8 := kt kp e8
       replace e36 := e36.trans (Z0h (show ((p + 1 : Nat) : Int) + 1 = ((p + 1 + 1 : Nat) : Int) by omega))
       refine sd 8 hE k (Z01 rfl e36) ?_
       intro a59 hE e8 kp
       refine wpList_nil ?_
       replace e0 := hE.g e0; replace e5 := hE.g e5; replace e6 := hE.g e6; replace e7 := hE.g e7
       replace k := k.env hE
       clear hE e48
       refine Z00 ?_
       refine ⟨⟨k, e0, e5, e6, e7, p + 1 + 1, e8, by omega, (fun j y' z' hj hy' hz' => ?_), O⟩, ?_⟩
       · rcases Nat.lt_or_ge (j + 1) (p + 1) with h | h
         · exact hri j y' z' h hy' hz'
         · obtain rfl : j = p := by omega
           rw [hy] at hy'; rw [hz] at hz'; injection hy' with hy'; injection hz' with hz'; subst hy' hz'; omega
       · rw [e8, mi]; simp only [intOf]; omega
   · skip
     have hup : Up xs := Z3t fun j y z hj => hri j y z (by omega)
     clear hri
     replace hcase := hcase.resolve_left (fun h => h.1 hup)
     refine wp_seq ?_
     refine wp_seq ?_
     refine wp_region_lit ?_
     have hE := Env.refl a32 [31, 32, 33, 34]
     refine zm 31 hE k e8 ?_
     intro a60 hE e31 kp
     refine zm 32 hE k e0 ?_
     intro a61 hE e32 kp
     replace e31 := kt kp e31
     refine sd 33 hE k (Z0f Try.underlying29 rfl e32) ?_
     intro a62 hE e33 kp
     replace e31 := kt kp e31
     refine sd 34 hE k (Z06 (Z1c rfl e31 e33) (decide_eq_false (by omega))) ?_
     intro a63 hE e34 kp
     refine wpList_nil ?_
     replace e0 := hE.g e0; replace e5 := hE.g e5; replace e6 := hE.g e6; replace e7 := hE.g e7; replace e8 := hE.g e8
     replace k := k.env hE
     clear hE
     refine Z00 ?_
     refine Z05 e34 rfl ?_
     refine wp_exit ?_
     refine Z0z ?_
     refine Z0z ?_
     refine Z1j ?_
     refine Z00 (wp_seq ?_)
     refine wp_region_lit ?_
     have hE := Env.refl a63 [9]
     refine sd 9 hE k (Z01 rfl rfl) ?_
     intro a64 hE e9 kp
     refine wpList_nil ?_
     replace e0 := hE.g e0; replace e5 := hE.g e5; replace e6 := hE.g e6; replace e7 := hE.g e7
     replace k := k.env hE
     clear hE e8 e34
     refine Z00 (wp_seq ?_)
     refine wp_seq ?_
     refine wp_region_lit ?_
     have hE := Env.refl a64 [63, 64, 10]
     refine zm 63 hE k e0 ?_
     intro a65 hE e63 kp
     refine sd 64 hE k (Z0f Try.underlying29 rfl e63) ?_
     intro a66 hE e64 kp
     refine sd 10 hE k (Z01 rfl e64) ?_
     intro a67 hE e10 kp
     refine wpList_nil ?_
     replace e0 := hE.g e0; replace e5 := hE.g e5; replace e6 := hE.g e6; replace e7 := hE.g e7; replace e9 := hE.g e9
     replace k := k.env hE
     clear hE
     refine Z00 ?_
     refine wp_block ?_
     have hnd := Z3w (n := n) (by omega)
     refine wp_loop (fun a w => Fr 123 a ∧ a.eval (.tmp 0) = .slice Bx n c0 ∧ a.eval (.tmp 5) = .pointer (some ⟨sb, 0, none⟩) ∧ a.eval (.tmp 6) = .int .i64 ↑rt ∧ a.eval (.tmp 7) = .int .i64 er ∧ ∃ (l m nd : Nat), a.eval (.tmp 9) = .int .i64 ↑nd ∧ a.eval (.tmp 10) = .int .i64 ↑m ∧ lvlOk l m ∧ nd + needF (3 - l) m = needF 3 n ∧ OwnT W0.heap.size W0 ((tBlk sb 28 #[.slice B N.length cap, .int .i64 ↑rm]) :: (tRow 125 2 (.slice B N.length cap) N.length (leafV vs N)) :: (tPool vs N) :: []) w) (fun a w => (intOf (a.eval (.tmp 10))).toNat) ?_ ?_
     · exact ⟨k, e0, e5, e6, e7, 0, n, 0, e9, e10, .inl ⟨rfl, by omega⟩, by simp, O⟩
     intro a68 w69 hI
     clear k e0 e5 e6 e7
     obtain ⟨k, e0, e5, e6, e7, h_⟩ := hI
     clear O e9 e10
     obtain ⟨l, m, nd, e9, e10, hlv, hnt, O⟩ := h_
     have mi := e10
     have hm3 : m ≤ 300 := by rcases hlv with h | h | h <;> omega
     by_cases hm0 : m = 0
     · skip
       have hne : nd = needF 3 n := by rw [hm0, Z6s] at hnt; omega
       refine wp_seq ?_
       refine wp_seq ?_
       refine wp_region_lit ?_
       have hE := Env.refl a68 [65, 66]
       refine zm 65 hE k e10 ?_
       intro a70 hE e65 kp
       refine sd 66 hE k (Z06 (Z1m rfl e65 rfl) (decide_eq_false (by omega))) ?_
       intro a71 hE e66 kp
       refine wpList_nil ?_
       replace e0 := hE.g e0; replace e5 := hE.g e5; replace e6 := hE.g e6; replace e7 := hE.g e7; replace e9 := hE.g e9; replace e10 := hE.g e10
       replace k := k.env hE
       clear hE
       refine Z00 ?_
       refine Z05 e66 rfl ?_
       refine wp_exit ?_
       refine Z0z ?_
       refine Z0z ?_
       refine Z1j ?_
       refine Z00 ?_
       by_cases hov : rm < needF 3 n
       · skip
         obtain ⟨-, rfl, rfl, -⟩ := hcase.resolve_left (fun h => by have := h.2.2.2.1; omega)
         refine wp_seq ?_
         refine wp_seq ?_
         refine wp_region_lit ?_
         have hE := Env.refl a71 [77, 78, 79, 80, 81, 82]
         refine zm 77 hE k e9 ?_
         intro a72 hE e77 kp
         refine zm 78 hE k e5 ?_
         intro a73 hE e78 kp
         replace e77 := kt kp e77
         refine sd 79 hE k (Z1e rfl e78) ?_
         intro a74 hE e79 kp
         replace e77 := kt kp e77
         apply Z02 80 hE k rfl rfl rfl rfl
         case h =>
          simp [go_sem, ↓IntWalk.iteOmega, ev e79]
          with_reducible rfl
         intro a75 hE e80 kp
         replace e77 := kt kp e77
         apply Z02 81 hE k rfl rfl rfl rfl
         case h =>
          have q0 : w69.cell? ⟨sb, 1, none⟩ = some (.int .i64 ↑rm) := (OwnT.blk O 0 rfl).cell 1
          simp [go_sem, ↓IntWalk.iteOmega, ev e80, q0]
          with_reducible rfl
         intro a76 hE e81 kp
         replace e77 := kt kp e77
         refine sd 82 hE k (Z06 (Z1m rfl e77 e81) (decide_eq_true (by omega))) ?_
         intro a77 hE e82 kp
         refine wpList_nil ?_
         replace e0 := hE.g e0; replace e5 := hE.g e5; replace e6 := hE.g e6; replace e7 := hE.g e7; replace e9 := hE.g e9
         replace k := k.env hE
         clear hE e10 e66
         refine Z00 ?_
         refine Z0g e82 rfl ?_
         refine wp_seq ?_
         refine wp_region_lit ?_
         have hE := Env.refl a77 [83, 84, 85, 86, 87, 88, 4]
         refine zm 83 hE k e6 ?_
         intro a78 hE e83 kp
         refine sd 84 hE k (Z06 (Z0n rfl e83 rfl) (decide_eq_true (by rfl))) ?_
         intro a79 hE e84 kp
         refine sd 85 hE k (Z03 rfl e84) ?_
         intro a80 hE e85 kp
         apply Z04 86 hE k rfl rfl rfl rfl rfl e85
         case h =>
          exact Z03 rfl (hE.g e7)
         intro a81 hE e86 kp
         replace e85 := kt kp e85
         apply Z04 87 hE k rfl rfl rfl rfl rfl e85
         case h =>
          exact Z0n rfl e86 rfl
         intro a82 hE e87 kp
         replace e85 := kt kp e85
         refine sd 88 hE k (Z09 rfl e85 e87) ?_
         intro a83 hE e88 kp
         refine sd 4 hE k (Z01 rfl e88) ?_
         intro a84 hE e4 kp
         refine wpList_nil ?_
         replace k := k.env hE
         clear hE e0 e5 e6 e7 e9 e82
         refine Z00 ?_
         refine wp_ret ?_
         refine Z0d ?_
         refine Z0p rfl k e4 ?_
         exact ⟨rfl, O.below⟩
       · skip
         obtain ⟨-, rfl, hNn, -, L, g, hRT, hLf, hgN⟩ := hcase.resolve_right (fun h => by have := h.2.2.2; omega)
         have hfl : L.flatten.length = n := by rw [hLf, hxl]
         have hkeep : L.flatten.filter (fun x => !outB 0 18446744073709551615 x) = xs := by
          rw [hLf]; refine Z1r fun x hx => ?_
          have := (hw x hx).1
          simp only [outB]; rw [decide_eq_false (by omega)]; rfl
         refine wp_seq ?_
         refine wp_seq ?_
         refine wp_region_lit ?_
         have hE := Env.refl a71 [77, 78, 79, 80, 81, 82]
         refine zm 77 hE k e9 ?_
         intro a85 hE e77 kp
         refine zm 78 hE k e5 ?_
         intro a86 hE e78 kp
         replace e77 := kt kp e77
         refine sd 79 hE k (Z1e rfl e78) ?_
         intro a87 hE e79 kp
         replace e77 := kt kp e77
         apply Z02 80 hE k rfl rfl rfl rfl
         case h =>
          simp [go_sem, ↓IntWalk.iteOmega, ev e79]
          with_reducible rfl
         intro a88 hE e80 kp
         replace e77 := kt kp e77
         apply Z02 81 hE k rfl rfl rfl rfl
         case h =>
          have q0 : w69.cell? ⟨sb, 1, none⟩ = some (.int .i64 ↑rm) := (OwnT.blk O 0 rfl).cell 1
          simp [go_sem, ↓IntWalk.iteOmega, ev e80, q0]
          with_reducible rfl
         intro a89 hE e81 kp
         replace e77 := kt kp e77
         refine sd 82 hE k (Z06 (Z1m rfl e77 e81) (decide_eq_false (by omega))) ?_
         intro a90 hE e82 kp
         refine wpList_nil ?_
         replace e0 := hE.g e0; replace e5 := hE.g e5; replace e6 := hE.g e6; replace e7 := hE.g e7; replace e9 := hE.g e9
         replace k := k.env hE
         clear hE e10 e66
         refine Z00 ?_
         refine Z05 e82 rfl ?_
         refine wp_skip ?_
         refine Z00 (wp_seq ?_)
         refine wp_region_lit ?_
         have hE := Env.refl a90 [90, 91, 92, 93, 89, 94, 95, 11, 12]
         refine zm 90 hE k e5 ?_
         intro a91 hE e90 kp
         apply Z02 91 hE k rfl rfl rfl rfl
         case h =>
          simp [go_sem, ↓IntWalk.iteOmega, ev e90]
          with_reducible rfl
         intro a92 hE e91 kp
         refine zm 92 hE k e6 ?_
         intro a93 hE e92 kp
         replace e91 := kt kp e91
         apply Z08 93 hE k rfl (by rfl) (by rfl) rfl
         case h =>
          simp [go_sem, ↓IntWalk.iteOmega, ev e91, ev e92]
          with_reducible exact ⟨rfl, rfl⟩
         case hc => exact tRange (R := []) (lo := 0) (hi := 18446744073709551615) _ O hRT (by omega) (by omega) (by omega) (by omega)
         clear O
         rintro e w95 ⟨v2, rfl, O⟩
         rw [hkeep] at O
         obtain ⟨Bl, cl, rfl, hcl2, -, hrl, -⟩ := Z0r (OwnT.get O 3 rfl)
         refine ⟨_, rfl, ?_⟩
         intro a94 hE e93 kp
         refine sd 89 hE k (Z03 rfl e93) ?_
         intro a96 hE e89 kp
         apply Z02 94 hE k rfl rfl rfl rfl
         case h =>
          simp [go_sem, ↓IntWalk.iteOmega, ev e89]
          with_reducible rfl
         intro a97 hE e94 kp
         replace e89 := kt kp e89
         apply Z02 95 hE k rfl rfl rfl rfl
         case h =>
          simp [go_sem, ↓IntWalk.iteOmega, ev e89]
          with_reducible rfl
         intro a98 hE e95 kp
         replace e94 := kt kp e94
         refine sd 11 hE k (Z01 rfl e94) ?_
         intro a99 hE e11 kp
         replace e95 := kt kp e95
         refine sd 12 hE k (Z01 rfl e95) ?_
         intro a100 hE e12 kp
         replace e11 := kt kp e11
         refine wpList_nil ?_
         replace e0 := hE.g e0; replace e5 := hE.g e5; replace e6 := hE.g e6; replace e7 := hE.g e7; replace e9 := hE.g e9
         replace k := k.env hE
         clear hE e82
         refine Z00 (wp_seq ?_)
         refine wp_region_lit ?_
         have hE := Env.refl a100 [96, 97, 98, 99, 100, 101, 102, 103, 104, 105, 106, 107, 108, 109, 110, 111, 112, 113, 114, 115, 116, 117, 118, 119, 120, 121, 122, 4]
         refine zm 96 hE k e7 ?_
         intro a101 hE e96 kp
         refine sd 97 hE k (Z0n rfl e96 rfl) ?_
         intro a102 hE e97 kp
         refine sd 98 hE k (Z03 rfl e97) ?_
         intro a103 hE e98 kp
         apply Z04 99 hE k rfl rfl rfl rfl rfl e98
         case h =>
          exact Z03 rfl (hE.g e12)
         intro a104 hE e99 kp
         replace e98 := kt kp e98
         apply Z04 100 hE k rfl rfl rfl rfl rfl e98
         case h =>
          exact Z0n rfl e99 rfl
         intro a105 hE e100 kp
         replace e98 := kt kp e98
         refine sd 101 hE k (Z09 rfl e98 e100) ?_
         intro a106 hE e101 kp
         refine sd 102 hE k (Z03 rfl e101) ?_
         intro a107 hE e102 kp
         apply Z04 103 hE k rfl rfl rfl rfl rfl e102
         case h =>
          exact Z03 rfl (hE.g e11)
         intro a108 hE e103 kp
         replace e102 := kt kp e102
         apply Z04 104 hE k rfl rfl rfl rfl rfl e102
         case h =>
          exact Z03 rfl (hE.g e0)
         intro a109 hE e104 kp
         replace e102 := kt kp e102; replace e103 := kt kp e103
         apply Z1p 105 hE k rfl (by rfl) (by rfl) rfl rfl e102
         case h =>
          simp [go_sem, ↓IntWalk.iteOmega, ev e103, ev e104]
          with_reducible exact ⟨rfl, rfl⟩
         case hc => exact (Z4u Bl Bx xs.length cl n c0 xs xs _ rfl hxl (by omega) (by omega) (Z7n (OwnT.get O 3 rfl)) (Row.below hrow O.below)).mono (fun e w' h => (⟨h.1.trans (by rw [decide_eq_true (rfl : xs = xs)]), h.2⟩ : e = .returned (.bool true) ∧ Ext _ w'))
         rintro e w111 ⟨rfl, RE⟩
         replace O := OwnT.ext O RE
         refine ⟨_, rfl, ?_⟩
         intro a110 hE e105 kp
         replace e102 := kt kp e102
         refine sd 106 hE k (Z09 rfl e102 e105) ?_
         intro a112 hE e106 kp
         refine sd 107 hE k (Z03 rfl e106) ?_
         intro a113 hE e107 kp
         apply Z04 108 hE k rfl rfl rfl rfl rfl e107
         case h =>
          exact Z03 rfl (hE.g e5)
         intro a114 hE e108 kp
         replace e107 := kt kp e107
         apply Z04 109 hE k rfl rfl rfl rfl rfl e107
         case h =>
          simp [go_sem, ↓IntWalk.iteOmega, ev e108]
          with_reducible rfl
         intro a115 hE e109 kp
         replace e107 := kt kp e107
         apply Z04 110 hE k rfl rfl rfl rfl rfl e107
         case h =>
          exact Z03 rfl (hE.g e6)
         intro a116 hE e110 kp
         replace e107 := kt kp e107; replace e109 := kt kp e109
         apply Z1p 111 hE k rfl (by rfl) (by rfl) rfl rfl e107
         case h =>
          simp [go_sem, ↓IntWalk.iteOmega, ev e109, ev e110]
          with_reducible exact ⟨rfl, rfl⟩
         case hc => exact tCheck (R := [_]) _ O hRT (by omega) (by omega) (by omega) (by omega)
         clear O
         rintro e w118 ⟨rfl, O⟩
         refine ⟨_, rfl, ?_⟩
         intro a117 hE e111 kp
         replace e107 := kt kp e107
         apply Z04 112 hE k rfl rfl rfl rfl rfl e107
         case h =>
          exact Z0n rfl e111 rfl
         intro a119 hE e112 kp
         replace e107 := kt kp e107
         refine sd 113 hE k (Z09 rfl e107 e112) ?_
         intro a120 hE e113 kp
         refine sd 114 hE k (Z03 rfl e113) ?_
         intro a121 hE e114 kp
         apply Z04 115 hE k rfl rfl rfl rfl rfl e114
         case h =>
          exact Z03 rfl (hE.g e5)
         intro a122 hE e115 kp
         replace e114 := kt kp e114
         apply Z04 116 hE k rfl rfl rfl rfl rfl e114
         case h =>
          exact Z1e rfl e115
         intro a123 hE e116 kp
         replace e114 := kt kp e114
         apply Z04 117 hE k rfl rfl rfl rfl rfl e114
         case h =>
          simp [go_sem, ↓IntWalk.iteOmega, ev e116]
          with_reducible rfl
         intro a124 hE e117 kp
         replace e114 := kt kp e114
         apply Z04 118 hE k rfl rfl rfl rfl rfl e114
         case h =>
          have q0 : w118.cell? ⟨sb, 0, none⟩ = some (.slice B N.length cap) := (OwnT.blk O 0 rfl).cell 0
          simp [go_sem, ↓IntWalk.iteOmega, ev e117, q0]
          with_reducible rfl
         intro a125 hE e118 kp
         replace e114 := kt kp e114
         apply Z04 119 hE k rfl rfl rfl rfl rfl e114
         case h =>
          exact Z0f Try.underlying26 rfl e118
         intro a126 hE e119 kp
         replace e114 := kt kp e114
         apply Z04 120 hE k rfl rfl rfl rfl rfl e114
         case h =>
          exact Z03 rfl (hE.g e9)
         intro a127 hE e120 kp
         replace e114 := kt kp e114; replace e119 := kt kp e119
         apply Z04 121 hE k rfl rfl rfl rfl rfl e114
         case h =>
          exact Z06 (Z0n rfl e119 e120) (decide_eq_true (by omega))
         intro a128 hE e121 kp
         replace e114 := kt kp e114
         refine sd 122 hE k (Z09 rfl e114 e121) ?_
         intro a129 hE e122 kp
         refine sd 4 hE k (Z01 rfl e122) ?_
         intro a130 hE e4 kp
         refine wpList_nil ?_
         replace k := k.env hE
         clear hE e0 e5 e6 e7 e9 e11 e12
         refine Z00 ?_
         refine wp_ret ?_
         refine Z0p rfl k e4 ?_
         exact ⟨rfl, O.below⟩
     · skip
       refine wp_seq ?_
       refine wp_seq ?_
       refine wp_region_lit ?_
       have hE := Env.refl a68 [65, 66]
       refine zm 65 hE k e10 ?_
       intro a131 hE e65 kp
       refine sd 66 hE k (Z06 (Z1m rfl e65 rfl) (decide_eq_true (by omega))) ?_
       intro a132 hE e66 kp
       refine wpList_nil ?_
       replace e0 := hE.g e0; replace e5 := hE.g e5; replace e6 := hE.g e6; replace e7 := hE.g e7; replace e9 := hE.g e9; replace e10 := hE.g e10
       replace k := k.env hE
       clear hE
       refine Z00 ?_
       refine Z0g e66 rfl ?_
       refine wp_skip ?_
       refine Z00 (wp_seq ?_)
       refine wp_block ?_
       refine wp_seq ?_
       refine wp_region_lit ?_
       have hE := Env.refl a132 [70, 71, 72, 73, 74, 9]
       refine sd 70 hE k (Z03 rfl e9) ?_
       intro a133 hE e70 kp
       replace e9 := kt kp e9
       refine zm 71 hE k e10 ?_
       intro a134 hE e71 kp
       replace e9 := kt kp e9; replace e70 := kt kp e70
       refine sd 72 hE k (Z0x rfl e71 rfl (by omega)) ?_
       intro a135 hE e72 kp
       replace e9 := kt kp e9; replace e70 := kt kp e70
       replace e72 := e72.trans (Z0h (show (m : Int) + 14 = ((m + 14 : Nat) : Int) by omega))
       refine sd 73 hE k (x_quoN (m := (m + 14)) (j := 15) rfl e72 rfl rfl (by decide) (by omega)) ?_
       intro a136 hE e73 kp
       replace e9 := kt kp e9; replace e70 := kt kp e70
       refine sd 74 hE k (Z0x rfl e70 e73 (by omega)) ?_
       intro a137 hE e74 kp
       replace e9 := kt kp e9
       replace e74 := e74.trans (Z0h (show (nd : Int) + (((m + 14) / 15 : Nat) : Int) = ((nd + (m + 14) / 15 : Nat) : Int) by omega))
       refine sd 9 hE k (Z01 rfl e74) ?_
       intro a138 hE e9 kp
       refine wpList_nil ?_
       replace e0 := hE.g e0; replace e5 := hE.g e5; replace e6 := hE.g e6; replace e7 := hE.g e7; replace e10 := hE.g e10
       replace k := k.env hE
       clear hE e66
       refine Z00 ?_
       by_cases h15 : m ≤ 15
       · skip
         have hne0 := Z67 hlv (by omega) h15 hnt
         have hne : nd + (m + 14) / 15 = needF 3 n := by omega
         refine wp_seq ?_
         refine wp_region_lit ?_
         have hE := Env.refl a138 [75, 76]
         refine zm 75 hE k e10 ?_
         intro a139 hE e75 kp
         refine sd 76 hE k (Z06 (Z72 rfl e75 rfl) (decide_eq_true (by omega))) ?_
         intro a140 hE e76 kp
         refine wpList_nil ?_
         replace e0 := hE.g e0; replace e5 := hE.g e5; replace e6 := hE.g e6; replace e7 := hE.g e7; replace e9 := hE.g e9; replace e10 := hE.g e10
         replace k := k.env hE
         clear hE
         refine Z00 ?_
         refine Z0g e76 rfl ?_
         refine wp_exit ?_
         refine block_o rfl ?_
         refine Z0z ?_
         refine Z0z ?_
         refine Z1j ?_
         refine Z00 ?_
         by_cases hov : rm < needF 3 n
         · skip
           obtain ⟨-, rfl, rfl, -⟩ := hcase.resolve_left (fun h => by have := h.2.2.2.1; omega)
           refine wp_seq ?_
           refine wp_seq ?_
           refine wp_region_lit ?_
           have hE := Env.refl a140 [77, 78, 79, 80, 81, 82]
           refine zm 77 hE k e9 ?_
           intro a141 hE e77 kp
           refine zm 78 hE k e5 ?_
           intro a142 hE e78 kp
           replace e77 := kt kp e77
           refine sd 79 hE k (Z1e rfl e78) ?_
           intro a143 hE e79 kp
           replace e77 := kt kp e77
           apply Z02 80 hE k rfl rfl rfl rfl
           case h =>
            simp [go_sem, ↓IntWalk.iteOmega, ev e79]
            with_reducible rfl
           intro a144 hE e80 kp
           replace e77 := kt kp e77
           apply Z02 81 hE k rfl rfl rfl rfl
           case h =>
            have q0 : w69.cell? ⟨sb, 1, none⟩ = some (.int .i64 ↑rm) := (OwnT.blk O 0 rfl).cell 1
            simp [go_sem, ↓IntWalk.iteOmega, ev e80, q0]
            with_reducible rfl
           intro a145 hE e81 kp
           replace e77 := kt kp e77
           refine sd 82 hE k (Z06 (Z1m rfl e77 e81) (decide_eq_true (by omega))) ?_
           intro a146 hE e82 kp
           refine wpList_nil ?_
           replace e0 := hE.g e0; replace e5 := hE.g e5; replace e6 := hE.g e6; replace e7 := hE.g e7; replace e9 := hE.g e9
           replace k := k.env hE
           clear hE e10 e76
           refine Z00 ?_
           refine Z0g e82 rfl ?_
           refine wp_seq ?_
           refine wp_region_lit ?_
           have hE := Env.refl a146 [83, 84, 85, 86, 87, 88, 4]
           refine zm 83 hE k e6 ?_
           intro a147 hE e83 kp
           refine sd 84 hE k (Z06 (Z0n rfl e83 rfl) (decide_eq_true (by rfl))) ?_
           intro a148 hE e84 kp
           refine sd 85 hE k (Z03 rfl e84) ?_
           intro a149 hE e85 kp
           apply Z04 86 hE k rfl rfl rfl rfl rfl e85
           case h =>
            exact Z03 rfl (hE.g e7)
           intro a150 hE e86 kp
           replace e85 := kt kp e85
           apply Z04 87 hE k rfl rfl rfl rfl rfl e85
           case h =>
            exact Z0n rfl e86 rfl
           intro a151 hE e87 kp
           replace e85 := kt kp e85
           refine sd 88 hE k (Z09 rfl e85 e87) ?_
           intro a152 hE e88 kp
           refine sd 4 hE k (Z01 rfl e88) ?_
           intro a153 hE e4 kp
           refine wpList_nil ?_
           replace k := k.env hE
           clear hE e0 e5 e6 e7 e9 e82
           refine Z00 ?_
           refine wp_ret ?_
           refine Z0d ?_
           refine Z0p rfl k e4 ?_
           exact ⟨rfl, O.below⟩
         · skip
           obtain ⟨-, rfl, hNn, -, L, g, hRT, hLf, hgN⟩ := hcase.resolve_right (fun h => by have := h.2.2.2; omega)
           have hfl : L.flatten.length = n := by rw [hLf, hxl]
           have hkeep : L.flatten.filter (fun x => !outB 0 18446744073709551615 x) = xs := by
            rw [hLf]; refine Z1r fun x hx => ?_
            have := (hw x hx).1
            simp only [outB]; rw [decide_eq_false (by omega)]; rfl
           refine wp_seq ?_
           refine wp_seq ?_
           refine wp_region_lit ?_
           have hE := Env.refl a140 [77, 78, 79, 80, 81, 82]
           refine zm 77 hE k e9 ?_
           intro a154 hE e77 kp
           refine zm 78 hE k e5 ?_
           intro a155 hE e78 kp
           replace e77 := kt kp e77
           refine sd 79 hE k (Z1e rfl e78) ?_
           intro a156 hE e79 kp
           replace e77 := kt kp e77
           apply Z02 80 hE k rfl rfl rfl rfl
           case h =>
            simp [go_sem, ↓IntWalk.iteOmega, ev e79]
            with_reducible rfl
           intro a157 hE e80 kp
           replace e77 := kt kp e77
           apply Z02 81 hE k rfl rfl rfl rfl
           case h =>
            have q0 : w69.cell? ⟨sb, 1, none⟩ = some (.int .i64 ↑rm) := (OwnT.blk O 0 rfl).cell 1
            simp [go_sem, ↓IntWalk.iteOmega, ev e80, q0]
            with_reducible rfl
           intro a158 hE e81 kp
           replace e77 := kt kp e77
           refine sd 82 hE k (Z06 (Z1m rfl e77 e81) (decide_eq_false (by omega))) ?_
           intro a159 hE e82 kp
           refine wpList_nil ?_
           replace e0 := hE.g e0; replace e5 := hE.g e5; replace e6 := hE.g e6; replace e7 := hE.g e7; replace e9 := hE.g e9
           replace k := k.env hE
           clear hE e10 e76
           refine Z00 ?_
           refine Z05 e82 rfl ?_
           refine wp_skip ?_
           refine Z00 (wp_seq ?_)
           refine wp_region_lit ?_
           have hE := Env.refl a159 [90, 91, 92, 93, 89, 94, 95, 11, 12]
           refine zm 90 hE k e5 ?_
           intro a160 hE e90 kp
           apply Z02 91 hE k rfl rfl rfl rfl
           case h =>
            simp [go_sem, ↓IntWalk.iteOmega, ev e90]
            with_reducible rfl
           intro a161 hE e91 kp
           refine zm 92 hE k e6 ?_
           intro a162 hE e92 kp
           replace e91 := kt kp e91
           apply Z08 93 hE k rfl (by rfl) (by rfl) rfl
           case h =>
            simp [go_sem, ↓IntWalk.iteOmega, ev e91, ev e92]
            with_reducible exact ⟨rfl, rfl⟩
           case hc => exact tRange (R := []) (lo := 0) (hi := 18446744073709551615) _ O hRT (by omega) (by omega) (by omega) (by omega)
           clear O
           rintro e w164 ⟨v2, rfl, O⟩
           rw [hkeep] at O
           obtain ⟨Bl, cl, rfl, hcl2, -, hrl, -⟩ := Z0r (OwnT.get O 3 rfl)
           refine ⟨_, rfl, ?_⟩
           intro a163 hE e93 kp
           refine sd 89 hE k (Z03 rfl e93) ?_
           intro a165 hE e89 kp
           apply Z02 94 hE k rfl rfl rfl rfl
           case h =>
            simp [go_sem, ↓IntWalk.iteOmega, ev e89]
            with_reducible rfl
           intro a166 hE e94 kp
           replace e89 := kt kp e89
           apply Z02 95 hE k rfl rfl rfl rfl
           case h =>
            simp [go_sem, ↓IntWalk.iteOmega, ev e89]
            with_reducible rfl
           intro a167 hE e95 kp
           replace e94 := kt kp e94
           refine sd 11 hE k (Z01 rfl e94) ?_
           intro a168 hE e11 kp
           replace e95 := kt kp e95
           refine sd 12 hE k (Z01 rfl e95) ?_
           intro a169 hE e12 kp
           replace e11 := kt kp e11
           refine wpList_nil ?_
           replace e0 := hE.g e0; replace e5 := hE.g e5; replace e6 := hE.g e6; replace e7 := hE.g e7; replace e9 := hE.g e9
           replace k := k.env hE
           clear hE e82
           refine Z00 (wp_seq ?_)
           refine wp_region_lit ?_
           have hE := Env.refl a169 [96, 97, 98, 99, 100, 101, 102, 103, 104, 105, 106, 107, 108, 109, 110, 111, 112, 113, 114, 115, 116, 117, 118, 119, 120, 121, 122, 4]
           refine zm 96 hE k e7 ?_
           intro a170 hE e96 kp
           refine sd 97 hE k (Z0n rfl e96 rfl) ?_
           intro a171 hE e97 kp
           refine sd 98 hE k (Z03 rfl e97) ?_
           intro a172 hE e98 kp
           apply Z04 99 hE k rfl rfl rfl rfl rfl e98
           case h =>
            exact Z03 rfl (hE.g e12)
           intro a173 hE e99 kp
           replace e98 := kt kp e98
           apply Z04 100 hE k rfl rfl rfl rfl rfl e98
           case h =>
            exact Z0n rfl e99 rfl
           intro a174 hE e100 kp
           replace e98 := kt kp e98
           refine sd 101 hE k (Z09 rfl e98 e100) ?_
           intro a175 hE e101 kp
           refine sd 102 hE k (Z03 rfl e101) ?_
           intro a176 hE e102 kp
           apply Z04 103 hE k rfl rfl rfl rfl rfl e102
           case h =>
            exact Z03 rfl (hE.g e11)
           intro a177 hE e103 kp
           replace e102 := kt kp e102
           apply Z04 104 hE k rfl rfl rfl rfl rfl e102
           case h =>
            exact Z03 rfl (hE.g e0)
           intro a178 hE e104 kp
           replace e102 := kt kp e102; replace e103 := kt kp e103
           apply Z1p 105 hE k rfl (by rfl) (by rfl) rfl rfl e102
           case h =>
            simp [go_sem, ↓IntWalk.iteOmega, ev e103, ev e104]
            with_reducible exact ⟨rfl, rfl⟩
           case hc => exact (Z4u Bl Bx xs.length cl n c0 xs xs _ rfl hxl (by omega) (by omega) (Z7n (OwnT.get O 3 rfl)) (Row.below hrow O.below)).mono (fun e w' h => (⟨h.1.trans (by rw [decide_eq_true (rfl : xs = xs)]), h.2⟩ : e = .returned (.bool true) ∧ Ext _ w'))
           rintro e w180 ⟨rfl, RE⟩
           replace O := OwnT.ext O RE
           refine ⟨_, rfl, ?_⟩
           intro a179 hE e105 kp
           replace e102 := kt kp e102
           refine sd 106 hE k (Z09 rfl e102 e105) ?_
           intro a181 hE e106 kp
           refine sd 107 hE k (Z03 rfl e106) ?_
           intro a182 hE e107 kp
           apply Z04 108 hE k rfl rfl rfl rfl rfl e107
           case h =>
            exact Z03 rfl (hE.g e5)
           intro a183 hE e108 kp
           replace e107 := kt kp e107
           apply Z04 109 hE k rfl rfl rfl rfl rfl e107
           case h =>
            simp [go_sem, ↓IntWalk.iteOmega, ev e108]
            with_reducible rfl
           intro a184 hE e109 kp
           replace e107 := kt kp e107
           apply Z04 110 hE k rfl rfl rfl rfl rfl e107
           case h =>
            exact Z03 rfl (hE.g e6)
           intro a185 hE e110 kp
           replace e107 := kt kp e107; replace e109 := kt kp e109
           apply Z1p 111 hE k rfl (by rfl) (by rfl) rfl rfl e107
           case h =>
            simp [go_sem, ↓IntWalk.iteOmega, ev e109, ev e110]
            with_reducible exact ⟨rfl, rfl⟩
           case hc => exact tCheck (R := [_]) _ O hRT (by omega) (by omega) (by omega) (by omega)
           clear O
           rintro e w187 ⟨rfl, O⟩
           refine ⟨_, rfl, ?_⟩
           intro a186 hE e111 kp
           replace e107 := kt kp e107
           apply Z04 112 hE k rfl rfl rfl rfl rfl e107
           case h =>
            exact Z0n rfl e111 rfl
           intro a188 hE e112 kp
           replace e107 := kt kp e107
           refine sd 113 hE k (Z09 rfl e107 e112) ?_
           intro a189 hE e113 kp
           refine sd 114 hE k (Z03 rfl e113) ?_
           intro a190 hE e114 kp
           apply Z04 115 hE k rfl rfl rfl rfl rfl e114
           case h =>
            exact Z03 rfl (hE.g e5)
           intro a191 hE e115 kp
           replace e114 := kt kp e114
           apply Z04 116 hE k rfl rfl rfl rfl rfl e114
           case h =>
            exact Z1e rfl e115
           intro a192 hE e116 kp
           replace e114 := kt kp e114
           apply Z04 117 hE k rfl rfl rfl rfl rfl e114
           case h =>
            simp [go_sem, ↓IntWalk.iteOmega, ev e116]
            with_reducible rfl
           intro a193 hE e117 kp
           replace e114 := kt kp e114
           apply Z04 118 hE k rfl rfl rfl rfl rfl e114
           case h =>
            have q0 : w187.cell? ⟨sb, 0, none⟩ = some (.slice B N.length cap) := (OwnT.blk O 0 rfl).cell 0
            simp [go_sem, ↓IntWalk.iteOmega, ev e117, q0]
            with_reducible rfl
           intro a194 hE e118 kp
           replace e114 := kt kp e114
           apply Z04 119 hE k rfl rfl rfl rfl rfl e114
           case h =>
            exact Z0f Try.underlying26 rfl e118
           intro a195 hE e119 kp
           replace e114 := kt kp e114
           apply Z04 120 hE k rfl rfl rfl rfl rfl e114
           case h =>
            exact Z03 rfl (hE.g e9)
           intro a196 hE e120 kp
           replace e114 := kt kp e114; replace e119 := kt kp e119
           apply Z04 121 hE k rfl rfl rfl rfl rfl e114
           case h =>
            exact Z06 (Z0n rfl e119 e120) (decide_eq_true (by omega))
           intro a197 hE e121 kp
           replace e114 := kt kp e114
           refine sd 122 hE k (Z09 rfl e114 e121) ?_
           intro a198 hE e122 kp
           refine sd 4 hE k (Z01 rfl e122) ?_
           intro a199 hE e4 kp
           refine wpList_nil ?_
           replace k := k.env hE
           clear hE e0 e5 e6 e7 e9 e11 e12
           refine Z00 ?_
           refine wp_ret ?_
           refine Z0p rfl k e4 ?_
           exact ⟨rfl, O.below⟩
       · skip
         obtain ⟨hq1, hq2⟩ := Z4y hlv (by omega) hnt
         refine wp_seq ?_
         refine wp_region_lit ?_
         have hE := Env.refl a138 [75, 76]
         refine zm 75 hE k e10 ?_
         intro a200 hE e75 kp
         refine sd 76 hE k (Z06 (Z72 rfl e75 rfl) (decide_eq_false (by omega))) ?_
         intro a201 hE e76 kp
         refine wpList_nil ?_
         replace e0 := hE.g e0; replace e5 := hE.g e5; replace e6 := hE.g e6; replace e7 := hE.g e7; replace e9 := hE.g e9; replace e10 := hE.g e10
         replace k := k.env hE
         clear hE
         refine Z00 ?_
         refine Z05 e76 rfl ?_
         refine wp_skip ?_
         refine Z0t ?_
         refine Z00 ?_
         refine wp_region_lit ?_
         have hE := Env.refl a201 [67, 68, 69, 10]
         refine sd 67 hE k (Z03 rfl e10) ?_
         intro a202 hE e67 kp
         replace e10 := kt kp e10
         refine sd 68 hE k (Z0x rfl e67 rfl (by omega)) ?_
         intro a203 hE e68 kp
         replace e10 := kt kp e10
         replace e68 := e68.trans (Z0h (show (m : Int) + 14 = ((m + 14 : Nat) : Int) by omega))
         refine sd 69 hE k (x_quoN (m := (m + 14)) (j := 15) rfl e68 rfl rfl (by decide) (by omega)) ?_
         intro a204 hE e69 kp
         replace e10 := kt kp e10
         refine sd 10 hE k (Z01 rfl e69) ?_
         intro a205 hE e10 kp
         refine wpList_nil ?_
         replace e0 := hE.g e0; replace e5 := hE.g e5; replace e6 := hE.g e6; replace e7 := hE.g e7; replace e9 := hE.g e9
         replace k := k.env hE
         clear hE e76
         refine Z00 ?_
         refine ⟨⟨k, e0, e5, e6, e7, l + 1, (m + 14) / 15, nd + (m + 14) / 15, e9, e10, hq2, hq1, O⟩, ?_⟩
         rw [e10, mi]; simp only [intOf]; omega
theorem treeBuilds_walk (w : World) (v0 v1 : Value) (h0 : Arg Try.prog w 29 v0) (h1 : Arg Try.prog w 3 v1) :
 Calls Try.prog 6 #[v0, v1] w fun e w' => e = .returned (.bool true) ∧ Below w.heap.size w w' := by
 obtain ⟨x1, rfl, _⟩ := arg_int Try.underlying3 h1
 obtain ⟨A, n, c, xs, rfl, a1, a2, a3, a4, a5⟩ := arg_prd h0
 exact Z38 x1 w a5 a3 a1 a2 a4
section
open Go.ChangeShapes Go.WideShapes Go.ChangeAt
theorem Arg.mk_ {P : Program} {w : World} {t : TypeId} {v : Value} {H : Type} {enc : TypeId × Value → H} {d : DataW H} {p : List MemPlace} {r : Reach} {base : Nat} (h : DataW.Trod enc P w 0 (fun _ => true) true t v d p) (hv : Value.okWide P w r base t v) : Arg P w t v := by
  obtain ⟨fuel, hf⟩ := h
  exact ⟨⟨H, enc, fuel, _, hf⟩, r, base, hv⟩
end
end Go.Proofs.Ytngehbhhpkkijaa
