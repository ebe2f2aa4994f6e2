/- trees: Range (printed by XTrRg.gen.py). -/
import Derived.Test.YtngehbhhpkkijaaKTreeBuilds24
namespace Go.Proofs.Ytngehbhhpkkijaa
attribute [local simp] BigFrame.eval_const BigFrame.eval_global BigFrame.eval_func
set_option linter.unusedVariables false
set_option linter.unusedSimpArgs false
open Go.RowKit Go.Maps

theorem Z33 {w w' : World} {a : Addr} {v : Value} (h : Below w.heap.size w w') (hc : w.cell? a = some v) : w'.cell? a = some v := by
 rw [h.cell (World.block_lt_of_cell? w a hc)]; exact hc
set_option maxRecDepth 100000 in
set_option maxHeartbeats 4000000 in
theorem rgout {b1 b2 lo hi ky v : Nat} (W0 : World) (c1 : W0.cell? ⟨b1, 0, none⟩ = some (.int .u64 (lo : Nat))) (c2 : W0.cell? ⟨b2, 0, none⟩ = some (.int .u64 (hi : Nat))) : Calls Try.prog 63 #[.agg #[.int .u64 (ky : Nat), .int .u64 (v : Nat)], .pointer (some ⟨b1, 0, none⟩), .pointer (some ⟨b2, 0, none⟩)] W0 fun e w' => e = .returned (.bool (decide (ky < lo ∨ hi < ky))) ∧ Ext W0 w' := by
 have O := OwnT.start W0
 refine Z0c Try.func63 rfl 15 rfl (by rfl) ?_
 intro a1 k hargs
 have e0 : a1.eval (.tmp 0) = .agg #[.int .u64 ↑ky, .int .u64 ↑v] := hargs 0 _ rfl
 have e1 : a1.eval (.tmp 1) = .pointer (some ⟨b1, 0, none⟩) := hargs 1 _ rfl
 have e2 : a1.eval (.tmp 2) = .pointer (some ⟨b2, 0, none⟩) := hargs 2 _ rfl
 clear hargs
 refine wp_seq ?_
 refine wp_region_lit ?_
 have hE := Env.refl a1 [3, 4]
 refine Z0k O (cs := #[.int .u64 ↑ky, .int .u64 ↑v]) (t := 38) 3 hE k rfl (by rfl) (by rfl) rfl (by simp [go_sem, ↓IntWalk.iteOmega, ev (hE.g e0)]) ?_
 clear O
 intro kb a2 w3 O hE e3 kp
 refine sd 4 hE k (Z01 rfl rfl) ?_
 intro a4 hE e4 kp
 replace e3 := kt kp e3
 refine wpList_nil ?_
 replace e1 := hE.g e1; replace e2 := hE.g e2
 replace k := k.env hE
 clear hE e0 e4
 refine Z00 ?_
 have d1 := Z33 O.below c1
 have d2 := Z33 O.below c2
 by_cases hk : ky < lo
 · skip
   refine wp_seq ?_
   refine wp_region_lit ?_
   have hE := Env.refl a4 [5, 6, 7, 8, 9, 10, 11, 12, 13, 14, 4]
   apply Z02 5 hE k rfl rfl rfl rfl
   case h =>
    simp [go_sem, ↓IntWalk.iteOmega, ev (hE.g e3)]
    with_reducible rfl
   intro a5 hE e5 kp
   apply Z02 6 hE k rfl rfl rfl rfl
   case h =>
    have q0 : w3.cell? ⟨kb, 0, none⟩ = some (.int .u64 ↑ky) := (OwnT.blk O 0 rfl).cell 0
    simp [go_sem, ↓IntWalk.iteOmega, ev e5, q0]
    with_reducible rfl
   intro a6 hE e6 kp
   apply Z02 7 hE k rfl rfl rfl rfl
   case h =>
    simp [go_sem, ↓IntWalk.iteOmega, ev (hE.g e1), d1]
    with_reducible rfl
   intro a7 hE e7 kp
   replace e6 := kt kp e6
   refine sd 8 hE k (Z06 (Z1c rfl e6 e7) (decide_eq_true (by omega))) ?_
   intro a8 hE e8 kp
   refine sd 9 hE k (Z03 rfl e8) ?_
   intro a9 hE e9 kp
   refine Z1u 10 hE k rfl (by rfl) (by rfl) rfl rfl (.inl e9) ?_
   intro a10 hE e10 kp
   replace e9 := kt kp e9
   refine Z1u 11 hE k rfl (by rfl) (by rfl) rfl rfl (.inl e9) ?_
   intro a11 hE e11 kp
   replace e9 := kt kp e9
   refine Z1u 12 hE k rfl (by rfl) (by rfl) rfl rfl (.inl e9) ?_
   intro a12 hE e12 kp
   replace e9 := kt kp e9; replace e11 := kt kp e11
   refine Z1u 13 hE k rfl (by rfl) (by rfl) rfl rfl (.inl e9) ?_
   intro a13 hE e13 kp
   replace e9 := kt kp e9
   refine sd 14 hE k (Z09 rfl e9 rfl) ?_
   intro a14 hE e14 kp
   refine sd 4 hE k (Z01 rfl e14) ?_
   intro a15 hE e4 kp
   refine wpList_nil ?_
   replace k := k.env hE
   clear hE e1 e2 e3
   refine Z00 ?_
   refine wp_ret ?_
   refine Z0p rfl k e4 ?_
   exact ⟨by rw [decide_eq_true (Or.inl hk)]; rfl, O.below⟩
 · skip
   by_cases hk2 : hi < ky
   · skip
     refine wp_seq ?_
     refine wp_region_lit ?_
     have hE := Env.refl a4 [5, 6, 7, 8, 9, 10, 11, 12, 13, 14, 4]
     apply Z02 5 hE k rfl rfl rfl rfl
     case h =>
      simp [go_sem, ↓IntWalk.iteOmega, ev (hE.g e3)]
      with_reducible rfl
     intro a16 hE e5 kp
     apply Z02 6 hE k rfl rfl rfl rfl
     case h =>
      have q0 : w3.cell? ⟨kb, 0, none⟩ = some (.int .u64 ↑ky) := (OwnT.blk O 0 rfl).cell 0
      simp [go_sem, ↓IntWalk.iteOmega, ev e5, q0]
      with_reducible rfl
     intro a17 hE e6 kp
     apply Z02 7 hE k rfl rfl rfl rfl
     case h =>
      simp [go_sem, ↓IntWalk.iteOmega, ev (hE.g e1), d1]
      with_reducible rfl
     intro a18 hE e7 kp
     replace e6 := kt kp e6
     refine sd 8 hE k (Z06 (Z1c rfl e6 e7) (decide_eq_false (by omega))) ?_
     intro a19 hE e8 kp
     refine sd 9 hE k (Z03 rfl e8) ?_
     intro a20 hE e9 kp
     apply Z04 10 hE k rfl rfl rfl rfl rfl e9
     case h =>
      simp [go_sem, ↓IntWalk.iteOmega, ev (hE.g e3)]
      with_reducible rfl
     intro a21 hE e10 kp
     replace e9 := kt kp e9
     apply Z04 11 hE k rfl rfl rfl rfl rfl e9
     case h =>
      have q0 : w3.cell? ⟨kb, 0, none⟩ = some (.int .u64 ↑ky) := (OwnT.blk O 0 rfl).cell 0
      simp [go_sem, ↓IntWalk.iteOmega, ev e10, q0]
      with_reducible rfl
     intro a22 hE e11 kp
     replace e9 := kt kp e9
     apply Z04 12 hE k rfl rfl rfl rfl rfl e9
     case h =>
      simp [go_sem, ↓IntWalk.iteOmega, ev (hE.g e2), d2]
      with_reducible rfl
     intro a23 hE e12 kp
     replace e9 := kt kp e9; replace e11 := kt kp e11
     apply Z04 13 hE k rfl rfl rfl rfl rfl e9
     case h =>
      exact Z06 (Z1m rfl e11 e12) (decide_eq_true (by omega))
     intro a24 hE e13 kp
     replace e9 := kt kp e9
     refine sd 14 hE k (Z0e rfl e9 e13) ?_
     intro a25 hE e14 kp
     refine sd 4 hE k (Z01 rfl e14) ?_
     intro a26 hE e4 kp
     refine wpList_nil ?_
     replace k := k.env hE
     clear hE e1 e2 e3
     refine Z00 ?_
     refine wp_ret ?_
     refine Z0p rfl k e4 ?_
     exact ⟨by rw [decide_eq_true (Or.inr hk2)], O.below⟩
   · skip
     refine wp_seq ?_
     refine wp_region_lit ?_
     have hE := Env.refl a4 [5, 6, 7, 8, 9, 10, 11, 12, 13, 14, 4]
     apply Z02 5 hE k rfl rfl rfl rfl
     case h =>
      simp [go_sem, ↓IntWalk.iteOmega, ev (hE.g e3)]
      with_reducible rfl
     intro a27 hE e5 kp
     apply Z02 6 hE k rfl rfl rfl rfl
     case h =>
      have q0 : w3.cell? ⟨kb, 0, none⟩ = some (.int .u64 ↑ky) := (OwnT.blk O 0 rfl).cell 0
      simp [go_sem, ↓IntWalk.iteOmega, ev e5, q0]
      with_reducible rfl
     intro a28 hE e6 kp
     apply Z02 7 hE k rfl rfl rfl rfl
     case h =>
      simp [go_sem, ↓IntWalk.iteOmega, ev (hE.g e1), d1]
      with_reducible rfl
     intro a29 hE e7 kp
     replace e6 := kt kp e6
     refine sd 8 hE k (Z06 (Z1c rfl e6 e7) (decide_eq_false (by omega))) ?_
     intro a30 hE e8 kp
     refine sd 9 hE k (Z03 rfl e8) ?_
     intro a31 hE e9 kp
     apply Z04 10 hE k rfl rfl rfl rfl rfl e9
     case h =>
      simp [go_sem, ↓IntWalk.iteOmega, ev (hE.g e3)]
      with_reducible rfl
     intro a32 hE e10 kp
     replace e9 := kt kp e9
     apply Z04 11 hE k rfl rfl rfl rfl rfl e9
     case h =>
      have q0 : w3.cell? ⟨kb, 0, none⟩ = some (.int .u64 ↑ky) := (OwnT.blk O 0 rfl).cell 0
      simp [go_sem, ↓IntWalk.iteOmega, ev e10, q0]
      with_reducible rfl
     intro a33 hE e11 kp
     replace e9 := kt kp e9
     apply Z04 12 hE k rfl rfl rfl rfl rfl e9
     case h =>
      simp [go_sem, ↓IntWalk.iteOmega, ev (hE.g e2), d2]
      with_reducible rfl
     intro a34 hE e12 kp
     replace e9 := kt kp e9; replace e11 := kt kp e11
     apply Z04 13 hE k rfl rfl rfl rfl rfl e9
     case h =>
      exact Z06 (Z1m rfl e11 e12) (decide_eq_false (by omega))
     intro a35 hE e13 kp
     replace e9 := kt kp e9
     refine sd 14 hE k (Z0e rfl e9 e13) ?_
     intro a36 hE e14 kp
     refine sd 4 hE k (Z01 rfl e14) ?_
     intro a37 hE e4 kp
     refine wpList_nil ?_
     replace k := k.env hE
     clear hE e1 e2 e3
     refine Z00 ?_
     refine wp_ret ?_
     refine Z0p rfl k e4 ?_
     exact ⟨by rw [decide_eq_false (fun h => h.elim hk hk2)], O.below⟩
abbrev outB (lo hi : Nat) (x : Pr) : Bool := decide (x.1 < lo ∨ hi < x.1)
set_option maxRecDepth 100000 in
set_option maxHeartbeats 4000000 in
theorem Z6w {g o b1 b2 lo hi cap n : Nat} (ps : List Pr) (W0 : World) (hl : ps.length = n) (hrow : Row W0 (some ⟨g, o, none⟩) 2 pairC ps) (hn : n ≤ 1000000) (c1 : W0.cell? ⟨b1, 0, none⟩ = some (.int .u64 (lo : Nat))) (c2 : W0.cell? ⟨b2, 0, none⟩ = some (.int .u64 (hi : Nat))) : Calls Try.prog 86 #[.slice (some ⟨g, o, none⟩) n cap, .func (.func 63) #[] #[.pointer (some ⟨b1, 0, none⟩), .pointer (some ⟨b2, 0, none⟩)]] W0 fun e w' => Ext W0 w' ∧ ∃ r : Int, e = .returned (.int .i64 r) ∧ ((r = -1 ∧ ∀ y ∈ ps, outB lo hi y = false) ∨ ∃ i y, r = (i : Nat) ∧ ps[i]? = some y ∧ outB lo hi y = true ∧ ∀ z ∈ ps.take i, outB lo hi z = false) := by
 have O := OwnT.start W0
 refine Z0c Try.func86 rfl 19 rfl (by rfl) ?_
 intro a1 k hargs
 have e0 : a1.eval (.tmp 0) = .slice (some ⟨g, o, none⟩) n cap := hargs 0 _ rfl
 have e1 : a1.eval (.tmp 1) = .func (.func 63) #[] #[.pointer (some ⟨b1, 0, none⟩), .pointer (some ⟨b2, 0, none⟩)] := hargs 1 _ rfl
 clear hargs
 refine wp_seq ?_
 refine wp_region_lit ?_
 have hE := Env.refl a1 [4]
 refine sd 4 hE k (Z01 rfl rfl) ?_
 intro a2 hE e4 kp
 refine wpList_nil ?_
 replace e0 := hE.g e0; replace e1 := hE.g e1
 replace k := k.env hE
 clear hE e4
 refine Z00 (wp_seq ?_)
 refine wp_seq ?_
 refine wp_region_lit ?_
 have hE := Env.refl a2 [6, 7, 8]
 refine zm 6 hE k e0 ?_
 intro a3 hE e6 kp
 refine sd 7 hE k (Z0f Try.underlying29 rfl e6) ?_
 intro a4 hE e7 kp
 refine sd 8 hE k (Z03 rfl rfl) ?_
 intro a5 hE e8 kp
 replace e7 := kt kp e7
 refine wpList_nil ?_
 replace e0 := hE.g e0; replace e1 := hE.g e1
 replace k := k.env hE
 clear hE
 refine Z00 ?_
 refine wp_block ?_
 refine wp_loop (fun a w => Fr 19 a ∧ a.eval (.tmp 0) = .slice (some ⟨g, o, none⟩) n cap ∧ a.eval (.tmp 1) = .func (.func 63) #[] #[.pointer (some ⟨b1, 0, none⟩), .pointer (some ⟨b2, 0, none⟩)] ∧ a.eval (.tmp 7) = .int .i64 ↑n ∧ ∃ z : Nat, a.eval (.tmp 8) = .int .i64 ↑z ∧ z ≤ n ∧ (∀ y ∈ ps.take z, outB lo hi y = false) ∧ OwnT W0.heap.size W0 [] w) (fun a w => n - (intOf (a.eval (.tmp 8))).toNat) ?_ ?_
 · exact ⟨k, e0, e1, e7, 0, e8, Nat.zero_le _, (fun y h => by simp at h), O⟩
 intro a6 w7 hI
 clear k e0 e1 e7
 obtain ⟨k, e0, e1, e7, h_⟩ := hI
 clear O e8
 obtain ⟨z, e8, hz, hall, O⟩ := h_
 have mz := e8
 by_cases hlt : z < n
 · skip
   have hzI : (z : Int) < (n : Int) := by omega
   obtain ⟨y, hy⟩ : ∃ y, ps[z]? = some y := ⟨_, List.getElem?_eq_getElem (by omega)⟩
   have d0 : w7.cell? ⟨g, o + z * 2, none⟩ = some (.int .u64 (y.1 : Int)) := by
    obtain ⟨b, o2, e, _, hc⟩ := (hrow.below O.below) z y hy; injection e with e; injection e with e e'; subst e e'
    have := hc 0 _ rfl; simpa using this
   have d1 : w7.cell? ⟨g, o + z * 2 + 1, none⟩ = some (.int .u64 (y.2 : Int)) := by
    obtain ⟨b, o2, e, _, hc⟩ := (hrow.below O.below) z y hy; injection e with e; injection e with e e'; subst e e'
    have := hc 1 _ rfl; simpa using this
   obtain ⟨bb, hbb⟩ : ∃ b, outB lo hi y = b := ⟨_, rfl⟩
   refine wp_seq ?_
   refine wp_region_lit ?_
   have hE := Env.refl a6 [9]
   refine sd 9 hE k (Z06 (Z1c rfl (hE.g e8) (hE.g e7)) (decide_eq_true (by omega))) ?_
   intro a8 hE e9 kp
   refine wpList_nil ?_
   replace e0 := hE.g e0; replace e1 := hE.g e1; replace e7 := hE.g e7; replace e8 := hE.g e8
   replace k := k.env hE
   clear hE
   refine Z00 (wp_seq ?_)
   refine Z0g e9 rfl ?_
   refine wp_skip ?_
   refine Z00 (wp_seq ?_)
   refine wp_block ?_
   refine wp_seq ?_
   refine wp_region_lit ?_
   have hE := Env.refl a8 [10, 5]
   refine zm 10 hE k e8 ?_
   intro a9 hE e10 kp
   refine sd 5 hE k (Z01 rfl e10) ?_
   intro a10 hE e5 kp
   refine wpList_nil ?_
   replace e0 := hE.g e0; replace e1 := hE.g e1; replace e7 := hE.g e7; replace e8 := hE.g e8
   replace k := k.env hE
   clear hE e9
   refine Z00 (wp_seq ?_)
   refine wp_region_lit ?_
   have hE := Env.refl a10 [11, 12, 13, 14, 15, 16]
   refine zm 11 hE k e1 ?_
   intro a11 hE e11 kp
   refine zm 12 hE k e0 ?_
   intro a12 hE e12 kp
   replace e11 := kt kp e11
   refine zm 13 hE k e5 ?_
   intro a13 hE e13 kp
   replace e11 := kt kp e11; replace e12 := kt kp e12
   apply Z02 14 hE k rfl rfl rfl rfl
   case h =>
    simp [go_sem, ↓IntWalk.iteOmega, ev e12, ev e13]
    with_reducible rfl
   intro a14 hE e14 kp
   replace e11 := kt kp e11
   apply Z02 15 hE k rfl rfl rfl rfl
   case h =>
    simp [go_sem, ↓IntWalk.iteOmega, ev e14, d0, d1]
    with_reducible rfl
   intro a15 hE e15 kp
   replace e11 := kt kp e11
   apply Z08 16 hE k rfl (by rfl) (by rfl) rfl
   case h =>
    simp [go_sem, ↓IntWalk.iteOmega, ev e11, ev e15]
    with_reducible exact ⟨rfl, rfl⟩
   case hc => exact rgout _ (Z33 O.below c1) (Z33 O.below c2)
   rintro e w17 ⟨rfl, RE⟩
   replace O := OwnT.ext O RE
   refine ⟨_, congrArg (fun b => Ending.returned (.bool b)) hbb, ?_⟩
   intro a16 hE e16 kp
   refine wpList_nil ?_
   replace e0 := hE.g e0; replace e1 := hE.g e1; replace e5 := hE.g e5; replace e7 := hE.g e7; replace e8 := hE.g e8
   replace k := k.env hE
   clear hE
   refine Z00 ?_
   cases bb with
   | true =>
    refine Z0g e16 (rfl) ?_
    clear e0 e1 e7 e8 e16
    refine wp_seq ?_
    refine wp_region_lit ?_
    have hE := Env.refl a16 [17, 4]
    refine zm 17 hE k e5 ?_
    intro a18 hE e17 kp
    refine sd 4 hE k (Z01 rfl e17) ?_
    intro a19 hE e4 kp
    refine wpList_nil ?_
    replace k := k.env hE
    clear hE e5
    refine Z00 ?_
    refine wp_ret ?_
    refine Z0s ?_
    refine Z0d ?_
    refine Z0d ?_
    refine Z0s ?_
    refine Z0d ?_
    refine Z0p rfl k e4 ?_
    exact ⟨O.below, _, rfl, .inr ⟨z, y, rfl, hy, hbb, hall⟩⟩
   | false =>
    refine Z05 e16 (rfl) ?_
    clear e5 e16
    refine wp_skip ?_
    refine Z0t ?_
    refine Z00 ?_
    refine wp_region_lit ?_
    have hE := Env.refl a16 [18, 8]
    refine sd 18 hE k (Z0x rfl e8 rfl (by omega)) ?_
    intro a20 hE e18 kp
    replace e8 := kt kp e8
    refine sd 8 hE k (Z03 rfl e18) ?_
    intro a21 hE e8 kp
    refine wpList_nil ?_
    replace e0 := hE.g e0; replace e1 := hE.g e1; replace e7 := hE.g e7
    replace k := k.env hE
    clear hE
    refine Z00 ?_
    refine ⟨⟨k, e0, e1, e7, z + 1, e8, by omega, fun u hu => by
     rw [List.take_add_one, hy] at hu; rcases List.mem_append.1 hu with hu | hu
     · exact hall u hu
     · obtain rfl : u = y := by simpa using hu
       exact hbb, O⟩, ?_⟩
    rw [e8, mz]; simp only [intOf]; omega
 · skip
   rw [List.take_of_length_le (by omega)] at hall
   refine wp_seq ?_
   refine wp_region_lit ?_
   have hE := Env.refl a6 [9]
   refine sd 9 hE k (Z06 (Z1c rfl (hE.g e8) (hE.g e7)) (decide_eq_false (by omega))) ?_
   intro a22 hE e9 kp
   refine wpList_nil ?_
   replace e0 := hE.g e0; replace e1 := hE.g e1; replace e7 := hE.g e7; replace e8 := hE.g e8
   replace k := k.env hE
   clear hE
   refine Z00 (wp_seq ?_)
   refine Z05 e9 rfl ?_
   refine wp_exit ?_
   refine Z0z ?_
   refine Z0z ?_
   refine Z1j ?_
   refine Z00 (wp_seq ?_)
   refine wp_region_lit ?_
   have hE := Env.refl a22 [4]
   refine sd 4 hE k (Z01 rfl rfl) ?_
   intro a23 hE e4 kp
   refine wpList_nil ?_
   replace k := k.env hE
   clear hE e0 e1 e7 e8 e9
   refine Z00 ?_
   refine wp_ret ?_
   refine Z0p rfl k e4 ?_
   exact ⟨O.below, _, rfl, .inl ⟨rfl, hall⟩⟩
theorem Z8a {α : Type} {ys : List α} {i : Nat} {y : α} (h : i < ys.length) : (ys.set i y).take (i + 1) = ys.take i ++ [y] := by
 rw [List.take_add_one, List.getElem?_set_self h, List.take_set_of_le (Nat.le_refl _)]; rfl
theorem Z70 {H : Nat} {A w : World} {R : List Thing} {g cap i : Nat} {ys : List Pr} (O : OwnT H A (tPs (.slice (some ⟨g, 0, none⟩) ys.length cap) ys :: R) w) (hi : i < ys.length) :
 ∃ w', (∀ ty, (Builtin.clear_ #[29] ty #[.slice (some ⟨g, i * 2, none⟩) (ys.length - i) (cap - i)]).run Try.prog w = .ok (.tuple #[]) w') ∧ OwnT H A (tPs (.slice (some ⟨g, 0, none⟩) (ys.take i).length cap) (ys.take i) :: R) w' := by
 obtain ⟨g', cap', cur, e, h1, h2, h3, h4, O2⟩ := O.rowBlk (by omega)
 injection e with e1 _ e3
 injection e1 with e1
 injection e1 with e1
 subst e1 e3
 obtain ⟨ti, hti, hz, hsz, hby⟩ := Z22
 have hzl : (Builtin.zeroCells zPair.cells (ys.length - i)).toList.length = (ys.length - i) * 2 := by simp [Builtin.zeroCells, Value.cells]
 refine ⟨w.setRow g (splice cur (i * 2) (Builtin.zeroCells zPair.cells (ys.length - i)).toList).toArray, fun ty => ?_, ?_⟩
 · have := Z3c (P := Try.prog) w 29 38 ty ti zPair Try.underlying29 hti hz g (i * 2) (ys.length - i) (cap - i) cur.toArray 38 O2.b0 (by omega) (by simp [Value.cells]; omega) (Z3q _)
   simpa using this
 · refine (O2.setRowB _).blkRow (by rw [List.length_take]; omega) h2 ?_ ?_
   · unfold splice; simp only [List.length_append, List.length_take, List.length_drop, hzl]; omega
   · rw [List.length_take, Nat.min_eq_left (by omega), Z26 (by omega) (by omega)]
     have h5 : cur.take (i * 2) = (cur.take (ys.length * 2)).take (i * 2) := by rw [List.take_take, Nat.min_eq_left (by omega)]
     rw [h5, h4]
     have h6 : flatP ys = flatP (ys.take i) ++ flatP (ys.drop i) := by rw [flatP, flatP, flatP, ← List.flatMap_append, List.take_append_drop]
     rw [h6, List.take_append_of_le_length (by rw [Z0w, List.length_take]; omega), List.take_of_length_le (by rw [Z0w, List.length_take]; omega)]

set_option maxRecDepth 100000 in
set_option maxHeartbeats 4000000 in
theorem Z5u {H : Nat} {A0 : World} {R : List Thing} {g b1 b2 lo hi cap : Nat} (ps : List Pr) (w : World) (O : OwnT H A0 ((tPs (.slice (some ⟨g, 0, none⟩) ps.length cap) ps) :: (tBlk b1 30 #[.int .u64 ↑lo]) :: (tBlk b2 30 #[.int .u64 ↑hi]) :: R) w) (hn : ps.length ≤ 1000000) : Calls Try.prog 62 #[.slice (some ⟨g, 0, none⟩) ps.length cap, .func (.func 63) #[] #[.pointer (some ⟨b1, 0, none⟩), .pointer (some ⟨b2, 0, none⟩)]] w fun e w' => e = .returned (.slice (some ⟨g, 0, none⟩) (ps.filter (fun x => !outB lo hi x)).length cap) ∧ OwnT H A0 (tPs (.slice (some ⟨g, 0, none⟩) (ps.filter (fun x => !outB lo hi x)).length cap) (ps.filter (fun x => !outB lo hi x)) :: (tBlk b1 30 #[.int .u64 ↑lo]) :: (tBlk b2 30 #[.int .u64 ↑hi]) :: R) w' := by
 refine Z0c Try.func62 rfl 42 rfl (by rfl) ?_
 intro a1 k hargs
 have e0 : a1.eval (.tmp 0) = .slice (some ⟨g, 0, none⟩) ps.length cap := hargs 0 _ rfl
 have e1 : a1.eval (.tmp 1) = .func (.func 63) #[] #[.pointer (some ⟨b1, 0, none⟩), .pointer (some ⟨b2, 0, none⟩)] := hargs 1 _ rfl
 clear hargs
 obtain ⟨_, _, e2q, hlc, hcm, hrow, -⟩ := Z0r (OwnT.t0 O)
 injection e2q with e2q _ e3q
 subst e2q e3q
 refine wp_seq ?_
 refine wp_region_lit ?_
 have hE := Env.refl a1 [4]
 refine sd 4 hE k (Z01 rfl rfl) ?_
 intro a2 hE e4 kp
 refine wpList_nil ?_
 replace e0 := hE.g e0; replace e1 := hE.g e1
 replace k := k.env hE
 clear hE e4
 refine Z00 (wp_seq ?_)
 refine wp_region_lit ?_
 have hE := Env.refl a2 [8, 9, 10, 5]
 refine zm 8 hE k e0 ?_
 intro a3 hE e8 kp
 refine zm 9 hE k e1 ?_
 intro a4 hE e9 kp
 replace e8 := kt kp e8
 apply Z08 10 hE k rfl (by rfl) (by rfl) rfl
 case h =>
  simp [go_sem, ↓IntWalk.iteOmega, ev e8, ev e9]
  with_reducible exact ⟨rfl, rfl⟩
 case hc => exact Z6w ps _ rfl hrow hn ((OwnT.blk O 1 rfl).cell 0) ((OwnT.blk O 2 rfl).cell 0)
 rintro e w6 ⟨RE, r, rfl, hr⟩
 replace O := OwnT.ext O RE
 refine ⟨_, rfl, ?_⟩
 intro a5 hE e10 kp
 refine sd 5 hE k (Z01 rfl e10) ?_
 intro a7 hE e5 kp
 refine wpList_nil ?_
 replace e0 := hE.g e0; replace e1 := hE.g e1
 replace k := k.env hE
 clear hE
 refine Z00 ?_
 clear hrow
 rcases hr with ⟨hr, hall⟩ | ⟨i0, y0, hr, hy0, ho0, hlo0⟩
 · have hkp : (ps.filter (fun x => !outB lo hi x)) = ps := List.filter_eq_self.2 (fun x hx => by rw [hall x hx]; rfl)
   rw [hkp]
   refine wp_seq ?_
   refine wp_seq ?_
   refine wp_region_lit ?_
   have hE := Env.refl a7 [11, 12]
   refine zm 11 hE k e5 ?_
   intro a8 hE e11 kp
   refine sd 12 hE k (Z06 (Z0n rfl e11 rfl) (decide_eq_true hr)) ?_
   intro a9 hE e12 kp
   refine wpList_nil ?_
   replace e0 := hE.g e0; replace e1 := hE.g e1; replace e5 := hE.g e5
   replace k := k.env hE
   clear hE
   refine Z00 ?_
   refine Z0g e12 rfl ?_
   refine wp_seq ?_
   refine wp_region_lit ?_
   have hE := Env.refl a9 [13, 4]
   refine zm 13 hE k e0 ?_
   intro a10 hE e13 kp
   refine sd 4 hE k (Z01 rfl e13) ?_
   intro a11 hE e4 kp
   refine wpList_nil ?_
   replace k := k.env hE
   clear hE e0 e1 e5 e12
   refine Z00 ?_
   refine wp_ret ?_
   refine Z0d ?_
   refine Z0p rfl k e4 ?_
   exact ⟨rfl, O⟩
 · skip
   have hi0 := (List.getElem?_eq_some_iff.1 hy0).1
   subst hr
   refine wp_seq ?_
   refine wp_seq ?_
   refine wp_region_lit ?_
   have hE := Env.refl a7 [11, 12]
   refine zm 11 hE k e5 ?_
   intro a12 hE e11 kp
   refine sd 12 hE k (Z06 (Z0n rfl e11 rfl) (decide_eq_false (by omega))) ?_
   intro a13 hE e12 kp
   refine wpList_nil ?_
   replace e0 := hE.g e0; replace e1 := hE.g e1; replace e5 := hE.g e5
   replace k := k.env hE
   clear hE
   refine Z00 ?_
   refine Z05 e12 rfl ?_
   refine wp_skip ?_
   refine Z00 (wp_seq ?_)
   refine wp_seq ?_
   refine wp_region_lit ?_
   have hE := Env.refl a13 [14, 15, 6]
   refine zm 14 hE k e5 ?_
   intro a14 hE e14 kp
   refine sd 15 hE k (Z0x rfl e14 rfl (by omega)) ?_
   intro a15 hE e15 kp
   refine sd 6 hE k (Z01 rfl e15) ?_
   intro a16 hE e6 kp
   refine wpList_nil ?_
   replace e0 := hE.g e0; replace e1 := hE.g e1; replace e5 := hE.g e5
   replace k := k.env hE
   clear hE e12
   refine Z00 ?_
   refine wp_block ?_
   have hkeep0 : ps.take i0 = (ps.take (i0 + 1)).filter (fun x => !outB lo hi x) := by
    rw [List.take_add_one, hy0, List.filter_append, List.filter_eq_self.2 (fun x hx => by rw [hlo0 x hx]; rfl)]
    simp only [Option.toList_some, List.filter_cons, List.filter_nil, ho0]; simp
   refine wp_loop (fun a w => Fr 42 a ∧ a.eval (.tmp 0) = .slice (some ⟨g, 0, none⟩) ps.length cap ∧ a.eval (.tmp 1) = .func (.func 63) #[] #[.pointer (some ⟨b1, 0, none⟩), .pointer (some ⟨b2, 0, none⟩)] ∧ ∃ (i j : Nat) (ys : List Pr), a.eval (.tmp 5) = .int .i64 ↑i ∧ a.eval (.tmp 6) = .int .i64 ↑j ∧ i < j ∧ j ≤ ps.length ∧ ys.length = ps.length ∧ ys.take i = (ps.take j).filter (fun x => !outB lo hi x) ∧ ys.drop j = ps.drop j ∧ OwnT H A0 ((tPs (.slice (some ⟨g, 0, none⟩) ys.length cap) ys) :: (tBlk b1 30 #[.int .u64 ↑lo]) :: (tBlk b2 30 #[.int .u64 ↑hi]) :: R) w) (fun a w => ps.length - (intOf (a.eval (.tmp 6))).toNat) ?_ ?_
   · exact ⟨k, e0, e1, i0, i0 + 1, ps, e5, e6, by omega, by omega, rfl, hkeep0, rfl, O⟩
   intro a17 w18 hI
   clear k e0 e1
   obtain ⟨k, e0, e1, h_⟩ := hI
   clear O e5 e6
   obtain ⟨i, j, ys, e5, e6, hij, hj, hyl, hkp, hdr, O⟩ := h_
   have mj := e6
   by_cases hlt : j < ps.length
   · skip
     have hjI : (j : Int) < (ps.length : Int) := by omega
     have hiI : (i : Int) < (ps.length : Int) := by omega
     obtain ⟨y, hy⟩ : ∃ y, ps[j]? = some y := ⟨_, List.getElem?_eq_getElem (by omega)⟩
     have hyj : ys[j]? = some y := by
      have h1 : (ys.drop j)[0]? = (ps.drop j)[0]? := by rw [hdr]
      rw [List.getElem?_drop, List.getElem?_drop, Nat.add_zero] at h1
      rw [h1]; exact hy
     have hdr2 : ys.drop (j + 1) = ps.drop (j + 1) := by rw [← List.drop_drop, ← List.drop_drop, hdr]

     obtain ⟨_, _, e2q, -, -, hrow, -⟩ := Z0r (OwnT.t0 O)
     injection e2q with e2q _ e3q
     subst e2q e3q
     have d0 : w18.cell? ⟨g, j * 2, none⟩ = some (.int .u64 (y.1 : Int)) := by
      obtain ⟨b, o2, e, _, hc⟩ := hrow j y hyj; injection e with e; injection e with e e'; subst e e'
      have := hc 0 _ rfl; simpa using this
     have d1 : w18.cell? ⟨g, j * 2 + 1, none⟩ = some (.int .u64 (y.2 : Int)) := by
      obtain ⟨b, o2, e, _, hc⟩ := hrow j y hyj; injection e with e; injection e with e e'; subst e e'
      have := hc 1 _ rfl; simpa using this
     clear hrow
     obtain ⟨bb, hbb⟩ : ∃ b, outB lo hi y = b := ⟨_, rfl⟩
     have hfl : (ps.take (j + 1)).filter (fun x => !outB lo hi x) = (ps.take j).filter (fun x => !outB lo hi x) ++ (if bb = true then [] else [y]) := by
      rw [List.take_add_one, hy, List.filter_append]; congr 1; simp only [Option.toList_some, List.filter_cons, List.filter_nil, hbb]; cases bb <;> rfl
     refine wp_seq ?_
     refine wp_seq ?_
     refine wp_region_lit ?_
     have hE := Env.refl a17 [16, 17, 18, 19]
     refine zm 16 hE k e6 ?_
     intro a19 hE e16 kp
     refine zm 17 hE k e0 ?_
     intro a20 hE e17 kp
     replace e16 := kt kp e16
     refine sd 18 hE k (Z0f Try.underlying29 rfl e17) ?_
     intro a21 hE e18 kp
     replace e16 := kt kp e16
     refine sd 19 hE k (Z06 (Z1c rfl e16 e18) (decide_eq_true (by omega))) ?_
     intro a22 hE e19 kp
     refine wpList_nil ?_
     replace e0 := hE.g e0; replace e1 := hE.g e1; replace e5 := hE.g e5; replace e6 := hE.g e6
     replace k := k.env hE
     clear hE
     refine Z00 ?_
     refine Z0g e19 rfl ?_
     refine wp_skip ?_
     refine Z00 (wp_seq ?_)
     refine wp_block ?_
     refine wp_seq ?_
     refine wp_region_lit ?_
     have hE := Env.refl a22 [22, 23, 24, 25, 7]
     refine zm 22 hE k e0 ?_
     intro a23 hE e22 kp
     refine zm 23 hE k e6 ?_
     intro a24 hE e23 kp
     replace e22 := kt kp e22
     apply Z02 24 hE k rfl rfl rfl rfl
     case h =>
      simp [go_sem, ↓IntWalk.iteOmega, ev e22, ev e23]
      with_reducible rfl
     intro a25 hE e24 kp
     apply Z02 25 hE k rfl rfl rfl rfl
     case h =>
      simp [go_sem, ↓IntWalk.iteOmega, ev e24, d0, d1]
      with_reducible rfl
     intro a26 hE e25 kp
     refine Z0k O (cs := #[.int .u64 0, .int .u64 0]) (t := 38) 7 hE k rfl (by rfl) (by rfl) rfl (by simp [go_sem, ↓IntWalk.iteOmega]) ?_
     clear O
     intro vb a27 w28 O hE e7 kp
     replace e25 := kt kp e25
     have q0 : w28.cell? ⟨vb, 0, none⟩ = some (.int .u64 0) := (OwnT.blk O 0 rfl).cell 0
     have z0 : w28.frozen? ⟨vb, 0, none⟩ = false := (OwnT.blk O 0 rfl).frozen 0
     have q1 : w28.cell? ⟨vb, 1, none⟩ = some (.int .u64 0) := (OwnT.blk O 0 rfl).cell 1
     have z1 : w28.frozen? ⟨vb, 1, none⟩ = false := (OwnT.blk O 0 rfl).frozen 1
     refine Z0y (w' := ((w28.setCell ⟨vb, 0, none⟩ (.int .u64 ↑y.1)).setCell ⟨vb, 1, none⟩ (.int .u64 ↑y.2))) hE rfl rfl (by simp [go_sem, ↓IntWalk.iteOmega, ev e7, ev e25, q0, z0, q1, z1]) ?_
     replace O := OwnT.push 0 rfl (((OwnT.pull O 0 rfl).set 0 (.int .u64 ↑y.1)).set 1 (.int .u64 ↑y.2))
     clear q0 z0 q1 z1
     generalize ((w28.setCell ⟨vb, 0, none⟩ (.int .u64 ↑y.1)).setCell ⟨vb, 1, none⟩ (.int .u64 ↑y.2)) = w29 at O ⊢
     replace O : OwnT _ _ ((tBlk vb 38 #[.int .u64 ↑y.1, .int .u64 ↑y.2]) :: (tPs (.slice (some ⟨g, 0, none⟩) ys.length cap) ys) :: (tBlk b1 30 #[.int .u64 ↑lo]) :: (tBlk b2 30 #[.int .u64 ↑hi]) :: R) w29 := O
     refine wpList_nil ?_
     replace e0 := hE.g e0; replace e1 := hE.g e1; replace e5 := hE.g e5; replace e6 := hE.g e6
     replace k := k.env hE
     clear hE e19 e25
     refine Z00 (wp_seq ?_)
     refine wp_region_lit ?_
     have hE := Env.refl a27 [26, 27, 28, 29]
     refine zm 26 hE k e1 ?_
     intro a30 hE e26 kp
     apply Z02 27 hE k rfl rfl rfl rfl
     case h =>
      have q0 : w29.cell? ⟨vb, 0, none⟩ = some (.int .u64 ↑y.1) := (OwnT.blk O 0 rfl).cell 0
      have q1 : w29.cell? ⟨vb, 1, none⟩ = some (.int .u64 ↑y.2) := (OwnT.blk O 0 rfl).cell 1
      simp [go_sem, ↓IntWalk.iteOmega, ev (hE.g e7), q0, q1]
      with_reducible rfl
     intro a31 hE e27 kp
     replace e26 := kt kp e26
     apply Z08 28 hE k rfl (by rfl) (by rfl) rfl
     case h =>
      simp [go_sem, ↓IntWalk.iteOmega, ev e26, ev e27]
      with_reducible exact ⟨rfl, rfl⟩
     case hc => exact rgout _ ((OwnT.blk O 2 rfl).cell 0) ((OwnT.blk O 3 rfl).cell 0)
     rintro e w33 ⟨rfl, RE⟩
     replace O := OwnT.ext O RE
     refine ⟨_, congrArg (fun b => Ending.returned (.bool b)) hbb, ?_⟩
     intro a32 hE e28 kp
     refine sd 29 hE k (Z1v rfl e28) ?_
     intro a34 hE e29 kp
     refine wpList_nil ?_
     replace e0 := hE.g e0; replace e1 := hE.g e1; replace e5 := hE.g e5; replace e6 := hE.g e6; replace e7 := hE.g e7
     replace k := k.env hE
     clear hE
     refine Z00 ?_
     replace O : OwnT _ _ ((tPs (.slice (some ⟨g, 0, none⟩) ys.length cap) ys) :: (tBlk b1 30 #[.int .u64 ↑lo]) :: (tBlk b2 30 #[.int .u64 ↑hi]) :: (tBlk vb 38 #[.int .u64 ↑y.1, .int .u64 ↑y.2]) :: R) w33 := OwnT.pickR (L := [_, _, _, _]) (R := R) O [1, 2, 3, 0] (by decide)
     cases bb with
     | true =>
      refine Z05 e29 (rfl) ?_
      clear e7 e29
      refine wp_skip ?_
      refine Z0t ?_
      refine Z00 ?_
      refine wp_region_lit ?_
      have hE := Env.refl a34 [20, 21, 6]
      refine sd 20 hE k (Z03 rfl e6) ?_
      intro a35 hE e20 kp
      replace e6 := kt kp e6
      refine sd 21 hE k (Z0x rfl e20 rfl (by omega)) ?_
      intro a36 hE e21 kp
      replace e6 := kt kp e6
      refine sd 6 hE k (Z01 rfl e21) ?_
      intro a37 hE e6 kp
      refine wpList_nil ?_
      replace e0 := hE.g e0; replace e1 := hE.g e1; replace e5 := hE.g e5
      replace k := k.env hE
      clear hE
      refine Z00 ?_
      replace O : OwnT _ _ ((tPs (.slice (some ⟨g, 0, none⟩) ys.length cap) ys) :: (tBlk b1 30 #[.int .u64 ↑lo]) :: (tBlk b2 30 #[.int .u64 ↑hi]) :: R) w33 := OwnT.pickR (L := [_, _, _, _]) (R := R) O [0, 1, 2] (by decide)
      refine ⟨⟨k, e0, e1, i, j + 1, ys, e5, e6, by omega, by omega, hyl, by rw [hfl, hkp]; simp, hdr2, O⟩, ?_⟩
      rw [e6, mj]; simp only [intOf]; omega
     | false =>
      refine Z0g e29 (rfl) ?_
      clear e29
      obtain ⟨u0, v0, q0_, q1_, q2_, q3_⟩ := (OwnT.setPair (x := y) O (n := i) (by omega)).1
      refine wp_seq ?_
      refine wp_region_lit ?_
      have hE := Env.refl a34 [30, 31, 32, 33]
      refine zm 30 hE k e0 ?_
      intro a38 hE e30 kp
      refine zm 31 hE k e5 ?_
      intro a39 hE e31 kp
      replace e30 := kt kp e30
      apply Z02 32 hE k rfl rfl rfl rfl
      case h =>
       have q0 : w33.cell? ⟨vb, 0, none⟩ = some (.int .u64 ↑y.1) := (OwnT.blk O 3 rfl).cell 0
       have q1 : w33.cell? ⟨vb, 1, none⟩ = some (.int .u64 ↑y.2) := (OwnT.blk O 3 rfl).cell 1
       simp [go_sem, ↓IntWalk.iteOmega, ev (hE.g e7), q0, q1]
       with_reducible rfl
      intro a40 hE e32 kp
      replace e30 := kt kp e30; replace e31 := kt kp e31
      apply Z02 33 hE k rfl rfl rfl rfl
      case h =>
       simp [go_sem, ↓IntWalk.iteOmega, ev e30, ev e31]
       with_reducible rfl
      intro a41 hE e33 kp
      replace e32 := kt kp e32
      refine Z0y (w' := ((w33.setCell ⟨g, i * 2, none⟩ (.int .u64 y.1)).setCell ⟨g, i * 2 + 1, none⟩ (.int .u64 y.2))) hE rfl rfl ?_ ?_
      · simp [go_sem, ↓IntWalk.iteOmega, ev e33, ev e32, q0_, q1_, q2_, q3_]
      replace O := (OwnT.setPair (x := y) O (n := i) (by omega)).2
      clear q0_ q1_ q2_ q3_
      generalize ((w33.setCell ⟨g, i * 2, none⟩ (.int .u64 y.1)).setCell ⟨g, i * 2 + 1, none⟩ (.int .u64 y.2)) = w42 at O ⊢
      refine wpList_nil ?_
      replace e0 := hE.g e0; replace e1 := hE.g e1; replace e5 := hE.g e5; replace e6 := hE.g e6
      replace k := k.env hE
      clear hE e7 e32 e33
      refine Z00 ?_
      refine wp_region_lit ?_
      have hE := Env.refl a41 [34, 35, 5]
      refine sd 34 hE k (Z03 rfl e5) ?_
      intro a43 hE e34 kp
      replace e5 := kt kp e5
      refine sd 35 hE k (Z0x rfl e34 rfl (by omega)) ?_
      intro a44 hE e35 kp
      replace e5 := kt kp e5
      refine sd 5 hE k (Z01 rfl e35) ?_
      intro a45 hE e5 kp
      refine wpList_nil ?_
      replace e0 := hE.g e0; replace e1 := hE.g e1; replace e6 := hE.g e6
      replace k := k.env hE
      clear hE
      refine Z0t ?_
      refine Z00 ?_
      refine wp_region_lit ?_
      have hE := Env.refl a45 [20, 21, 6]
      refine sd 20 hE k (Z03 rfl e6) ?_
      intro a46 hE e20 kp
      replace e6 := kt kp e6
      refine sd 21 hE k (Z0x rfl e20 rfl (by omega)) ?_
      intro a47 hE e21 kp
      replace e6 := kt kp e6
      refine sd 6 hE k (Z01 rfl e21) ?_
      intro a48 hE e6 kp
      refine wpList_nil ?_
      replace e0 := hE.g e0; replace e1 := hE.g e1; replace e5 := hE.g e5
      replace k := k.env hE
      clear hE
      refine Z00 ?_
      replace O : OwnT _ _ ((tPs (.slice (some ⟨g, 0, none⟩) (ys.set i y).length cap) (ys.set i y)) :: (tBlk b1 30 #[.int .u64 ↑lo]) :: (tBlk b2 30 #[.int .u64 ↑hi]) :: R) w42 := OwnT.pickR (L := [_, _, _, _]) (R := R) O [0, 1, 2] (by decide)
      refine ⟨⟨k, e0, e1, i + 1, j + 1, ys.set i y, e5, e6, by omega, by omega, by rw [List.length_set]; exact hyl, by rw [hfl, ← hkp]; exact Z8a (by omega), by rw [List.drop_set_of_lt (by omega)]; exact hdr2, O⟩, ?_⟩
      rw [e6, mj]; simp only [intOf]; omega
   · skip
     rw [List.take_of_length_le (show ps.length ≤ j by omega)] at hkp
     obtain ⟨w2, hrun, O2⟩ := Z70 O (i := i) (by omega)
     rw [hyl] at hrun
     refine wp_seq ?_
     refine wp_seq ?_
     refine wp_region_lit ?_
     have hE := Env.refl a17 [16, 17, 18, 19]
     refine zm 16 hE k e6 ?_
     intro a49 hE e16 kp
     refine zm 17 hE k e0 ?_
     intro a50 hE e17 kp
     replace e16 := kt kp e16
     refine sd 18 hE k (Z0f Try.underlying29 rfl e17) ?_
     intro a51 hE e18 kp
     replace e16 := kt kp e16
     refine sd 19 hE k (Z06 (Z1c rfl e16 e18) (decide_eq_false (by omega))) ?_
     intro a52 hE e19 kp
     refine wpList_nil ?_
     replace e0 := hE.g e0; replace e1 := hE.g e1; replace e5 := hE.g e5; replace e6 := hE.g e6
     replace k := k.env hE
     clear hE
     refine Z00 ?_
     refine Z05 e19 rfl ?_
     refine wp_exit ?_
     refine Z0z ?_
     refine Z0z ?_
     refine Z1j ?_
     refine Z00 (wp_seq ?_)
     refine wp_region_lit ?_
     have hE := Env.refl a52 [36, 37, 38]
     refine zm 36 hE k e0 ?_
     intro a53 hE e36 kp
     refine zm 37 hE k e5 ?_
     intro a54 hE e37 kp
     replace e36 := kt kp e36
     refine sd 38 hE k (Z0m rfl e36 e37 (by omega) (by omega) (by omega)) ?_
     intro a55 hE e38 kp
     refine Z30 (w' := w2) rfl rfl (by exact Z43 rfl e38 (hrun _)) ?_
     replace O := O2
     clear O2 hrun
     refine wpList_nil ?_
     replace e0 := hE.g e0; replace e5 := hE.g e5
     replace k := k.env hE
     clear hE e1 e6 e19 e38
     refine Z00 (wp_seq ?_)
     refine wp_region_lit ?_
     have hE := Env.refl a55 [39, 40, 41, 4]
     refine zm 39 hE k e0 ?_
     intro a56 hE e39 kp
     refine zm 40 hE k e5 ?_
     intro a57 hE e40 kp
     replace e39 := kt kp e39
     refine sd 41 hE k (Z0v rfl e39 e40 (by omega)) ?_
     intro a58 hE e41 kp
     refine sd 4 hE k (Z01 rfl e41) ?_
     intro a59 hE e4 kp
     refine wpList_nil ?_
     replace k := k.env hE
     clear hE e0 e5
     refine Z00 ?_
     refine wp_ret ?_
     rw [hkp] at O
     have hil : i = (ps.filter (fun x => !outB lo hi x)).length := by rw [← hkp, List.length_take]; omega
     refine Z0p rfl k e4 ?_
     exact ⟨by rw [← hil], O⟩
end Go.Proofs.Ytngehbhhpkkijaa
