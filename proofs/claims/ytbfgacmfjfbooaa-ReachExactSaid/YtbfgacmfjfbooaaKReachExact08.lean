/- trees: read, added (printed by XTrD.gen.py). -/
import Derived.Test.YtbfgacmfjfbooaaKReachExact07
import Derived.Test.YtbfgacmfjfbooaaKReachExact04
namespace Go.Proofs.Ytbfgacmfjfbooaa
attribute [local simp] BigFrame.eval_const BigFrame.eval_global BigFrame.eval_func
set_option linter.unusedVariables false
set_option linter.unusedSimpArgs false
open Go.RowKit Go.Maps

theorem Z81 {l : Nat} {xs : List Pr} (h8 : l < 8) (h15 : xs.length ≤ 15) (hu : Up xs) (h : 0 < l → xs ≠ [] ∧ ∀ x ∈ xs, 1 ≤ x.2 ∧ x.2 < 512) : goodB (l : Int) xs = true := by
 unfold goodB
 rw [decide_eq_true (show 0 ≤ (l : Int) ∧ (l : Int) < 8 ∧ xs.length ≤ 15 by omega), Bool.true_and, Z6p hu, Bool.true_and, Bool.or_eq_true]
 by_cases h0 : l = 0
 · left; rw [h0]; rfl
 · right
   obtain ⟨h1, h2⟩ := h (by omega)
   rw [decide_eq_true (List.length_pos_iff.2 h1), Bool.true_and, Bool.not_eq_true', List.any_eq_false]
   intro x hx; have := h2 x hx
   unfold farB
   simp
   omega
section
variable {w : World} {o : Oper} {ρ : Operand → Value} {x lo hi : Operand} {B : Option Addr} {n cap a b : Nat}
theorem Z52 (W : World) : (sizeOf 103).run Try.prog W = .ok 2 W := by
 obtain ⟨i, z, hi, hz, hsz, hby, hzs⟩ := elemPr.info
 simp [sizeOf, typeInfo, hi, hsz]
theorem Z0r (ho : o.op = .slice 44 x none (some hi) none) (hx : ρ x = .slice B n cap) (hh : ρ hi = .int .i64 (b : Nat)) (hb : b ≤ cap) : (execOp ρ o).run Try.prog w = .ok (.value (.slice B b cap)) w := by
 have h1 : (0 ≤ ((b : Nat) : Int) ∧ ((b : Nat) : Int) ≤ (cap : Int)) := by omega
 have h2 : (0 ≤ (0 : Int) ∧ (0 : Int) ≤ ((b : Nat) : Int)) := by omega
 have hs' := Z52 w
 unfold execOp
 simp only [ho, Option.map_some, Option.map_none, hx, hh]
 have e : (if cap = 0 then B else B.map (·.add 0)) = B := by
  split
  · rfl
  · cases B with
    | none => rfl
    | some p => simp [Addr.add]
 simp [Instr.sliceAt, Instr.slice, Instr.sliceBounds, Instr.sliceBound, run_underlying Try.underlying44, asIntOf, h1, hs']
 cases B with
 | none => simp; intro h; omega
 | some p =>
  by_cases hc : cap = 0
  · simp [hc]; intro h; omega
  · simp [hc, Addr.add]; intro h; omega
theorem Z2q (ho : o.op = .slice 44 x (some lo) none none) (hx : ρ x = .slice B n cap) (hl : ρ lo = .int .i64 (a : Nat)) (ha : a ≤ n) (hn : n ≤ cap) : (execOp ρ o).run Try.prog w = .ok (.value (.slice (if cap = a then B else B.map (·.add (a * 2))) (n - a) (cap - a))) w := by
 have h1 : (0 ≤ ((n : Nat) : Int) ∧ ((n : Nat) : Int) ≤ (cap : Int)) := by omega
 have h2 : (0 ≤ ((a : Nat) : Int) ∧ ((a : Nat) : Int) ≤ ((n : Nat) : Int)) := by omega
 have hs' := Z52 w
 unfold execOp
 simp only [ho, Option.map_some, Option.map_none, hx, hl]
 simp only [Instr.sliceAt, Instr.slice, Instr.sliceBounds, Instr.sliceBound, run_underlying Try.underlying44, asIntOf, Sem.run_bind, Sem.run_pure, Result.andThen_ok, Int.toNat_natCast, if_pos h2, hs', Option.isSome_none, Bool.false_eq_true, if_false]
theorem x_mkM {t : Operand} {p : Value} {nm : String} (ho : o.op = .makeFunc (.method nm) #[t] #[]) (hx : ρ t = p) : (execOp ρ o).run Try.prog w = .ok (.value (.func (.method nm) #[p] #[])) w := by
 unfold execOp
 simp [ho, Instr.makeFunc, hx]
theorem Z7e {sb : Nat} (ho : o.op = .nilCheck x) (hx : ρ x = .func (.method "Add") #[.iface 47 (.pointer (some ⟨sb, 0, none⟩))] #[]) : (execOp ρ o).run Try.prog w = .ok (.value (.func (.method "Add") #[.iface 47 (.pointer (some ⟨sb, 0, none⟩))] #[])) w := by
 unfold execOp
 simp only [ho, hx]
 kernel_rfl
end
theorem Row.sub {w : World} {B : Option Addr} {xs : List Pr} (h : Row w B 2 pairC xs) (d c : Nat) (hc : xs.drop d ≠ [] → c ≠ d) : Row w (if c = d then B else B.map (·.add (d * 2))) 2 pairC (xs.drop d) := by
 intro i x hi; have hne : xs.drop d ≠ [] := fun e => by rw [e] at hi; simp at hi
 rw [if_neg (hc hne)]
 rw [List.getElem?_drop] at hi
 obtain ⟨b, off, rfl, hlt, hh⟩ := h _ x hi
 refine ⟨b, off + d * 2, by simp [Addr.add], hlt, fun j u hu => ?_⟩
 rw [show off + d * 2 + i * 2 + j = off + (d + i) * 2 + j by omega]
 exact hh j u hu
theorem Row.take {w : World} {B : Option Addr} {xs : List Pr} (h : Row w B 2 pairC xs) (n : Nat) : Row w B 2 pairC (xs.take n) := by
 intro i x hi; have hl := (List.getElem?_eq_some_iff.1 hi).1
 rw [List.length_take] at hl
 rw [List.getElem?_take_of_lt (by omega)] at hi
 exact h i x hi

set_option maxRecDepth 100000 in
set_option maxHeartbeats 4000000 in
theorem tread_any {H : Nat} {A0 : World} {R : List Thing} {sb cap : Nat} {room : Int} {B : Option Addr} {vs : List Value} {N : List Nd} {q l : Nat} {xs : List Pr} {q0 : Int} (w : World) (O : OwnT H A0 (shT sb room B cap vs N R) w) (hN : N.length ≤ 1000000) (hq : ndAt N q = some (l, xs)) (hg : goodB (l : Int) xs = true) (hne : xs ≠ []) (h15 : xs.length ≤ 15) (hx : ∀ x ∈ xs, x.1 < 18446744073709551616) (h0 : q0 < 0) : Calls Try.prog 88 #[.iface 47 (.pointer (some ⟨sb, 0, none⟩)), .int .i64 q, .int .i64 q0] w fun e w' => ∃ v, e = .returned (.tuple #[.agg #[.int .i64 l, v], .int .i64 0]) ∧ OwnT H A0 (tPs v xs :: shT sb room B cap vs N R) w' := by
 have hl0 := List.length_pos_iff.2 hne
 refine Z0a Try.func88 rfl 44 rfl (by rfl) ?_
 intro a1 k hargs; have e0 : a1.eval (.tmp 0) = .iface 47 (.pointer (some ⟨sb, 0, none⟩)) := hargs 0 _ rfl
 have e1 : a1.eval (.tmp 1) = .int .i64 ↑q := hargs 1 _ rfl
 have e2 : a1.eval (.tmp 2) = .int .i64 q0 := hargs 2 _ rfl
 clear hargs; refine wp_seq ?_; refine wp_region_lit ?_
 have hE := Env.refl a1 [6, 7]; refine Z0k O (cs := #[.int .i64 0, .slice none 0 0]) (t := 46) 6 hE k rfl (by rfl) (by rfl) rfl (by simp [go_sem, ↓IntWalk.iteOmega]) ?_
 clear O; intro rb a2 w3 O hE e6 kp; refine sd 7 hE k (Z01 rfl rfl) ?_; intro a4 hE e7 kp; replace e6 := kt kp e6; refine wpList_nil ?_; replace e0 := hE.g e0; replace e1 := hE.g e1; replace e2 := hE.g e2; replace k := k.env hE; clear hE e7; refine Z00 ?_; replace O := OwnT.pickR (L := [_, _, _, _]) (R := R) O [1, 2, 3, 0] (by decide)
 refine wp_seq ?_; refine wp_region_lit ?_
 have hE := Env.refl a4 [11, 12, 13, 10, 14, 15, 8, 9]; refine zm 11 hE k e0 ?_; intro a5 hE e11 kp; refine zm 12 hE k e1 ?_; intro a6 hE e12 kp; replace e11 := kt kp e11; apply Z09 13 hE k rfl (by rfl) (by rfl) rfl
 case h =>
  exact Z3s rfl e11 e12 (Z2h _ _ _)
 case hc => exact Z4z (R := _ :: R) q l xs _ O hN hq (by omega)
 clear O; rintro e w8 ⟨v, rfl, O, -⟩
 obtain ⟨Bv, cv, rfl, hv1, hv2, -, hv3⟩ := Z0x (OwnT.t0 O)
 refine ⟨_, rfl, ?_⟩
 intro a7 hE e13 kp; refine sd 10 hE k (Z02 rfl e13) ?_; intro a9 hE e10 kp; apply Z03 14 hE k rfl rfl rfl rfl; case h =>
  simp [go_sem, ↓IntWalk.iteOmega, ev e10]
  with_reducible rfl
 intro a10 hE e14 kp; replace e10 := kt kp e10; apply Z03 15 hE k rfl rfl rfl rfl; case h =>
  simp [go_sem, ↓IntWalk.iteOmega, ev e10]
  with_reducible rfl
 intro a11 hE e15 kp; replace e14 := kt kp e14; refine Z0k O (cs := #[.int .i64 0, .slice none 0 0]) (t := 46) 8 hE k rfl (by rfl) (by rfl) rfl (by simp [go_sem, ↓IntWalk.iteOmega]) ?_
 clear O; intro nb a12 w13 O hE e8 kp; replace e14 := kt kp e14; replace e15 := kt kp e15; refine Z1f O 0 0 hE e8 e14 ?_
 clear O; intro w14 O; replace O : OwnT _ _ ((tBlk nb 46 #[.int .i64 ↑l, .slice Bv xs.length cv]) :: _) w14 := O
 refine sd 9 hE k (Z01 rfl e15) ?_; intro a15 hE e9 kp; replace e8 := kt kp e8; refine wpList_nil ?_; replace e2 := hE.g e2; replace e6 := hE.g e6; replace k := k.env hE; clear hE e0 e1; refine Z00 ?_; have hrow := (Z0x (OwnT.get O 1 rfl : (tPs (.slice Bv xs.length cv) xs).holds _))
 obtain ⟨B2, c2, e2, -, -, hrow, -⟩ := hrow
 injection e2 with e2 _ e3
 subst e2 e3
 refine wp_seq ?_; refine wp_seq ?_; refine wp_region_lit ?_
 have hE := Env.refl a15 [16, 17, 18, 19, 20, 21, 22, 23, 24, 25, 26, 27, 28, 29, 30, 31, 32, 33, 34, 35, 36, 37, 38]; refine zm 16 hE k e9 ?_; intro a16 hE e16 kp; refine sd 17 hE k (Z12 rfl e16 rfl) ?_; intro a17 hE e17 kp; refine sd 18 hE k (Z02 rfl e17) ?_; intro a18 hE e18 kp; apply Z04 19 hE k rfl rfl rfl rfl rfl e18
 case h =>
  exact Z1s O 0 rfl rfl (hE.g e8) [.int .i64 ↑l, .slice Bv xs.length cv] rfl Try.underlying46 rfl (by kernel_rfl)
 intro a19 hE e19 kp; replace e18 := kt kp e18; apply Z3l 20 hE k rfl (by rfl) (by rfl) rfl rfl e18
 case h =>
  simp [go_sem, ↓IntWalk.iteOmega, ev e19]
  with_reducible exact ⟨rfl, rfl⟩
 case hc => exact Z5h (l : Int) Bv xs.length cv xs _ rfl (by omega) hrow hx
 rintro e w21 ⟨rfl, RE⟩
 replace hrow := hrow.below RE
 replace O := OwnT.ext O RE; refine ⟨_, congrArg (fun b => Ending.returned (.bool b)) hg, ?_⟩
 intro a20 hE e20 kp; replace e18 := kt kp e18; apply Z04 21 hE k rfl rfl rfl rfl rfl e18
 case h =>
  exact Z2a rfl e20
 intro a22 hE e21 kp; replace e18 := kt kp e18; apply Z04 22 hE k rfl rfl rfl rfl rfl e18
 case h =>
  exact Z02 rfl e21
 intro a23 hE e22 kp; replace e18 := kt kp e18; apply Z04 23 hE k rfl rfl rfl rfl rfl e22
 case h =>
  simp [go_sem, ↓IntWalk.iteOmega, ev (hE.g e8)]
  with_reducible rfl
 intro a24 hE e23 kp; replace e18 := kt kp e18; replace e22 := kt kp e22; apply Z04 24 hE k rfl rfl rfl rfl rfl e22
 case h =>
  exact Z08 O 0 rfl rfl e23 rfl Try.underlying44 rfl
 intro a25 hE e24 kp; replace e18 := kt kp e18; replace e22 := kt kp e22; apply Z04 25 hE k rfl rfl rfl rfl rfl e22
 case h =>
  exact Z0j Try.underlying44 rfl e24
 intro a26 hE e25 kp; replace e18 := kt kp e18; replace e22 := kt kp e22; apply Z04 26 hE k rfl rfl rfl rfl rfl e22
 case h =>
  exact Z05 (Z12 rfl e25 rfl) (decide_eq_false (by omega))
 intro a27 hE e26 kp; replace e18 := kt kp e18; replace e22 := kt kp e22; apply Z04 27 hE k rfl rfl rfl rfl rfl e18
 case h =>
  exact Z07 rfl e22 e26
 intro a28 hE e27 kp; replace e18 := kt kp e18; apply Z04 28 hE k rfl rfl rfl rfl rfl e18
 case h =>
  exact Z02 rfl e27
 intro a29 hE e28 kp; replace e18 := kt kp e18; apply Z04 29 hE k rfl rfl rfl rfl rfl e28
 case h =>
  exact Z02 rfl (hE.g e2)
 intro a30 hE e29 kp; replace e18 := kt kp e18; replace e28 := kt kp e28; apply Z04 30 hE k rfl rfl rfl rfl rfl e28
 case h =>
  exact Z05 (Z6m rfl e29 rfl) (decide_eq_false (by omega))
 intro a31 hE e30 kp; replace e18 := kt kp e18; replace e28 := kt kp e28; apply Z04 31 hE k rfl rfl rfl rfl rfl e28
 case h =>
  exact Z02 rfl e30
 intro a32 hE e31 kp; replace e18 := kt kp e18; replace e28 := kt kp e28; refine Z0e 32 hE k rfl (by rfl) (by rfl) rfl rfl (.inl e31) ?_
 intro a33 hE e32 kp; replace e18 := kt kp e18; replace e28 := kt kp e28; replace e31 := kt kp e31; refine Z0e 33 hE k rfl (by rfl) (by rfl) rfl rfl (.inl e31) ?_
 intro a34 hE e33 kp; replace e18 := kt kp e18; replace e28 := kt kp e28; replace e31 := kt kp e31; refine Z0e 34 hE k rfl (by rfl) (by rfl) rfl rfl (.inl e31) ?_
 intro a35 hE e34 kp; replace e18 := kt kp e18; replace e28 := kt kp e28; replace e31 := kt kp e31; replace e33 := kt kp e33; refine Z0e 35 hE k rfl (by rfl) (by rfl) rfl rfl (.inl e31) ?_
 intro a36 hE e35 kp; replace e18 := kt kp e18; replace e28 := kt kp e28; replace e31 := kt kp e31; apply Z04 36 hE k rfl rfl rfl rfl rfl e28
 case h =>
  exact Z07 rfl e31 rfl
 intro a37 hE e36 kp; replace e18 := kt kp e18; replace e28 := kt kp e28; apply Z04 37 hE k rfl rfl rfl rfl rfl e18
 case h =>
  exact Z07 rfl e28 e36
 intro a38 hE e37 kp; replace e18 := kt kp e18; refine sd 38 hE k (Z0n rfl e18 e37) ?_; intro a39 hE e38 kp; refine wpList_nil ?_; replace e6 := hE.g e6; replace e8 := hE.g e8; replace e9 := hE.g e9; replace k := k.env hE; clear hE e2; refine Z00 ?_; refine Z06 e38 rfl ?_
 refine wp_skip ?_; refine Z00 (wp_seq ?_); refine wp_seq ?_; refine wp_region_lit ?_
 have hE := Env.refl a39 [39, 40]; refine zm 39 hE k e9 ?_; intro a40 hE e39 kp; refine sd 40 hE k (Z0q rfl e39 rfl) ?_; intro a41 hE e40 kp; refine wpList_nil ?_; replace e6 := hE.g e6; replace e8 := hE.g e8; replace e9 := hE.g e9; replace k := k.env hE; clear hE e38; refine Z00 ?_; refine Z06 e40 rfl ?_
 refine wp_skip ?_; refine Z00 (wp_seq ?_); refine wp_region_lit ?_
 have hE := Env.refl a41 [43, 7]; refine sd 43 hE k (Z1s O 0 rfl rfl (hE.g e8) [.int .i64 ↑l, .slice Bv xs.length cv] rfl Try.underlying46 rfl (by kernel_rfl)) ?_; intro a42 hE e43 kp; refine Z1f O 5 0 hE (hE.g e6) e43 ?_
 clear O; intro w43 O; replace O : OwnT _ _ (_ :: _ :: _ :: _ :: _ :: (tBlk rb 46 #[.int .i64 ↑l, .slice Bv xs.length cv]) :: _) w43 := O
 refine sd 7 hE k (Z01 rfl rfl) ?_; intro a44 hE e7 kp; refine wpList_nil ?_; replace e6 := hE.g e6; replace k := k.env hE; clear hE e8 e9 e40; refine Z00 ?_; refine wp_ret ?_
 have q0 : w43.cell? ⟨rb, 0, none⟩ = some (.int .i64 ↑l) := (OwnT.blk O 5 rfl).cell 0
 have q1 : w43.cell? ⟨rb, 1, none⟩ = some (.slice Bv xs.length cv) := (OwnT.blk O 5 rfl).cell 1
 refine Z3a rfl k e6 e7 (v := .agg #[.int .i64 ↑l, .slice Bv xs.length cv]) (by simp [go_sem, ↓IntWalk.iteOmega, q0, q1]) ?_
 exact ⟨_, rfl, OwnT.pickR (L := [_, _, _, _, _, _]) (R := R) O [1, 2, 3, 4] (by decide)⟩
set_option maxRecDepth 100000 in
set_option maxHeartbeats 4000000 in
theorem tread_at {H : Nat} {A0 : World} {R : List Thing} {sb cap : Nat} {room : Int} {B : Option Addr} {vs : List Value} {N : List Nd} {q l : Nat} {xs : List Pr} (w : World) (O : OwnT H A0 (shT sb room B cap vs N R) w) (hN : N.length ≤ 1000000) (hq : ndAt N q = some (l, xs)) (hg : goodB (l : Int) xs = true) (hne : xs ≠ []) (h15 : xs.length ≤ 15) (hx : ∀ x ∈ xs, x.1 < 18446744073709551616)  : Calls Try.prog 88 #[.iface 47 (.pointer (some ⟨sb, 0, none⟩)), .int .i64 q, .int .i64 ↑l] w fun e w' => ∃ v, e = .returned (.tuple #[.agg #[.int .i64 l, v], .int .i64 0]) ∧ OwnT H A0 (tPs v xs :: shT sb room B cap vs N R) w' := by
 have hl0 := List.length_pos_iff.2 hne
 refine Z0a Try.func88 rfl 44 rfl (by rfl) ?_
 intro a1 k hargs; have e0 : a1.eval (.tmp 0) = .iface 47 (.pointer (some ⟨sb, 0, none⟩)) := hargs 0 _ rfl
 have e1 : a1.eval (.tmp 1) = .int .i64 ↑q := hargs 1 _ rfl
 have e2 : a1.eval (.tmp 2) = .int .i64 ↑l := hargs 2 _ rfl
 clear hargs; refine wp_seq ?_; refine wp_region_lit ?_
 have hE := Env.refl a1 [6, 7]; refine Z0k O (cs := #[.int .i64 0, .slice none 0 0]) (t := 46) 6 hE k rfl (by rfl) (by rfl) rfl (by simp [go_sem, ↓IntWalk.iteOmega]) ?_
 clear O; intro rb a2 w3 O hE e6 kp; refine sd 7 hE k (Z01 rfl rfl) ?_; intro a4 hE e7 kp; replace e6 := kt kp e6; refine wpList_nil ?_; replace e0 := hE.g e0; replace e1 := hE.g e1; replace e2 := hE.g e2; replace k := k.env hE; clear hE e7; refine Z00 ?_; replace O := OwnT.pickR (L := [_, _, _, _]) (R := R) O [1, 2, 3, 0] (by decide)
 refine wp_seq ?_; refine wp_region_lit ?_
 have hE := Env.refl a4 [11, 12, 13, 10, 14, 15, 8, 9]; refine zm 11 hE k e0 ?_; intro a5 hE e11 kp; refine zm 12 hE k e1 ?_; intro a6 hE e12 kp; replace e11 := kt kp e11; apply Z09 13 hE k rfl (by rfl) (by rfl) rfl
 case h =>
  exact Z3s rfl e11 e12 (Z2h _ _ _)
 case hc => exact Z4z (R := _ :: R) q l xs _ O hN hq (by omega)
 clear O; rintro e w8 ⟨v, rfl, O, -⟩
 obtain ⟨Bv, cv, rfl, hv1, hv2, -, hv3⟩ := Z0x (OwnT.t0 O)
 refine ⟨_, rfl, ?_⟩
 intro a7 hE e13 kp; refine sd 10 hE k (Z02 rfl e13) ?_; intro a9 hE e10 kp; apply Z03 14 hE k rfl rfl rfl rfl; case h =>
  simp [go_sem, ↓IntWalk.iteOmega, ev e10]
  with_reducible rfl
 intro a10 hE e14 kp; replace e10 := kt kp e10; apply Z03 15 hE k rfl rfl rfl rfl; case h =>
  simp [go_sem, ↓IntWalk.iteOmega, ev e10]
  with_reducible rfl
 intro a11 hE e15 kp; replace e14 := kt kp e14; refine Z0k O (cs := #[.int .i64 0, .slice none 0 0]) (t := 46) 8 hE k rfl (by rfl) (by rfl) rfl (by simp [go_sem, ↓IntWalk.iteOmega]) ?_
 clear O; intro nb a12 w13 O hE e8 kp; replace e14 := kt kp e14; replace e15 := kt kp e15; refine Z1f O 0 0 hE e8 e14 ?_
 clear O; intro w14 O; replace O : OwnT _ _ ((tBlk nb 46 #[.int .i64 ↑l, .slice Bv xs.length cv]) :: _) w14 := O
 refine sd 9 hE k (Z01 rfl e15) ?_; intro a15 hE e9 kp; replace e8 := kt kp e8; refine wpList_nil ?_; replace e2 := hE.g e2; replace e6 := hE.g e6; replace k := k.env hE; clear hE e0 e1; refine Z00 ?_; have hrow := (Z0x (OwnT.get O 1 rfl : (tPs (.slice Bv xs.length cv) xs).holds _))
 obtain ⟨B2, c2, e2, -, -, hrow, -⟩ := hrow
 injection e2 with e2 _ e3
 subst e2 e3
 refine wp_seq ?_; refine wp_seq ?_; refine wp_region_lit ?_
 have hE := Env.refl a15 [16, 17, 18, 19, 20, 21, 22, 23, 24, 25, 26, 27, 28, 29, 30, 31, 32, 33, 34, 35, 36, 37, 38]; refine zm 16 hE k e9 ?_; intro a16 hE e16 kp; refine sd 17 hE k (Z12 rfl e16 rfl) ?_; intro a17 hE e17 kp; refine sd 18 hE k (Z02 rfl e17) ?_; intro a18 hE e18 kp; apply Z04 19 hE k rfl rfl rfl rfl rfl e18
 case h =>
  exact Z1s O 0 rfl rfl (hE.g e8) [.int .i64 ↑l, .slice Bv xs.length cv] rfl Try.underlying46 rfl (by kernel_rfl)
 intro a19 hE e19 kp; replace e18 := kt kp e18; apply Z3l 20 hE k rfl (by rfl) (by rfl) rfl rfl e18
 case h =>
  simp [go_sem, ↓IntWalk.iteOmega, ev e19]
  with_reducible exact ⟨rfl, rfl⟩
 case hc => exact Z5h (l : Int) Bv xs.length cv xs _ rfl (by omega) hrow hx
 rintro e w21 ⟨rfl, RE⟩
 replace hrow := hrow.below RE
 replace O := OwnT.ext O RE; refine ⟨_, congrArg (fun b => Ending.returned (.bool b)) hg, ?_⟩
 intro a20 hE e20 kp; replace e18 := kt kp e18; apply Z04 21 hE k rfl rfl rfl rfl rfl e18
 case h =>
  exact Z2a rfl e20
 intro a22 hE e21 kp; replace e18 := kt kp e18; apply Z04 22 hE k rfl rfl rfl rfl rfl e18
 case h =>
  exact Z02 rfl e21
 intro a23 hE e22 kp; replace e18 := kt kp e18; apply Z04 23 hE k rfl rfl rfl rfl rfl e22
 case h =>
  simp [go_sem, ↓IntWalk.iteOmega, ev (hE.g e8)]
  with_reducible rfl
 intro a24 hE e23 kp; replace e18 := kt kp e18; replace e22 := kt kp e22; apply Z04 24 hE k rfl rfl rfl rfl rfl e22
 case h =>
  exact Z08 O 0 rfl rfl e23 rfl Try.underlying44 rfl
 intro a25 hE e24 kp; replace e18 := kt kp e18; replace e22 := kt kp e22; apply Z04 25 hE k rfl rfl rfl rfl rfl e22
 case h =>
  exact Z0j Try.underlying44 rfl e24
 intro a26 hE e25 kp; replace e18 := kt kp e18; replace e22 := kt kp e22; apply Z04 26 hE k rfl rfl rfl rfl rfl e22
 case h =>
  exact Z05 (Z12 rfl e25 rfl) (decide_eq_false (by omega))
 intro a27 hE e26 kp; replace e18 := kt kp e18; replace e22 := kt kp e22; apply Z04 27 hE k rfl rfl rfl rfl rfl e18
 case h =>
  exact Z07 rfl e22 e26
 intro a28 hE e27 kp; replace e18 := kt kp e18; apply Z04 28 hE k rfl rfl rfl rfl rfl e18
 case h =>
  exact Z02 rfl e27
 intro a29 hE e28 kp; replace e18 := kt kp e18; apply Z04 29 hE k rfl rfl rfl rfl rfl e28
 case h =>
  exact Z02 rfl (hE.g e2)
 intro a30 hE e29 kp; replace e18 := kt kp e18; replace e28 := kt kp e28; apply Z04 30 hE k rfl rfl rfl rfl rfl e28
 case h =>
  exact Z05 (Z6m rfl e29 rfl) (decide_eq_true (by omega))
 intro a31 hE e30 kp; replace e18 := kt kp e18; replace e28 := kt kp e28; apply Z04 31 hE k rfl rfl rfl rfl rfl e28
 case h =>
  exact Z02 rfl e30
 intro a32 hE e31 kp; replace e18 := kt kp e18; replace e28 := kt kp e28; apply Z04 32 hE k rfl rfl rfl rfl rfl e31
 case h =>
  simp [go_sem, ↓IntWalk.iteOmega, ev (hE.g e8)]
  with_reducible rfl
 intro a33 hE e32 kp; replace e18 := kt kp e18; replace e28 := kt kp e28; replace e31 := kt kp e31; apply Z04 33 hE k rfl rfl rfl rfl rfl e31
 case h =>
  exact Z08 O 0 rfl rfl e32 rfl Try.underlying3 rfl
 intro a34 hE e33 kp; replace e18 := kt kp e18; replace e28 := kt kp e28; replace e31 := kt kp e31; apply Z04 34 hE k rfl rfl rfl rfl rfl e31
 case h =>
  exact Z02 rfl (hE.g e2)
 intro a35 hE e34 kp; replace e18 := kt kp e18; replace e28 := kt kp e28; replace e31 := kt kp e31; replace e33 := kt kp e33; apply Z04 35 hE k rfl rfl rfl rfl rfl e31
 case h =>
  exact Z05 (Z0q rfl e33 e34) (decide_eq_false (fun h => h rfl))
 intro a36 hE e35 kp; replace e18 := kt kp e18; replace e28 := kt kp e28; replace e31 := kt kp e31; apply Z04 36 hE k rfl rfl rfl rfl rfl e28
 case h =>
  exact Z0n rfl e31 e35
 intro a37 hE e36 kp; replace e18 := kt kp e18; replace e28 := kt kp e28; apply Z04 37 hE k rfl rfl rfl rfl rfl e18
 case h =>
  exact Z07 rfl e28 e36
 intro a38 hE e37 kp; replace e18 := kt kp e18; refine sd 38 hE k (Z0n rfl e18 e37) ?_; intro a39 hE e38 kp; refine wpList_nil ?_; replace e6 := hE.g e6; replace e8 := hE.g e8; replace e9 := hE.g e9; replace k := k.env hE; clear hE e2; refine Z00 ?_; refine Z06 e38 rfl ?_
 refine wp_skip ?_; refine Z00 (wp_seq ?_); refine wp_seq ?_; refine wp_region_lit ?_
 have hE := Env.refl a39 [39, 40]; refine zm 39 hE k e9 ?_; intro a40 hE e39 kp; refine sd 40 hE k (Z0q rfl e39 rfl) ?_; intro a41 hE e40 kp; refine wpList_nil ?_; replace e6 := hE.g e6; replace e8 := hE.g e8; replace e9 := hE.g e9; replace k := k.env hE; clear hE e38; refine Z00 ?_; refine Z06 e40 rfl ?_
 refine wp_skip ?_; refine Z00 (wp_seq ?_); refine wp_region_lit ?_
 have hE := Env.refl a41 [43, 7]; refine sd 43 hE k (Z1s O 0 rfl rfl (hE.g e8) [.int .i64 ↑l, .slice Bv xs.length cv] rfl Try.underlying46 rfl (by kernel_rfl)) ?_; intro a42 hE e43 kp; refine Z1f O 5 0 hE (hE.g e6) e43 ?_
 clear O; intro w43 O; replace O : OwnT _ _ (_ :: _ :: _ :: _ :: _ :: (tBlk rb 46 #[.int .i64 ↑l, .slice Bv xs.length cv]) :: _) w43 := O
 refine sd 7 hE k (Z01 rfl rfl) ?_; intro a44 hE e7 kp; refine wpList_nil ?_; replace e6 := hE.g e6; replace k := k.env hE; clear hE e8 e9 e40; refine Z00 ?_; refine wp_ret ?_
 have q0 : w43.cell? ⟨rb, 0, none⟩ = some (.int .i64 ↑l) := (OwnT.blk O 5 rfl).cell 0
 have q1 : w43.cell? ⟨rb, 1, none⟩ = some (.slice Bv xs.length cv) := (OwnT.blk O 5 rfl).cell 1
 refine Z3a rfl k e6 e7 (v := .agg #[.int .i64 ↑l, .slice Bv xs.length cv]) (by simp [go_sem, ↓IntWalk.iteOmega, q0, q1]) ?_
 exact ⟨_, rfl, OwnT.pickR (L := [_, _, _, _, _, _]) (R := R) O [1, 2, 3, 4] (by decide)⟩
theorem Z41 (c : List Pr) : ∀ (A : List (List Pr)) (n : Nat), outs (A ++ [c]) n = outs A n ++ [(keyAt c 0, n + A.length + 1)]
 | [], n => rfl
 | a :: A, n => by
  rw [List.cons_append, outs, outs, Z41 c A (n + 1), List.cons_append, List.length_cons, show n + 1 + A.length + 1 = n + (A.length + 1) + 1 by omega]
/-- One part more of a node's pairs. -/
theorem parts_step {xs : List Pr} (h16 : xs.length ≤ 16) {j : Nat} (h : ((parts xs).drop j).flatten ≠ []) :
 ∃ c m, j < (parts xs).length ∧ (parts xs).take (j + 1) = (parts xs).take j ++ [c] ∧ c ≠ [] ∧ c.length = m ∧ m ≤ 15 ∧ ((parts xs).drop j).flatten.take m = c ∧ ((parts xs).drop j).flatten.drop m = ((parts xs).drop (j + 1)).flatten ∧
  (m = 8 ∧ 15 < ((parts xs).drop j).flatten.length ∨ m = ((parts xs).drop j).flatten.length ∧ ((parts xs).drop j).flatten.length ≤ 15) := by
 have hj : j < (parts xs).length := by
  rcases Nat.lt_or_ge j (parts xs).length with h1 | h1
  · exact h1
  · rw [List.drop_of_length_le h1] at h; exact absurd rfl h
 by_cases h0 : xs = []
 · subst h0; simp [Z62] at hj
 by_cases h15 : xs.length ≤ 15
 · rw [Z2y h0 h15] at hj ⊢
   obtain rfl : j = 0 := by simpa using hj
   refine ⟨xs, xs.length, by simp, by simp, h0, rfl, h15, by simp, by simp, .inr ⟨by simp, by simpa using h15⟩⟩
 · have h8 : xs.length = 16 := by omega
   rw [Z2x h8] at hj ⊢
   have hA : xs.take 8 ≠ [] := fun e => by have := congrArg List.length e; rw [List.length_take, List.length_nil] at this; omega
   have hB : xs.drop 8 ≠ [] := fun e => by have := congrArg List.length e; rw [List.length_drop, List.length_nil] at this; omega
   have hj2 : j = 0 ∨ j = 1 := by simp at hj; omega
   rcases hj2 with rfl | rfl
   · refine ⟨xs.take 8, 8, by simp, by simp, hA, by rw [List.length_take]; omega, by omega, ?_, ?_, .inl ⟨rfl, by simp; omega⟩⟩
     · simp
     · simp
   · refine ⟨xs.drop 8, 8, by simp, by simp, hB, by rw [List.length_drop]; omega, by omega, ?_, ?_, .inr ⟨?_, ?_⟩⟩
     · simp only [List.drop_succ_cons, List.drop_zero, List.flatten_cons, List.flatten_nil, List.append_nil]
       rw [List.take_of_length_le (by rw [List.length_drop]; omega)]
     · simp only [List.drop_succ_cons, List.drop_zero, List.flatten_cons, List.flatten_nil, List.append_nil, List.drop_nil]
       rw [List.drop_of_length_le (by rw [List.length_drop]; omega)]
     · simp; omega
     · simp; omega
def lenV : Value → Nat
 | .slice _ n _ => n
 | _ => 0
theorem Z3r (m : Nat) (w : World) (h : m ≤ 1000000) : (convert 3 71 (.int .i64 ((m : Nat) : Int))).run Try.prog w = .ok (.int .u64 ((m : Nat) : Int)) w := by
 have e : IntKind.u64.wrap (m : Int) = m := by
  show (m : Int) % 18446744073709551616 = m
  omega
 simp [convert, run_underlying Try.underlying3, run_underlying Try.underlying71, Conv.intToInt, e]
/-- What 'added' brings. -/
structure AddedR (N : List Nd) (room : Int) (l : Nat) (xs : List Pr) (M : List Nd) (es : List Pr) (er : Int) : Prop where
 len : M.length ≤ (parts xs).length
 how : (er = 6 ∧ es = [] ∧ ¬ (N.length + (parts xs).length ≤ 511 ∧ ((N.length + (parts xs).length : Nat) : Int) ≤ room)) ∨ (er = 0 ∧ M = newN l (parts xs) ∧ es = outs (parts xs) N.length)

set_option maxRecDepth 100000 in
set_option maxHeartbeats 4000000 in
theorem tadded {H : Nat} {A0 : World} {R : List Thing} {sb cap : Nat} {room : Int} {B : Option Addr} {vs : List Value} {N : List Nd} {l cv : Nat} {xs : List Pr} {Bv : Option Addr} (w : World) (O : OwnT H A0 (tPs (.slice Bv xs.length cv) xs :: shT sb room B cap vs N R) w) (hN : N.length ≤ 1000) (h16 : xs.length ≤ 16) : Calls Try.prog 93 #[.iface 47 (.pointer (some ⟨sb, 0, none⟩)), .int .i64 l, (.slice Bv xs.length cv)] w fun e w' => ∃ M es er o B' cap' vs', e = .returned (.tuple #[o, .int .i64 er]) ∧ AddedR N room l xs M es er ∧ OwnT H A0 (tPs o es :: tPs (.slice Bv xs.length cv) xs :: shT sb room B' cap' vs' (N ++ M) R) w' := by
 obtain ⟨Bq, cq, eq, hcv, -, -, hsl⟩ := Z0x (OwnT.t0 O)
 injection eq with eq _ eq2
 subst eq eq2
 obtain ⟨P, hP⟩ : ∃ P, parts xs = P := ⟨_, rfl⟩
 have hPl : P.length ≤ 2 := hP ▸ Z2d xs
 have hPf : P.flatten = xs := hP ▸ Z4i xs
 refine Z0a Try.func93 rfl 49 rfl (by rfl) ?_
 intro a1 k hargs; have e0 : a1.eval (.tmp 0) = .iface 47 (.pointer (some ⟨sb, 0, none⟩)) := hargs 0 _ rfl
 have e1 : a1.eval (.tmp 1) = .int .i64 ↑l := hargs 1 _ rfl
 have e2 : a1.eval (.tmp 2) = .slice Bv xs.length cv := hargs 2 _ rfl
 clear hargs; refine wp_seq ?_; refine wp_region_lit ?_
 have hE := Env.refl a1 [6, 7]; refine sd 6 hE k (Z01 rfl rfl) ?_; intro a2 hE e6 kp; refine sd 7 hE k (Z01 rfl rfl) ?_; intro a3 hE e7 kp; refine wpList_nil ?_; replace e0 := hE.g e0; replace e1 := hE.g e1; replace e2 := hE.g e2; replace k := k.env hE; clear hE e7; refine Z00 (wp_seq ?_); refine wp_region_lit ?_
 have hE := Env.refl a3 [8]; refine sd 8 hE k (Z01 rfl rfl) ?_; intro a4 hE e8 kp; refine wpList_nil ?_; replace e0 := hE.g e0; replace e1 := hE.g e1; replace e2 := hE.g e2; replace k := k.env hE; clear hE; refine Z00 (wp_seq ?_); refine wp_block ?_; replace O := OwnT.nilRow O 103 2
 replace O : OwnT _ _ ((tRow 103 2 (.slice none 0 0) 0 (flatP [])) :: (tPs (.slice Bv xs.length cv) xs) :: (tBlk sb 49 #[.slice B N.length cap, .int .i64 room]) :: (tRow 46 2 (.slice B N.length cap) N.length (leafV vs N)) :: (tPool vs N) :: R) w := O
 replace O : OwnT _ _ ((tBlk sb 49 #[.slice B N.length cap, .int .i64 room]) :: (tRow 46 2 (.slice B N.length cap) N.length (leafV vs N)) :: (tPool vs N) :: (tRow 103 2 (.slice none 0 0) 0 (flatP [])) :: (tPs (.slice Bv xs.length cv) xs) :: R) w := OwnT.pickR (L := [_, _, _, _, _]) (R := R) O [2, 3, 4, 0, 1] (by decide)
 refine wp_loop (fun a w => Fr 49 a ∧ a.eval (.tmp 0) = .iface 47 (.pointer (some ⟨sb, 0, none⟩)) ∧ a.eval (.tmp 1) = .int .i64 ↑l ∧ ∃ (j : Nat) (rest : List Pr) (E : List Pr) (NJ : List Nd) (A' : Option Addr) (c' : Nat) (Bo : Option Addr) (co : Nat) (B : Option Addr) (cap : Nat) (vs : List Value), a.eval (.tmp 2) = .slice A' rest.length c' ∧ a.eval (.tmp 8) = .slice Bo j co ∧ j ≤ P.length ∧ (P.drop j).flatten = rest ∧ outs (P.take j) N.length = E ∧ N ++ newN l (P.take j) = NJ ∧ rest.length ≤ c' ∧ SlB A' c' rest ∧ (∀ W, (tPs (.slice Bv xs.length cv) xs).holds W → Row W A' 2 pairC rest) ∧ OwnT H A0 ((tBlk sb 49 #[.slice B NJ.length cap, .int .i64 room]) :: (tRow 46 2 (.slice B NJ.length cap) NJ.length (leafV vs NJ)) :: (tPool vs NJ) :: (tRow 103 2 (.slice Bo j co) j (flatP E)) :: (tPs (.slice Bv xs.length cv) xs) :: R) w) (fun a w => lenV (a.eval (.tmp 2))) ?_ ?_
 · exact ⟨k, e0, e1, 0, xs, [], N, Bv, cv, none, 0, B, cap, vs, e2, e8, Nat.zero_le _, by rw [List.drop_zero, hPf], rfl, by simp, hcv, hsl, (fun W h => by obtain ⟨_, _, e, _, _, h2, _⟩ := Z0x h; injection e with e _ e'; subst e e'; exact h2), O⟩
 intro a5 w6 hI; clear k e0 e1; obtain ⟨k, e0, e1, h_⟩ := hI
 clear O e2 e8; obtain ⟨j, rest, E, NJ, A', c', Bo, co, B, cap, vs, e2, e8, hj, hrest, hEo, hNJ, hc', hsl', hrow, O⟩ := h_
 have mj := e2
 have hNJl : NJ.length = N.length + j := by rw [← hNJ, List.length_append, List.length_map, List.length_take]; omega
 by_cases hr0 : rest = []
 · have hr0l : rest.length = 0 := by rw [hr0]; rfl
   refine wp_seq ?_; refine wp_seq ?_; refine wp_region_lit ?_
   have hE := Env.refl a5 [12, 13, 14]; refine zm 12 hE k e2 ?_; intro a7 hE e12 kp; refine sd 13 hE k (Z0j Try.underlying44 rfl e12) ?_; intro a8 hE e13 kp; refine sd 14 hE k (Z05 (Z2b rfl e13 rfl) (decide_eq_false (by omega))) ?_
   intro a9 hE e14 kp; refine wpList_nil ?_; replace e0 := hE.g e0; replace e1 := hE.g e1; replace e2 := hE.g e2; replace e8 := hE.g e8; replace k := k.env hE; clear hE; refine Z00 ?_; refine Z06 e14 rfl ?_
   refine wp_exit ?_
   refine Z1g ?_
   refine Z1g ?_
   refine Z1q ?_
   refine Z00 (wp_seq ?_); refine wp_region_lit ?_
   have hE := Env.refl a9 [48, 6, 7]; refine zm 48 hE k e8 ?_; intro a10 hE e48 kp; refine sd 6 hE k (Z01 rfl e48) ?_; intro a11 hE e6 kp; refine sd 7 hE k (Z01 rfl rfl) ?_; intro a12 hE e7 kp; replace e6 := kt kp e6; refine wpList_nil ?_; replace k := k.env hE; clear hE e0 e1 e2 e8 e14; refine Z00 ?_; refine wp_ret ?_
   have hjP : j = P.length := by
    rcases Nat.lt_or_ge j P.length with h1 | h1
    · exfalso
      have hne : (P.drop j).flatten ≠ [] := by
       rw [← hP] at h1 ⊢
       intro h2; have h3 : (parts xs)[j] ∈ (parts xs).drop j := List.mem_iff_getElem?.2 ⟨0, by rw [List.getElem?_drop, Nat.add_zero]; exact List.getElem?_eq_getElem h1⟩
       have h4 : (parts xs)[j] = [] := List.flatten_eq_nil_iff.1 h2 _ h3
       exact parts_ne _ (List.getElem_mem h1) h4
      exact hne (hrest.trans hr0)
    · omega
   rw [hjP, List.take_length] at hEo hNJ
   have hEl : E.length = j := by rw [← hEo, Z5c, hjP]
   have O2 := OwnT.pickR (L := [_, _, _, _, _]) (R := R) O [3, 4, 0, 1, 2] (by decide)
   refine Z1p rfl k e6 e7 ?_
   exact ⟨newN l P, E, 0, _, B, cap, vs, rfl, ⟨by rw [List.length_map, hP]; exact Nat.le_refl _, .inr ⟨rfl, by rw [hP], by rw [hP]; exact hEo.symm⟩⟩, by rw [hNJ, show tPs (.slice Bo j co) E = tRow 103 2 (.slice Bo j co) j (flatP E) by rw [tPs, hEl]]; exact O2⟩
 · have hr0l := List.length_pos_iff.2 hr0
   obtain ⟨c, m, hjl, htk, hcne, hcl, hm15, hct, hcd, hm⟩ := parts_step h16 (j := j) (by rw [hP, hrest]; exact hr0)
   rw [hP] at hjl htk hcd hct hm
   rw [hrest] at hct hm hcd
   obtain ⟨g, off, rfl⟩ : ∃ g off, A' = some ⟨g, off, none⟩ := by
    rcases hsl' with ⟨_, h, _⟩ | h
    · exact absurd h hr0
    · exact h

   have hm0 : 0 < m := by rw [← hcl]; exact List.length_pos_iff.2 hcne
   have hmr : m ≤ rest.length := by omega
   refine wp_seq ?_; refine wp_seq ?_; refine wp_region_lit ?_
   have hE := Env.refl a5 [12, 13, 14]; refine zm 12 hE k e2 ?_; intro a13 hE e12 kp; refine sd 13 hE k (Z0j Try.underlying44 rfl e12) ?_; intro a14 hE e13 kp; refine sd 14 hE k (Z05 (Z2b rfl e13 rfl) (decide_eq_true (by omega))) ?_
   intro a15 hE e14 kp; refine wpList_nil ?_; replace e0 := hE.g e0; replace e1 := hE.g e1; replace e2 := hE.g e2; replace e8 := hE.g e8; replace k := k.env hE; clear hE; refine Z00 ?_; refine Z0h e14 rfl ?_
   refine wp_skip ?_; refine Z00 ?_; refine wp_block ?_; refine wp_seq ?_; refine wp_region_lit ?_
   have hE := Env.refl a15 [15, 16, 9]; refine zm 15 hE k e2 ?_; intro a16 hE e15 kp; refine sd 16 hE k (Z0j Try.underlying44 rfl e15) ?_; intro a17 hE e16 kp; refine sd 9 hE k (Z01 rfl e16) ?_; intro a18 hE e9 kp; refine wpList_nil ?_; replace e0 := hE.g e0; replace e1 := hE.g e1; replace e2 := hE.g e2; replace e8 := hE.g e8; replace k := k.env hE; clear hE e14; refine Z00 ?_; rcases hm with ⟨hm, h15⟩ | ⟨hm, h15⟩
   · skip
     refine wp_seq ?_; refine wp_seq ?_; refine wp_region_lit ?_
     have hE := Env.refl a18 [17, 18]; refine zm 17 hE k e9 ?_; intro a19 hE e17 kp; refine sd 18 hE k (Z05 (Z2b rfl e17 rfl) (decide_eq_true (by omega))) ?_
     intro a20 hE e18 kp; refine wpList_nil ?_; replace e0 := hE.g e0; replace e1 := hE.g e1; replace e2 := hE.g e2; replace e8 := hE.g e8; replace e9 := hE.g e9; replace k := k.env hE; clear hE; refine Z00 ?_; refine Z0h e18 rfl ?_
     refine wp_region_lit ?_
     have hE := Env.refl a20 [9]; refine sd 9 hE k (Z01 rfl rfl) ?_; intro a21 hE e9 kp; refine wpList_nil ?_; replace e0 := hE.g e0; replace e1 := hE.g e1; replace e2 := hE.g e2; replace e8 := hE.g e8; replace k := k.env hE; clear hE e18; refine Z00 ?_; rw [show (8 : Int) = (m : Int) by omega] at e9
     by_cases hf : NJ.length < 511 ∧ (NJ.length : Int) < room
     rotate_left
     · skip
       have hfull : ∀ W, OwnT H A0 ((tBlk sb 49 #[.slice B NJ.length cap, .int .i64 room]) :: (tRow 46 2 (.slice B NJ.length cap) NJ.length (leafV vs NJ)) :: (tPool vs NJ) :: (tRow 103 2 (.slice Bo j co) j (flatP E)) :: (tPs (.slice Bv xs.length cv) xs) :: R) W → Calls Try.prog 148 #[.pointer (some ⟨sb, 0, none⟩), .agg #[.int .i64 ↑l, .slice (some ⟨g, off, none⟩) m c']] W fun e w' => e = .returned (.tuple #[.int .i64 0, .int .i64 6]) ∧ OwnT H A0 ((tBlk sb 49 #[.slice B NJ.length cap, .int .i64 room]) :: (tRow 46 2 (.slice B NJ.length cap) NJ.length (leafV vs NJ)) :: (tPool vs NJ) :: (tRow 103 2 (.slice Bo j co) j (flatP E)) :: (tPs (.slice Bv xs.length cv) xs) :: R) w' := by
        intro W O; rw [← hcl]; exact Z2u c W O (by omega) hf
       refine wp_seq ?_; refine Z4c (w0 := w6) 9 [[], [], [], [], [2, 3], [1, 2, 3, 4], [0], [0, 6], [0, 6, 7], rg 9, rg 10, rg 11, rg 11, rg 12, rg 14] [20, 21, 22, 23, 24, 25, 26, 27, 28, 29, 19, 30, 31, 10, 11] (by kernel_rfl) ?_
       apply BuildL.detA 20 (fun _ w_ _ => Ext.refl w_) (fun _ _ h => h.upd (by rfl)) (by rfl) (by rw [k.size]; rfl) rfl
       case h =>
        intro lx ax wx hE hI hl hA hF; have hR := hI.pre (by rfl) hl
        exact Z02 rfl (hE.g e0)
       apply BuildL.detA 21 (fun _ w_ _ => Ext.refl w_) (fun _ _ h => h.upd (by rfl)) (by rfl) (by rw [k.size]; rfl) rfl
       case h =>
        intro lx ax wx hE hI hl hA hF; have hR := hI.pre (by rfl) hl
        exact Z02 rfl (hE.g e1)
       apply BuildL.detA 22 (fun _ w_ _ => Ext.refl w_) (fun _ _ h => h.upd (by rfl)) (by rfl) (by rw [k.size]; rfl) rfl
       case h =>
        intro lx ax wx hE hI hl hA hF; have hR := hI.pre (by rfl) hl
        exact Z02 rfl (hE.g e2)
       apply BuildL.detA 23 (fun _ w_ _ => Ext.refl w_) (fun _ _ h => h.upd (by rfl)) (by rfl) (by rw [k.size]; rfl) rfl
       case h =>
        intro lx ax wx hE hI hl hA hF; have hR := hI.pre (by rfl) hl
        exact Z02 rfl (hE.g e9)
       apply BuildL.detA 24 (fun _ w_ _ => Ext.refl w_) (fun _ _ h => h.upd (by rfl)) (by rfl) (by rw [k.size]; rfl) rfl
       case h =>
        intro lx ax wx hE hI hl hA hF; have e22 := hF 2 (detL 2 22 _) (by decide) ml1
        have e23 := hF 3 (detL 3 23 _) (by decide) ml0
        have hR := hI.pre (by rfl) hl
        exact Z0r rfl e22 e23 (by omega)
       apply BuildL.detA 25 (fun _ w_ _ => Ext.refl w_) (fun _ _ h => h.upd (by rfl)) (by rfl) (by rw [k.size]; rfl) rfl
       case h =>
        intro lx ax wx hE hI hl hA hF; have e21 := hF 1 (detL 1 21 _) (by decide) ml3
        have e24 := hF 4 (detL 4 24 _) (by decide) ml0
        have hR := hI.pre (by rfl) hl
        simp [go_sem, ↓IntWalk.iteOmega, ev e21, ev e24]
        with_reducible rfl
       apply BuildL.detA 26 (fun _ w_ _ => Ext.refl w_) (fun _ _ h => h.upd (by rfl)) (by rfl) (by rw [k.size]; rfl) rfl
       case h =>
        intro lx ax wx hE hI hl hA hF; have e20 := hF 0 (detL 0 20 _) (by decide) ml5
        have hR := hI.pre (by rfl) hl
        exact x_mkM rfl e20
       apply BuildL.detA 27 (fun _ w_ _ => Ext.refl w_) (fun _ _ h => h.upd (by rfl)) (by rfl) (by rw [k.size]; rfl) rfl
       case h =>
        intro lx ax wx hE hI hl hA hF; have e26 := hF 6 (detL 6 26 _) (by decide) ml0
        have hR := hI.pre (by rfl) hl
        exact Z7e rfl e26
       apply BuildL.detA 28 (fun _ w_ _ => Ext.refl w_) (fun _ _ h => h.upd (by rfl)) (by rfl) (by rw [k.size]; rfl) rfl
       case h =>
        intro lx ax wx hE hI hl hA hF; have e20 := hF 0 (detL 0 20 _) (by decide) ml7
        have hR := hI.pre (by rfl) hl
        exact Z02 rfl e20
       refine BuildL.callnew 29 (fun v_ w_ => v_ = .tuple #[.int .i64 0, .int .i64 6] ∧ OwnT H A0 ((tBlk sb 49 #[.slice B NJ.length cap, .int .i64 room]) :: (tRow 46 2 (.slice B NJ.length cap) NJ.length (leafV vs NJ)) :: (tPool vs NJ) :: (tRow 103 2 (.slice Bo j co) j (flatP E)) :: (tPs (.slice Bv xs.length cv) xs) :: R) w_) (fun l v_ w_ w2_ hl hR h => by obtain ⟨hv, O⟩ := h; exact ⟨hv, OwnT.ext O (hR hl)⟩) (by rfl) (by rw [k.size]; rfl) rfl ?_ ?_
       · intro lx ax wx hE hI hl hA hF; have e25 := hF 5 (detL 5 25 _) (by decide) ml3
         have e28 := hF 8 (detL 8 28 _) (by decide) ml0
         have hR := hI.1 hl
         refine ⟨_, _, Z3s rfl e28 e25 (Z29 _ _ _), (hfull _ (OwnT.ext O hR)).mono ?_⟩
         rintro e w' ⟨rfl, O⟩
         exact ⟨_, rfl, fun h => absurd (hl.symm.trans h) Bool.false_ne_true, IM.at_ hA, rfl, O⟩
       refine BuildL.rel 19 29 (fun v => v) (by rfl) (fun _ w_ _ => Ext.refl w_) (fun _ _ h => h.upd (by rfl)) (by rfl) (by rw [k.size]; rfl) rfl ?_ ?_
       · intro lx ax wx hE hI hF; exact Z02 rfl rfl
       refine BuildL.rel 30 29 (fun v => projV v 0) (by rfl) (fun _ w_ _ => Ext.refl w_) (fun _ _ h => h.upd (by rfl)) (by rfl) (by rw [k.size]; rfl) rfl ?_ ?_
       · intro lx ax wx hE hI hF; have e19 : ax.eval (.tmp 19) = _ := hF 10 (relL 10 19 29 (fun v => v)) (by decide) ml0
         have fic := hF 9 _ (by decide) ml1
         obtain ⟨hv, O⟩ := fic
         rw [hv]
         rw [hv] at e19
         simp [go_sem, ↓IntWalk.iteOmega, ev e19, projV]
       refine BuildL.rel 31 29 (fun v => projV v 1) (by rfl) (fun _ w_ _ => Ext.refl w_) (fun _ _ h => h.upd (by rfl)) (by rfl) (by rw [k.size]; rfl) rfl ?_ ?_
       · intro lx ax wx hE hI hF; have e19 : ax.eval (.tmp 19) = _ := hF 10 (relL 10 19 29 (fun v => v)) (by decide) ml1
         have fic := hF 9 _ (by decide) ml2
         obtain ⟨hv, O⟩ := fic
         rw [hv]
         rw [hv] at e19
         simp [go_sem, ↓IntWalk.iteOmega, ev e19, projV]
       refine BuildL.rel 10 29 (fun v => projV v 0) (by rfl) (fun _ w_ _ => Ext.refl w_) (fun _ _ h => h.upd (by rfl)) (by rfl) (by rw [k.size]; rfl) rfl ?_ ?_
       · intro lx ax wx hE hI hF; have e30 : ax.eval (.tmp 30) = _ := hF 11 (relL 11 30 29 (fun v => projV v 0)) (by decide) ml1
         exact Z01 rfl e30
       refine BuildL.rel 11 29 (fun v => projV v 1) (by rfl) (fun _ w_ _ => Ext.refl w_) (fun _ _ h => h.upd (by rfl)) (by rfl) (by rw [k.size]; rfl) rfl ?_ ?_
       · intro lx ax wx hE hI hF; have e31 : ax.eval (.tmp 31) = _ := hF 12 (relL 12 31 29 (fun v => projV v 1)) (by decide) ml1
         exact Z01 rfl e31
       apply BuildL.stop
       refine ⟨by kernel_rfl, ?_⟩
       clear O; intro lx a22 w23 hE hI hL hF; clear hI hL; have fic := hF 9 _ ml5
       have e10 : a22.eval (.tmp 10) = _ := hF 13 (relL 13 10 29 (fun v => projV v 0)) ml1
       have e11 : a22.eval (.tmp 11) = _ := hF 14 (relL 14 11 29 (fun v => projV v 1)) ml0
       clear hF; obtain ⟨hv, O⟩ := fic
       rw [hv] at e10
       replace e10 : a22.eval (.tmp 10) = .int .i64 0 := e10
       rw [hv] at e11
       replace e11 : a22.eval (.tmp 11) = .int .i64 6 := e11
       clear hv; replace e0 := hE.g e0; replace e1 := hE.g e1; replace e2 := hE.g e2; replace e8 := hE.g e8; replace e9 := hE.g e9; replace k := k.env hE; clear hE; refine Z00 (wp_seq ?_); refine wp_seq ?_; refine wp_region_lit ?_
       have hE := Env.refl a22 [32, 33]; refine zm 32 hE k e11 ?_; intro a24 hE e32 kp; refine sd 33 hE k (Z0q rfl e32 rfl) ?_; intro a25 hE e33 kp; refine wpList_nil ?_; replace e0 := hE.g e0; replace e1 := hE.g e1; replace e2 := hE.g e2; replace e8 := hE.g e8; replace e9 := hE.g e9; replace e10 := hE.g e10; replace e11 := hE.g e11; replace k := k.env hE; clear hE; refine Z00 ?_; refine Z0h e33 rfl ?_
       refine wp_seq ?_; refine wp_region_lit ?_
       have hE := Env.refl a25 [34, 6, 7]; refine zm 34 hE k e11 ?_; intro a26 hE e34 kp; refine sd 6 hE k (Z01 rfl rfl) ?_; intro a27 hE e6 kp; replace e34 := kt kp e34; refine sd 7 hE k (Z01 rfl e34) ?_; intro a28 hE e7 kp; replace e6 := kt kp e6; refine wpList_nil ?_; replace k := k.env hE; clear hE e0 e1 e2 e8 e9 e10 e11 e33; refine Z00 ?_; refine wp_ret ?_
       refine Z0o ?_
       refine Z1l ?_
       refine Z0o ?_
       refine Z1l ?_
       refine Z0o ?_
       have O2 := OwnT.nilRow (OwnT.pickR (L := [_, _, _, _, _]) (R := R) O [4, 0, 1, 2] (by decide)) 103 2
       refine Z1p rfl k e6 e7 ?_
       exact ⟨newN l (P.take j), [], 6, _, B, cap, vs, rfl, ⟨by rw [List.length_map, List.length_take, hP]; omega, .inl ⟨rfl, rfl, by rw [hP]; omega⟩⟩, by rw [hNJ]; exact O2⟩
     have hrc : ∀ W, (tPs (.slice Bv xs.length cv) xs).holds W → Row W (some ⟨g, off, none⟩) 2 pairC c := fun W h => hct ▸ (hrow W h).take m
     have hok : ∀ W, OwnT H A0 ((tBlk sb 49 #[.slice B NJ.length cap, .int .i64 room]) :: (tRow 46 2 (.slice B NJ.length cap) NJ.length (leafV vs NJ)) :: (tPool vs NJ) :: (tRow 103 2 (.slice Bo j co) j (flatP E)) :: (tPs (.slice Bv xs.length cv) xs) :: R) W → Calls Try.prog 148 #[.pointer (some ⟨sb, 0, none⟩), .agg #[.int .i64 ↑l, .slice (some ⟨g, off, none⟩) m c']] W fun e w' => e = .returned (.tuple #[.int .i64 ((NJ.length + 1 : Nat) : Int), .int .i64 0]) ∧ ∃ B2 cap2 vs2, OwnT H A0 (shT sb room B2 cap2 vs2 ((NJ ++ [(l, c)])) (tRow 103 2 (.slice Bo j co) j (flatP E) :: tPs (.slice Bv xs.length cv) xs :: R)) w' := by
      intro W O; rw [← hcl]; exact Z54 c W O (by omega) hf (hrc _ (OwnT.get O 4 rfl)) (.inr ⟨g, off, rfl⟩) (by omega)
     refine wp_seq ?_; refine Z4c (w0 := w6) 9 [[], [], [], [], [2, 3], [1, 2, 3, 4], [0], [0, 6], [0, 6, 7], rg 9, rg 10, rg 11, rg 11, rg 12, rg 14] [20, 21, 22, 23, 24, 25, 26, 27, 28, 29, 19, 30, 31, 10, 11] (by kernel_rfl) ?_
     apply BuildL.detA 20 (fun _ w_ _ => Ext.refl w_) (fun _ _ h => h.upd (by rfl)) (by rfl) (by rw [k.size]; rfl) rfl
     case h =>
      intro lx ax wx hE hI hl hA hF; have hR := hI.pre (by rfl) hl
      exact Z02 rfl (hE.g e0)
     apply BuildL.detA 21 (fun _ w_ _ => Ext.refl w_) (fun _ _ h => h.upd (by rfl)) (by rfl) (by rw [k.size]; rfl) rfl
     case h =>
      intro lx ax wx hE hI hl hA hF; have hR := hI.pre (by rfl) hl
      exact Z02 rfl (hE.g e1)
     apply BuildL.detA 22 (fun _ w_ _ => Ext.refl w_) (fun _ _ h => h.upd (by rfl)) (by rfl) (by rw [k.size]; rfl) rfl
     case h =>
      intro lx ax wx hE hI hl hA hF; have hR := hI.pre (by rfl) hl
      exact Z02 rfl (hE.g e2)
     apply BuildL.detA 23 (fun _ w_ _ => Ext.refl w_) (fun _ _ h => h.upd (by rfl)) (by rfl) (by rw [k.size]; rfl) rfl
     case h =>
      intro lx ax wx hE hI hl hA hF; have hR := hI.pre (by rfl) hl
      exact Z02 rfl (hE.g e9)
     apply BuildL.detA 24 (fun _ w_ _ => Ext.refl w_) (fun _ _ h => h.upd (by rfl)) (by rfl) (by rw [k.size]; rfl) rfl
     case h =>
      intro lx ax wx hE hI hl hA hF; have e22 := hF 2 (detL 2 22 _) (by decide) ml1
      have e23 := hF 3 (detL 3 23 _) (by decide) ml0
      have hR := hI.pre (by rfl) hl
      exact Z0r rfl e22 e23 (by omega)
     apply BuildL.detA 25 (fun _ w_ _ => Ext.refl w_) (fun _ _ h => h.upd (by rfl)) (by rfl) (by rw [k.size]; rfl) rfl
     case h =>
      intro lx ax wx hE hI hl hA hF; have e21 := hF 1 (detL 1 21 _) (by decide) ml3
      have e24 := hF 4 (detL 4 24 _) (by decide) ml0
      have hR := hI.pre (by rfl) hl
      simp [go_sem, ↓IntWalk.iteOmega, ev e21, ev e24]
      with_reducible rfl
     apply BuildL.detA 26 (fun _ w_ _ => Ext.refl w_) (fun _ _ h => h.upd (by rfl)) (by rfl) (by rw [k.size]; rfl) rfl
     case h =>
      intro lx ax wx hE hI hl hA hF; have e20 := hF 0 (detL 0 20 _) (by decide) ml5
      have hR := hI.pre (by rfl) hl
      exact x_mkM rfl e20
     apply BuildL.detA 27 (fun _ w_ _ => Ext.refl w_) (fun _ _ h => h.upd (by rfl)) (by rfl) (by rw [k.size]; rfl) rfl
     case h =>
      intro lx ax wx hE hI hl hA hF; have e26 := hF 6 (detL 6 26 _) (by decide) ml0
      have hR := hI.pre (by rfl) hl
      exact Z7e rfl e26
     apply BuildL.detA 28 (fun _ w_ _ => Ext.refl w_) (fun _ _ h => h.upd (by rfl)) (by rfl) (by rw [k.size]; rfl) rfl
     case h =>
      intro lx ax wx hE hI hl hA hF; have e20 := hF 0 (detL 0 20 _) (by decide) ml7
      have hR := hI.pre (by rfl) hl
      exact Z02 rfl e20
     refine BuildL.callnew 29 (fun v_ w_ => ∃ B2 cap2 vs2, v_ = .tuple #[.int .i64 ((NJ.length + 1 : Nat) : Int), .int .i64 0] ∧ OwnT H A0 (shT sb room B2 cap2 vs2 ((NJ ++ [(l, c)])) (tRow 103 2 (.slice Bo j co) j (flatP E) :: tPs (.slice Bv xs.length cv) xs :: R)) w_) (fun l v_ w_ w2_ hl hR h => by obtain ⟨B2, cap2, vs2, hv, O⟩ := h; exact ⟨B2, cap2, vs2, hv, OwnT.ext O (hR hl)⟩) (by rfl) (by rw [k.size]; rfl) rfl ?_ ?_
     · intro lx ax wx hE hI hl hA hF; have e25 := hF 5 (detL 5 25 _) (by decide) ml3
       have e28 := hF 8 (detL 8 28 _) (by decide) ml0
       have hR := hI.1 hl
       refine ⟨_, _, Z3s rfl e28 e25 (Z29 _ _ _), (hok _ (OwnT.ext O hR)).mono ?_⟩
       rintro e w' ⟨rfl, B2, cap2, vs2, O⟩
       exact ⟨_, rfl, fun h => absurd (hl.symm.trans h) Bool.false_ne_true, IM.at_ hA, B2, cap2, vs2, rfl, O⟩
     refine BuildL.rel 19 29 (fun v => v) (by rfl) (fun _ w_ _ => Ext.refl w_) (fun _ _ h => h.upd (by rfl)) (by rfl) (by rw [k.size]; rfl) rfl ?_ ?_
     · intro lx ax wx hE hI hF; exact Z02 rfl rfl
     refine BuildL.rel 30 29 (fun v => projV v 0) (by rfl) (fun _ w_ _ => Ext.refl w_) (fun _ _ h => h.upd (by rfl)) (by rfl) (by rw [k.size]; rfl) rfl ?_ ?_
     · intro lx ax wx hE hI hF; have e19 : ax.eval (.tmp 19) = _ := hF 10 (relL 10 19 29 (fun v => v)) (by decide) ml0
       have fic := hF 9 _ (by decide) ml1
       obtain ⟨B2, cap2, vs2, hv, O⟩ := fic
       rw [hv]
       rw [hv] at e19
       simp [go_sem, ↓IntWalk.iteOmega, ev e19, projV]
     refine BuildL.rel 31 29 (fun v => projV v 1) (by rfl) (fun _ w_ _ => Ext.refl w_) (fun _ _ h => h.upd (by rfl)) (by rfl) (by rw [k.size]; rfl) rfl ?_ ?_
     · intro lx ax wx hE hI hF; have e19 : ax.eval (.tmp 19) = _ := hF 10 (relL 10 19 29 (fun v => v)) (by decide) ml1
       have fic := hF 9 _ (by decide) ml2
       obtain ⟨B2, cap2, vs2, hv, O⟩ := fic
       rw [hv]
       rw [hv] at e19
       simp [go_sem, ↓IntWalk.iteOmega, ev e19, projV]
     refine BuildL.rel 10 29 (fun v => projV v 0) (by rfl) (fun _ w_ _ => Ext.refl w_) (fun _ _ h => h.upd (by rfl)) (by rfl) (by rw [k.size]; rfl) rfl ?_ ?_
     · intro lx ax wx hE hI hF; have e30 : ax.eval (.tmp 30) = _ := hF 11 (relL 11 30 29 (fun v => projV v 0)) (by decide) ml1
       exact Z01 rfl e30
     refine BuildL.rel 11 29 (fun v => projV v 1) (by rfl) (fun _ w_ _ => Ext.refl w_) (fun _ _ h => h.upd (by rfl)) (by rfl) (by rw [k.size]; rfl) rfl ?_ ?_
     · intro lx ax wx hE hI hF; have e31 : ax.eval (.tmp 31) = _ := hF 12 (relL 12 31 29 (fun v => projV v 1)) (by decide) ml1
       exact Z01 rfl e31
     apply BuildL.stop
     refine ⟨by kernel_rfl, ?_⟩
     clear O; intro lx a29 w30 hE hI hL hF; clear hI hL; have fic := hF 9 _ ml5
     have e10 : a29.eval (.tmp 10) = _ := hF 13 (relL 13 10 29 (fun v => projV v 0)) ml1
     have e11 : a29.eval (.tmp 11) = _ := hF 14 (relL 14 11 29 (fun v => projV v 1)) ml0
     clear hF; obtain ⟨B2, cap2, vs2, hv, O⟩ := fic
     rw [hv] at e10
     replace e10 : a29.eval (.tmp 10) = .int .i64 (((NJ.length + 1 : Nat) : Int)) := e10
     rw [hv] at e11
     replace e11 : a29.eval (.tmp 11) = .int .i64 0 := e11
     clear hv; replace e0 := hE.g e0; replace e1 := hE.g e1; replace e2 := hE.g e2; replace e8 := hE.g e8; replace e9 := hE.g e9; replace k := k.env hE; clear hE; refine Z00 (wp_seq ?_); refine wp_seq ?_; refine wp_region_lit ?_
     have hE := Env.refl a29 [32, 33]; refine zm 32 hE k e11 ?_; intro a31 hE e32 kp; refine sd 33 hE k (Z0q rfl e32 rfl) ?_; intro a32 hE e33 kp; refine wpList_nil ?_; replace e0 := hE.g e0; replace e1 := hE.g e1; replace e2 := hE.g e2; replace e8 := hE.g e8; replace e9 := hE.g e9; replace e10 := hE.g e10; replace e11 := hE.g e11; replace k := k.env hE; clear hE; refine Z00 ?_; refine Z06 e33 rfl ?_
     refine wp_skip ?_; refine Z00 ?_; replace O : OwnT _ _ ((tRow 103 2 (.slice Bo j co) j (flatP E)) :: (tPs (.slice Bv xs.length cv) xs) :: (tBlk sb 49 #[.slice B2 (((NJ ++ [(l, c)])).length) cap2, .int .i64 room]) :: (tRow 46 2 (.slice B2 ((NJ ++ [(l, c)])).length cap2) ((NJ ++ [(l, c)])).length (leafV vs2 ((NJ ++ [(l, c)])))) :: (tPool vs2 ((NJ ++ [(l, c)]))) :: R) w30 := OwnT.pickR (L := [_, _, _, _, _]) (R := R) O [3, 4, 0, 1, 2] (by decide)
     obtain ⟨k0, v0, r0, hk0⟩ : ∃ k v r, rest = (k, v) :: r := by obtain ⟨x, r, e⟩ := List.exists_cons_of_ne_nil hr0; exact ⟨x.1, x.2, r, e⟩
     have hkc : keyAt c 0 = k0 := by rw [← hct, hk0]; obtain ⟨m', rfl⟩ : ∃ m', m = m' + 1 := ⟨m - 1, by omega⟩; rfl
     have ck : w30.cell? ⟨g, off, none⟩ = some (.int .u64 (k0 : Int)) := by
      obtain ⟨b, o, e, _, hc⟩ := hrow _ (OwnT.get O 1 rfl) 0 (k0, v0) (by rw [hk0]; rfl)
      injection e with e; injection e with e e'; subst e e'
      exact hc 0 _ rfl
     obtain ⟨pg, hpg⟩ : ∃ p, NJ.length + 1 = p := ⟨_, rfl⟩
     rw [show ((NJ.length + 1 : Nat) : Int) = (pg : Int) by rw [hpg]] at e10
     refine wp_seq ?_; refine wp_region_lit ?_
     have hE := Env.refl a32 [35, 36, 37, 38, 39, 40, 41, 42, 43, 44, 8]; refine sd 35 hE k (Z02 rfl e8) ?_; intro a33 hE e35 kp; replace e8 := kt kp e8; refine zm 36 hE k e2 ?_; intro a34 hE e36 kp; replace e8 := kt kp e8; replace e35 := kt kp e35; apply Z03 37 hE k rfl rfl rfl rfl; case h =>
      simp [go_sem, ↓IntWalk.iteOmega, ev e36]
      with_reducible rfl
     intro a35 hE e37 kp; replace e8 := kt kp e8; replace e35 := kt kp e35; apply Z03 38 hE k rfl rfl rfl rfl; case h =>
      simp [go_sem, ↓IntWalk.iteOmega, ev e37]
      with_reducible rfl
     intro a36 hE e38 kp; replace e8 := kt kp e8; replace e35 := kt kp e35; apply Z03 39 hE k rfl rfl rfl rfl; case h =>
      simp [go_sem, ↓IntWalk.iteOmega, ev e38, ck]
      with_reducible rfl
     intro a37 hE e39 kp; replace e8 := kt kp e8; replace e35 := kt kp e35; refine zm 40 hE k e10 ?_; intro a38 hE e40 kp; replace e8 := kt kp e8; replace e35 := kt kp e35; replace e39 := kt kp e39; refine sd 41 hE k (Z2r rfl e40 (Z3r pg _ (by omega))) ?_
     intro a39 hE e41 kp; replace e8 := kt kp e8; replace e35 := kt kp e35; replace e39 := kt kp e39; apply Z03 42 hE k rfl rfl rfl rfl; case h =>
      simp [go_sem, ↓IntWalk.iteOmega, ev e39, ev e41]
      with_reducible rfl
     intro a40 hE e42 kp; replace e8 := kt kp e8; replace e35 := kt kp e35; refine Z1n (m := 1) (c := 1) O (cs := #[.int .u64 ↑k0, .int .u64 ↑pg]) (t := 103) 43 hE k rfl (by rfl) (by rfl) rfl (by simp [go_sem, ↓IntWalk.iteOmega, ev e42]) ?_
     clear O; intro gn a41 w42 O hE e43 kp; replace e8 := kt kp e8; replace e35 := kt kp e35; obtain ⟨gr, cr, w43, hrun, O⟩ := Z3d O elemPr (by decide) rfl (by intro u hu; simp at hu; rcases hu with rfl | rfl <;> rfl) (by unfold maxLen; omega) (by omega)
     apply Z1r 44 hE k rfl (by rfl) (by rfl) rfl
     case h => exact Z1e rfl e35 e43 (hrun _)
     clear hrun; intro a44 hE e44 kp; replace e8 := kt kp e8; refine sd 8 hE k (Z01 rfl e44) ?_; intro a45 hE e8 kp; refine wpList_nil ?_; replace e0 := hE.g e0; replace e1 := hE.g e1; replace e2 := hE.g e2; replace e9 := hE.g e9; replace k := k.env hE; clear hE e10 e11 e33; refine Z00 ?_; refine wp_region_lit ?_
     have hE := Env.refl a45 [45, 46, 47, 2]; refine sd 45 hE k (Z02 rfl e2) ?_; intro a46 hE e45 kp; replace e2 := kt kp e2; refine zm 46 hE k e9 ?_; intro a47 hE e46 kp; replace e2 := kt kp e2; replace e45 := kt kp e45; refine sd 47 hE k (Z2q rfl e45 e46 hmr hc') ?_; intro a48 hE e47 kp; replace e2 := kt kp e2; refine sd 2 hE k (Z01 rfl e47) ?_; intro a49 hE e2 kp; refine wpList_nil ?_; replace e0 := hE.g e0; replace e1 := hE.g e1; replace e8 := hE.g e8; replace k := k.env hE; clear hE e9; refine Z0u ?_; refine Z00 ?_; have hxs := OwnT.get O 1 rfl
     replace O : OwnT _ _ ((tBlk sb 49 #[.slice B2 (((NJ ++ [(l, c)])).length) cap2, .int .i64 room]) :: (tRow 46 2 (.slice B2 ((NJ ++ [(l, c)])).length cap2) ((NJ ++ [(l, c)])).length (leafV vs2 ((NJ ++ [(l, c)])))) :: (tPool vs2 ((NJ ++ [(l, c)]))) :: (tRow 103 2 (.slice (some ⟨gr, 0, none⟩) ((j + 1)) cr) (j + 1) ((flatP E) ++ [Value.int .u64 (k0 : Int), Value.int .u64 (pg : Int)])) :: (tPs (.slice Bv xs.length cv) xs) :: R) w43 := OwnT.pickR (L := [_, _, _, _, _]) (R := R) O [2, 3, 4, 0, 1] (by decide)
     have hdl : (rest.drop m).length = rest.length - m := List.length_drop ..
     refine ⟨⟨k, e0, e1, j + 1, rest.drop m, outs (P.take (j + 1)) N.length, NJ ++ [(l, c)], _, c' - m, some ⟨gr, 0, none⟩, cr, B2, cap2, vs2, (by rw [hdl]; exact e2), e8, hjl, hcd.symm, rfl, ?_, (by rw [hdl]; omega), .inr ?_, (fun W h => (hrow W h).sub m c' (fun hne e => ?_)), ?_⟩, ?_⟩
     · rw [htk, ← hNJ]; simp [newN]
     · split
       · exact ⟨g, off, rfl⟩
       · exact ⟨g, off + m * 2, by simp [Addr.add]; omega⟩
     · have := List.length_pos_iff.2 hne
       omega
     · rw [htk, Z41, hEo, hkc, List.length_take, show N.length + min j P.length + 1 = pg by omega]
       rw [show flatP (E ++ [(k0, pg)]) = flatP E ++ [Value.int .u64 (k0 : Int), Value.int .u64 (pg : Int)] by simp [flatP, pairC]]
       exact O
     · rw [e2, mj]; simp only [lenV]; omega

   · skip
     refine wp_seq ?_; refine wp_seq ?_; refine wp_region_lit ?_
     have hE := Env.refl a18 [17, 18]; refine zm 17 hE k e9 ?_; intro a50 hE e17 kp; refine sd 18 hE k (Z05 (Z2b rfl e17 rfl) (decide_eq_false (by omega))) ?_
     intro a51 hE e18 kp; refine wpList_nil ?_; replace e0 := hE.g e0; replace e1 := hE.g e1; replace e2 := hE.g e2; replace e8 := hE.g e8; replace e9 := hE.g e9; replace k := k.env hE; clear hE; refine Z00 ?_; refine Z06 e18 rfl ?_
     refine wp_skip ?_; refine Z00 ?_; rw [← hm] at e9
     by_cases hf : NJ.length < 511 ∧ (NJ.length : Int) < room
     rotate_left
     · skip
       have hfull : ∀ W, OwnT H A0 ((tBlk sb 49 #[.slice B NJ.length cap, .int .i64 room]) :: (tRow 46 2 (.slice B NJ.length cap) NJ.length (leafV vs NJ)) :: (tPool vs NJ) :: (tRow 103 2 (.slice Bo j co) j (flatP E)) :: (tPs (.slice Bv xs.length cv) xs) :: R) W → Calls Try.prog 148 #[.pointer (some ⟨sb, 0, none⟩), .agg #[.int .i64 ↑l, .slice (some ⟨g, off, none⟩) m c']] W fun e w' => e = .returned (.tuple #[.int .i64 0, .int .i64 6]) ∧ OwnT H A0 ((tBlk sb 49 #[.slice B NJ.length cap, .int .i64 room]) :: (tRow 46 2 (.slice B NJ.length cap) NJ.length (leafV vs NJ)) :: (tPool vs NJ) :: (tRow 103 2 (.slice Bo j co) j (flatP E)) :: (tPs (.slice Bv xs.length cv) xs) :: R) w' := by
        intro W O; rw [← hcl]; exact Z2u c W O (by omega) hf
       refine wp_seq ?_; refine Z4c (w0 := w6) 9 [[], [], [], [], [2, 3], [1, 2, 3, 4], [0], [0, 6], [0, 6, 7], rg 9, rg 10, rg 11, rg 11, rg 12, rg 14] [20, 21, 22, 23, 24, 25, 26, 27, 28, 29, 19, 30, 31, 10, 11] (by kernel_rfl) ?_
       apply BuildL.detA 20 (fun _ w_ _ => Ext.refl w_) (fun _ _ h => h.upd (by rfl)) (by rfl) (by rw [k.size]; rfl) rfl
       case h =>
        intro lx ax wx hE hI hl hA hF; have hR := hI.pre (by rfl) hl
        exact Z02 rfl (hE.g e0)
       apply BuildL.detA 21 (fun _ w_ _ => Ext.refl w_) (fun _ _ h => h.upd (by rfl)) (by rfl) (by rw [k.size]; rfl) rfl
       case h =>
        intro lx ax wx hE hI hl hA hF; have hR := hI.pre (by rfl) hl
        exact Z02 rfl (hE.g e1)
       apply BuildL.detA 22 (fun _ w_ _ => Ext.refl w_) (fun _ _ h => h.upd (by rfl)) (by rfl) (by rw [k.size]; rfl) rfl
       case h =>
        intro lx ax wx hE hI hl hA hF; have hR := hI.pre (by rfl) hl
        exact Z02 rfl (hE.g e2)
       apply BuildL.detA 23 (fun _ w_ _ => Ext.refl w_) (fun _ _ h => h.upd (by rfl)) (by rfl) (by rw [k.size]; rfl) rfl
       case h =>
        intro lx ax wx hE hI hl hA hF; have hR := hI.pre (by rfl) hl
        exact Z02 rfl (hE.g e9)
       apply BuildL.detA 24 (fun _ w_ _ => Ext.refl w_) (fun _ _ h => h.upd (by rfl)) (by rfl) (by rw [k.size]; rfl) rfl
       case h =>
        intro lx ax wx hE hI hl hA hF; have e22 := hF 2 (detL 2 22 _) (by decide) ml1
        have e23 := hF 3 (detL 3 23 _) (by decide) ml0
        have hR := hI.pre (by rfl) hl
        exact Z0r rfl e22 e23 (by omega)
       apply BuildL.detA 25 (fun _ w_ _ => Ext.refl w_) (fun _ _ h => h.upd (by rfl)) (by rfl) (by rw [k.size]; rfl) rfl
       case h =>
        intro lx ax wx hE hI hl hA hF; have e21 := hF 1 (detL 1 21 _) (by decide) ml3
        have e24 := hF 4 (detL 4 24 _) (by decide) ml0
        have hR := hI.pre (by rfl) hl
        simp [go_sem, ↓IntWalk.iteOmega, ev e21, ev e24]
        with_reducible rfl
       apply BuildL.detA 26 (fun _ w_ _ => Ext.refl w_) (fun _ _ h => h.upd (by rfl)) (by rfl) (by rw [k.size]; rfl) rfl
       case h =>
        intro lx ax wx hE hI hl hA hF; have e20 := hF 0 (detL 0 20 _) (by decide) ml5
        have hR := hI.pre (by rfl) hl
        exact x_mkM rfl e20
       apply BuildL.detA 27 (fun _ w_ _ => Ext.refl w_) (fun _ _ h => h.upd (by rfl)) (by rfl) (by rw [k.size]; rfl) rfl
       case h =>
        intro lx ax wx hE hI hl hA hF; have e26 := hF 6 (detL 6 26 _) (by decide) ml0
        have hR := hI.pre (by rfl) hl
        exact Z7e rfl e26
       apply BuildL.detA 28 (fun _ w_ _ => Ext.refl w_) (fun _ _ h => h.upd (by rfl)) (by rfl) (by rw [k.size]; rfl) rfl
       case h =>
        intro lx ax wx hE hI hl hA hF; have e20 := hF 0 (detL 0 20 _) (by decide) ml7
        have hR := hI.pre (by rfl) hl
        exact Z02 rfl e20
       refine BuildL.callnew 29 (fun v_ w_ => v_ = .tuple #[.int .i64 0, .int .i64 6] ∧ OwnT H A0 ((tBlk sb 49 #[.slice B NJ.length cap, .int .i64 room]) :: (tRow 46 2 (.slice B NJ.length cap) NJ.length (leafV vs NJ)) :: (tPool vs NJ) :: (tRow 103 2 (.slice Bo j co) j (flatP E)) :: (tPs (.slice Bv xs.length cv) xs) :: R) w_) (fun l v_ w_ w2_ hl hR h => by obtain ⟨hv, O⟩ := h; exact ⟨hv, OwnT.ext O (hR hl)⟩) (by rfl) (by rw [k.size]; rfl) rfl ?_ ?_
       · intro lx ax wx hE hI hl hA hF; have e25 := hF 5 (detL 5 25 _) (by decide) ml3
         have e28 := hF 8 (detL 8 28 _) (by decide) ml0
         have hR := hI.1 hl
         refine ⟨_, _, Z3s rfl e28 e25 (Z29 _ _ _), (hfull _ (OwnT.ext O hR)).mono ?_⟩
         rintro e w' ⟨rfl, O⟩
         exact ⟨_, rfl, fun h => absurd (hl.symm.trans h) Bool.false_ne_true, IM.at_ hA, rfl, O⟩
       refine BuildL.rel 19 29 (fun v => v) (by rfl) (fun _ w_ _ => Ext.refl w_) (fun _ _ h => h.upd (by rfl)) (by rfl) (by rw [k.size]; rfl) rfl ?_ ?_
       · intro lx ax wx hE hI hF; exact Z02 rfl rfl
       refine BuildL.rel 30 29 (fun v => projV v 0) (by rfl) (fun _ w_ _ => Ext.refl w_) (fun _ _ h => h.upd (by rfl)) (by rfl) (by rw [k.size]; rfl) rfl ?_ ?_
       · intro lx ax wx hE hI hF; have e19 : ax.eval (.tmp 19) = _ := hF 10 (relL 10 19 29 (fun v => v)) (by decide) ml0
         have fic := hF 9 _ (by decide) ml1
         obtain ⟨hv, O⟩ := fic
         rw [hv]
         rw [hv] at e19
         simp [go_sem, ↓IntWalk.iteOmega, ev e19, projV]
       refine BuildL.rel 31 29 (fun v => projV v 1) (by rfl) (fun _ w_ _ => Ext.refl w_) (fun _ _ h => h.upd (by rfl)) (by rfl) (by rw [k.size]; rfl) rfl ?_ ?_
       · intro lx ax wx hE hI hF; have e19 : ax.eval (.tmp 19) = _ := hF 10 (relL 10 19 29 (fun v => v)) (by decide) ml1
         have fic := hF 9 _ (by decide) ml2
         obtain ⟨hv, O⟩ := fic
         rw [hv]
         rw [hv] at e19
         simp [go_sem, ↓IntWalk.iteOmega, ev e19, projV]
       refine BuildL.rel 10 29 (fun v => projV v 0) (by rfl) (fun _ w_ _ => Ext.refl w_) (fun _ _ h => h.upd (by rfl)) (by rfl) (by rw [k.size]; rfl) rfl ?_ ?_
       · intro lx ax wx hE hI hF; have e30 : ax.eval (.tmp 30) = _ := hF 11 (relL 11 30 29 (fun v => projV v 0)) (by decide) ml1
         exact Z01 rfl e30
       refine BuildL.rel 11 29 (fun v => projV v 1) (by rfl) (fun _ w_ _ => Ext.refl w_) (fun _ _ h => h.upd (by rfl)) (by rfl) (by rw [k.size]; rfl) rfl ?_ ?_
       · intro lx ax wx hE hI hF; have e31 : ax.eval (.tmp 31) = _ := hF 12 (relL 12 31 29 (fun v => projV v 1)) (by decide) ml1
         exact Z01 rfl e31
       apply BuildL.stop
       refine ⟨by kernel_rfl, ?_⟩
       clear O; intro lx a52 w53 hE hI hL hF; clear hI hL; have fic := hF 9 _ ml5
       have e10 : a52.eval (.tmp 10) = _ := hF 13 (relL 13 10 29 (fun v => projV v 0)) ml1
       have e11 : a52.eval (.tmp 11) = _ := hF 14 (relL 14 11 29 (fun v => projV v 1)) ml0
       clear hF; obtain ⟨hv, O⟩ := fic
       rw [hv] at e10
       replace e10 : a52.eval (.tmp 10) = .int .i64 0 := e10
       rw [hv] at e11
       replace e11 : a52.eval (.tmp 11) = .int .i64 6 := e11
       clear hv; replace e0 := hE.g e0; replace e1 := hE.g e1; replace e2 := hE.g e2; replace e8 := hE.g e8; replace e9 := hE.g e9; replace k := k.env hE; clear hE e18; refine Z00 (wp_seq ?_); refine wp_seq ?_; refine wp_region_lit ?_
       have hE := Env.refl a52 [32, 33]; refine zm 32 hE k e11 ?_; intro a54 hE e32 kp; refine sd 33 hE k (Z0q rfl e32 rfl) ?_; intro a55 hE e33 kp; refine wpList_nil ?_; replace e0 := hE.g e0; replace e1 := hE.g e1; replace e2 := hE.g e2; replace e8 := hE.g e8; replace e9 := hE.g e9; replace e10 := hE.g e10; replace e11 := hE.g e11; replace k := k.env hE; clear hE; refine Z00 ?_; refine Z0h e33 rfl ?_
       refine wp_seq ?_; refine wp_region_lit ?_
       have hE := Env.refl a55 [34, 6, 7]; refine zm 34 hE k e11 ?_; intro a56 hE e34 kp; refine sd 6 hE k (Z01 rfl rfl) ?_; intro a57 hE e6 kp; replace e34 := kt kp e34; refine sd 7 hE k (Z01 rfl e34) ?_; intro a58 hE e7 kp; replace e6 := kt kp e6; refine wpList_nil ?_; replace k := k.env hE; clear hE e0 e1 e2 e8 e9 e10 e11 e33; refine Z00 ?_; refine wp_ret ?_
       refine Z0o ?_
       refine Z1l ?_
       refine Z0o ?_
       refine Z1l ?_
       refine Z0o ?_
       have O2 := OwnT.nilRow (OwnT.pickR (L := [_, _, _, _, _]) (R := R) O [4, 0, 1, 2] (by decide)) 103 2
       refine Z1p rfl k e6 e7 ?_
       exact ⟨newN l (P.take j), [], 6, _, B, cap, vs, rfl, ⟨by rw [List.length_map, List.length_take, hP]; omega, .inl ⟨rfl, rfl, by rw [hP]; omega⟩⟩, by rw [hNJ]; exact O2⟩
     have hrc : ∀ W, (tPs (.slice Bv xs.length cv) xs).holds W → Row W (some ⟨g, off, none⟩) 2 pairC c := fun W h => hct ▸ (hrow W h).take m
     have hok : ∀ W, OwnT H A0 ((tBlk sb 49 #[.slice B NJ.length cap, .int .i64 room]) :: (tRow 46 2 (.slice B NJ.length cap) NJ.length (leafV vs NJ)) :: (tPool vs NJ) :: (tRow 103 2 (.slice Bo j co) j (flatP E)) :: (tPs (.slice Bv xs.length cv) xs) :: R) W → Calls Try.prog 148 #[.pointer (some ⟨sb, 0, none⟩), .agg #[.int .i64 ↑l, .slice (some ⟨g, off, none⟩) m c']] W fun e w' => e = .returned (.tuple #[.int .i64 ((NJ.length + 1 : Nat) : Int), .int .i64 0]) ∧ ∃ B2 cap2 vs2, OwnT H A0 (shT sb room B2 cap2 vs2 ((NJ ++ [(l, c)])) (tRow 103 2 (.slice Bo j co) j (flatP E) :: tPs (.slice Bv xs.length cv) xs :: R)) w' := by
      intro W O; rw [← hcl]; exact Z54 c W O (by omega) hf (hrc _ (OwnT.get O 4 rfl)) (.inr ⟨g, off, rfl⟩) (by omega)
     refine wp_seq ?_; refine Z4c (w0 := w6) 9 [[], [], [], [], [2, 3], [1, 2, 3, 4], [0], [0, 6], [0, 6, 7], rg 9, rg 10, rg 11, rg 11, rg 12, rg 14] [20, 21, 22, 23, 24, 25, 26, 27, 28, 29, 19, 30, 31, 10, 11] (by kernel_rfl) ?_
     apply BuildL.detA 20 (fun _ w_ _ => Ext.refl w_) (fun _ _ h => h.upd (by rfl)) (by rfl) (by rw [k.size]; rfl) rfl
     case h =>
      intro lx ax wx hE hI hl hA hF; have hR := hI.pre (by rfl) hl
      exact Z02 rfl (hE.g e0)
     apply BuildL.detA 21 (fun _ w_ _ => Ext.refl w_) (fun _ _ h => h.upd (by rfl)) (by rfl) (by rw [k.size]; rfl) rfl
     case h =>
      intro lx ax wx hE hI hl hA hF; have hR := hI.pre (by rfl) hl
      exact Z02 rfl (hE.g e1)
     apply BuildL.detA 22 (fun _ w_ _ => Ext.refl w_) (fun _ _ h => h.upd (by rfl)) (by rfl) (by rw [k.size]; rfl) rfl
     case h =>
      intro lx ax wx hE hI hl hA hF; have hR := hI.pre (by rfl) hl
      exact Z02 rfl (hE.g e2)
     apply BuildL.detA 23 (fun _ w_ _ => Ext.refl w_) (fun _ _ h => h.upd (by rfl)) (by rfl) (by rw [k.size]; rfl) rfl
     case h =>
      intro lx ax wx hE hI hl hA hF; have hR := hI.pre (by rfl) hl
      exact Z02 rfl (hE.g e9)
     apply BuildL.detA 24 (fun _ w_ _ => Ext.refl w_) (fun _ _ h => h.upd (by rfl)) (by rfl) (by rw [k.size]; rfl) rfl
     case h =>
      intro lx ax wx hE hI hl hA hF; have e22 := hF 2 (detL 2 22 _) (by decide) ml1
      have e23 := hF 3 (detL 3 23 _) (by decide) ml0
      have hR := hI.pre (by rfl) hl
      exact Z0r rfl e22 e23 (by omega)
     apply BuildL.detA 25 (fun _ w_ _ => Ext.refl w_) (fun _ _ h => h.upd (by rfl)) (by rfl) (by rw [k.size]; rfl) rfl
     case h =>
      intro lx ax wx hE hI hl hA hF; have e21 := hF 1 (detL 1 21 _) (by decide) ml3
      have e24 := hF 4 (detL 4 24 _) (by decide) ml0
      have hR := hI.pre (by rfl) hl
      simp [go_sem, ↓IntWalk.iteOmega, ev e21, ev e24]
      with_reducible rfl
     apply BuildL.detA 26 (fun _ w_ _ => Ext.refl w_) (fun _ _ h => h.upd (by rfl)) (by rfl) (by rw [k.size]; rfl) rfl
     case h =>
      intro lx ax wx hE hI hl hA hF; have e20 := hF 0 (detL 0 20 _) (by decide) ml5
      have hR := hI.pre (by rfl) hl
      exact x_mkM rfl e20
     apply BuildL.detA 27 (fun _ w_ _ => Ext.refl w_) (fun _ _ h => h.upd (by rfl)) (by rfl) (by rw [k.size]; rfl) rfl
     case h =>
      intro lx ax wx hE hI hl hA hF; have e26 := hF 6 (detL 6 26 _) (by decide) ml0
      have hR := hI.pre (by rfl) hl
      exact Z7e rfl e26
     apply BuildL.detA 28 (fun _ w_ _ => Ext.refl w_) (fun _ _ h => h.upd (by rfl)) (by rfl) (by rw [k.size]; rfl) rfl
     case h =>
      intro lx ax wx hE hI hl hA hF; have e20 := hF 0 (detL 0 20 _) (by decide) ml7
      have hR := hI.pre (by rfl) hl
      exact Z02 rfl e20
     refine BuildL.callnew 29 (fun v_ w_ => ∃ B2 cap2 vs2, v_ = .tuple #[.int .i64 ((NJ.length + 1 : Nat) : Int), .int .i64 0] ∧ OwnT H A0 (shT sb room B2 cap2 vs2 ((NJ ++ [(l, c)])) (tRow 103 2 (.slice Bo j co) j (flatP E) :: tPs (.slice Bv xs.length cv) xs :: R)) w_) (fun l v_ w_ w2_ hl hR h => by obtain ⟨B2, cap2, vs2, hv, O⟩ := h; exact ⟨B2, cap2, vs2, hv, OwnT.ext O (hR hl)⟩) (by rfl) (by rw [k.size]; rfl) rfl ?_ ?_
     · intro lx ax wx hE hI hl hA hF; have e25 := hF 5 (detL 5 25 _) (by decide) ml3
       have e28 := hF 8 (detL 8 28 _) (by decide) ml0
       have hR := hI.1 hl
       refine ⟨_, _, Z3s rfl e28 e25 (Z29 _ _ _), (hok _ (OwnT.ext O hR)).mono ?_⟩
       rintro e w' ⟨rfl, B2, cap2, vs2, O⟩
       exact ⟨_, rfl, fun h => absurd (hl.symm.trans h) Bool.false_ne_true, IM.at_ hA, B2, cap2, vs2, rfl, O⟩
     refine BuildL.rel 19 29 (fun v => v) (by rfl) (fun _ w_ _ => Ext.refl w_) (fun _ _ h => h.upd (by rfl)) (by rfl) (by rw [k.size]; rfl) rfl ?_ ?_
     · intro lx ax wx hE hI hF; exact Z02 rfl rfl
     refine BuildL.rel 30 29 (fun v => projV v 0) (by rfl) (fun _ w_ _ => Ext.refl w_) (fun _ _ h => h.upd (by rfl)) (by rfl) (by rw [k.size]; rfl) rfl ?_ ?_
     · intro lx ax wx hE hI hF; have e19 : ax.eval (.tmp 19) = _ := hF 10 (relL 10 19 29 (fun v => v)) (by decide) ml0
       have fic := hF 9 _ (by decide) ml1
       obtain ⟨B2, cap2, vs2, hv, O⟩ := fic
       rw [hv]
       rw [hv] at e19
       simp [go_sem, ↓IntWalk.iteOmega, ev e19, projV]
     refine BuildL.rel 31 29 (fun v => projV v 1) (by rfl) (fun _ w_ _ => Ext.refl w_) (fun _ _ h => h.upd (by rfl)) (by rfl) (by rw [k.size]; rfl) rfl ?_ ?_
     · intro lx ax wx hE hI hF; have e19 : ax.eval (.tmp 19) = _ := hF 10 (relL 10 19 29 (fun v => v)) (by decide) ml1
       have fic := hF 9 _ (by decide) ml2
       obtain ⟨B2, cap2, vs2, hv, O⟩ := fic
       rw [hv]
       rw [hv] at e19
       simp [go_sem, ↓IntWalk.iteOmega, ev e19, projV]
     refine BuildL.rel 10 29 (fun v => projV v 0) (by rfl) (fun _ w_ _ => Ext.refl w_) (fun _ _ h => h.upd (by rfl)) (by rfl) (by rw [k.size]; rfl) rfl ?_ ?_
     · intro lx ax wx hE hI hF; have e30 : ax.eval (.tmp 30) = _ := hF 11 (relL 11 30 29 (fun v => projV v 0)) (by decide) ml1
       exact Z01 rfl e30
     refine BuildL.rel 11 29 (fun v => projV v 1) (by rfl) (fun _ w_ _ => Ext.refl w_) (fun _ _ h => h.upd (by rfl)) (by rfl) (by rw [k.size]; rfl) rfl ?_ ?_
     · intro lx ax wx hE hI hF; have e31 : ax.eval (.tmp 31) = _ := hF 12 (relL 12 31 29 (fun v => projV v 1)) (by decide) ml1
       exact Z01 rfl e31
     apply BuildL.stop
     refine ⟨by kernel_rfl, ?_⟩
     clear O; intro lx a59 w60 hE hI hL hF; clear hI hL; have fic := hF 9 _ ml5
     have e10 : a59.eval (.tmp 10) = _ := hF 13 (relL 13 10 29 (fun v => projV v 0)) ml1
     have e11 : a59.eval (.tmp 11) = _ := hF 14 (relL 14 11 29 (fun v => projV v 1)) ml0
     clear hF; obtain ⟨B2, cap2, vs2, hv, O⟩ := fic
     rw [hv] at e10
     replace e10 : a59.eval (.tmp 10) = .int .i64 (((NJ.length + 1 : Nat) : Int)) := e10
     rw [hv] at e11
     replace e11 : a59.eval (.tmp 11) = .int .i64 0 := e11
     clear hv; replace e0 := hE.g e0; replace e1 := hE.g e1; replace e2 := hE.g e2; replace e8 := hE.g e8; replace e9 := hE.g e9; replace k := k.env hE; clear hE e18; refine Z00 (wp_seq ?_); refine wp_seq ?_; refine wp_region_lit ?_
     have hE := Env.refl a59 [32, 33]; refine zm 32 hE k e11 ?_; intro a61 hE e32 kp; refine sd 33 hE k (Z0q rfl e32 rfl) ?_; intro a62 hE e33 kp; refine wpList_nil ?_; replace e0 := hE.g e0; replace e1 := hE.g e1; replace e2 := hE.g e2; replace e8 := hE.g e8; replace e9 := hE.g e9; replace e10 := hE.g e10; replace e11 := hE.g e11; replace k := k.env hE; clear hE; refine Z00 ?_; refine Z06 e33 rfl ?_
     refine wp_skip ?_; refine Z00 ?_; replace O : OwnT _ _ ((tRow 103 2 (.slice Bo j co) j (flatP E)) :: (tPs (.slice Bv xs.length cv) xs) :: (tBlk sb 49 #[.slice B2 (((NJ ++ [(l, c)])).length) cap2, .int .i64 room]) :: (tRow 46 2 (.slice B2 ((NJ ++ [(l, c)])).length cap2) ((NJ ++ [(l, c)])).length (leafV vs2 ((NJ ++ [(l, c)])))) :: (tPool vs2 ((NJ ++ [(l, c)]))) :: R) w60 := OwnT.pickR (L := [_, _, _, _, _]) (R := R) O [3, 4, 0, 1, 2] (by decide)
     obtain ⟨k0, v0, r0, hk0⟩ : ∃ k v r, rest = (k, v) :: r := by obtain ⟨x, r, e⟩ := List.exists_cons_of_ne_nil hr0; exact ⟨x.1, x.2, r, e⟩
     have hkc : keyAt c 0 = k0 := by rw [← hct, hk0]; obtain ⟨m', rfl⟩ : ∃ m', m = m' + 1 := ⟨m - 1, by omega⟩; rfl
     have ck : w60.cell? ⟨g, off, none⟩ = some (.int .u64 (k0 : Int)) := by
      obtain ⟨b, o, e, _, hc⟩ := hrow _ (OwnT.get O 1 rfl) 0 (k0, v0) (by rw [hk0]; rfl)
      injection e with e; injection e with e e'; subst e e'
      exact hc 0 _ rfl
     obtain ⟨pg, hpg⟩ : ∃ p, NJ.length + 1 = p := ⟨_, rfl⟩
     rw [show ((NJ.length + 1 : Nat) : Int) = (pg : Int) by rw [hpg]] at e10
     refine wp_seq ?_; refine wp_region_lit ?_
     have hE := Env.refl a62 [35, 36, 37, 38, 39, 40, 41, 42, 43, 44, 8]; refine sd 35 hE k (Z02 rfl e8) ?_; intro a63 hE e35 kp; replace e8 := kt kp e8; refine zm 36 hE k e2 ?_; intro a64 hE e36 kp; replace e8 := kt kp e8; replace e35 := kt kp e35; apply Z03 37 hE k rfl rfl rfl rfl; case h =>
      simp [go_sem, ↓IntWalk.iteOmega, ev e36]
      with_reducible rfl
     intro a65 hE e37 kp; replace e8 := kt kp e8; replace e35 := kt kp e35; apply Z03 38 hE k rfl rfl rfl rfl; case h =>
      simp [go_sem, ↓IntWalk.iteOmega, ev e37]
      with_reducible rfl
     intro a66 hE e38 kp; replace e8 := kt kp e8; replace e35 := kt kp e35; apply Z03 39 hE k rfl rfl rfl rfl; case h =>
      simp [go_sem, ↓IntWalk.iteOmega, ev e38, ck]
      with_reducible rfl
     intro a67 hE e39 kp; replace e8 := kt kp e8; replace e35 := kt kp e35; refine zm 40 hE k e10 ?_; intro a68 hE e40 kp; replace e8 := kt kp e8; replace e35 := kt kp e35; replace e39 := kt kp e39; refine sd 41 hE k (Z2r rfl e40 (Z3r pg _ (by omega))) ?_
     intro a69 hE e41 kp; replace e8 := kt kp e8; replace e35 := kt kp e35; replace e39 := kt kp e39; apply Z03 42 hE k rfl rfl rfl rfl; case h =>
      simp [go_sem, ↓IntWalk.iteOmega, ev e39, ev e41]
      with_reducible rfl
     intro a70 hE e42 kp; replace e8 := kt kp e8; replace e35 := kt kp e35; refine Z1n (m := 1) (c := 1) O (cs := #[.int .u64 ↑k0, .int .u64 ↑pg]) (t := 103) 43 hE k rfl (by rfl) (by rfl) rfl (by simp [go_sem, ↓IntWalk.iteOmega, ev e42]) ?_
     clear O; intro gn a71 w72 O hE e43 kp; replace e8 := kt kp e8; replace e35 := kt kp e35; obtain ⟨gr, cr, w73, hrun, O⟩ := Z3d O elemPr (by decide) rfl (by intro u hu; simp at hu; rcases hu with rfl | rfl <;> rfl) (by unfold maxLen; omega) (by omega)
     apply Z1r 44 hE k rfl (by rfl) (by rfl) rfl
     case h => exact Z1e rfl e35 e43 (hrun _)
     clear hrun; intro a74 hE e44 kp; replace e8 := kt kp e8; refine sd 8 hE k (Z01 rfl e44) ?_; intro a75 hE e8 kp; refine wpList_nil ?_; replace e0 := hE.g e0; replace e1 := hE.g e1; replace e2 := hE.g e2; replace e9 := hE.g e9; replace k := k.env hE; clear hE e10 e11 e33; refine Z00 ?_; refine wp_region_lit ?_
     have hE := Env.refl a75 [45, 46, 47, 2]; refine sd 45 hE k (Z02 rfl e2) ?_; intro a76 hE e45 kp; replace e2 := kt kp e2; refine zm 46 hE k e9 ?_; intro a77 hE e46 kp; replace e2 := kt kp e2; replace e45 := kt kp e45; refine sd 47 hE k (Z2q rfl e45 e46 hmr hc') ?_; intro a78 hE e47 kp; replace e2 := kt kp e2; refine sd 2 hE k (Z01 rfl e47) ?_; intro a79 hE e2 kp; refine wpList_nil ?_; replace e0 := hE.g e0; replace e1 := hE.g e1; replace e8 := hE.g e8; replace k := k.env hE; clear hE e9; refine Z0u ?_; refine Z00 ?_; have hxs := OwnT.get O 1 rfl
     replace O : OwnT _ _ ((tBlk sb 49 #[.slice B2 (((NJ ++ [(l, c)])).length) cap2, .int .i64 room]) :: (tRow 46 2 (.slice B2 ((NJ ++ [(l, c)])).length cap2) ((NJ ++ [(l, c)])).length (leafV vs2 ((NJ ++ [(l, c)])))) :: (tPool vs2 ((NJ ++ [(l, c)]))) :: (tRow 103 2 (.slice (some ⟨gr, 0, none⟩) ((j + 1)) cr) (j + 1) ((flatP E) ++ [Value.int .u64 (k0 : Int), Value.int .u64 (pg : Int)])) :: (tPs (.slice Bv xs.length cv) xs) :: R) w73 := OwnT.pickR (L := [_, _, _, _, _]) (R := R) O [2, 3, 4, 0, 1] (by decide)
     have hdl : (rest.drop m).length = rest.length - m := List.length_drop ..
     refine ⟨⟨k, e0, e1, j + 1, rest.drop m, outs (P.take (j + 1)) N.length, NJ ++ [(l, c)], _, c' - m, some ⟨gr, 0, none⟩, cr, B2, cap2, vs2, (by rw [hdl]; exact e2), e8, hjl, hcd.symm, rfl, ?_, (by rw [hdl]; omega), .inr ?_, (fun W h => (hrow W h).sub m c' (fun hne e => ?_)), ?_⟩, ?_⟩
     · rw [htk, ← hNJ]; simp [newN]
     · split
       · exact ⟨g, off, rfl⟩
       · exact ⟨g, off + m * 2, by simp [Addr.add]; omega⟩
     · have := List.length_pos_iff.2 hne
       omega
     · rw [htk, Z41, hEo, hkc, List.length_take, show N.length + min j P.length + 1 = pg by omega]
       rw [show flatP (E ++ [(k0, pg)]) = flatP E ++ [Value.int .u64 (k0 : Int), Value.int .u64 (pg : Int)] by simp [flatP, pairC]]
       exact O
     · rw [e2, mj]; simp only [lenV]; omega

end Go.Proofs.Ytbfgacmfjfbooaa
