/- volumes in trees: Put, List, Drop (printed by XVlT.gen.py). -/
import Derived.Test.YtngehbhhpkkijaaKVolsApart23
import Derived.Test.YtngehbhhpkkijaaKVolsApart29
namespace Go.Proofs.Ytngehbhhpkkijaa
attribute [local simp] BigFrame.eval_const BigFrame.eval_global BigFrame.eval_func
set_option linter.unusedVariables false
set_option linter.unusedSimpArgs false
open Go.RowKit Go.Maps


instance {k v : Int} : Decidable (VolOk k v) := by unfold VolOk GoodVol; exact inferInstance
instance {i s r f : Int} : Decidable (GoodVol i s r f) := by unfold GoodVol; exact inferInstance
abbrev VlD := Int × Int × Int × Bool × Int
def vlC (x : VlD) : List Value := [.int .i64 x.1, .int .i64 x.2.1, .int .i64 x.2.2.1, .bool x.2.2.2.1, .int .i64 x.2.2.2.2]
def vlOkB (x : Pr) : Bool := decide (VolOk (x.1 : Int) (x.2 : Int))
def vlOf (x : Pr) : VlD := ((x.1 : Int) % 4294967296, (x.2 : Int) / 65536 % 65536, (x.2 : Int) % 65536, (x.2 : Int) / 4294967296 % 256 == 1, (x.2 : Int) / 1099511627776)
def vlKey (i : Int) : Nat := (4294967296 + i).toNat
def vlVal (s r : Int) (p : Bool) (f : Int) : Nat := (volPair s r p f).toNat
abbrev flatVl (ps : List VlD) : List Value := ps.flatMap vlC
abbrev tVls (v : Value) (ps : List VlD) : Thing := tRow 89 5 v ps.length (flatVl ps)
theorem elemVl : ElemI Try.prog 96 89 5 40 := ⟨Try.underlying96, by
 have h : (Try.prog.info? 89).map (fun i => (i.zero, i.size, i.bytes)) = some (some (.agg #[.int .i64 0, .int .i64 0, .int .i64 0, .bool false, .int .i64 0]), 5, 40) := by kernel_rfl
 obtain ⟨i, h1, h2, h3, h4⟩ := info_parts h
 exact ⟨i, _, h1, h2, h3, h4, rfl⟩⟩
theorem conv_u64w (n : Int) (w : World) : (convert 3 30 (.int .i64 n)).run Try.prog w = .ok (.int .u64 ((uN n : Nat) : Int)) w := by
 have h : ((uN n : Nat) : Int) = IntKind.u64.wrap n := by
  unfold uN
  have : 0 ≤ IntKind.u64.wrap n := by
   show 0 ≤ n % 18446744073709551616
   omega
  omega
 rw [h]
 simp [convert, run_underlying Try.underlying3, run_underlying Try.underlying30, Conv.intToInt]
theorem x_addU {w : World} {o : Oper} {ρ : Operand → Value} {t u : TypeId} {x y : Operand} {m n : Nat} (ho : o.op = .binOp .add t x y u) (hx : ρ x = .int .u64 (m : Nat)) (hy : ρ y = .int .u64 (n : Nat)) : (execOp ρ o).run Try.prog w = .ok (.value (.int .u64 (((m + n) % 18446744073709551616 : Nat) : Int))) w := by
 refine Z4b ho hx hy ?_
 have e : IntKind.u64.wrap ((m : Int) + (n : Int)) = (((m + n) % 18446744073709551616 : Nat) : Int) := by
  show ((m : Int) + (n : Int)) % 18446744073709551616 = _
  omega
 rw [← e]
 simp [binOp, Op.intArith]
/-- A volume's key, of any number. -/
def vkeyN (c : Int) : Nat := (4294967296 + uN c) % 18446744073709551616
set_option maxRecDepth 100000 in
set_option maxHeartbeats 4000000 in
theorem Z4q (c : Int) (W0 : World) : Calls Try.prog 69 #[.int .i64 c] W0 fun e w' => e = .returned (.int .u64 (vkeyN c : Nat)) ∧ Ext W0 w' := by
 have O := OwnT.start W0
 refine Z0a Try.func69 rfl 6 rfl (by rfl) ?_
 intro a1 k hargs
 have e0 : a1.eval (.tmp 0) = .int .i64 c := hargs 0 _ rfl
 clear hargs
 refine wp_seq ?_
 refine wp_region_lit ?_
 have hE := Env.refl a1 [2]
 refine sd 2 hE k (Z00 rfl rfl) ?_
 intro a2 hE e2 kp
 refine wpList_nil ?_
 replace e0 := hE.g e0
 replace k := k.env hE
 clear hE e2
 refine Z01 (wp_seq ?_)
 refine wp_region_lit ?_
 have hE := Env.refl a2 [3, 4, 5, 2]
 refine sm 3 hE k e0 ?_
 intro a3 hE e3 kp
 refine sd 4 hE k (Z2i rfl e3 (conv_u64w c _)) ?_
 intro a4 hE e4 kp
 refine sd 5 hE k (x_addU (m := 4294967296) (n := uN c) rfl rfl e4) ?_
 intro a5 hE e5 kp
 refine sd 2 hE k (Z00 rfl e5) ?_
 intro a6 hE e2 kp
 refine wpList_nil ?_
 replace k := k.env hE
 clear hE e0
 refine Z01 ?_
 refine wp_ret ?_
 refine Z0x rfl k e2 ?_
 exact ⟨rfl, O.below⟩
set_option maxRecDepth 100000 in
set_option maxHeartbeats 4000000 in
theorem vDrop {H : Nat} {A0 : World} {R : List Thing} {sb cap : Nat} {room : Int} {B : Option Addr} {vs : List Value} {N : List Nd} {root cc : Nat} {P : List Pr} (c : Int) (w : World) (O : OwnT H A0 (shT sb room B cap vs N R) w) (hT : Tre N root cc P) (hN : N.length ≤ 500) : Calls Try.prog 43 #[.iface 24 (.pointer (some ⟨sb, 0, none⟩)), .int .i64 root, .int .i64 c] w fun e w' => ∃ N' root' ok er B' cap' vs', e = .returned (.tuple #[.int .i64 root', .bool ok, .int .i64 er]) ∧ OwnT H A0 (shT sb room B' cap' vs' N' R) w' ∧ DropL N N' room root (vkeyN c) cc P root' ok er := by
 obtain ⟨ky, hky⟩ : ∃ k, vkeyN c = k := ⟨_, rfl⟩
 rw [hky]
 refine Z0a Try.func43 rfl 17 rfl (by rfl) ?_
 intro a1 k hargs
 have e0 : a1.eval (.tmp 0) = .iface 24 (.pointer (some ⟨sb, 0, none⟩)) := hargs 0 _ rfl
 have e1 : a1.eval (.tmp 1) = .int .i64 ↑root := hargs 1 _ rfl
 have e2 : a1.eval (.tmp 2) = .int .i64 c := hargs 2 _ rfl
 clear hargs
 refine wp_seq ?_
 refine wp_region_lit ?_
 have hE := Env.refl a1 [6, 7, 8]
 refine sd 6 hE k (Z00 rfl rfl) ?_
 intro a2 hE e6 kp
 refine sd 7 hE k (Z00 rfl rfl) ?_
 intro a3 hE e7 kp
 refine sd 8 hE k (Z00 rfl rfl) ?_
 intro a4 hE e8 kp
 refine wpList_nil ?_
 replace e0 := hE.g e0; replace e1 := hE.g e1; replace e2 := hE.g e2
 replace k := k.env hE
 clear hE e8
 refine Z01 (wp_seq ?_)
 refine wp_region_lit ?_
 have hE := Env.refl a4 [9, 10, 11, 12, 13, 14, 15, 16, 6, 7, 8]
 refine sm 9 hE k e0 ?_
 intro a5 hE e9 kp
 refine sm 10 hE k e1 ?_
 intro a6 hE e10 kp
 replace e9 := kt kp e9
 refine sm 11 hE k e2 ?_
 intro a7 hE e11 kp
 replace e9 := kt kp e9; replace e10 := kt kp e10
 apply Z06 12 hE k rfl (by rfl) (by rfl) rfl
 case h =>
  simp [go_sem, ↓IntWalk.iteOmega, ev e11]
  with_reducible exact ⟨rfl, rfl⟩
 case hc => exact Z4q c _
 rintro e w9 ⟨rfl, RE⟩
 replace O := OwnT.ext O RE
 refine ⟨.int .u64 ↑ky, by rw [hky], ?_⟩
 intro a8 hE e12 kp
 replace e9 := kt kp e9; replace e10 := kt kp e10
 apply Z06 13 hE k rfl (by rfl) (by rfl) rfl
 case h =>
  simp [go_sem, ↓IntWalk.iteOmega, ev e9, ev e10, ev e12]
  with_reducible exact ⟨rfl, rfl⟩
 case hc => exact lDrop _ O hT hN
 clear O
 rintro e w11 ⟨N2, r2, ok, er, B2, cap2, vs2, rfl, O, hP⟩
 refine ⟨_, rfl, ?_⟩
 intro a10 hE e13 kp
 apply Z02 14 hE k rfl rfl rfl rfl
 case h =>
  simp [go_sem, ↓IntWalk.iteOmega, ev e13]
  with_reducible rfl
 intro a12 hE e14 kp
 replace e13 := kt kp e13
 apply Z02 15 hE k rfl rfl rfl rfl
 case h =>
  simp [go_sem, ↓IntWalk.iteOmega, ev e13]
  with_reducible rfl
 intro a13 hE e15 kp
 replace e13 := kt kp e13; replace e14 := kt kp e14
 apply Z02 16 hE k rfl rfl rfl rfl
 case h =>
  simp [go_sem, ↓IntWalk.iteOmega, ev e13]
  with_reducible rfl
 intro a14 hE e16 kp
 replace e14 := kt kp e14; replace e15 := kt kp e15
 refine sd 6 hE k (Z00 rfl e14) ?_
 intro a15 hE e6 kp
 replace e15 := kt kp e15; replace e16 := kt kp e16
 refine sd 7 hE k (Z00 rfl e15) ?_
 intro a16 hE e7 kp
 replace e16 := kt kp e16; replace e6 := kt kp e6
 refine sd 8 hE k (Z00 rfl e16) ?_
 intro a17 hE e8 kp
 replace e6 := kt kp e6; replace e7 := kt kp e7
 refine wpList_nil ?_
 replace k := k.env hE
 clear hE e0 e1 e2
 refine Z01 ?_
 refine wp_ret ?_
 refine Z1u rfl k e6 e7 e8 ?_
 exact ⟨N2, r2, ok, er, B2, cap2, vs2, rfl, O, hP⟩
set_option maxRecDepth 100000 in
set_option maxHeartbeats 4000000 in
theorem vPut {H : Nat} {A0 : World} {R : List Thing} {sb cap : Nat} {room : Int} {B : Option Addr} {vs : List Value} {N : List Nd} {root cc : Nat} {P : List Pr} (i_ s r f : Int) (p : Bool) (w : World) (O : OwnT H A0 (shT sb room B cap vs N R) w) (hg : GoodVol i_ s r f) (hT : Tre N root cc P) (hc : cc ≤ 119) (hN : N.length ≤ 511) : Calls Try.prog 40 #[.iface 24 (.pointer (some ⟨sb, 0, none⟩)), .int .i64 root, .agg #[.int .i64 i_, .int .i64 s, .int .i64 r, .bool p, .int .i64 f]] w fun e w' => ∃ N' root' er B' cap' vs', e = .returned (.tuple #[.int .i64 root', .int .i64 er]) ∧ OwnT H A0 (shT sb room B' cap' vs' N' R) w' ∧ PutL N N' room root (vlKey i_) (vlVal s r p f) cc P root' er := by
 obtain ⟨q1, q2, q3, q4, q5, q6, q7⟩ := Z24 p hg
 obtain ⟨g0, g1, g2, g3, g4, g5, g6, g7⟩ := hg
 obtain ⟨ky, hky⟩ : ∃ k, vlKey i_ = k := ⟨_, rfl⟩
 obtain ⟨vl, hvl⟩ : ∃ v, vlVal s r p f = v := ⟨_, rfl⟩
 rw [hky, hvl]
 unfold vlKey at hky; unfold vlVal at hvl
 have hk2 : 4294967296 + i_ = (ky : Int) := by omega
 have hv2 : volPair s r p f = (vl : Int) := by omega
 refine Z0a Try.func40 rfl 27 rfl (by rfl) ?_
 intro a1 k hargs
 have e0 : a1.eval (.tmp 0) = .iface 24 (.pointer (some ⟨sb, 0, none⟩)) := hargs 0 _ rfl
 have e1 : a1.eval (.tmp 1) = .int .i64 ↑root := hargs 1 _ rfl
 have e2 : a1.eval (.tmp 2) = .agg #[.int .i64 i_, .int .i64 s, .int .i64 r, .bool p, .int .i64 f] := hargs 2 _ rfl
 clear hargs
 refine wp_seq ?_
 refine wp_region_lit ?_
 have hE := Env.refl a1 [5, 6, 7]
 refine Z0f O (cs := #[.int .i64 i_, .int .i64 s, .int .i64 r, .bool p, .int .i64 f]) (t := 89) 5 hE k rfl (by rfl) (by rfl) rfl (by simp [go_sem, ↓IntWalk.iteOmega, ev (hE.g e2)]) ?_
 clear O
 intro xb a2 w3 O hE e5 kp
 refine sd 6 hE k (Z00 rfl rfl) ?_
 intro a4 hE e6 kp
 replace e5 := kt kp e5
 refine sd 7 hE k (Z00 rfl rfl) ?_
 intro a5 hE e7 kp
 replace e5 := kt kp e5
 refine wpList_nil ?_
 replace e0 := hE.g e0; replace e1 := hE.g e1
 replace k := k.env hE
 clear hE e2 e7
 refine Z01 (wp_seq ?_)
 refine wp_region_lit ?_
 have hE := Env.refl a5 [11, 12, 10, 13, 14, 8, 9]
 apply Z02 11 hE k rfl rfl rfl rfl
 case h =>
  have q0 : w3.cell? ⟨xb, 0, none⟩ = some (.int .i64 i_) := (OwnT.blk O 0 rfl).cell 0
  have q1 : w3.cell? ⟨xb, 1, none⟩ = some (.int .i64 s) := (OwnT.blk O 0 rfl).cell 1
  have q2 : w3.cell? ⟨xb, 2, none⟩ = some (.int .i64 r) := (OwnT.blk O 0 rfl).cell 2
  have q3 : w3.cell? ⟨xb, 3, none⟩ = some (.bool p) := (OwnT.blk O 0 rfl).cell 3
  have q4 : w3.cell? ⟨xb, 4, none⟩ = some (.int .i64 f) := (OwnT.blk O 0 rfl).cell 4
  simp [go_sem, ↓IntWalk.iteOmega, ev (hE.g e5), q0, q1, q2, q3, q4]
  with_reducible rfl
 intro a6 hE e11 kp
 apply Z06 12 hE k rfl (by rfl) (by rfl) rfl
 case h =>
  simp [go_sem, ↓IntWalk.iteOmega, ev e11]
  with_reducible exact ⟨rfl, rfl⟩
 case hc => exact Z1v i_ s r f p _ g0 g1 g2 g3 g4 g5 g6 g7
 rintro e w8 ⟨rfl, RE⟩
 replace O := OwnT.ext O RE
 refine ⟨.tuple #[.agg #[.int .u64 ↑ky, .int .u64 ↑vl], .int .i64 0], by rw [hk2, hv2], ?_⟩
 intro a7 hE e12 kp
 refine sd 10 hE k (Z03 rfl e12) ?_
 intro a9 hE e10 kp
 apply Z02 13 hE k rfl rfl rfl rfl
 case h =>
  simp [go_sem, ↓IntWalk.iteOmega, ev e10]
  with_reducible rfl
 intro a10 hE e13 kp
 replace e10 := kt kp e10
 apply Z02 14 hE k rfl rfl rfl rfl
 case h =>
  simp [go_sem, ↓IntWalk.iteOmega, ev e10]
  with_reducible rfl
 intro a11 hE e14 kp
 replace e13 := kt kp e13
 refine Z0f O (cs := #[.int .u64 0, .int .u64 0]) (t := 38) 8 hE k rfl (by rfl) (by rfl) rfl (by simp [go_sem, ↓IntWalk.iteOmega]) ?_
 clear O
 intro pb a12 w13 O hE e8 kp
 replace e13 := kt kp e13; replace e14 := kt kp e14
 have q0 : w13.cell? ⟨pb, 0, none⟩ = some (.int .u64 0) := (OwnT.blk O 0 rfl).cell 0
 have z0 : w13.frozen? ⟨pb, 0, none⟩ = false := (OwnT.blk O 0 rfl).frozen 0
 have q1 : w13.cell? ⟨pb, 1, none⟩ = some (.int .u64 0) := (OwnT.blk O 0 rfl).cell 1
 have z1 : w13.frozen? ⟨pb, 1, none⟩ = false := (OwnT.blk O 0 rfl).frozen 1
 refine Z0e (w' := ((w13.setCell ⟨pb, 0, none⟩ (.int .u64 ↑ky)).setCell ⟨pb, 1, none⟩ (.int .u64 ↑vl))) hE rfl rfl (by simp [go_sem, ↓IntWalk.iteOmega, ev e8, ev e13, q0, z0, q1, z1]) ?_
 replace O := OwnT.push 0 rfl (((OwnT.pull O 0 rfl).set 0 (.int .u64 ↑ky)).set 1 (.int .u64 ↑vl))
 clear q0 z0 q1 z1
 generalize ((w13.setCell ⟨pb, 0, none⟩ (.int .u64 ↑ky)).setCell ⟨pb, 1, none⟩ (.int .u64 ↑vl)) = w14 at O ⊢
 replace O : OwnT _ _ ((tBlk pb 38 #[.int .u64 ↑ky, .int .u64 ↑vl]) :: (tBlk xb 89 #[.int .i64 i_, .int .i64 s, .int .i64 r, .bool p, .int .i64 f]) :: (tBlk sb 28 #[.slice B N.length cap, .int .i64 room]) :: (tRow 125 2 (.slice B N.length cap) N.length (leafV vs N)) :: (tPool vs N) :: R) w14 := O
 refine sd 9 hE k (Z00 rfl e14) ?_
 intro a15 hE e9 kp
 replace e8 := kt kp e8
 refine wpList_nil ?_
 replace e0 := hE.g e0; replace e1 := hE.g e1
 replace k := k.env hE
 clear hE e5
 refine Z01 ?_
 replace O : OwnT _ _ ((tBlk sb 28 #[.slice B N.length cap, .int .i64 room]) :: (tRow 125 2 (.slice B N.length cap) N.length (leafV vs N)) :: (tPool vs N) :: (tBlk pb 38 #[.int .u64 ↑ky, .int .u64 ↑vl]) :: (tBlk xb 89 #[.int .i64 i_, .int .i64 s, .int .i64 r, .bool p, .int .i64 f]) :: R) w14 := OwnT.pickR (L := [_, _, _, _, _]) (R := R) O [2, 3, 4, 0, 1] (by decide)
 refine wp_seq ?_
 refine wp_seq ?_
 refine wp_region_lit ?_
 have hE := Env.refl a15 [15, 16]
 refine sm 15 hE k e9 ?_
 intro a16 hE e15 kp
 refine sd 16 hE k (Z0y rfl e15 rfl) ?_
 intro a17 hE e16 kp
 refine wpList_nil ?_
 replace e0 := hE.g e0; replace e1 := hE.g e1; replace e8 := hE.g e8; replace e9 := hE.g e9
 replace k := k.env hE
 clear hE
 refine Z01 ?_
 refine Z05 e16 rfl ?_
 refine wp_skip ?_
 refine Z01 (wp_seq ?_)
 refine wp_region_lit ?_
 have hE := Env.refl a17 [18, 19, 20, 21, 22, 23, 24, 25, 26, 6, 7]
 refine sm 18 hE k e0 ?_
 intro a18 hE e18 kp
 refine sm 19 hE k e1 ?_
 intro a19 hE e19 kp
 replace e18 := kt kp e18
 apply Z02 20 hE k rfl rfl rfl rfl
 case h =>
  simp [go_sem, ↓IntWalk.iteOmega, ev (hE.g e8)]
  with_reducible rfl
 intro a20 hE e20 kp
 replace e18 := kt kp e18; replace e19 := kt kp e19
 apply Z02 21 hE k rfl rfl rfl rfl
 case h =>
  have q0 : w14.cell? ⟨pb, 0, none⟩ = some (.int .u64 ↑ky) := (OwnT.blk O 3 rfl).cell 0
  simp [go_sem, ↓IntWalk.iteOmega, ev e20, q0]
  with_reducible rfl
 intro a21 hE e21 kp
 replace e18 := kt kp e18; replace e19 := kt kp e19
 apply Z02 22 hE k rfl rfl rfl rfl
 case h =>
  simp [go_sem, ↓IntWalk.iteOmega, ev (hE.g e8)]
  with_reducible rfl
 intro a22 hE e22 kp
 replace e18 := kt kp e18; replace e19 := kt kp e19; replace e21 := kt kp e21
 apply Z02 23 hE k rfl rfl rfl rfl
 case h =>
  have q0 : w14.cell? ⟨pb, 1, none⟩ = some (.int .u64 ↑vl) := (OwnT.blk O 3 rfl).cell 1
  simp [go_sem, ↓IntWalk.iteOmega, ev e22, q0]
  with_reducible rfl
 intro a23 hE e23 kp
 replace e18 := kt kp e18; replace e19 := kt kp e19; replace e21 := kt kp e21
 apply Z06 24 hE k rfl (by rfl) (by rfl) rfl
 case h =>
  simp [go_sem, ↓IntWalk.iteOmega, ev e18, ev e19, ev e21, ev e23]
  with_reducible exact ⟨rfl, rfl⟩
 case hc => exact lPut (R := _ :: _ :: R) _ O hT hc hN (by omega) (by omega)
 clear O
 rintro e w25 ⟨N2, r2, er, B2, cap2, vs2, rfl, O, hP⟩
 refine ⟨_, rfl, ?_⟩
 intro a24 hE e24 kp
 apply Z02 25 hE k rfl rfl rfl rfl
 case h =>
  simp [go_sem, ↓IntWalk.iteOmega, ev e24]
  with_reducible rfl
 intro a26 hE e25 kp
 replace e24 := kt kp e24
 apply Z02 26 hE k rfl rfl rfl rfl
 case h =>
  simp [go_sem, ↓IntWalk.iteOmega, ev e24]
  with_reducible rfl
 intro a27 hE e26 kp
 replace e25 := kt kp e25
 refine sd 6 hE k (Z00 rfl e25) ?_
 intro a28 hE e6 kp
 replace e26 := kt kp e26
 refine sd 7 hE k (Z00 rfl e26) ?_
 intro a29 hE e7 kp
 replace e6 := kt kp e6
 refine wpList_nil ?_
 replace k := k.env hE
 clear hE e0 e1 e8 e9 e16
 refine Z01 ?_
 refine wp_ret ?_
 refine Z1x rfl k e6 e7 ?_
 exact ⟨N2, r2, er, B2, cap2, vs2, rfl, OwnT.pickR (L := [_, _, _, _, _]) (R := R) O [0, 1, 2] (by decide), hP⟩
set_option maxRecDepth 100000 in
set_option maxHeartbeats 4000000 in
theorem vList {H : Nat} {A0 : World} {R : List Thing} {sb cap : Nat} {room : Int} {B : Option Addr} {vs : List Value} {N : List Nd} {root cc : Nat} {P : List Pr} {Q : List Pr} (hQ : cutP 4294967296 8589934591 P = Q) (w : World) (O : OwnT H A0 (shT sb room B cap vs N R) w) (hT : Tre N root cc P) (hc : cc ≤ 1000) (hN : N.length ≤ 511) : Calls Try.prog 44 #[.iface 24 (.pointer (some ⟨sb, 0, none⟩)), .int .i64 root] w fun e w' => (Q.all vlOkB = true ∧ ∃ B' c', e = .returned (.tuple #[.slice B' (Q.map vlOf).length c', .int .i64 0]) ∧ OwnT H A0 (shT sb room B cap vs N (tVls (.slice B' (Q.map vlOf).length c') (Q.map vlOf) :: R)) w') ∨ (Q.all vlOkB = false ∧ e = .returned (.tuple #[.slice none 0 0, .int .i64 3]) ∧ OwnT H A0 (shT sb room B cap vs N R) w') := by
 have hPl := hT.len
 have hQl : Q.length ≤ P.length := by rw [← hQ]; exact List.length_filter_le _ _
 have hQw : ∀ y ∈ Q, y.1 < 18446744073709551616 ∧ y.2 < 18446744073709551616 := fun y hy => hT.wf y (by rw [← hQ] at hy; exact (List.mem_filter.1 hy).1)
 refine Z0a Try.func44 rfl 43 rfl (by rfl) ?_
 intro a1 k hargs
 have e0 : a1.eval (.tmp 0) = .iface 24 (.pointer (some ⟨sb, 0, none⟩)) := hargs 0 _ rfl
 have e1 : a1.eval (.tmp 1) = .int .i64 ↑root := hargs 1 _ rfl
 clear hargs
 refine wp_seq ?_
 refine wp_region_lit ?_
 have hE := Env.refl a1 [4, 5]
 refine sd 4 hE k (Z00 rfl rfl) ?_
 intro a2 hE e4 kp
 refine sd 5 hE k (Z00 rfl rfl) ?_
 intro a3 hE e5 kp
 refine wpList_nil ?_
 replace e0 := hE.g e0; replace e1 := hE.g e1
 replace k := k.env hE
 clear hE e5
 refine Z01 (wp_seq ?_)
 refine wp_region_lit ?_
 have hE := Env.refl a3 [14, 15, 16, 17, 18, 13, 19, 20, 6, 7]
 refine sm 14 hE k e0 ?_
 intro a4 hE e14 kp
 refine sm 15 hE k e1 ?_
 intro a5 hE e15 kp
 replace e14 := kt kp e14
 apply Z06 16 hE k rfl (by rfl) (by rfl) rfl
 case h =>
  simp [go_sem, ↓IntWalk.iteOmega]
  with_reducible exact ⟨rfl, rfl⟩
 case hc => exact Z4q 0 _
 rintro e w7 ⟨rfl, RE⟩
 replace O := OwnT.ext O RE
 refine ⟨.int .u64 4294967296, by rw [show vkeyN 0 = 4294967296 by decide]; rfl, ?_⟩
 intro a6 hE e16 kp
 replace e14 := kt kp e14; replace e15 := kt kp e15
 apply Z06 17 hE k rfl (by rfl) (by rfl) rfl
 case h =>
  simp [go_sem, ↓IntWalk.iteOmega]
  with_reducible exact ⟨rfl, rfl⟩
 case hc => exact Z4q 4294967295 _
 rintro e w9 ⟨rfl, RE⟩
 replace O := OwnT.ext O RE
 refine ⟨.int .u64 8589934591, by rw [show vkeyN 4294967295 = 8589934591 by decide]; rfl, ?_⟩
 intro a8 hE e17 kp
 replace e14 := kt kp e14; replace e15 := kt kp e15; replace e16 := kt kp e16
 apply Z06 18 hE k rfl (by rfl) (by rfl) rfl
 case h =>
  simp [go_sem, ↓IntWalk.iteOmega, ev e14, ev e15, ev e16, ev e17]
  with_reducible exact ⟨rfl, rfl⟩
 case hc => exact lRange_is 4294967296 8589934591 hQ _ O hT hc hN
 clear O
 rintro e w11 ⟨Bp, cp, rfl, O⟩
 refine ⟨_, rfl, ?_⟩
 intro a10 hE e18 kp
 refine sd 13 hE k (Z03 rfl e18) ?_
 intro a12 hE e13 kp
 apply Z02 19 hE k rfl rfl rfl rfl
 case h =>
  simp [go_sem, ↓IntWalk.iteOmega, ev e13]
  with_reducible rfl
 intro a13 hE e19 kp
 replace e13 := kt kp e13
 apply Z02 20 hE k rfl rfl rfl rfl
 case h =>
  simp [go_sem, ↓IntWalk.iteOmega, ev e13]
  with_reducible rfl
 intro a14 hE e20 kp
 replace e19 := kt kp e19
 refine sd 6 hE k (Z00 rfl e19) ?_
 intro a15 hE e6 kp
 replace e20 := kt kp e20
 refine sd 7 hE k (Z00 rfl e20) ?_
 intro a16 hE e7 kp
 replace e6 := kt kp e6
 refine wpList_nil ?_
 replace k := k.env hE
 clear hE e0 e1
 refine Z01 (wp_seq ?_)
 refine wp_seq ?_
 refine wp_region_lit ?_
 have hE := Env.refl a16 [21, 22]
 refine sm 21 hE k e7 ?_
 intro a17 hE e21 kp
 refine sd 22 hE k (Z07 (Z0y rfl e21 rfl) (decide_eq_false (by omega))) ?_
 intro a18 hE e22 kp
 refine wpList_nil ?_
 replace e6 := hE.g e6; replace e7 := hE.g e7
 replace k := k.env hE
 clear hE
 refine Z01 ?_
 refine Z05 e22 rfl ?_
 refine wp_skip ?_
 refine Z01 (wp_seq ?_)
 refine wp_region_lit ?_
 have hE := Env.refl a18 [8]
 refine sd 8 hE k (Z00 rfl rfl) ?_
 intro a19 hE e8 kp
 refine wpList_nil ?_
 replace e6 := hE.g e6
 replace k := k.env hE
 clear hE e7 e22
 refine Z01 (wp_seq ?_)
 refine wp_seq ?_
 refine wp_region_lit ?_
 have hE := Env.refl a19 [24, 25, 26]
 refine sm 24 hE k e6 ?_
 intro a20 hE e24 kp
 refine sd 25 hE k (Z0g Try.underlying29 rfl e24) ?_
 intro a21 hE e25 kp
 replace e24 := kt kp e24
 refine sd 26 hE k (Z03 rfl rfl) ?_
 intro a22 hE e26 kp
 replace e24 := kt kp e24; replace e25 := kt kp e25
 refine wpList_nil ?_
 replace e8 := hE.g e8
 replace k := k.env hE
 clear hE e6
 refine Z01 ?_
 refine wp_block ?_
 replace O := OwnT.nilRow O 89 5
 refine wp_loop (fun a w => Fr 43 a ∧ a.eval (.tmp 24) = .slice Bp Q.length cp ∧ a.eval (.tmp 25) = .int .i64 ↑Q.length ∧ ∃ (i : Nat) (Bo : Option Addr) (co : Nat), a.eval (.tmp 8) = .slice Bo i co ∧ a.eval (.tmp 26) = .int .i64 ↑i ∧ i ≤ Q.length ∧ (∀ x ∈ Q.take i, vlOkB x = true) ∧ OwnT H A0 ((tRow 89 5 (.slice Bo i co) i (flatVl ((Q.take i).map vlOf))) :: (tPs (.slice Bp Q.length cp) Q) :: (tBlk sb 28 #[.slice B N.length cap, .int .i64 room]) :: (tRow 125 2 (.slice B N.length cap) N.length (leafV vs N)) :: (tPool vs N) :: R) w) (fun a w => Q.length - (intOf (a.eval (.tmp 26))).toNat) ?_ ?_
 · exact ⟨k, e24, e25, 0, none, 0, e8, e26, Nat.zero_le _, (fun x h => by simp at h), (OwnT.pickR (L := [_, _, _, _, _]) (R := R) O [0, 4, 1, 2, 3] (by decide))⟩
 intro a23 w24 hI
 clear k e24 e25
 obtain ⟨k, e24, e25, h_⟩ := hI
 clear O e8 e26
 obtain ⟨i, Bo, co, e8, e26, hi, hall, O⟩ := h_
 have mi := e26
 by_cases hlt : i < Q.length
 · have hltI : (i : Int) < (Q.length : Int) := by omega
   obtain ⟨x, hx⟩ : ∃ x, Q[i]? = some x := ⟨_, List.getElem?_eq_getElem (by omega)⟩
   obtain ⟨-, gp, rfl, d0, d1⟩ := ps_cells (OwnT.get O 1 rfl) hx
   have hxw := hQw x (List.mem_of_getElem? hx)
   obtain ⟨x1, x2⟩ := x
   have hxw1 : x1 < 18446744073709551616 := hxw.1
   have hxw2 : x2 < 18446744073709551616 := hxw.2
   refine wp_seq ?_
   refine wp_region_lit ?_
   have hE := Env.refl a23 [27]
   refine sd 27 hE k (Z07 (Z1n rfl (hE.g e26) (hE.g e25)) (decide_eq_true (by omega))) ?_
   intro a25 hE e27 kp
   refine wpList_nil ?_
   replace e8 := hE.g e8; replace e24 := hE.g e24; replace e25 := hE.g e25; replace e26 := hE.g e26
   replace k := k.env hE
   clear hE
   refine Z01 (wp_seq ?_)
   refine Z0d e27 rfl ?_
   refine wp_skip ?_
   refine Z01 (wp_seq ?_)
   refine wp_block ?_
   refine wp_seq ?_
   refine wp_region_lit ?_
   have hE := Env.refl a25 [28, 29, 10]
   apply Z02 28 hE k rfl rfl rfl rfl
   case h =>
    simp [go_sem, ↓IntWalk.iteOmega, ev (hE.g e24), ev (hE.g e26)]
    with_reducible rfl
   intro a26 hE e28 kp
   apply Z02 29 hE k rfl rfl rfl rfl
   case h =>
    simp [go_sem, ↓IntWalk.iteOmega, ev e28, d0, d1]
    with_reducible rfl
   intro a27 hE e29 kp
   refine Z0f O (cs := #[.int .u64 0, .int .u64 0]) (t := 38) 10 hE k rfl (by rfl) (by rfl) rfl (by simp [go_sem, ↓IntWalk.iteOmega]) ?_
   clear O
   intro nb a28 w29 O hE e10 kp
   replace e29 := kt kp e29
   have q0 : w29.cell? ⟨nb, 0, none⟩ = some (.int .u64 0) := (OwnT.blk O 0 rfl).cell 0
   have z0 : w29.frozen? ⟨nb, 0, none⟩ = false := (OwnT.blk O 0 rfl).frozen 0
   have q1 : w29.cell? ⟨nb, 1, none⟩ = some (.int .u64 0) := (OwnT.blk O 0 rfl).cell 1
   have z1 : w29.frozen? ⟨nb, 1, none⟩ = false := (OwnT.blk O 0 rfl).frozen 1
   refine Z0e (w' := ((w29.setCell ⟨nb, 0, none⟩ (.int .u64 ↑x1)).setCell ⟨nb, 1, none⟩ (.int .u64 ↑x2))) hE rfl rfl (by simp [go_sem, ↓IntWalk.iteOmega, ev e10, ev e29, q0, z0, q1, z1]) ?_
   replace O := OwnT.push 0 rfl (((OwnT.pull O 0 rfl).set 0 (.int .u64 ↑x1)).set 1 (.int .u64 ↑x2))
   clear q0 z0 q1 z1
   generalize ((w29.setCell ⟨nb, 0, none⟩ (.int .u64 ↑x1)).setCell ⟨nb, 1, none⟩ (.int .u64 ↑x2)) = w30 at O ⊢
   replace O : OwnT _ _ ((tBlk nb 38 #[.int .u64 ↑x1, .int .u64 ↑x2]) :: (tRow 89 5 (.slice Bo i co) i (flatVl ((Q.take i).map vlOf))) :: (tPs (.slice (some ⟨gp, 0, none⟩) Q.length cp) Q) :: (tBlk sb 28 #[.slice B N.length cap, .int .i64 room]) :: (tRow 125 2 (.slice B N.length cap) N.length (leafV vs N)) :: (tPool vs N) :: R) w30 := O
   refine wpList_nil ?_
   replace e8 := hE.g e8; replace e24 := hE.g e24; replace e25 := hE.g e25; replace e26 := hE.g e26
   replace k := k.env hE
   clear hE e27 e29
   refine Z01 ?_
   clear d0 d1 hxw
   by_cases hg : VolOk (x1 : Int) (x2 : Int)
   · obtain ⟨i_, hiq⟩ : ∃ c : Int, (x1 : Int) % 4294967296 = c := ⟨_, rfl⟩
     obtain ⟨s, hsq⟩ : ∃ c : Int, (x2 : Int) / 65536 % 65536 = c := ⟨_, rfl⟩
     obtain ⟨r, hrq⟩ : ∃ c : Int, (x2 : Int) % 65536 = c := ⟨_, rfl⟩
     obtain ⟨p, hpq⟩ : ∃ c : Bool, ((x2 : Int) / 4294967296 % 256 == 1) = c := ⟨_, rfl⟩
     obtain ⟨f, hfq⟩ : ∃ c : Int, (x2 : Int) / 1099511627776 = c := ⟨_, rfl⟩
     refine wp_seq ?_
     refine wp_region_lit ?_
     have hE := Env.refl a28 [31, 32, 30, 33, 34, 11, 12]
     apply Z02 31 hE k rfl rfl rfl rfl
     case h =>
      have q0 : w30.cell? ⟨nb, 0, none⟩ = some (.int .u64 ↑x1) := (OwnT.blk O 0 rfl).cell 0
      have q1 : w30.cell? ⟨nb, 1, none⟩ = some (.int .u64 ↑x2) := (OwnT.blk O 0 rfl).cell 1
      simp [go_sem, ↓IntWalk.iteOmega, ev (hE.g e10), q0, q1]
      with_reducible rfl
     intro a31 hE e31 kp
     apply Z06 32 hE k rfl (by rfl) (by rfl) rfl
     case h =>
      simp [go_sem, ↓IntWalk.iteOmega, ev e31]
      with_reducible exact ⟨rfl, rfl⟩
     case hc => exact Z4j (x1 : Int) (x2 : Int) _ (by omega) (by omega) (by omega) (by omega) hg
     rintro e w33 ⟨rfl, RE⟩
     replace O := OwnT.ext O RE
     refine ⟨.tuple #[.agg #[.int .i64 i_, .int .i64 s, .int .i64 r, .bool p, .int .i64 f], .bool true], by rw [hiq, hsq, hrq, hpq, hfq], ?_⟩
     intro a32 hE e32 kp
     refine sd 30 hE k (Z03 rfl e32) ?_
     intro a34 hE e30 kp
     apply Z02 33 hE k rfl rfl rfl rfl
     case h =>
      simp [go_sem, ↓IntWalk.iteOmega, ev e30]
      with_reducible rfl
     intro a35 hE e33 kp
     replace e30 := kt kp e30
     apply Z02 34 hE k rfl rfl rfl rfl
     case h =>
      simp [go_sem, ↓IntWalk.iteOmega, ev e30]
      with_reducible rfl
     intro a36 hE e34 kp
     replace e33 := kt kp e33
     refine Z0f O (cs := #[.int .i64 0, .int .i64 0, .int .i64 0, .bool false, .int .i64 0]) (t := 89) 11 hE k rfl (by rfl) (by rfl) rfl (by simp [go_sem, ↓IntWalk.iteOmega]) ?_
     clear O
     intro n2 a37 w38 O hE e11 kp
     replace e33 := kt kp e33; replace e34 := kt kp e34
     have q0 : w38.cell? ⟨n2, 0, none⟩ = some (.int .i64 0) := (OwnT.blk O 0 rfl).cell 0
     have z0 : w38.frozen? ⟨n2, 0, none⟩ = false := (OwnT.blk O 0 rfl).frozen 0
     have q1 : w38.cell? ⟨n2, 1, none⟩ = some (.int .i64 0) := (OwnT.blk O 0 rfl).cell 1
     have z1 : w38.frozen? ⟨n2, 1, none⟩ = false := (OwnT.blk O 0 rfl).frozen 1
     have q2 : w38.cell? ⟨n2, 2, none⟩ = some (.int .i64 0) := (OwnT.blk O 0 rfl).cell 2
     have z2 : w38.frozen? ⟨n2, 2, none⟩ = false := (OwnT.blk O 0 rfl).frozen 2
     have q3 : w38.cell? ⟨n2, 3, none⟩ = some (.bool false) := (OwnT.blk O 0 rfl).cell 3
     have z3 : w38.frozen? ⟨n2, 3, none⟩ = false := (OwnT.blk O 0 rfl).frozen 3
     have q4 : w38.cell? ⟨n2, 4, none⟩ = some (.int .i64 0) := (OwnT.blk O 0 rfl).cell 4
     have z4 : w38.frozen? ⟨n2, 4, none⟩ = false := (OwnT.blk O 0 rfl).frozen 4
     refine Z0e (w' := (((((w38.setCell ⟨n2, 0, none⟩ (.int .i64 i_)).setCell ⟨n2, 1, none⟩ (.int .i64 s)).setCell ⟨n2, 2, none⟩ (.int .i64 r)).setCell ⟨n2, 3, none⟩ (.bool p)).setCell ⟨n2, 4, none⟩ (.int .i64 f))) hE rfl rfl (by simp [go_sem, ↓IntWalk.iteOmega, ev e11, ev e33, q0, z0, q1, z1, q2, z2, q3, z3, q4, z4]) ?_
     replace O := OwnT.push 0 rfl ((((((OwnT.pull O 0 rfl).set 0 (.int .i64 i_)).set 1 (.int .i64 s)).set 2 (.int .i64 r)).set 3 (.bool p)).set 4 (.int .i64 f))
     clear q0 z0 q1 z1 q2 z2 q3 z3 q4 z4
     generalize (((((w38.setCell ⟨n2, 0, none⟩ (.int .i64 i_)).setCell ⟨n2, 1, none⟩ (.int .i64 s)).setCell ⟨n2, 2, none⟩ (.int .i64 r)).setCell ⟨n2, 3, none⟩ (.bool p)).setCell ⟨n2, 4, none⟩ (.int .i64 f)) = w39 at O ⊢
     replace O : OwnT _ _ ((tBlk n2 89 #[.int .i64 i_, .int .i64 s, .int .i64 r, .bool p, .int .i64 f]) :: (tBlk nb 38 #[.int .u64 ↑x1, .int .u64 ↑x2]) :: (tRow 89 5 (.slice Bo i co) i (flatVl ((Q.take i).map vlOf))) :: (tPs (.slice (some ⟨gp, 0, none⟩) Q.length cp) Q) :: (tBlk sb 28 #[.slice B N.length cap, .int .i64 room]) :: (tRow 125 2 (.slice B N.length cap) N.length (leafV vs N)) :: (tPool vs N) :: R) w39 := O
     refine sd 12 hE k (Z00 rfl e34) ?_
     intro a40 hE e12 kp
     replace e11 := kt kp e11
     refine wpList_nil ?_
     replace e8 := hE.g e8; replace e24 := hE.g e24; replace e25 := hE.g e25; replace e26 := hE.g e26
     replace k := k.env hE
     clear hE e10
     refine Z01 (wp_seq ?_)
     refine wp_seq ?_
     refine wp_region_lit ?_
     have hE := Env.refl a40 [35, 36]
     refine sm 35 hE k e12 ?_
     intro a41 hE e35 kp
     refine sd 36 hE k (Z1m rfl e35) ?_
     intro a42 hE e36 kp
     refine wpList_nil ?_
     replace e8 := hE.g e8; replace e11 := hE.g e11; replace e24 := hE.g e24; replace e25 := hE.g e25; replace e26 := hE.g e26
     replace k := k.env hE
     clear hE e12
     refine Z01 ?_
     refine Z05 e36 rfl ?_
     refine wp_skip ?_
     refine Z01 ?_
     replace O : OwnT _ _ ((tRow 89 5 (.slice Bo i co) i (flatVl ((Q.take i).map vlOf))) :: (tPs (.slice (some ⟨gp, 0, none⟩) Q.length cp) Q) :: (tBlk sb 28 #[.slice B N.length cap, .int .i64 room]) :: (tRow 125 2 (.slice B N.length cap) N.length (leafV vs N)) :: (tPool vs N) :: (tBlk n2 89 #[.int .i64 i_, .int .i64 s, .int .i64 r, .bool p, .int .i64 f]) :: R) w39 := OwnT.pickR (L := [_, _, _, _, _, _, _]) (R := R) O [2, 3, 4, 5, 6, 0] (by decide)
     refine wp_region_lit ?_
     have hE := Env.refl a42 [37, 38, 39, 40, 8]
     refine sd 37 hE k (Z03 rfl e8) ?_
     intro a43 hE e37 kp
     replace e8 := kt kp e8
     apply Z02 38 hE k rfl rfl rfl rfl
     case h =>
      have q0 : w39.cell? ⟨n2, 0, none⟩ = some (.int .i64 i_) := (OwnT.blk O 5 rfl).cell 0
      have q1 : w39.cell? ⟨n2, 1, none⟩ = some (.int .i64 s) := (OwnT.blk O 5 rfl).cell 1
      have q2 : w39.cell? ⟨n2, 2, none⟩ = some (.int .i64 r) := (OwnT.blk O 5 rfl).cell 2
      have q3 : w39.cell? ⟨n2, 3, none⟩ = some (.bool p) := (OwnT.blk O 5 rfl).cell 3
      have q4 : w39.cell? ⟨n2, 4, none⟩ = some (.int .i64 f) := (OwnT.blk O 5 rfl).cell 4
      simp [go_sem, ↓IntWalk.iteOmega, ev (hE.g e11), q0, q1, q2, q3, q4]
      with_reducible rfl
     intro a44 hE e38 kp
     replace e8 := kt kp e8; replace e37 := kt kp e37
     refine Z2j (m := 1) (c := 1) O (cs := #[.int .i64 i_, .int .i64 s, .int .i64 r, .bool p, .int .i64 f]) (t := 89) 39 hE k rfl (by rfl) (by rfl) rfl (by simp [go_sem, ↓IntWalk.iteOmega, ev e38]) ?_
     clear O
     intro gn a45 w46 O hE e39 kp
     replace e8 := kt kp e8; replace e37 := kt kp e37
     obtain ⟨gr, cr, w47, hrun, O⟩ := Z48 O elemVl (by decide) rfl (by intro u hu; simp at hu; rcases hu with rfl | rfl | rfl | rfl | rfl <;> rfl) (by unfold maxLen; omega) (by omega)
     apply Z25 40 hE k rfl (by rfl) (by rfl) rfl
     case h => exact Z21 rfl e37 e39 (hrun _)
     clear hrun
     intro a48 hE e40 kp
     replace e8 := kt kp e8
     refine sd 8 hE k (Z00 rfl e40) ?_
     intro a49 hE e8 kp
     refine wpList_nil ?_
     replace e24 := hE.g e24; replace e25 := hE.g e25; replace e26 := hE.g e26
     replace k := k.env hE
     clear hE e11 e36
     refine Z0z ?_
     refine Z01 ?_
     refine wp_region_lit ?_
     have hE := Env.refl a49 [41, 26]
     refine sd 41 hE k (Z12 rfl e26 rfl (by omega)) ?_
     intro a50 hE e41 kp
     replace e26 := kt kp e26
     refine sd 26 hE k (Z03 rfl e41) ?_
     intro a51 hE e26 kp
     refine wpList_nil ?_
     replace e8 := hE.g e8; replace e24 := hE.g e24; replace e25 := hE.g e25
     replace k := k.env hE
     clear hE
     refine Z01 ?_
     replace O : OwnT _ _ ((tRow 89 5 (.slice (some ⟨gr, 0, none⟩) ((i + 1)) cr) (i + 1) ((flatVl ((Q.take i).map vlOf)) ++ [Value.int .i64 i_, Value.int .i64 s, Value.int .i64 r, Value.bool p, Value.int .i64 f])) :: (tPs (.slice (some ⟨gp, 0, none⟩) Q.length cp) Q) :: (tBlk sb 28 #[.slice B N.length cap, .int .i64 room]) :: (tRow 125 2 (.slice B N.length cap) N.length (leafV vs N)) :: (tPool vs N) :: R) w47 := OwnT.pickR (L := [_, _, _, _, _, _]) (R := R) O [0, 1, 2, 3, 4] (by decide)
     have htk : Q.take (i + 1) = Q.take i ++ [(x1, x2)] := by rw [List.take_add_one, hx]; rfl
     rw [show flatVl ((Q.take i).map vlOf) ++ [Value.int .i64 i_, Value.int .i64 s, Value.int .i64 r, Value.bool p, Value.int .i64 f] = flatVl ((Q.take (i + 1)).map vlOf) by rw [htk, List.map_append, flatVl, flatVl, List.flatMap_append, ← hiq, ← hsq, ← hrq, ← hpq, ← hfq]; rfl] at O
     refine ⟨⟨k, e24, e25, i + 1, some ⟨gr, 0, none⟩, cr, e8, e26, by omega, fun u hu => ?_, O⟩, ?_⟩

     · rw [htk] at hu; rcases List.mem_append.1 hu with hu | hu
       · exact hall u hu
       · obtain rfl : u = (x1, x2) := by simpa using hu
         exact decide_eq_true hg
     · rw [e26, mi]; simp only [intOf]; omega
   · have hbad : Q.all vlOkB = false := by rw [Bool.eq_false_iff]; exact fun h => hg (of_decide_eq_true (List.all_eq_true.1 h _ (List.mem_of_getElem? hx)))
     refine wp_seq ?_
     refine wp_region_lit ?_
     have hE := Env.refl a28 [31, 32, 30, 33, 34, 11, 12]
     apply Z02 31 hE k rfl rfl rfl rfl
     case h =>
      have q0 : w30.cell? ⟨nb, 0, none⟩ = some (.int .u64 ↑x1) := (OwnT.blk O 0 rfl).cell 0
      have q1 : w30.cell? ⟨nb, 1, none⟩ = some (.int .u64 ↑x2) := (OwnT.blk O 0 rfl).cell 1
      simp [go_sem, ↓IntWalk.iteOmega, ev (hE.g e10), q0, q1]
      with_reducible rfl
     intro a52 hE e31 kp
     apply Z06 32 hE k rfl (by rfl) (by rfl) rfl
     case h =>
      simp [go_sem, ↓IntWalk.iteOmega, ev e31]
      with_reducible exact ⟨rfl, rfl⟩
     case hc => exact Z7y (x1 : Int) (x2 : Int) _ (by omega) (by omega) (by omega) (by omega) hg
     rintro e w54 ⟨rfl, RE⟩
     replace O := OwnT.ext O RE
     refine ⟨_, rfl, ?_⟩
     intro a53 hE e32 kp
     refine sd 30 hE k (Z03 rfl e32) ?_
     intro a55 hE e30 kp
     apply Z02 33 hE k rfl rfl rfl rfl
     case h =>
      simp [go_sem, ↓IntWalk.iteOmega, ev e30]
      with_reducible rfl
     intro a56 hE e33 kp
     replace e30 := kt kp e30
     apply Z02 34 hE k rfl rfl rfl rfl
     case h =>
      simp [go_sem, ↓IntWalk.iteOmega, ev e30]
      with_reducible rfl
     intro a57 hE e34 kp
     replace e33 := kt kp e33
     refine Z0f O (cs := #[.int .i64 0, .int .i64 0, .int .i64 0, .bool false, .int .i64 0]) (t := 89) 11 hE k rfl (by rfl) (by rfl) rfl (by simp [go_sem, ↓IntWalk.iteOmega]) ?_
     clear O
     intro n2 a58 w59 O hE e11 kp
     replace e33 := kt kp e33; replace e34 := kt kp e34
     have q0 : w59.cell? ⟨n2, 0, none⟩ = some (.int .i64 0) := (OwnT.blk O 0 rfl).cell 0
     have z0 : w59.frozen? ⟨n2, 0, none⟩ = false := (OwnT.blk O 0 rfl).frozen 0
     have q1 : w59.cell? ⟨n2, 1, none⟩ = some (.int .i64 0) := (OwnT.blk O 0 rfl).cell 1
     have z1 : w59.frozen? ⟨n2, 1, none⟩ = false := (OwnT.blk O 0 rfl).frozen 1
     have q2 : w59.cell? ⟨n2, 2, none⟩ = some (.int .i64 0) := (OwnT.blk O 0 rfl).cell 2
     have z2 : w59.frozen? ⟨n2, 2, none⟩ = false := (OwnT.blk O 0 rfl).frozen 2
     have q3 : w59.cell? ⟨n2, 3, none⟩ = some (.bool false) := (OwnT.blk O 0 rfl).cell 3
     have z3 : w59.frozen? ⟨n2, 3, none⟩ = false := (OwnT.blk O 0 rfl).frozen 3
     have q4 : w59.cell? ⟨n2, 4, none⟩ = some (.int .i64 0) := (OwnT.blk O 0 rfl).cell 4
     have z4 : w59.frozen? ⟨n2, 4, none⟩ = false := (OwnT.blk O 0 rfl).frozen 4
     refine Z0e (w' := (((((w59.setCell ⟨n2, 0, none⟩ (.int .i64 0)).setCell ⟨n2, 1, none⟩ (.int .i64 0)).setCell ⟨n2, 2, none⟩ (.int .i64 0)).setCell ⟨n2, 3, none⟩ (.bool false)).setCell ⟨n2, 4, none⟩ (.int .i64 0))) hE rfl rfl (by simp [go_sem, ↓IntWalk.iteOmega, ev e11, ev e33, q0, z0, q1, z1, q2, z2, q3, z3, q4, z4]) ?_
     replace O := OwnT.push 0 rfl ((((((OwnT.pull O 0 rfl).set 0 (.int .i64 0)).set 1 (.int .i64 0)).set 2 (.int .i64 0)).set 3 (.bool false)).set 4 (.int .i64 0))
     clear q0 z0 q1 z1 q2 z2 q3 z3 q4 z4
     generalize (((((w59.setCell ⟨n2, 0, none⟩ (.int .i64 0)).setCell ⟨n2, 1, none⟩ (.int .i64 0)).setCell ⟨n2, 2, none⟩ (.int .i64 0)).setCell ⟨n2, 3, none⟩ (.bool false)).setCell ⟨n2, 4, none⟩ (.int .i64 0)) = w60 at O ⊢
     replace O : OwnT _ _ ((tBlk n2 89 #[.int .i64 0, .int .i64 0, .int .i64 0, .bool false, .int .i64 0]) :: (tBlk nb 38 #[.int .u64 ↑x1, .int .u64 ↑x2]) :: (tRow 89 5 (.slice Bo i co) i (flatVl ((Q.take i).map vlOf))) :: (tPs (.slice (some ⟨gp, 0, none⟩) Q.length cp) Q) :: (tBlk sb 28 #[.slice B N.length cap, .int .i64 room]) :: (tRow 125 2 (.slice B N.length cap) N.length (leafV vs N)) :: (tPool vs N) :: R) w60 := O
     refine sd 12 hE k (Z00 rfl e34) ?_
     intro a61 hE e12 kp
     replace e11 := kt kp e11
     refine wpList_nil ?_
     replace e8 := hE.g e8; replace e24 := hE.g e24; replace e25 := hE.g e25; replace e26 := hE.g e26
     replace k := k.env hE
     clear hE e10
     refine Z01 (wp_seq ?_)
     refine wp_seq ?_
     refine wp_region_lit ?_
     have hE := Env.refl a61 [35, 36]
     refine sm 35 hE k e12 ?_
     intro a62 hE e35 kp
     refine sd 36 hE k (Z1m rfl e35) ?_
     intro a63 hE e36 kp
     refine wpList_nil ?_
     replace e8 := hE.g e8; replace e11 := hE.g e11; replace e24 := hE.g e24; replace e25 := hE.g e25; replace e26 := hE.g e26
     replace k := k.env hE
     clear hE e12
     refine Z01 ?_
     refine Z0d e36 rfl ?_
     refine wp_seq ?_
     refine wp_region_lit ?_
     have hE := Env.refl a63 [4, 5]
     refine sd 4 hE k (Z00 rfl rfl) ?_
     intro a64 hE e4 kp
     refine sd 5 hE k (Z00 rfl rfl) ?_
     intro a65 hE e5 kp
     replace e4 := kt kp e4
     refine wpList_nil ?_
     replace k := k.env hE
     clear hE e8 e11 e24 e25 e26 e36
     refine Z01 ?_
     refine wp_ret ?_
     refine Z0j ?_
     refine Z1l ?_
     refine Z0j ?_
     refine Z0j ?_
     refine Z1l ?_
     refine Z0j ?_
     refine Z1x rfl k e4 e5 ?_
     exact (.inr ⟨hbad, rfl, OwnT.pickR (L := [_, _, _, _, _, _, _]) (R := R) O [4, 5, 6] (by decide)⟩)
 · skip
   have hil : i = Q.length := by omega
   rw [hil, List.take_length] at hall O
   have hml : Q.length = (Q.map vlOf).length := by rw [List.length_map]
   rw [hil] at e8
   refine wp_seq ?_
   refine wp_region_lit ?_
   have hE := Env.refl a23 [27]
   refine sd 27 hE k (Z07 (Z1n rfl (hE.g e26) (hE.g e25)) (decide_eq_false (by omega))) ?_
   intro a66 hE e27 kp
   refine wpList_nil ?_
   replace e8 := hE.g e8; replace e24 := hE.g e24; replace e25 := hE.g e25; replace e26 := hE.g e26
   replace k := k.env hE
   clear hE
   refine Z01 (wp_seq ?_)
   refine Z05 e27 rfl ?_
   refine wp_exit ?_
   refine Z14 ?_
   refine Z14 ?_
   refine Z1q ?_
   refine Z01 (wp_seq ?_)
   refine wp_region_lit ?_
   have hE := Env.refl a66 [42, 4, 5]
   refine sm 42 hE k e8 ?_
   intro a67 hE e42 kp
   refine sd 4 hE k (Z00 rfl e42) ?_
   intro a68 hE e4 kp
   refine sd 5 hE k (Z00 rfl rfl) ?_
   intro a69 hE e5 kp
   replace e4 := kt kp e4
   refine wpList_nil ?_
   replace k := k.env hE
   clear hE e8 e24 e25 e26 e27
   refine Z01 ?_
   refine wp_ret ?_
   refine Z1x rfl k e4 e5 ?_
   exact (.inl ⟨List.all_eq_true.2 hall, Bo, co, by rw [List.length_map]; rfl, by rw [tVls, List.length_map]; exact OwnT.pickR (L := [_, _, _, _, _]) (R := R) O [2, 3, 4, 0] (by decide)⟩)
end Go.Proofs.Ytngehbhhpkkijaa
