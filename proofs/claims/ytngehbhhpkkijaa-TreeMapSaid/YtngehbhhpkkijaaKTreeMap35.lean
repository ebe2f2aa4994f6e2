/- trees' law: TreeMap (printed by XTrMap.gen.py). -/
import Derived.Test.YtngehbhhpkkijaaKTreeMap34
namespace Go.Proofs.Ytngehbhhpkkijaa
attribute [local simp] BigFrame.eval_const BigFrame.eval_global BigFrame.eval_func
set_option linter.unusedVariables false
set_option linter.unusedSimpArgs false
open Go.RowKit Go.Maps

/-- A deed: its kind, a key, a value. -/
abbrev TmD := Int × Nat × Nat
def tmC (x : TmD) : List Value := [.int .i64 x.1, .int .u64 (x.2.1 : Nat), .int .u64 (x.2.2 : Nat)]
def tmOk (x : TmD) : Prop := x.2.1 < 18446744073709551616 ∧ x.2.2 < 18446744073709551616
theorem Z6k : Try.prog.cellsOf 32 = 3 := by kernel_rfl
theorem cells_itm : Try.prog.cellsOf 3 = 1 := by kernel_rfl
theorem Z5m : Try.prog.cellsOf 30 = 1 := by kernel_rfl
theorem arg_tms {w : World} {v : Value} (h : Arg Try.prog w 22 v) :
 ∃ A len cap, ∃ xs : List TmD, v = .slice A len cap ∧ len ≤ cap ∧ cap ≤ maxLen ∧ xs.length = len ∧ (∀ x ∈ xs, tmOk x) ∧ Row w A 3 tmC xs :=
 fit_row tmC tmOk Try.underlying22 Z6k (by decide) (fun cs _ hf => by
  obtain ⟨hl, hx⟩ := Z79 3 Try.underlying32 Z6k hf
  obtain ⟨a, e0, _⟩ := Z57 Try.underlying3 (hx 0 0 3 1 rfl cells_itm)
  obtain ⟨k, e2, w2⟩ := Z57 Try.underlying30 (hx 1 1 30 1 rfl Z5m)
  obtain ⟨x, e3, w3⟩ := Z57 Try.underlying30 (hx 2 2 30 1 rfl Z5m)
  have b2 := bounds_u64 w2
  have b3 := bounds_u64 w3
  refine ⟨(a, k.toNat, x.toNat), ?_, by show k.toNat < _; omega, by show x.toNat < _; omega⟩
  match cs, hl with
  | [u0, u1, u2], _ =>
   simp at e0 e2 e3
   subst e0 e2 e3
   show _ = [_, Value.int .u64 ((k.toNat : Nat) : Int), Value.int .u64 ((x.toNat : Nat) : Int)]
   rw [show ((k.toNat : Nat) : Int) = k by omega, show ((x.toNat : Nat) : Int) = x by omega]) (arg_slice Try.underlying22 h)
section
variable {w : World} {o : Oper} {ρ : Operand → Value} {x y : Operand} {u : TypeId}
theorem Z66 {a b c : Bool} (ho : o.op = .binOp .neq 4 x y u) (hx : ρ x = .bool a) (hy : ρ y = .bool b) (h : decide (a ≠ b) = c) : (execOp ρ o).run Try.prog w = .ok (.value (.bool c)) w := by
 subst h
 unfold execOp
 simp only [ho, hx, hy]
 cases a <;> cases b <;> kernel_rfl
end

set_option maxRecDepth 100000 in
set_option maxHeartbeats 4000000 in
theorem Z5a {A : Option Addr} {n cp : Nat} (x0 : Int) (xs : List TmD) (W0 : World) (hl : xs.length = n) (hrow : Row W0 A 3 tmC xs) (hwf : ∀ x ∈ xs, tmOk x) : Calls Try.prog 3 #[.int .i64 x0, .slice A n cp] W0 fun e w' => e = .returned (.bool true) ∧ Below W0.heap.size W0 w' := by
 have O := OwnT.start W0
 obtain ⟨rm, hrm⟩ : ∃ z, uN x0 % 300 = z := ⟨_, rfl⟩
 have brm : rm < 300 := by omega
 refine Z0e Try.func3 rfl 256 rfl (by rfl) ?_
 intro a1 k hargs
 have e0 : a1.eval (.tmp 0) = .int .i64 x0 := hargs 0 _ rfl
 have e1 : a1.eval (.tmp 1) = .slice A n cp := hargs 1 _ rfl
 clear hargs
 refine wp_seq ?_
 refine wp_region_lit ?_
 have hE := Env.refl a1 [4]
 refine sd 4 hE k (Z00 rfl rfl) ?_
 intro a2 hE e4 kp
 refine wpList_nil ?_
 replace e0 := hE.g e0; replace e1 := hE.g e1
 replace k := k.env hE
 clear hE e4
 refine Z01 (wp_seq ?_)
 refine wp_seq ?_
 refine wp_region_lit ?_
 have hE := Env.refl a2 [27, 28]
 apply Z09 27 hE k rfl (by rfl) (by rfl) rfl
 case h =>
  simp [go_sem, ↓IntWalk.iteOmega]
  with_reducible exact ⟨rfl, rfl⟩
 case hc => exact awake08 _
 rintro e w4 ⟨rfl, R⟩
 replace O := OwnT.ext O R
 refine ⟨_, rfl, ?_⟩
 intro a3 hE e27 kp
 refine sd 28 hE k (Z1a rfl e27) ?_
 intro a5 hE e28 kp
 refine wpList_nil ?_
 replace e0 := hE.g e0; replace e1 := hE.g e1
 replace k := k.env hE
 clear hE
 refine Z01 ?_
 refine Z08 e28 rfl ?_
 refine wp_skip ?_
 refine Z01 (wp_seq ?_)
 refine wp_region_lit ?_
 have hE := Env.refl a5 [29, 30, 31, 32, 33, 34, 5]
 refine sm 29 hE k e0 ?_
 intro a6 hE e29 kp
 refine sd 30 hE k (Z23 rfl e29 (conv_uint x0 _)) ?_
 intro a7 hE e30 kp
 refine sd 31 hE k (x_remU (m := uN x0) (j := 300) rfl e30 rfl rfl (by decide)) ?_
 intro a8 hE e31 kp
 refine sd 32 hE k (Z23 rfl e31 (conv_int _ _ (by omega))) ?_
 intro a9 hE e32 kp
 replace e32 := e32.trans (Z0u (show ((uN x0 % 300 : Nat) : Int) = (rm : Int) by rw [hrm]))
 apply Z03 33 hE k rfl rfl rfl rfl
 case h =>
  simp [go_sem, ↓IntWalk.iteOmega, ev e32]
  with_reducible rfl
 intro a10 hE e33 kp
 refine Z0m O (cs := #[.slice none 0 0, .int .i64 ↑rm]) (t := 28) 34 hE k rfl (by rfl) (by rfl) rfl (by simp [go_sem, ↓IntWalk.iteOmega, ev e33]) ?_
 clear O
 intro sb a11 w12 O hE e34 kp
 refine sd 5 hE k (Z00 rfl e34) ?_
 intro a13 hE e5 kp
 refine wpList_nil ?_
 replace e1 := hE.g e1
 replace k := k.env hE
 clear hE e0 e28
 refine Z01 ?_
 replace O := sh_nil O
 refine wp_seq ?_
 refine wp_region_lit ?_
 have hE := Env.refl a13 [6]
 refine sd 6 hE k (Z00 rfl rfl) ?_
 intro a14 hE e6 kp
 refine wpList_nil ?_
 replace e1 := hE.g e1; replace e5 := hE.g e5
 replace k := k.env hE
 clear hE
 refine Z01 (wp_seq ?_)
 refine wp_region_lit ?_
 have hE := Env.refl a14 [35, 7]
 refine Z18 (m := 0) (c := 0) O (cs := #[]) (t := 38) 35 hE k rfl (by rfl) (by rfl) rfl (by simp [go_sem, ↓IntWalk.iteOmega]) ?_
 clear O
 intro g5 a15 w16 O hE e35 kp
 refine sd 7 hE k (Z00 rfl e35) ?_
 intro a17 hE e7 kp
 refine wpList_nil ?_
 replace e1 := hE.g e1; replace e5 := hE.g e5; replace e6 := hE.g e6
 replace k := k.env hE
 clear hE
 refine Z01 ?_
 replace O := OwnT.asRowE (k := 2) O
 replace O : OwnT _ _ (tPs (.slice (some ⟨g5, 0, none⟩) 0 0) [] :: _) w16 := O
 replace O : OwnT _ _ ((tBlk sb 28 #[.slice none (([]).length) 0, .int .i64 ↑rm]) :: (tRow 125 2 (.slice none ([]).length 0) ([]).length (leafV ([]) ([]))) :: (tPool ([]) ([])) :: (tPs (.slice (some ⟨g5, 0, none⟩) 0 0) []) :: []) w16 := OwnT.pickR (L := [_, _, _, _]) (R := []) O [1, 2, 3, 0] (by decide)
 refine wp_seq ?_
 refine wp_seq ?_
 refine wp_region_lit ?_
 have hE := Env.refl a17 [8]
 refine sd 8 hE k (Z00 rfl rfl) ?_
 intro a18 hE e8 kp
 refine wpList_nil ?_
 replace e1 := hE.g e1; replace e5 := hE.g e5; replace e6 := hE.g e6; replace e7 := hE.g e7
 replace k := k.env hE
 clear hE
 refine Z01 ?_
 refine wp_block ?_
 refine wp_loop (fun a w => Fr 256 a ∧ a.eval (.tmp 1) = .slice A n cp ∧ a.eval (.tmp 5) = .pointer (some ⟨sb, 0, none⟩) ∧ ∃ (i rt : Nat) (P : List Pr) (Bu : Option Addr) (cu : Nat) (N : List Nd) (B : Option Addr) (cap : Nat) (vs : List Value), a.eval (.tmp 6) = .int .i64 ↑rt ∧ a.eval (.tmp 7) = .slice Bu P.length cu ∧ a.eval (.tmp 8) = .int .i64 ↑i ∧ i ≤ 60 ∧ N.length ≤ 5 * i ∧ Tre N rt (8 + i) P ∧ OwnT W0.heap.size W0 ((tBlk sb 28 #[.slice B N.length cap, .int .i64 ↑rm]) :: (tRow 125 2 (.slice B N.length cap) N.length (leafV vs N)) :: (tPool vs N) :: (tPs (.slice Bu P.length cu) P) :: []) w) (fun a w => 60 - (intOf (a.eval (.tmp 8))).toNat) ?_ ?_
 · exact ⟨k, e1, e5, 0, 0, [], some ⟨g5, 0, none⟩, 0, [], none, 0, [], e6, e7, e8, Nat.zero_le _, Nat.zero_le _, (Tre.zero []).le (by omega), O⟩
 intro a19 w20 hI
 clear k e1 e5
 obtain ⟨k, e1, e5, h_⟩ := hI
 clear O e6 e7 e8
 obtain ⟨i, rt, P, Bu, cu, N, B, cap, vs, e6, e7, e8, hi, hN, hT, O⟩ := h_
 have mi := e8
 by_cases hlt1 : i < n
 rotate_left
 · skip
   refine wp_seq ?_
   refine wp_seq ?_
   refine wp_region_lit ?_
   have hE := Env.refl a19 [36, 37, 38, 39, 40, 41, 42, 43]
   refine sm 36 hE k e8 ?_
   intro a21 hE e36 kp
   refine sm 37 hE k e1 ?_
   intro a22 hE e37 kp
   replace e36 := kt kp e36
   refine sd 38 hE k (Z0d Try.underlying22 rfl e37) ?_
   intro a23 hE e38 kp
   replace e36 := kt kp e36
   refine sd 39 hE k (Z06 (Z0r rfl e36 e38) (decide_eq_false (by omega))) ?_
   intro a24 hE e39 kp
   refine sd 40 hE k (Z04 rfl e39) ?_
   intro a25 hE e40 kp
   refine Z07 41 hE k rfl (by rfl) (by rfl) rfl rfl (.inl e40) ?_
   intro a26 hE e41 kp
   replace e40 := kt kp e40
   refine Z07 42 hE k rfl (by rfl) (by rfl) rfl rfl (.inl e40) ?_
   intro a27 hE e42 kp
   replace e40 := kt kp e40
   refine sd 43 hE k (Z05 rfl e40 rfl) ?_
   intro a28 hE e43 kp
   refine wpList_nil ?_
   replace e1 := hE.g e1; replace e5 := hE.g e5; replace e6 := hE.g e6; replace e7 := hE.g e7; replace e8 := hE.g e8
   replace k := k.env hE
   clear hE
   refine Z01 ?_
   refine Z08 e43 rfl ?_
   refine wp_exit ?_
   refine Z0q ?_
   refine Z0q ?_
   refine Z13 ?_
   refine Z01 (wp_seq ?_)
   refine wp_region_lit ?_
   have hE := Env.refl a28 [4]
   refine sd 4 hE k (Z00 rfl rfl) ?_
   intro a29 hE e4 kp
   refine wpList_nil ?_
   replace k := k.env hE
   clear hE e1 e5 e6 e7 e8 e43
   refine Z01 ?_
   refine wp_ret ?_
   refine Z0w rfl k e4 ?_
   exact ⟨rfl, O.below⟩
 by_cases hlt2 : i < 60
 rotate_left
 · skip
   refine wp_seq ?_
   refine wp_seq ?_
   refine wp_region_lit ?_
   have hE := Env.refl a19 [36, 37, 38, 39, 40, 41, 42, 43]
   refine sm 36 hE k e8 ?_
   intro a30 hE e36 kp
   refine sm 37 hE k e1 ?_
   intro a31 hE e37 kp
   replace e36 := kt kp e36
   refine sd 38 hE k (Z0d Try.underlying22 rfl e37) ?_
   intro a32 hE e38 kp
   replace e36 := kt kp e36
   refine sd 39 hE k (Z06 (Z0r rfl e36 e38) (decide_eq_true (by omega))) ?_
   intro a33 hE e39 kp
   refine sd 40 hE k (Z04 rfl e39) ?_
   intro a34 hE e40 kp
   apply Z02 41 hE k rfl rfl rfl rfl rfl e40
   case h =>
    exact Z04 rfl (hE.g e8)
   intro a35 hE e41 kp
   replace e40 := kt kp e40
   apply Z02 42 hE k rfl rfl rfl rfl rfl e40
   case h =>
    exact Z06 (Z0r rfl e41 rfl) (decide_eq_false (by omega))
   intro a36 hE e42 kp
   replace e40 := kt kp e40
   refine sd 43 hE k (Z0a rfl e40 e42) ?_
   intro a37 hE e43 kp
   refine wpList_nil ?_
   replace e1 := hE.g e1; replace e5 := hE.g e5; replace e6 := hE.g e6; replace e7 := hE.g e7; replace e8 := hE.g e8
   replace k := k.env hE
   clear hE
   refine Z01 ?_
   refine Z08 e43 rfl ?_
   refine wp_exit ?_
   refine Z0q ?_
   refine Z0q ?_
   refine Z13 ?_
   refine Z01 (wp_seq ?_)
   refine wp_region_lit ?_
   have hE := Env.refl a37 [4]
   refine sd 4 hE k (Z00 rfl rfl) ?_
   intro a38 hE e4 kp
   refine wpList_nil ?_
   replace k := k.env hE
   clear hE e1 e5 e6 e7 e8 e43
   refine Z01 ?_
   refine wp_ret ?_
   refine Z0w rfl k e4 ?_
   exact ⟨rfl, O.below⟩
 have hltI : (i : Int) < (n : Int) := by omega
 have hPl := hT.len
 have hup := hT.up
 obtain ⟨x, hx⟩ : ∃ x, xs[i]? = some x := ⟨_, List.getElem?_eq_getElem (by omega)⟩
 have hxw := hwf x (List.mem_of_getElem? hx)
 obtain ⟨b, o, rfl, _, hc⟩ := (hrow.below O.below) i x hx
 obtain ⟨kd, ky, vl⟩ := x
 have hky : ky < 18446744073709551616 := hxw.1
 have hvl : vl < 18446744073709551616 := hxw.2
 have d0 : w20.cell? ⟨b, o + i * 3, none⟩ = some (.int .i64 kd) := by have := hc 0 _ rfl; simpa using this
 have d1 := hc 1 _ rfl
 have d2 := hc 2 _ rfl
 clear hc hxw

 refine wp_seq ?_
 refine wp_seq ?_
 refine wp_region_lit ?_
 have hE := Env.refl a19 [36, 37, 38, 39, 40, 41, 42, 43]
 refine sm 36 hE k e8 ?_
 intro a39 hE e36 kp
 refine sm 37 hE k e1 ?_
 intro a40 hE e37 kp
 replace e36 := kt kp e36
 refine sd 38 hE k (Z0d Try.underlying22 rfl e37) ?_
 intro a41 hE e38 kp
 replace e36 := kt kp e36
 refine sd 39 hE k (Z06 (Z0r rfl e36 e38) (decide_eq_true (by omega))) ?_
 intro a42 hE e39 kp
 refine sd 40 hE k (Z04 rfl e39) ?_
 intro a43 hE e40 kp
 apply Z02 41 hE k rfl rfl rfl rfl rfl e40
 case h =>
  exact Z04 rfl (hE.g e8)
 intro a44 hE e41 kp
 replace e40 := kt kp e40
 apply Z02 42 hE k rfl rfl rfl rfl rfl e40
 case h =>
  exact Z06 (Z0r rfl e41 rfl) (decide_eq_true (by omega))
 intro a45 hE e42 kp
 replace e40 := kt kp e40
 refine sd 43 hE k (Z0a rfl e40 e42) ?_
 intro a46 hE e43 kp
 refine wpList_nil ?_
 replace e1 := hE.g e1; replace e5 := hE.g e5; replace e6 := hE.g e6; replace e7 := hE.g e7; replace e8 := hE.g e8
 replace k := k.env hE
 clear hE
 refine Z01 ?_
 refine Z0b e43 rfl ?_
 refine wp_skip ?_
 refine Z01 (wp_seq ?_)
 refine wp_block ?_
 refine wp_seq ?_
 refine wp_region_lit ?_
 have hE := Env.refl a46 [46, 47, 48, 49, 9]
 refine sm 46 hE k e1 ?_
 intro a47 hE e46 kp
 refine sm 47 hE k e8 ?_
 intro a48 hE e47 kp
 replace e46 := kt kp e46
 apply Z03 48 hE k rfl rfl rfl rfl
 case h =>
  simp [go_sem, ↓IntWalk.iteOmega, ev e46, ev e47]
  with_reducible rfl
 intro a49 hE e48 kp
 apply Z03 49 hE k rfl rfl rfl rfl
 case h =>
  simp [go_sem, ↓IntWalk.iteOmega, ev e48, d0, d1, d2]
  with_reducible rfl
 intro a50 hE e49 kp
 refine Z0m O (cs := #[.int .i64 0, .int .u64 0, .int .u64 0]) (t := 32) 9 hE k rfl (by rfl) (by rfl) rfl (by simp [go_sem, ↓IntWalk.iteOmega]) ?_
 clear O
 intro xb a51 w52 O hE e9 kp
 replace e49 := kt kp e49
 have q0 : w52.cell? ⟨xb, 0, none⟩ = some (.int .i64 0) := (OwnT.blk O 0 rfl).cell 0
 have z0 : w52.frozen? ⟨xb, 0, none⟩ = false := (OwnT.blk O 0 rfl).frozen 0
 have q1 : w52.cell? ⟨xb, 1, none⟩ = some (.int .u64 0) := (OwnT.blk O 0 rfl).cell 1
 have z1 : w52.frozen? ⟨xb, 1, none⟩ = false := (OwnT.blk O 0 rfl).frozen 1
 have q2 : w52.cell? ⟨xb, 2, none⟩ = some (.int .u64 0) := (OwnT.blk O 0 rfl).cell 2
 have z2 : w52.frozen? ⟨xb, 2, none⟩ = false := (OwnT.blk O 0 rfl).frozen 2
 refine Z0o (w' := (((w52.setCell ⟨xb, 0, none⟩ (.int .i64 kd)).setCell ⟨xb, 1, none⟩ (.int .u64 ↑ky)).setCell ⟨xb, 2, none⟩ (.int .u64 ↑vl))) hE rfl rfl (by simp [go_sem, ↓IntWalk.iteOmega, ev e9, ev e49, q0, z0, q1, z1, q2, z2]) ?_
 replace O := OwnT.push 0 rfl ((((OwnT.pull O 0 rfl).set 0 (.int .i64 kd)).set 1 (.int .u64 ↑ky)).set 2 (.int .u64 ↑vl))
 clear q0 z0 q1 z1 q2 z2
 generalize (((w52.setCell ⟨xb, 0, none⟩ (.int .i64 kd)).setCell ⟨xb, 1, none⟩ (.int .u64 ↑ky)).setCell ⟨xb, 2, none⟩ (.int .u64 ↑vl)) = w53 at O ⊢
 replace O : OwnT _ _ ((tBlk xb 32 #[.int .i64 kd, .int .u64 ↑ky, .int .u64 ↑vl]) :: (tBlk sb 28 #[.slice B N.length cap, .int .i64 ↑rm]) :: (tRow 125 2 (.slice B N.length cap) N.length (leafV vs N)) :: (tPool vs N) :: (tPs (.slice Bu P.length cu) P) :: []) w53 := O
 refine wpList_nil ?_
 replace e1 := hE.g e1; replace e5 := hE.g e5; replace e6 := hE.g e6; replace e7 := hE.g e7; replace e8 := hE.g e8
 replace k := k.env hE
 clear hE e43 e49
 refine Z01 (wp_seq ?_)
 refine wp_region_lit ?_
 have hE := Env.refl a51 [50, 51, 52, 53, 54, 10]
 refine sm 50 hE k e5 ?_
 intro a54 hE e50 kp
 refine sd 51 hE k (Z14 rfl e50) ?_
 intro a55 hE e51 kp
 apply Z03 52 hE k rfl rfl rfl rfl
 case h =>
  simp [go_sem, ↓IntWalk.iteOmega, ev e51]
  with_reducible rfl
 intro a56 hE e52 kp
 apply Z03 53 hE k rfl rfl rfl rfl
 case h =>
  have q0 : w53.cell? ⟨sb, 0, none⟩ = some (.slice B N.length cap) := (OwnT.blk O 1 rfl).cell 0
  simp [go_sem, ↓IntWalk.iteOmega, ev e52, q0]
  with_reducible rfl
 intro a57 hE e53 kp
 refine sd 54 hE k (Z0d Try.underlying26 rfl e53) ?_
 intro a58 hE e54 kp
 refine sd 10 hE k (Z00 rfl e54) ?_
 intro a59 hE e10 kp
 refine wpList_nil ?_
 replace e1 := hE.g e1; replace e5 := hE.g e5; replace e6 := hE.g e6; replace e7 := hE.g e7; replace e8 := hE.g e8; replace e9 := hE.g e9
 replace k := k.env hE
 clear hE
 refine Z01 ?_
 clear d0 d1 d2
 replace O : OwnT _ _ ((tBlk sb 28 #[.slice B N.length cap, .int .i64 ↑rm]) :: (tRow 125 2 (.slice B N.length cap) N.length (leafV vs N)) :: (tPool vs N) :: (tPs (.slice Bu P.length cu) P) :: (tBlk xb 32 #[.int .i64 kd, .int .u64 ↑ky, .int .u64 ↑vl]) :: []) w53 := OwnT.pickR (L := [_, _, _, _, _]) (R := []) O [1, 2, 3, 4, 0] (by decide)
 refine Z43 (fun a w => Fr 256 a ∧ a.eval (.tmp 1) = .slice (some ⟨b, o, none⟩) n cp ∧ a.eval (.tmp 5) = .pointer (some ⟨sb, 0, none⟩) ∧ a.eval (.tmp 8) = .int .i64 ↑i ∧ a.eval (.tmp 10) = .int .i64 ↑N.length ∧ ∃ (rt : Nat) (P : List Pr) (Bu : Option Addr) (cu : Nat) (N' : List Nd) (B : Option Addr) (cap : Nat) (vs : List Value), a.eval (.tmp 6) = .int .i64 ↑rt ∧ a.eval (.tmp 7) = .slice Bu P.length cu ∧ N'.length ≤ 5 * (i + 1) ∧ N'.length ≤ N.length + 5 ∧ Tre N' rt (8 + i + 1) P ∧ OwnT W0.heap.size W0 ((tBlk sb 28 #[.slice B N'.length cap, .int .i64 ↑rm]) :: (tRow 125 2 (.slice B N'.length cap) N'.length (leafV vs N')) :: (tPool vs N') :: (tPs (.slice Bu P.length cu) P) :: []) w) ?_ ?_
 · skip
   by_cases hk12 : kd = 1 ∨ kd = 2
   · skip
     rcases hk12 with hk1 | hk2
     · skip
       refine wp_seq ?_
       refine wp_region_lit ?_
       have hE := Env.refl a59 [55, 56]
       apply Z03 55 hE k rfl rfl rfl rfl
       case h =>
        simp [go_sem, ↓IntWalk.iteOmega, ev (hE.g e9)]
        with_reducible rfl
       intro a60 hE e55 kp
       apply Z03 56 hE k rfl rfl rfl rfl
       case h =>
        have q0 : w53.cell? ⟨xb, 0, none⟩ = some (.int .i64 kd) := (OwnT.blk O 4 rfl).cell 0
        simp [go_sem, ↓IntWalk.iteOmega, ev e55, q0]
        with_reducible rfl
       intro a61 hE e56 kp
       refine wpList_nil ?_
       replace e1 := hE.g e1; replace e5 := hE.g e5; replace e6 := hE.g e6; replace e7 := hE.g e7; replace e8 := hE.g e8; replace e9 := hE.g e9; replace e10 := hE.g e10
       replace k := k.env hE
       clear hE
       refine Z01 ?_
       refine wp_block ?_
       refine wp_seq ?_
       refine wp_seq ?_
       refine wp_region_lit ?_
       have hE := Env.refl a61 [82, 81]
       refine sd 82 hE k (Z06 (Z0k rfl (hE.g e56) rfl) (decide_eq_true hk1)) ?_
       intro a62 hE e82 kp
       refine sd 81 hE k (Z00 rfl e82) ?_
       intro a63 hE e81 kp
       refine wpList_nil ?_
       replace e1 := hE.g e1; replace e5 := hE.g e5; replace e6 := hE.g e6; replace e7 := hE.g e7; replace e8 := hE.g e8; replace e9 := hE.g e9; replace e10 := hE.g e10; replace e56 := hE.g e56
       replace k := k.env hE
       clear hE
       refine Z01 ?_
       refine Z0b e81 rfl ?_
       refine wp_skip ?_
       refine Z01 ?_
       refine Z0b e81 rfl ?_
       refine wp_seq ?_
       refine wp_region_lit ?_
       have hE := Env.refl a63 [85, 86, 87, 88, 89, 90, 91, 92, 84, 93, 94, 11, 12]
       refine sm 85 hE k e5 ?_
       intro a64 hE e85 kp
       apply Z03 86 hE k rfl rfl rfl rfl
       case h =>
        simp [go_sem, ↓IntWalk.iteOmega, ev e85]
        with_reducible rfl
       intro a65 hE e86 kp
       refine sm 87 hE k e6 ?_
       intro a66 hE e87 kp
       replace e86 := kt kp e86
       apply Z03 88 hE k rfl rfl rfl rfl
       case h =>
        simp [go_sem, ↓IntWalk.iteOmega, ev (hE.g e9)]
        with_reducible rfl
       intro a67 hE e88 kp
       replace e86 := kt kp e86; replace e87 := kt kp e87
       apply Z03 89 hE k rfl rfl rfl rfl
       case h =>
        have q0 : w53.cell? ⟨xb, 1, none⟩ = some (.int .u64 ↑ky) := (OwnT.blk O 4 rfl).cell 1
        simp [go_sem, ↓IntWalk.iteOmega, ev e88, q0]
        with_reducible rfl
       intro a68 hE e89 kp
       replace e86 := kt kp e86; replace e87 := kt kp e87
       apply Z03 90 hE k rfl rfl rfl rfl
       case h =>
        simp [go_sem, ↓IntWalk.iteOmega, ev (hE.g e9)]
        with_reducible rfl
       intro a69 hE e90 kp
       replace e86 := kt kp e86; replace e87 := kt kp e87; replace e89 := kt kp e89
       apply Z03 91 hE k rfl rfl rfl rfl
       case h =>
        have q0 : w53.cell? ⟨xb, 2, none⟩ = some (.int .u64 ↑vl) := (OwnT.blk O 4 rfl).cell 2
        simp [go_sem, ↓IntWalk.iteOmega, ev e90, q0]
        with_reducible rfl
       intro a70 hE e91 kp
       replace e86 := kt kp e86; replace e87 := kt kp e87; replace e89 := kt kp e89
       apply Z09 92 hE k rfl (by rfl) (by rfl) rfl
       case h =>
        simp [go_sem, ↓IntWalk.iteOmega, ev e86, ev e87, ev e89, ev e91]
        with_reducible exact ⟨rfl, rfl⟩
       case hc => exact lPut (R := _ :: _ :: []) (ky := ky) (vl := vl) _ O hT.norm (by split <;> omega) (by omega) hky hvl
       clear O
       rintro e w72 ⟨N2, r2, er, B2, cap2, vs2, rfl, O, hPL⟩
       refine ⟨_, rfl, ?_⟩
       intro a71 hE e92 kp
       refine sd 84 hE k (Z04 rfl e92) ?_
       intro a73 hE e84 kp
       apply Z03 93 hE k rfl rfl rfl rfl
       case h =>
        simp [go_sem, ↓IntWalk.iteOmega, ev e84]
        with_reducible rfl
       intro a74 hE e93 kp
       replace e84 := kt kp e84
       apply Z03 94 hE k rfl rfl rfl rfl
       case h =>
        simp [go_sem, ↓IntWalk.iteOmega, ev e84]
        with_reducible rfl
       intro a75 hE e94 kp
       replace e93 := kt kp e93
       refine sd 11 hE k (Z00 rfl e93) ?_
       intro a76 hE e11 kp
       replace e94 := kt kp e94
       refine sd 12 hE k (Z00 rfl e94) ?_
       intro a77 hE e12 kp
       replace e11 := kt kp e11
       refine wpList_nil ?_
       replace e1 := hE.g e1; replace e5 := hE.g e5; replace e6 := hE.g e6; replace e7 := hE.g e7; replace e8 := hE.g e8; replace e9 := hE.g e9; replace e10 := hE.g e10
       replace k := k.env hE
       clear hE e56 e81
       refine Z01 ?_
       obtain ⟨⟨M, rfl, hM⟩, hPL⟩ := hPL
       rcases hPL with ⟨rfl, rfl, -⟩ | ⟨rfl, r, rfl, -, -, hT2⟩

       · skip
         refine wp_seq ?_
         refine wp_region_lit ?_
         have hE := Env.refl a77 [95, 96]
         refine sm 95 hE k e12 ?_
         intro a78 hE e95 kp
         refine sd 96 hE k (Z06 (Z0j rfl e95 rfl) (decide_eq_true (by omega))) ?_
         intro a79 hE e96 kp
         refine wpList_nil ?_
         replace e1 := hE.g e1; replace e5 := hE.g e5; replace e6 := hE.g e6; replace e7 := hE.g e7; replace e8 := hE.g e8; replace e9 := hE.g e9; replace e10 := hE.g e10; replace e11 := hE.g e11; replace e12 := hE.g e12
         replace k := k.env hE
         clear hE
         refine Z01 ?_
         refine Z0b e96 rfl ?_
         refine wp_seq ?_
         refine wp_region_lit ?_
         have hE := Env.refl a79 [97, 98, 99, 100, 101, 102]
         refine sm 97 hE k e12 ?_
         intro a80 hE e97 kp
         refine sd 98 hE k (Z06 (Z0j rfl e97 rfl) (decide_eq_false (by omega))) ?_
         intro a81 hE e98 kp
         refine sd 99 hE k (Z04 rfl e98) ?_
         intro a82 hE e99 kp
         apply Z02 100 hE k rfl rfl rfl rfl rfl e99
         case h =>
          exact Z04 rfl (hE.g e11)
         intro a83 hE e100 kp
         replace e99 := kt kp e99
         apply Z02 101 hE k rfl rfl rfl rfl rfl e99
         case h =>
          exact Z06 (Z0j rfl e100 rfl) (decide_eq_false (by omega))
         intro a84 hE e101 kp
         replace e99 := kt kp e99
         refine sd 102 hE k (Z05 rfl e99 e101) ?_
         intro a85 hE e102 kp
         refine wpList_nil ?_
         replace e1 := hE.g e1; replace e5 := hE.g e5; replace e6 := hE.g e6; replace e7 := hE.g e7; replace e8 := hE.g e8; replace e10 := hE.g e10
         replace k := k.env hE
         clear hE e9 e11 e12 e96
         refine Z01 ?_
         refine Z08 e102 rfl ?_
         refine wp_skip ?_
         refine Z0f ?_
         refine Z01 ?_
         exact ⟨k, e1, e5, e8, e10, rt, P, Bu, cu, N ++ M, B2, cap2, vs2, e6, e7, by rw [List.length_append]; omega, by rw [List.length_append]; omega, (hT.mono M).le (by omega), (OwnT.pickR (L := [_, _, _, _, _]) (R := []) O [0, 1, 2, 3] (by decide))⟩
       · skip
         refine wp_seq ?_
         refine wp_region_lit ?_
         have hE := Env.refl a77 [95, 96]
         refine sm 95 hE k e12 ?_
         intro a86 hE e95 kp
         refine sd 96 hE k (Z06 (Z0j rfl e95 rfl) (decide_eq_false (by omega))) ?_
         intro a87 hE e96 kp
         refine wpList_nil ?_
         replace e1 := hE.g e1; replace e5 := hE.g e5; replace e6 := hE.g e6; replace e7 := hE.g e7; replace e8 := hE.g e8; replace e9 := hE.g e9; replace e10 := hE.g e10; replace e11 := hE.g e11; replace e12 := hE.g e12
         replace k := k.env hE
         clear hE
         refine Z01 ?_
         refine Z08 e96 rfl ?_
         refine wp_seq ?_
         refine wp_region_lit ?_
         have hE := Env.refl a87 [103, 6]
         refine sm 103 hE k e11 ?_
         intro a88 hE e103 kp
         refine sd 6 hE k (Z00 rfl e103) ?_
         intro a89 hE e6 kp
         refine wpList_nil ?_
         replace e1 := hE.g e1; replace e5 := hE.g e5; replace e7 := hE.g e7; replace e8 := hE.g e8; replace e9 := hE.g e9; replace e10 := hE.g e10
         replace k := k.env hE
         clear hE e11 e12 e96
         refine Z01 ?_
         refine wp_region_lit ?_
         have hE := Env.refl a89 [104, 105, 106, 107, 108, 109, 110, 7]
         refine sd 104 hE k (Z04 rfl e7) ?_
         intro a90 hE e104 kp
         replace e7 := kt kp e7
         apply Z03 105 hE k rfl rfl rfl rfl
         case h =>
          simp [go_sem, ↓IntWalk.iteOmega, ev (hE.g e9)]
          with_reducible rfl
         intro a91 hE e105 kp
         replace e7 := kt kp e7; replace e104 := kt kp e104
         apply Z03 106 hE k rfl rfl rfl rfl
         case h =>
          have q0 : w72.cell? ⟨xb, 1, none⟩ = some (.int .u64 ↑ky) := (OwnT.blk O 4 rfl).cell 1
          simp [go_sem, ↓IntWalk.iteOmega, ev e105, q0]
          with_reducible rfl
         intro a92 hE e106 kp
         replace e7 := kt kp e7; replace e104 := kt kp e104
         apply Z03 107 hE k rfl rfl rfl rfl
         case h =>
          simp [go_sem, ↓IntWalk.iteOmega, ev (hE.g e9)]
          with_reducible rfl
         intro a93 hE e107 kp
         replace e7 := kt kp e7; replace e104 := kt kp e104; replace e106 := kt kp e106
         apply Z03 108 hE k rfl rfl rfl rfl
         case h =>
          have q0 : w72.cell? ⟨xb, 2, none⟩ = some (.int .u64 ↑vl) := (OwnT.blk O 4 rfl).cell 2
          simp [go_sem, ↓IntWalk.iteOmega, ev e107, q0]
          with_reducible rfl
         intro a94 hE e108 kp
         replace e7 := kt kp e7; replace e104 := kt kp e104; replace e106 := kt kp e106
         apply Z03 109 hE k rfl rfl rfl rfl
         case h =>
          simp [go_sem, ↓IntWalk.iteOmega, ev e106, ev e108]
          with_reducible rfl
         intro a95 hE e109 kp
         replace e7 := kt kp e7; replace e104 := kt kp e104
         apply Z09 110 hE k rfl (by rfl) (by rfl) rfl
         case h =>
          simp [go_sem, ↓IntWalk.iteOmega, ev e104, ev e109]
          with_reducible exact ⟨rfl, rfl⟩
         case hc => exact put8 (x := (ky, vl)) _ O (OwnT.get O 3 rfl) hup (by omega)
         clear O
         rintro e w97 ⟨Bu2, cu2, rfl, O⟩
         refine ⟨_, rfl, ?_⟩
         intro a96 hE e110 kp
         replace e7 := kt kp e7
         refine sd 7 hE k (Z00 rfl e110) ?_
         intro a98 hE e7 kp
         refine wpList_nil ?_
         replace e1 := hE.g e1; replace e5 := hE.g e5; replace e6 := hE.g e6; replace e8 := hE.g e8; replace e10 := hE.g e10
         replace k := k.env hE
         clear hE e9
         refine Z0f ?_
         refine Z01 ?_
         exact ⟨k, e1, e5, e8, e10, r, insP (ky, vl) P, Bu2, cu2, N ++ M, B2, cap2, vs2, e6, e7, by rw [List.length_append]; omega, by rw [List.length_append]; omega, hT2.next (by omega), (OwnT.pickR (L := [_, _, _, _, _, _]) (R := []) O [1, 2, 3, 0] (by decide))⟩
     · have hk1 : ¬ kd = 1 := by omega
       refine wp_seq ?_
       refine wp_region_lit ?_
       have hE := Env.refl a59 [55, 56]
       apply Z03 55 hE k rfl rfl rfl rfl
       case h =>
        simp [go_sem, ↓IntWalk.iteOmega, ev (hE.g e9)]
        with_reducible rfl
       intro a99 hE e55 kp
       apply Z03 56 hE k rfl rfl rfl rfl
       case h =>
        have q0 : w53.cell? ⟨xb, 0, none⟩ = some (.int .i64 kd) := (OwnT.blk O 4 rfl).cell 0
        simp [go_sem, ↓IntWalk.iteOmega, ev e55, q0]
        with_reducible rfl
       intro a100 hE e56 kp
       refine wpList_nil ?_
       replace e1 := hE.g e1; replace e5 := hE.g e5; replace e6 := hE.g e6; replace e7 := hE.g e7; replace e8 := hE.g e8; replace e9 := hE.g e9; replace e10 := hE.g e10
       replace k := k.env hE
       clear hE
       refine Z01 ?_
       refine wp_block ?_
       refine wp_seq ?_
       refine wp_seq ?_
       refine wp_region_lit ?_
       have hE := Env.refl a100 [82, 81]
       refine sd 82 hE k (Z06 (Z0k rfl (hE.g e56) rfl) (decide_eq_false hk1)) ?_
       intro a101 hE e82 kp
       refine sd 81 hE k (Z00 rfl e82) ?_
       intro a102 hE e81 kp
       refine wpList_nil ?_
       replace e1 := hE.g e1; replace e5 := hE.g e5; replace e6 := hE.g e6; replace e7 := hE.g e7; replace e8 := hE.g e8; replace e9 := hE.g e9; replace e10 := hE.g e10; replace e56 := hE.g e56
       replace k := k.env hE
       clear hE
       refine Z01 ?_
       refine Z08 e81 rfl ?_
       refine wp_region_lit ?_
       have hE := Env.refl a102 [83, 81]
       refine sd 83 hE k (Z06 (Z0k rfl (hE.g e56) rfl) (decide_eq_true hk2)) ?_
       intro a103 hE e83 kp
       refine sd 81 hE k (Z00 rfl e83) ?_
       intro a104 hE e81 kp
       refine wpList_nil ?_
       replace e1 := hE.g e1; replace e5 := hE.g e5; replace e6 := hE.g e6; replace e7 := hE.g e7; replace e8 := hE.g e8; replace e9 := hE.g e9; replace e10 := hE.g e10; replace e56 := hE.g e56
       replace k := k.env hE
       clear hE
       refine Z01 ?_
       refine Z0b e81 rfl ?_
       refine wp_seq ?_
       refine wp_region_lit ?_
       have hE := Env.refl a104 [85, 86, 87, 88, 89, 90, 91, 92, 84, 93, 94, 11, 12]
       refine sm 85 hE k e5 ?_
       intro a105 hE e85 kp
       apply Z03 86 hE k rfl rfl rfl rfl
       case h =>
        simp [go_sem, ↓IntWalk.iteOmega, ev e85]
        with_reducible rfl
       intro a106 hE e86 kp
       refine sm 87 hE k e6 ?_
       intro a107 hE e87 kp
       replace e86 := kt kp e86
       apply Z03 88 hE k rfl rfl rfl rfl
       case h =>
        simp [go_sem, ↓IntWalk.iteOmega, ev (hE.g e9)]
        with_reducible rfl
       intro a108 hE e88 kp
       replace e86 := kt kp e86; replace e87 := kt kp e87
       apply Z03 89 hE k rfl rfl rfl rfl
       case h =>
        have q0 : w53.cell? ⟨xb, 1, none⟩ = some (.int .u64 ↑ky) := (OwnT.blk O 4 rfl).cell 1
        simp [go_sem, ↓IntWalk.iteOmega, ev e88, q0]
        with_reducible rfl
       intro a109 hE e89 kp
       replace e86 := kt kp e86; replace e87 := kt kp e87
       apply Z03 90 hE k rfl rfl rfl rfl
       case h =>
        simp [go_sem, ↓IntWalk.iteOmega, ev (hE.g e9)]
        with_reducible rfl
       intro a110 hE e90 kp
       replace e86 := kt kp e86; replace e87 := kt kp e87; replace e89 := kt kp e89
       apply Z03 91 hE k rfl rfl rfl rfl
       case h =>
        have q0 : w53.cell? ⟨xb, 2, none⟩ = some (.int .u64 ↑vl) := (OwnT.blk O 4 rfl).cell 2
        simp [go_sem, ↓IntWalk.iteOmega, ev e90, q0]
        with_reducible rfl
       intro a111 hE e91 kp
       replace e86 := kt kp e86; replace e87 := kt kp e87; replace e89 := kt kp e89
       apply Z09 92 hE k rfl (by rfl) (by rfl) rfl
       case h =>
        simp [go_sem, ↓IntWalk.iteOmega, ev e86, ev e87, ev e89, ev e91]
        with_reducible exact ⟨rfl, rfl⟩
       case hc => exact lPut (R := _ :: _ :: []) (ky := ky) (vl := vl) _ O hT.norm (by split <;> omega) (by omega) hky hvl
       clear O
       rintro e w113 ⟨N2, r2, er, B2, cap2, vs2, rfl, O, hPL⟩
       refine ⟨_, rfl, ?_⟩
       intro a112 hE e92 kp
       refine sd 84 hE k (Z04 rfl e92) ?_
       intro a114 hE e84 kp
       apply Z03 93 hE k rfl rfl rfl rfl
       case h =>
        simp [go_sem, ↓IntWalk.iteOmega, ev e84]
        with_reducible rfl
       intro a115 hE e93 kp
       replace e84 := kt kp e84
       apply Z03 94 hE k rfl rfl rfl rfl
       case h =>
        simp [go_sem, ↓IntWalk.iteOmega, ev e84]
        with_reducible rfl
       intro a116 hE e94 kp
       replace e93 := kt kp e93
       refine sd 11 hE k (Z00 rfl e93) ?_
       intro a117 hE e11 kp
       replace e94 := kt kp e94
       refine sd 12 hE k (Z00 rfl e94) ?_
       intro a118 hE e12 kp
       replace e11 := kt kp e11
       refine wpList_nil ?_
       replace e1 := hE.g e1; replace e5 := hE.g e5; replace e6 := hE.g e6; replace e7 := hE.g e7; replace e8 := hE.g e8; replace e9 := hE.g e9; replace e10 := hE.g e10
       replace k := k.env hE
       clear hE e56 e81
       refine Z01 ?_
       obtain ⟨⟨M, rfl, hM⟩, hPL⟩ := hPL
       rcases hPL with ⟨rfl, rfl, -⟩ | ⟨rfl, r, rfl, -, -, hT2⟩

       · skip
         refine wp_seq ?_
         refine wp_region_lit ?_
         have hE := Env.refl a118 [95, 96]
         refine sm 95 hE k e12 ?_
         intro a119 hE e95 kp
         refine sd 96 hE k (Z06 (Z0j rfl e95 rfl) (decide_eq_true (by omega))) ?_
         intro a120 hE e96 kp
         refine wpList_nil ?_
         replace e1 := hE.g e1; replace e5 := hE.g e5; replace e6 := hE.g e6; replace e7 := hE.g e7; replace e8 := hE.g e8; replace e9 := hE.g e9; replace e10 := hE.g e10; replace e11 := hE.g e11; replace e12 := hE.g e12
         replace k := k.env hE
         clear hE
         refine Z01 ?_
         refine Z0b e96 rfl ?_
         refine wp_seq ?_
         refine wp_region_lit ?_
         have hE := Env.refl a120 [97, 98, 99, 100, 101, 102]
         refine sm 97 hE k e12 ?_
         intro a121 hE e97 kp
         refine sd 98 hE k (Z06 (Z0j rfl e97 rfl) (decide_eq_false (by omega))) ?_
         intro a122 hE e98 kp
         refine sd 99 hE k (Z04 rfl e98) ?_
         intro a123 hE e99 kp
         apply Z02 100 hE k rfl rfl rfl rfl rfl e99
         case h =>
          exact Z04 rfl (hE.g e11)
         intro a124 hE e100 kp
         replace e99 := kt kp e99
         apply Z02 101 hE k rfl rfl rfl rfl rfl e99
         case h =>
          exact Z06 (Z0j rfl e100 rfl) (decide_eq_false (by omega))
         intro a125 hE e101 kp
         replace e99 := kt kp e99
         refine sd 102 hE k (Z05 rfl e99 e101) ?_
         intro a126 hE e102 kp
         refine wpList_nil ?_
         replace e1 := hE.g e1; replace e5 := hE.g e5; replace e6 := hE.g e6; replace e7 := hE.g e7; replace e8 := hE.g e8; replace e10 := hE.g e10
         replace k := k.env hE
         clear hE e9 e11 e12 e96
         refine Z01 ?_
         refine Z08 e102 rfl ?_
         refine wp_skip ?_
         refine Z0f ?_
         refine Z01 ?_
         exact ⟨k, e1, e5, e8, e10, rt, P, Bu, cu, N ++ M, B2, cap2, vs2, e6, e7, by rw [List.length_append]; omega, by rw [List.length_append]; omega, (hT.mono M).le (by omega), (OwnT.pickR (L := [_, _, _, _, _]) (R := []) O [0, 1, 2, 3] (by decide))⟩
       · skip
         refine wp_seq ?_
         refine wp_region_lit ?_
         have hE := Env.refl a118 [95, 96]
         refine sm 95 hE k e12 ?_
         intro a127 hE e95 kp
         refine sd 96 hE k (Z06 (Z0j rfl e95 rfl) (decide_eq_false (by omega))) ?_
         intro a128 hE e96 kp
         refine wpList_nil ?_
         replace e1 := hE.g e1; replace e5 := hE.g e5; replace e6 := hE.g e6; replace e7 := hE.g e7; replace e8 := hE.g e8; replace e9 := hE.g e9; replace e10 := hE.g e10; replace e11 := hE.g e11; replace e12 := hE.g e12
         replace k := k.env hE
         clear hE
         refine Z01 ?_
         refine Z08 e96 rfl ?_
         refine wp_seq ?_
         refine wp_region_lit ?_
         have hE := Env.refl a128 [103, 6]
         refine sm 103 hE k e11 ?_
         intro a129 hE e103 kp
         refine sd 6 hE k (Z00 rfl e103) ?_
         intro a130 hE e6 kp
         refine wpList_nil ?_
         replace e1 := hE.g e1; replace e5 := hE.g e5; replace e7 := hE.g e7; replace e8 := hE.g e8; replace e9 := hE.g e9; replace e10 := hE.g e10
         replace k := k.env hE
         clear hE e11 e12 e96
         refine Z01 ?_
         refine wp_region_lit ?_
         have hE := Env.refl a130 [104, 105, 106, 107, 108, 109, 110, 7]
         refine sd 104 hE k (Z04 rfl e7) ?_
         intro a131 hE e104 kp
         replace e7 := kt kp e7
         apply Z03 105 hE k rfl rfl rfl rfl
         case h =>
          simp [go_sem, ↓IntWalk.iteOmega, ev (hE.g e9)]
          with_reducible rfl
         intro a132 hE e105 kp
         replace e7 := kt kp e7; replace e104 := kt kp e104
         apply Z03 106 hE k rfl rfl rfl rfl
         case h =>
          have q0 : w113.cell? ⟨xb, 1, none⟩ = some (.int .u64 ↑ky) := (OwnT.blk O 4 rfl).cell 1
          simp [go_sem, ↓IntWalk.iteOmega, ev e105, q0]
          with_reducible rfl
         intro a133 hE e106 kp
         replace e7 := kt kp e7; replace e104 := kt kp e104
         apply Z03 107 hE k rfl rfl rfl rfl
         case h =>
          simp [go_sem, ↓IntWalk.iteOmega, ev (hE.g e9)]
          with_reducible rfl
         intro a134 hE e107 kp
         replace e7 := kt kp e7; replace e104 := kt kp e104; replace e106 := kt kp e106
         apply Z03 108 hE k rfl rfl rfl rfl
         case h =>
          have q0 : w113.cell? ⟨xb, 2, none⟩ = some (.int .u64 ↑vl) := (OwnT.blk O 4 rfl).cell 2
          simp [go_sem, ↓IntWalk.iteOmega, ev e107, q0]
          with_reducible rfl
         intro a135 hE e108 kp
         replace e7 := kt kp e7; replace e104 := kt kp e104; replace e106 := kt kp e106
         apply Z03 109 hE k rfl rfl rfl rfl
         case h =>
          simp [go_sem, ↓IntWalk.iteOmega, ev e106, ev e108]
          with_reducible rfl
         intro a136 hE e109 kp
         replace e7 := kt kp e7; replace e104 := kt kp e104
         apply Z09 110 hE k rfl (by rfl) (by rfl) rfl
         case h =>
          simp [go_sem, ↓IntWalk.iteOmega, ev e104, ev e109]
          with_reducible exact ⟨rfl, rfl⟩
         case hc => exact put8 (x := (ky, vl)) _ O (OwnT.get O 3 rfl) hup (by omega)
         clear O
         rintro e w138 ⟨Bu2, cu2, rfl, O⟩
         refine ⟨_, rfl, ?_⟩
         intro a137 hE e110 kp
         replace e7 := kt kp e7
         refine sd 7 hE k (Z00 rfl e110) ?_
         intro a139 hE e7 kp
         refine wpList_nil ?_
         replace e1 := hE.g e1; replace e5 := hE.g e5; replace e6 := hE.g e6; replace e8 := hE.g e8; replace e10 := hE.g e10
         replace k := k.env hE
         clear hE e9
         refine Z0f ?_
         refine Z01 ?_
         exact ⟨k, e1, e5, e8, e10, r, insP (ky, vl) P, Bu2, cu2, N ++ M, B2, cap2, vs2, e6, e7, by rw [List.length_append]; omega, by rw [List.length_append]; omega, hT2.next (by omega), (OwnT.pickR (L := [_, _, _, _, _, _]) (R := []) O [1, 2, 3, 0] (by decide))⟩
   · have hk1 : ¬ kd = 1 := fun h => hk12 (.inl h)
     have hk2 : ¬ kd = 2 := fun h => hk12 (.inr h)
     obtain ⟨has, hhas⟩ : ∃ b, (lookP ky P).isSome = b := ⟨_, rfl⟩
     by_cases hk3 : kd = 3
     · skip
       refine wp_seq ?_
       refine wp_region_lit ?_
       have hE := Env.refl a59 [55, 56]
       apply Z03 55 hE k rfl rfl rfl rfl
       case h =>
        simp [go_sem, ↓IntWalk.iteOmega, ev (hE.g e9)]
        with_reducible rfl
       intro a140 hE e55 kp
       apply Z03 56 hE k rfl rfl rfl rfl
       case h =>
        have q0 : w53.cell? ⟨xb, 0, none⟩ = some (.int .i64 kd) := (OwnT.blk O 4 rfl).cell 0
        simp [go_sem, ↓IntWalk.iteOmega, ev e55, q0]
        with_reducible rfl
       intro a141 hE e56 kp
       refine wpList_nil ?_
       replace e1 := hE.g e1; replace e5 := hE.g e5; replace e6 := hE.g e6; replace e7 := hE.g e7; replace e8 := hE.g e8; replace e9 := hE.g e9; replace e10 := hE.g e10
       replace k := k.env hE
       clear hE
       refine Z01 ?_
       refine wp_block ?_
       refine wp_seq ?_
       refine wp_seq ?_
       refine wp_region_lit ?_
       have hE := Env.refl a141 [82, 81]
       refine sd 82 hE k (Z06 (Z0k rfl (hE.g e56) rfl) (decide_eq_false hk1)) ?_
       intro a142 hE e82 kp
       refine sd 81 hE k (Z00 rfl e82) ?_
       intro a143 hE e81 kp
       refine wpList_nil ?_
       replace e1 := hE.g e1; replace e5 := hE.g e5; replace e6 := hE.g e6; replace e7 := hE.g e7; replace e8 := hE.g e8; replace e9 := hE.g e9; replace e10 := hE.g e10; replace e56 := hE.g e56
       replace k := k.env hE
       clear hE
       refine Z01 ?_
       refine Z08 e81 rfl ?_
       refine wp_region_lit ?_
       have hE := Env.refl a143 [83, 81]
       refine sd 83 hE k (Z06 (Z0k rfl (hE.g e56) rfl) (decide_eq_false hk2)) ?_
       intro a144 hE e83 kp
       refine sd 81 hE k (Z00 rfl e83) ?_
       intro a145 hE e81 kp
       refine wpList_nil ?_
       replace e1 := hE.g e1; replace e5 := hE.g e5; replace e6 := hE.g e6; replace e7 := hE.g e7; replace e8 := hE.g e8; replace e9 := hE.g e9; replace e10 := hE.g e10; replace e56 := hE.g e56
       replace k := k.env hE
       clear hE
       refine Z01 ?_
       refine Z08 e81 rfl ?_
       refine wp_seq ?_
       refine wp_region_lit ?_
       have hE := Env.refl a145 [112, 111]
       refine sd 112 hE k (Z06 (Z0k rfl (hE.g e56) rfl) (decide_eq_true hk3)) ?_
       intro a146 hE e112 kp
       refine sd 111 hE k (Z00 rfl e112) ?_
       intro a147 hE e111 kp
       refine wpList_nil ?_
       replace e1 := hE.g e1; replace e5 := hE.g e5; replace e6 := hE.g e6; replace e7 := hE.g e7; replace e8 := hE.g e8; replace e9 := hE.g e9; replace e10 := hE.g e10; replace e56 := hE.g e56
       replace k := k.env hE
       clear hE e81
       refine Z01 ?_
       refine Z0b e111 rfl ?_
       refine wp_seq ?_
       refine wp_region_lit ?_
       have hE := Env.refl a147 [114, 115, 116, 117, 118, 119, 113, 120, 121, 122, 13, 14, 15]
       refine sm 114 hE k e5 ?_
       intro a148 hE e114 kp
       apply Z03 115 hE k rfl rfl rfl rfl
       case h =>
        simp [go_sem, ↓IntWalk.iteOmega, ev e114]
        with_reducible rfl
       intro a149 hE e115 kp
       refine sm 116 hE k e6 ?_
       intro a150 hE e116 kp
       replace e115 := kt kp e115
       apply Z03 117 hE k rfl rfl rfl rfl
       case h =>
        simp [go_sem, ↓IntWalk.iteOmega, ev (hE.g e9)]
        with_reducible rfl
       intro a151 hE e117 kp
       replace e115 := kt kp e115; replace e116 := kt kp e116
       apply Z03 118 hE k rfl rfl rfl rfl
       case h =>
        have q0 : w53.cell? ⟨xb, 1, none⟩ = some (.int .u64 ↑ky) := (OwnT.blk O 4 rfl).cell 1
        simp [go_sem, ↓IntWalk.iteOmega, ev e117, q0]
        with_reducible rfl
       intro a152 hE e118 kp
       replace e115 := kt kp e115; replace e116 := kt kp e116
       apply Z09 119 hE k rfl (by rfl) (by rfl) rfl
       case h =>
        simp [go_sem, ↓IntWalk.iteOmega, ev e115, ev e116, ev e118]
        with_reducible exact ⟨rfl, rfl⟩
       case hc => exact lDrop (R := _ :: _ :: []) (ky := ky) _ O hT (by omega)
       clear O
       rintro e w154 ⟨N2, r2, ok, er, B2, cap2, vs2, rfl, O, hDL⟩
       refine ⟨_, rfl, ?_⟩
       intro a153 hE e119 kp
       refine sd 113 hE k (Z04 rfl e119) ?_
       intro a155 hE e113 kp
       apply Z03 120 hE k rfl rfl rfl rfl
       case h =>
        simp [go_sem, ↓IntWalk.iteOmega, ev e113]
        with_reducible rfl
       intro a156 hE e120 kp
       replace e113 := kt kp e113
       apply Z03 121 hE k rfl rfl rfl rfl
       case h =>
        simp [go_sem, ↓IntWalk.iteOmega, ev e113]
        with_reducible rfl
       intro a157 hE e121 kp
       replace e113 := kt kp e113; replace e120 := kt kp e120
       apply Z03 122 hE k rfl rfl rfl rfl
       case h =>
        simp [go_sem, ↓IntWalk.iteOmega, ev e113]
        with_reducible rfl
       intro a158 hE e122 kp
       replace e120 := kt kp e120; replace e121 := kt kp e121
       refine sd 13 hE k (Z00 rfl e120) ?_
       intro a159 hE e13 kp
       replace e121 := kt kp e121; replace e122 := kt kp e122
       refine sd 14 hE k (Z00 rfl e121) ?_
       intro a160 hE e14 kp
       replace e122 := kt kp e122; replace e13 := kt kp e13
       refine sd 15 hE k (Z00 rfl e122) ?_
       intro a161 hE e15 kp
       replace e13 := kt kp e13; replace e14 := kt kp e14
       refine wpList_nil ?_
       replace e1 := hE.g e1; replace e5 := hE.g e5; replace e6 := hE.g e6; replace e7 := hE.g e7; replace e8 := hE.g e8; replace e9 := hE.g e9; replace e10 := hE.g e10
       replace k := k.env hE
       clear hE e56 e111
       refine Z01 (wp_seq ?_)
       refine wp_region_lit ?_
       have hE := Env.refl a161 [124, 125, 126, 127, 123, 128, 129, 16, 17]
       refine sm 124 hE k e7 ?_
       intro a162 hE e124 kp
       apply Z03 125 hE k rfl rfl rfl rfl
       case h =>
        simp [go_sem, ↓IntWalk.iteOmega, ev (hE.g e9)]
        with_reducible rfl
       intro a163 hE e125 kp
       replace e124 := kt kp e124
       apply Z03 126 hE k rfl rfl rfl rfl
       case h =>
        have q0 : w154.cell? ⟨xb, 1, none⟩ = some (.int .u64 ↑ky) := (OwnT.blk O 4 rfl).cell 1
        simp [go_sem, ↓IntWalk.iteOmega, ev e125, q0]
        with_reducible rfl
       intro a164 hE e126 kp
       replace e124 := kt kp e124
       apply Z09 127 hE k rfl (by rfl) (by rfl) rfl
       case h =>
        simp [go_sem, ↓IntWalk.iteOmega, ev e124, ev e126]
        with_reducible exact ⟨rfl, rfl⟩
       case hc => exact drop8 _ O (OwnT.get O 3 rfl) hhas (by omega)
       clear O
       rintro e w166 ⟨Bd, cd, rfl, O⟩
       refine ⟨_, rfl, ?_⟩
       intro a165 hE e127 kp
       refine sd 123 hE k (Z04 rfl e127) ?_
       intro a167 hE e123 kp
       apply Z03 128 hE k rfl rfl rfl rfl
       case h =>
        simp [go_sem, ↓IntWalk.iteOmega, ev e123]
        with_reducible rfl
       intro a168 hE e128 kp
       replace e123 := kt kp e123
       apply Z03 129 hE k rfl rfl rfl rfl
       case h =>
        simp [go_sem, ↓IntWalk.iteOmega, ev e123]
        with_reducible rfl
       intro a169 hE e129 kp
       replace e128 := kt kp e128
       refine sd 16 hE k (Z00 rfl e128) ?_
       intro a170 hE e16 kp
       replace e129 := kt kp e129
       refine sd 17 hE k (Z00 rfl e129) ?_
       intro a171 hE e17 kp
       replace e16 := kt kp e16
       refine wpList_nil ?_
       replace e1 := hE.g e1; replace e5 := hE.g e5; replace e6 := hE.g e6; replace e7 := hE.g e7; replace e8 := hE.g e8; replace e10 := hE.g e10; replace e13 := hE.g e13; replace e14 := hE.g e14; replace e15 := hE.g e15
       replace k := k.env hE
       clear hE e9
       refine Z01 ?_
       obtain ⟨⟨M, rfl, hM⟩, hDL⟩ := hDL
       have hX : (er = 6 ∧ r2 = 0 ∧ ok = false) ∨ (er = 0 ∧ ok = has ∧ ∃ r : Nat, r2 = r ∧ Tre (N ++ M) r (8 + i + 1) (delP ky P) ∧ (ok = false → r = rt)) := by
        rcases hDL with ⟨h1, h2, h3, h4, h5⟩ | ⟨h1, h2, h3, _⟩ | ⟨h1, h2, h3, r, h4, h5⟩
        · exact .inr ⟨h1, by rw [h2, ← hhas, h5]; rfl, rt, h3, by rw [del_none h5]; exact (hT.mono M).le (by omega), fun _ => rfl⟩
        · exact .inl ⟨h1, h3, h2⟩
        · exact .inr ⟨h1, by rw [h2, ← hhas, h3], r, h4, h5.le (by omega), fun h => by rw [h2] at h; cases h⟩
       clear hDL
       rcases hX with ⟨rfl, rfl, rfl⟩ | ⟨rfl, rfl, r, rfl, hT2, hr2⟩

       · skip
         refine wp_seq ?_
         refine wp_region_lit ?_
         have hE := Env.refl a171 [130, 131]
         refine sm 130 hE k e15 ?_
         intro a172 hE e130 kp
         refine sd 131 hE k (Z06 (Z0j rfl e130 rfl) (decide_eq_true (by omega))) ?_
         intro a173 hE e131 kp
         refine wpList_nil ?_
         replace e1 := hE.g e1; replace e5 := hE.g e5; replace e6 := hE.g e6; replace e7 := hE.g e7; replace e8 := hE.g e8; replace e10 := hE.g e10; replace e13 := hE.g e13; replace e14 := hE.g e14; replace e15 := hE.g e15; replace e16 := hE.g e16; replace e17 := hE.g e17
         replace k := k.env hE
         clear hE
         refine Z01 ?_
         refine Z0b e131 rfl ?_
         refine wp_seq ?_
         refine wp_region_lit ?_
         have hE := Env.refl a173 [132, 133, 134, 135, 136, 137, 138, 139, 140]
         refine sm 132 hE k e15 ?_
         intro a174 hE e132 kp
         refine sd 133 hE k (Z06 (Z0j rfl e132 rfl) (decide_eq_false (by omega))) ?_
         intro a175 hE e133 kp
         refine sd 134 hE k (Z04 rfl e133) ?_
         intro a176 hE e134 kp
         apply Z02 135 hE k rfl rfl rfl rfl rfl e134
         case h =>
          exact Z04 rfl (hE.g e13)
         intro a177 hE e135 kp
         replace e134 := kt kp e134
         apply Z02 136 hE k rfl rfl rfl rfl rfl e134
         case h =>
          exact Z06 (Z0j rfl e135 rfl) (decide_eq_false (by omega))
         intro a178 hE e136 kp
         replace e134 := kt kp e134
         refine sd 137 hE k (Z05 rfl e134 e136) ?_
         intro a179 hE e137 kp
         refine sd 138 hE k (Z04 rfl e137) ?_
         intro a180 hE e138 kp
         apply Z02 139 hE k rfl rfl rfl rfl rfl e138
         case h =>
          exact Z04 rfl (hE.g e14)
         intro a181 hE e139 kp
         replace e138 := kt kp e138
         refine sd 140 hE k (Z05 rfl e138 e139) ?_
         intro a182 hE e140 kp
         refine wpList_nil ?_
         replace e1 := hE.g e1; replace e5 := hE.g e5; replace e6 := hE.g e6; replace e7 := hE.g e7; replace e8 := hE.g e8; replace e10 := hE.g e10
         replace k := k.env hE
         clear hE e13 e14 e15 e16 e17 e131
         refine Z01 ?_
         refine Z08 e140 rfl ?_
         refine wp_skip ?_
         refine Z0f ?_
         refine Z01 ?_
         exact ⟨k, e1, e5, e8, e10, rt, P, Bu, cu, N ++ M, B2, cap2, vs2, e6, e7, by rw [List.length_append]; omega, by rw [List.length_append]; omega, (hT.mono M).le (by omega), (OwnT.pickR (L := [_, _, _, _, _, _]) (R := []) O [1, 2, 3, 4] (by decide))⟩
       · skip
         cases ok with
         | true =>
          refine wp_seq ?_
          refine wp_region_lit ?_
          have hE := Env.refl a171 [130, 131]
          refine sm 130 hE k e15 ?_
          intro a183 hE e130 kp
          refine sd 131 hE k (Z06 (Z0j rfl e130 rfl) (decide_eq_false (by omega))) ?_
          intro a184 hE e131 kp
          refine wpList_nil ?_
          replace e1 := hE.g e1; replace e5 := hE.g e5; replace e6 := hE.g e6; replace e7 := hE.g e7; replace e8 := hE.g e8; replace e10 := hE.g e10; replace e13 := hE.g e13; replace e14 := hE.g e14; replace e15 := hE.g e15; replace e16 := hE.g e16; replace e17 := hE.g e17
          replace k := k.env hE
          clear hE
          refine Z01 ?_
          refine Z08 e131 rfl ?_
          refine wp_seq ?_
          refine wp_seq ?_
          refine wp_region_lit ?_
          have hE := Env.refl a184 [141, 142, 143, 144, 145, 146, 147, 148, 149, 150, 151, 152]
          refine sm 141 hE k e14 ?_
          intro a185 hE e141 kp
          refine sm 142 hE k e17 ?_
          intro a186 hE e142 kp
          replace e141 := kt kp e141
          refine sd 143 hE k (Z66 (c := false) rfl e141 e142 (by simp)) ?_
          intro a187 hE e143 kp
          refine sd 144 hE k (Z04 rfl e143) ?_
          intro a188 hE e144 kp
          apply Z02 145 hE k rfl rfl rfl rfl rfl e144
          case h =>
           exact Z04 rfl (hE.g e14)
          intro a189 hE e145 kp
          replace e144 := kt kp e144
          apply Z02 146 hE k rfl rfl rfl rfl rfl e144
          case h =>
           exact Z1a rfl e145
          intro a190 hE e146 kp
          replace e144 := kt kp e144
          apply Z02 147 hE k rfl rfl rfl rfl rfl e144
          case h =>
           exact Z04 rfl e146
          intro a191 hE e147 kp
          replace e144 := kt kp e144
          refine Z07 148 hE k rfl (by rfl) (by rfl) rfl rfl (.inl e147) ?_
          intro a192 hE e148 kp
          replace e144 := kt kp e144; replace e147 := kt kp e147
          refine Z07 149 hE k rfl (by rfl) (by rfl) rfl rfl (.inl e147) ?_
          intro a193 hE e149 kp
          replace e144 := kt kp e144; replace e147 := kt kp e147; replace e148 := kt kp e148
          refine Z07 150 hE k rfl (by rfl) (by rfl) rfl rfl (.inl e147) ?_
          intro a194 hE e150 kp
          replace e144 := kt kp e144; replace e147 := kt kp e147
          apply Z02 151 hE k rfl rfl rfl rfl rfl e144
          case h =>
           exact Z05 rfl e147 rfl
          intro a195 hE e151 kp
          replace e144 := kt kp e144
          refine sd 152 hE k (Z05 rfl e144 e151) ?_
          intro a196 hE e152 kp
          refine wpList_nil ?_
          replace e1 := hE.g e1; replace e5 := hE.g e5; replace e8 := hE.g e8; replace e10 := hE.g e10; replace e13 := hE.g e13; replace e16 := hE.g e16
          replace k := k.env hE
          clear hE e6 e7 e14 e15 e17 e131
          refine Z01 ?_
          refine Z08 e152 rfl ?_
          refine wp_skip ?_
          refine Z01 (wp_seq ?_)
          refine wp_region_lit ?_
          have hE := Env.refl a196 [153, 6]
          refine sm 153 hE k e13 ?_
          intro a197 hE e153 kp
          refine sd 6 hE k (Z00 rfl e153) ?_
          intro a198 hE e6 kp
          refine wpList_nil ?_
          replace e1 := hE.g e1; replace e5 := hE.g e5; replace e8 := hE.g e8; replace e10 := hE.g e10; replace e16 := hE.g e16
          replace k := k.env hE
          clear hE e13 e152
          refine Z01 ?_
          refine wp_region_lit ?_
          have hE := Env.refl a198 [154, 7]
          refine sm 154 hE k e16 ?_
          intro a199 hE e154 kp
          refine sd 7 hE k (Z00 rfl e154) ?_
          intro a200 hE e7 kp
          refine wpList_nil ?_
          replace e1 := hE.g e1; replace e5 := hE.g e5; replace e6 := hE.g e6; replace e8 := hE.g e8; replace e10 := hE.g e10
          replace k := k.env hE
          clear hE e16
          refine Z0f ?_
          refine Z01 ?_
          exact ⟨k, e1, e5, e8, e10, r, delP ky P, Bd, cd, N ++ M, B2, cap2, vs2, e6, e7, by rw [List.length_append]; omega, by rw [List.length_append]; omega, hT2, (OwnT.pickR (L := [_, _, _, _, _, _]) (R := []) O [1, 2, 3, 0] (by decide))⟩
         | false =>
          obtain rfl := hr2 rfl
          refine wp_seq ?_
          refine wp_region_lit ?_
          have hE := Env.refl a171 [130, 131]
          refine sm 130 hE k e15 ?_
          intro a201 hE e130 kp
          refine sd 131 hE k (Z06 (Z0j rfl e130 rfl) (decide_eq_false (by omega))) ?_
          intro a202 hE e131 kp
          refine wpList_nil ?_
          replace e1 := hE.g e1; replace e5 := hE.g e5; replace e6 := hE.g e6; replace e7 := hE.g e7; replace e8 := hE.g e8; replace e10 := hE.g e10; replace e13 := hE.g e13; replace e14 := hE.g e14; replace e15 := hE.g e15; replace e16 := hE.g e16; replace e17 := hE.g e17
          replace k := k.env hE
          clear hE
          refine Z01 ?_
          refine Z08 e131 rfl ?_
          refine wp_seq ?_
          refine wp_seq ?_
          refine wp_region_lit ?_
          have hE := Env.refl a202 [141, 142, 143, 144, 145, 146, 147, 148, 149, 150, 151, 152]
          refine sm 141 hE k e14 ?_
          intro a203 hE e141 kp
          refine sm 142 hE k e17 ?_
          intro a204 hE e142 kp
          replace e141 := kt kp e141
          refine sd 143 hE k (Z66 (c := false) rfl e141 e142 (by simp)) ?_
          intro a205 hE e143 kp
          refine sd 144 hE k (Z04 rfl e143) ?_
          intro a206 hE e144 kp
          apply Z02 145 hE k rfl rfl rfl rfl rfl e144
          case h =>
           exact Z04 rfl (hE.g e14)
          intro a207 hE e145 kp
          replace e144 := kt kp e144
          apply Z02 146 hE k rfl rfl rfl rfl rfl e144
          case h =>
           exact Z1a rfl e145
          intro a208 hE e146 kp
          replace e144 := kt kp e144
          apply Z02 147 hE k rfl rfl rfl rfl rfl e144
          case h =>
           exact Z04 rfl e146
          intro a209 hE e147 kp
          replace e144 := kt kp e144
          apply Z02 148 hE k rfl rfl rfl rfl rfl e147
          case h =>
           exact Z04 rfl (hE.g e13)
          intro a210 hE e148 kp
          replace e144 := kt kp e144; replace e147 := kt kp e147
          apply Z02 149 hE k rfl rfl rfl rfl rfl e147
          case h =>
           exact Z04 rfl (hE.g e6)
          intro a211 hE e149 kp
          replace e144 := kt kp e144; replace e147 := kt kp e147; replace e148 := kt kp e148
          apply Z02 150 hE k rfl rfl rfl rfl rfl e147
          case h =>
           exact Z06 (Z0j rfl e148 e149) (decide_eq_false (fun h => h rfl))
          intro a212 hE e150 kp
          replace e144 := kt kp e144; replace e147 := kt kp e147
          apply Z02 151 hE k rfl rfl rfl rfl rfl e144
          case h =>
           exact Z0a rfl e147 e150
          intro a213 hE e151 kp
          replace e144 := kt kp e144
          refine sd 152 hE k (Z05 rfl e144 e151) ?_
          intro a214 hE e152 kp
          refine wpList_nil ?_
          replace e1 := hE.g e1; replace e5 := hE.g e5; replace e8 := hE.g e8; replace e10 := hE.g e10; replace e13 := hE.g e13; replace e16 := hE.g e16
          replace k := k.env hE
          clear hE e6 e7 e14 e15 e17 e131
          refine Z01 ?_
          refine Z08 e152 rfl ?_
          refine wp_skip ?_
          refine Z01 (wp_seq ?_)
          refine wp_region_lit ?_
          have hE := Env.refl a214 [153, 6]
          refine sm 153 hE k e13 ?_
          intro a215 hE e153 kp
          refine sd 6 hE k (Z00 rfl e153) ?_
          intro a216 hE e6 kp
          refine wpList_nil ?_
          replace e1 := hE.g e1; replace e5 := hE.g e5; replace e8 := hE.g e8; replace e10 := hE.g e10; replace e16 := hE.g e16
          replace k := k.env hE
          clear hE e13 e152
          refine Z01 ?_
          refine wp_region_lit ?_
          have hE := Env.refl a216 [154, 7]
          refine sm 154 hE k e16 ?_
          intro a217 hE e154 kp
          refine sd 7 hE k (Z00 rfl e154) ?_
          intro a218 hE e7 kp
          refine wpList_nil ?_
          replace e1 := hE.g e1; replace e5 := hE.g e5; replace e6 := hE.g e6; replace e8 := hE.g e8; replace e10 := hE.g e10
          replace k := k.env hE
          clear hE e16
          refine Z0f ?_
          refine Z01 ?_
          exact ⟨k, e1, e5, e8, e10, _, delP ky P, Bd, cd, N ++ M, B2, cap2, vs2, e6, e7, by rw [List.length_append]; omega, by rw [List.length_append]; omega, hT2, (OwnT.pickR (L := [_, _, _, _, _, _]) (R := []) O [1, 2, 3, 0] (by decide))⟩
     · skip
       by_cases hk4 : kd = 4
       · obtain ⟨z, hz⟩ : ∃ b, (lookP ky P).getD 0 = b := ⟨_, rfl⟩
         obtain ⟨Q, hQ⟩ : ∃ Q, cutP ky ky P = Q := ⟨_, rfl⟩
         refine wp_seq ?_
         refine wp_region_lit ?_
         have hE := Env.refl a59 [55, 56]
         apply Z03 55 hE k rfl rfl rfl rfl
         case h =>
          simp [go_sem, ↓IntWalk.iteOmega, ev (hE.g e9)]
          with_reducible rfl
         intro a219 hE e55 kp
         apply Z03 56 hE k rfl rfl rfl rfl
         case h =>
          have q0 : w53.cell? ⟨xb, 0, none⟩ = some (.int .i64 kd) := (OwnT.blk O 4 rfl).cell 0
          simp [go_sem, ↓IntWalk.iteOmega, ev e55, q0]
          with_reducible rfl
         intro a220 hE e56 kp
         refine wpList_nil ?_
         replace e1 := hE.g e1; replace e5 := hE.g e5; replace e6 := hE.g e6; replace e7 := hE.g e7; replace e8 := hE.g e8; replace e9 := hE.g e9; replace e10 := hE.g e10
         replace k := k.env hE
         clear hE
         refine Z01 ?_
         refine wp_block ?_
         refine wp_seq ?_
         refine wp_seq ?_
         refine wp_region_lit ?_
         have hE := Env.refl a220 [82, 81]
         refine sd 82 hE k (Z06 (Z0k rfl (hE.g e56) rfl) (decide_eq_false hk1)) ?_
         intro a221 hE e82 kp
         refine sd 81 hE k (Z00 rfl e82) ?_
         intro a222 hE e81 kp
         refine wpList_nil ?_
         replace e1 := hE.g e1; replace e5 := hE.g e5; replace e6 := hE.g e6; replace e7 := hE.g e7; replace e8 := hE.g e8; replace e9 := hE.g e9; replace e10 := hE.g e10; replace e56 := hE.g e56
         replace k := k.env hE
         clear hE
         refine Z01 ?_
         refine Z08 e81 rfl ?_
         refine wp_region_lit ?_
         have hE := Env.refl a222 [83, 81]
         refine sd 83 hE k (Z06 (Z0k rfl (hE.g e56) rfl) (decide_eq_false hk2)) ?_
         intro a223 hE e83 kp
         refine sd 81 hE k (Z00 rfl e83) ?_
         intro a224 hE e81 kp
         refine wpList_nil ?_
         replace e1 := hE.g e1; replace e5 := hE.g e5; replace e6 := hE.g e6; replace e7 := hE.g e7; replace e8 := hE.g e8; replace e9 := hE.g e9; replace e10 := hE.g e10; replace e56 := hE.g e56
         replace k := k.env hE
         clear hE
         refine Z01 ?_
         refine Z08 e81 rfl ?_
         refine wp_seq ?_
         refine wp_region_lit ?_
         have hE := Env.refl a224 [112, 111]
         refine sd 112 hE k (Z06 (Z0k rfl (hE.g e56) rfl) (decide_eq_false hk3)) ?_
         intro a225 hE e112 kp
         refine sd 111 hE k (Z00 rfl e112) ?_
         intro a226 hE e111 kp
         refine wpList_nil ?_
         replace e1 := hE.g e1; replace e5 := hE.g e5; replace e6 := hE.g e6; replace e7 := hE.g e7; replace e8 := hE.g e8; replace e9 := hE.g e9; replace e10 := hE.g e10; replace e56 := hE.g e56
         replace k := k.env hE
         clear hE e81
         refine Z01 ?_
         refine Z08 e111 rfl ?_
         refine wp_seq ?_
         refine wp_region_lit ?_
         have hE := Env.refl a226 [156, 155]
         refine sd 156 hE k (Z06 (Z0k rfl (hE.g e56) rfl) (decide_eq_true hk4)) ?_
         intro a227 hE e156 kp
         refine sd 155 hE k (Z00 rfl e156) ?_
         intro a228 hE e155 kp
         refine wpList_nil ?_
         replace e1 := hE.g e1; replace e5 := hE.g e5; replace e6 := hE.g e6; replace e7 := hE.g e7; replace e8 := hE.g e8; replace e9 := hE.g e9; replace e10 := hE.g e10
         replace k := k.env hE
         clear hE e56 e111
         refine Z01 ?_
         refine Z0b e155 rfl ?_
         refine wp_seq ?_
         refine wp_region_lit ?_
         have hE := Env.refl a228 [158, 159, 160, 161, 162, 163, 157, 164, 165, 166, 18, 19, 20]
         refine sm 158 hE k e5 ?_
         intro a229 hE e158 kp
         apply Z03 159 hE k rfl rfl rfl rfl
         case h =>
          simp [go_sem, ↓IntWalk.iteOmega, ev e158]
          with_reducible rfl
         intro a230 hE e159 kp
         refine sm 160 hE k e6 ?_
         intro a231 hE e160 kp
         replace e159 := kt kp e159
         apply Z03 161 hE k rfl rfl rfl rfl
         case h =>
          simp [go_sem, ↓IntWalk.iteOmega, ev (hE.g e9)]
          with_reducible rfl
         intro a232 hE e161 kp
         replace e159 := kt kp e159; replace e160 := kt kp e160
         apply Z03 162 hE k rfl rfl rfl rfl
         case h =>
          have q0 : w53.cell? ⟨xb, 1, none⟩ = some (.int .u64 ↑ky) := (OwnT.blk O 4 rfl).cell 1
          simp [go_sem, ↓IntWalk.iteOmega, ev e161, q0]
          with_reducible rfl
         intro a233 hE e162 kp
         replace e159 := kt kp e159; replace e160 := kt kp e160
         apply Z09 163 hE k rfl (by rfl) (by rfl) rfl
         case h =>
          simp [go_sem, ↓IntWalk.iteOmega, ev e159, ev e160, ev e162]
          with_reducible exact ⟨rfl, rfl⟩
         case hc => exact lGet_is (R := _ :: _ :: []) (ky := ky) hz hhas _ O hT (by omega)
         clear O
         rintro e w235 ⟨rfl, O⟩
         refine ⟨_, rfl, ?_⟩
         intro a234 hE e163 kp
         refine sd 157 hE k (Z04 rfl e163) ?_
         intro a236 hE e157 kp
         apply Z03 164 hE k rfl rfl rfl rfl
         case h =>
          simp [go_sem, ↓IntWalk.iteOmega, ev e157]
          with_reducible rfl
         intro a237 hE e164 kp
         replace e157 := kt kp e157
         apply Z03 165 hE k rfl rfl rfl rfl
         case h =>
          simp [go_sem, ↓IntWalk.iteOmega, ev e157]
          with_reducible rfl
         intro a238 hE e165 kp
         replace e157 := kt kp e157; replace e164 := kt kp e164
         apply Z03 166 hE k rfl rfl rfl rfl
         case h =>
          simp [go_sem, ↓IntWalk.iteOmega, ev e157]
          with_reducible rfl
         intro a239 hE e166 kp
         replace e164 := kt kp e164; replace e165 := kt kp e165
         refine sd 18 hE k (Z00 rfl e164) ?_
         intro a240 hE e18 kp
         replace e165 := kt kp e165; replace e166 := kt kp e166
         refine sd 19 hE k (Z00 rfl e165) ?_
         intro a241 hE e19 kp
         replace e166 := kt kp e166; replace e18 := kt kp e18
         refine sd 20 hE k (Z00 rfl e166) ?_
         intro a242 hE e20 kp
         replace e18 := kt kp e18; replace e19 := kt kp e19
         refine wpList_nil ?_
         replace e1 := hE.g e1; replace e5 := hE.g e5; replace e6 := hE.g e6; replace e7 := hE.g e7; replace e8 := hE.g e8; replace e9 := hE.g e9; replace e10 := hE.g e10
         replace k := k.env hE
         clear hE e155
         refine Z01 (wp_seq ?_)
         refine wp_region_lit ?_
         have hE := Env.refl a242 [167, 168, 169, 170, 171, 172, 21]
         refine sm 167 hE k e7 ?_
         intro a243 hE e167 kp
         apply Z03 168 hE k rfl rfl rfl rfl
         case h =>
          simp [go_sem, ↓IntWalk.iteOmega, ev (hE.g e9)]
          with_reducible rfl
         intro a244 hE e168 kp
         replace e167 := kt kp e167
         apply Z03 169 hE k rfl rfl rfl rfl
         case h =>
          have q0 : w235.cell? ⟨xb, 1, none⟩ = some (.int .u64 ↑ky) := (OwnT.blk O 4 rfl).cell 1
          simp [go_sem, ↓IntWalk.iteOmega, ev e168, q0]
          with_reducible rfl
         intro a245 hE e169 kp
         replace e167 := kt kp e167
         apply Z03 170 hE k rfl rfl rfl rfl
         case h =>
          simp [go_sem, ↓IntWalk.iteOmega, ev (hE.g e9)]
          with_reducible rfl
         intro a246 hE e170 kp
         replace e167 := kt kp e167; replace e169 := kt kp e169
         apply Z03 171 hE k rfl rfl rfl rfl
         case h =>
          have q0 : w235.cell? ⟨xb, 1, none⟩ = some (.int .u64 ↑ky) := (OwnT.blk O 4 rfl).cell 1
          simp [go_sem, ↓IntWalk.iteOmega, ev e170, q0]
          with_reducible rfl
         intro a247 hE e171 kp
         replace e167 := kt kp e167; replace e169 := kt kp e169
         apply Z09 172 hE k rfl (by rfl) (by rfl) rfl
         case h =>
          simp [go_sem, ↓IntWalk.iteOmega, ev e167, ev e169, ev e171]
          with_reducible exact ⟨rfl, rfl⟩
         case hc => exact range8 _ O (OwnT.get O 3 rfl) hQ (by omega)
         clear O
         rintro e w249 ⟨Bq, cq, rfl, O⟩
         refine ⟨_, rfl, ?_⟩
         intro a248 hE e172 kp
         refine sd 21 hE k (Z00 rfl e172) ?_
         intro a250 hE e21 kp
         refine wpList_nil ?_
         replace e1 := hE.g e1; replace e5 := hE.g e5; replace e6 := hE.g e6; replace e7 := hE.g e7; replace e8 := hE.g e8; replace e10 := hE.g e10; replace e18 := hE.g e18; replace e19 := hE.g e19; replace e20 := hE.g e20
         replace k := k.env hE
         clear hE e9
         refine Z01 ?_
         cases has with
         | true =>
          have hQ1 : Q = [(ky, z)] := by rw [← hQ]; exact cut_yes hup hhas hz
          have hQl : Q.length = 1 := by rw [hQ1]; rfl
          have hQI : (0 : Int) < (Q.length : Int) := by omega
          obtain ⟨gq, rfl, hrq⟩ := ps_some (OwnT.t0 O) (by omega)
          obtain ⟨_, _, e, -, q1⟩ := Z1q hrq (Below.refl _ _) (i := 0) (y := (ky, z)) (by rw [hQ1]; rfl)
          injection e with e
          injection e with e e'
          subst e e'
          clear hrq
          simp only [Nat.zero_add, Nat.zero_mul] at q1

          refine wp_seq ?_
          refine wp_region_lit ?_
          have hE := Env.refl a250 [173, 174, 175, 176, 177, 178, 179, 180, 181, 182, 183, 184, 185, 186, 187, 188, 189, 190, 191, 192, 193, 194, 195, 196, 197, 198, 199, 200]
          refine sm 173 hE k e20 ?_
          intro a251 hE e173 kp
          refine sd 174 hE k (Z06 (Z0j rfl e173 rfl) (decide_eq_false (by omega))) ?_
          intro a252 hE e174 kp
          refine sd 175 hE k (Z04 rfl e174) ?_
          intro a253 hE e175 kp
          apply Z02 176 hE k rfl rfl rfl rfl rfl e175
          case h =>
           exact Z04 rfl (hE.g e19)
          intro a254 hE e176 kp
          replace e175 := kt kp e175
          apply Z02 177 hE k rfl rfl rfl rfl rfl e175
          case h =>
           exact Z04 rfl (hE.g e21)
          intro a255 hE e177 kp
          replace e175 := kt kp e175; replace e176 := kt kp e176
          apply Z02 178 hE k rfl rfl rfl rfl rfl e175
          case h =>
           exact Z0d Try.underlying29 rfl e177
          intro a256 hE e178 kp
          replace e175 := kt kp e175; replace e176 := kt kp e176
          apply Z02 179 hE k rfl rfl rfl rfl rfl e175
          case h =>
           exact Z06 (Z0k rfl e178 rfl) (decide_eq_true (by omega))
          intro a257 hE e179 kp
          replace e175 := kt kp e175; replace e176 := kt kp e176
          apply Z02 180 hE k rfl rfl rfl rfl rfl e175
          case h =>
           exact Z66 (c := false) rfl e176 e179 (by simp)
          intro a258 hE e180 kp
          replace e175 := kt kp e175
          refine sd 181 hE k (Z05 rfl e175 e180) ?_
          intro a259 hE e181 kp
          refine sd 182 hE k (Z04 rfl e181) ?_
          intro a260 hE e182 kp
          apply Z02 183 hE k rfl rfl rfl rfl rfl e182
          case h =>
           exact Z04 rfl (hE.g e19)
          intro a261 hE e183 kp
          replace e182 := kt kp e182
          apply Z02 184 hE k rfl rfl rfl rfl rfl e182
          case h =>
           exact Z04 rfl e183
          intro a262 hE e184 kp
          replace e182 := kt kp e182
          apply Z02 185 hE k rfl rfl rfl rfl rfl e184
          case h =>
           exact Z04 rfl (hE.g e18)
          intro a263 hE e185 kp
          replace e182 := kt kp e182; replace e184 := kt kp e184
          apply Z02 186 hE k rfl rfl rfl rfl rfl e184
          case h =>
           exact Z04 rfl (hE.g e21)
          intro a264 hE e186 kp
          replace e182 := kt kp e182; replace e184 := kt kp e184; replace e185 := kt kp e185
          apply Z02 187 hE k rfl rfl rfl rfl rfl e184
          case h =>
           simp [go_sem, ↓IntWalk.iteOmega, ev e186]
           with_reducible rfl
          intro a265 hE e187 kp
          replace e182 := kt kp e182; replace e184 := kt kp e184; replace e185 := kt kp e185
          apply Z02 188 hE k rfl rfl rfl rfl rfl e184
          case h =>
           simp [go_sem, ↓IntWalk.iteOmega, ev e187]
           with_reducible rfl
          intro a266 hE e188 kp
          replace e182 := kt kp e182; replace e184 := kt kp e184; replace e185 := kt kp e185
          apply Z02 189 hE k rfl rfl rfl rfl rfl e184
          case h =>
           simp [go_sem, ↓IntWalk.iteOmega, ev e188, q1]
           with_reducible rfl
          intro a267 hE e189 kp
          replace e182 := kt kp e182; replace e184 := kt kp e184; replace e185 := kt kp e185
          apply Z02 190 hE k rfl rfl rfl rfl rfl e184
          case h =>
           exact Z06 (Z0j rfl e185 e189) (decide_eq_false (fun h => h rfl))
          intro a268 hE e190 kp
          replace e182 := kt kp e182; replace e184 := kt kp e184
          apply Z02 191 hE k rfl rfl rfl rfl rfl e182
          case h =>
           exact Z0a rfl e184 e190
          intro a269 hE e191 kp
          replace e182 := kt kp e182
          refine sd 192 hE k (Z05 rfl e182 e191) ?_
          intro a270 hE e192 kp
          refine sd 193 hE k (Z04 rfl e192) ?_
          intro a271 hE e193 kp
          apply Z02 194 hE k rfl rfl rfl rfl rfl e193
          case h =>
           exact Z04 rfl (hE.g e19)
          intro a272 hE e194 kp
          replace e193 := kt kp e193
          apply Z02 195 hE k rfl rfl rfl rfl rfl e193
          case h =>
           exact Z1a rfl e194
          intro a273 hE e195 kp
          replace e193 := kt kp e193
          apply Z02 196 hE k rfl rfl rfl rfl rfl e193
          case h =>
           exact Z04 rfl e195
          intro a274 hE e196 kp
          replace e193 := kt kp e193
          refine Z07 197 hE k rfl (by rfl) (by rfl) rfl rfl (.inl e196) ?_
          intro a275 hE e197 kp
          replace e193 := kt kp e193; replace e196 := kt kp e196
          refine Z07 198 hE k rfl (by rfl) (by rfl) rfl rfl (.inl e196) ?_
          intro a276 hE e198 kp
          replace e193 := kt kp e193; replace e196 := kt kp e196
          apply Z02 199 hE k rfl rfl rfl rfl rfl e193
          case h =>
           exact Z05 rfl e196 rfl
          intro a277 hE e199 kp
          replace e193 := kt kp e193
          refine sd 200 hE k (Z05 rfl e193 e199) ?_
          intro a278 hE e200 kp
          refine wpList_nil ?_
          replace e1 := hE.g e1; replace e5 := hE.g e5; replace e6 := hE.g e6; replace e7 := hE.g e7; replace e8 := hE.g e8; replace e10 := hE.g e10
          replace k := k.env hE
          clear hE e18 e19 e20 e21
          refine Z01 ?_
          refine Z08 e200 rfl ?_
          refine wp_skip ?_
          refine Z0f ?_
          refine Z01 ?_
          exact ⟨k, e1, e5, e8, e10, rt, P, Bu, cu, N, B, cap, vs, e6, e7, by omega, by omega, hT.le (by omega), (OwnT.pickR (L := [_, _, _, _, _, _]) (R := []) O [1, 2, 3, 4] (by decide))⟩
         | false =>
          obtain ⟨hQ0, hz0⟩ := cut_no hup hhas
          have hQl : Q.length = 0 := by rw [← hQ, hQ0]; rfl
          have hz1 : z = 0 := by rw [← hz, hz0]

          refine wp_seq ?_
          refine wp_region_lit ?_
          have hE := Env.refl a250 [173, 174, 175, 176, 177, 178, 179, 180, 181, 182, 183, 184, 185, 186, 187, 188, 189, 190, 191, 192, 193, 194, 195, 196, 197, 198, 199, 200]
          refine sm 173 hE k e20 ?_
          intro a279 hE e173 kp
          refine sd 174 hE k (Z06 (Z0j rfl e173 rfl) (decide_eq_false (by omega))) ?_
          intro a280 hE e174 kp
          refine sd 175 hE k (Z04 rfl e174) ?_
          intro a281 hE e175 kp
          apply Z02 176 hE k rfl rfl rfl rfl rfl e175
          case h =>
           exact Z04 rfl (hE.g e19)
          intro a282 hE e176 kp
          replace e175 := kt kp e175
          apply Z02 177 hE k rfl rfl rfl rfl rfl e175
          case h =>
           exact Z04 rfl (hE.g e21)
          intro a283 hE e177 kp
          replace e175 := kt kp e175; replace e176 := kt kp e176
          apply Z02 178 hE k rfl rfl rfl rfl rfl e175
          case h =>
           exact Z0d Try.underlying29 rfl e177
          intro a284 hE e178 kp
          replace e175 := kt kp e175; replace e176 := kt kp e176
          apply Z02 179 hE k rfl rfl rfl rfl rfl e175
          case h =>
           exact Z06 (Z0k rfl e178 rfl) (decide_eq_false (by omega))
          intro a285 hE e179 kp
          replace e175 := kt kp e175; replace e176 := kt kp e176
          apply Z02 180 hE k rfl rfl rfl rfl rfl e175
          case h =>
           exact Z66 (c := false) rfl e176 e179 (by simp)
          intro a286 hE e180 kp
          replace e175 := kt kp e175
          refine sd 181 hE k (Z05 rfl e175 e180) ?_
          intro a287 hE e181 kp
          refine sd 182 hE k (Z04 rfl e181) ?_
          intro a288 hE e182 kp
          apply Z02 183 hE k rfl rfl rfl rfl rfl e182
          case h =>
           exact Z04 rfl (hE.g e19)
          intro a289 hE e183 kp
          replace e182 := kt kp e182
          apply Z02 184 hE k rfl rfl rfl rfl rfl e182
          case h =>
           exact Z04 rfl e183
          intro a290 hE e184 kp
          replace e182 := kt kp e182
          refine Z07 185 hE k rfl (by rfl) (by rfl) rfl rfl (.inl e184) ?_
          intro a291 hE e185 kp
          replace e182 := kt kp e182; replace e184 := kt kp e184
          refine Z07 186 hE k rfl (by rfl) (by rfl) rfl rfl (.inl e184) ?_
          intro a292 hE e186 kp
          replace e182 := kt kp e182; replace e184 := kt kp e184; replace e185 := kt kp e185
          refine Z07 187 hE k rfl (by rfl) (by rfl) rfl rfl (.inl e184) ?_
          intro a293 hE e187 kp
          replace e182 := kt kp e182; replace e184 := kt kp e184; replace e185 := kt kp e185
          refine Z07 188 hE k rfl (by rfl) (by rfl) rfl rfl (.inl e184) ?_
          intro a294 hE e188 kp
          replace e182 := kt kp e182; replace e184 := kt kp e184; replace e185 := kt kp e185
          refine Z07 189 hE k rfl (by rfl) (by rfl) rfl rfl (.inl e184) ?_
          intro a295 hE e189 kp
          replace e182 := kt kp e182; replace e184 := kt kp e184; replace e185 := kt kp e185
          refine Z07 190 hE k rfl (by rfl) (by rfl) rfl rfl (.inl e184) ?_
          intro a296 hE e190 kp
          replace e182 := kt kp e182; replace e184 := kt kp e184
          apply Z02 191 hE k rfl rfl rfl rfl rfl e182
          case h =>
           exact Z05 rfl e184 rfl
          intro a297 hE e191 kp
          replace e182 := kt kp e182
          refine sd 192 hE k (Z05 rfl e182 e191) ?_
          intro a298 hE e192 kp
          refine sd 193 hE k (Z04 rfl e192) ?_
          intro a299 hE e193 kp
          apply Z02 194 hE k rfl rfl rfl rfl rfl e193
          case h =>
           exact Z04 rfl (hE.g e19)
          intro a300 hE e194 kp
          replace e193 := kt kp e193
          apply Z02 195 hE k rfl rfl rfl rfl rfl e193
          case h =>
           exact Z1a rfl e194
          intro a301 hE e195 kp
          replace e193 := kt kp e193
          apply Z02 196 hE k rfl rfl rfl rfl rfl e193
          case h =>
           exact Z04 rfl e195
          intro a302 hE e196 kp
          replace e193 := kt kp e193
          apply Z02 197 hE k rfl rfl rfl rfl rfl e196
          case h =>
           exact Z04 rfl (hE.g e18)
          intro a303 hE e197 kp
          replace e193 := kt kp e193; replace e196 := kt kp e196
          apply Z02 198 hE k rfl rfl rfl rfl rfl e196
          case h =>
           exact Z06 (Z0j rfl e197 rfl) (decide_eq_false (by omega))
          intro a304 hE e198 kp
          replace e193 := kt kp e193; replace e196 := kt kp e196
          apply Z02 199 hE k rfl rfl rfl rfl rfl e193
          case h =>
           exact Z0a rfl e196 e198
          intro a305 hE e199 kp
          replace e193 := kt kp e193
          refine sd 200 hE k (Z05 rfl e193 e199) ?_
          intro a306 hE e200 kp
          refine wpList_nil ?_
          replace e1 := hE.g e1; replace e5 := hE.g e5; replace e6 := hE.g e6; replace e7 := hE.g e7; replace e8 := hE.g e8; replace e10 := hE.g e10
          replace k := k.env hE
          clear hE e18 e19 e20 e21
          refine Z01 ?_
          refine Z08 e200 rfl ?_
          refine wp_skip ?_
          refine Z0f ?_
          refine Z01 ?_
          exact ⟨k, e1, e5, e8, e10, rt, P, Bu, cu, N, B, cap, vs, e6, e7, by omega, by omega, hT.le (by omega), (OwnT.pickR (L := [_, _, _, _, _, _]) (R := []) O [1, 2, 3, 4] (by decide))⟩
       · obtain ⟨Q, hQ⟩ : ∃ Q, cutP ky vl P = Q := ⟨_, rfl⟩
         have hQl : Q.length ≤ P.length := by rw [← hQ]; exact List.length_filter_le _ _
         refine wp_seq ?_
         refine wp_region_lit ?_
         have hE := Env.refl a59 [55, 56]
         apply Z03 55 hE k rfl rfl rfl rfl
         case h =>
          simp [go_sem, ↓IntWalk.iteOmega, ev (hE.g e9)]
          with_reducible rfl
         intro a307 hE e55 kp
         apply Z03 56 hE k rfl rfl rfl rfl
         case h =>
          have q0 : w53.cell? ⟨xb, 0, none⟩ = some (.int .i64 kd) := (OwnT.blk O 4 rfl).cell 0
          simp [go_sem, ↓IntWalk.iteOmega, ev e55, q0]
          with_reducible rfl
         intro a308 hE e56 kp
         refine wpList_nil ?_
         replace e1 := hE.g e1; replace e5 := hE.g e5; replace e6 := hE.g e6; replace e7 := hE.g e7; replace e8 := hE.g e8; replace e9 := hE.g e9; replace e10 := hE.g e10
         replace k := k.env hE
         clear hE
         refine Z01 ?_
         refine wp_block ?_
         refine wp_seq ?_
         refine wp_seq ?_
         refine wp_region_lit ?_
         have hE := Env.refl a308 [82, 81]
         refine sd 82 hE k (Z06 (Z0k rfl (hE.g e56) rfl) (decide_eq_false hk1)) ?_
         intro a309 hE e82 kp
         refine sd 81 hE k (Z00 rfl e82) ?_
         intro a310 hE e81 kp
         refine wpList_nil ?_
         replace e1 := hE.g e1; replace e5 := hE.g e5; replace e6 := hE.g e6; replace e7 := hE.g e7; replace e8 := hE.g e8; replace e9 := hE.g e9; replace e10 := hE.g e10; replace e56 := hE.g e56
         replace k := k.env hE
         clear hE
         refine Z01 ?_
         refine Z08 e81 rfl ?_
         refine wp_region_lit ?_
         have hE := Env.refl a310 [83, 81]
         refine sd 83 hE k (Z06 (Z0k rfl (hE.g e56) rfl) (decide_eq_false hk2)) ?_
         intro a311 hE e83 kp
         refine sd 81 hE k (Z00 rfl e83) ?_
         intro a312 hE e81 kp
         refine wpList_nil ?_
         replace e1 := hE.g e1; replace e5 := hE.g e5; replace e6 := hE.g e6; replace e7 := hE.g e7; replace e8 := hE.g e8; replace e9 := hE.g e9; replace e10 := hE.g e10; replace e56 := hE.g e56
         replace k := k.env hE
         clear hE
         refine Z01 ?_
         refine Z08 e81 rfl ?_
         refine wp_seq ?_
         refine wp_region_lit ?_
         have hE := Env.refl a312 [112, 111]
         refine sd 112 hE k (Z06 (Z0k rfl (hE.g e56) rfl) (decide_eq_false hk3)) ?_
         intro a313 hE e112 kp
         refine sd 111 hE k (Z00 rfl e112) ?_
         intro a314 hE e111 kp
         refine wpList_nil ?_
         replace e1 := hE.g e1; replace e5 := hE.g e5; replace e6 := hE.g e6; replace e7 := hE.g e7; replace e8 := hE.g e8; replace e9 := hE.g e9; replace e10 := hE.g e10; replace e56 := hE.g e56
         replace k := k.env hE
         clear hE e81
         refine Z01 ?_
         refine Z08 e111 rfl ?_
         refine wp_seq ?_
         refine wp_region_lit ?_
         have hE := Env.refl a314 [156, 155]
         refine sd 156 hE k (Z06 (Z0k rfl (hE.g e56) rfl) (decide_eq_false hk4)) ?_
         intro a315 hE e156 kp
         refine sd 155 hE k (Z00 rfl e156) ?_
         intro a316 hE e155 kp
         refine wpList_nil ?_
         replace e1 := hE.g e1; replace e5 := hE.g e5; replace e6 := hE.g e6; replace e7 := hE.g e7; replace e8 := hE.g e8; replace e9 := hE.g e9; replace e10 := hE.g e10
         replace k := k.env hE
         clear hE e56 e111
         refine Z01 ?_
         refine Z08 e155 rfl ?_
         refine wp_seq ?_
         refine wp_region_lit ?_
         have hE := Env.refl a316 [58, 59, 60, 61, 62, 63, 64, 65, 57, 66, 67, 22, 23]
         refine sm 58 hE k e5 ?_
         intro a317 hE e58 kp
         apply Z03 59 hE k rfl rfl rfl rfl
         case h =>
          simp [go_sem, ↓IntWalk.iteOmega, ev e58]
          with_reducible rfl
         intro a318 hE e59 kp
         refine sm 60 hE k e6 ?_
         intro a319 hE e60 kp
         replace e59 := kt kp e59
         apply Z03 61 hE k rfl rfl rfl rfl
         case h =>
          simp [go_sem, ↓IntWalk.iteOmega, ev (hE.g e9)]
          with_reducible rfl
         intro a320 hE e61 kp
         replace e59 := kt kp e59; replace e60 := kt kp e60
         apply Z03 62 hE k rfl rfl rfl rfl
         case h =>
          have q0 : w53.cell? ⟨xb, 1, none⟩ = some (.int .u64 ↑ky) := (OwnT.blk O 4 rfl).cell 1
          simp [go_sem, ↓IntWalk.iteOmega, ev e61, q0]
          with_reducible rfl
         intro a321 hE e62 kp
         replace e59 := kt kp e59; replace e60 := kt kp e60
         apply Z03 63 hE k rfl rfl rfl rfl
         case h =>
          simp [go_sem, ↓IntWalk.iteOmega, ev (hE.g e9)]
          with_reducible rfl
         intro a322 hE e63 kp
         replace e59 := kt kp e59; replace e60 := kt kp e60; replace e62 := kt kp e62
         apply Z03 64 hE k rfl rfl rfl rfl
         case h =>
          have q0 : w53.cell? ⟨xb, 2, none⟩ = some (.int .u64 ↑vl) := (OwnT.blk O 4 rfl).cell 2
          simp [go_sem, ↓IntWalk.iteOmega, ev e63, q0]
          with_reducible rfl
         intro a323 hE e64 kp
         replace e59 := kt kp e59; replace e60 := kt kp e60; replace e62 := kt kp e62
         apply Z09 65 hE k rfl (by rfl) (by rfl) rfl
         case h =>
          simp [go_sem, ↓IntWalk.iteOmega, ev e59, ev e60, ev e62, ev e64]
          with_reducible exact ⟨rfl, rfl⟩
         case hc => exact Z85 (R := _ :: _ :: []) ky vl hQ _ O hT (by omega) (by omega)
         clear O
         rintro e w325 ⟨Bq, cq, rfl, O⟩
         refine ⟨_, rfl, ?_⟩
         intro a324 hE e65 kp
         refine sd 57 hE k (Z04 rfl e65) ?_
         intro a326 hE e57 kp
         apply Z03 66 hE k rfl rfl rfl rfl
         case h =>
          simp [go_sem, ↓IntWalk.iteOmega, ev e57]
          with_reducible rfl
         intro a327 hE e66 kp
         replace e57 := kt kp e57
         apply Z03 67 hE k rfl rfl rfl rfl
         case h =>
          simp [go_sem, ↓IntWalk.iteOmega, ev e57]
          with_reducible rfl
         intro a328 hE e67 kp
         replace e66 := kt kp e66
         refine sd 22 hE k (Z00 rfl e66) ?_
         intro a329 hE e22 kp
         replace e67 := kt kp e67
         refine sd 23 hE k (Z00 rfl e67) ?_
         intro a330 hE e23 kp
         replace e22 := kt kp e22
         refine wpList_nil ?_
         replace e1 := hE.g e1; replace e5 := hE.g e5; replace e6 := hE.g e6; replace e7 := hE.g e7; replace e8 := hE.g e8; replace e9 := hE.g e9; replace e10 := hE.g e10
         replace k := k.env hE
         clear hE e155
         refine Z01 (wp_seq ?_)
         refine wp_region_lit ?_
         have hE := Env.refl a330 [68, 69, 70, 71, 72, 73, 74, 75, 76, 77, 78, 79, 80]
         refine sm 68 hE k e23 ?_
         intro a331 hE e68 kp
         refine sd 69 hE k (Z06 (Z0j rfl e68 rfl) (decide_eq_false (by omega))) ?_
         intro a332 hE e69 kp
         refine sd 70 hE k (Z04 rfl e69) ?_
         intro a333 hE e70 kp
         apply Z02 71 hE k rfl rfl rfl rfl rfl e70
         case h =>
          exact Z04 rfl (hE.g e22)
         intro a334 hE e71 kp
         replace e70 := kt kp e70
         apply Z02 72 hE k rfl rfl rfl rfl rfl e70
         case h =>
          exact Z04 rfl (hE.g e7)
         intro a335 hE e72 kp
         replace e70 := kt kp e70; replace e71 := kt kp e71
         apply Z02 73 hE k rfl rfl rfl rfl rfl e70
         case h =>
          simp [go_sem, ↓IntWalk.iteOmega, ev (hE.g e9)]
          with_reducible rfl
         intro a336 hE e73 kp
         replace e70 := kt kp e70; replace e71 := kt kp e71; replace e72 := kt kp e72
         apply Z02 74 hE k rfl rfl rfl rfl rfl e70
         case h =>
          have q0 : w325.cell? ⟨xb, 1, none⟩ = some (.int .u64 ↑ky) := (OwnT.blk O 5 rfl).cell 1
          simp [go_sem, ↓IntWalk.iteOmega, ev e73, q0]
          with_reducible rfl
         intro a337 hE e74 kp
         replace e70 := kt kp e70; replace e71 := kt kp e71; replace e72 := kt kp e72
         apply Z02 75 hE k rfl rfl rfl rfl rfl e70
         case h =>
          simp [go_sem, ↓IntWalk.iteOmega, ev (hE.g e9)]
          with_reducible rfl
         intro a338 hE e75 kp
         replace e70 := kt kp e70; replace e71 := kt kp e71; replace e72 := kt kp e72; replace e74 := kt kp e74
         apply Z02 76 hE k rfl rfl rfl rfl rfl e70
         case h =>
          have q0 : w325.cell? ⟨xb, 2, none⟩ = some (.int .u64 ↑vl) := (OwnT.blk O 5 rfl).cell 2
          simp [go_sem, ↓IntWalk.iteOmega, ev e75, q0]
          with_reducible rfl
         intro a339 hE e76 kp
         replace e70 := kt kp e70; replace e71 := kt kp e71; replace e72 := kt kp e72; replace e74 := kt kp e74
         apply Z1z 77 hE k rfl (by rfl) (by rfl) rfl rfl e70
         case h =>
          simp [go_sem, ↓IntWalk.iteOmega, ev e72, ev e74, ev e76]
          with_reducible exact ⟨rfl, rfl⟩
         case hc => exact range8 _ O (OwnT.get O 4 rfl) hQ (by omega)
         clear O
         rintro e w341 ⟨Br, cr, rfl, O⟩
         refine ⟨_, rfl, ?_⟩
         intro a340 hE e77 kp
         replace e70 := kt kp e70; replace e71 := kt kp e71
         apply Z1z 78 hE k rfl (by rfl) (by rfl) rfl rfl e70
         case h =>
          simp [go_sem, ↓IntWalk.iteOmega, ev e71, ev e77]
          with_reducible exact ⟨rfl, rfl⟩
         case hc => exact Z4p (OwnT.get O 4 rfl) (OwnT.get O 0 rfl) rfl rfl (by omega)
         rintro e w343 ⟨rfl, RE⟩
         replace O := OwnT.ext O RE
         refine ⟨_, rfl, ?_⟩
         intro a342 hE e78 kp
         replace e70 := kt kp e70
         apply Z02 79 hE k rfl rfl rfl rfl rfl e70
         case h =>
          exact Z1a rfl e78
         intro a344 hE e79 kp
         replace e70 := kt kp e70
         refine sd 80 hE k (Z05 rfl e70 e79) ?_
         intro a345 hE e80 kp
         refine wpList_nil ?_
         replace e1 := hE.g e1; replace e5 := hE.g e5; replace e6 := hE.g e6; replace e7 := hE.g e7; replace e8 := hE.g e8; replace e10 := hE.g e10
         replace k := k.env hE
         clear hE e9 e22 e23
         refine Z01 ?_
         refine Z08 e80 rfl ?_
         refine wp_skip ?_
         refine Z0f ?_
         refine Z01 ?_
         exact ⟨k, e1, e5, e8, e10, rt, P, Bu, cu, N, B, cap, vs, e6, e7, by omega, by omega, hT.le (by omega), (OwnT.pickR (L := [_, _, _, _, _, _, _]) (R := []) O [1, 2, 3, 5] (by decide))⟩
 · clear k e1 e5 e6 e7 e8 e9 e10 O
   intro a346 w347 h_
   obtain ⟨k, e1, e5, e8, e10, r2, P2, Bu2, cu2, N2, B2, cap2, vs2, e6, e7, hN2, hN3, hT2, O⟩ := h_
   have hP2l := hT2.len
   obtain ⟨m, L, g, hRT, hm, hLP, -⟩ := id hT2
   have hgl := hRT.pages_le

   refine wp_seq ?_
   refine wp_region_lit ?_
   have hE := Env.refl a346 [201, 202, 203, 204, 205, 206, 24]
   refine sm 201 hE k e5 ?_
   intro a348 hE e201 kp
   refine sd 202 hE k (Z14 rfl e201) ?_
   intro a349 hE e202 kp
   apply Z03 203 hE k rfl rfl rfl rfl
   case h =>
    simp [go_sem, ↓IntWalk.iteOmega, ev e202]
    with_reducible rfl
   intro a350 hE e203 kp
   apply Z03 204 hE k rfl rfl rfl rfl
   case h =>
    have q0 : w347.cell? ⟨sb, 0, none⟩ = some (.slice B2 N2.length cap2) := (OwnT.blk O 0 rfl).cell 0
    simp [go_sem, ↓IntWalk.iteOmega, ev e203, q0]
    with_reducible rfl
   intro a351 hE e204 kp
   refine sm 205 hE k e6 ?_
   intro a352 hE e205 kp
   replace e204 := kt kp e204
   apply Z09 206 hE k rfl (by rfl) (by rfl) rfl
   case h =>
    simp [go_sem, ↓IntWalk.iteOmega, ev e204, ev e205]
    with_reducible exact ⟨rfl, rfl⟩
   case hc => exact rLook (R := _ :: []) _ O hRT hLP (by omega) (by omega) (by omega) (by omega)
   clear O
   rintro e w354 ⟨gw, c1, d1, P1, Q1, rfl, O⟩
   refine ⟨_, rfl, ?_⟩
   intro a353 hE e206 kp
   refine sd 24 hE k (Z00 rfl e206) ?_
   intro a355 hE e24 kp
   refine wpList_nil ?_
   replace e1 := hE.g e1; replace e5 := hE.g e5; replace e6 := hE.g e6; replace e7 := hE.g e7; replace e8 := hE.g e8; replace e10 := hE.g e10
   replace k := k.env hE
   clear hE
   refine Z01 (wp_seq ?_)
   refine wp_seq ?_
   refine wp_region_lit ?_
   have hE := Env.refl a355 [207, 208, 209, 210, 211, 212, 213, 214, 215, 216, 217, 218, 219, 220, 221, 222, 223, 224, 225, 226, 227, 228, 229, 230, 231, 232, 233, 234, 235, 236, 237]
   refine sm 207 hE k e24 ?_
   intro a356 hE e207 kp
   refine sd 208 hE k (Z14 rfl e207) ?_
   intro a357 hE e208 kp
   apply Z03 209 hE k rfl rfl rfl rfl
   case h =>
    simp [go_sem, ↓IntWalk.iteOmega, ev e208]
    with_reducible rfl
   intro a358 hE e209 kp
   apply Z03 210 hE k rfl rfl rfl rfl
   case h =>
    have q0 : w354.cell? ⟨gw, 2, none⟩ = some (.bool false) := (OwnT.blk O 3 rfl).cell 2
    simp [go_sem, ↓IntWalk.iteOmega, ev e209, q0]
    with_reducible rfl
   intro a359 hE e210 kp
   refine sd 211 hE k (Z04 rfl e210) ?_
   intro a360 hE e211 kp
   apply Z02 212 hE k rfl rfl rfl rfl rfl e211
   case h =>
    exact Z04 rfl (hE.g e24)
   intro a361 hE e212 kp
   replace e211 := kt kp e211
   apply Z02 213 hE k rfl rfl rfl rfl rfl e211
   case h =>
    exact Z14 rfl e212
   intro a362 hE e213 kp
   replace e211 := kt kp e211
   apply Z02 214 hE k rfl rfl rfl rfl rfl e211
   case h =>
    simp [go_sem, ↓IntWalk.iteOmega, ev e213]
    with_reducible rfl
   intro a363 hE e214 kp
   replace e211 := kt kp e211
   apply Z02 215 hE k rfl rfl rfl rfl rfl e211
   case h =>
    have q0 : w354.cell? ⟨gw, 1, none⟩ = some (.slice Q1 P2.length d1) := (OwnT.blk O 3 rfl).cell 1
    simp [go_sem, ↓IntWalk.iteOmega, ev e214, q0]
    with_reducible rfl
   intro a364 hE e215 kp
   replace e211 := kt kp e211
   apply Z02 216 hE k rfl rfl rfl rfl rfl e211
   case h =>
    exact Z04 rfl (hE.g e7)
   intro a365 hE e216 kp
   replace e211 := kt kp e211; replace e215 := kt kp e215
   apply Z1z 217 hE k rfl (by rfl) (by rfl) rfl rfl e211
   case h =>
    simp [go_sem, ↓IntWalk.iteOmega, ev e215, ev e216]
    with_reducible exact ⟨rfl, rfl⟩
   case hc => exact Z4p (OwnT.get O 5 rfl) (OwnT.get O 6 rfl) rfl rfl (by omega)
   rintro e w367 ⟨rfl, RE⟩
   replace O := OwnT.ext O RE
   refine ⟨_, rfl, ?_⟩
   intro a366 hE e217 kp
   replace e211 := kt kp e211
   apply Z02 218 hE k rfl rfl rfl rfl rfl e211
   case h =>
    exact Z1a rfl e217
   intro a368 hE e218 kp
   replace e211 := kt kp e211
   refine sd 219 hE k (Z05 rfl e211 e218) ?_
   intro a369 hE e219 kp
   refine sd 220 hE k (Z04 rfl e219) ?_
   intro a370 hE e220 kp
   apply Z02 221 hE k rfl rfl rfl rfl rfl e220
   case h =>
    exact Z04 rfl (hE.g e5)
   intro a371 hE e221 kp
   replace e220 := kt kp e220
   apply Z02 222 hE k rfl rfl rfl rfl rfl e220
   case h =>
    exact Z14 rfl e221
   intro a372 hE e222 kp
   replace e220 := kt kp e220
   apply Z02 223 hE k rfl rfl rfl rfl rfl e220
   case h =>
    simp [go_sem, ↓IntWalk.iteOmega, ev e222]
    with_reducible rfl
   intro a373 hE e223 kp
   replace e220 := kt kp e220
   apply Z02 224 hE k rfl rfl rfl rfl rfl e220
   case h =>
    have q0 : w367.cell? ⟨sb, 0, none⟩ = some (.slice B2 N2.length cap2) := (OwnT.blk O 0 rfl).cell 0
    simp [go_sem, ↓IntWalk.iteOmega, ev e223, q0]
    with_reducible rfl
   intro a374 hE e224 kp
   replace e220 := kt kp e220
   apply Z02 225 hE k rfl rfl rfl rfl rfl e220
   case h =>
    exact Z0d Try.underlying26 rfl e224
   intro a375 hE e225 kp
   replace e220 := kt kp e220
   apply Z02 226 hE k rfl rfl rfl rfl rfl e220
   case h =>
    exact Z04 rfl (hE.g e10)
   intro a376 hE e226 kp
   replace e220 := kt kp e220; replace e225 := kt kp e225
   apply Z02 227 hE k rfl rfl rfl rfl rfl e220
   case h =>
    exact Z0v rfl e226 rfl (by omega)
   intro a377 hE e227 kp
   replace e220 := kt kp e220; replace e225 := kt kp e225
   apply Z02 228 hE k rfl rfl rfl rfl rfl e220
   case h =>
    exact Z0v rfl e227 rfl (by omega)
   intro a378 hE e228 kp
   replace e220 := kt kp e220; replace e225 := kt kp e225
   apply Z02 229 hE k rfl rfl rfl rfl rfl e220
   case h =>
    exact Z06 (Z17 rfl e225 e228) (decide_eq_false (by omega))
   intro a379 hE e229 kp
   replace e220 := kt kp e220
   refine sd 230 hE k (Z05 rfl e220 e229) ?_
   intro a380 hE e230 kp
   refine sd 231 hE k (Z04 rfl e230) ?_
   intro a381 hE e231 kp
   apply Z02 232 hE k rfl rfl rfl rfl rfl e231
   case h =>
    exact Z04 rfl (hE.g e5)
   intro a382 hE e232 kp
   replace e231 := kt kp e231
   apply Z02 233 hE k rfl rfl rfl rfl rfl e231
   case h =>
    simp [go_sem, ↓IntWalk.iteOmega, ev e232]
    with_reducible rfl
   intro a383 hE e233 kp
   replace e231 := kt kp e231
   apply Z02 234 hE k rfl rfl rfl rfl rfl e231
   case h =>
    exact Z04 rfl (hE.g e6)
   intro a384 hE e234 kp
   replace e231 := kt kp e231; replace e233 := kt kp e233
   apply Z1z 235 hE k rfl (by rfl) (by rfl) rfl rfl e231
   case h =>
    simp [go_sem, ↓IntWalk.iteOmega, ev e233, ev e234]
    with_reducible exact ⟨rfl, rfl⟩
   case hc => exact lCheck (R := _ :: _ :: _ :: _ :: []) _ O hT2 (by omega) (by omega)
   clear O
   rintro e w386 ⟨rfl, O⟩
   refine ⟨_, rfl, ?_⟩
   intro a385 hE e235 kp
   replace e231 := kt kp e231
   apply Z02 236 hE k rfl rfl rfl rfl rfl e231
   case h =>
    exact Z06 (Z0j rfl e235 rfl) (decide_eq_false (by omega))
   intro a387 hE e236 kp
   replace e231 := kt kp e231
   refine sd 237 hE k (Z05 rfl e231 e236) ?_
   intro a388 hE e237 kp
   refine wpList_nil ?_
   replace e1 := hE.g e1; replace e5 := hE.g e5; replace e6 := hE.g e6; replace e7 := hE.g e7; replace e8 := hE.g e8; replace e24 := hE.g e24
   replace k := k.env hE
   clear hE e10
   refine Z01 ?_
   refine Z08 e237 rfl ?_
   refine wp_skip ?_
   refine Z01 (wp_seq ?_)
   refine wp_region_lit ?_
   have hE := Env.refl a388 [239, 240, 241, 242, 238, 243, 244, 25, 26]
   refine sm 239 hE k e5 ?_
   intro a389 hE e239 kp
   apply Z03 240 hE k rfl rfl rfl rfl
   case h =>
    simp [go_sem, ↓IntWalk.iteOmega, ev e239]
    with_reducible rfl
   intro a390 hE e240 kp
   refine sm 241 hE k e6 ?_
   intro a391 hE e241 kp
   replace e240 := kt kp e240
   apply Z09 242 hE k rfl (by rfl) (by rfl) rfl
   case h =>
    simp [go_sem, ↓IntWalk.iteOmega, ev e240, ev e241]
    with_reducible exact ⟨rfl, rfl⟩
   case hc => exact tReach (R := _ :: _ :: _ :: _ :: []) _ O hRT (by omega) (by omega) (by omega) (by rw [hLP]; omega)
   clear O
   rintro e w393 ⟨P3, c3, rfl, O⟩
   refine ⟨_, rfl, ?_⟩
   intro a392 hE e242 kp
   refine sd 238 hE k (Z04 rfl e242) ?_
   intro a394 hE e238 kp
   apply Z03 243 hE k rfl rfl rfl rfl
   case h =>
    simp [go_sem, ↓IntWalk.iteOmega, ev e238]
    with_reducible rfl
   intro a395 hE e243 kp
   replace e238 := kt kp e238
   apply Z03 244 hE k rfl rfl rfl rfl
   case h =>
    simp [go_sem, ↓IntWalk.iteOmega, ev e238]
    with_reducible rfl
   intro a396 hE e244 kp
   replace e243 := kt kp e243
   refine sd 25 hE k (Z00 rfl e243) ?_
   intro a397 hE e25 kp
   replace e244 := kt kp e244
   refine sd 26 hE k (Z00 rfl e244) ?_
   intro a398 hE e26 kp
   replace e25 := kt kp e25
   refine wpList_nil ?_
   replace e1 := hE.g e1; replace e5 := hE.g e5; replace e6 := hE.g e6; replace e7 := hE.g e7; replace e8 := hE.g e8; replace e24 := hE.g e24
   replace k := k.env hE
   clear hE e237
   refine Z01 (wp_seq ?_)
   refine wp_region_lit ?_
   have hE := Env.refl a398 [245, 246, 247, 248, 249, 250, 251, 252, 253, 254, 255]
   refine sm 245 hE k e26 ?_
   intro a399 hE e245 kp
   refine sd 246 hE k (Z06 (Z0j rfl e245 rfl) (decide_eq_false (by omega))) ?_
   intro a400 hE e246 kp
   refine sd 247 hE k (Z04 rfl e246) ?_
   intro a401 hE e247 kp
   apply Z02 248 hE k rfl rfl rfl rfl rfl e247
   case h =>
    exact Z04 rfl (hE.g e25)
   intro a402 hE e248 kp
   replace e247 := kt kp e247
   apply Z02 249 hE k rfl rfl rfl rfl rfl e247
   case h =>
    exact Z04 rfl (hE.g e24)
   intro a403 hE e249 kp
   replace e247 := kt kp e247; replace e248 := kt kp e248
   apply Z02 250 hE k rfl rfl rfl rfl rfl e247
   case h =>
    exact Z14 rfl e249
   intro a404 hE e250 kp
   replace e247 := kt kp e247; replace e248 := kt kp e248
   apply Z02 251 hE k rfl rfl rfl rfl rfl e247
   case h =>
    simp [go_sem, ↓IntWalk.iteOmega, ev e250]
    with_reducible rfl
   intro a405 hE e251 kp
   replace e247 := kt kp e247; replace e248 := kt kp e248
   apply Z02 252 hE k rfl rfl rfl rfl rfl e247
   case h =>
    have q0 : w393.cell? ⟨gw, 0, none⟩ = some (.slice P1 g.length c1) := (OwnT.blk O 4 rfl).cell 0
    simp [go_sem, ↓IntWalk.iteOmega, ev e251, q0]
    with_reducible rfl
   intro a406 hE e252 kp
   replace e247 := kt kp e247; replace e248 := kt kp e248
   apply Z1z 253 hE k rfl (by rfl) (by rfl) rfl rfl e247
   case h =>
    simp [go_sem, ↓IntWalk.iteOmega, ev e248, ev e252]
    with_reducible exact ⟨rfl, rfl⟩
   case hc => exact Z86 g _ rfl rfl (Z3m (enc := encN) (fun _ => rfl) Nat.one_pos (OwnT.get O 3 rfl)) (Z3m (enc := encN) (fun _ => rfl) Nat.one_pos (OwnT.get O 5 rfl)) (by omega)
   rintro e w408 ⟨rfl, RE⟩
   replace O := OwnT.ext O RE
   refine ⟨_, rfl, ?_⟩
   intro a407 hE e253 kp
   replace e247 := kt kp e247
   apply Z02 254 hE k rfl rfl rfl rfl rfl e247
   case h =>
    exact Z1a rfl e253
   intro a409 hE e254 kp
   replace e247 := kt kp e247
   refine sd 255 hE k (Z05 rfl e247 e254) ?_
   intro a410 hE e255 kp
   refine wpList_nil ?_
   replace e1 := hE.g e1; replace e5 := hE.g e5; replace e6 := hE.g e6; replace e7 := hE.g e7; replace e8 := hE.g e8
   replace k := k.env hE
   clear hE e24 e25 e26
   refine Z01 ?_
   refine Z08 e255 rfl ?_
   refine wp_skip ?_
   refine Z0f ?_
   refine Z01 ?_
   refine wp_region_lit ?_
   have hE := Env.refl a410 [44, 45, 8]
   refine sd 44 hE k (Z04 rfl e8) ?_
   intro a411 hE e44 kp
   replace e8 := kt kp e8
   refine sd 45 hE k (Z0v rfl e44 rfl (by omega)) ?_
   intro a412 hE e45 kp
   replace e8 := kt kp e8
   refine sd 8 hE k (Z00 rfl e45) ?_
   intro a413 hE e8 kp
   refine wpList_nil ?_
   replace e1 := hE.g e1; replace e5 := hE.g e5; replace e6 := hE.g e6; replace e7 := hE.g e7
   replace k := k.env hE
   clear hE e255
   refine Z01 ?_
   refine ⟨⟨k, e1, e5, i + 1, r2, P2, Bu2, cu2, N2, B2, cap2, vs2, e6, e7, e8, by omega, hN2, hT2.le (by omega), (OwnT.pickR (L := [_, _, _, _, _, _, _, _]) (R := []) O [0, 1, 2, 7] (by decide))⟩, ?_⟩
   rw [e8, mi]; simp only [intOf]; omega
theorem treeMap_walk (w : World) (v0 v1 : Value) (h0 : Arg Try.prog w 3 v0) (h1 : Arg Try.prog w 22 v1) :
 Calls Try.prog 3 #[v0, v1] w fun e w' => e = .returned (.bool true) ∧ Below w.heap.size w w' := by
 obtain ⟨x0, rfl, _⟩ := arg_int Try.underlying3 h0
 obtain ⟨A, n, c, xs, rfl, _, _, a3, a4, a5⟩ := arg_tms h1
 exact Z5a x0 xs w a3 a5 a4
section
open Go.ChangeShapes Go.WideShapes Go.ChangeAt
theorem Arg.mk_ {P : Program} {w : World} {t : TypeId} {v : Value} {H : Type} {enc : TypeId × Value → H} {d : DataW H} {p : List MemPlace} {r : Reach} {base : Nat} (h : DataW.Trod enc P w 0 (fun _ => true) true t v d p) (hv : Value.okWide P w r base t v) : Arg P w t v := by
  obtain ⟨fuel, hf⟩ := h
  exact ⟨⟨H, enc, fuel, _, hf⟩, r, base, hv⟩
end
end Go.Proofs.Ytngehbhhpkkijaa
