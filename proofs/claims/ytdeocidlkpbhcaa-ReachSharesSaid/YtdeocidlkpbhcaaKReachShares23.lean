/- reach: node, root (printed by XRcB.gen.py). -/
import Derived.Test.YtdeocidlkpbhcaaKReachShares06
import Derived.Test.YtdeocidlkpbhcaaKReachShares20
import Derived.Test.YtdeocidlkpbhcaaKReachShares22
import Derived.Test.YtdeocidlkpbhcaaKReachShares08
namespace Go.Proofs.Ytdeocidlkpbhcaa
attribute [local simp] BigFrame.eval_const BigFrame.eval_global BigFrame.eval_func
set_option linter.unusedVariables false
set_option linter.unusedSimpArgs false
open Go.RowKit Go.Maps


theorem Z5t (w : World) : (zeroValue 3).run Try.prog w = .ok (.int .i64 0) w := by kernel_rfl
theorem Z7d (w : World) : (zeroValue 4).run Try.prog w = .ok (.bool false) w := by kernel_rfl
theorem OwnT.mapSet {H : Nat} {A w w' : World} {L : List Thing} {b k n : Nat} {m m' : Int → Option Value} (O : OwnT H A (tMap b k m :: L) w) (hv : VM w' b n m') (hC : Chg [b] w w') : OwnT H A (tMap b n m' :: L) w' :=
 O.call hC (fun i hi => by simpa [tMap] using hi) (tMap b n m') hv (fun i hi => .inl hi)
theorem Z5u {w w' : World} {o : Oper} {ρ : Operand → Value} {t : TypeId} {mo x v : Operand} {b : Nat} {c : Int} {u : Value} (ho : o.op = .mapUpdate t mo x v) (hm : ρ mo = .map (some b)) (hx : ρ x = .int .i64 c) (hv : ρ v = u) (h : (Instr.mapUpdate t (.map (some b)) (.int .i64 c) u).run Try.prog w = .ok () w') : (execOp ρ o).run Try.prog w = .ok .skip w' := by
 simp [execOp, ho, hm, hx, hv, h]
theorem Z5g {w : World} {B : Option Addr} {n c z : Nat} {ns : List Nat} {v : Nat} (h : (tNs (.slice B n c) ns).holds w) (hz : ns[z]? = some v) : ∃ g, B = some ⟨g, 0, none⟩ ∧ w.cell? ⟨g, z, none⟩ = some (.int .i64 (v : Nat)) := by
 have hl := (List.getElem?_eq_some_iff.1 hz).1
 obtain ⟨g, cap', cur, e, -⟩ := Z11 h (by omega)
 injection e with e1
 subst e1
 obtain ⟨B2, c2, e, _, _, _, hr⟩ := Z2e (enc := encN) (X := ns) (fun _ => rfl) Nat.one_pos h
 injection e with e1
 subst e1
 obtain ⟨b, o, e, _, hc⟩ := hr z v hz
 injection e with e
 injection e with e e'
 subst e e'
 refine ⟨g, rfl, ?_⟩
 have := hc 0 _ rfl
 simpa using this

set_option maxRecDepth 100000 in
set_option maxHeartbeats 4000000 in
theorem rcNode {H : Nat} {A0 : World} {R : List Thing} {sb cap : Nat} {room : Int} {B : Option Addr} {vs : List Value} {N : List Nd} {cb lb sm nl ns p l : Nat} {rs : List Nat} {sn : Nat → Bool} {xs : List Pr} (w : World) (O : OwnT H A0 (shT sb room B cap vs N (tBlk cb 71 #[.map (some lb), .map (some sm)] :: tMap lb nl (mapL (ldF N rs sn)) :: tMap sm ns (mapS sn) :: R)) w) (hN : N.length ≤ 1000) (hp : ndAt N p = some (l, xs)) (hp1 : 1 ≤ p) (hp2 : p ≤ 1000) (hx : xs.length ≤ 15) (hxs : l ≠ 0 → ∀ x ∈ xs, 1 ≤ x.2 ∧ x.2 ≤ 1000) (hnl : nl ≤ 1000000) (hns : ns ≤ 1000000) (hsk : SnOk N sn) (hrl : rs.length ≤ 1000) : Calls Try.prog 31 #[.pointer (some ⟨cb, 0, none⟩), .iface 24 (.pointer (some ⟨sb, 0, none⟩)), .int .i64 (p : Nat)] w fun e w' => e = .returned (.int .i64 0) ∧ ∃ nl' ns', nl' ≤ nl + 15 ∧ ns' ≤ ns + 1 ∧ OwnT H A0 (shT sb room B cap vs N (tBlk cb 71 #[.map (some lb), .map (some sm)] :: tMap lb nl' (mapL (ldF N rs (insB p sn))) :: tMap sm ns' (mapS (insB p sn)) :: R)) w' := by
 refine Z0b Try.func31 rfl 53 rfl (by rfl) ?_
 intro a1 k hargs
 have e0 : a1.eval (.tmp 0) = .pointer (some ⟨cb, 0, none⟩) := hargs 0 _ rfl
 have e1 : a1.eval (.tmp 1) = .iface 24 (.pointer (some ⟨sb, 0, none⟩)) := hargs 1 _ rfl
 have e2 : a1.eval (.tmp 2) = .int .i64 ↑p := hargs 2 _ rfl
 clear hargs
 have hpw : wfV (p : Int) := Z59 (by omega) (by omega)
 have hbig : ∀ q, ldF N rs sn q ≤ 1000000 := fun q => Nat.le_trans (ldF_le hsk q) (by omega)
 cases hsn : sn p with
 | true =>
  refine wp_seq ?_
  refine wp_region_lit ?_
  have hE := Env.refl a1 [6]
  refine sd 6 hE k (Z00 rfl rfl) ?_
  intro a2 hE e6 kp
  refine wpList_nil ?_
  replace e0 := hE.g e0; replace e1 := hE.g e1; replace e2 := hE.g e2
  replace k := k.env hE
  clear hE e6
  refine Z01 (wp_seq ?_)
  refine wp_seq ?_
  refine wp_region_lit ?_
  have hE := Env.refl a2 [11, 12, 13, 14, 15, 16]
  refine zm 11 hE k e0 ?_
  intro a3 hE e11 kp
  refine sd 12 hE k (Z1b rfl e11) ?_
  intro a4 hE e12 kp
  apply Z02 13 hE k rfl rfl rfl rfl
  case h =>
   simp [go_sem, ↓IntWalk.iteOmega, ev e12]
   with_reducible rfl
  intro a5 hE e13 kp
  apply Z02 14 hE k rfl rfl rfl rfl
  case h =>
   have q0 : w.cell? ⟨cb, 1, none⟩ = some (.map (some sm)) := (OwnT.blk O 3 rfl).cell 1
   simp [go_sem, ↓IntWalk.iteOmega, ev e13, q0]
   with_reducible rfl
  intro a6 hE e14 kp
  refine zm 15 hE k e2 ?_
  intro a7 hE e15 kp
  replace e14 := kt kp e14
  refine sd 16 hE k (Z16 (v := .bool true) (Z57 (OwnT.get O 5 rfl) rfl Try.underlying69 (Z7d _) e14 e15 hpw) ((Z5h sn hp1).trans (by rw [hsn]))) ?_
  intro a8 hE e16 kp
  refine wpList_nil ?_
  replace e0 := hE.g e0; replace e1 := hE.g e1; replace e2 := hE.g e2
  replace k := k.env hE
  clear hE
  refine Z01 ?_
  refine Z0a e16 rfl ?_
  refine wp_seq ?_
  refine wp_region_lit ?_
  have hE := Env.refl a8 [6]
  refine sd 6 hE k (Z00 rfl rfl) ?_
  intro a9 hE e6 kp
  refine wpList_nil ?_
  replace k := k.env hE
  clear hE e0 e1 e2 e16
  refine Z01 ?_
  refine wp_ret ?_
  refine Z0l ?_
  refine Z0z rfl k e6 ?_
  exact ⟨rfl, nl, ns, by omega, by omega, by rw [insB_seen hsn]; exact O⟩
 | false =>
  refine wp_seq ?_
  refine wp_region_lit ?_
  have hE := Env.refl a1 [6]
  refine sd 6 hE k (Z00 rfl rfl) ?_
  intro a10 hE e6 kp
  refine wpList_nil ?_
  replace e0 := hE.g e0; replace e1 := hE.g e1; replace e2 := hE.g e2
  replace k := k.env hE
  clear hE e6
  refine Z01 (wp_seq ?_)
  refine wp_seq ?_
  refine wp_region_lit ?_
  have hE := Env.refl a10 [11, 12, 13, 14, 15, 16]
  refine zm 11 hE k e0 ?_
  intro a11 hE e11 kp
  refine sd 12 hE k (Z1b rfl e11) ?_
  intro a12 hE e12 kp
  apply Z02 13 hE k rfl rfl rfl rfl
  case h =>
   simp [go_sem, ↓IntWalk.iteOmega, ev e12]
   with_reducible rfl
  intro a13 hE e13 kp
  apply Z02 14 hE k rfl rfl rfl rfl
  case h =>
   have q0 : w.cell? ⟨cb, 1, none⟩ = some (.map (some sm)) := (OwnT.blk O 3 rfl).cell 1
   simp [go_sem, ↓IntWalk.iteOmega, ev e13, q0]
   with_reducible rfl
  intro a14 hE e14 kp
  refine zm 15 hE k e2 ?_
  intro a15 hE e15 kp
  replace e14 := kt kp e14
  refine sd 16 hE k (Z16 (v := .bool false) (Z57 (OwnT.get O 5 rfl) rfl Try.underlying69 (Z7d _) e14 e15 hpw) ((Z5h sn hp1).trans (by rw [hsn]))) ?_
  intro a16 hE e16 kp
  refine wpList_nil ?_
  replace e0 := hE.g e0; replace e1 := hE.g e1; replace e2 := hE.g e2
  replace k := k.env hE
  clear hE
  refine Z01 ?_
  refine Z06 e16 rfl ?_
  refine wp_skip ?_
  refine Z01 ?_
  obtain ⟨w8, hcl, hV, hC⟩ := VM.store (OwnT.get O 5 rfl) Try.underlying69 (by unfold maxLen; omega) hpw (.bool true)
  refine wp_seq ?_
  refine wp_region_lit ?_
  have hE := Env.refl a16 [17, 18, 19, 20, 21]
  refine zm 17 hE k e0 ?_
  intro a17 hE e17 kp
  refine sd 18 hE k (Z1b rfl e17) ?_
  intro a18 hE e18 kp
  apply Z02 19 hE k rfl rfl rfl rfl
  case h =>
   simp [go_sem, ↓IntWalk.iteOmega, ev e18]
   with_reducible rfl
  intro a19 hE e19 kp
  apply Z02 20 hE k rfl rfl rfl rfl
  case h =>
   have q0 : w.cell? ⟨cb, 1, none⟩ = some (.map (some sm)) := (OwnT.blk O 3 rfl).cell 1
   simp [go_sem, ↓IntWalk.iteOmega, ev e19, q0]
   with_reducible rfl
  intro a20 hE e20 kp
  refine zm 21 hE k e2 ?_
  intro a21 hE e21 kp
  replace e20 := kt kp e20
  refine Z0g (w' := w8) hE rfl rfl ?_ ?_
  · exact Z5u rfl e20 e21 rfl hcl
  replace O := OwnT.push (L := _ :: _ :: _ :: _ :: _ :: _ :: R) 5 rfl (OwnT.mapSet (OwnT.pull O 5 rfl) hV hC)
  clear hV hC hcl
  rw [mapS_put sn hp1] at O
  refine wpList_nil ?_
  replace e0 := hE.g e0; replace e1 := hE.g e1; replace e2 := hE.g e2
  replace k := k.env hE
  clear hE e16 e20 e21
  refine Z01 (wp_seq ?_)
  refine wp_region_lit ?_
  have hE := Env.refl a21 [23, 24, 25, 22, 26, 27, 7, 8]
  refine zm 23 hE k e1 ?_
  intro a22 hE e23 kp
  refine zm 24 hE k e2 ?_
  intro a23 hE e24 kp
  replace e23 := kt kp e23
  apply Z07 25 hE k rfl (by rfl) (by rfl) rfl
  case h =>
   exact Z2t rfl e23 e24 (Z36 _ _ _)
  case hc => exact Z2m p l xs _ O (by omega) hp (by omega)
  clear O
  rintro e w25 ⟨v, rfl, O, -⟩
  obtain ⟨Bx, cx, rfl, -, -, -, -⟩ := Z0o (OwnT.get O 0 rfl : (tPs v xs).holds _)
  refine ⟨_, rfl, ?_⟩
  intro a24 hE e25 kp
  refine sd 22 hE k (Z03 rfl e25) ?_
  intro a26 hE e22 kp
  apply Z02 26 hE k rfl rfl rfl rfl
  case h =>
   simp [go_sem, ↓IntWalk.iteOmega, ev e22]
   with_reducible rfl
  intro a27 hE e26 kp
  replace e22 := kt kp e22
  apply Z02 27 hE k rfl rfl rfl rfl
  case h =>
   simp [go_sem, ↓IntWalk.iteOmega, ev e22]
   with_reducible rfl
  intro a28 hE e27 kp
  replace e26 := kt kp e26
  refine Z0k O (cs := #[.int .i64 0, .slice none 0 0]) (t := 40) 7 hE k rfl (by rfl) (by rfl) rfl (by simp [go_sem, ↓IntWalk.iteOmega]) ?_
  clear O
  intro xb a29 w30 O hE e7 kp
  replace e26 := kt kp e26; replace e27 := kt kp e27
  have q0 : w30.cell? ⟨xb, 0, none⟩ = some (.int .i64 0) := (OwnT.blk O 0 rfl).cell 0
  have z0 : w30.frozen? ⟨xb, 0, none⟩ = false := (OwnT.blk O 0 rfl).frozen 0
  have q1 : w30.cell? ⟨xb, 1, none⟩ = some (.slice none 0 0) := (OwnT.blk O 0 rfl).cell 1
  have z1 : w30.frozen? ⟨xb, 1, none⟩ = false := (OwnT.blk O 0 rfl).frozen 1
  refine Z0g (w' := ((w30.setCell ⟨xb, 0, none⟩ (.int .i64 ↑l)).setCell ⟨xb, 1, none⟩ (.slice Bx xs.length cx))) hE rfl rfl (by simp [go_sem, ↓IntWalk.iteOmega, ev e7, ev e26, q0, z0, q1, z1]) ?_
  replace O := OwnT.push 0 rfl (((OwnT.pull O 0 rfl).set 0 (.int .i64 ↑l)).set 1 (.slice Bx xs.length cx))
  clear q0 z0 q1 z1
  generalize ((w30.setCell ⟨xb, 0, none⟩ (.int .i64 ↑l)).setCell ⟨xb, 1, none⟩ (.slice Bx xs.length cx)) = w31 at O ⊢
  replace O : OwnT _ _ ((tBlk xb 40 #[.int .i64 ↑l, .slice Bx xs.length cx]) :: (tPs (.slice Bx xs.length cx) xs) :: (tBlk sb 27 #[.slice B N.length cap, .int .i64 room]) :: (tRow 40 2 (.slice B N.length cap) N.length (leafV vs N)) :: (tPool vs N) :: (tBlk cb 71 #[.map (some lb), .map (some sm)]) :: (tMap lb nl (mapL (ldF N rs sn))) :: (tMap sm ((ns + 1)) (mapS (insB p sn))) :: R) w31 := O
  refine sd 8 hE k (Z00 rfl e27) ?_
  intro a32 hE e8 kp
  replace e7 := kt kp e7
  refine wpList_nil ?_
  replace e0 := hE.g e0
  replace k := k.env hE
  clear hE e1 e2
  refine Z01 ?_
  replace O : OwnT _ _ ((tBlk sb 27 #[.slice B N.length cap, .int .i64 room]) :: (tRow 40 2 (.slice B N.length cap) N.length (leafV vs N)) :: (tPool vs N) :: (tBlk cb 71 #[.map (some lb), .map (some sm)]) :: (tMap lb nl (mapL (ldF N rs sn))) :: (tMap sm ((ns + 1)) (mapS (insB p sn))) :: (tBlk xb 40 #[.int .i64 ↑l, .slice Bx xs.length cx]) :: (tPs (.slice Bx xs.length cx) xs) :: R) w31 := OwnT.pickR (L := [_, _, _, _, _, _, _, _]) (R := R) O [2, 3, 4, 5, 6, 7, 0, 1] (by decide)
  by_cases hl : l = 0
  · subst hl
    replace O : OwnT _ _ ((tBlk sb 27 #[.slice B N.length cap, .int .i64 room]) :: (tRow 40 2 (.slice B N.length cap) N.length (leafV vs N)) :: (tPool vs N) :: (tBlk cb 71 #[.map (some lb), .map (some sm)]) :: (tMap lb nl (mapL (ldF N rs sn))) :: (tMap sm ((ns + 1)) (mapS (insB p sn))) :: (tBlk xb 40 #[.int .i64 0, .slice Bx xs.length cx]) :: (tPs (.slice Bx xs.length cx) xs) :: R) w31 := O
    refine wp_seq ?_
    refine wp_seq ?_
    refine wp_region_lit ?_
    have hE := Env.refl a32 [28, 29, 30, 31, 32, 33, 34]
    refine zm 28 hE k e8 ?_
    intro a33 hE e28 kp
    refine sd 29 hE k (Z05 (Z0j rfl e28 rfl) (decide_eq_false (by omega))) ?_
    intro a34 hE e29 kp
    refine sd 30 hE k (Z03 rfl e29) ?_
    intro a35 hE e30 kp
    apply Z04 31 hE k rfl rfl rfl rfl rfl e30
    case h =>
     simp [go_sem, ↓IntWalk.iteOmega, ev (hE.g e7)]
     with_reducible rfl
    intro a36 hE e31 kp
    replace e30 := kt kp e30
    apply Z04 32 hE k rfl rfl rfl rfl rfl e30
    case h =>
     have q0 : w31.cell? ⟨xb, 0, none⟩ = some (.int .i64 0) := (OwnT.blk O 6 rfl).cell 0
     simp [go_sem, ↓IntWalk.iteOmega, ev e31, q0]
     with_reducible rfl
    intro a37 hE e32 kp
    replace e30 := kt kp e30
    apply Z04 33 hE k rfl rfl rfl rfl rfl e30
    case h =>
     exact Z05 (Z0v rfl e32 rfl) (decide_eq_true rfl)
    intro a38 hE e33 kp
    replace e30 := kt kp e30
    refine sd 34 hE k (Z08 rfl e30 e33) ?_
    intro a39 hE e34 kp
    refine wpList_nil ?_
    replace e0 := hE.g e0; replace e7 := hE.g e7; replace e8 := hE.g e8
    replace k := k.env hE
    clear hE
    refine Z01 ?_
    refine Z0a e34 rfl ?_
    refine wp_seq ?_
    refine wp_region_lit ?_
    have hE := Env.refl a39 [35, 6]
    refine zm 35 hE k e8 ?_
    intro a40 hE e35 kp
    refine sd 6 hE k (Z00 rfl e35) ?_
    intro a41 hE e6 kp
    refine wpList_nil ?_
    replace k := k.env hE
    clear hE e0 e7 e8 e34
    refine Z01 ?_
    refine wp_ret ?_
    refine Z0l ?_
    refine Z0z rfl k e6 ?_
    exact ⟨rfl, nl, ns + 1, by omega, Nat.le_refl _, by rw [ldF_leaf hsn hp1 (by omega) hp]; exact OwnT.pickR (L := [_, _, _, _, _, _, _, _]) (R := R) O [0, 1, 2, 3, 4, 5] (by decide)⟩
  · have hxr := hxs hl
    refine wp_seq ?_
    refine wp_seq ?_
    refine wp_region_lit ?_
    have hE := Env.refl a32 [28, 29, 30, 31, 32, 33, 34]
    refine zm 28 hE k e8 ?_
    intro a42 hE e28 kp
    refine sd 29 hE k (Z05 (Z0j rfl e28 rfl) (decide_eq_false (by omega))) ?_
    intro a43 hE e29 kp
    refine sd 30 hE k (Z03 rfl e29) ?_
    intro a44 hE e30 kp
    apply Z04 31 hE k rfl rfl rfl rfl rfl e30
    case h =>
     simp [go_sem, ↓IntWalk.iteOmega, ev (hE.g e7)]
     with_reducible rfl
    intro a45 hE e31 kp
    replace e30 := kt kp e30
    apply Z04 32 hE k rfl rfl rfl rfl rfl e30
    case h =>
     have q0 : w31.cell? ⟨xb, 0, none⟩ = some (.int .i64 ↑l) := (OwnT.blk O 6 rfl).cell 0
     simp [go_sem, ↓IntWalk.iteOmega, ev e31, q0]
     with_reducible rfl
    intro a46 hE e32 kp
    replace e30 := kt kp e30
    apply Z04 33 hE k rfl rfl rfl rfl rfl e30
    case h =>
     exact Z05 (Z0v rfl e32 rfl) (decide_eq_false (by omega))
    intro a47 hE e33 kp
    replace e30 := kt kp e30
    refine sd 34 hE k (Z08 rfl e30 e33) ?_
    intro a48 hE e34 kp
    refine wpList_nil ?_
    replace e0 := hE.g e0; replace e7 := hE.g e7; replace e8 := hE.g e8
    replace k := k.env hE
    clear hE
    refine Z01 ?_
    refine Z06 e34 rfl ?_
    refine wp_skip ?_
    refine Z01 (wp_seq ?_)
    refine wp_seq ?_
    refine wp_region_lit ?_
    have hE := Env.refl a48 [36, 37, 38, 39]
    apply Z02 36 hE k rfl rfl rfl rfl
    case h =>
     simp [go_sem, ↓IntWalk.iteOmega, ev (hE.g e7)]
     with_reducible rfl
    intro a49 hE e36 kp
    apply Z02 37 hE k rfl rfl rfl rfl
    case h =>
     have q0 : w31.cell? ⟨xb, 1, none⟩ = some (.slice Bx xs.length cx) := (OwnT.blk O 6 rfl).cell 1
     simp [go_sem, ↓IntWalk.iteOmega, ev e36, q0]
     with_reducible rfl
    intro a50 hE e37 kp
    refine sd 38 hE k (Z0i Try.underlying38 rfl e37) ?_
    intro a51 hE e38 kp
    replace e37 := kt kp e37
    refine sd 39 hE k (Z03 rfl rfl) ?_
    intro a52 hE e39 kp
    replace e37 := kt kp e37; replace e38 := kt kp e38
    refine wpList_nil ?_
    replace e0 := hE.g e0
    replace k := k.env hE
    clear hE e7 e8 e34
    refine Z01 ?_
    refine wp_block ?_
    rw [← addX_zero (ldF N rs sn) xs] at O
    refine wp_loop (fun a w => Fr 53 a ∧ a.eval (.tmp 0) = .pointer (some ⟨cb, 0, none⟩) ∧ a.eval (.tmp 37) = .slice Bx xs.length cx ∧ a.eval (.tmp 38) = .int .i64 ↑xs.length ∧ ∃ (j nj : Nat), a.eval (.tmp 39) = .int .i64 ↑j ∧ j ≤ xs.length ∧ nj ≤ nl + j ∧ OwnT H A0 ((tBlk sb 27 #[.slice B N.length cap, .int .i64 room]) :: (tRow 40 2 (.slice B N.length cap) N.length (leafV vs N)) :: (tPool vs N) :: (tBlk cb 71 #[.map (some lb), .map (some sm)]) :: (tMap lb nj (mapL (addX (ldF N rs sn) xs j))) :: (tMap sm ((ns + 1)) (mapS (insB p sn))) :: (tBlk xb 40 #[.int .i64 ↑l, .slice Bx xs.length cx]) :: (tPs (.slice Bx xs.length cx) xs) :: R) w) (fun a w => xs.length - (intOf (a.eval (.tmp 39))).toNat) ?_ ?_
    · exact ⟨k, e0, e37, e38, 0, nl, e39, Nat.zero_le _, Nat.le_refl _, O⟩
    intro a53 w54 hI
    clear k e0 e37 e38
    obtain ⟨k, e0, e37, e38, h_⟩ := hI
    clear O e39
    obtain ⟨j, nj, e39, hj, hnj, O⟩ := h_
    have mj := e39
    by_cases hlt : j < xs.length
    · have hltI : (j : Int) < (xs.length : Int) := by omega
      obtain ⟨y, hy⟩ : ∃ y, xs[j]? = some y := ⟨_, List.getElem?_eq_getElem hlt⟩
      obtain ⟨hy1, hy2⟩ := hxr y (List.mem_of_getElem? hy)
      have hyw : wfV (y.2 : Int) := Z59 (by omega) (by omega)
      obtain ⟨-, gp, rfl, d0, d1⟩ := ps_cells (OwnT.get O 7 rfl) hy
      obtain ⟨z, hz⟩ : ∃ z, addX (ldF N rs sn) xs j y.2 = z := ⟨_, rfl⟩
      have hzb : z ≤ 1000015 := by
       rw [← hz]
       unfold addX cntX
       have h1 := hbig y.2
       have h2 := List.countP_le_length (p := fun x : Pr => decide (x.2 = y.2)) (l := xs.take j)
       have h3 : (xs.take j).length ≤ 15 := by rw [List.length_take]; omega
       omega

      replace O : OwnT _ _ ((tBlk sb 27 #[.slice B N.length cap, .int .i64 room]) :: (tRow 40 2 (.slice B N.length cap) N.length (leafV vs N)) :: (tPool vs N) :: (tBlk cb 71 #[.map (some lb), .map (some sm)]) :: (tMap lb nj (mapL (addX (ldF N rs sn) xs j))) :: (tMap sm ((ns + 1)) (mapS (insB p sn))) :: (tBlk xb 40 #[.int .i64 ↑l, .slice (some ⟨gp, 0, none⟩) xs.length cx]) :: (tPs (.slice (some ⟨gp, 0, none⟩) xs.length cx) xs) :: R) w54 := O
      refine wp_seq ?_
      refine wp_region_lit ?_
      have hE := Env.refl a53 [40]
      refine sd 40 hE k (Z05 (Z17 rfl (hE.g e39) (hE.g e38)) (decide_eq_true (by omega))) ?_
      intro a55 hE e40 kp
      refine wpList_nil ?_
      replace e0 := hE.g e0; replace e37 := hE.g e37; replace e38 := hE.g e38; replace e39 := hE.g e39
      replace k := k.env hE
      clear hE
      refine Z01 (wp_seq ?_)
      refine Z0a e40 rfl ?_
      refine wp_skip ?_
      refine Z01 (wp_seq ?_)
      refine wp_block ?_
      refine wp_seq ?_
      refine wp_region_lit ?_
      have hE := Env.refl a55 [41, 42, 10]
      apply Z02 41 hE k rfl rfl rfl rfl
      case h =>
       simp [go_sem, ↓IntWalk.iteOmega, ev (hE.g e37), ev (hE.g e39)]
       with_reducible rfl
      intro a56 hE e41 kp
      apply Z02 42 hE k rfl rfl rfl rfl
      case h =>
       simp [go_sem, ↓IntWalk.iteOmega, ev e41, d0, d1]
       with_reducible rfl
      intro a57 hE e42 kp
      refine Z0k O (cs := #[.int .u64 0, .int .u64 0]) (t := 59) 10 hE k rfl (by rfl) (by rfl) rfl (by simp [go_sem, ↓IntWalk.iteOmega]) ?_
      clear O
      intro yb a58 w59 O hE e10 kp
      replace e42 := kt kp e42
      have q0 : w59.cell? ⟨yb, 0, none⟩ = some (.int .u64 0) := (OwnT.blk O 0 rfl).cell 0
      have z0 : w59.frozen? ⟨yb, 0, none⟩ = false := (OwnT.blk O 0 rfl).frozen 0
      have q1 : w59.cell? ⟨yb, 1, none⟩ = some (.int .u64 0) := (OwnT.blk O 0 rfl).cell 1
      have z1 : w59.frozen? ⟨yb, 1, none⟩ = false := (OwnT.blk O 0 rfl).frozen 1
      refine Z0g (w' := ((w59.setCell ⟨yb, 0, none⟩ (.int .u64 ↑y.1)).setCell ⟨yb, 1, none⟩ (.int .u64 ↑y.2))) hE rfl rfl (by simp [go_sem, ↓IntWalk.iteOmega, ev e10, ev e42, q0, z0, q1, z1]) ?_
      replace O := OwnT.push 0 rfl (((OwnT.pull O 0 rfl).set 0 (.int .u64 ↑y.1)).set 1 (.int .u64 ↑y.2))
      clear q0 z0 q1 z1
      generalize ((w59.setCell ⟨yb, 0, none⟩ (.int .u64 ↑y.1)).setCell ⟨yb, 1, none⟩ (.int .u64 ↑y.2)) = w60 at O ⊢
      replace O : OwnT _ _ ((tBlk yb 59 #[.int .u64 ↑y.1, .int .u64 ↑y.2]) :: (tBlk sb 27 #[.slice B N.length cap, .int .i64 room]) :: (tRow 40 2 (.slice B N.length cap) N.length (leafV vs N)) :: (tPool vs N) :: (tBlk cb 71 #[.map (some lb), .map (some sm)]) :: (tMap lb nj (mapL (addX (ldF N rs sn) xs j))) :: (tMap sm ((ns + 1)) (mapS (insB p sn))) :: (tBlk xb 40 #[.int .i64 ↑l, .slice (some ⟨gp, 0, none⟩) xs.length cx]) :: (tPs (.slice (some ⟨gp, 0, none⟩) xs.length cx) xs) :: R) w60 := O
      refine wpList_nil ?_
      replace e0 := hE.g e0; replace e37 := hE.g e37; replace e38 := hE.g e38; replace e39 := hE.g e39
      replace k := k.env hE
      clear hE e40 e42
      refine Z01 ?_
      clear d0 d1
      replace O : OwnT _ _ ((tBlk sb 27 #[.slice B N.length cap, .int .i64 room]) :: (tRow 40 2 (.slice B N.length cap) N.length (leafV vs N)) :: (tPool vs N) :: (tBlk cb 71 #[.map (some lb), .map (some sm)]) :: (tMap lb nj (mapL (addX (ldF N rs sn) xs j))) :: (tMap sm ((ns + 1)) (mapS (insB p sn))) :: (tBlk xb 40 #[.int .i64 ↑l, .slice (some ⟨gp, 0, none⟩) xs.length cx]) :: (tPs (.slice (some ⟨gp, 0, none⟩) xs.length cx) xs) :: (tBlk yb 59 #[.int .u64 ↑y.1, .int .u64 ↑y.2]) :: R) w60 := OwnT.pickR (L := [_, _, _, _, _, _, _, _, _]) (R := R) O [1, 2, 3, 4, 5, 6, 7, 8, 0] (by decide)
      refine Z0d (R := Ext) (w0 := w60) [[], [0], [0, 1], [0, 1, 2], [], [4], [4, 5], [0, 1, 2, 3, 4, 5, 6], [0, 1, 2, 3, 4, 5, 6, 7], [0, 1, 2, 3, 4, 5, 6, 7, 8]] [43, 44, 45, 46, 47, 48, 49, 50, 51] Ext.refl (fun _ _ _ => Ext.trans) (Ext.drew _) (by kernel_rfl) ?_
      apply bd 43 k rfl rfl rfl
      case h =>
       intro ax wx hE hR hF
       exact Z03 rfl (hE.g e0)
      apply bd 44 k rfl rfl rfl
      case h =>
       intro ax wx hE hR hF
       have e43 := zhF hF 0 43 ml0
       exact Z1b rfl e43
      apply bd 45 k rfl rfl rfl
      case h =>
       intro ax wx hE hR hF
       have e44 := zhF hF 1 44 ml0
       simp [go_sem, ↓IntWalk.iteOmega, ev e44]
       with_reducible rfl
      apply bd 46 k rfl rfl rfl
      case h =>
       intro ax wx hE hR hF
       have e45 := zhF hF 2 45 ml0
       have q0 : wx.cell? ⟨cb, 0, none⟩ = some (.map (some lb)) := (OwnT.blk (OwnT.ext O hR) 3 rfl).cell 0
       simp [go_sem, ↓IntWalk.iteOmega, ev e45, q0]
       with_reducible rfl
      apply bd 47 k rfl rfl rfl
      case h =>
       intro ax wx hE hR hF
       simp [go_sem, ↓IntWalk.iteOmega, ev (hE.g e10)]
       with_reducible rfl
      apply bd 48 k rfl rfl rfl
      case h =>
       intro ax wx hE hR hF
       have e47 := zhF hF 4 47 ml0
       have q0 : wx.cell? ⟨yb, 1, none⟩ = some (.int .u64 ↑y.2) := (OwnT.blk (OwnT.ext O hR) 8 rfl).cell 1
       simp [go_sem, ↓IntWalk.iteOmega, ev e47, q0]
       with_reducible rfl
      apply bd 49 k rfl rfl rfl
      case h =>
       intro ax wx hE hR hF
       have e48 := zhF hF 5 48 ml0
       exact Z1p rfl e48 (Z1z y.2 _ (by omega))
      apply bd 50 k rfl rfl rfl
      case h =>
       intro ax wx hE hR hF
       have e46 := zhF hF 3 46 ml3
       have e49 := zhF hF 6 49 ml0
       exact Z16 (v := .int .i64 (z : Nat)) (Z57 (OwnT.get (OwnT.ext O hR) 4 rfl) rfl Try.underlying68 (Z5t _) e46 e49 hyw) ((Z4b _ hy1).trans (by rw [hz]))
      apply bd 51 k rfl rfl rfl
      case h =>
       intro ax wx hE hR hF
       have e50 := zhF hF 7 50 ml0
       exact Z0x rfl e50 rfl (by omega)
      apply Build.stop
      refine ⟨by kernel_rfl, .inr ⟨by kernel_rfl, _, rfl, rfl, ?_⟩⟩
      intro a61 w62 hE R hF
      have e46 : a61.eval (.tmp 46) = _ := hF 3 (det 46 _) ml5
      have e49 : a61.eval (.tmp 49) = _ := hF 6 (det 49 _) ml2
      have e51 : a61.eval (.tmp 51) = _ := hF 8 (det 51 _) ml0
      clear hF
      replace O := OwnT.ext O R
      clear R
      obtain ⟨w8, hcl, hV, hC⟩ := VM.store (OwnT.get O 4 rfl) Try.underlying68 (by unfold maxLen; omega) hyw (.int .i64 ((z : Int) + 1))
      refine Z87 (w' := w8) rfl (Z5u rfl e46 e49 e51 hcl) ?_
      replace O := OwnT.push (L := _ :: _ :: _ :: _ :: _ :: _ :: _ :: _ :: _ :: R) 4 rfl (OwnT.mapSet (OwnT.pull O 4 rfl) hV hC)
      clear hV hC hcl
      rw [show ((z : Int) + 1) = ((z + 1 : Nat) : Int) from rfl, Z6k _ hy1 (Nat.succ_ne_zero z), ← hz, addX_step _ hy] at O
      replace e0 := hE.g e0; replace e37 := hE.g e37; replace e38 := hE.g e38; replace e39 := hE.g e39
      replace k := k.env hE
      clear hE e10 e46 e49 e51
      refine Z0s ?_
      refine Z01 ?_
      refine wp_region_lit ?_
      have hE := Env.refl a61 [52, 39]
      refine sd 52 hE k (Z0x rfl e39 rfl (by omega)) ?_
      intro a63 hE e52 kp
      replace e39 := kt kp e39
      refine sd 39 hE k (Z03 rfl e52) ?_
      intro a64 hE e39 kp
      refine wpList_nil ?_
      replace e0 := hE.g e0; replace e37 := hE.g e37; replace e38 := hE.g e38
      replace k := k.env hE
      clear hE
      refine Z01 ?_
      refine ⟨⟨k, e0, e37, e38, j + 1, nj + 1, e39, by omega, by omega, OwnT.pickR (L := [_, _, _, _, _, _, _, _, _]) (R := R) O [0, 1, 2, 3, 4, 5, 6, 7] (by decide)⟩, ?_⟩
      rw [e39, mj]; simp only [intOf]; omega
    · obtain rfl : j = xs.length := by omega
      clear mj
      refine wp_seq ?_
      refine wp_region_lit ?_
      have hE := Env.refl a53 [40]
      refine sd 40 hE k (Z05 (Z17 rfl (hE.g e39) (hE.g e38)) (decide_eq_false (by omega))) ?_
      intro a65 hE e40 kp
      refine wpList_nil ?_
      replace e0 := hE.g e0; replace e37 := hE.g e37; replace e38 := hE.g e38; replace e39 := hE.g e39
      replace k := k.env hE
      clear hE
      refine Z01 (wp_seq ?_)
      refine Z06 e40 rfl ?_
      refine wp_exit ?_
      refine Z12 ?_
      refine Z12 ?_
      refine Z1o ?_
      refine Z01 (wp_seq ?_)
      refine wp_region_lit ?_
      have hE := Env.refl a65 [6]
      refine sd 6 hE k (Z00 rfl rfl) ?_
      intro a66 hE e6 kp
      refine wpList_nil ?_
      replace k := k.env hE
      clear hE e0 e37 e38 e39 e40
      refine Z01 ?_
      refine wp_ret ?_
      refine Z0z rfl k e6 ?_
      exact ⟨rfl, nj, ns + 1, by omega, Nat.le_refl _, by rw [Z86 hsn hp1 (by omega) hp hl]; exact OwnT.pickR (L := [_, _, _, _, _, _, _, _]) (R := R) O [0, 1, 2, 3, 4, 5] (by decide)⟩
end Go.Proofs.Ytdeocidlkpbhcaa
