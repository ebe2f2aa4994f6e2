/- store's laws: node, slots (printed by XStH.gen.py). -/
import Derived.Test.YtakkhglbdljfiaaGreatDoorKStoreShadows38
namespace Go.Proofs.YtakkhglbdljfiaaGreatDoor
attribute [local simp] BigFrame.eval_const BigFrame.eval_global BigFrame.eval_func
set_option linter.unusedVariables false
set_option linter.unusedSimpArgs false
open Go.RowKit Go.Maps

theorem Z6z (N : Int) (w : World) : (convert 3 37 (.int .i64 N)).run Tryz.prog w = .ok (.int .u64 ((uN N : Nat) : Int)) w := by
 have h : ((uN N : Nat) : Int) = IntKind.u64.wrap N := by
  unfold uN
  have : 0 ≤ IntKind.u64.wrap N := by
   simp only [IntKind.wrap, IntKind.signed, IntKind.bits]
   exact Int.emod_nonneg _ (by decide)
  omega
 rw [h]
 simp [convert, run_underlying Tryz.underlying3, run_underlying Tryz.underlying37, Conv.intToInt]
theorem uN_lt (N : Int) : uN N < 18446744073709551616 := by
 unfold uN
 have h1 : IntKind.u64.wrap N = N % 18446744073709551616 := by simp [IntKind.wrap, IntKind.signed, IntKind.bits]
 rw [h1]
 have := Int.emod_lt_of_pos N (show (0 : Int) < 18446744073709551616 by decide)
 have := Int.emod_nonneg N (show (18446744073709551616 : Int) ≠ 0 by decide)
 omega
/-- The laws' node. -/
def nodeP (n : Int) : List Pr := [(uN n, uN n)]
theorem Z4l (n : Int) : goodB ((0 : Nat) : Int) (nodeP n) = true := by
 rw [Z4n]
 refine ⟨⟨by decide, by decide, by simp [nodeP]⟩, .inl (by decide), fun i hi => ?_⟩
 have : i = 0 := by simp [nodeP] at hi; exact hi
 subst this
 exact ⟨.inl rfl, .inl (by decide)⟩
theorem Z7k (n : Int) : ∀ x ∈ nodeP n, x.1 < 18446744073709551616 ∧ x.2 < 18446744073709551616 := by
 intro x hx
 obtain rfl := List.mem_singleton.1 (show x ∈ [(uN n, uN n)] from hx)
 exact ⟨uN_lt n, uN_lt n⟩
abbrev node (n : Int) : Nd := (0, nodeP n)
theorem Z6p (n : Int) : (pgB (node n)).length = 256 := pgB_len (Z4l n) (Z7k n)
theorem node_back (n : Int) : lvAt (pgB (node n)) = 0 ∧ cntAt (pgB (node n)) = 1 ∧ pairsAt (pgB (node n)) (cntAt (pgB (node n))) = nodeP n ∧ readB (pgB (node n)) = true := Z6l 0 (nodeP n) (Z4l n) (Z7k n) _ rfl
/-- A page that holds a node. -/
theorem Z52 {sb p kb fb mb n cap bm : Nat} {B : Option Addr} {S : List Sec} {h : Hd} {at_ : Int} {K : Int → Bool} {m : Int → Option Value} {F : Int → Option Nd} {vs : List Value} {N : List Nd} {M : Mn} (c : Nat) (x : Int) (nn : Int) (hx : x = (c : Nat)) (W0 : World) (hs : StR sb p h at_ kb fb K m W0) (hd : DiscR p mb B n cap bm S noL W0) (ok : StOk (pgs n) K F vs N m) (hc : 1 ≤ c ∧ c < pgs n) (hF : F x = none) (hmn : (tMn mb M).holds W0) (ha : M.away = false) (hp : pgS S c = pgB (node nn)) :
 Calls Tryz.prog 21 #[.pointer (some ⟨sb, 0, none⟩), .int .i64 x] W0 fun e w' => ∃ (By : Option Addr) (cy : Nat), e = .returned (.tuple #[.agg #[.int .i64 0, .slice By 1 cy], .int .i64 0]) ∧ Row w' By 2 pairC (nodeP nn) ∧ Ext W0 w' := by
 obtain ⟨h1, h2, h3, h4⟩ := node_back nn
 have hpe : readL S noL (16 * c) 16 = pgB (node nn) := hp
 refine (sread_page (M := M) c x W0 hs hd ok (by omega) hF hx hmn ha (by rw [hpe]; exact h4)).mono ?_
 rw [hpe, h1, h3, h2]
 rintro e w' ⟨By, cy, rfl, hr, hE⟩
 exact ⟨By, cy, rfl, hr, hE⟩
theorem same_node {W : World} {By Bz : Option Addr} {cy cz : Nat} {a b : Int} (hy : Row W By 2 pairC (nodeP a)) (hz : Row W Bz 2 pairC (nodeP b)) :
 Calls Tryz.prog 22 #[.agg #[.int .i64 0, .slice By 1 cy], .agg #[.int .i64 0, .slice Bz 1 cz]] W fun e w' => e = .returned (.bool (decide (nodeP a = nodeP b))) ∧ Ext W w' := by
 refine (same_any 0 0 By Bz 1 cy 1 cz (nodeP a) (nodeP b) W rfl rfl (by decide) (by decide) hy hz).mono ?_
 rintro e w' ⟨rfl, hE⟩
 refine ⟨congrArg (fun b => Ending.returned (.bool b)) (decide_eq_decide.2 ?_), hE⟩
 exact ⟨fun h => h.2, fun h => ⟨rfl, h⟩⟩

set_option maxRecDepth 100000 in
set_option maxHeartbeats 8000000 in
theorem Z2j (n : Int) (W0 : World) : Calls Tryz.prog 14 #[.int .i64 n] W0 fun e w' => ∃ g, e = .returned (.agg #[.int .i64 0, .slice (some ⟨g, 0, none⟩) 1 1]) ∧ Row w' (some ⟨g, 0, none⟩) 2 pairC (nodeP n) ∧ Ext W0 w' := by
 have O := OwnT.start W0
 refine Z0c Tryz.func14 rfl 10 rfl (by rfl) ?_
 intro a1 k hargs
 have e0 : a1.eval (.tmp 0) = .int .i64 n := hargs 0 _ rfl
 clear hargs
 refine wp_seq ?_
 refine wp_region_lit ?_
 have hE := Env.refl a1 [2]
 refine Z1a O (cs := #[.int .i64 0, .slice none 0 0]) (t := 47) 2 hE k rfl (by rfl) (by rfl) rfl (by simp [go_sem, ↓IntWalk.iteOmega]) ?_
 clear O
 intro rb a2 w3 O hE e2 kp
 refine wpList_nil ?_
 replace e0 := hE.g e0
 replace k := k.env hE
 clear hE
 refine Z00 (wp_seq ?_)
 refine wp_region_lit ?_
 have hE := Env.refl a2 [3, 4, 5, 6, 7, 8, 9]
 refine zm 3 hE k e0 ?_
 intro a4 hE e3 kp
 refine sd 4 hE k (Z65 rfl e3 (Z6z n _)) ?_
 intro a5 hE e4 kp
 refine zm 5 hE k e0 ?_
 intro a6 hE e5 kp
 replace e4 := kt kp e4
 refine sd 6 hE k (Z65 rfl e5 (Z6z n _)) ?_
 intro a7 hE e6 kp
 replace e4 := kt kp e4
 apply Z02 7 hE k rfl rfl rfl rfl
 case h =>
  simp [go_sem, ↓IntWalk.iteOmega, ev e4, ev e6]
  with_reducible rfl
 intro a8 hE e7 kp
 refine Z4a (m := 1) (c := 1) O (cs := #[.int .u64 (↑(uN n)), .int .u64 (↑(uN n))]) (t := 98) 8 hE k rfl (by rfl) (by rfl) rfl (by simp [go_sem, ↓IntWalk.iteOmega, ev e7]) ?_
 clear O
 intro pb a9 w10 O hE e8 kp
 apply Z02 9 hE k rfl rfl rfl rfl
 case h =>
  simp [go_sem, ↓IntWalk.iteOmega, ev e8]
  with_reducible rfl
 intro a11 hE e9 kp
 have q0 : w10.cell? ⟨rb, 0, none⟩ = some (.int .i64 0) := (OwnT.blk O 1 rfl).cell 0
 have z0 : w10.frozen? ⟨rb, 0, none⟩ = false := (OwnT.blk O 1 rfl).frozen 0
 have q1 : w10.cell? ⟨rb, 1, none⟩ = some (.slice none 0 0) := (OwnT.blk O 1 rfl).cell 1
 have z1 : w10.frozen? ⟨rb, 1, none⟩ = false := (OwnT.blk O 1 rfl).frozen 1
 refine Z0y (w' := ((w10.setCell ⟨rb, 0, none⟩ (.int .i64 0)).setCell ⟨rb, 1, none⟩ (.slice (some ⟨pb, 0, none⟩) 1 1))) hE rfl rfl (by simp [go_sem, ↓IntWalk.iteOmega, ev (hE.g e2), ev e9, q0, z0, q1, z1]) ?_
 replace O := OwnT.push 1 rfl (((OwnT.pull O 1 rfl).set 0 (.int .i64 0)).set 1 (.slice (some ⟨pb, 0, none⟩) 1 1))
 clear q0 z0 q1 z1
 generalize ((w10.setCell ⟨rb, 0, none⟩ (.int .i64 0)).setCell ⟨rb, 1, none⟩ (.slice (some ⟨pb, 0, none⟩) 1 1)) = w12 at O ⊢
 replace O : OwnT _ _ ([tBlk pb 98 #[.int .u64 (↑(uN n)), .int .u64 (↑(uN n))], tBlk rb 47 #[.int .i64 0, .slice (some ⟨pb, 0, none⟩) 1 1]]) w12 := O
 refine wpList_nil ?_
 replace e2 := hE.g e2
 replace k := k.env hE
 clear hE e0 e9
 refine Z00 ?_
 refine wp_ret ?_
 have hb := OwnT.blk O 0 rfl
 have hrow : Row w12 (some ⟨pb, 0, none⟩) 2 pairC (nodeP n) := by
  intro i x hx
  have hi0 : i = 0 := by have := (List.getElem?_eq_some_iff.1 hx).1; simp [nodeP] at this; exact this
  subst hi0
  obtain rfl : (uN n, uN n) = x := by simpa [nodeP] using hx
  refine ⟨pb, 0, rfl, hb.lt, fun j u hu => ?_⟩
  rw [show 0 + 0 * 2 + j = j by omega, hb.cell j, ← Array.getElem?_toList]
  exact hu

 have q0 := OwnT.blk O 1 rfl
 have q0 : w12.cell? ⟨rb, 0, none⟩ = some (.int .i64 0) := (OwnT.blk O 1 rfl).cell 0
 have q1 : w12.cell? ⟨rb, 1, none⟩ = some (.slice (some ⟨pb, 0, none⟩) 1 1) := (OwnT.blk O 1 rfl).cell 1
 refine Z7b rfl k e2 (v := .agg #[.int .i64 0, .slice (some ⟨pb, 0, none⟩) 1 1]) (by simp [go_sem, ↓IntWalk.iteOmega, q0, q1]) ?_
 exact ⟨pb, rfl, hrow, O.below⟩
theorem Z6a (W0 : World) : Calls Tryz.prog 11 #[] W0 fun e w' => e = .returned (.agg #[.int .i64 9, .int .i64 3]) ∧ Ext W0 w' := by
 have O := OwnT.start W0
 refine Z0c Tryz.func11 rfl 2 rfl (by rfl) ?_
 intro a1 k hargs
 clear hargs
 refine wp_seq ?_
 refine wp_region_lit ?_
 have hE := Env.refl a1 [0]
 refine Z1a O (cs := #[.int .i64 0, .int .i64 0]) (t := 33) 0 hE k rfl (by rfl) (by rfl) rfl (by simp [go_sem, ↓IntWalk.iteOmega]) ?_
 clear O
 intro rb a2 w3 O hE e0 kp
 refine wpList_nil ?_
 replace k := k.env hE
 clear hE
 refine Z00 (wp_seq ?_)
 refine wp_region_lit ?_
 have hE := Env.refl a2 [1]
 apply Z02 1 hE k rfl rfl rfl rfl
 case h =>
  simp [go_sem, ↓IntWalk.iteOmega]
  with_reducible rfl
 intro a4 hE e1 kp
 have q0 : w3.cell? ⟨rb, 0, none⟩ = some (.int .i64 0) := (OwnT.blk O 0 rfl).cell 0
 have z0 : w3.frozen? ⟨rb, 0, none⟩ = false := (OwnT.blk O 0 rfl).frozen 0
 have q1 : w3.cell? ⟨rb, 1, none⟩ = some (.int .i64 0) := (OwnT.blk O 0 rfl).cell 1
 have z1 : w3.frozen? ⟨rb, 1, none⟩ = false := (OwnT.blk O 0 rfl).frozen 1
 refine Z0y (w' := ((w3.setCell ⟨rb, 0, none⟩ (.int .i64 9)).setCell ⟨rb, 1, none⟩ (.int .i64 3))) hE rfl rfl (by simp [go_sem, ↓IntWalk.iteOmega, ev (hE.g e0), ev e1, q0, z0, q1, z1]) ?_
 replace O := OwnT.push 0 rfl (((OwnT.pull O 0 rfl).set 0 (.int .i64 9)).set 1 (.int .i64 3))
 clear q0 z0 q1 z1
 generalize ((w3.setCell ⟨rb, 0, none⟩ (.int .i64 9)).setCell ⟨rb, 1, none⟩ (.int .i64 3)) = w5 at O ⊢
 replace O : OwnT _ _ ([tBlk rb 33 #[.int .i64 9, .int .i64 3]]) w5 := O
 refine wpList_nil ?_
 replace e0 := hE.g e0
 replace k := k.env hE
 clear hE e1
 refine Z00 ?_
 refine wp_ret ?_
 have q0 : w5.cell? ⟨rb, 0, none⟩ = some (.int .i64 9) := (OwnT.blk O 0 rfl).cell 0
 have q1 : w5.cell? ⟨rb, 1, none⟩ = some (.int .i64 3) := (OwnT.blk O 0 rfl).cell 1
 refine Z7b rfl k e0 (v := .agg #[.int .i64 9, .int .i64 3]) (by simp [go_sem, ↓IntWalk.iteOmega, q0, q1]) ?_
 exact ⟨rfl, O.below⟩
end Go.Proofs.YtakkhglbdljfiaaGreatDoor

/- The store at rest: no power goes. -/
namespace Go.Proofs.YtakkhglbdljfiaaGreatDoor
set_option linter.unusedVariables false
set_option linter.unusedSimpArgs false
open Go.RowKit Go.Maps

/-- A formatted device. -/
def fmS (S : List Sec) (L : Int → Option Sec) (h : Hd) : List Sec := nowL S (wrS (hdB h ++ zsec) 0 L 2)
theorem zsec_len : zsec.length = 16 := by unfold zsec; rw [List.length_replicate]
section
variable {S : List Sec} {L : Int → Option Sec} {h : Hd}
theorem fm_len : (fmS S L h).length = S.length := by unfold fmS; rw [Z35]
theorem fm_0 (hl : 2 ≤ S.length) : sc (fmS S L h) 0 = hdB h := by
  unfold fmS
  rw [Z55 (by omega)]
  unfold nowAt
  rw [Z3q, if_pos (by omega)]
  show secOf (hdB h ++ zsec) 0 = hdB h
  unfold secOf
  show ((hdB h ++ zsec).drop (16 * 0)).take 16 = hdB h
  rw [Nat.mul_zero, List.drop_zero, List.take_append_of_le_length (by rw [Z2v]; omega), List.take_of_length_le (by rw [Z2v]; omega)]
theorem fm_1 (hl : 2 ≤ S.length) : sc (fmS S L h) 1 = zsec := by
  unfold fmS
  rw [Z55 (by omega)]
  unfold nowAt
  rw [Z3q, if_pos (by omega)]
  show secOf (hdB h ++ zsec) 1 = zsec
  unfold secOf
  rw [Nat.mul_one, List.drop_append, List.drop_eq_nil_of_le (by rw [Z2v]; omega), Z2v, Nat.sub_self, List.nil_append, List.drop_zero, List.take_of_length_le (by rw [zsec_len]; omega)]
end
theorem Z5z {P : Nat} {F : Int → Option Nd} {xs : List Int} {c : Int} : c ∈ todo P F xs ↔ ((0 ≤ c ∧ c < P) ∧ (F c).isSome = true) ∧ c ∈ xs := by
  unfold todo fL
  rw [List.mem_filter, Z2c, decide_eq_true_iff]
theorem todo_ge {P : Nat} {K : Int → Bool} {F : Int → Option Nd} {vs : List Value} {N : List Nd} {m : Int → Option Value} (ok : StOk P K F vs N m) {xs : List Int} : ∀ c ∈ todo P F xs, 1 ≤ c := by
  intro c hc
  obtain ⟨⟨_, h⟩, _⟩ := Z5z.1 hc
  obtain ⟨nd, h⟩ := Option.isSome_iff_exists.1 h
  exact (ok.fr c nd h).1
/-- The newest of two heads of a device. -/
theorem Z6q {n : Nat} {S : List Sec} (hd : DOk n S noL) (hn : 2 ≤ n) {h h' : Hd} {o : Nat} (ho : o = 0 ∨ o = 1) (ok : h.Ok) (h1 : sc S o = hdB h) (h2 : sc S (1 - o) = zsec ∨ (sc S (1 - o) = hdB h' ∧ h'.Ok ∧ h'.g < h.g)) :
    (newL (readL S noL 0 2)).1.ok = true ∧ (newL (readL S noL 0 2)).1.hd = h ∧ (newL (readL S noL 0 2)).2 = (o : Nat) := by
  obtain ⟨e1, e2, e3⟩ := heads_read hd hn
  rw [e1, newL_app e2]
  have hy : (hdRead (sc S (1 - o))).ok = false ∨ (hdRead (sc S (1 - o))).g < h.g.toNat := by
    rcases h2 with h2 | ⟨h2, h3, h4⟩
    · rw [h2, Z7n]; exact .inl rfl
    · rw [h2, Z5f h' h3]
      refine .inr ?_
      show h'.g.toNat < h.g.toNat
      have := h3.2.2.2.2.1
      omega
  have hr : hdRead (sc S o) = ⟨true, h.g.toNat, h.r, h.a, h.b, h.c⟩ := by rw [h1, Z5f h ok]
  have hh := hd_of h ok
  rcases ho with rfl | rfl
  · rw [hr, newest_fst ok (hy.imp id Nat.le_of_lt)]
    exact ⟨rfl, hh, rfl⟩
  · rw [hr, newest_snd ok hy]
    exact ⟨rfl, hh, rfl⟩
section
variable {H : Nat} {A0 : World} {R : List Thing} {sb p kb fb mb n cap bm : Nat} {B : Option Addr} {S : List Sec} {L : Int → Option Sec} {h : Hd} {at_ : Int} {K : Int → Bool} {m : Int → Option Value} {F : Int → Option Nd} {vs : List Value} {N : List Nd} {M : Mn}
theorem Z3s {c0 : Int} (s0 s1 ch : Int) (w : World) (O : OwnT H A0 (tDisc p mb B n cap bm S L :: tMn mb M :: R) w) (hok : (fmtHd s0 s1 ch).Ok) (hp2 : 2 ≤ pgs n) (hM : M.Ok c0) (hc : c0 ≤ 800000000000) (hF : M.Free) :
    Calls Tryz.prog 9 #[.pointer (some ⟨p, 0, none⟩), .agg #[.int .i64 s0, .int .i64 s1], .int .i64 ch] w fun e w' => ∃ (j sb kb fb : Nat), j ≤ 3 ∧ e = .returned (.tuple #[.pointer (some ⟨sb, 0, none⟩), .int .i64 0]) ∧ OwnT H A0 (stL sb p (fmtHd s0 s1 ch) 0 kb fb (fun _ => false) (fun _ => none) [] [] (tDisc p mb B n cap bm (fmS S L (fmtHd s0 s1 ch)) noL :: tMn mb (M.useN j) :: R)) w' := by
  refine (sformat_go s0 s1 ch w O hok hp2 hM hc).mono ?_
  rintro e w' ⟨j, hj, ⟨sb, kb, fb, rfl, O'⟩ | ⟨hN, _⟩⟩
  · exact ⟨j, sb, kb, fb, hj, rfl, O'⟩
  · exact absurd hF hN
theorem Z6i {A : Option Addr} {ca : Nat} {xs : List Int} {c0 : Int} (o : Nat) (root : Int) (w : World) (O : OwnT H A0 (stL sb p h at_ kb fb K m vs N (tDisc p mb B n cap bm S noL :: tMn mb M :: R)) w) (ok : StOk (pgs n) K F vs N m) (hrow : ∀ W, OwnT H A0 R W → Row1 W A (Value.int .i64) xs) (hn : xs.length ≤ 1000000) (hg : 0 ≤ h.g ∧ h.g ≤ 4294967295) (hat : (at_ = 0 ∧ o = 1) ∨ (at_ = 1 ∧ o = 0)) (hn32 : 2 ≤ n) (hM : M.Ok c0) (hc : c0 ≤ 800000000000) (hok : (nextHd h root).Ok) (hlost : xs.any (lostB (pgs n) K F) = false) (hrt : root = 0 ∨ root ∈ xs) (hF : M.Free) :
    Calls Tryz.prog 19 #[.pointer (some ⟨sb, 0, none⟩), .int .i64 root, .slice A xs.length ca] w fun e w' => ∃ (j : Nat) (m' : Int → Option Value), e = .returned (.int .i64 0) ∧ j ≤ 9100 ∧ OwnT H A0 (stL sb p (nextHd h root) (o : Nat) kb fb (inP (pgs n) xs) m' vs N (tDisc p mb B n cap bm (cmS S F (todo (pgs n) F xs) o (hdB (nextHd h root))) noL :: tMn mb (M.useN j) :: R)) w' ∧ StOk (pgs n) (inP (pgs n) xs) (fun _ => none) vs N m' := by
  have ho : (1 : Int) - at_ = (o : Nat) := by omega
  refine (scommit_go root w O ok hrow hn hg rfl (by omega) hn32 hM hc hok hlost hrt).mono ?_
  rintro e w' ⟨c, j, rfl, hj, ⟨rfl, m', O', ok'⟩ | ⟨_, hN, _⟩⟩
  · rw [ho] at O'
    exact ⟨j, m', rfl, hj, O', ok'⟩
  · exact absurd hF hN
theorem sopen_is {h1 : Hd} {at1 : Int} (w : World) (O : OwnT H A0 (tDisc p mb B n cap bm S noL :: tMn mb M :: R) w) (hp2 : 2 ≤ pgs n) (ha : M.away = false) (hx : (newL (readL S noL 0 2)).1.ok = true ∧ (newL (readL S noL 0 2)).1.hd = h1 ∧ (newL (readL S noL 0 2)).2 = at1) :
    Calls Tryz.prog 34 #[.pointer (some ⟨p, 0, none⟩)] w fun e w' => ∃ (sb kb fb : Nat), e = .returned (.tuple #[.pointer (some ⟨sb, 0, none⟩), .int .i64 0]) ∧ OwnT H A0 (stL sb p h1 at1 kb fb (fun _ => false) (fun _ => none) [] [] (tDisc p mb B n cap bm S noL :: tMn mb M :: R)) w' := by
  obtain ⟨h1, h2, h3⟩ := hx
  have := sopen_ok w O hp2 ha h1
  rw [h2, h3] at this
  exact this
/-- A node is added. -/
theorem Z4b (nn : Int) {g : Nat} (w : World) (O : OwnT H A0 (stL sb p h at_ kb fb K m vs N (tDisc p mb B n cap bm S L :: R)) w) (ok : StOk (pgs n) K F vs N m) (hrow : Row w (some ⟨g, 0, none⟩) 2 pairC (nodeP nn)) :
    Calls Tryz.prog 13 #[.pointer (some ⟨sb, 0, none⟩), .agg #[.int .i64 0, .slice (some ⟨g, 0, none⟩) 1 1]] w fun e w' =>
      (∃ (c : Nat) (m' : Int → Option Value) (vs' : List Value) (N' : List Nd), FirstFree (pgs n) K F c ∧ e = .returned (.tuple #[.int .i64 c, .int .i64 0]) ∧ OwnT H A0 (stL sb p h at_ kb fb K m' vs' N' (tDisc p mb B n cap bm S L :: R)) w' ∧ StOk (pgs n) K (putF F c (node nn)) vs' N' m') ∨ (NoFree (pgs n) K F ∧ e = .returned (.tuple #[.int .i64 0, .int .i64 6]) ∧ OwnT H A0 (stL sb p h at_ kb fb K m vs N (tDisc p mb B n cap bm S L :: R)) w') :=
  sadd_any 0 (some ⟨g, 0, none⟩) 1 (nodeP nn) w O ok hrow (by simp [nodeP]) (Z7k nn) (.inr ⟨g, 0, rfl⟩) (Z4l nn)
theorem FirstFree.eq {P : Nat} {K : Int → Bool} {F : Int → Option Nd} {c d : Nat} (h : FirstFree P K F c) (k : FirstFree P K F d) : c = d := by
  rcases Nat.lt_trichotomy c d with e | e | e
  · have := k.2.2.2 c h.1 e
    rw [h.2.2.1] at this
    cases this
  · exact e
  · have := h.2.2.2 d k.1 e
    rw [k.2.2.1] at this
    cases this
theorem FirstFree.some {P : Nat} {K : Int → Bool} {F : Int → Option Nd} {c : Nat} (h : FirstFree P K F c) (k : NoFree P K F) : False := by
  have := k c h.1 h.2.1
  rw [h.2.2.1] at this
  cases this
theorem sadd_at (nn : Int) (c : Nat) (x : Int) (hx : x = (c : Nat)) {g : Nat} (w : World) (O : OwnT H A0 (stL sb p h at_ kb fb K m vs N (tDisc p mb B n cap bm S L :: R)) w) (ok : StOk (pgs n) K F vs N m) (hrow : Row w (some ⟨g, 0, none⟩) 2 pairC (nodeP nn)) (hf : FirstFree (pgs n) K F c) :
    Calls Tryz.prog 13 #[.pointer (some ⟨sb, 0, none⟩), .agg #[.int .i64 0, .slice (some ⟨g, 0, none⟩) 1 1]] w fun e w' =>
      ∃ (m' : Int → Option Value) (vs' : List Value) (N' : List Nd), e = .returned (.tuple #[.int .i64 x, .int .i64 0]) ∧ OwnT H A0 (stL sb p h at_ kb fb K m' vs' N' (tDisc p mb B n cap bm S L :: R)) w' ∧ StOk (pgs n) K (putF F x (node nn)) vs' N' m' := by
  subst hx
  refine (Z4b nn w O ok hrow).mono ?_
  rintro e w' (⟨d, m', vs', N', hd, rfl, O', ok'⟩ | ⟨hn, _⟩)
  · obtain rfl := hf.eq hd
    exact ⟨m', vs', N', rfl, O', ok'⟩
  · exact (hf.some hn).elim
theorem OwnT.graft {L1 L2 : List Thing} {w w' : World} (h : OwnT H A0 L1 w) (k : OwnT w.heap.size w L2 w') : OwnT H A0 (L2 ++ L1) w' := by
  have h1 := h.ext k.below
  refine ⟨h1.below, h1.size, Ths.of fun x hx => ?_, fun x hx i hi => ?_, List.pairwise_append.2 ⟨k.diff, h.diff, fun x hx y hy i hi hj => ?_⟩⟩
  · rcases List.mem_append.1 hx with hx | hx
    · exact k.all.mem hx
    · exact h1.all.mem hx
  · rcases List.mem_append.1 hx with hx | hx
    · have := k.high x hx i hi
      have := h.size
      omega
    · exact h.high x hx i hi
  · have := k.high x hx i hi
    have := h.lt hy hj
    omega
theorem sread_add (x nn : Int) (w : World) (O : OwnT H A0 (stL sb p h at_ kb fb K m vs N (tDisc p mb B n cap bm S L :: R)) w) (ok : StOk (pgs n) K F vs N m) (hF : F x = some (node nn)) :
    Calls Tryz.prog 21 #[.pointer (some ⟨sb, 0, none⟩), .int .i64 x] w fun e w' => ∃ (By : Option Addr) (cy : Nat), e = .returned (.tuple #[.agg #[.int .i64 0, .slice By 1 cy], .int .i64 0]) ∧ OwnT H A0 (tPs (.slice By 1 cy) (nodeP nn) :: stL sb p h at_ kb fb K m vs N (tDisc p mb B n cap bm S L :: R)) w' := by
  refine (sread_own x w (OwnT.stR O) (OwnT.disc (OwnT.pull O 4 rfl)) ok (OwnT.get O 3 rfl) 0 (nodeP nn) hF).mono ?_
  rintro e w' ⟨By, cy, rfl, k⟩
  exact ⟨By, cy, rfl, O.graft k⟩
theorem row1_blk {w : World} {g : Nat} {T : TypeId} {xs : List Int} (h : Blk w g T (xs.map (Value.int .i64)).toArray) : Row1 w (some ⟨g, 0, none⟩) (Value.int .i64) xs := by
  intro i x hx
  refine ⟨g, 0, rfl, h.lt, ?_⟩
  rw [Nat.zero_add, h.cell i]
  simp [hx]
theorem Z2b {W : World} {By Bz : Option Addr} {cy cz : Nat} {a : Int} (hy : Row W By 2 pairC (nodeP a)) (hz : Row W Bz 2 pairC (nodeP a)) :
    Calls Tryz.prog 22 #[.agg #[.int .i64 0, .slice By 1 cy], .agg #[.int .i64 0, .slice Bz 1 cz]] W fun e w' => e = .returned (.bool true) ∧ Ext W w' := by
  refine (same_node hy hz).mono ?_
  rintro e w' ⟨rfl, hE⟩
  rw [decide_eq_true rfl]
  exact ⟨rfl, hE⟩
/-- Where a device's heads are: the committed one is the newest. -/
def HeadsAt (S : List Sec) (h : Hd) (o : Nat) : Prop := (o = 0 ∨ o = 1) ∧ h.Ok ∧ sc S o = hdB h ∧ (sc S (1 - o) = zsec ∨ ∃ h' : Hd, sc S (1 - o) = hdB h' ∧ h'.Ok ∧ h'.g < h.g)
theorem heads_fm {h : Hd} (hl : 2 ≤ S.length) (ok : h.Ok) : HeadsAt (fmS S L h) h 0 := ⟨.inl rfl, ok, fm_0 hl, .inl (fm_1 hl)⟩
theorem heads_cm {h : Hd} {o : Nat} {root : Int} {td : List Int} (hh : HeadsAt S h o) (hl : 2 ≤ S.length) (ok : (nextHd h root).Ok) (htd : ∀ c ∈ td, 1 ≤ c) : HeadsAt (cmS S F td (1 - o) (hdB (nextHd h root))) (nextHd h root) (1 - o) := by
  obtain ⟨h1, h2, h3, h4⟩ := hh
  refine ⟨by omega, ok, cm_hd (by omega) (Z2v _), .inr ⟨h, ?_, h2, ?_⟩⟩
  · rw [show 1 - (1 - o) = o by omega, cm_other (by omega) (by omega) (by omega) htd]
    exact h3
  · show h.g < h.g + 1
    omega
theorem HeadsAt.newest {h : Hd} {o : Nat} (hh : HeadsAt S h o) (hd : DOk n S noL) (hn : 2 ≤ n) : (newL (readL S noL 0 2)).1.ok = true ∧ (newL (readL S noL 0 2)).1.hd = h ∧ (newL (readL S noL 0 2)).2 = (o : Nat) := by
  obtain ⟨h1, h2, h3, h4 | ⟨h', h4⟩⟩ := hh
  · exact Z6q (h' := h) hd hn h1 h2 h3 (.inl h4)
  · exact Z6q hd hn h1 h2 h3 (.inr h4)
/-- A whole commit of a sound store. -/
theorem Z54 {A : Option Addr} {ca : Nat} {xs : List Int} {c0 : Int} {o : Nat} (root : Int) (w : World) (O : OwnT H A0 (stL sb p h (o : Nat) kb fb K m vs N (tDisc p mb B n cap bm S noL :: tMn mb M :: R)) w) (ok : StOk (pgs n) K F vs N m) (hrow : ∀ W, OwnT H A0 R W → Row1 W A (Value.int .i64) xs) (hn : xs.length ≤ 1000000) (hh : HeadsAt S h o) (hn32 : 2 ≤ n) (hM : M.Ok c0) (hc : c0 ≤ 800000000000) (hok : (nextHd h root).Ok) (hlost : xs.any (lostB (pgs n) K F) = false) (hrt : root = 0 ∨ root ∈ xs) (hF : M.Free) :
    Calls Tryz.prog 19 #[.pointer (some ⟨sb, 0, none⟩), .int .i64 root, .slice A xs.length ca] w fun e w' => ∃ (j : Nat) (m' : Int → Option Value), e = .returned (.int .i64 0) ∧ j ≤ 9100 ∧ OwnT H A0 (stL sb p (nextHd h root) ((1 - o : Nat) : Int) kb fb (inP (pgs n) xs) m' vs N (tDisc p mb B n cap bm (cmS S F (todo (pgs n) F xs) (1 - o) (hdB (nextHd h root))) noL :: tMn mb (M.useN j) :: R)) w' ∧ StOk (pgs n) (inP (pgs n) xs) (fun _ => none) vs N m' ∧ HeadsAt (cmS S F (todo (pgs n) F xs) (1 - o) (hdB (nextHd h root))) (nextHd h root) (1 - o) := by
  have hd := (OwnT.disc (OwnT.pull O 4 rfl)).ok
  have hl := hd.len
  have hx := hh.2.1.2.2.2.2.1
  have hx2 := hh.2.1.2.2.2.2.2.1
  refine (Z6i (1 - o) root w O ok hrow hn (by omega) (by have := hh.1; omega) hn32 hM hc hok hlost hrt hF).mono ?_
  rintro e w' ⟨j, m', rfl, hj, O', ok'⟩
  exact ⟨j, m', rfl, hj, O', ok', heads_cm hh (by omega) hok (todo_ge ok)⟩
end
end Go.Proofs.YtakkhglbdljfiaaGreatDoor
