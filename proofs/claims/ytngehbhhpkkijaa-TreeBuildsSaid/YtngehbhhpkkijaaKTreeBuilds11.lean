/- trees: Clone, the shelf's Read and Add, read, added (printed by XTrC.gen.py). -/
import Derived.Test.YtngehbhhpkkijaaKTreeBuilds09
import Derived.Test.YtngehbhhpkkijaaKTreeBuilds10
namespace Go.Proofs.Ytngehbhhpkkijaa
attribute [local simp] BigFrame.eval_const BigFrame.eval_global BigFrame.eval_func
set_option linter.unusedVariables false
set_option linter.unusedSimpArgs false
open Go.RowKit Go.Maps

theorem elemPr : ElemI Try.prog 29 38 2 16 := ⟨Try.underlying29, by
 have h : (Try.prog.info? 38).map (fun i => (i.zero, i.size, i.bytes)) = some (some (.agg #[.int .u64 0, .int .u64 0]), 2, 16) := by kernel_rfl
 obtain ⟨i, h1, h2, h3, h4⟩ := info_parts h
 exact ⟨i, _, h1, h2, h3, h4, rfl⟩⟩
theorem elemLf : ElemI Try.prog 26 125 2 32 := ⟨Try.underlying26, by
 have h : (Try.prog.info? 125).map (fun i => (i.zero, i.size, i.bytes)) = some (some (.agg #[.int .i64 0, .slice none 0 0]), 2, 32) := by kernel_rfl
 obtain ⟨i, h1, h2, h3, h4⟩ := info_parts h
 exact ⟨i, _, h1, h2, h3, h4, rfl⟩⟩
theorem Z4o {P : Program} {H : Nat} {A w : World} {T t : TypeId} {k n m c bytes : Nat} {v : Value} {xs news : List Value} {G : List Thing} {p : Addr} (O : OwnT H A (tRow T k v n xs :: G) w) (E : ElemI P t T k bytes) (hk : 0 < k) (hlen : news.length = m * k) (hn : ∀ j u, news[j]? = some u → w.cell? (p.add j) = some u) (h1 : ∀ u ∈ news, u.oneCell' = true) (h63 : n + m ≤ maxLen) (hbytes : (n + m) * bytes ≤ 140737488355328) :
 ∃ v' w', (∀ ty, (Builtin.append_ #[t, t] ty #[v, .slice (some p) m c]).run P w = .ok v' w') ∧ OwnT H A (tRow T k v' (n + m) (xs ++ news) :: G) w' := by
 obtain ⟨i, z, hi, hz, hs, hby, hzs⟩ := E.info
 obtain ⟨v', w', hrun, h2, h3, h4⟩ := Z1n (P := P) w t t T i z k bytes E.ht hi hz hs hby hzs hk v n xs O.r0 p m c news hlen hn h1 h63 hbytes
 exact ⟨v', w', fun _ => hrun, O.row h2 h3 h4⟩
/-- An append in order. -/
theorem Z4n {P : Program} {H : Nat} {A w : World} {T t : TypeId} {k n g bytes : Nat} {v : Value} {xs news : List Value} {G : List Thing} (O : OwnT H A (tBlk g T news.toArray :: tRow T k v n xs :: G) w) (E : ElemI P t T k bytes) (hk : 0 < k) (hlen : news.length = k) (h1 : ∀ u ∈ news, u.oneCell' = true) (h63 : n + 1 ≤ maxLen) (hbytes : (n + 1) * bytes ≤ 140737488355328) :
 ∃ gr cap w', (∀ ty, (Builtin.append_ #[t, t] ty #[v, .slice (some ⟨g, 0, none⟩) 1 1]).run P w = .ok (.slice (some ⟨gr, 0, none⟩) (n + 1) cap) w') ∧ OwnT H A (tRow T k (.slice (some ⟨gr, 0, none⟩) (n + 1) cap) (n + 1) (xs ++ news) :: G) w' := by
 obtain ⟨i, z, hi, hz, hs, hby, hzs⟩ := E.info
 obtain ⟨r, w', hrun, h3⟩ := (O.perm (.swap _ _ _)).appendOne (P := P) t i z bytes E.ht hi hz hs hby hzs hk g T news O.b0 hlen h1 h63 hbytes
 obtain ⟨gr, cap, rfl⟩ := OwnT.slice0 h3 (by omega)
 exact ⟨gr, cap, w', hrun, h3.pick01⟩
theorem Z3l {w : World} {g off : Nat} {ps : List Pr} (h : Row w (some ⟨g, off, none⟩) 2 pairC ps) : ∀ j u, (flatP ps)[j]? = some u → w.cell? ((⟨g, off, none⟩ : Addr).add j) = some u := by
 intro j u hu
 have hadd : (⟨g, off, none⟩ : Addr).add j = ⟨g, off + j, none⟩ := by unfold Addr.add; split <;> simp_all
 rw [hadd]
 have hjl := (List.getElem?_eq_some_iff.1 hu).1
 rw [Z0w] at hjl
 obtain ⟨x, hx⟩ : ∃ x, ps[j / 2]? = some x := ⟨_, List.getElem?_eq_getElem (by omega)⟩
 obtain ⟨b, o, e, _, hc⟩ := h (j / 2) x hx
 injection e with e
 injection e with e1 e2
 subst e1 e2
 have h2 : (pairC x)[j % 2]? = some u := by
  have hm : j % 2 < 2 := Nat.mod_lt _ (by omega)
  rcases (show j % 2 = 0 ∨ j % 2 = 1 by omega) with hm | hm
  · have h3 := Z2p (enc := pairC) (c := 2) (fun _ => rfl) ps (j / 2) x 0 (.int .u64 x.1) hx rfl
    rw [show j / 2 * 2 + 0 = j by omega] at h3
    rw [hm, ← hu]; exact h3.symm ▸ rfl
  · have h3 := Z2p (enc := pairC) (c := 2) (fun _ => rfl) ps (j / 2) x 1 (.int .u64 x.2) hx rfl
    rw [show j / 2 * 2 + 1 = j by omega] at h3
    rw [hm, ← hu]; exact h3.symm ▸ rfl
 have := hc (j % 2) u h2
 rwa [show off + j / 2 * 2 + j % 2 = off + j by omega] at this
theorem OwnT.asRowE {g k : Nat} {T : TypeId} {H : Nat} {A w : World} {L : List Thing} (h : OwnT H A (tBlk g T #[] :: L) w) : OwnT H A (tRow T k (.slice (some ⟨g, 0, none⟩) 0 0) 0 [] :: L) w :=
 h.call (F := []) (Chg.refl [] w) (by simp) (tRow T k (.slice (some ⟨g, 0, none⟩) 0 0) 0 []) (Z62 h.b0 (Nat.le_refl _) (by decide) (by simp) (by simp)) (fun i hi => .inl (by simpa [tRow, tBlk, Value.ownBlock] using hi))
theorem Z5d (v u : Value) (w : World) : (callMethod (.iface 24 v) "Read" #[u]).run Try.prog w = .ok (.enter 55 #[v, u]) w := by kernel_rfl
theorem Z1q (v u : Value) (w : World) : (callMethod (.iface 24 v) "Add" #[u]).run Try.prog w = .ok (.enter 118 #[v, u]) w := by kernel_rfl
theorem eq_nil (w : World) : (binOp .eql 29 (.slice none 0 0) (.slice none 0 0)).run Try.prog w = .ok (.bool true) w := by kernel_rfl
theorem eq_some (g off n cap : Nat) (w : World) : (binOp .eql 29 (.slice (some ⟨g, off, none⟩) n cap) (.slice none 0 0)).run Try.prog w = .ok (.bool false) w := by kernel_rfl
theorem cellB {W0 w : World} (hb : Below W0.heap.size W0 w) {b o : Nat} {v : Value} (h : W0.cell? ⟨b, o, none⟩ = some v) : w.cell? ⟨b, o, none⟩ = some v := by
 have hlt : b < W0.heap.size := by
  rcases Nat.lt_or_ge b W0.heap.size with h1 | h1
  · exact h1
  · simp [World.cell?, Array.getElem?_eq_none h1] at h
 rw [← h]
 exact hb.cell (p := ⟨b, o, none⟩) hlt
section
variable {w : World} {o : Oper} {ρ : Operand → Value} {x y : Operand} {f : FuncId} {p u : Value} {us : Array Value} {nm : String} {ts : Array TypeId}
theorem Z34 (ho : o.op = .call { callee := .invoke x nm, args := #[y], argTypes := ts }) (hx : ρ x = p) (hy : ρ y = u) (h : (callMethod p nm #[u]).run Try.prog w = .ok (.enter f us) w) : (execOp ρ o).run Try.prog w = .ok (.enter f us) w := by
 unfold execOp
 simp only [ho, resolve, invoke, Sem.run_bind, Sem.run_pure, Result.andThen_ok, List.map_toArray, List.map_cons, List.map_nil, hx, hy]
 exact h
end

theorem Z82 (W0 : World) : Calls Try.prog 76 #[.slice none 0 0] W0 fun e w' => ∃ v', e = .returned v' ∧ w'.ownsRow W0.heap.size 38 2 v' 0 (flatP []) ∧ Ext W0 w' := by
 have O := OwnT.start W0
 refine Z0c Try.func76 rfl 8 rfl (by rfl) ?_
 intro a1 k hargs
 have e0 : a1.eval (.tmp 0) = .slice none 0 0 := hargs 0 _ rfl
 clear hargs
 refine wp_seq ?_
 refine wp_region_lit ?_
 have hE := Env.refl a1 [2]
 refine sd 2 hE k (Z01 rfl rfl) ?_
 intro a2 hE e2 kp
 refine wpList_nil ?_
 replace e0 := hE.g e0
 replace k := k.env hE
 clear hE e2
 refine Z00 (wp_seq ?_)
 refine wp_seq ?_
 refine wp_region_lit ?_
 have hE := Env.refl a2 [3, 4]
 refine zm 3 hE k e0 ?_
 intro a3 hE e3 kp
 apply Z02 4 hE k rfl rfl rfl rfl
 case h =>
  simp [go_sem, ↓IntWalk.iteOmega, ev e3, eq_nil]
  with_reducible rfl
 intro a4 hE e4 kp
 refine wpList_nil ?_
 replace e0 := hE.g e0
 replace k := k.env hE
 clear hE
 refine Z00 ?_
 refine Z0g e4 rfl ?_
 refine wp_seq ?_
 refine wp_region_lit ?_
 have hE := Env.refl a4 [2]
 refine sd 2 hE k (Z01 rfl rfl) ?_
 intro a5 hE e2 kp
 refine wpList_nil ?_
 replace k := k.env hE
 clear hE e0 e4
 refine Z00 ?_
 refine wp_ret ?_
 refine Z0d ?_
 refine Z0p rfl k e2 ?_
 exact ⟨_, rfl, (OwnT.nilRow O 38 2).rowBase, O.below⟩
set_option maxRecDepth 100000 in
set_option maxHeartbeats 4000000 in
theorem Z6z (g off cap n : Nat) (ps : List Pr) (W0 : World) (hl : ps.length = n) (hrow : Row W0 (some ⟨g, off, none⟩) 2 pairC ps) (hn : n ≤ 1000000) : Calls Try.prog 76 #[.slice (some ⟨g, off, none⟩) n cap] W0 fun e w' => ∃ v', e = .returned v' ∧ w'.ownsRow W0.heap.size 38 2 v' n (flatP ps) ∧ Ext W0 w' := by
 have O := OwnT.start W0
 refine Z0c Try.func76 rfl 8 rfl (by rfl) ?_
 intro a1 k hargs
 have e0 : a1.eval (.tmp 0) = .slice (some ⟨g, off, none⟩) n cap := hargs 0 _ rfl
 clear hargs
 refine wp_seq ?_
 refine wp_region_lit ?_
 have hE := Env.refl a1 [2]
 refine sd 2 hE k (Z01 rfl rfl) ?_
 intro a2 hE e2 kp
 refine wpList_nil ?_
 replace e0 := hE.g e0
 replace k := k.env hE
 clear hE e2
 refine Z00 (wp_seq ?_)
 refine wp_seq ?_
 refine wp_region_lit ?_
 have hE := Env.refl a2 [3, 4]
 refine zm 3 hE k e0 ?_
 intro a3 hE e3 kp
 apply Z02 4 hE k rfl rfl rfl rfl
 case h =>
  simp [go_sem, ↓IntWalk.iteOmega, ev e3, eq_some]
  with_reducible rfl
 intro a4 hE e4 kp
 refine wpList_nil ?_
 replace e0 := hE.g e0
 replace k := k.env hE
 clear hE
 refine Z00 ?_
 refine Z05 e4 rfl ?_
 refine wp_skip ?_
 refine Z00 (wp_seq ?_)
 refine wp_region_lit ?_
 have hE := Env.refl a4 [5, 6, 7, 2]
 refine Z2j (m := 0) (c := 0) O (cs := #[]) (t := 38) 5 hE k rfl (by rfl) (by rfl) rfl (by simp [go_sem, ↓IntWalk.iteOmega]) ?_
 clear O
 intro g0 a5 w6 O hE e5 kp
 refine zm 6 hE k e0 ?_
 intro a7 hE e6 kp
 replace e5 := kt kp e5
 obtain ⟨v2, w2, hrun, O2⟩ := Z4o (m := n) (c := cap) (OwnT.asRowE (k := 2) O) elemPr (by decide) (by rw [Z0w, hl]) (Z3l (hrow.below O.below)) (Z1l ps) (by unfold maxLen; omega) (by omega)
 refine Z0o rfl _ _ _ _ rfl _ _ e5 e6 (hrun _) ?_
 replace O := O2
 clear O2 hrun
 refine Z6p 7 hE k (by rfl) (by rfl) ?_
 intro a8 hE e7 kp
 refine sd 2 hE k (Z01 rfl e7) ?_
 intro a9 hE e2 kp
 refine wpList_nil ?_
 replace k := k.env hE
 clear hE e0 e4
 refine Z00 ?_
 refine wp_ret ?_
 refine Z0p rfl k e2 ?_
 exact ⟨_, rfl, by have h := O.rowBase; rwa [Nat.zero_add, List.nil_append] at h, O.below⟩
/-- A row's clone. -/
theorem Z58 {H : Nat} {A0 : World} {R : List Thing} {B : Option Addr} {cap n : Nat} (ps : List Pr) (w : World) (O : OwnT H A0 R w) (hl : ps.length = n) (hrow : Row w B 2 pairC ps) (hB : SlB B cap ps) (hn : n ≤ 1000000) :
 Calls Try.prog 76 #[.slice B n cap] w fun e w' => ∃ v', e = .returned v' ∧ OwnT H A0 (tPs v' ps :: R) w' ∧ Ext w w' := by
 subst hl
 rcases hB with ⟨rfl, rfl, rfl⟩ | ⟨g, off, rfl⟩
 · refine (Z82 w).mono ?_
   rintro e w' ⟨v', rfl, h1, h2⟩
   exact ⟨v', rfl, O.newRow h2 h1, h2⟩
 · refine (Z6z g off cap _ ps w rfl hrow hn).mono ?_
   rintro e w' ⟨v', rfl, h1, h2⟩
   exact ⟨v', rfl, O.newRow h2 h1, h2⟩

set_option maxRecDepth 100000 in
set_option maxHeartbeats 4000000 in
theorem Z47 {H : Nat} {A0 : World} {R : List Thing} {sb cap : Nat} {room : Int} {B : Option Addr} {vs : List Value} {N : List Nd} (q l : Nat) (ps : List Pr) (w : World) (O : OwnT H A0 (shT sb room B cap vs N R) w) (hN : N.length ≤ 1000000) (hq : ndAt N q = some (l, ps)) (hps : ps.length ≤ 1000000) : Calls Try.prog 55 #[.pointer (some ⟨sb, 0, none⟩), .int .i64 q] w fun e w' => ∃ v, e = .returned (.tuple #[.agg #[.int .i64 l, v], .int .i64 0]) ∧ OwnT H A0 (tPs v ps :: shT sb room B cap vs N R) w' ∧ Ext w w' := by
 obtain ⟨h1, h2⟩ := Z5p hq
 obtain ⟨i, rfl⟩ : ∃ i, q = i + 1 := ⟨q - 1, by omega⟩
 have hi : N[i]? = some (l, ps) := by unfold ndAt at hq; rwa [if_neg (by omega), Nat.add_sub_cancel] at hq
 obtain ⟨g, u, rfl, hu, c0, c1⟩ := sh_node O hi
 obtain ⟨Bu, cu, rfl, hu1, hu2, hur, hus⟩ := Z0r hu
 have hb := Ext.refl w
 have Ob := O
 clear O
 obtain ⟨W0, hW0⟩ : ∃ W, w = W := ⟨_, rfl⟩
 rw [hW0] at Ob c0 c1 hur hb ⊢
 have O := OwnT.start W0

 refine Z0c Try.func55 rfl 37 rfl (by rfl) ?_
 intro a1 k hargs
 have e0 : a1.eval (.tmp 0) = .pointer (some ⟨sb, 0, none⟩) := hargs 0 _ rfl
 have e1 : a1.eval (.tmp 1) = .int .i64 (↑(i + 1)) := hargs 1 _ rfl
 clear hargs
 refine wp_seq ?_
 refine wp_region_lit ?_
 have hE := Env.refl a1 [4, 5]
 refine Z0k O (cs := #[.int .i64 0, .slice none 0 0]) (t := 125) 4 hE k rfl (by rfl) (by rfl) rfl (by simp [go_sem, ↓IntWalk.iteOmega]) ?_
 clear O
 intro lb a2 w3 O hE e4 kp
 refine sd 5 hE k (Z01 rfl rfl) ?_
 intro a4 hE e5 kp
 replace e4 := kt kp e4
 refine wpList_nil ?_
 replace e0 := hE.g e0; replace e1 := hE.g e1
 replace k := k.env hE
 clear hE e5
 refine Z00 (wp_seq ?_)
 refine wp_block ?_
 refine wp_seq ?_
 refine wp_region_lit ?_
 have hE := Env.refl a4 [8, 9, 7]
 refine zm 8 hE k e0 ?_
 intro a5 hE e8 kp
 apply Z02 9 hE k rfl rfl rfl rfl
 case h =>
  simp [go_sem, ↓IntWalk.iteOmega, ev e8]
  with_reducible rfl
 intro a6 hE e9 kp
 refine sd 7 hE k (Z01 rfl e9) ?_
 intro a7 hE e7 kp
 refine wpList_nil ?_
 replace e0 := hE.g e0; replace e1 := hE.g e1; replace e4 := hE.g e4
 replace k := k.env hE
 clear hE
 refine Z00 ?_
 refine Z05 e7 rfl ?_
 have cs0 : w3.cell? ⟨sb, 0, none⟩ = some (.slice (some ⟨g, 0, none⟩) N.length cap) := cellB O.below ((OwnT.blk Ob 0 rfl).cell 0)
 refine wp_seq ?_
 refine wp_region_lit ?_
 have hE := Env.refl a7 [12, 13, 14, 15, 16, 17, 18, 19, 20, 21, 22, 11]
 refine zm 12 hE k e1 ?_
 intro a8 hE e12 kp
 refine sd 13 hE k (Z06 (Z1c rfl e12 rfl) (decide_eq_false (by omega))) ?_
 intro a9 hE e13 kp
 refine sd 14 hE k (Z03 rfl e13) ?_
 intro a10 hE e14 kp
 apply Z04 15 hE k rfl rfl rfl rfl rfl e14
 case h =>
  exact Z03 rfl (hE.g e1)
 intro a11 hE e15 kp
 replace e14 := kt kp e14
 apply Z04 16 hE k rfl rfl rfl rfl rfl e14
 case h =>
  exact Z03 rfl (hE.g e0)
 intro a12 hE e16 kp
 replace e14 := kt kp e14; replace e15 := kt kp e15
 apply Z04 17 hE k rfl rfl rfl rfl rfl e14
 case h =>
  exact Z1e rfl e16
 intro a13 hE e17 kp
 replace e14 := kt kp e14; replace e15 := kt kp e15
 apply Z04 18 hE k rfl rfl rfl rfl rfl e14
 case h =>
  simp [go_sem, ↓IntWalk.iteOmega, ev e17]
  with_reducible rfl
 intro a14 hE e18 kp
 replace e14 := kt kp e14; replace e15 := kt kp e15
 apply Z04 19 hE k rfl rfl rfl rfl rfl e14
 case h =>
  simp [go_sem, ↓IntWalk.iteOmega, ev e18, cs0]
  with_reducible rfl
 intro a15 hE e19 kp
 replace e14 := kt kp e14; replace e15 := kt kp e15
 apply Z04 20 hE k rfl rfl rfl rfl rfl e14
 case h =>
  exact Z0f Try.underlying26 rfl e19
 intro a16 hE e20 kp
 replace e14 := kt kp e14; replace e15 := kt kp e15
 apply Z04 21 hE k rfl rfl rfl rfl rfl e14
 case h =>
  exact Z06 (Z1m rfl e15 e20) (decide_eq_false (by omega))
 intro a17 hE e21 kp
 replace e14 := kt kp e14
 refine sd 22 hE k (Z0e rfl e14 e21) ?_
 intro a18 hE e22 kp
 refine sd 11 hE k (Z01 rfl e22) ?_
 intro a19 hE e11 kp
 refine wpList_nil ?_
 replace e0 := hE.g e0; replace e1 := hE.g e1; replace e4 := hE.g e4
 replace k := k.env hE
 clear hE e7
 refine Z00 ?_
 refine Z05 e11 rfl ?_
 refine wp_skip ?_
 refine Z0t ?_
 refine Z00 ?_
 have d0 : w3.cell? ⟨g, i * 2, none⟩ = some (.int .i64 (l : Int)) := cellB O.below c0
 have d1 : w3.cell? ⟨g, i * 2 + 1, none⟩ = some (.slice Bu ps.length cu) := cellB O.below c1
 refine wp_seq ?_
 refine wp_region_lit ?_
 have hE := Env.refl a19 [24, 25, 26, 27, 28, 29, 30, 31, 6]
 refine zm 24 hE k e0 ?_
 intro a20 hE e24 kp
 refine sd 25 hE k (Z1e rfl e24) ?_
 intro a21 hE e25 kp
 apply Z02 26 hE k rfl rfl rfl rfl
 case h =>
  simp [go_sem, ↓IntWalk.iteOmega, ev e25]
  with_reducible rfl
 intro a22 hE e26 kp
 apply Z02 27 hE k rfl rfl rfl rfl
 case h =>
  simp [go_sem, ↓IntWalk.iteOmega, ev e26, cs0]
  with_reducible rfl
 intro a23 hE e27 kp
 refine zm 28 hE k e1 ?_
 intro a24 hE e28 kp
 replace e27 := kt kp e27
 refine sd 29 hE k (Z2t rfl e28 rfl (by omega)) ?_
 intro a25 hE e29 kp
 replace e27 := kt kp e27
 replace e29 := e29.trans (Z0h (show ((i + 1 : Nat) : Int) - 1 = (i : Int) by omega))
 apply Z02 30 hE k rfl rfl rfl rfl
 case h =>
  simp [go_sem, ↓IntWalk.iteOmega, ev e27, ev e29]
  with_reducible rfl
 intro a26 hE e30 kp
 apply Z02 31 hE k rfl rfl rfl rfl
 case h =>
  simp [go_sem, ↓IntWalk.iteOmega, ev e30, d0, d1]
  with_reducible rfl
 intro a27 hE e31 kp
 refine Z0k O (cs := #[.int .i64 0, .slice none 0 0]) (t := 125) 6 hE k rfl (by rfl) (by rfl) rfl (by simp [go_sem, ↓IntWalk.iteOmega]) ?_
 clear O
 intro nb a28 w29 O hE e6 kp
 replace e31 := kt kp e31
 have q0 : w29.cell? ⟨nb, 0, none⟩ = some (.int .i64 0) := (OwnT.blk O 0 rfl).cell 0
 have z0 : w29.frozen? ⟨nb, 0, none⟩ = false := (OwnT.blk O 0 rfl).frozen 0
 have q1 : w29.cell? ⟨nb, 1, none⟩ = some (.slice none 0 0) := (OwnT.blk O 0 rfl).cell 1
 have z1 : w29.frozen? ⟨nb, 1, none⟩ = false := (OwnT.blk O 0 rfl).frozen 1
 refine Z0y (w' := ((w29.setCell ⟨nb, 0, none⟩ (.int .i64 ↑l)).setCell ⟨nb, 1, none⟩ (.slice Bu ps.length cu))) hE rfl rfl (by simp [go_sem, ↓IntWalk.iteOmega, ev e6, ev e31, q0, z0, q1, z1]) ?_
 replace O := OwnT.push 0 rfl (((OwnT.pull O 0 rfl).set 0 (.int .i64 ↑l)).set 1 (.slice Bu ps.length cu))
 clear q0 z0 q1 z1
 generalize ((w29.setCell ⟨nb, 0, none⟩ (.int .i64 ↑l)).setCell ⟨nb, 1, none⟩ (.slice Bu ps.length cu)) = w30 at O ⊢
 replace O : OwnT _ _ ([tBlk nb 125 #[.int .i64 ↑l, .slice Bu ps.length cu], tBlk lb 125 #[.int .i64 0, .slice none 0 0]]) w30 := O
 refine wpList_nil ?_
 replace e4 := hE.g e4
 replace k := k.env hE
 clear hE e0 e1 e11 e31
 refine Z00 (wp_seq ?_)
 refine wp_region_lit ?_
 have hE := Env.refl a28 [32, 33, 34, 35]
 apply Z02 32 hE k rfl rfl rfl rfl
 case h =>
  simp [go_sem, ↓IntWalk.iteOmega, ev (hE.g e6)]
  with_reducible rfl
 intro a31 hE e32 kp
 apply Z02 33 hE k rfl rfl rfl rfl
 case h =>
  have q0 : w30.cell? ⟨nb, 1, none⟩ = some (.slice Bu ps.length cu) := (OwnT.blk O 0 rfl).cell 1
  simp [go_sem, ↓IntWalk.iteOmega, ev e32, q0]
  with_reducible rfl
 intro a32 hE e33 kp
 apply Z08 34 hE k rfl (by rfl) (by rfl) rfl
 case h =>
  simp [go_sem, ↓IntWalk.iteOmega, ev e33]
  with_reducible exact ⟨rfl, rfl⟩
 case hc => exact Z58 ps _ O rfl (hur.below O.below) hus hps
 clear O
 rintro e w34 ⟨v, rfl, O, -⟩
 obtain ⟨Bv, cv, rfl⟩ := Z3d (OwnT.t0 O : World.ownsRow _ 0 38 2 v ps.length _)
 refine ⟨_, rfl, ?_⟩
 intro a33 hE e34 kp
 apply Z02 35 hE k rfl rfl rfl rfl
 case h =>
  simp [go_sem, ↓IntWalk.iteOmega, ev (hE.g e6)]
  with_reducible rfl
 intro a35 hE e35 kp
 replace e34 := kt kp e34
 have q0 : w34.cell? ⟨nb, 1, none⟩ = some (.slice Bu ps.length cu) := (OwnT.blk O 1 rfl).cell 1
 have q1 : w34.frozen? ⟨nb, 1, none⟩ = false := (OwnT.blk O 1 rfl).frozen 1
 refine Z1b (off := 1) (v := .slice Bv ps.length cv) O 1 rfl hE rfl rfl (by simp [go_sem, ↓IntWalk.iteOmega, ev e34, ev e35, q0, q1]) ?_
 clear q0 q1
 clear O
 intro w36 O
 replace O : OwnT _ _ ([tPs (.slice Bv ps.length cv) ps, tBlk nb 125 #[.int .i64 ↑l, .slice Bv ps.length cv], tBlk lb 125 #[.int .i64 0, .slice none 0 0]]) w36 := O
 refine wpList_nil ?_
 replace e4 := hE.g e4; replace e6 := hE.g e6
 replace k := k.env hE
 clear hE e34 e35
 refine Z00 (wp_seq ?_)
 refine wp_region_lit ?_
 have hE := Env.refl a35 [36, 5]
 apply Z02 36 hE k rfl rfl rfl rfl
 case h =>
  have q0 : w36.cell? ⟨nb, 0, none⟩ = some (.int .i64 ↑l) := (OwnT.blk O 1 rfl).cell 0
  have q1 : w36.cell? ⟨nb, 1, none⟩ = some (.slice Bv ps.length cv) := (OwnT.blk O 1 rfl).cell 1
  simp [go_sem, ↓IntWalk.iteOmega, ev (hE.g e6), q0, q1]
  with_reducible rfl
 intro a37 hE e36 kp
 have q0 : w36.cell? ⟨lb, 0, none⟩ = some (.int .i64 0) := (OwnT.blk O 2 rfl).cell 0
 have z0 : w36.frozen? ⟨lb, 0, none⟩ = false := (OwnT.blk O 2 rfl).frozen 0
 have q1 : w36.cell? ⟨lb, 1, none⟩ = some (.slice none 0 0) := (OwnT.blk O 2 rfl).cell 1
 have z1 : w36.frozen? ⟨lb, 1, none⟩ = false := (OwnT.blk O 2 rfl).frozen 1
 refine Z0y (w' := ((w36.setCell ⟨lb, 0, none⟩ (.int .i64 ↑l)).setCell ⟨lb, 1, none⟩ (.slice Bv ps.length cv))) hE rfl rfl (by simp [go_sem, ↓IntWalk.iteOmega, ev (hE.g e4), ev e36, q0, z0, q1, z1]) ?_
 replace O := OwnT.push 2 rfl (((OwnT.pull O 2 rfl).set 0 (.int .i64 ↑l)).set 1 (.slice Bv ps.length cv))
 clear q0 z0 q1 z1
 generalize ((w36.setCell ⟨lb, 0, none⟩ (.int .i64 ↑l)).setCell ⟨lb, 1, none⟩ (.slice Bv ps.length cv)) = w38 at O ⊢
 replace O : OwnT _ _ ([tPs (.slice Bv ps.length cv) ps, tBlk nb 125 #[.int .i64 ↑l, .slice Bv ps.length cv], tBlk lb 125 #[.int .i64 ↑l, .slice Bv ps.length cv]]) w38 := O
 refine sd 5 hE k (Z01 rfl rfl) ?_
 intro a39 hE e5 kp
 refine wpList_nil ?_
 replace e4 := hE.g e4
 replace k := k.env hE
 clear hE e6
 refine Z00 ?_
 refine wp_ret ?_
 have q0 : w38.cell? ⟨lb, 0, none⟩ = some (.int .i64 ↑l) := (OwnT.blk O 2 rfl).cell 0
 have q1 : w38.cell? ⟨lb, 1, none⟩ = some (.slice Bv ps.length cv) := (OwnT.blk O 2 rfl).cell 1
 refine Z5i rfl k e4 e5 (v := .agg #[.int .i64 ↑l, .slice Bv ps.length cv]) (by simp [go_sem, ↓IntWalk.iteOmega, q0, q1]) ?_
 exact ⟨_, rfl, Ob.newRow O.below ((OwnT.pick O [0] (by decide) : OwnT _ _ [tPs (.slice Bv ps.length cv) ps] _).rowBase), O.below⟩
set_option maxRecDepth 100000 in
set_option maxHeartbeats 4000000 in
theorem Z2b {H : Nat} {A0 : World} {R : List Thing} {sb cap : Nat} {room : Int} {B : Option Addr} {vs : List Value} {N : List Nd} {Bx : Option Addr} {cx l : Nat} (ps : List Pr) (w : World) (O : OwnT H A0 (shT sb room B cap vs N R) w) (hN : N.length ≤ 1000000) (hf : ¬ (N.length < 511 ∧ (N.length : Int) < room)) : Calls Try.prog 118 #[.pointer (some ⟨sb, 0, none⟩), .agg #[.int .i64 ↑l, .slice Bx ps.length cx]] w fun e w' => e = .returned (.tuple #[.int .i64 0, .int .i64 6]) ∧ OwnT H A0 (shT sb room B cap vs N R) w'  := by
 refine Z0c Try.func118 rfl 40 rfl (by rfl) ?_
 intro a1 k hargs
 have e0 : a1.eval (.tmp 0) = .pointer (some ⟨sb, 0, none⟩) := hargs 0 _ rfl
 have e1 : a1.eval (.tmp 1) = .agg #[.int .i64 ↑l, .slice Bx ps.length cx] := hargs 1 _ rfl
 clear hargs
 refine wp_seq ?_
 refine wp_region_lit ?_
 have hE := Env.refl a1 [3, 4, 5]
 refine Z0k O (cs := #[.int .i64 ↑l, .slice Bx ps.length cx]) (t := 125) 3 hE k rfl (by rfl) (by rfl) rfl (by simp [go_sem, ↓IntWalk.iteOmega, ev (hE.g e1)]) ?_
 clear O
 intro lb a2 w3 O hE e3 kp
 refine sd 4 hE k (Z01 rfl rfl) ?_
 intro a4 hE e4 kp
 replace e3 := kt kp e3
 refine sd 5 hE k (Z01 rfl rfl) ?_
 intro a5 hE e5 kp
 replace e3 := kt kp e3
 refine wpList_nil ?_
 replace e0 := hE.g e0
 replace k := k.env hE
 clear hE e1 e5
 refine Z00 (wp_seq ?_)
 refine wp_block ?_
 refine wp_seq ?_
 refine wp_region_lit ?_
 have hE := Env.refl a5 [7, 8, 6]
 refine zm 7 hE k e0 ?_
 intro a6 hE e7 kp
 apply Z02 8 hE k rfl rfl rfl rfl
 case h =>
  simp [go_sem, ↓IntWalk.iteOmega, ev e7]
  with_reducible rfl
 intro a7 hE e8 kp
 refine sd 6 hE k (Z01 rfl e8) ?_
 intro a8 hE e6 kp
 refine wpList_nil ?_
 replace e0 := hE.g e0; replace e3 := hE.g e3
 replace k := k.env hE
 clear hE
 refine Z00 ?_
 refine Z05 e6 rfl ?_
 refine wp_seq ?_
 refine Z0a (R := Ext) (w0 := w3) [[], [0], [0, 1], [0, 1, 2], [0, 1, 2, 3], [], [5], [5, 6], [5, 6, 7], [5, 6, 7, 8], [0, 1, 2, 3, 4, 5, 6, 7, 8, 9], [0, 1, 2, 3, 4, 5, 6, 7, 8, 9, 10]] [10, 11, 12, 13, 14, 15, 16, 17, 18, 19, 20, 9] Ext.refl (fun _ _ _ => Ext.trans) (Ext.drew _) (by kernel_rfl) ?_
 apply bd 10 k rfl rfl rfl
 case h =>
  intro ax wx hE hR hF
  exact Z03 rfl (hE.g e0)
 apply bd 11 k rfl rfl rfl
 case h =>
  intro ax wx hE hR hF
  have e10 := zhF hF 0 10 ml0
  exact Z1e rfl e10
 apply bd 12 k rfl rfl rfl
 case h =>
  intro ax wx hE hR hF
  have e11 := zhF hF 1 11 ml0
  simp [go_sem, ↓IntWalk.iteOmega, ev e11]
  with_reducible rfl
 apply bd 13 k rfl rfl rfl
 case h =>
  intro ax wx hE hR hF
  have e12 := zhF hF 2 12 ml0
  have q0 : wx.cell? ⟨sb, 0, none⟩ = some (.slice B N.length cap) := (OwnT.blk (OwnT.ext O hR) 1 rfl).cell 0
  simp [go_sem, ↓IntWalk.iteOmega, ev e12, q0]
  with_reducible rfl
 apply bd 14 k rfl rfl rfl
 case h =>
  intro ax wx hE hR hF
  have e13 := zhF hF 3 13 ml0
  exact Z0f Try.underlying26 rfl e13
 apply bd 15 k rfl rfl rfl
 case h =>
  intro ax wx hE hR hF
  exact Z03 rfl (hE.g e0)
 apply bd 16 k rfl rfl rfl
 case h =>
  intro ax wx hE hR hF
  have e15 := zhF hF 5 15 ml0
  exact Z1e rfl e15
 apply bd 17 k rfl rfl rfl
 case h =>
  intro ax wx hE hR hF
  have e16 := zhF hF 6 16 ml0
  simp [go_sem, ↓IntWalk.iteOmega, ev e16]
  with_reducible rfl
 apply bd 18 k rfl rfl rfl
 case h =>
  intro ax wx hE hR hF
  have e17 := zhF hF 7 17 ml0
  have q0 : wx.cell? ⟨sb, 1, none⟩ = some (.int .i64 room) := (OwnT.blk (OwnT.ext O hR) 1 rfl).cell 1
  simp [go_sem, ↓IntWalk.iteOmega, ev e17, q0]
  with_reducible rfl
 apply bd 19 k rfl rfl rfl
 case h =>
  intro ax wx hE hR hF
  have e18 := zhF hF 8 18 ml0
  exact x_min rfl e18 rfl
 apply bd 20 k rfl rfl rfl
 case h =>
  intro ax wx hE hR hF
  have e14 := zhF hF 4 14 ml5
  have e19 := zhF hF 9 19 ml0
  exact Z06 (Z3n rfl e14 e19) (decide_eq_true (by omega))
 apply bd 9 k rfl rfl rfl
 case h =>
  intro ax wx hE hR hF
  have e20 := zhF hF 10 20 ml0
  exact Z01 rfl e20
 apply Build.stop
 refine ⟨by kernel_rfl, .inl ⟨rfl, ?_⟩⟩
 intro a9 w10 hE R hF
 have e9 : a9.eval (.tmp 9) = _ := hF 11 (det 9 _) ml0
 clear hF
 replace O := OwnT.ext O R
 clear R
 replace e0 := hE.g e0; replace e3 := hE.g e3
 replace k := k.env hE
 clear hE e6
 refine Z00 ?_
 refine Z0g e9 rfl ?_
 refine wp_seq ?_
 refine wp_region_lit ?_
 have hE := Env.refl a9 [4, 5]
 refine sd 4 hE k (Z01 rfl rfl) ?_
 intro a11 hE e4 kp
 refine sd 5 hE k (Z01 rfl rfl) ?_
 intro a12 hE e5 kp
 replace e4 := kt kp e4
 refine wpList_nil ?_
 replace k := k.env hE
 clear hE e0 e3 e9
 refine Z00 ?_
 refine wp_ret ?_
 refine Z0s ?_
 refine Z0d ?_
 refine Z1o rfl k e4 e5 ?_
 exact ⟨rfl, O.tail⟩
set_option maxRecDepth 100000 in
set_option maxHeartbeats 4000000 in
theorem Z3b {H : Nat} {A0 : World} {R : List Thing} {sb cap : Nat} {room : Int} {B : Option Addr} {vs : List Value} {N : List Nd} {Bx : Option Addr} {cx l : Nat} (ps : List Pr) (w : World) (O : OwnT H A0 (shT sb room B cap vs N R) w) (hN : N.length ≤ 1000000) (hf : N.length < 511 ∧ (N.length : Int) < room) (hrow : Row w Bx 2 pairC ps) (hB : SlB Bx cx ps) (hn : ps.length ≤ 1000000) : Calls Try.prog 118 #[.pointer (some ⟨sb, 0, none⟩), .agg #[.int .i64 ↑l, .slice Bx ps.length cx]] w fun e w' => e = .returned (.tuple #[.int .i64 ((N.length + 1 : Nat) : Int), .int .i64 0]) ∧ ∃ B' cap' vs', OwnT H A0 (shT sb room B' cap' vs' (N ++ [(l, ps)]) R) w'  := by
 refine Z0c Try.func118 rfl 40 rfl (by rfl) ?_
 intro a1 k hargs
 have e0 : a1.eval (.tmp 0) = .pointer (some ⟨sb, 0, none⟩) := hargs 0 _ rfl
 have e1 : a1.eval (.tmp 1) = .agg #[.int .i64 ↑l, .slice Bx ps.length cx] := hargs 1 _ rfl
 clear hargs
 refine wp_seq ?_
 refine wp_region_lit ?_
 have hE := Env.refl a1 [3, 4, 5]
 refine sq_newE O (cs := #[.int .i64 ↑l, .slice Bx ps.length cx]) (t := 125) 3 hE k rfl (by rfl) (by rfl) rfl (by simp [go_sem, ↓IntWalk.iteOmega, ev (hE.g e1)]) ?_
 clear O
 intro lb a2 w3 RX O hE e3 kp
 replace hrow := Row.below hrow RX
 clear RX
 refine sd 4 hE k (Z01 rfl rfl) ?_
 intro a4 hE e4 kp
 replace e3 := kt kp e3
 refine sd 5 hE k (Z01 rfl rfl) ?_
 intro a5 hE e5 kp
 replace e3 := kt kp e3
 refine wpList_nil ?_
 replace e0 := hE.g e0
 replace k := k.env hE
 clear hE e1 e5
 refine Z00 (wp_seq ?_)
 refine wp_block ?_
 refine wp_seq ?_
 refine wp_region_lit ?_
 have hE := Env.refl a5 [7, 8, 6]
 refine zm 7 hE k e0 ?_
 intro a6 hE e7 kp
 apply Z02 8 hE k rfl rfl rfl rfl
 case h =>
  simp [go_sem, ↓IntWalk.iteOmega, ev e7]
  with_reducible rfl
 intro a7 hE e8 kp
 refine sd 6 hE k (Z01 rfl e8) ?_
 intro a8 hE e6 kp
 refine wpList_nil ?_
 replace e0 := hE.g e0; replace e3 := hE.g e3
 replace k := k.env hE
 clear hE
 refine Z00 ?_
 refine Z05 e6 rfl ?_
 refine wp_seq ?_
 refine Z0a (R := Ext) (w0 := w3) [[], [0], [0, 1], [0, 1, 2], [0, 1, 2, 3], [], [5], [5, 6], [5, 6, 7], [5, 6, 7, 8], [0, 1, 2, 3, 4, 5, 6, 7, 8, 9], [0, 1, 2, 3, 4, 5, 6, 7, 8, 9, 10]] [10, 11, 12, 13, 14, 15, 16, 17, 18, 19, 20, 9] Ext.refl (fun _ _ _ => Ext.trans) (Ext.drew _) (by kernel_rfl) ?_
 apply bd 10 k rfl rfl rfl
 case h =>
  intro ax wx hE hR hF
  exact Z03 rfl (hE.g e0)
 apply bd 11 k rfl rfl rfl
 case h =>
  intro ax wx hE hR hF
  have e10 := zhF hF 0 10 ml0
  exact Z1e rfl e10
 apply bd 12 k rfl rfl rfl
 case h =>
  intro ax wx hE hR hF
  have e11 := zhF hF 1 11 ml0
  simp [go_sem, ↓IntWalk.iteOmega, ev e11]
  with_reducible rfl
 apply bd 13 k rfl rfl rfl
 case h =>
  intro ax wx hE hR hF
  have e12 := zhF hF 2 12 ml0
  have q0 : wx.cell? ⟨sb, 0, none⟩ = some (.slice B N.length cap) := (OwnT.blk (OwnT.ext O hR) 1 rfl).cell 0
  simp [go_sem, ↓IntWalk.iteOmega, ev e12, q0]
  with_reducible rfl
 apply bd 14 k rfl rfl rfl
 case h =>
  intro ax wx hE hR hF
  have e13 := zhF hF 3 13 ml0
  exact Z0f Try.underlying26 rfl e13
 apply bd 15 k rfl rfl rfl
 case h =>
  intro ax wx hE hR hF
  exact Z03 rfl (hE.g e0)
 apply bd 16 k rfl rfl rfl
 case h =>
  intro ax wx hE hR hF
  have e15 := zhF hF 5 15 ml0
  exact Z1e rfl e15
 apply bd 17 k rfl rfl rfl
 case h =>
  intro ax wx hE hR hF
  have e16 := zhF hF 6 16 ml0
  simp [go_sem, ↓IntWalk.iteOmega, ev e16]
  with_reducible rfl
 apply bd 18 k rfl rfl rfl
 case h =>
  intro ax wx hE hR hF
  have e17 := zhF hF 7 17 ml0
  have q0 : wx.cell? ⟨sb, 1, none⟩ = some (.int .i64 room) := (OwnT.blk (OwnT.ext O hR) 1 rfl).cell 1
  simp [go_sem, ↓IntWalk.iteOmega, ev e17, q0]
  with_reducible rfl
 apply bd 19 k rfl rfl rfl
 case h =>
  intro ax wx hE hR hF
  have e18 := zhF hF 8 18 ml0
  exact x_min rfl e18 rfl
 apply bd 20 k rfl rfl rfl
 case h =>
  intro ax wx hE hR hF
  have e14 := zhF hF 4 14 ml5
  have e19 := zhF hF 9 19 ml0
  exact Z06 (Z3n rfl e14 e19) (decide_eq_false (by omega))
 apply bd 9 k rfl rfl rfl
 case h =>
  intro ax wx hE hR hF
  have e20 := zhF hF 10 20 ml0
  exact Z01 rfl e20
 apply Build.stop
 refine ⟨by kernel_rfl, .inl ⟨rfl, ?_⟩⟩
 intro a9 w10 hE R hF
 have e9 : a9.eval (.tmp 9) = _ := hF 11 (det 9 _) ml0
 clear hF
 replace O := OwnT.ext O R
 replace hrow := Row.below hrow R
 clear R
 replace e0 := hE.g e0; replace e3 := hE.g e3
 replace k := k.env hE
 clear hE e6
 refine Z00 ?_
 refine Z05 e9 rfl ?_
 refine wp_skip ?_
 refine Z0t ?_
 refine Z00 (wp_seq ?_)
 refine wp_region_lit ?_
 have hE := Env.refl a9 [21, 22, 23, 24]
 apply Z02 21 hE k rfl rfl rfl rfl
 case h =>
  simp [go_sem, ↓IntWalk.iteOmega, ev (hE.g e3)]
  with_reducible rfl
 intro a11 hE e21 kp
 apply Z02 22 hE k rfl rfl rfl rfl
 case h =>
  have q0 : w10.cell? ⟨lb, 1, none⟩ = some (.slice Bx ps.length cx) := (OwnT.blk O 0 rfl).cell 1
  simp [go_sem, ↓IntWalk.iteOmega, ev e21, q0]
  with_reducible rfl
 intro a12 hE e22 kp
 apply Z08 23 hE k rfl (by rfl) (by rfl) rfl
 case h =>
  simp [go_sem, ↓IntWalk.iteOmega, ev e22]
  with_reducible exact ⟨rfl, rfl⟩
 case hc => exact Z58 ps _ O rfl hrow hB hn
 clear O
 rintro e w14 ⟨v, rfl, O, -⟩
 obtain ⟨Bv, cv, rfl⟩ := Z3d (OwnT.t0 O : World.ownsRow _ 0 38 2 v ps.length _)
 refine ⟨_, rfl, ?_⟩
 intro a13 hE e23 kp
 apply Z02 24 hE k rfl rfl rfl rfl
 case h =>
  simp [go_sem, ↓IntWalk.iteOmega, ev (hE.g e3)]
  with_reducible rfl
 intro a15 hE e24 kp
 replace e23 := kt kp e23
 have q0 : w14.cell? ⟨lb, 1, none⟩ = some (.slice Bx ps.length cx) := (OwnT.blk O 1 rfl).cell 1
 have q1 : w14.frozen? ⟨lb, 1, none⟩ = false := (OwnT.blk O 1 rfl).frozen 1
 refine Z1b (off := 1) (v := .slice Bv ps.length cv) O 1 rfl hE rfl rfl (by simp [go_sem, ↓IntWalk.iteOmega, ev e23, ev e24, q0, q1]) ?_
 clear q0 q1
 clear O
 intro w16 O
 replace O : OwnT _ _ ((tPs (.slice Bv ps.length cv) ps) :: (tBlk lb 125 #[.int .i64 ↑l, .slice Bv ps.length cv]) :: (tBlk sb 28 #[.slice B N.length cap, .int .i64 room]) :: (tRow 125 2 (.slice B N.length cap) N.length (leafV vs N)) :: (tPool vs N) :: R) w16 := O
 refine wpList_nil ?_
 replace e0 := hE.g e0; replace e3 := hE.g e3
 replace k := k.env hE
 clear hE e9 e23 e24
 refine Z00 ?_
 clear hrow
 have hvl := sh_len (OwnT.pickR (L := [_, _, _, _, _]) (R := R) O [2, 3, 4] (by decide))
 replace O : OwnT _ _ ((tRow 125 2 (.slice B N.length cap) N.length (leafV vs N)) :: (tBlk sb 28 #[.slice B N.length cap, .int .i64 room]) :: (tPs (.slice Bv ps.length cv) ps) :: (tPool vs N) :: (tBlk lb 125 #[.int .i64 ↑l, .slice Bv ps.length cv]) :: R) w16 := OwnT.pickR (L := [_, _, _, _, _]) (R := R) O [3, 2, 0, 4, 1] (by decide)
 replace O : OwnT _ _ ((tRow 125 2 (.slice B N.length cap) N.length (leafV vs N)) :: (tBlk sb 28 #[.slice B N.length cap, .int .i64 room]) :: (tPs (.slice Bv ps.length cv) ps) :: (tPool vs N) :: (tBlk lb 125 #[.int .i64 ↑l, .slice Bv ps.length cv]) :: R) w16 := O
 refine wp_seq ?_
 obtain ⟨gs, hgs⟩ : ∃ z, w16.heap.size = z := ⟨_, rfl⟩
 refine Z2v (fun l_ w_ w_' => if l_ 7 = true then Ext w_ w_' else True) (fun l_ w_ => AppI _ _ 125 2 (.slice B N.length cap) N.length (leafV vs N) gs [Value.int .i64 (l : Int), Value.slice Bv ps.length cv] ((tBlk sb 28 #[.slice B N.length cap, .int .i64 room]) :: (tPs (.slice Bv ps.length cv) ps) :: (tPool vs N) :: (tBlk lb 125 #[.int .i64 ↑l, .slice Bv ps.length cv]) :: R) (l_ 6) (l_ 7) w_) [[], [], [1], [1, 2], [1, 2, 3], [], [5], [1, 2, 3, 4, 5, 6], [0, 1, 2, 3, 4, 5, 6, 7], [0, 1, 2, 3, 4, 5, 6, 7, 8], [0, 1, 2, 3, 4, 5, 6, 7, 8, 9]] [25, 26, 27, 28, 29, 30, 31, 32, 33, 34] (fun l w => by split; exact Ext.refl _; exact True.intro) (by rw [← hgs]; exact AppI.start O) (by kernel_rfl) ?_
 apply BuildL.det 25 (fun l w => by split; exact Ext.refl _; exact True.intro) (fun l w h => h) (by rfl) (by rw [k.size]; rfl) rfl
 case h =>
  intro lx ax wx hE hR hF
  exact Z03 rfl (hE.g e0)
 apply BuildL.det 26 (fun l w => by split; exact Ext.refl _; exact True.intro) (fun l w h => h) (by rfl) (by rw [k.size]; rfl) rfl
 case h =>
  intro lx ax wx hE hR hF
  exact Z03 rfl (hE.g e0)
 apply BuildL.det 27 (fun l w => by split; exact Ext.refl _; exact True.intro) (fun l w h => h) (by rfl) (by rw [k.size]; rfl) rfl
 case h =>
  intro lx ax wx hE hR hF
  have e26 := hF 1 (detL 1 26 _) (by decide) ml0
  exact Z1e rfl e26
 apply BuildL.det 28 (fun l w => by split; exact Ext.refl _; exact True.intro) (fun l w h => h) (by rfl) (by rw [k.size]; rfl) rfl
 case h =>
  intro lx ax wx hE hR hF
  have e27 := hF 2 (detL 2 27 _) (by decide) ml0
  simp [go_sem, ↓IntWalk.iteOmega, ev e27]
  with_reducible rfl
 apply BuildL.det 29 (fun l w => by split; exact Ext.refl _; exact True.intro) (fun l w h => h) (by rfl) (by rw [k.size]; rfl) rfl
 case h =>
  intro lx ax wx hE hR hF
  have e28 := hF 3 (detL 3 28 _) (by decide) ml0
  have q0 : wx.cell? ⟨sb, 0, none⟩ = some (.slice B N.length cap) := (OwnT.blk (AppI.own hR) 0 rfl).cell 0
  simp [go_sem, ↓IntWalk.iteOmega, ev e28, q0]
  with_reducible rfl
 apply BuildL.det 30 (fun l w => by split; exact Ext.refl _; exact True.intro) (fun l w h => h) (by rfl) (by rw [k.size]; rfl) rfl
 case h =>
  intro lx ax wx hE hR hF
  have q0 : wx.cell? ⟨lb, 0, none⟩ = some (.int .i64 ↑l) := (OwnT.blk (AppI.own hR) 3 rfl).cell 0
  have q1 : wx.cell? ⟨lb, 1, none⟩ = some (.slice Bv ps.length cv) := (OwnT.blk (AppI.own hR) 3 rfl).cell 1
  simp [go_sem, ↓IntWalk.iteOmega, ev (hE.g e3), q0, q1]
  with_reducible rfl
 refine BuildL.new 31 (fun v w => v = .slice (some ⟨gs, 0, none⟩) 1 1) (fun l v w w' _ _ h => h) (by rfl) (by rw [k.size]; rfl) rfl ?_ ?_
 · intro lx ax wx hE hR hl hA hF
   have e30 := hF 5 (detL 5 30 _) (by decide) ml0
   exact Z5e hR hl (by decide) (by simp [go_sem, ↓IntWalk.iteOmega, ev e30])
 refine BuildL.new 32 (fun v_ w_ => OwnT H A0 (tRow 125 2 v_ (N.length + 1) ((leafV vs N) ++ [Value.int .i64 (l : Int), Value.slice Bv ps.length cv]) :: tBlk gs 125 #[Value.int .i64 (l : Int), Value.slice Bv ps.length cv] :: (tBlk sb 28 #[.slice B N.length cap, .int .i64 room]) :: (tPs (.slice Bv ps.length cv) ps) :: (tPool vs N) :: (tBlk lb 125 #[.int .i64 ↑l, .slice Bv ps.length cv]) :: R) w_) (fun l_ v_ w_ w_' hl hR h => by rw [if_pos hl] at hR; exact h.ext hR) (by rfl) (by rw [k.size]; rfl) rfl ?_ ?_
 · intro lx ax wx hE hR hl hA hF
   have e29 := hF 4 (detL 4 29 _) (by decide) ml2
   have f31 := hF 6 _ (by decide) ml0
   exact Z6d hR hl (hA 6 (by decide)) (by decide) elemLf (by decide) rfl (by intro u hu; simp at hu; rcases hu with rfl | rfl <;> rfl) (by unfold maxLen; omega) (by omega) (fun r w' h => Z1t rfl e29 f31 h)
 apply BuildL.det 33 (fun l w => by split; exact Ext.refl _; exact True.intro) (fun l w h => h) (by rfl) (by rw [k.size]; rfl) rfl
 case h =>
  intro lx ax wx hE hR hF
  have e25 := hF 0 (detL 0 25 _) (by decide) ml7
  exact Z1e rfl e25
 apply BuildL.det 34 (fun l w => by split; exact Ext.refl _; exact True.intro) (fun l w h => h) (by rfl) (by rw [k.size]; rfl) rfl
 case h =>
  intro lx ax wx hE hR hF
  have e33 := hF 8 (detL 8 33 _) (by decide) ml0
  simp [go_sem, ↓IntWalk.iteOmega, ev e33]
  with_reducible rfl
 apply BuildL.stop
 refine ⟨by kernel_rfl, ?_⟩
 clear O
 intro lx a17 w18 hE RI hL hF
 clear RI
 have f32 := hF 7 _ ml2
 have e34 : a17.eval (.tmp 34) = _ := hF 9 (detL 9 34 _) ml0
 clear hF hL
 obtain ⟨vr, e32, O⟩ : ∃ v', a17.eval (.tmp 32) = v' ∧ OwnT H A0 (tRow 125 2 v' (N.length + 1) ((leafV vs N) ++ [Value.int .i64 (l : Int), Value.slice Bv ps.length cv]) :: tBlk gs 125 #[Value.int .i64 (l : Int), Value.slice Bv ps.length cv] :: (tBlk sb 28 #[.slice B N.length cap, .int .i64 room]) :: (tPs (.slice Bv ps.length cv) ps) :: (tPool vs N) :: (tBlk lb 125 #[.int .i64 ↑l, .slice Bv ps.length cv]) :: R) w18 := ⟨_, rfl, f32⟩
 clear f32
 obtain ⟨gr, cr, rfl⟩ := OwnT.slice0 O (by omega)
 replace O := OwnT.pick01 O
 simp only [List.length_cons, List.length_nil, Nat.zero_add, Nat.reduceAdd, List.drop_succ_cons, List.drop_zero, List.drop_nil, tailOps]
 show Oper.wp _ _ _ _ _ _
 have q0 : w18.cell? ⟨sb, 0, none⟩ = some (.slice B N.length cap) := (OwnT.blk O 1 rfl).cell 0
 have q1 : w18.frozen? ⟨sb, 0, none⟩ = false := (OwnT.blk O 1 rfl).frozen 0
 refine Z2x (off := 0) (v := .slice (some ⟨gr, 0, none⟩) ((N.length + 1)) cr) O 1 rfl rfl (by simp [go_sem, ↓IntWalk.iteOmega, ev e32, ev e34, q0, q1]) ?_
 clear q0 q1
 clear O
 intro w19 O
 replace O : OwnT _ _ ((tRow 125 2 (.slice (some ⟨gr, 0, none⟩) ((N.length + 1)) cr) (N.length + 1) ((leafV vs N) ++ [Value.int .i64 (l : Int), Value.slice Bv ps.length cv])) :: (tBlk sb 28 #[.slice (some ⟨gr, 0, none⟩) ((N.length + 1)) cr, .int .i64 room]) :: (tPs (.slice Bv ps.length cv) ps) :: (tPool vs N) :: (tBlk lb 125 #[.int .i64 ↑l, .slice Bv ps.length cv]) :: R) w19 := O
 replace e0 := hE.g e0
 replace k := k.env hE
 clear hE e3 e32 e34
 refine Z00 (wp_seq ?_)
 refine wp_region_lit ?_
 have hE := Env.refl a17 [35, 36, 37, 38, 39, 4, 5]
 refine zm 35 hE k e0 ?_
 intro a20 hE e35 kp
 refine sd 36 hE k (Z1e rfl e35) ?_
 intro a21 hE e36 kp
 apply Z02 37 hE k rfl rfl rfl rfl
 case h =>
  simp [go_sem, ↓IntWalk.iteOmega, ev e36]
  with_reducible rfl
 intro a22 hE e37 kp
 apply Z02 38 hE k rfl rfl rfl rfl
 case h =>
  have q0 : w19.cell? ⟨sb, 0, none⟩ = some (.slice (some ⟨gr, 0, none⟩) ((N.length + 1)) cr) := (OwnT.blk O 1 rfl).cell 0
  simp [go_sem, ↓IntWalk.iteOmega, ev e37, q0]
  with_reducible rfl
 intro a23 hE e38 kp
 refine sd 39 hE k (Z0f Try.underlying26 rfl e38) ?_
 intro a24 hE e39 kp
 refine sd 4 hE k (Z01 rfl e39) ?_
 intro a25 hE e4 kp
 refine sd 5 hE k (Z01 rfl rfl) ?_
 intro a26 hE e5 kp
 replace e4 := kt kp e4
 refine wpList_nil ?_
 replace k := k.env hE
 clear hE e0
 refine Z00 ?_
 refine wp_ret ?_
 replace O : OwnT _ _ ((tPs (.slice Bv ps.length cv) ps) :: (tPool vs N) :: (tBlk sb 28 #[.slice (some ⟨gr, 0, none⟩) ((N.length + 1)) cr, .int .i64 room]) :: (tRow 125 2 (.slice (some ⟨gr, 0, none⟩) ((N.length + 1)) cr) (N.length + 1) ((leafV vs N) ++ [Value.int .i64 (l : Int), Value.slice Bv ps.length cv])) :: R) w19 := OwnT.pickR (L := [_, _, _, _, _]) (R := R) O [2, 3, 1, 0] (by decide)
 replace O := OwnT.poolAdd (l := l) O
 replace O : OwnT _ _ ((tBlk sb 28 #[.slice (some ⟨gr, 0, none⟩) ((N.length + 1)) cr, .int .i64 room]) :: (tRow 125 2 (.slice (some ⟨gr, 0, none⟩) ((N.length + 1)) cr) (N.length + 1) ((leafV vs N) ++ [Value.int .i64 (l : Int), Value.slice Bv ps.length cv])) :: (tPool (vs ++ [.slice Bv ps.length cv]) (N ++ [(l, ps)])) :: R) w19 := OwnT.pickR (L := [_, _, _]) (R := R) O [1, 2, 0] (by decide)
 have hN2 : (N ++ [(l, ps)]).length = N.length + 1 := by simp
 rw [show leafV vs N ++ [Value.int .i64 (l : Int), Value.slice Bv ps.length cv] = leafV (vs ++ [.slice Bv ps.length cv]) (N ++ [(l, ps)]) from (Z50 (v := .slice Bv ps.length cv) (nd := (l, ps)) hvl).symm, ← hN2] at O
 refine Z1o rfl k e4 e5 ?_
 exact ⟨rfl, some ⟨gr, 0, none⟩, cr, vs ++ [.slice Bv ps.length cv], O⟩
end Go.Proofs.Ytngehbhhpkkijaa
