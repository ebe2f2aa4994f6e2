/- tapes: Open, up, lost, Room, Texts, Sync, Add (printed by XTpE.gen.py). -/
import Derived.Test.YtakkhglbdljfiaaKTapeExact19
import Derived.Test.YtakkhglbdljfiaaKTapeExact20
namespace Go.Proofs.Ytakkhglbdljfiaa
attribute [local simp] BigFrame.eval_const BigFrame.eval_global BigFrame.eval_func
set_option linter.unusedVariables false
set_option linter.unusedSimpArgs false
open Go.RowKit Go.Maps

theorem Z57 {S : List Sec} {n : Nat} (h : S.length = n) : readL S (fun _ => none) 0 n = S.flatten := by
 unfold readL
 congr 1
 rw [← h]
 have := Z21 S
 unfold nowL at this
 simp only [Nat.zero_add]
 exact this
theorem Z7q {P : Program} {H : Nat} {A w : World} {T t : TypeId} {k n m c bytes : Nat} {v : Value} {xs news : List Value} {G : List Thing} {p : Addr} (O : OwnT H A (tRow T k v n xs :: G) w) (E : ElemI P t T k bytes) (hk : 0 < k) (hlen : news.length = m * k) (hn : ∀ j u, news[j]? = some u → w.cell? (p.add j) = some u) (h1 : ∀ u ∈ news, u.oneCell' = true) (h63 : n + m ≤ maxLen) (hbytes : (n + m) * bytes ≤ 140737488355328) :
 ∃ v' w', (∀ ty, (Builtin.append_ #[t, t] ty #[v, .slice (some p) m c]).run P w = .ok v' w') ∧ OwnT H A (tRow T k v' (n + m) (xs ++ news) :: G) w' := by
 obtain ⟨i, z, hi, hz, hs, hby, hzs⟩ := E.info
 obtain ⟨v', w', hrun, h2, h3, h4⟩ := Z1k (P := P) w t t T i z k bytes E.ht hi hz hs hby hzs hk v n xs O.r0 p m c news hlen hn h1 h63 hbytes
 exact ⟨v', w', fun _ => hrun, O.row h2 h3 h4⟩
theorem OwnT.asRowS {g k : Nat} {T : TypeId} {H : Nat} {A w : World} {L : List Thing} (h : OwnT H A (tBlk g T #[] :: L) w) : OwnT H A (tRow T k (.slice (some ⟨g, 0, none⟩) 0 0) 0 [] :: L) w :=
 h.call (F := []) (Chg.refl [] w) (by simp) (tRow T k (.slice (some ⟨g, 0, none⟩) 0 0) 0 []) (row_of h.b0 (Nat.le_refl _) (by decide) (by simp) (by simp)) (fun i hi => .inl (by simpa [tRow, tBlk, Value.ownBlock] using hi))
theorem eqS_nil (w : World) : (binOp .eql 22 (.slice none 0 0) (.slice none 0 0)).run Try.prog w = .ok (.bool true) w := by kernel_rfl
theorem eqS_some (g off n cap : Nat) (w : World) : (binOp .eql 22 (.slice (some ⟨g, off, none⟩) n cap) (.slice none 0 0)).run Try.prog w = .ok (.bool false) w := by kernel_rfl
/-- A row of strings, as it is read. -/
def StrsR (w : World) (Bt : Option Addr) (ct : Nat) (T : List Sec) : Prop :=
 (Bt = none ∧ T = [] ∧ ct = 0) ∨ ∃ g, Bt = some ⟨g, 0, none⟩ ∧ ∀ j s, T[j]? = some s → w.cell? ⟨g, j, none⟩ = some (.string (sB s))
theorem Z65 (T : List Sec) : strsV T = T.flatMap fun s => [Value.string (sB s)] := by
 unfold strsV
 induction T with
 | nil => rfl
 | cons x r ih => rw [List.map_cons, List.flatMap_cons, ih]; rfl
theorem Z16 {w : World} {base n ct : Nat} {Bt : Option Addr} {T : List Sec} (h : w.ownsRow base 9 1 (.slice Bt n ct) n (strsV T)) : StrsR w Bt ct T := by
 rcases h.2 with ⟨e, h0⟩ | ⟨g, cap, cur, e, _⟩
 · injection e with e1 e2 e3
   have := h.1
   rw [h0] at this
   refine .inl ⟨e1, ?_, e3⟩
   cases T with
   | nil => rfl
   | cons x r => simp [strsV] at this
 · injection e with e1 e2 e3
   refine .inr ⟨g, e1, fun j s hs => ?_⟩
   rw [Z65] at h
   obtain ⟨b, o, hb, hlt, hc⟩ := rowE_of (enc := fun s => [Value.string (sB s)]) (fun _ => rfl) (by decide) h j s hs
   rw [e1] at hb
   injection hb with hb
   injection hb with hb1 hb2
   subst hb1 hb2
   have := hc 0 _ rfl
   rwa [Nat.mul_one, Nat.zero_add, Nat.add_zero] at this
theorem StrsR.below {W0 w : World} {Bt : Option Addr} {ct : Nat} {T : List Sec} (h : StrsR W0 Bt ct T) (hb : Below W0.heap.size W0 w) : StrsR w Bt ct T := by
 rcases h with h | ⟨g, e, h⟩
 · exact .inl h
 · refine .inr ⟨g, e, fun j s hs => ?_⟩
   have h1 := h j s hs
   have hlt : g < W0.heap.size := by
    rcases Nat.lt_or_ge g W0.heap.size with h2 | h2
    · exact h2
    · simp [World.cell?, Array.getElem?_eq_none h2] at h1
   rw [← h1]
   exact hb.cell (p := ⟨g, j, none⟩) hlt
theorem StrsR.at_ {w : World} {Bt : Option Addr} {ct j : Nat} {T : List Sec} {s : Sec} (h : StrsR w Bt ct T) (hs : T[j]? = some s) : ∃ g, Bt = some ⟨g, 0, none⟩ ∧ w.cell? ⟨g, j, none⟩ = some (.string (sB s)) := by
 rcases h with ⟨_, rfl, _⟩ | ⟨g, e, h⟩
 · simp at hs
 · exact ⟨g, e, h j s hs⟩
theorem Z64 {W0 w : World} {g ct : Nat} {T : List Sec} (h : StrsR W0 (some ⟨g, 0, none⟩) ct T) (hb : Below W0.heap.size W0 w) : ∀ j u, (strsV T)[j]? = some u → w.cell? ((⟨g, 0, none⟩ : Addr).add j) = some u := by
 intro j u hu
 have hadd : (⟨g, 0, none⟩ : Addr).add j = ⟨g, j, none⟩ := by unfold Addr.add; split <;> simp_all
 rw [hadd]
 unfold strsV at hu
 rw [List.getElem?_map] at hu
 obtain ⟨s, hs, rfl⟩ := Option.map_eq_some_iff.1 hu
 obtain ⟨g', e, hc⟩ := (h.below hb).at_ hs
 injection e with e
 injection e with e
 subst e
 exact hc

theorem Z6p (w : World) : Calls Try.prog 7 #[.pointer none] w fun e w' => e = .returned (.tuple #[.pointer none, .int .i64 2]) ∧ w = w' := by
 refine Z0a Try.func7 rfl 31 rfl (by rfl) ?_
 intro a1 k hargs
 have e0 : a1.eval (.tmp 0) = .pointer none := hargs 0 _ rfl
 clear hargs
 refine wp_seq ?_
 refine wp_region_lit ?_
 have hE := Env.refl a1 [2, 3]
 refine sd 2 hE k (Z01 rfl rfl) ?_
 intro a2 hE e2 kp
 refine sd 3 hE k (Z01 rfl rfl) ?_
 intro a3 hE e3 kp
 refine wpList_nil ?_
 replace e0 := hE.g e0
 replace k := k.env hE
 clear hE e3
 refine Z00 (wp_seq ?_)
 refine wp_region_lit ?_
 have hE := Env.refl a3 [9, 10, 11, 12, 8, 13, 14, 4, 5]
 refine zm 9 hE k e0 ?_
 intro a4 hE e9 kp
 refine zm 10 hE k e0 ?_
 intro a5 hE e10 kp
 replace e9 := kt kp e9
 apply Z06 11 hE k rfl (by rfl) (by rfl) rfl
 case h =>
  simp [go_sem, ↓IntWalk.iteOmega, ev e10]
  with_reducible exact ⟨rfl, rfl⟩
 case hc => exact dlen_nil _
 rintro e _ ⟨rfl, rfl⟩
 refine ⟨_, rfl, ?_⟩
 intro a6 hE e11 kp
 replace e9 := kt kp e9
 apply Z06 12 hE k rfl (by rfl) (by rfl) rfl
 case h =>
  simp [go_sem, ↓IntWalk.iteOmega, ev e9, ev e11]
  with_reducible exact ⟨rfl, rfl⟩
 case hc => exact Z7i 0 0 _
 rintro e _ ⟨rfl, rfl⟩
 refine ⟨_, rfl, ?_⟩
 intro a7 hE e12 kp
 refine sd 8 hE k (Z03 rfl e12) ?_
 intro a8 hE e8 kp
 apply Z05 13 hE k rfl rfl rfl rfl
 case h =>
  simp [go_sem, ↓IntWalk.iteOmega, ev e8]
  with_reducible rfl
 intro a9 hE e13 kp
 replace e8 := kt kp e8
 apply Z05 14 hE k rfl rfl rfl rfl
 case h =>
  simp [go_sem, ↓IntWalk.iteOmega, ev e8]
  with_reducible rfl
 intro a10 hE e14 kp
 replace e13 := kt kp e13
 refine sd 4 hE k (Z01 rfl e13) ?_
 intro a11 hE e4 kp
 replace e14 := kt kp e14
 refine sd 5 hE k (Z01 rfl e14) ?_
 intro a12 hE e5 kp
 replace e4 := kt kp e4
 refine wpList_nil ?_
 replace e0 := hE.g e0
 replace k := k.env hE
 clear hE
 refine Z00 (wp_seq ?_)
 refine wp_seq ?_
 refine wp_region_lit ?_
 have hE := Env.refl a12 [15, 16]
 refine zm 15 hE k e5 ?_
 intro a13 hE e15 kp
 refine sd 16 hE k (Z15 rfl e15 rfl) ?_
 intro a14 hE e16 kp
 refine wpList_nil ?_
 replace e0 := hE.g e0; replace e4 := hE.g e4; replace e5 := hE.g e5
 replace k := k.env hE
 clear hE
 refine Z00 ?_
 refine Z0h e16 rfl ?_
 refine wp_seq ?_
 refine wp_region_lit ?_
 have hE := Env.refl a14 [17, 2, 3]
 refine zm 17 hE k e5 ?_
 intro a15 hE e17 kp
 refine sd 2 hE k (Z01 rfl rfl) ?_
 intro a16 hE e2 kp
 replace e17 := kt kp e17
 refine sd 3 hE k (Z01 rfl e17) ?_
 intro a17 hE e3 kp
 replace e2 := kt kp e2
 refine wpList_nil ?_
 replace k := k.env hE
 clear hE e0 e4 e5 e16
 refine Z00 ?_
 refine wp_ret ?_
 refine Z0n ?_
 refine Z1o rfl k e2 e3 ?_
 exact ⟨rfl, rfl⟩
set_option maxRecDepth 100000 in
set_option maxHeartbeats 4000000 in
theorem Z2u {H : Nat} {A0 : World} {R : List Thing} {p mb n cap bm : Nat} {B : Option Addr} {S : List Sec} {M : Mn} {c : Int} (w : World) (O : OwnT H A0 (tDisc p mb B n cap bm S (fun _ => none) :: tMn mb M :: R) w) (hM : M.Ok c) (hc : c ≤ 1000000000) (hF : M.Free) : Calls Try.prog 7 #[.pointer (some ⟨p, 0, none⟩)] w fun e w' => ∃ tb T u Bt ct M', e = .returned (.tuple #[.pointer (some ⟨tb, 0, none⟩), .int .i64 0]) ∧ OnT S.flatten T u ∧ rdT S.flatten S.flatten.length [] 0 = (T, u) ∧ u ≤ n ∧ M'.Free ∧ M'.Ok (c + n + 1) ∧ OwnT H A0 ((tDisc p mb B n cap bm (tpS (S.flatten.take (16 * u)) n) (fun _ => none)) :: (tMn mb M') :: (tBlk tb 55 #[.pointer (some ⟨p, 0, none⟩), .slice Bt T.length ct, .int .i64 ↑u, .bool false]) :: (tRow 9 1 (.slice Bt T.length ct) T.length (strsV T)) :: R) w' := by
 have hdk := O.dok
 have hn1 := hdk.le
 have hfl : S.flatten.length = 16 * n := by rw [flat16 hdk.sz, hdk.len]

 refine Z0a Try.func7 rfl 31 rfl (by rfl) ?_
 intro a1 k hargs
 have e0 : a1.eval (.tmp 0) = .pointer (some ⟨p, 0, none⟩) := hargs 0 _ rfl
 clear hargs
 refine wp_seq ?_
 refine wp_region_lit ?_
 have hE := Env.refl a1 [2, 3]
 refine sd 2 hE k (Z01 rfl rfl) ?_
 intro a2 hE e2 kp
 refine sd 3 hE k (Z01 rfl rfl) ?_
 intro a3 hE e3 kp
 refine wpList_nil ?_
 replace e0 := hE.g e0
 replace k := k.env hE
 clear hE e3
 refine Z00 (wp_seq ?_)
 refine wp_region_lit ?_
 have hE := Env.refl a3 [9, 10, 11, 12, 8, 13, 14, 4, 5]
 refine zm 9 hE k e0 ?_
 intro a4 hE e9 kp
 refine zm 10 hE k e0 ?_
 intro a5 hE e10 kp
 replace e9 := kt kp e9
 apply Z06 11 hE k rfl (by rfl) (by rfl) rfl
 case h =>
  simp [go_sem, ↓IntWalk.iteOmega, ev e10]
  with_reducible exact ⟨rfl, rfl⟩
 case hc => exact Z4a _ (OwnT.disc O)
 rintro e _ ⟨rfl, rfl⟩
 refine ⟨_, rfl, ?_⟩
 intro a6 hE e11 kp
 replace e9 := kt kp e9
 apply Z06 12 hE k rfl (by rfl) (by rfl) rfl
 case h =>
  simp [go_sem, ↓IntWalk.iteOmega, ev e9, ev e11]
  with_reducible exact ⟨rfl, rfl⟩
 case hc => exact dread_ok 0 n _ (OwnT.disc O) (OwnT.get O 1 rfl) (by omega) hF.away
 rintro e w8 ⟨rfl, RX⟩
 replace O := OwnT.ext O RX
 refine ⟨_, by rw [Z57 hdk.len], ?_⟩
 intro a7 hE e12 kp
 refine sd 8 hE k (Z03 rfl e12) ?_
 intro a9 hE e8 kp
 apply Z05 13 hE k rfl rfl rfl rfl
 case h =>
  simp [go_sem, ↓IntWalk.iteOmega, ev e8]
  with_reducible rfl
 intro a10 hE e13 kp
 replace e8 := kt kp e8
 apply Z05 14 hE k rfl rfl rfl rfl
 case h =>
  simp [go_sem, ↓IntWalk.iteOmega, ev e8]
  with_reducible rfl
 intro a11 hE e14 kp
 replace e13 := kt kp e13
 refine sd 4 hE k (Z01 rfl e13) ?_
 intro a12 hE e4 kp
 replace e14 := kt kp e14
 refine sd 5 hE k (Z01 rfl e14) ?_
 intro a13 hE e5 kp
 replace e4 := kt kp e4
 refine wpList_nil ?_
 replace e0 := hE.g e0
 replace k := k.env hE
 clear hE
 refine Z00 (wp_seq ?_)
 refine wp_seq ?_
 refine wp_region_lit ?_
 have hE := Env.refl a13 [15, 16]
 refine zm 15 hE k e5 ?_
 intro a14 hE e15 kp
 refine sd 16 hE k (Z15 rfl e15 rfl) ?_
 intro a15 hE e16 kp
 refine wpList_nil ?_
 replace e0 := hE.g e0; replace e4 := hE.g e4; replace e5 := hE.g e5
 replace k := k.env hE
 clear hE
 refine Z00 ?_
 refine Z08 e16 rfl ?_
 refine wp_skip ?_
 refine Z00 (wp_seq ?_)
 refine wp_region_lit ?_
 have hE := Env.refl a15 [18, 19, 20, 6]
 refine zm 18 hE k e0 ?_
 intro a16 hE e18 kp
 apply Z05 19 hE k rfl rfl rfl rfl
 case h =>
  simp [go_sem, ↓IntWalk.iteOmega, ev e18]
  with_reducible rfl
 intro a17 hE e19 kp
 refine Z5p O (cs := #[.pointer (some ⟨p, 0, none⟩), .slice none 0 0, .int .i64 0, .bool false]) (t := 55) 20 hE k rfl (by rfl) (by rfl) rfl (by simp [go_sem, ↓IntWalk.iteOmega, ev e19]) ?_
 clear O
 intro tb a18 w19 O hE e20 kp
 refine sd 6 hE k (Z01 rfl e20) ?_
 intro a20 hE e6 kp
 refine wpList_nil ?_
 replace e4 := hE.g e4
 replace k := k.env hE
 clear hE e0 e5 e16
 refine Z00 (wp_seq ?_)
 refine wp_region_lit ?_
 have hE := Env.refl a20 [21, 22, 23]
 refine zm 21 hE k e6 ?_
 intro a21 hE e21 kp
 refine zm 22 hE k e4 ?_
 intro a22 hE e22 kp
 replace e21 := kt kp e21
 apply Z06 23 hE k rfl (by rfl) (by rfl) rfl
 case h =>
  simp [go_sem, ↓IntWalk.iteOmega, ev e21, ev e22]
  with_reducible exact ⟨rfl, rfl⟩
 case hc => exact Z6n S.flatten _ O (by omega)
 clear O
 rintro e w24 ⟨rfl, T, u, Bt, ct, hT, hrd, O⟩
 refine ⟨_, rfl, ?_⟩
 intro a23 hE e23 kp
 refine wpList_nil ?_
 replace e4 := hE.g e4; replace e6 := hE.g e6
 replace k := k.env hE
 clear hE e23
 refine Z00 ?_
 have ha : u ≤ n := by have := hT.le; omega
 replace O : OwnT _ _ ((tDisc p mb B n cap bm S (fun _ => none)) :: (tMn mb M) :: (tBlk tb 55 #[.pointer (some ⟨p, 0, none⟩), .slice Bt T.length ct, .int .i64 ↑u, .bool false]) :: (tRow 9 1 (.slice Bt T.length ct) T.length (strsV T)) :: R) w24 := OwnT.pickR (L := [_, _, _, _]) (R := R) O [2, 3, 0, 1] (by decide)
 refine wp_seq ?_
 refine wp_seq ?_
 refine wp_region_lit ?_
 have hE := Env.refl a23 [24, 25, 26, 7]
 refine zm 24 hE k e6 ?_
 intro a25 hE e24 kp
 refine zm 25 hE k e4 ?_
 intro a26 hE e25 kp
 replace e24 := kt kp e24
 apply Z06 26 hE k rfl (by rfl) (by rfl) rfl
 case h =>
  simp [go_sem, ↓IntWalk.iteOmega, ev e24, ev e25]
  with_reducible exact ⟨rfl, rfl⟩
 case hc => exact twipe _ O hM hc hF ha
 clear O
 rintro e w28 ⟨rfl, M2, hF2, hM2, O⟩
 refine ⟨_, rfl, ?_⟩
 intro a27 hE e26 kp
 refine sd 7 hE k (Z01 rfl e26) ?_
 intro a29 hE e7 kp
 refine wpList_nil ?_
 replace e6 := hE.g e6
 replace k := k.env hE
 clear hE e4
 refine Z00 (wp_seq ?_)
 refine wp_region_lit ?_
 have hE := Env.refl a29 [27, 28]
 refine zm 27 hE k e7 ?_
 intro a30 hE e27 kp
 refine sd 28 hE k (Z15 rfl e27 rfl) ?_
 intro a31 hE e28 kp
 refine wpList_nil ?_
 replace e6 := hE.g e6; replace e7 := hE.g e7
 replace k := k.env hE
 clear hE
 refine Z00 ?_
 refine Z08 e28 rfl ?_
 refine wp_skip ?_
 refine Z00 (wp_seq ?_)
 refine wp_region_lit ?_
 have hE := Env.refl a31 [30, 2, 3]
 refine zm 30 hE k e6 ?_
 intro a32 hE e30 kp
 refine sd 2 hE k (Z01 rfl e30) ?_
 intro a33 hE e2 kp
 refine sd 3 hE k (Z01 rfl rfl) ?_
 intro a34 hE e3 kp
 replace e2 := kt kp e2
 refine wpList_nil ?_
 replace k := k.env hE
 clear hE e6 e7 e28
 refine Z00 ?_
 refine wp_ret ?_
 refine Z1o rfl k e2 e3 ?_
 exact ⟨tb, T, u, Bt, ct, M2, rfl, hT, hrd, ha, hF2, hM2, O⟩
theorem Z6k (w : World) : Calls Try.prog 30 #[.pointer none] w fun e w' => e = .returned (.int .i64 2) ∧ w = w' := by
 refine Z0a Try.func30 rfl 11 rfl (by rfl) ?_
 intro a1 k hargs
 have e0 : a1.eval (.tmp 0) = .pointer none := hargs 0 _ rfl
 clear hargs
 refine wp_seq ?_
 refine wp_region_lit ?_
 have hE := Env.refl a1 [2]
 refine sd 2 hE k (Z01 rfl rfl) ?_
 intro a2 hE e2 kp
 refine wpList_nil ?_
 replace e0 := hE.g e0
 replace k := k.env hE
 clear hE e2
 refine Z00 (wp_seq ?_)
 refine wp_block ?_
 refine wp_seq ?_
 refine wp_region_lit ?_
 have hE := Env.refl a2 [4, 5, 3]
 refine zm 4 hE k e0 ?_
 intro a3 hE e4 kp
 apply Z05 5 hE k rfl rfl rfl rfl
 case h =>
  simp [go_sem, ↓IntWalk.iteOmega, ev e4]
  rfl
 intro a4 hE e5 kp
 refine sd 3 hE k (Z01 rfl e5) ?_
 intro a5 hE e3 kp
 refine wpList_nil ?_
 replace e0 := hE.g e0
 replace k := k.env hE
 clear hE
 refine Z00 ?_
 refine Z0h e3 rfl ?_
 refine wp_seq ?_
 refine wp_region_lit ?_
 have hE := Env.refl a5 [2]
 refine sd 2 hE k (Z01 rfl rfl) ?_
 intro a6 hE e2 kp
 refine wpList_nil ?_
 replace k := k.env hE
 clear hE e0 e3
 refine Z00 ?_
 refine wp_ret ?_
 refine Z1a ?_
 refine Z0n ?_
 refine Z0f rfl k e2 ?_
 exact ⟨rfl, rfl⟩
theorem Z5k {v1 v2 v3 : Value} {tb : Nat} (w : World) (h : Blk w tb 55 #[v1, v2, v3, .bool false]) : Calls Try.prog 30 #[.pointer (some ⟨tb, 0, none⟩)] w fun e w' => e = .returned (.int .i64 0) ∧ w = w' := by
 have c3 : w.cell? ⟨tb, 3, none⟩ = some (.bool false) := h.cell 3
 refine Z0a Try.func30 rfl 11 rfl (by rfl) ?_
 intro a1 k hargs
 have e0 : a1.eval (.tmp 0) = .pointer (some ⟨tb, 0, none⟩) := hargs 0 _ rfl
 clear hargs
 refine wp_seq ?_
 refine wp_region_lit ?_
 have hE := Env.refl a1 [2]
 refine sd 2 hE k (Z01 rfl rfl) ?_
 intro a2 hE e2 kp
 refine wpList_nil ?_
 replace e0 := hE.g e0
 replace k := k.env hE
 clear hE e2
 refine Z00 (wp_seq ?_)
 refine wp_block ?_
 refine wp_seq ?_
 refine wp_region_lit ?_
 have hE := Env.refl a2 [4, 5, 3]
 refine zm 4 hE k e0 ?_
 intro a3 hE e4 kp
 apply Z05 5 hE k rfl rfl rfl rfl
 case h =>
  simp [go_sem, ↓IntWalk.iteOmega, ev e4]
  with_reducible rfl
 intro a4 hE e5 kp
 refine sd 3 hE k (Z01 rfl e5) ?_
 intro a5 hE e3 kp
 refine wpList_nil ?_
 replace e0 := hE.g e0
 replace k := k.env hE
 clear hE
 refine Z00 ?_
 refine Z08 e3 rfl ?_
 refine wp_seq ?_
 refine wp_region_lit ?_
 have hE := Env.refl a5 [7, 8, 9, 10, 6]
 refine zm 7 hE k e0 ?_
 intro a6 hE e7 kp
 refine sd 8 hE k (Z0p rfl e7) ?_
 intro a7 hE e8 kp
 apply Z05 9 hE k rfl rfl rfl rfl
 case h =>
  simp [go_sem, ↓IntWalk.iteOmega, ev e8]
  with_reducible rfl
 intro a8 hE e9 kp
 apply Z05 10 hE k rfl rfl rfl rfl
 case h =>
  simp [go_sem, ↓IntWalk.iteOmega, ev e9, c3]
  with_reducible rfl
 intro a9 hE e10 kp
 refine sd 6 hE k (Z01 rfl e10) ?_
 intro a10 hE e6 kp
 refine wpList_nil ?_
 replace k := k.env hE
 clear hE e0 e3
 refine Z00 ?_
 refine Z08 e6 rfl ?_
 refine wp_skip ?_
 refine Z14 ?_
 refine Z00 (wp_seq ?_)
 refine wp_region_lit ?_
 have hE := Env.refl a10 [2]
 refine sd 2 hE k (Z01 rfl rfl) ?_
 intro a11 hE e2 kp
 refine wpList_nil ?_
 replace k := k.env hE
 clear hE e6
 refine Z00 ?_
 refine wp_ret ?_
 refine Z0f rfl k e2 ?_
 exact ⟨rfl, rfl⟩
theorem Z6m (w : World) : Calls Try.prog 11 #[.pointer none] w fun e w' => e = .returned (.int .i64 0) ∧ Ext w w' := by
 have O := OwnT.start w
 refine Z0a Try.func11 rfl 15 rfl (by rfl) ?_
 intro a1 k hargs
 have e0 : a1.eval (.tmp 0) = .pointer none := hargs 0 _ rfl
 clear hargs
 refine wp_seq ?_
 refine wp_region_lit ?_
 have hE := Env.refl a1 [2]
 refine sd 2 hE k (Z01 rfl rfl) ?_
 intro a2 hE e2 kp
 refine wpList_nil ?_
 replace e0 := hE.g e0
 replace k := k.env hE
 clear hE e2
 refine Z00 (wp_seq ?_)
 refine wp_seq ?_
 refine wp_region_lit ?_
 have hE := Env.refl a2 [3, 4]
 refine zm 3 hE k e0 ?_
 intro a3 hE e3 kp
 apply Z05 4 hE k rfl rfl rfl rfl
 case h =>
  simp [go_sem, ↓IntWalk.iteOmega, ev e3]
  rfl
 intro a4 hE e4 kp
 refine wpList_nil ?_
 replace e0 := hE.g e0
 replace k := k.env hE
 clear hE
 refine Z00 ?_
 refine Z0h e4 rfl ?_
 refine wp_seq ?_
 refine wp_region_lit ?_
 have hE := Env.refl a4 [2]
 refine sd 2 hE k (Z01 rfl rfl) ?_
 intro a5 hE e2 kp
 refine wpList_nil ?_
 replace k := k.env hE
 clear hE e0 e4
 refine Z00 ?_
 refine wp_ret ?_
 refine Z0n ?_
 refine Z0f rfl k e2 ?_
 exact ⟨rfl, O.below⟩
set_option maxRecDepth 100000 in
set_option maxHeartbeats 4000000 in
theorem Z1m {p mb n cap bm : Nat} {B : Option Addr} {S : List Sec} {L : Int → Option Sec} {v2 v4 : Value} {tb u : Nat} (W0 : World) (hd : DiscR p mb B n cap bm S L W0) (h : Blk W0 tb 55 #[.pointer (some ⟨p, 0, none⟩), v2, .int .i64 u, v4]) (ha : u ≤ n) : Calls Try.prog 11 #[.pointer (some ⟨tb, 0, none⟩)] W0 fun e w' => e = .returned (.int .i64 ((n - u : Nat) : Int)) ∧ Ext W0 w' := by
 have O := OwnT.start W0
 have hn := hd.ok.le
 refine Z0a Try.func11 rfl 15 rfl (by rfl) ?_
 intro a1 k hargs
 have e0 : a1.eval (.tmp 0) = .pointer (some ⟨tb, 0, none⟩) := hargs 0 _ rfl
 clear hargs
 refine wp_seq ?_
 refine wp_region_lit ?_
 have hE := Env.refl a1 [2]
 refine sd 2 hE k (Z01 rfl rfl) ?_
 intro a2 hE e2 kp
 refine wpList_nil ?_
 replace e0 := hE.g e0
 replace k := k.env hE
 clear hE e2
 refine Z00 (wp_seq ?_)
 refine wp_seq ?_
 refine wp_region_lit ?_
 have hE := Env.refl a2 [3, 4]
 refine zm 3 hE k e0 ?_
 intro a3 hE e3 kp
 apply Z05 4 hE k rfl rfl rfl rfl
 case h =>
  simp [go_sem, ↓IntWalk.iteOmega, ev e3]
  with_reducible rfl
 intro a4 hE e4 kp
 refine wpList_nil ?_
 replace e0 := hE.g e0
 replace k := k.env hE
 clear hE
 refine Z00 ?_
 refine Z08 e4 rfl ?_
 refine wp_skip ?_
 refine Z00 (wp_seq ?_)
 refine Z10 (R := Ext) (w0 := W0) [[], [0], [0, 1], [0, 1, 2], [0, 1, 2, 3], [], [5], [5, 6], [5, 6, 7], [0, 1, 2, 3, 4, 5, 6, 7, 8], [0, 1, 2, 3, 4, 5, 6, 7, 8, 9]] [5, 6, 7, 8, 9, 10, 11, 12, 13, 14, 2] Ext.refl (fun _ _ _ => Ext.trans) (Ext.drew _) (by kernel_rfl) ?_
 apply bd 5 k rfl rfl rfl
 case h =>
  intro ax wx hE hR hF
  exact Z03 rfl (hE.g e0)
 apply bd 6 k rfl rfl rfl
 case h =>
  intro ax wx hE hR hF
  have e5 := zhF hF 0 5 ml0
  exact Z0p rfl e5
 apply bd 7 k rfl rfl rfl
 case h =>
  intro ax wx hE hR hF
  have e6 := zhF hF 1 6 ml0
  simp [go_sem, ↓IntWalk.iteOmega, ev e6]
  with_reducible rfl
 apply bd 8 k rfl rfl rfl
 case h =>
  intro ax wx hE hR hF
  have e7 := zhF hF 2 7 ml0
  have c0 : wx.cell? ⟨tb, 0, none⟩ = some (.pointer (some ⟨p, 0, none⟩)) := (h.ext (OwnT.ext O hR).below).cell 0
  simp [go_sem, ↓IntWalk.iteOmega, ev e7, c0]
  with_reducible rfl
 apply Build.call 9 Ext.refl (by rfl) (by rw [k.size]; rfl) rfl
 case h =>
  intro ax wx hE hR hF
  have e8 := zhF hF 3 8 ml0
  simp [go_sem, ↓IntWalk.iteOmega, ev e8]
  with_reducible exact ⟨rfl, rfl⟩
 case hc => intro wx hR; exact (Z4a wx (hd.ext (OwnT.ext O hR).below)).mono (fun e w' h => (⟨h.1, by rw [h.2]; exact Ext.refl _⟩ : e = .returned (.int .i64 n) ∧ Ext wx w'))
 apply bd 10 k rfl rfl rfl
 case h =>
  intro ax wx hE hR hF
  exact Z03 rfl (hE.g e0)
 apply bd 11 k rfl rfl rfl
 case h =>
  intro ax wx hE hR hF
  have e10 := zhF hF 5 10 ml0
  exact Z0p rfl e10
 apply bd 12 k rfl rfl rfl
 case h =>
  intro ax wx hE hR hF
  have e11 := zhF hF 6 11 ml0
  simp [go_sem, ↓IntWalk.iteOmega, ev e11]
  with_reducible rfl
 apply bd 13 k rfl rfl rfl
 case h =>
  intro ax wx hE hR hF
  have e12 := zhF hF 7 12 ml0
  have c2 : wx.cell? ⟨tb, 2, none⟩ = some (.int .i64 u) := (h.ext (OwnT.ext O hR).below).cell 2
  simp [go_sem, ↓IntWalk.iteOmega, ev e12, c2]
  with_reducible rfl
 apply bd 14 k rfl rfl rfl
 case h =>
  intro ax wx hE hR hF
  have e9 := zhF hF 4 9 ml4
  have e13 := zhF hF 8 13 ml0
  exact Z2g (v := .int .i64 ↑(n - u)) (Z2m rfl e9 e13 (by omega)) (Z0e (by omega))
 apply bd 2 k rfl rfl rfl
 case h =>
  intro ax wx hE hR hF
  have e14 := zhF hF 9 14 ml0
  exact Z01 rfl e14
 apply Build.stop
 refine ⟨by kernel_rfl, .inl ⟨rfl, ?_⟩⟩
 intro a5 w6 hE R hF
 have e2 : a5.eval (.tmp 2) = _ := hF 10 (det 2 _) ml0
 clear hF
 replace O := OwnT.ext O R
 clear R
 replace k := k.env hE
 clear hE e0 e4
 refine Z00 ?_
 refine wp_ret ?_
 refine Z0f rfl k e2 ?_
 exact ⟨rfl, O.below⟩
set_option maxRecDepth 100000 in
set_option maxHeartbeats 4000000 in
theorem Z67 {Bt : Option Addr} {ct : Nat} {T : List Sec} (W0 : World) (h : StrsR W0 Bt ct T) (hT : T.length ≤ 1000000) : Calls Try.prog 26 #[.slice Bt T.length ct] W0 fun e w' => ∃ Bo co, e = .returned (.slice Bo T.length co) ∧ w'.ownsRow W0.heap.size 9 1 (.slice Bo T.length co) T.length (strsV T) ∧ Ext W0 w' := by
 have O := OwnT.start W0
 have h0 := h
 rcases h with ⟨rfl, rfl, rfl⟩ | ⟨g, rfl, hc⟩
 · skip
   refine Z0a Try.func26 rfl 8 rfl (by rfl) ?_
   intro a1 k hargs
   have e0 : a1.eval (.tmp 0) = .slice none 0 0 := hargs 0 _ rfl
   clear hargs
   refine wp_seq ?_
   refine wp_region_lit ?_
   have hE := Env.refl a1 [2]
   refine sd 2 hE k (Z01 rfl rfl) ?_
   intro a2 hE e2 kp
   refine wpList_nil ?_
   replace e0 := hE.g e0
   replace k := k.env hE
   clear hE e2
   refine Z00 (wp_seq ?_)
   refine wp_seq ?_
   refine wp_region_lit ?_
   have hE := Env.refl a2 [3, 4]
   refine zm 3 hE k e0 ?_
   intro a3 hE e3 kp
   apply Z05 4 hE k rfl rfl rfl rfl
   case h =>
    simp [go_sem, ↓IntWalk.iteOmega, ev e3, eqS_nil]
    with_reducible rfl
   intro a4 hE e4 kp
   refine wpList_nil ?_
   replace e0 := hE.g e0
   replace k := k.env hE
   clear hE
   refine Z00 ?_
   refine Z0h e4 rfl ?_
   refine wp_seq ?_
   refine wp_region_lit ?_
   have hE := Env.refl a4 [2]
   refine sd 2 hE k (Z01 rfl rfl) ?_
   intro a5 hE e2 kp
   refine wpList_nil ?_
   replace k := k.env hE
   clear hE e0 e4
   refine Z00 ?_
   refine wp_ret ?_
   refine Z0n ?_
   refine Z0f rfl k e2 ?_
   exact ⟨_, _, rfl, (OwnT.nilRow O 9 1).rowBase, O.below⟩
 · skip
   refine Z0a Try.func26 rfl 8 rfl (by rfl) ?_
   intro a1 k hargs
   have e0 : a1.eval (.tmp 0) = .slice (some ⟨g, 0, none⟩) T.length ct := hargs 0 _ rfl
   clear hargs
   refine wp_seq ?_
   refine wp_region_lit ?_
   have hE := Env.refl a1 [2]
   refine sd 2 hE k (Z01 rfl rfl) ?_
   intro a2 hE e2 kp
   refine wpList_nil ?_
   replace e0 := hE.g e0
   replace k := k.env hE
   clear hE e2
   refine Z00 (wp_seq ?_)
   refine wp_seq ?_
   refine wp_region_lit ?_
   have hE := Env.refl a2 [3, 4]
   refine zm 3 hE k e0 ?_
   intro a3 hE e3 kp
   apply Z05 4 hE k rfl rfl rfl rfl
   case h =>
    simp [go_sem, ↓IntWalk.iteOmega, ev e3, eqS_some]
    with_reducible rfl
   intro a4 hE e4 kp
   refine wpList_nil ?_
   replace e0 := hE.g e0
   replace k := k.env hE
   clear hE
   refine Z00 ?_
   refine Z08 e4 rfl ?_
   refine wp_skip ?_
   refine Z00 (wp_seq ?_)
   refine wp_region_lit ?_
   have hE := Env.refl a4 [5, 6, 7, 2]
   refine Z27 (m := 0) (c := 0) O (cs := #[]) (t := 9) 5 hE k rfl (by rfl) (by rfl) rfl (by simp [go_sem, ↓IntWalk.iteOmega]) ?_
   clear O
   intro g0 a5 w6 O hE e5 kp
   refine zm 6 hE k e0 ?_
   intro a7 hE e6 kp
   replace e5 := kt kp e5
   obtain ⟨v2, w2, hrun, O2⟩ := Z7q (p := ⟨g, 0, none⟩) (m := T.length) (c := ct) (news := strsV T) (OwnT.asRowS (k := 1) O) elemS (by decide) (by simp [strsV]) (Z64 h0 O.below) (by intro u hu; obtain ⟨s, _, rfl⟩ := List.mem_map.1 hu; rfl) (by unfold maxLen; omega) (by omega)
   refine Z26 rfl _ _ _ _ rfl _ _ e5 e6 (hrun _) ?_
   replace O := O2
   clear O2 hrun
   refine put_F 7 hE k (by rfl) (by rfl) ?_
   intro a8 hE e7 kp
   refine sd 2 hE k (Z01 rfl e7) ?_
   intro a9 hE e2 kp
   refine wpList_nil ?_
   replace k := k.env hE
   clear hE e0 e4
   refine Z00 ?_
   refine wp_ret ?_
   have hr := O.rowBase
   rw [Nat.zero_add, List.nil_append] at hr
   obtain ⟨Bo, co, rfl⟩ := Z70 hr
   refine Z0f rfl k e2 ?_
   exact ⟨Bo, co, rfl, hr, O.below⟩
theorem Z62 (w : World) : Calls Try.prog 10 #[.pointer none] w fun e w' => e = .returned (.slice none 0 0) ∧ Ext w w' := by
 have O := OwnT.start w
 refine Z0a Try.func10 rfl 10 rfl (by rfl) ?_
 intro a1 k hargs
 have e0 : a1.eval (.tmp 0) = .pointer none := hargs 0 _ rfl
 clear hargs
 refine wp_seq ?_
 refine wp_region_lit ?_
 have hE := Env.refl a1 [2]
 refine sd 2 hE k (Z01 rfl rfl) ?_
 intro a2 hE e2 kp
 refine wpList_nil ?_
 replace e0 := hE.g e0
 replace k := k.env hE
 clear hE e2
 refine Z00 (wp_seq ?_)
 refine wp_seq ?_
 refine wp_region_lit ?_
 have hE := Env.refl a2 [3, 4]
 refine zm 3 hE k e0 ?_
 intro a3 hE e3 kp
 apply Z05 4 hE k rfl rfl rfl rfl
 case h =>
  simp [go_sem, ↓IntWalk.iteOmega, ev e3]
  rfl
 intro a4 hE e4 kp
 refine wpList_nil ?_
 replace e0 := hE.g e0
 replace k := k.env hE
 clear hE
 refine Z00 ?_
 refine Z0h e4 rfl ?_
 refine wp_seq ?_
 refine wp_region_lit ?_
 have hE := Env.refl a4 [2]
 refine sd 2 hE k (Z01 rfl rfl) ?_
 intro a5 hE e2 kp
 refine wpList_nil ?_
 replace k := k.env hE
 clear hE e0 e4
 refine Z00 ?_
 refine wp_ret ?_
 refine Z0n ?_
 refine Z0f rfl k e2 ?_
 exact ⟨rfl, O.below⟩
theorem Z1r {Bt : Option Addr} {ct tb : Nat} {T : List Sec} {v1 v3 v4 : Value} (W0 : World) (h : StrsR W0 Bt ct T) (hb : Blk W0 tb 55 #[v1, .slice Bt T.length ct, v3, v4]) (hT : T.length ≤ 1000000) : Calls Try.prog 10 #[.pointer (some ⟨tb, 0, none⟩)] W0 fun e w' => ∃ Bo co, e = .returned (.slice Bo T.length co) ∧ w'.ownsRow W0.heap.size 9 1 (.slice Bo T.length co) T.length (strsV T) ∧ Ext W0 w' := by
 have O := OwnT.start W0
 have c1 : W0.cell? ⟨tb, 1, none⟩ = some (.slice Bt T.length ct) := hb.cell 1
 refine Z0a Try.func10 rfl 10 rfl (by rfl) ?_
 intro a1 k hargs
 have e0 : a1.eval (.tmp 0) = .pointer (some ⟨tb, 0, none⟩) := hargs 0 _ rfl
 clear hargs
 refine wp_seq ?_
 refine wp_region_lit ?_
 have hE := Env.refl a1 [2]
 refine sd 2 hE k (Z01 rfl rfl) ?_
 intro a2 hE e2 kp
 refine wpList_nil ?_
 replace e0 := hE.g e0
 replace k := k.env hE
 clear hE e2
 refine Z00 (wp_seq ?_)
 refine wp_seq ?_
 refine wp_region_lit ?_
 have hE := Env.refl a2 [3, 4]
 refine zm 3 hE k e0 ?_
 intro a3 hE e3 kp
 apply Z05 4 hE k rfl rfl rfl rfl
 case h =>
  simp [go_sem, ↓IntWalk.iteOmega, ev e3]
  with_reducible rfl
 intro a4 hE e4 kp
 refine wpList_nil ?_
 replace e0 := hE.g e0
 replace k := k.env hE
 clear hE
 refine Z00 ?_
 refine Z08 e4 rfl ?_
 refine wp_skip ?_
 refine Z00 (wp_seq ?_)
 refine wp_region_lit ?_
 have hE := Env.refl a4 [5, 6, 7, 8, 9, 2]
 refine zm 5 hE k e0 ?_
 intro a5 hE e5 kp
 refine sd 6 hE k (Z0p rfl e5) ?_
 intro a6 hE e6 kp
 apply Z05 7 hE k rfl rfl rfl rfl
 case h =>
  simp [go_sem, ↓IntWalk.iteOmega, ev e6]
  with_reducible rfl
 intro a7 hE e7 kp
 apply Z05 8 hE k rfl rfl rfl rfl
 case h =>
  simp [go_sem, ↓IntWalk.iteOmega, ev e7, c1]
  with_reducible rfl
 intro a8 hE e8 kp
 apply Z06 9 hE k rfl (by rfl) (by rfl) rfl
 case h =>
  simp [go_sem, ↓IntWalk.iteOmega, ev e8]
  with_reducible exact ⟨rfl, rfl⟩
 case hc => exact Z67 _ h hT
 rintro e w10 ⟨Bo, co, rfl, hrow, RE⟩
 replace O := OwnT.ext O RE
 refine ⟨_, rfl, ?_⟩
 intro a9 hE e9 kp
 refine sd 2 hE k (Z01 rfl e9) ?_
 intro a11 hE e2 kp
 refine wpList_nil ?_
 replace k := k.env hE
 clear hE e0 e4
 refine Z00 ?_
 refine wp_ret ?_
 refine Z0f rfl k e2 ?_
 exact ⟨Bo, co, rfl, hrow, O.below⟩
set_option maxRecDepth 100000 in
set_option maxHeartbeats 4000000 in
theorem Z7w {H : Nat} {A0 : World} {R : List Thing} {v1 v2 v3 : Value} {tb : Nat} (w : World) (O : OwnT H A0 (tBlk tb 55 #[v1, v2, v3, .bool false] :: R) w) : Calls Try.prog 33 #[.pointer (some ⟨tb, 0, none⟩), .int .i64 0] w fun e w' => e = .returned (.int .i64 0) ∧ OwnT H A0 (tBlk tb 55 #[v1, v2, v3, .bool false] :: R) w' := by
 refine Z0a Try.func33 rfl 17 rfl (by rfl) ?_
 intro a1 k hargs
 have e0 : a1.eval (.tmp 0) = .pointer (some ⟨tb, 0, none⟩) := hargs 0 _ rfl
 have e1 : a1.eval (.tmp 1) = .int .i64 0 := hargs 1 _ rfl
 clear hargs
 refine wp_seq ?_
 refine wp_region_lit ?_
 have hE := Env.refl a1 [4]
 refine sd 4 hE k (Z01 rfl rfl) ?_
 intro a2 hE e4 kp
 refine wpList_nil ?_
 replace e0 := hE.g e0; replace e1 := hE.g e1
 replace k := k.env hE
 clear hE e4
 refine Z00 (wp_seq ?_)
 refine wp_region_lit ?_
 have hE := Env.refl a2 [5, 6, 7, 8, 9, 10, 11, 12, 13, 14, 15]
 refine zm 5 hE k e0 ?_
 intro a3 hE e5 kp
 refine zm 6 hE k e0 ?_
 intro a4 hE e6 kp
 replace e5 := kt kp e5
 refine sd 7 hE k (Z0p rfl e6) ?_
 intro a5 hE e7 kp
 replace e5 := kt kp e5
 apply Z05 8 hE k rfl rfl rfl rfl
 case h =>
  simp [go_sem, ↓IntWalk.iteOmega, ev e7]
  with_reducible rfl
 intro a6 hE e8 kp
 replace e5 := kt kp e5
 apply Z05 9 hE k rfl rfl rfl rfl
 case h =>
  have q0 : w.cell? ⟨tb, 3, none⟩ = some (.bool false) := (OwnT.blk O 0 rfl).cell 3
  simp [go_sem, ↓IntWalk.iteOmega, ev e8, q0]
  with_reducible rfl
 intro a7 hE e9 kp
 replace e5 := kt kp e5
 refine sd 10 hE k (Z03 rfl e9) ?_
 intro a8 hE e10 kp
 replace e5 := kt kp e5
 apply Z02 11 hE k rfl rfl rfl rfl rfl e10
 case h =>
  exact Z03 rfl (hE.g e1)
 intro a9 hE e11 kp
 replace e5 := kt kp e5; replace e10 := kt kp e10
 apply Z02 12 hE k rfl rfl rfl rfl rfl e10
 case h =>
  exact Z1s rfl e11 rfl
 intro a10 hE e12 kp
 replace e5 := kt kp e5; replace e10 := kt kp e10
 refine sd 13 hE k (Z0g rfl e10 e12) ?_
 intro a11 hE e13 kp
 replace e5 := kt kp e5
 refine sd 14 hE k (Z0p rfl e5) ?_
 intro a12 hE e14 kp
 replace e13 := kt kp e13
 apply Z05 15 hE k rfl rfl rfl rfl
 case h =>
  simp [go_sem, ↓IntWalk.iteOmega, ev e14]
  with_reducible rfl
 intro a13 hE e15 kp
 replace e13 := kt kp e13
 have q0 : w.cell? ⟨tb, 3, none⟩ = some (.bool false) := (OwnT.blk O 0 rfl).cell 3
 have q1 : w.frozen? ⟨tb, 3, none⟩ = false := (OwnT.blk O 0 rfl).frozen 3
 refine Z42 (off := 3) (v := .bool false) O 0 rfl hE rfl rfl (by simp [go_sem, ↓IntWalk.iteOmega, ev e13, ev e15, q0, q1]) ?_
 clear q0 q1
 clear O
 intro w14 O
 replace O : OwnT _ _ ((tBlk tb 55 #[v1, v2, v3, .bool false]) :: R) w14 := O
 refine wpList_nil ?_
 replace e1 := hE.g e1
 replace k := k.env hE
 clear hE e0 e13 e15
 refine Z00 (wp_seq ?_)
 refine wp_region_lit ?_
 have hE := Env.refl a13 [16, 4]
 refine zm 16 hE k e1 ?_
 intro a15 hE e16 kp
 refine sd 4 hE k (Z01 rfl e16) ?_
 intro a16 hE e4 kp
 refine wpList_nil ?_
 replace k := k.env hE
 clear hE e1
 refine Z00 ?_
 refine wp_ret ?_
 refine Z0f rfl k e4 ?_
 exact ⟨rfl, O⟩
theorem Z6l (w : World) : Calls Try.prog 19 #[.pointer none] w fun e w' => e = .returned (.int .i64 2) ∧ w = w' := by
 refine Z0a Try.func19 rfl 16 rfl (by rfl) ?_
 intro a1 k hargs
 have e0 : a1.eval (.tmp 0) = .pointer none := hargs 0 _ rfl
 clear hargs
 refine wp_seq ?_
 refine wp_region_lit ?_
 have hE := Env.refl a1 [2]
 refine sd 2 hE k (Z01 rfl rfl) ?_
 intro a2 hE e2 kp
 refine wpList_nil ?_
 replace e0 := hE.g e0
 replace k := k.env hE
 clear hE e2
 refine Z00 (wp_seq ?_)
 refine wp_seq ?_
 refine wp_region_lit ?_
 have hE := Env.refl a2 [4, 5, 3]
 refine zm 4 hE k e0 ?_
 intro a3 hE e4 kp
 apply Z06 5 hE k rfl (by rfl) (by rfl) rfl
 case h =>
  simp [go_sem, ↓IntWalk.iteOmega, ev e4]
  with_reducible exact ⟨rfl, rfl⟩
 case hc => exact Z6k _
 rintro e _ ⟨rfl, rfl⟩
 refine ⟨_, rfl, ?_⟩
 intro a4 hE e5 kp
 refine sd 3 hE k (Z01 rfl e5) ?_
 intro a5 hE e3 kp
 refine wpList_nil ?_
 replace e0 := hE.g e0
 replace k := k.env hE
 clear hE
 refine Z00 (wp_seq ?_)
 refine wp_region_lit ?_
 have hE := Env.refl a5 [6, 7]
 refine zm 6 hE k e3 ?_
 intro a6 hE e6 kp
 refine sd 7 hE k (Z15 rfl e6 rfl) ?_
 intro a7 hE e7 kp
 refine wpList_nil ?_
 replace e0 := hE.g e0; replace e3 := hE.g e3
 replace k := k.env hE
 clear hE
 refine Z00 ?_
 refine Z0h e7 rfl ?_
 refine wp_seq ?_
 refine wp_region_lit ?_
 have hE := Env.refl a7 [8, 2]
 refine zm 8 hE k e3 ?_
 intro a8 hE e8 kp
 refine sd 2 hE k (Z01 rfl e8) ?_
 intro a9 hE e2 kp
 refine wpList_nil ?_
 replace k := k.env hE
 clear hE e0 e3 e7
 refine Z00 ?_
 refine wp_ret ?_
 refine Z0n ?_
 refine Z0f rfl k e2 ?_
 exact ⟨rfl, rfl⟩
set_option maxRecDepth 100000 in
set_option maxHeartbeats 4000000 in
theorem Z4j {H : Nat} {A0 : World} {R : List Thing} {tb p mb n cap bm : Nat} {B : Option Addr} {S : List Sec} {M : Mn} {c : Int} {L : Int → Option Sec} {T : List Sec} {u ct : Nat} {Bt : Option Addr} (w : World) (O : OwnT H A0 ((tDisc p mb B n cap bm S L) :: (tMn mb M) :: (tBlk tb 55 #[.pointer (some ⟨p, 0, none⟩), .slice Bt T.length ct, .int .i64 ↑u, .bool false]) :: (tRow 9 1 (.slice Bt T.length ct) T.length (strsV T)) :: R) w) (hM : M.Ok c) (hc : c ≤ 1000000000) (hF : M.Free) : Calls Try.prog 19 #[.pointer (some ⟨tb, 0, none⟩)] w fun e w' => e = .returned (.int .i64 0) ∧ OwnT H A0 ((tDisc p mb B n cap bm (nowL S L) (fun _ => none)) :: (tMn mb M.use) :: (tBlk tb 55 #[.pointer (some ⟨p, 0, none⟩), .slice Bt T.length ct, .int .i64 ↑u, .bool false]) :: (tRow 9 1 (.slice Bt T.length ct) T.length (strsV T)) :: R) w' := by
 refine Z0a Try.func19 rfl 16 rfl (by rfl) ?_
 intro a1 k hargs
 have e0 : a1.eval (.tmp 0) = .pointer (some ⟨tb, 0, none⟩) := hargs 0 _ rfl
 clear hargs
 refine wp_seq ?_
 refine wp_region_lit ?_
 have hE := Env.refl a1 [2]
 refine sd 2 hE k (Z01 rfl rfl) ?_
 intro a2 hE e2 kp
 refine wpList_nil ?_
 replace e0 := hE.g e0
 replace k := k.env hE
 clear hE e2
 refine Z00 (wp_seq ?_)
 refine wp_seq ?_
 refine wp_region_lit ?_
 have hE := Env.refl a2 [4, 5, 3]
 refine zm 4 hE k e0 ?_
 intro a3 hE e4 kp
 apply Z06 5 hE k rfl (by rfl) (by rfl) rfl
 case h =>
  simp [go_sem, ↓IntWalk.iteOmega, ev e4]
  with_reducible exact ⟨rfl, rfl⟩
 case hc => exact Z5k _ (OwnT.blk O 2 rfl)
 rintro e _ ⟨rfl, rfl⟩
 refine ⟨_, rfl, ?_⟩
 intro a4 hE e5 kp
 refine sd 3 hE k (Z01 rfl e5) ?_
 intro a5 hE e3 kp
 refine wpList_nil ?_
 replace e0 := hE.g e0
 replace k := k.env hE
 clear hE
 refine Z00 (wp_seq ?_)
 refine wp_region_lit ?_
 have hE := Env.refl a5 [6, 7]
 refine zm 6 hE k e3 ?_
 intro a6 hE e6 kp
 refine sd 7 hE k (Z15 rfl e6 rfl) ?_
 intro a7 hE e7 kp
 refine wpList_nil ?_
 replace e0 := hE.g e0; replace e3 := hE.g e3
 replace k := k.env hE
 clear hE
 refine Z00 ?_
 refine Z08 e7 rfl ?_
 refine wp_skip ?_
 refine Z00 (wp_seq ?_)
 refine wp_region_lit ?_
 have hE := Env.refl a7 [9, 10, 11, 12, 13, 14, 15, 2]
 refine zm 9 hE k e0 ?_
 intro a8 hE e9 kp
 refine zm 10 hE k e0 ?_
 intro a9 hE e10 kp
 replace e9 := kt kp e9
 refine sd 11 hE k (Z0p rfl e10) ?_
 intro a10 hE e11 kp
 replace e9 := kt kp e9
 apply Z05 12 hE k rfl rfl rfl rfl
 case h =>
  simp [go_sem, ↓IntWalk.iteOmega, ev e11]
  with_reducible rfl
 intro a11 hE e12 kp
 replace e9 := kt kp e9
 apply Z05 13 hE k rfl rfl rfl rfl
 case h =>
  have q0 : w.cell? ⟨tb, 0, none⟩ = some (.pointer (some ⟨p, 0, none⟩)) := (OwnT.blk O 2 rfl).cell 0
  simp [go_sem, ↓IntWalk.iteOmega, ev e12, q0]
  with_reducible rfl
 intro a12 hE e13 kp
 replace e9 := kt kp e9
 apply Z06 14 hE k rfl (by rfl) (by rfl) rfl
 case h =>
  simp [go_sem, ↓IntWalk.iteOmega, ev e13]
  with_reducible exact ⟨rfl, rfl⟩
 case hc => exact Z4v _ O hM (by omega) hF.up
 clear O
 rintro e w14 ⟨rfl, O⟩
 refine ⟨_, rfl, ?_⟩
 intro a13 hE e14 kp
 replace e9 := kt kp e9
 apply Z06 15 hE k rfl (by rfl) (by rfl) rfl
 case h =>
  simp [go_sem, ↓IntWalk.iteOmega, ev e9, ev e14]
  with_reducible exact ⟨rfl, rfl⟩
 case hc => exact Z7w _ (OwnT.pull O 2 rfl)
 clear O
 rintro e w16 ⟨rfl, O⟩
 replace O := OwnT.pickR (L := [_, _, _, _]) (R := R) O [1, 2, 0, 3] (by decide)
 refine ⟨_, rfl, ?_⟩
 intro a15 hE e15 kp
 refine sd 2 hE k (Z01 rfl e15) ?_
 intro a17 hE e2 kp
 refine wpList_nil ?_
 replace k := k.env hE
 clear hE e0 e3 e7
 refine Z00 ?_
 refine wp_ret ?_
 refine Z0f rfl k e2 ?_
 exact ⟨rfl, O⟩
theorem Z7z (s : List UInt8) (w : World) : Calls Try.prog 15 #[.pointer none, .string (sB s)] w fun e w' => e = .returned (.int .i64 2) ∧ w = w' := by
 refine Z0a Try.func15 rfl 63 rfl (by rfl) ?_
 intro a1 k hargs
 have e0 : a1.eval (.tmp 0) = .pointer none := hargs 0 _ rfl
 have e1 : a1.eval (.tmp 1) = .string (sB s) := hargs 1 _ rfl
 clear hargs
 refine wp_seq ?_
 refine wp_region_lit ?_
 have hE := Env.refl a1 [4]
 refine sd 4 hE k (Z01 rfl rfl) ?_
 intro a2 hE e4 kp
 refine wpList_nil ?_
 replace e0 := hE.g e0; replace e1 := hE.g e1
 replace k := k.env hE
 clear hE e4
 refine Z00 (wp_seq ?_)
 refine wp_seq ?_
 refine wp_region_lit ?_
 have hE := Env.refl a2 [7, 8, 5]
 refine zm 7 hE k e0 ?_
 intro a3 hE e7 kp
 apply Z06 8 hE k rfl (by rfl) (by rfl) rfl
 case h =>
  simp [go_sem, ↓IntWalk.iteOmega, ev e7]
  with_reducible exact ⟨rfl, rfl⟩
 case hc => exact Z6k _
 rintro e _ ⟨rfl, rfl⟩
 refine ⟨_, rfl, ?_⟩
 intro a4 hE e8 kp
 refine sd 5 hE k (Z01 rfl e8) ?_
 intro a5 hE e5 kp
 refine wpList_nil ?_
 replace e0 := hE.g e0; replace e1 := hE.g e1
 replace k := k.env hE
 clear hE
 refine Z00 (wp_seq ?_)
 refine wp_region_lit ?_
 have hE := Env.refl a5 [9, 10]
 refine zm 9 hE k e5 ?_
 intro a6 hE e9 kp
 refine sd 10 hE k (Z15 rfl e9 rfl) ?_
 intro a7 hE e10 kp
 refine wpList_nil ?_
 replace e0 := hE.g e0; replace e1 := hE.g e1; replace e5 := hE.g e5
 replace k := k.env hE
 clear hE
 refine Z00 ?_
 refine Z0h e10 rfl ?_
 refine wp_seq ?_
 refine wp_region_lit ?_
 have hE := Env.refl a7 [11, 4]
 refine zm 11 hE k e5 ?_
 intro a8 hE e11 kp
 refine sd 4 hE k (Z01 rfl e11) ?_
 intro a9 hE e4 kp
 refine wpList_nil ?_
 replace k := k.env hE
 clear hE e0 e1 e5 e10
 refine Z00 ?_
 refine wp_ret ?_
 refine Z0n ?_
 refine Z0f rfl k e4 ?_
 exact ⟨rfl, rfl⟩
set_option maxRecDepth 100000 in
set_option maxHeartbeats 4000000 in
theorem Z6s {H : Nat} {A0 : World} {R : List Thing} {tb p mb n cap bm : Nat} {B : Option Addr} {S : List Sec} {M : Mn} {c : Int} {L : Int → Option Sec} {T : List Sec} {u ct : Nat} {Bt : Option Addr} (s : List UInt8) (w : World) (O : OwnT H A0 ((tDisc p mb B n cap bm S L) :: (tMn mb M) :: (tBlk tb 55 #[.pointer (some ⟨p, 0, none⟩), .slice Bt T.length ct, .int .i64 ↑u, .bool false]) :: (tRow 9 1 (.slice Bt T.length ct) T.length (strsV T)) :: R) w) (ha : u ≤ n) (hT : T.length ≤ u) (hs : 600 < s.length) (hs2 : s.length ≤ 1000000) : Calls Try.prog 15 #[.pointer (some ⟨tb, 0, none⟩), .string (sB s)] w fun e w' => e = .returned (.int .i64 1) ∧ OwnT H A0 ((tDisc p mb B n cap bm S L) :: (tMn mb M) :: (tBlk tb 55 #[.pointer (some ⟨p, 0, none⟩), .slice Bt T.length ct, .int .i64 ↑u, .bool false]) :: (tRow 9 1 (.slice Bt T.length ct) T.length (strsV T)) :: R) w' := by
 have hdk := O.dok
 have hn1 := hdk.le
 refine Z0a Try.func15 rfl 63 rfl (by rfl) ?_
 intro a1 k hargs
 have e0 : a1.eval (.tmp 0) = .pointer (some ⟨tb, 0, none⟩) := hargs 0 _ rfl
 have e1 : a1.eval (.tmp 1) = .string (sB s) := hargs 1 _ rfl
 clear hargs
 refine wp_seq ?_
 refine wp_region_lit ?_
 have hE := Env.refl a1 [4]
 refine sd 4 hE k (Z01 rfl rfl) ?_
 intro a2 hE e4 kp
 refine wpList_nil ?_
 replace e0 := hE.g e0; replace e1 := hE.g e1
 replace k := k.env hE
 clear hE e4
 refine Z00 (wp_seq ?_)
 refine wp_seq ?_
 refine wp_region_lit ?_
 have hE := Env.refl a2 [7, 8, 5]
 refine zm 7 hE k e0 ?_
 intro a3 hE e7 kp
 apply Z06 8 hE k rfl (by rfl) (by rfl) rfl
 case h =>
  simp [go_sem, ↓IntWalk.iteOmega, ev e7]
  with_reducible exact ⟨rfl, rfl⟩
 case hc => exact Z5k _ (OwnT.blk O 2 rfl)
 rintro e _ ⟨rfl, rfl⟩
 refine ⟨_, rfl, ?_⟩
 intro a4 hE e8 kp
 refine sd 5 hE k (Z01 rfl e8) ?_
 intro a5 hE e5 kp
 refine wpList_nil ?_
 replace e0 := hE.g e0; replace e1 := hE.g e1
 replace k := k.env hE
 clear hE
 refine Z00 (wp_seq ?_)
 refine wp_region_lit ?_
 have hE := Env.refl a5 [9, 10]
 refine zm 9 hE k e5 ?_
 intro a6 hE e9 kp
 refine sd 10 hE k (Z15 rfl e9 rfl) ?_
 intro a7 hE e10 kp
 refine wpList_nil ?_
 replace e0 := hE.g e0; replace e1 := hE.g e1; replace e5 := hE.g e5
 replace k := k.env hE
 clear hE
 refine Z00 ?_
 refine Z08 e10 rfl ?_
 refine wp_skip ?_
 refine Z00 (wp_seq ?_)
 refine wp_block ?_
 refine wp_seq ?_
 refine wp_region_lit ?_
 have hE := Env.refl a7 [13, 14, 15, 12]
 refine zm 13 hE k e1 ?_
 intro a8 hE e13 kp
 refine sd 14 hE k (Z07 Try.underlying9 rfl e13) ?_
 intro a9 hE e14 kp
 refine sd 15 hE k (Z09 (Z0z rfl e14 rfl) (decide_eq_true (by omega))) ?_
 intro a10 hE e15 kp
 refine sd 12 hE k (Z01 rfl e15) ?_
 intro a11 hE e12 kp
 refine wpList_nil ?_
 replace e0 := hE.g e0; replace e1 := hE.g e1
 replace k := k.env hE
 clear hE e5 e10
 refine Z00 ?_
 refine Z0h e12 rfl ?_
 refine wp_seq ?_
 refine wp_region_lit ?_
 have hE := Env.refl a11 [4]
 refine sd 4 hE k (Z01 rfl rfl) ?_
 intro a12 hE e4 kp
 refine wpList_nil ?_
 replace k := k.env hE
 clear hE e0 e1 e12
 refine Z00 ?_
 refine wp_ret ?_
 refine Z1a ?_
 refine Z0n ?_
 refine Z0f rfl k e4 ?_
 exact ⟨rfl, O⟩
set_option maxRecDepth 100000 in
set_option maxHeartbeats 4000000 in
theorem Z6t {H : Nat} {A0 : World} {R : List Thing} {tb p mb n cap bm : Nat} {B : Option Addr} {S : List Sec} {M : Mn} {c : Int} {L : Int → Option Sec} {T : List Sec} {u ct : Nat} {Bt : Option Addr} (s : List UInt8) (w : World) (O : OwnT H A0 ((tDisc p mb B n cap bm S L) :: (tMn mb M) :: (tBlk tb 55 #[.pointer (some ⟨p, 0, none⟩), .slice Bt T.length ct, .int .i64 ↑u, .bool false]) :: (tRow 9 1 (.slice Bt T.length ct) T.length (strsV T)) :: R) w) (ha : u ≤ n) (hT : T.length ≤ u) (hs : s.length ≤ 600) (hf : n - u < szT s) : Calls Try.prog 15 #[.pointer (some ⟨tb, 0, none⟩), .string (sB s)] w fun e w' => e = .returned (.int .i64 5) ∧ OwnT H A0 ((tDisc p mb B n cap bm S L) :: (tMn mb M) :: (tBlk tb 55 #[.pointer (some ⟨p, 0, none⟩), .slice Bt T.length ct, .int .i64 ↑u, .bool false]) :: (tRow 9 1 (.slice Bt T.length ct) T.length (strsV T)) :: R) w' := by
 have hdk := O.dok
 have hn1 := hdk.le
 refine Z0a Try.func15 rfl 63 rfl (by rfl) ?_
 intro a1 k hargs
 have e0 : a1.eval (.tmp 0) = .pointer (some ⟨tb, 0, none⟩) := hargs 0 _ rfl
 have e1 : a1.eval (.tmp 1) = .string (sB s) := hargs 1 _ rfl
 clear hargs
 refine wp_seq ?_
 refine wp_region_lit ?_
 have hE := Env.refl a1 [4]
 refine sd 4 hE k (Z01 rfl rfl) ?_
 intro a2 hE e4 kp
 refine wpList_nil ?_
 replace e0 := hE.g e0; replace e1 := hE.g e1
 replace k := k.env hE
 clear hE e4
 refine Z00 (wp_seq ?_)
 refine wp_seq ?_
 refine wp_region_lit ?_
 have hE := Env.refl a2 [7, 8, 5]
 refine zm 7 hE k e0 ?_
 intro a3 hE e7 kp
 apply Z06 8 hE k rfl (by rfl) (by rfl) rfl
 case h =>
  simp [go_sem, ↓IntWalk.iteOmega, ev e7]
  with_reducible exact ⟨rfl, rfl⟩
 case hc => exact Z5k _ (OwnT.blk O 2 rfl)
 rintro e _ ⟨rfl, rfl⟩
 refine ⟨_, rfl, ?_⟩
 intro a4 hE e8 kp
 refine sd 5 hE k (Z01 rfl e8) ?_
 intro a5 hE e5 kp
 refine wpList_nil ?_
 replace e0 := hE.g e0; replace e1 := hE.g e1
 replace k := k.env hE
 clear hE
 refine Z00 (wp_seq ?_)
 refine wp_region_lit ?_
 have hE := Env.refl a5 [9, 10]
 refine zm 9 hE k e5 ?_
 intro a6 hE e9 kp
 refine sd 10 hE k (Z15 rfl e9 rfl) ?_
 intro a7 hE e10 kp
 refine wpList_nil ?_
 replace e0 := hE.g e0; replace e1 := hE.g e1; replace e5 := hE.g e5
 replace k := k.env hE
 clear hE
 refine Z00 ?_
 refine Z08 e10 rfl ?_
 refine wp_skip ?_
 refine Z00 (wp_seq ?_)
 refine wp_block ?_
 refine wp_seq ?_
 refine wp_region_lit ?_
 have hE := Env.refl a7 [13, 14, 15, 12]
 refine zm 13 hE k e1 ?_
 intro a8 hE e13 kp
 refine sd 14 hE k (Z07 Try.underlying9 rfl e13) ?_
 intro a9 hE e14 kp
 refine sd 15 hE k (Z09 (Z0z rfl e14 rfl) (decide_eq_false (by omega))) ?_
 intro a10 hE e15 kp
 refine sd 12 hE k (Z01 rfl e15) ?_
 intro a11 hE e12 kp
 refine wpList_nil ?_
 replace e0 := hE.g e0; replace e1 := hE.g e1
 replace k := k.env hE
 clear hE e5 e10
 refine Z00 ?_
 refine Z08 e12 rfl ?_
 refine wp_seq ?_
 refine wp_region_lit ?_
 have hE := Env.refl a11 [17, 18, 19, 20, 21, 16]
 refine zm 17 hE k e1 ?_
 intro a12 hE e17 kp
 apply Z06 18 hE k rfl (by rfl) (by rfl) rfl
 case h =>
  simp [go_sem, ↓IntWalk.iteOmega, ev e17]
  with_reducible exact ⟨rfl, rfl⟩
 case hc => exact Z0w s _ (by omega)
 rintro e w14 ⟨rfl, RE⟩
 replace O := OwnT.ext O RE
 refine ⟨_, rfl, ?_⟩
 intro a13 hE e18 kp
 refine zm 19 hE k e0 ?_
 intro a15 hE e19 kp
 replace e18 := kt kp e18
 apply Z06 20 hE k rfl (by rfl) (by rfl) rfl
 case h =>
  simp [go_sem, ↓IntWalk.iteOmega, ev e19]
  with_reducible exact ⟨rfl, rfl⟩
 case hc => exact Z1m _ (OwnT.disc O) (OwnT.blk O 2 rfl) ha
 rintro e w17 ⟨rfl, RE⟩
 replace O := OwnT.ext O RE
 refine ⟨_, rfl, ?_⟩
 intro a16 hE e20 kp
 replace e18 := kt kp e18
 refine sd 21 hE k (Z09 (Z0z rfl e18 e20) (decide_eq_true (by omega))) ?_
 intro a18 hE e21 kp
 refine sd 16 hE k (Z01 rfl e21) ?_
 intro a19 hE e16 kp
 refine wpList_nil ?_
 replace e0 := hE.g e0; replace e1 := hE.g e1
 replace k := k.env hE
 clear hE e12
 refine Z00 ?_
 refine Z0h e16 rfl ?_
 refine wp_seq ?_
 refine wp_region_lit ?_
 have hE := Env.refl a19 [4]
 refine sd 4 hE k (Z01 rfl rfl) ?_
 intro a20 hE e4 kp
 refine wpList_nil ?_
 replace k := k.env hE
 clear hE e0 e1 e16
 refine Z00 ?_
 refine wp_ret ?_
 refine Z1a ?_
 refine Z0n ?_
 refine Z0f rfl k e4 ?_
 exact ⟨rfl, O⟩
set_option maxRecDepth 100000 in
set_option maxHeartbeats 4000000 in
theorem Z6r {H : Nat} {A0 : World} {R : List Thing} {tb p mb n cap bm : Nat} {B : Option Addr} {S : List Sec} {M : Mn} {c : Int} {L : Int → Option Sec} {T : List Sec} {u ct : Nat} {Bt : Option Addr} (s : List UInt8) (w : World) (O : OwnT H A0 ((tDisc p mb B n cap bm S L) :: (tMn mb M) :: (tBlk tb 55 #[.pointer (some ⟨p, 0, none⟩), .slice Bt T.length ct, .int .i64 ↑u, .bool false]) :: (tRow 9 1 (.slice Bt T.length ct) T.length (strsV T)) :: R) w) (ha : u ≤ n) (hT : T.length ≤ u) (hs : s.length ≤ 600) (hf : szT s ≤ n - u) (hM : M.Ok c) (hc : c ≤ 1000000000) (hF : M.Free) : Calls Try.prog 15 #[.pointer (some ⟨tb, 0, none⟩), .string (sB s)] w fun e w' => e = .returned (.int .i64 0) ∧ ∃ Bt ct, OwnT H A0 ((tDisc p mb B n cap bm S ((wrS (tapeL (T.length + 1) s) u L (szT s)))) :: (tMn mb ((M.useN (szT s)))) :: (tBlk tb 55 #[.pointer (some ⟨p, 0, none⟩), .slice Bt (((T ++ [s])).length) ct, .int .i64 (↑((u + szT s))), .bool false]) :: (tRow 9 1 (.slice Bt ((T ++ [s])).length ct) ((T ++ [s])).length (strsV ((T ++ [s])))) :: R) w' := by
 have hdk := O.dok
 have hn1 := hdk.le
 refine Z0a Try.func15 rfl 63 rfl (by rfl) ?_
 intro a1 k hargs
 have e0 : a1.eval (.tmp 0) = .pointer (some ⟨tb, 0, none⟩) := hargs 0 _ rfl
 have e1 : a1.eval (.tmp 1) = .string (sB s) := hargs 1 _ rfl
 clear hargs
 have htl := Z11 (T.length + 1) s
 refine wp_seq ?_
 refine wp_region_lit ?_
 have hE := Env.refl a1 [4]
 refine sd 4 hE k (Z01 rfl rfl) ?_
 intro a2 hE e4 kp
 refine wpList_nil ?_
 replace e0 := hE.g e0; replace e1 := hE.g e1
 replace k := k.env hE
 clear hE e4
 refine Z00 (wp_seq ?_)
 refine wp_seq ?_
 refine wp_region_lit ?_
 have hE := Env.refl a2 [7, 8, 5]
 refine zm 7 hE k e0 ?_
 intro a3 hE e7 kp
 apply Z06 8 hE k rfl (by rfl) (by rfl) rfl
 case h =>
  simp [go_sem, ↓IntWalk.iteOmega, ev e7]
  with_reducible exact ⟨rfl, rfl⟩
 case hc => exact Z5k _ (OwnT.blk O 2 rfl)
 rintro e _ ⟨rfl, rfl⟩
 refine ⟨_, rfl, ?_⟩
 intro a4 hE e8 kp
 refine sd 5 hE k (Z01 rfl e8) ?_
 intro a5 hE e5 kp
 refine wpList_nil ?_
 replace e0 := hE.g e0; replace e1 := hE.g e1
 replace k := k.env hE
 clear hE
 refine Z00 (wp_seq ?_)
 refine wp_region_lit ?_
 have hE := Env.refl a5 [9, 10]
 refine zm 9 hE k e5 ?_
 intro a6 hE e9 kp
 refine sd 10 hE k (Z15 rfl e9 rfl) ?_
 intro a7 hE e10 kp
 refine wpList_nil ?_
 replace e0 := hE.g e0; replace e1 := hE.g e1; replace e5 := hE.g e5
 replace k := k.env hE
 clear hE
 refine Z00 ?_
 refine Z08 e10 rfl ?_
 refine wp_skip ?_
 refine Z00 (wp_seq ?_)
 refine wp_block ?_
 refine wp_seq ?_
 refine wp_region_lit ?_
 have hE := Env.refl a7 [13, 14, 15, 12]
 refine zm 13 hE k e1 ?_
 intro a8 hE e13 kp
 refine sd 14 hE k (Z07 Try.underlying9 rfl e13) ?_
 intro a9 hE e14 kp
 refine sd 15 hE k (Z09 (Z0z rfl e14 rfl) (decide_eq_false (by omega))) ?_
 intro a10 hE e15 kp
 refine sd 12 hE k (Z01 rfl e15) ?_
 intro a11 hE e12 kp
 refine wpList_nil ?_
 replace e0 := hE.g e0; replace e1 := hE.g e1
 replace k := k.env hE
 clear hE e5 e10
 refine Z00 ?_
 refine Z08 e12 rfl ?_
 refine wp_seq ?_
 refine wp_region_lit ?_
 have hE := Env.refl a11 [17, 18, 19, 20, 21, 16]
 refine zm 17 hE k e1 ?_
 intro a12 hE e17 kp
 apply Z06 18 hE k rfl (by rfl) (by rfl) rfl
 case h =>
  simp [go_sem, ↓IntWalk.iteOmega, ev e17]
  with_reducible exact ⟨rfl, rfl⟩
 case hc => exact Z0w s _ (by omega)
 rintro e w14 ⟨rfl, RE⟩
 replace O := OwnT.ext O RE
 refine ⟨_, rfl, ?_⟩
 intro a13 hE e18 kp
 refine zm 19 hE k e0 ?_
 intro a15 hE e19 kp
 replace e18 := kt kp e18
 apply Z06 20 hE k rfl (by rfl) (by rfl) rfl
 case h =>
  simp [go_sem, ↓IntWalk.iteOmega, ev e19]
  with_reducible exact ⟨rfl, rfl⟩
 case hc => exact Z1m _ (OwnT.disc O) (OwnT.blk O 2 rfl) ha
 rintro e w17 ⟨rfl, RE⟩
 replace O := OwnT.ext O RE
 refine ⟨_, rfl, ?_⟩
 intro a16 hE e20 kp
 replace e18 := kt kp e18
 refine sd 21 hE k (Z09 (Z0z rfl e18 e20) (decide_eq_false (by omega))) ?_
 intro a18 hE e21 kp
 refine sd 16 hE k (Z01 rfl e21) ?_
 intro a19 hE e16 kp
 refine wpList_nil ?_
 replace e0 := hE.g e0; replace e1 := hE.g e1
 replace k := k.env hE
 clear hE e12
 refine Z00 ?_
 refine Z08 e16 rfl ?_
 refine wp_skip ?_
 refine Z14 ?_
 refine Z00 ?_
 have hz : (tapeL (T.length + 1) s).length / 16 = szT s := by omega
 have hwr := fun (w : World) (O : OwnT H A0 ((tDisc p mb B n cap bm S L) :: (tMn mb M) :: (tBlk tb 55 #[.pointer (some ⟨p, 0, none⟩), .slice Bt T.length ct, .int .i64 ↑u, .bool false]) :: (tRow 9 1 (.slice Bt T.length ct) T.length (strsV T)) :: R) w) => Z3s (u : Int) (tapeL (T.length + 1) s) w O (by omega) (by omega) (by rw [hz]; exact decide_eq_true (by omega)) hM (by omega) hF
 rw [hz] at hwr
 refine wp_seq ?_
 refine wp_seq ?_
 refine wp_mid (w0 := w17) 16 [[], [0], [0, 1], [0, 1, 2], [], [4], [4, 5], [4, 5, 6], [], [8], [8, 9], [8, 9, 10], [8, 9, 10, 11], [8, 9, 10, 11, 12], [], [8, 9, 10, 11, 12, 13, 14], [0, 1, 2, 3, 4, 5, 6, 7, 8, 9, 10, 11, 12, 13, 14, 15], [0, 1, 2, 3, 4, 5, 6, 7, 8, 9, 10, 11, 12, 13, 14, 15, 16]] [22, 23, 24, 25, 26, 27, 28, 29, 30, 31, 32, 33, 34, 35, 36, 37, 38, 6] (by kernel_rfl) ?_
 apply BuildL.detA 22 (fun _ w_ _ => Ext.refl w_) (fun _ _ h => h.upd (by rfl)) (by rfl) (by rw [k.size]; rfl) rfl
 case h =>
  intro lx ax wx hE hI hl hA hF
  have hR := hI.pre (by rfl) hl
  exact Z03 rfl (hE.g e0)
 apply BuildL.detA 23 (fun _ w_ _ => Ext.refl w_) (fun _ _ h => h.upd (by rfl)) (by rfl) (by rw [k.size]; rfl) rfl
 case h =>
  intro lx ax wx hE hI hl hA hF
  have e22 := hF 0 (detL 0 22 _) (by decide) ml0
  have hR := hI.pre (by rfl) hl
  exact Z0p rfl e22
 apply BuildL.detA 24 (fun _ w_ _ => Ext.refl w_) (fun _ _ h => h.upd (by rfl)) (by rfl) (by rw [k.size]; rfl) rfl
 case h =>
  intro lx ax wx hE hI hl hA hF
  have e23 := hF 1 (detL 1 23 _) (by decide) ml0
  have hR := hI.pre (by rfl) hl
  simp [go_sem, ↓IntWalk.iteOmega, ev e23]
  with_reducible rfl
 apply BuildL.detA 25 (fun _ w_ _ => Ext.refl w_) (fun _ _ h => h.upd (by rfl)) (by rfl) (by rw [k.size]; rfl) rfl
 case h =>
  intro lx ax wx hE hI hl hA hF
  have e24 := hF 2 (detL 2 24 _) (by decide) ml0
  have hR := hI.pre (by rfl) hl
  have q0 : wx.cell? ⟨tb, 0, none⟩ = some (.pointer (some ⟨p, 0, none⟩)) := (OwnT.blk (OwnT.ext O hR) 2 rfl).cell 0
  simp [go_sem, ↓IntWalk.iteOmega, ev e24, q0]
  with_reducible rfl
 apply BuildL.detA 26 (fun _ w_ _ => Ext.refl w_) (fun _ _ h => h.upd (by rfl)) (by rfl) (by rw [k.size]; rfl) rfl
 case h =>
  intro lx ax wx hE hI hl hA hF
  have hR := hI.pre (by rfl) hl
  exact Z03 rfl (hE.g e0)
 apply BuildL.detA 27 (fun _ w_ _ => Ext.refl w_) (fun _ _ h => h.upd (by rfl)) (by rfl) (by rw [k.size]; rfl) rfl
 case h =>
  intro lx ax wx hE hI hl hA hF
  have e26 := hF 4 (detL 4 26 _) (by decide) ml0
  have hR := hI.pre (by rfl) hl
  exact Z0p rfl e26
 apply BuildL.detA 28 (fun _ w_ _ => Ext.refl w_) (fun _ _ h => h.upd (by rfl)) (by rfl) (by rw [k.size]; rfl) rfl
 case h =>
  intro lx ax wx hE hI hl hA hF
  have e27 := hF 5 (detL 5 27 _) (by decide) ml0
  have hR := hI.pre (by rfl) hl
  simp [go_sem, ↓IntWalk.iteOmega, ev e27]
  with_reducible rfl
 apply BuildL.detA 29 (fun _ w_ _ => Ext.refl w_) (fun _ _ h => h.upd (by rfl)) (by rfl) (by rw [k.size]; rfl) rfl
 case h =>
  intro lx ax wx hE hI hl hA hF
  have e28 := hF 6 (detL 6 28 _) (by decide) ml0
  have hR := hI.pre (by rfl) hl
  have q0 : wx.cell? ⟨tb, 2, none⟩ = some (.int .i64 ↑u) := (OwnT.blk (OwnT.ext O hR) 2 rfl).cell 2
  simp [go_sem, ↓IntWalk.iteOmega, ev e28, q0]
  with_reducible rfl
 apply BuildL.detA 30 (fun _ w_ _ => Ext.refl w_) (fun _ _ h => h.upd (by rfl)) (by rfl) (by rw [k.size]; rfl) rfl
 case h =>
  intro lx ax wx hE hI hl hA hF
  have hR := hI.pre (by rfl) hl
  exact Z03 rfl (hE.g e0)
 apply BuildL.detA 31 (fun _ w_ _ => Ext.refl w_) (fun _ _ h => h.upd (by rfl)) (by rfl) (by rw [k.size]; rfl) rfl
 case h =>
  intro lx ax wx hE hI hl hA hF
  have e30 := hF 8 (detL 8 30 _) (by decide) ml0
  have hR := hI.pre (by rfl) hl
  exact Z0p rfl e30
 apply BuildL.detA 32 (fun _ w_ _ => Ext.refl w_) (fun _ _ h => h.upd (by rfl)) (by rfl) (by rw [k.size]; rfl) rfl
 case h =>
  intro lx ax wx hE hI hl hA hF
  have e31 := hF 9 (detL 9 31 _) (by decide) ml0
  have hR := hI.pre (by rfl) hl
  simp [go_sem, ↓IntWalk.iteOmega, ev e31]
  with_reducible rfl
 apply BuildL.detA 33 (fun _ w_ _ => Ext.refl w_) (fun _ _ h => h.upd (by rfl)) (by rfl) (by rw [k.size]; rfl) rfl
 case h =>
  intro lx ax wx hE hI hl hA hF
  have e32 := hF 10 (detL 10 32 _) (by decide) ml0
  have hR := hI.pre (by rfl) hl
  have q0 : wx.cell? ⟨tb, 1, none⟩ = some (.slice Bt T.length ct) := (OwnT.blk (OwnT.ext O hR) 2 rfl).cell 1
  simp [go_sem, ↓IntWalk.iteOmega, ev e32, q0]
  with_reducible rfl
 apply BuildL.detA 34 (fun _ w_ _ => Ext.refl w_) (fun _ _ h => h.upd (by rfl)) (by rfl) (by rw [k.size]; rfl) rfl
 case h =>
  intro lx ax wx hE hI hl hA hF
  have e33 := hF 11 (detL 11 33 _) (by decide) ml0
  have hR := hI.pre (by rfl) hl
  exact Z1c Try.underlying22 rfl e33
 apply BuildL.detA 35 (fun _ w_ _ => Ext.refl w_) (fun _ _ h => h.upd (by rfl)) (by rfl) (by rw [k.size]; rfl) rfl
 case h =>
  intro lx ax wx hE hI hl hA hF
  have e34 := hF 12 (detL 12 34 _) (by decide) ml0
  have hR := hI.pre (by rfl) hl
  exact Z2g (v := .int .i64 ↑(T.length + 1)) (Z0r rfl e34 rfl (by omega)) (Z0e (by omega))
 apply BuildL.detA 36 (fun _ w_ _ => Ext.refl w_) (fun _ _ h => h.upd (by rfl)) (by rfl) (by rw [k.size]; rfl) rfl
 case h =>
  intro lx ax wx hE hI hl hA hF
  have hR := hI.pre (by rfl) hl
  exact Z03 rfl (hE.g e1)
 apply BuildL.call 37 (by rfl) (by rw [k.size]; rfl) rfl
 case h =>
  intro lx ax wx hE hI hF
  have e35 := hF 13 (detL 13 35 _) (by decide) ml1
  have e36 := hF 14 (detL 14 36 _) (by decide) ml0
  simp [go_sem, ↓IntWalk.iteOmega, ev e35, ev e36]
  with_reducible exact ⟨rfl, rfl⟩
 case hc => intro lx wx hI hl hA; have hR := hI.pre (by rfl) hl; exact (Z5l (T.length + 1) s wx (by omega) (by omega)).mono (fun e w' h => ⟨h.1, fun _ => h.2, hI.grow (by rfl) h.2⟩)
 refine BuildL.callnew 38 (fun v_ w_ => v_ = .int .i64 0 ∧ OwnT H A0 ((tDisc p mb B n cap bm S ((wrS (tapeL (T.length + 1) s) u L (szT s)))) :: (tMn mb ((M.useN (szT s)))) :: (tBlk tb 55 #[.pointer (some ⟨p, 0, none⟩), .slice Bt T.length ct, .int .i64 ↑u, .bool false]) :: (tRow 9 1 (.slice Bt T.length ct) T.length (strsV T)) :: R) w_) (fun l v_ w_ w2_ hl hR h => by obtain ⟨hv, hO⟩ := h; exact ⟨hv, OwnT.ext hO (hR hl)⟩) (by rfl) (by rw [k.size]; rfl) rfl ?_ ?_
 · intro lx ax wx hE hI hl hA hF
   have e25 := hF 3 (detL 3 25 _) (by decide) ml12
   have e29 := hF 7 (detL 7 29 _) (by decide) ml8
   have e37 := hF 15 (detL 15 37 _) (by decide) ml0
   have hR := hI.1 hl
   refine ⟨_, _, by simp [go_sem, ↓IntWalk.iteOmega, ev e25, ev e29, ev e37], (hwr _ (OwnT.ext O hR)).mono ?_⟩
   rintro e w' ⟨rfl, O2⟩
   exact ⟨_, rfl, fun h => absurd (hl.symm.trans h) Bool.false_ne_true, IM.at_ hA, rfl, O2⟩
 refine BuildL.rel 6 38 (fun v => v) (by rfl) (fun _ w_ _ => Ext.refl w_) (fun _ _ h => h.upd (by rfl)) (by rfl) (by rw [k.size]; rfl) rfl ?_ ?_
 · intro lx ax wx hE hI hF
   exact Z01 rfl rfl
 apply BuildL.stop
 refine ⟨by kernel_rfl, ?_⟩
 clear O
 intro lx a20 w21 hE hI hL hF
 clear hI hL
 have fic := hF 16 _ ml1
 have e6 : a20.eval (.tmp 6) = _ := hF 17 (relL 17 6 38 (fun v => v)) ml0
 clear hF
 obtain ⟨hv, hO⟩ := fic
 rw [hv] at e6
 replace e6 : a20.eval (.tmp 6) = .int .i64 0 := e6
 clear hv
 have O := hO
 replace e0 := hE.g e0; replace e1 := hE.g e1
 replace k := k.env hE
 clear hE e16
 refine Z00 (wp_seq ?_)
 refine wp_region_lit ?_
 have hE := Env.refl a20 [39, 40]
 refine zm 39 hE k e6 ?_
 intro a22 hE e39 kp
 refine sd 40 hE k (Z15 rfl e39 rfl) ?_
 intro a23 hE e40 kp
 refine wpList_nil ?_
 replace e0 := hE.g e0; replace e1 := hE.g e1; replace e6 := hE.g e6
 replace k := k.env hE
 clear hE
 refine Z00 ?_
 refine Z08 e40 rfl ?_
 refine wp_skip ?_
 refine Z00 ?_
 replace O : OwnT _ _ ((tRow 9 1 (.slice Bt T.length ct) T.length (strsV T)) :: (tDisc p mb B n cap bm S ((wrS (tapeL (T.length + 1) s) u L (szT s)))) :: (tMn mb ((M.useN (szT s)))) :: (tBlk tb 55 #[.pointer (some ⟨p, 0, none⟩), .slice Bt T.length ct, .int .i64 ↑u, .bool false]) :: R) w21 := OwnT.pickR (L := [_, _, _, _]) (R := R) O [3, 0, 1, 2] (by decide)
 refine wp_seq ?_
 refine wp_region_lit ?_
 have hE := Env.refl a23 [44, 45, 46, 47, 48, 49, 50, 51, 52, 53]
 refine zm 44 hE k e0 ?_
 intro a24 hE e44 kp
 refine zm 45 hE k e0 ?_
 intro a25 hE e45 kp
 replace e44 := kt kp e44
 refine sd 46 hE k (Z0p rfl e45) ?_
 intro a26 hE e46 kp
 replace e44 := kt kp e44
 apply Z05 47 hE k rfl rfl rfl rfl
 case h =>
  simp [go_sem, ↓IntWalk.iteOmega, ev e46]
  with_reducible rfl
 intro a27 hE e47 kp
 replace e44 := kt kp e44
 apply Z05 48 hE k rfl rfl rfl rfl
 case h =>
  have q0 : w21.cell? ⟨tb, 1, none⟩ = some (.slice Bt T.length ct) := (OwnT.blk O 3 rfl).cell 1
  simp [go_sem, ↓IntWalk.iteOmega, ev e47, q0]
  with_reducible rfl
 intro a28 hE e48 kp
 replace e44 := kt kp e44
 refine zm 49 hE k e1 ?_
 intro a29 hE e49 kp
 replace e44 := kt kp e44; replace e48 := kt kp e48
 refine Z27 (m := 1) (c := 1) O (cs := #[.string (sB s)]) (t := 9) 50 hE k rfl (by rfl) (by rfl) rfl (by simp [go_sem, ↓IntWalk.iteOmega, ev e49]) ?_
 clear O
 intro gn a30 w31 O hE e50 kp
 replace e44 := kt kp e44; replace e48 := kt kp e48
 obtain ⟨gr, cr, w32, hrun, O⟩ := Z4d O elemS (by decide) rfl (by intro u hu; simp at hu; subst hu; rfl) (by unfold maxLen; omega) (by omega)
 apply Z1f 51 hE k rfl (by rfl) (by rfl) rfl
 case h => exact Z1x rfl e48 e50 (hrun _)
 clear hrun
 intro a33 hE e51 kp
 replace e44 := kt kp e44
 refine sd 52 hE k (Z0p rfl e44) ?_
 intro a34 hE e52 kp
 replace e51 := kt kp e51
 apply Z05 53 hE k rfl rfl rfl rfl
 case h =>
  simp [go_sem, ↓IntWalk.iteOmega, ev e52]
  with_reducible rfl
 intro a35 hE e53 kp
 replace e51 := kt kp e51
 have q0 : w32.cell? ⟨tb, 1, none⟩ = some (.slice Bt T.length ct) := (OwnT.blk O 3 rfl).cell 1
 have q1 : w32.frozen? ⟨tb, 1, none⟩ = false := (OwnT.blk O 3 rfl).frozen 1
 refine Z42 (off := 1) (v := .slice (some ⟨gr, 0, none⟩) ((T.length + 1)) cr) O 3 rfl hE rfl rfl (by simp [go_sem, ↓IntWalk.iteOmega, ev e51, ev e53, q0, q1]) ?_
 clear q0 q1
 clear O
 intro w36 O
 replace O : OwnT _ _ ((tRow 9 1 (.slice (some ⟨gr, 0, none⟩) ((T.length + 1)) cr) (T.length + 1) ((strsV T) ++ [Value.string (sB s)])) :: (tDisc p mb B n cap bm S ((wrS (tapeL (T.length + 1) s) u L (szT s)))) :: (tMn mb ((M.useN (szT s)))) :: (tBlk tb 55 #[.pointer (some ⟨p, 0, none⟩), .slice (some ⟨gr, 0, none⟩) ((T.length + 1)) cr, .int .i64 ↑u, .bool false]) :: R) w36 := O
 refine wpList_nil ?_
 replace e0 := hE.g e0; replace e1 := hE.g e1
 replace k := k.env hE
 clear hE e6 e40 e51 e53
 refine Z00 ?_
 have hn1 : T.length + 1 = (T ++ [s]).length := by simp
 rw [show strsV T ++ [Value.string (sB s)] = strsV (T ++ [s]) by rw [Z1n]; rfl, hn1] at O
 replace O : OwnT _ _ ((tRow 9 1 (.slice (some ⟨gr, 0, none⟩) (T ++ [s]).length cr) (T ++ [s]).length (strsV (T ++ [s]))) :: (tDisc p mb B n cap bm S ((wrS (tapeL (T ++ [s]).length s) u L (szT s)))) :: (tMn mb ((M.useN (szT s)))) :: (tBlk tb 55 #[.pointer (some ⟨p, 0, none⟩), .slice (some ⟨gr, 0, none⟩) ((T ++ [s]).length) cr, .int .i64 ↑u, .bool false]) :: R) w36 := O
 refine wp_seq ?_
 refine Z10 (R := Ext) (w0 := w36) [[], [0], [0, 1], [0, 1, 2], [], [4], [0, 1, 2, 3, 4, 5], [0, 1, 2, 3, 4, 5, 6], [0, 1, 2, 3, 4, 5, 6, 7], [0, 1, 2, 3, 4, 5, 6, 7, 8]] [54, 55, 56, 57, 58, 59, 60, 61, 62] Ext.refl (fun _ _ _ => Ext.trans) (Ext.drew _) (by kernel_rfl) ?_
 apply bd 54 k rfl rfl rfl
 case h =>
  intro ax wx hE hR hF
  exact Z03 rfl (hE.g e0)
 apply bd 55 k rfl rfl rfl
 case h =>
  intro ax wx hE hR hF
  have e54 := zhF hF 0 54 ml0
  exact Z0p rfl e54
 apply bd 56 k rfl rfl rfl
 case h =>
  intro ax wx hE hR hF
  have e55 := zhF hF 1 55 ml0
  simp [go_sem, ↓IntWalk.iteOmega, ev e55]
  with_reducible rfl
 apply bd 57 k rfl rfl rfl
 case h =>
  intro ax wx hE hR hF
  have e56 := zhF hF 2 56 ml0
  have q0 : wx.cell? ⟨tb, 2, none⟩ = some (.int .i64 ↑u) := (OwnT.blk (OwnT.ext O hR) 3 rfl).cell 2
  simp [go_sem, ↓IntWalk.iteOmega, ev e56, q0]
  with_reducible rfl
 apply bd 58 k rfl rfl rfl
 case h =>
  intro ax wx hE hR hF
  exact Z03 rfl (hE.g e1)
 apply Build.call 59 Ext.refl (by rfl) (by rw [k.size]; rfl) rfl
 case h =>
  intro ax wx hE hR hF
  have e58 := zhF hF 4 58 ml0
  simp [go_sem, ↓IntWalk.iteOmega, ev e58]
  with_reducible exact ⟨rfl, rfl⟩
 case hc => intro wx hR; exact Z0w s wx (by omega)
 apply bd 60 k rfl rfl rfl
 case h =>
  intro ax wx hE hR hF
  have e57 := zhF hF 3 57 ml2
  have e59 := zhF hF 5 59 ml0
  exact Z2g (v := .int .i64 ↑(u + szT s)) (Z0r rfl e57 e59 (by omega)) (Z0e (by omega))
 apply bd 61 k rfl rfl rfl
 case h =>
  intro ax wx hE hR hF
  have e54 := zhF hF 0 54 ml6
  exact Z0p rfl e54
 apply bd 62 k rfl rfl rfl
 case h =>
  intro ax wx hE hR hF
  have e61 := zhF hF 7 61 ml0
  simp [go_sem, ↓IntWalk.iteOmega, ev e61]
  with_reducible rfl
 apply Build.stop
 refine ⟨by kernel_rfl, .inr ⟨by kernel_rfl, _, rfl, rfl, ?_⟩⟩
 intro a37 w38 hE R hF
 have e60 : a37.eval (.tmp 60) = _ := hF 6 (det 60 _) ml2
 have e62 : a37.eval (.tmp 62) = _ := hF 8 (det 62 _) ml0
 clear hF
 replace O := OwnT.ext O R
 clear R
 have q0 : w38.cell? ⟨tb, 2, none⟩ = some (.int .i64 ↑u) := (OwnT.blk O 3 rfl).cell 2
 have q1 : w38.frozen? ⟨tb, 2, none⟩ = false := (OwnT.blk O 3 rfl).frozen 2
 refine Z29 (off := 2) (v := .int .i64 (↑(u + szT s))) O 3 rfl rfl (by simp [go_sem, ↓IntWalk.iteOmega, ev e60, ev e62, q0, q1]) ?_
 clear q0 q1
 clear O
 intro w39 O
 replace O : OwnT _ _ ((tRow 9 1 (.slice (some ⟨gr, 0, none⟩) (T ++ [s]).length cr) (T ++ [s]).length (strsV (T ++ [s]))) :: (tDisc p mb B n cap bm S ((wrS (tapeL (T ++ [s]).length s) u L (szT s)))) :: (tMn mb ((M.useN (szT s)))) :: (tBlk tb 55 #[.pointer (some ⟨p, 0, none⟩), .slice (some ⟨gr, 0, none⟩) ((T ++ [s]).length) cr, .int .i64 (↑(u + szT s)), .bool false]) :: R) w39 := O
 replace k := k.env hE
 clear hE e0 e1 e60 e62
 refine Z00 (wp_seq ?_)
 refine wp_region_lit ?_
 have hE := Env.refl a37 [4]
 refine sd 4 hE k (Z01 rfl rfl) ?_
 intro a40 hE e4 kp
 refine wpList_nil ?_
 replace k := k.env hE
 clear hE
 refine Z00 ?_
 refine wp_ret ?_
 replace O : OwnT _ _ ((tDisc p mb B n cap bm S ((wrS (tapeL (T ++ [s]).length s) u L (szT s)))) :: (tMn mb ((M.useN (szT s)))) :: (tBlk tb 55 #[.pointer (some ⟨p, 0, none⟩), .slice (some ⟨gr, 0, none⟩) ((T ++ [s]).length) cr, .int .i64 (↑(u + szT s)), .bool false]) :: (tRow 9 1 (.slice (some ⟨gr, 0, none⟩) (T ++ [s]).length cr) (T ++ [s]).length (strsV (T ++ [s]))) :: R) w39 := OwnT.pickR (L := [_, _, _, _]) (R := R) O [1, 2, 3, 0] (by decide)
 refine Z0f rfl k e4 ?_
 exact ⟨rfl, some ⟨gr, 0, none⟩, cr, by rw [hn1]; exact O⟩
end Go.Proofs.Ytakkhglbdljfiaa
