/- reach: awake (printed by XRcE.gen.py). -/
import Derived.Test.YtbfgacmfjfbooaaKReachExact18
import Derived.Test.YtbfgacmfjfbooaaKReachExact17
namespace Go.Proofs.Ytbfgacmfjfbooaa
attribute [local simp] BigFrame.eval_const BigFrame.eval_global BigFrame.eval_func
set_option linter.unusedVariables false
set_option linter.unusedSimpArgs false
open Go.RowKit Go.Maps


theorem sumL_perm {a b : List Nat} (h : a.Perm b) : sumL a = sumL b := by
 induction h with
 | nil => rfl
 | cons x _ ih => rw [sumL, sumL, ih]
 | swap x y l => simp only [sumL]; omega
 | trans _ _ h1 h2 => exact h1.trans h2
/-- A tree of sixteen pairs: a root above two leaves. -/
structure Awk (N : List Nd) (r a b : Nat) : Prop where
 rt : ∃ m L, RT m N r L [r, a, b] ∧ m ≤ 1 ∧ L.flatten.length ≤ 1000
 nod : [r, a, b].Nodup
 le : r ≤ N.length
 top : ∀ q, cntIn N r q = if q = a ∨ q = b then 1 else 0
 lfa : ∀ q, cntIn N a q = 0
 lfb : ∀ q, cntIn N b q = 0
theorem awk_plain {N : List Nd} {r : Nat} {P : List Pr} (hT : Tre N r 23 P) (h16 : P.length = 16) : ∃ a b, Awk N r a b := by
 obtain ⟨m, L, g, h1, h2, rfl, h4⟩ := hT
 have hge := phi_ge L
 have h1' := h1
 rcases h1.rt with ⟨_, rfl, _⟩ | ⟨l, hl, hTr, h2x⟩
 · simp at h16
 have hlv := Tr.leaves hTr
 have hfl : L.flatten.length ≤ 1000 := by omega
 have hle : r ≤ N.length := (Tr.pages hTr r (Tr.self hTr)).2
 match l, hTr, hl with
 | 0, hTr, _ =>
  obtain ⟨xs, h, e1, e2, e3, e4, e5⟩ := hTr
  obtain ⟨e6, _⟩ := Z0f.1 e4
  rw [e6, if_neg e2] at h16
  simp at h16
  omega
 | l + 2, _, hl => omega
 | 1, hTr, _ =>
  obtain ⟨xs, h, e1, e2, e3, e4, e5⟩ := hTr
  have hk := Z0i.1 e4
  subst e5
  match xs, hk, e1, e2 with
  | [], _, _, e2 => exact absurd rfl e2
  | [x], hk, e1, e2 =>
   obtain ⟨ys, q1, q2⟩ := h2x (by omega)
   rw [e1] at q1
   injection q1 with q1
   injection q1 with _ q1
   subst q1
   simp at q2
  | [x, y], hk, e1, e2 =>
   obtain ⟨L1, g1, L2, g2, k1, _, k2, rfl, rfl⟩ := hk
   obtain ⟨L3, g3, L4, g4, k3, _, ⟨rfl, rfl⟩, rfl, rfl⟩ := k2
   obtain ⟨xs1, hh1, a1, _, _, a4, rfl⟩ := k1
   obtain ⟨xs2, hh2, b1, _, _, b4, rfl⟩ := k3
   obtain ⟨_, rfl⟩ := Z0f.1 a4
   obtain ⟨_, rfl⟩ := Z0f.1 b4
   have hnd : [r, x.2, y.2].Nodup := by have := h1.nod; simpa using this
   refine ⟨x.2, y.2, ⟨m, _, by simpa using h1', h2, by simpa using hfl⟩, hnd, hle, fun q => ?_, fun q => ?_, fun q => ?_⟩
   · unfold cntIn
     rw [e1]
     show (if 1 = 0 then 0 else cntX [x, y] q) = _
     rw [if_neg (by omega)]
     have hxy : x.2 ≠ y.2 := by
      have := List.nodup_cons.1 (List.nodup_cons.1 hnd).2
      intro e; exact this.1 (by rw [e]; exact List.mem_cons_self)
     unfold cntX
     by_cases c1 : x.2 = q
     · have c2 : ¬ y.2 = q := fun e => hxy (c1.trans e.symm)
       rw [if_pos (.inl c1.symm)]
       simp [List.countP_cons, c1, c2]
     · by_cases c2 : y.2 = q
       · rw [if_pos (.inr c2.symm)]
         simp [List.countP_cons, c1, c2]
       · rw [if_neg (fun h => h.elim (fun e => c1 e.symm) (fun e => c2 e.symm))]
         simp [List.countP_cons, c1, c2]
   · unfold cntIn; rw [a1]; rfl
   · unfold cntIn; rw [b1]; rfl
  | x :: y :: z :: r', hk, e1, e2 =>
   exfalso
   obtain ⟨L1, g1, L2, g2, k1, _, k2, rfl, rfl⟩ := hk
   obtain ⟨L3, g3, L4, g4, k3, _, k4, rfl, rfl⟩ := k2
   obtain ⟨L5, g5, L6, g6, k5, _, k6, rfl, rfl⟩ := k4
   have n1 : L1 ≠ [] := fun e => Tr.ne k1 (by rw [e]; rfl)
   have n3 : L3 ≠ [] := fun e => Tr.ne k3 (by rw [e]; rfl)
   have n5 : L5 ≠ [] := fun e => Tr.ne k5 (by rw [e]; rfl)
   have := List.length_pos_iff.2 n1
   have := List.length_pos_iff.2 n3
   have := List.length_pos_iff.2 n5
   simp only [List.length_append] at hge
   omega
theorem Z6i (r a b : Nat) : snF [(r, [r, a, b]), (r, [r, a, b]), (0, [])] = snF [(r, [r, a, b])] := by
 funext i
 simp [snF]
theorem Z85 {N : List Nd} {r a b : Nat} (h : Awk N r a b) (hr : 1 ≤ r ∧ r ≤ 1023) (q : Nat) : ldF N (rsF [(r, [r, a, b]), (r, [r, a, b]), (0, [])]) (snF [(r, [r, a, b]), (r, [r, a, b]), (0, [])]) q = (if q = r then 2 else 0) + if q = a ∨ q = b then 1 else 0 := by
 have e1 : rsF [(r, [r, a, b]), (r, [r, a, b]), (0, [])] = [r, r] := by
  have : r ≠ 0 := by omega
  simp [rsF, this]
 rw [e1, Z6i]
 unfold ldF
 have e2 : sumN (fun p => if snF [(r, [r, a, b])] p = true then cntIn N p q else 0) 1023 = sumN (fun p => if p = r then cntIn N r q else 0) 1023 := Z38 1023 fun p _ _ => by
  by_cases e : p = r
  · subst e
    rw [if_pos (by simp [snF]), if_pos rfl]
  · rw [if_neg e]
    split
    · rename_i hs
      have hs : p = r ∨ p = a ∨ p = b := by simpa [snF] using hs
      rcases hs with hs | hs | hs
      · exact absurd hs e
      · rw [hs]; exact h.lfa q
      · rw [hs]; exact h.lfb q
    · rfl
 rw [e2, Z4x hr.1, if_pos hr.2, h.top q]
 congr 1
 by_cases e : q = r
 · subst e; simp
 · have e' : ¬ r = q := fun h => e h.symm
   rw [if_neg e]; simp [List.countP_cons, e']
theorem Z86 {N : List Nd} {r a b : Nat} (h : Awk N r a b) (hN : N.length ≤ 1023) : (keysN (snF [(r, [r, a, b])])).Perm [r, a, b] := by
 refine (List.perm_ext_iff_of_nodup ((Z3g _).imp (fun {x y} h e => by omega)) h.nod).2 fun q => ?_
 rw [Z68]
 obtain ⟨m, L, hR, _⟩ := h.rt
 constructor
 · rintro ⟨_, hq⟩
   simpa [snF] using hq
 · intro hq; refine ⟨?_, by simpa [snF] using hq⟩
   rcases hR.rt with ⟨_, _, e⟩ | ⟨l, _, hT, _⟩
   · cases e
   · have := Tr.pages hT q hq
     omega
/-- What is told of it: three pages, four leads. -/
theorem awk_refs {N : List Nd} {r a b : Nat} (h : Awk N r a b) (hr : 1 ≤ r ∧ r ≤ 1023) (hN : N.length ≤ 1023) : (refL N [(r, [r, a, b]), (r, [r, a, b]), (0, [])]).length = 3 ∧ sumL ((refL N [(r, [r, a, b]), (r, [r, a, b]), (0, [])]).map Prod.snd) = 4 ∧ ∀ x ∈ refL N [(r, [r, a, b]), (r, [r, a, b]), (0, [])], x.2 = if x.1 = r then 2 else 1 := by
 have hp := Z86 h hN
 obtain ⟨h1, h2⟩ := List.nodup_cons.1 h.nod
 obtain ⟨h3, -⟩ := List.nodup_cons.1 h2
 have ra : r ≠ a := fun e => h1 (by rw [e]; exact List.mem_cons_self)
 have rb : r ≠ b := fun e => h1 (by rw [e]; simp)
 have ab : a ≠ b := fun e => h3 (by rw [e]; exact List.mem_cons_self)
 unfold refL
 rw [Z6i]
 refine ⟨by rw [List.length_map, hp.length_eq]; rfl, ?_, ?_⟩
 · rw [List.map_map]
   refine (sumL_perm (hp.map _)).trans ?_
   show sumL [ldF N _ _ r, ldF N _ _ a, ldF N _ _ b] = 4
   rw [← Z6i, Z85 h hr, Z85 h hr, Z85 h hr]
   have := ra.symm
   have := rb.symm
   have := ab.symm
   simp [*, sumL]
 · intro x hx; obtain ⟨q, hq, rfl⟩ := List.mem_map.1 hx
   have hq := hp.mem_iff.1 hq
   show ldF N _ _ q = if q = r then 2 else 1
   rw [← Z6i, Z85 h hr]
   have := ra.symm
   have := rb.symm
   rcases List.mem_cons.1 hq with rfl | hq
   · simp [*]
   · rcases List.mem_cons.1 hq with rfl | hq
     · simp [*]
     · obtain rfl := List.mem_singleton.1 hq
       simp [*]
set_option maxRecDepth 100000 in
set_option maxHeartbeats 4000000 in
theorem awake09 (W0 : World) : Calls Try.prog 13 #[] W0 fun e w' => e = .returned (.bool true) ∧ Ext W0 w' := by
 have O := OwnT.start W0
 refine Z0a Try.func13 rfl 118 rfl (by rfl) ?_
 intro a1 k hargs; clear hargs; refine wp_seq ?_; refine wp_region_lit ?_
 have hE := Env.refl a1 [0]; refine sd 0 hE k (Z01 rfl rfl) ?_; intro a2 hE e0 kp; refine wpList_nil ?_; replace k := k.env hE; clear hE e0; refine Z00 (wp_seq ?_); refine wp_region_lit ?_
 have hE := Env.refl a2 [11, 12, 1]; apply Z03 11 hE k rfl rfl rfl rfl; case h =>
  simp [go_sem, ↓IntWalk.iteOmega]
  with_reducible rfl
 intro a3 hE e11 kp; refine Z0k O (cs := #[.slice none 0 0, .int .i64 100]) (t := 49) 12 hE k rfl (by rfl) (by rfl) rfl (by simp [go_sem, ↓IntWalk.iteOmega, ev e11]) ?_
 clear O; intro sb a4 w5 O hE e12 kp; refine sd 1 hE k (Z01 rfl e12) ?_; intro a6 hE e1 kp; refine wpList_nil ?_; replace k := k.env hE; clear hE; refine Z00 ?_; replace O := sh_nil O
 refine wp_seq ?_; refine wp_region_lit ?_
 have hE := Env.refl a6 [13, 14, 2]; refine zm 13 hE k e1 ?_; intro a7 hE e13 kp; apply Z09 14 hE k rfl (by rfl) (by rfl) rfl
 case h =>
  simp [go_sem, ↓IntWalk.iteOmega, ev e13]
  with_reducible exact ⟨rfl, rfl⟩
 case hc => exact rcGrown (R := []) 16 _ O (by omega) (by omega)
 clear O; rintro e w9 ⟨N, r, P, B, cap, vs, rfl, O, hN, hT, hP⟩
 refine ⟨_, rfl, ?_⟩
 intro a8 hE e14 kp; refine sd 2 hE k (Z01 rfl e14) ?_; intro a10 hE e2 kp; refine wpList_nil ?_; replace e1 := hE.g e1; replace k := k.env hE; clear hE; refine Z00 ?_; have hT' : Tre N r 23 P := hT
 have hrr : 1 ≤ r ∧ r ≤ 1023 := by
  refine ⟨?_, by have := hT'.root_le; omega⟩
  by_cases e : r = 0
  · rw [e] at hT'
    rw [hT'.root0] at hP
    simp at hP
  · omega
 obtain ⟨a, b, hA⟩ := awk_plain hT' hP
 obtain ⟨hl3, hs4, hcnt⟩ := awk_refs hA hrr (by omega)
 have hk3 : (keysN (snF [(r, [r, a, b])])).length = 3 := (Z86 hA (by omega)).length_eq
 have hok1 : TgOk N [(r, [r, a, b])] := fun x hx => by
  obtain rfl := List.mem_singleton.1 hx
  obtain ⟨m, L, h1, h2, h3⟩ := hA.rt
  exact ⟨m, L, h1, by omega, by simp, by omega⟩
 have hok3 : TgOk N [(r, [r, a, b]), (r, [r, a, b]), (0, [])] := fun x hx => by
  rcases List.mem_cons.1 hx with rfl | hx
  · exact hok1 _ (by simp)
  · rcases List.mem_cons.1 hx with rfl | hx
    · exact hok1 _ (by simp)
    · obtain rfl := List.mem_singleton.1 hx
      exact ⟨0, [], rt_zero 0 N, by omega, by simp, by simp⟩
 obtain ⟨l, hlr⟩ : ∃ l, refL N [(r, [r, a, b]), (r, [r, a, b]), (0, [])] = l := ⟨_, rfl⟩
 obtain ⟨ks, hks⟩ : ∃ ks, keysN (snF [(r, [r, a, b])]) = ks := ⟨_, rfl⟩
 have hlk : l.map Prod.fst = ks := by rw [← hlr, ← hks]; unfold refL; rw [List.map_map, Z6i]; exact List.map_id _
 rw [hlr] at hl3 hs4 hcnt
 rw [hks] at hk3

 refine wp_seq ?_; refine wp_region_lit ?_
 have hE := Env.refl a10 [16, 17, 18, 19, 20, 21, 15, 22, 23, 3, 4]; refine zm 16 hE k e1 ?_; intro a11 hE e16 kp; apply Z03 17 hE k rfl rfl rfl rfl; case h =>
  simp [go_sem, ↓IntWalk.iteOmega, ev e16]
  with_reducible rfl
 intro a12 hE e17 kp; refine zm 18 hE k e2 ?_; intro a13 hE e18 kp; replace e17 := kt kp e17; refine zm 19 hE k e2 ?_; intro a14 hE e19 kp; replace e17 := kt kp e17; replace e18 := kt kp e18; refine Z1n (m := 3) (c := 3) O (cs := #[.int .i64 ↑r, .int .i64 ↑r, .int .i64 0]) (t := 3) 20 hE k rfl (by rfl) (by rfl) rfl (by simp [go_sem, ↓IntWalk.iteOmega, ev e18, ev e19]) ?_
 clear O; intro g1 a15 w16 O hE e20 kp; replace e17 := kt kp e17; apply Z09 21 hE k rfl (by rfl) (by rfl) rfl
 case h =>
  simp [go_sem, ↓IntWalk.iteOmega, ev e17, ev e20]
  with_reducible exact ⟨rfl, rfl⟩
 case hc => exact rcRefs (tg := [(r, [r, a, b]), (r, [r, a, b]), (0, [])]) (R := []) _ (OwnT.pickR (L := [_, _, _, _]) (R := []) (OwnT.asRowN (k := 1) (n := 3) (cs := [.int .i64 (r : Nat), .int .i64 (r : Nat), .int .i64 0]) O rfl (by decide)) [1, 2, 3, 0] (by decide)) hok3 (by omega) (by simp)
 clear O; rintro e w18 ⟨Bl, cl, rfl, O⟩
 rw [hlr] at O
 refine ⟨.tuple #[.slice Bl l.length cl, .int .i64 0], by rw [hlr], ?_⟩
 intro a17 hE e21 kp; refine sd 15 hE k (Z02 rfl e21) ?_; intro a19 hE e15 kp; apply Z03 22 hE k rfl rfl rfl rfl; case h =>
  simp [go_sem, ↓IntWalk.iteOmega, ev e15]
  with_reducible rfl
 intro a20 hE e22 kp; replace e15 := kt kp e15; apply Z03 23 hE k rfl rfl rfl rfl; case h =>
  simp [go_sem, ↓IntWalk.iteOmega, ev e15]
  with_reducible rfl
 intro a21 hE e23 kp; replace e22 := kt kp e22; refine sd 3 hE k (Z01 rfl e22) ?_; intro a22 hE e3 kp; replace e23 := kt kp e23; refine sd 4 hE k (Z01 rfl e23) ?_; intro a23 hE e4 kp; replace e3 := kt kp e3; refine wpList_nil ?_; replace e1 := hE.g e1; replace e2 := hE.g e2; replace k := k.env hE; clear hE; refine Z00 ?_; replace O : OwnT _ _ ((tBlk sb 49 #[.slice B N.length cap, .int .i64 100]) :: (tRow 46 2 (.slice B N.length cap) N.length (leafV vs N)) :: (tPool vs N) :: (tRf (.slice Bl l.length cl) l) :: []) w18 := OwnT.pickR (L := [_, _, _, _, _]) (R := []) O [0, 1, 2, 3] (by decide)
 refine wp_seq ?_; refine wp_region_lit ?_
 have hE := Env.refl a23 [25, 26, 27, 28, 29, 24, 30, 31, 5, 6]; refine zm 25 hE k e1 ?_; intro a24 hE e25 kp; apply Z03 26 hE k rfl rfl rfl rfl; case h =>
  simp [go_sem, ↓IntWalk.iteOmega, ev e25]
  with_reducible rfl
 intro a25 hE e26 kp; refine zm 27 hE k e2 ?_; intro a26 hE e27 kp; replace e26 := kt kp e26; refine Z1n (m := 1) (c := 1) O (cs := #[.int .i64 ↑r]) (t := 3) 28 hE k rfl (by rfl) (by rfl) rfl (by simp [go_sem, ↓IntWalk.iteOmega, ev e27]) ?_
 clear O; intro g2 a27 w28 O hE e28 kp; replace e26 := kt kp e26; apply Z09 29 hE k rfl (by rfl) (by rfl) rfl
 case h =>
  simp [go_sem, ↓IntWalk.iteOmega, ev e26, ev e28]
  with_reducible exact ⟨rfl, rfl⟩
 case hc => exact rcPages (tg := [(r, [r, a, b])]) (R := [_]) _ (OwnT.pickR (L := [_, _, _, _, _]) (R := []) (OwnT.asRowN (k := 1) (n := 1) (cs := [.int .i64 (r : Nat)]) O rfl (by decide)) [1, 2, 3, 0, 4] (by decide)) hok1 (by omega) (by simp)
 clear O; rintro e w30 ⟨Bk, ck, rfl, O⟩
 rw [hks] at O
 refine ⟨.tuple #[.slice Bk ks.length ck, .int .i64 0], by rw [hks], ?_⟩
 intro a29 hE e29 kp; refine sd 24 hE k (Z02 rfl e29) ?_; intro a31 hE e24 kp; apply Z03 30 hE k rfl rfl rfl rfl; case h =>
  simp [go_sem, ↓IntWalk.iteOmega, ev e24]
  with_reducible rfl
 intro a32 hE e30 kp; replace e24 := kt kp e24; apply Z03 31 hE k rfl rfl rfl rfl; case h =>
  simp [go_sem, ↓IntWalk.iteOmega, ev e24]
  with_reducible rfl
 intro a33 hE e31 kp; replace e30 := kt kp e30; refine sd 5 hE k (Z01 rfl e30) ?_; intro a34 hE e5 kp; replace e31 := kt kp e31; refine sd 6 hE k (Z01 rfl e31) ?_; intro a35 hE e6 kp; replace e5 := kt kp e5; refine wpList_nil ?_; replace e1 := hE.g e1; replace e2 := hE.g e2; replace e3 := hE.g e3; replace e4 := hE.g e4; replace k := k.env hE; clear hE; refine Z00 ?_; replace O : OwnT _ _ ((tBlk sb 49 #[.slice B N.length cap, .int .i64 100]) :: (tRow 46 2 (.slice B N.length cap) N.length (leafV vs N)) :: (tPool vs N) :: (tNs (.slice Bk ks.length ck) ks) :: (tRf (.slice Bl l.length cl) l) :: []) w30 := OwnT.pickR (L := [_, _, _, _, _, _]) (R := []) O [0, 1, 2, 3, 5] (by decide)
 refine wp_seq ?_; refine wp_region_lit ?_
 have hE := Env.refl a35 [33, 34, 35, 36, 32, 37, 38, 7, 8]; refine zm 33 hE k e1 ?_; intro a36 hE e33 kp; apply Z03 34 hE k rfl rfl rfl rfl; case h =>
  simp [go_sem, ↓IntWalk.iteOmega, ev e33]
  with_reducible rfl
 intro a37 hE e34 kp; refine Z1n (m := 1) (c := 1) O (cs := #[.int .i64 99]) (t := 3) 35 hE k rfl (by rfl) (by rfl) rfl (by simp [go_sem, ↓IntWalk.iteOmega]) ?_
 clear O; intro g3 a38 w39 O hE e35 kp; replace e34 := kt kp e34; apply Z09 36 hE k rfl (by rfl) (by rfl) rfl
 case h =>
  simp [go_sem, ↓IntWalk.iteOmega, ev e34, ev e35]
  with_reducible exact ⟨rfl, rfl⟩
 case hc => exact rcRefsBad (q := 99) (R := [_, _]) _ (OwnT.pickR (L := [_, _, _, _, _, _]) (R := []) (OwnT.asRowN (k := 1) (n := 1) (cs := [.int .i64 99]) O rfl (by decide)) [1, 2, 3, 0, 4, 5] (by decide)) (by omega) (by omega) (by omega)
 clear O; rintro e w41 ⟨rfl, O⟩
 refine ⟨_, rfl, ?_⟩
 intro a40 hE e36 kp; refine sd 32 hE k (Z02 rfl e36) ?_; intro a42 hE e32 kp; apply Z03 37 hE k rfl rfl rfl rfl; case h =>
  simp [go_sem, ↓IntWalk.iteOmega, ev e32]
  with_reducible rfl
 intro a43 hE e37 kp; replace e32 := kt kp e32; apply Z03 38 hE k rfl rfl rfl rfl; case h =>
  simp [go_sem, ↓IntWalk.iteOmega, ev e32]
  with_reducible rfl
 intro a44 hE e38 kp; replace e37 := kt kp e37; refine sd 7 hE k (Z01 rfl e37) ?_; intro a45 hE e7 kp; replace e38 := kt kp e38; refine sd 8 hE k (Z01 rfl e38) ?_; intro a46 hE e8 kp; refine wpList_nil ?_; replace e2 := hE.g e2; replace e3 := hE.g e3; replace e4 := hE.g e4; replace e5 := hE.g e5; replace e6 := hE.g e6; replace k := k.env hE; clear hE e1; refine Z00 (wp_seq ?_); refine wp_seq ?_; refine wp_region_lit ?_
 have hE := Env.refl a46 [39, 40, 41, 42, 43, 44, 45, 46, 47, 48, 49, 50, 51, 52, 53, 54, 55, 56, 57, 58]; refine zm 39 hE k e4 ?_; intro a47 hE e39 kp; refine sd 40 hE k (Z0q rfl e39 rfl) ?_; intro a48 hE e40 kp; refine sd 41 hE k (Z02 rfl e40) ?_; intro a49 hE e41 kp; apply Z04 42 hE k rfl rfl rfl rfl rfl e41
 case h =>
  exact Z02 rfl (hE.g e3)
 intro a50 hE e42 kp; replace e41 := kt kp e41; apply Z04 43 hE k rfl rfl rfl rfl rfl e41
 case h =>
  exact Z0j Try.underlying50 rfl e42
 intro a51 hE e43 kp; replace e41 := kt kp e41; apply Z04 44 hE k rfl rfl rfl rfl rfl e41
 case h =>
  exact Z05 (Z0q rfl e43 rfl) (decide_eq_false (by omega))
 intro a52 hE e44 kp; replace e41 := kt kp e41; refine sd 45 hE k (Z07 rfl e41 e44) ?_; intro a53 hE e45 kp; refine sd 46 hE k (Z02 rfl e45) ?_; intro a54 hE e46 kp; apply Z04 47 hE k rfl rfl rfl rfl rfl e46
 case h =>
  exact Z02 rfl (hE.g e6)
 intro a55 hE e47 kp; replace e46 := kt kp e46; apply Z04 48 hE k rfl rfl rfl rfl rfl e46
 case h =>
  exact Z0q rfl e47 rfl
 intro a56 hE e48 kp; replace e46 := kt kp e46; refine sd 49 hE k (Z07 rfl e46 e48) ?_; intro a57 hE e49 kp; refine sd 50 hE k (Z02 rfl e49) ?_; intro a58 hE e50 kp; apply Z04 51 hE k rfl rfl rfl rfl rfl e50
 case h =>
  exact Z02 rfl (hE.g e5)
 intro a59 hE e51 kp; replace e50 := kt kp e50; apply Z04 52 hE k rfl rfl rfl rfl rfl e50
 case h =>
  exact Z0j Try.underlying43 rfl e51
 intro a60 hE e52 kp; replace e50 := kt kp e50; apply Z04 53 hE k rfl rfl rfl rfl rfl e50
 case h =>
  exact Z05 (Z0q rfl e52 rfl) (decide_eq_false (by omega))
 intro a61 hE e53 kp; replace e50 := kt kp e50; refine sd 54 hE k (Z07 rfl e50 e53) ?_; intro a62 hE e54 kp; refine sd 55 hE k (Z02 rfl e54) ?_; intro a63 hE e55 kp; apply Z04 56 hE k rfl rfl rfl rfl rfl e55
 case h =>
  exact Z02 rfl (hE.g e8)
 intro a64 hE e56 kp; replace e55 := kt kp e55; apply Z04 57 hE k rfl rfl rfl rfl rfl e55
 case h =>
  exact Z0q rfl e56 rfl
 intro a65 hE e57 kp; replace e55 := kt kp e55; refine sd 58 hE k (Z07 rfl e55 e57) ?_; intro a66 hE e58 kp; refine wpList_nil ?_; replace e2 := hE.g e2; replace e3 := hE.g e3; replace e5 := hE.g e5; replace k := k.env hE; clear hE e4 e6 e8; refine Z00 ?_; refine Z06 e58 rfl ?_
 refine wp_skip ?_; refine Z00 (wp_seq ?_); refine wp_region_lit ?_
 have hE := Env.refl a66 [9]; refine sd 9 hE k (Z01 rfl rfl) ?_; intro a67 hE e9 kp; refine wpList_nil ?_; replace e2 := hE.g e2; replace e3 := hE.g e3; replace e5 := hE.g e5; replace k := k.env hE; clear hE e58; refine Z00 (wp_seq ?_); refine wp_seq ?_; refine wp_region_lit ?_
 have hE := Env.refl a67 [10]; refine sd 10 hE k (Z01 rfl rfl) ?_; intro a68 hE e10 kp; refine wpList_nil ?_; replace e2 := hE.g e2; replace e3 := hE.g e3; replace e5 := hE.g e5; replace e9 := hE.g e9; replace k := k.env hE; clear hE; refine Z00 ?_; refine wp_block ?_; refine wp_loop (fun a w => Fr 118 a ∧ a.eval (.tmp 2) = .int .i64 ↑r ∧ a.eval (.tmp 3) = .slice Bl l.length cl ∧ a.eval (.tmp 5) = .slice Bk ks.length ck ∧ ∃ (i : Nat), a.eval (.tmp 9) = .int .i64 (↑(sumL ((l.take i).map Prod.snd))) ∧ a.eval (.tmp 10) = .int .i64 ↑i ∧ i ≤ l.length ∧ OwnT W0.heap.size W0 ((tBlk sb 49 #[.slice B N.length cap, .int .i64 100]) :: (tRow 46 2 (.slice B N.length cap) N.length (leafV vs N)) :: (tPool vs N) :: (tNs (.slice Bk ks.length ck) ks) :: (tRf (.slice Bl l.length cl) l) :: []) w) (fun a w => l.length - (intOf (a.eval (.tmp 10))).toNat) ?_ ?_
 · exact ⟨k, e2, e3, e5, 0, e9, e10, Nat.zero_le _, O⟩
 intro a69 w70 hI; clear k e2 e3 e5; obtain ⟨k, e2, e3, e5, h_⟩ := hI
 clear O e9 e10; obtain ⟨i, e9, e10, hi, O⟩ := h_
 have mi := e10
 by_cases hlt : i < l.length
 · have hltI : (i : Int) < (l.length : Int) := by omega
   have hkl : ks.length = l.length := by rw [← hlk, List.length_map]
   have hltI2 : (i : Int) < (ks.length : Int) := by omega
   obtain ⟨⟨q, c⟩, hx⟩ : ∃ x, l[i]? = some x := ⟨_, List.getElem?_eq_getElem hlt⟩
   have hkx : ks[i]? = some q := by rw [← hlk, List.getElem?_map, hx]; rfl
   have hc : c = if q = r then 2 else 1 := hcnt _ (List.mem_of_getElem? hx)
   have hsum : sumL ((l.take (i + 1)).map Prod.snd) = sumL ((l.take i).map Prod.snd) + c := by
    rw [List.take_add_one, hx, List.map_append, Z4y]
    simp [sumL]
   obtain ⟨z, hz⟩ : ∃ z, sumL ((l.take i).map Prod.snd) = z := ⟨_, rfl⟩
   have hzb : z + c ≤ 1000 := by
    have h1 : sumL ((l.take (i + 1)).map Prod.snd) ≤ sumL (l.map Prod.snd) := by
     have h2 : l.map Prod.snd = (l.take (i + 1)).map Prod.snd ++ (l.drop (i + 1)).map Prod.snd := by rw [← List.map_append, List.take_append_drop]
     rw [h2, Z4y]; omega
    omega
   obtain ⟨gl, rfl, -, -⟩ := Z3h (OwnT.get O 4 rfl) hx
   obtain ⟨gk, rfl, -⟩ := Z66 (OwnT.get O 3 rfl) hkx

   rw [hz] at e9
   by_cases hqr : q = r
   · rw [if_pos hqr] at hc
     have hqI : (q : Int) = (r : Int) := by omega
     refine wp_seq ?_; refine wp_seq ?_; refine wp_region_lit ?_
     have hE := Env.refl a69 [59, 60, 61, 62]; refine zm 59 hE k e10 ?_; intro a71 hE e59 kp; refine zm 60 hE k e3 ?_; intro a72 hE e60 kp; replace e59 := kt kp e59; refine sd 61 hE k (Z0j Try.underlying50 rfl e60) ?_; intro a73 hE e61 kp; replace e59 := kt kp e59; refine sd 62 hE k (Z05 (Z1d rfl e59 e61) (decide_eq_true (by omega))) ?_
     intro a74 hE e62 kp; refine wpList_nil ?_; replace e2 := hE.g e2; replace e3 := hE.g e3; replace e5 := hE.g e5; replace e9 := hE.g e9; replace e10 := hE.g e10; replace k := k.env hE; clear hE; refine Z00 ?_; refine Z0h e62 rfl ?_
     refine wp_skip ?_; refine Z00 (wp_seq ?_); refine wp_block ?_; refine wp_seq ?_; refine wp_seq ?_; refine Z0b (R := Ext) (w0 := w70) [[], [], [0, 1], [0, 1, 2], rg 4, [], rg 6, rg 7, rg 8, rg 8, rg 10, rg 11, rg 12, rg 13, rg 14, rg 15, rg 16, rg 16, rg 18, rg 19, rg 20, rg 16, rg 22, rg 23, rg 24, rg 24, rg 26, rg 27, rg 28, rg 29, rg 30, rg 31, rg 32, rg 33, rg 33, rg 35, rg 36, rg 33, rg 33, [0, 1, 2, 3, 4, 5, 6, 7, 8, 9, 10, 11, 12, 13, 14, 15, 16, 17, 18, 19, 20, 21, 22, 23, 24, 25, 26, 27, 28, 29, 30, 31, 32, 37, 38], [0, 1, 2, 3, 4, 5, 6, 7, 8, 9, 10, 11, 12, 13, 14, 15, 16, 17, 18, 19, 20, 21, 22, 23, 24, 25, 26, 27, 28, 29, 30, 31, 32, 37, 38, 39], [0, 1, 2, 3, 4, 5, 6, 7, 8, 9, 10, 11, 12, 13, 14, 15, 16, 17, 18, 19, 20, 21, 22, 23, 24, 25, 26, 27, 28, 29, 30, 31, 32, 37, 38, 39, 40], rg 42, rg 43] [65, 66, 67, 68, 69, 70, 71, 72, 73, 74, 75, 76, 77, 78, 79, 80, 81, 82, 83, 84, 85, 86, 87, 88, 89, 90, 91, 92, 93, 94, 95, 96, 97, 98, 99, 100, 101, 102, 103, 104, 105, 106, 107, 108] Ext.refl (fun _ _ _ => Ext.trans) (Ext.drew _) (by kernel_rfl) ?_
     refine bd 65 k rfl rfl rfl (fun ax wx hE hR hF => Z02 rfl (hE.g e3)) ?_
     refine bd 66 k rfl rfl rfl (fun ax wx hE hR hF => Z02 rfl (hE.g e10)) ?_
     apply bd 67 k rfl rfl rfl; case h =>
      intro ax wx hE hR hF; have e65 := zhF hF 0 65 ml1; have e66 := zhF hF 1 66 ml0; simp [go_sem, ↓IntWalk.iteOmega, ev e65, ev e66]
      with_reducible rfl
     apply bd 68 k rfl rfl rfl; case h =>
      intro ax wx hE hR hF; have e67 := zhF hF 2 67 ml0; simp [go_sem, ↓IntWalk.iteOmega, ev e67]
      with_reducible rfl
     apply bd 69 k rfl rfl rfl; case h =>
      intro ax wx hE hR hF; have e68 := zhF hF 3 68 ml0; obtain ⟨_, e, d0, d1⟩ := Z3h (OwnT.get (OwnT.ext O hR) 4 rfl : (tRf (.slice (some ⟨gl, 0, none⟩) l.length cl) l).holds _) hx; injection e with e; injection e with e; subst e
      simp [go_sem, ↓IntWalk.iteOmega, ev e68, d0]
      with_reducible rfl
     refine bd 70 k rfl rfl rfl (fun ax wx hE hR hF => Z02 rfl (hE.g e2)) ?_
     refine bd 71 k rfl rfl rfl (fun ax wx hE hR hF => have e69 := zhF hF 4 69 ml1; have e70 := zhF hF 5 70 ml0; Z05 (Z12 rfl e69 e70) (decide_eq_true (by omega))) ?_
     refine bd 72 k rfl rfl rfl (fun ax wx hE hR hF => have e71 := zhF hF 6 71 ml0; Z02 rfl e71) ?_
     refine bdg 73 k rfl rfl rfl rfl (fun ax wx hE hR hF => have e72 := zhF hF 7 72 ml0; ⟨e72, Z02 rfl (hE.g e3)⟩) ?_
     refine bdg 74 k rfl rfl rfl rfl (fun ax wx hE hR hF => have e72 := zhF hF 7 72 ml1; ⟨e72, Z02 rfl (hE.g e10)⟩) ?_
     apply bdg 75 k rfl rfl rfl rfl; case h =>
      intro ax wx hE hR hF; have e73 := zhF hF 8 73 ml1; have e74 := zhF hF 9 74 ml0; have e72 := zhF hF 7 72 ml2; refine ⟨e72, ?_⟩; simp [go_sem, ↓IntWalk.iteOmega, ev e73, ev e74]
      with_reducible rfl
     apply bdg 76 k rfl rfl rfl rfl; case h =>
      intro ax wx hE hR hF; have e75 := zhF hF 10 75 ml0; have e72 := zhF hF 7 72 ml3; refine ⟨e72, ?_⟩; simp [go_sem, ↓IntWalk.iteOmega, ev e75]
      with_reducible rfl
     apply bdg 77 k rfl rfl rfl rfl; case h =>
      intro ax wx hE hR hF; have e76 := zhF hF 11 76 ml0; have e72 := zhF hF 7 72 ml4; refine ⟨e72, ?_⟩; obtain ⟨_, e, d0, d1⟩ := Z3h (OwnT.get (OwnT.ext O hR) 4 rfl : (tRf (.slice (some ⟨gl, 0, none⟩) l.length cl) l).holds _) hx; injection e with e; injection e with e; subst e
      simp [go_sem, ↓IntWalk.iteOmega, ev e76, d1]
      with_reducible rfl
     refine bdg 78 k rfl rfl rfl rfl (fun ax wx hE hR hF => have e77 := zhF hF 12 77 ml0; have e72 := zhF hF 7 72 ml5; ⟨e72, Z05 (Z0q rfl e77 rfl) (decide_eq_false (by omega))⟩) ?_
     refine bd 79 k rfl rfl rfl (fun ax wx hE hR hF => have e72 := zhF hF 7 72 ml6; have e78 := zhF hF 13 78 ml0; Z0n rfl e72 e78) ?_
     refine bd 80 k rfl rfl rfl (fun ax wx hE hR hF => have e79 := zhF hF 14 79 ml0; Z02 rfl e79) ?_
     refine bdg 81 k rfl rfl rfl rfl (fun ax wx hE hR hF => have e80 := zhF hF 15 80 ml0; ⟨e80, Z02 rfl (hE.g e3)⟩) ?_
     refine bdg 82 k rfl rfl rfl rfl (fun ax wx hE hR hF => have e80 := zhF hF 15 80 ml1; ⟨e80, Z02 rfl (hE.g e10)⟩) ?_
     apply bdg 83 k rfl rfl rfl rfl; case h =>
      intro ax wx hE hR hF; have e81 := zhF hF 16 81 ml1; have e82 := zhF hF 17 82 ml0; have e80 := zhF hF 15 80 ml2; refine ⟨e80, ?_⟩; simp [go_sem, ↓IntWalk.iteOmega, ev e81, ev e82]
      with_reducible rfl
     apply bdg 84 k rfl rfl rfl rfl; case h =>
      intro ax wx hE hR hF; have e83 := zhF hF 18 83 ml0; have e80 := zhF hF 15 80 ml3; refine ⟨e80, ?_⟩; simp [go_sem, ↓IntWalk.iteOmega, ev e83]
      with_reducible rfl
     apply bdg 85 k rfl rfl rfl rfl; case h =>
      intro ax wx hE hR hF; have e84 := zhF hF 19 84 ml0; have e80 := zhF hF 15 80 ml4; refine ⟨e80, ?_⟩; obtain ⟨_, e, d0, d1⟩ := Z3h (OwnT.get (OwnT.ext O hR) 4 rfl : (tRf (.slice (some ⟨gl, 0, none⟩) l.length cl) l).holds _) hx; injection e with e; injection e with e; subst e
      simp [go_sem, ↓IntWalk.iteOmega, ev e84, d0]
      with_reducible rfl
     refine bdg 86 k rfl rfl rfl rfl (fun ax wx hE hR hF => have e80 := zhF hF 15 80 ml5; ⟨e80, Z02 rfl (hE.g e2)⟩) ?_
     refine bdg 87 k rfl rfl rfl rfl (fun ax wx hE hR hF => have e85 := zhF hF 20 85 ml1; have e86 := zhF hF 21 86 ml0; have e80 := zhF hF 15 80 ml6; ⟨e80, Z05 (Z0q rfl e85 e86) (decide_eq_false (fun h => h hqI))⟩) ?_
     refine bdg 88 k rfl rfl rfl rfl (fun ax wx hE hR hF => have e87 := zhF hF 22 87 ml0; have e80 := zhF hF 15 80 ml7; ⟨e80, Z02 rfl e87⟩) ?_
     refine bsk 89 k rfl rfl rfl rfl (fun hF => zhF hF 23 88 ml0) ?_
     refine bsk 90 k rfl rfl rfl rfl (fun hF => zhF hF 23 88 ml1) ?_
     refine bsk 91 k rfl rfl rfl rfl (fun hF => zhF hF 23 88 ml2) ?_
     refine bsk 92 k rfl rfl rfl rfl (fun hF => zhF hF 23 88 ml3) ?_
     refine bsk 93 k rfl rfl rfl rfl (fun hF => zhF hF 23 88 ml4) ?_
     refine bsk 94 k rfl rfl rfl rfl (fun hF => zhF hF 23 88 ml5) ?_
     refine bdg 95 k rfl rfl rfl rfl (fun ax wx hE hR hF => have e88 := zhF hF 23 88 ml6; have e94 := zhF hF 29 94 ml0; have e80 := zhF hF 15 80 ml14; ⟨e80, Z07 rfl e88 rfl⟩) ?_
     refine bd 96 k rfl rfl rfl (fun ax wx hE hR hF => have e80 := zhF hF 15 80 ml15; have e95 := zhF hF 30 95 ml0; Z07 rfl e80 e95) ?_
     refine bd 97 k rfl rfl rfl (fun ax wx hE hR hF => have e96 := zhF hF 31 96 ml0; Z02 rfl e96) ?_
     refine bdg 98 k rfl rfl rfl rfl (fun ax wx hE hR hF => have e97 := zhF hF 32 97 ml0; ⟨e97, Z02 rfl (hE.g e5)⟩) ?_
     refine bdg 99 k rfl rfl rfl rfl (fun ax wx hE hR hF => have e97 := zhF hF 32 97 ml1; ⟨e97, Z02 rfl (hE.g e10)⟩) ?_
     apply bdg 100 k rfl rfl rfl rfl; case h =>
      intro ax wx hE hR hF; have e98 := zhF hF 33 98 ml1; have e99 := zhF hF 34 99 ml0; have e97 := zhF hF 32 97 ml2; refine ⟨e97, ?_⟩; simp [go_sem, ↓IntWalk.iteOmega, ev e98, ev e99]
      with_reducible rfl
     apply bdg 101 k rfl rfl rfl rfl; case h =>
      intro ax wx hE hR hF; have e100 := zhF hF 35 100 ml0; have e97 := zhF hF 32 97 ml3; refine ⟨e97, ?_⟩; obtain ⟨_, e, d0⟩ := Z66 (OwnT.get (OwnT.ext O hR) 3 rfl : (tNs (.slice (some ⟨gk, 0, none⟩) ks.length ck) ks).holds _) hkx; injection e with e; injection e with e; subst e
      simp [go_sem, ↓IntWalk.iteOmega, ev e100, d0]
      with_reducible rfl
     refine bdg 102 k rfl rfl rfl rfl (fun ax wx hE hR hF => have e97 := zhF hF 32 97 ml4; ⟨e97, Z02 rfl (hE.g e3)⟩) ?_
     refine bdg 103 k rfl rfl rfl rfl (fun ax wx hE hR hF => have e97 := zhF hF 32 97 ml5; ⟨e97, Z02 rfl (hE.g e10)⟩) ?_
     apply bdg 104 k rfl rfl rfl rfl; case h =>
      intro ax wx hE hR hF; have e102 := zhF hF 37 102 ml1; have e103 := zhF hF 38 103 ml0; have e97 := zhF hF 32 97 ml6; refine ⟨e97, ?_⟩; simp [go_sem, ↓IntWalk.iteOmega, ev e102, ev e103]
      with_reducible rfl
     apply bdg 105 k rfl rfl rfl rfl; case h =>
      intro ax wx hE hR hF; have e104 := zhF hF 39 104 ml0; have e97 := zhF hF 32 97 ml7; refine ⟨e97, ?_⟩; simp [go_sem, ↓IntWalk.iteOmega, ev e104]
      with_reducible rfl
     apply bdg 106 k rfl rfl rfl rfl; case h =>
      intro ax wx hE hR hF; have e105 := zhF hF 40 105 ml0; have e97 := zhF hF 32 97 ml8; refine ⟨e97, ?_⟩; obtain ⟨_, e, d0, d1⟩ := Z3h (OwnT.get (OwnT.ext O hR) 4 rfl : (tRf (.slice (some ⟨gl, 0, none⟩) l.length cl) l).holds _) hx; injection e with e; injection e with e; subst e
      simp [go_sem, ↓IntWalk.iteOmega, ev e105, d0]
      with_reducible rfl
     refine bdg 107 k rfl rfl rfl rfl (fun ax wx hE hR hF => have e101 := zhF hF 36 101 ml5; have e106 := zhF hF 41 106 ml0; have e97 := zhF hF 32 97 ml9; ⟨e97, Z05 (Z0q rfl e101 e106) (decide_eq_false (by omega))⟩) ?_
     refine bd 108 k rfl rfl rfl (fun ax wx hE hR hF => have e97 := zhF hF 32 97 ml10; have e107 := zhF hF 42 107 ml0; Z07 rfl e97 e107) ?_
     apply Build.stop
     refine ⟨by kernel_rfl, .inl ⟨rfl, ?_⟩⟩
     intro a75 w76 hE R hF; have e108 : a75.eval (.tmp 108) = _ := hF 43 (det 108 _) ml0
     clear hF; replace O := OwnT.ext O R; clear R; replace e2 := hE.g e2; replace e3 := hE.g e3; replace e5 := hE.g e5; replace e9 := hE.g e9; replace e10 := hE.g e10; replace k := k.env hE; clear hE e62; refine Z00 ?_; refine Z06 e108 rfl ?_
     refine wp_skip ?_; refine Z00 ?_; obtain ⟨_, e, -, d1⟩ := Z3h (OwnT.get O 4 rfl) hx; injection e with e; injection e with e; subst e
     refine wp_region_lit ?_
     have hE := Env.refl a75 [109, 110, 111, 112, 113, 114, 115, 9]; refine sd 109 hE k (Z02 rfl e9) ?_; intro a77 hE e109 kp; replace e9 := kt kp e9; refine zm 110 hE k e3 ?_; intro a78 hE e110 kp; replace e9 := kt kp e9; replace e109 := kt kp e109; refine zm 111 hE k e10 ?_; intro a79 hE e111 kp; replace e9 := kt kp e9; replace e109 := kt kp e109; replace e110 := kt kp e110; apply Z03 112 hE k rfl rfl rfl rfl; case h =>
      simp [go_sem, ↓IntWalk.iteOmega, ev e110, ev e111]
      with_reducible rfl
     intro a80 hE e112 kp; replace e9 := kt kp e9; replace e109 := kt kp e109; apply Z03 113 hE k rfl rfl rfl rfl; case h =>
      simp [go_sem, ↓IntWalk.iteOmega, ev e112]
      with_reducible rfl
     intro a81 hE e113 kp; replace e9 := kt kp e9; replace e109 := kt kp e109; apply Z03 114 hE k rfl rfl rfl rfl; case h =>
      simp [go_sem, ↓IntWalk.iteOmega, ev e113, d1]
      with_reducible rfl
     intro a82 hE e114 kp; replace e9 := kt kp e9; replace e109 := kt kp e109; refine sd 115 hE k (Z11 rfl e109 e114 (by omega)) ?_; intro a83 hE e115 kp; replace e9 := kt kp e9; replace e115 := e115.trans (Z0s (show (z : Int) + (c : Int) = ((sumL ((l.take (i + 1)).map Prod.snd) : Nat) : Int) by rw [hsum, hz]; omega))
     refine sd 9 hE k (Z01 rfl e115) ?_; intro a84 hE e9 kp; refine wpList_nil ?_; replace e2 := hE.g e2; replace e3 := hE.g e3; replace e5 := hE.g e5; replace e10 := hE.g e10; replace k := k.env hE; clear hE e108; refine Z0u ?_; refine Z00 ?_; refine wp_region_lit ?_
     have hE := Env.refl a84 [63, 64, 10]; refine sd 63 hE k (Z02 rfl e10) ?_; intro a85 hE e63 kp; replace e10 := kt kp e10; refine sd 64 hE k (Z11 rfl e63 rfl (by omega)) ?_; intro a86 hE e64 kp; replace e10 := kt kp e10; refine sd 10 hE k (Z01 rfl e64) ?_; intro a87 hE e10 kp; refine wpList_nil ?_; replace e2 := hE.g e2; replace e3 := hE.g e3; replace e5 := hE.g e5; replace e9 := hE.g e9; replace k := k.env hE; clear hE; refine Z00 ?_; refine ⟨⟨k, e2, e3, e5, i + 1, e9, e10, by omega, O⟩, ?_⟩
     rw [e10, mi]; simp only [intOf]; omega
   · rw [if_neg hqr] at hc
     refine wp_seq ?_; refine wp_seq ?_; refine wp_region_lit ?_
     have hE := Env.refl a69 [59, 60, 61, 62]; refine zm 59 hE k e10 ?_; intro a88 hE e59 kp; refine zm 60 hE k e3 ?_; intro a89 hE e60 kp; replace e59 := kt kp e59; refine sd 61 hE k (Z0j Try.underlying50 rfl e60) ?_; intro a90 hE e61 kp; replace e59 := kt kp e59; refine sd 62 hE k (Z05 (Z1d rfl e59 e61) (decide_eq_true (by omega))) ?_
     intro a91 hE e62 kp; refine wpList_nil ?_; replace e2 := hE.g e2; replace e3 := hE.g e3; replace e5 := hE.g e5; replace e9 := hE.g e9; replace e10 := hE.g e10; replace k := k.env hE; clear hE; refine Z00 ?_; refine Z0h e62 rfl ?_
     refine wp_skip ?_; refine Z00 (wp_seq ?_); refine wp_block ?_; refine wp_seq ?_; refine wp_seq ?_; refine Z0b (R := Ext) (w0 := w70) [[], [], [0, 1], [0, 1, 2], rg 4, [], rg 6, rg 7, rg 8, rg 8, rg 10, rg 11, rg 12, rg 13, rg 14, rg 15, rg 16, rg 16, rg 18, rg 19, rg 20, rg 16, rg 22, rg 23, rg 24, rg 24, rg 26, rg 27, rg 28, rg 29, rg 30, rg 31, rg 32, rg 33, rg 33, rg 35, rg 36, rg 33, rg 33, [0, 1, 2, 3, 4, 5, 6, 7, 8, 9, 10, 11, 12, 13, 14, 15, 16, 17, 18, 19, 20, 21, 22, 23, 24, 25, 26, 27, 28, 29, 30, 31, 32, 37, 38], [0, 1, 2, 3, 4, 5, 6, 7, 8, 9, 10, 11, 12, 13, 14, 15, 16, 17, 18, 19, 20, 21, 22, 23, 24, 25, 26, 27, 28, 29, 30, 31, 32, 37, 38, 39], [0, 1, 2, 3, 4, 5, 6, 7, 8, 9, 10, 11, 12, 13, 14, 15, 16, 17, 18, 19, 20, 21, 22, 23, 24, 25, 26, 27, 28, 29, 30, 31, 32, 37, 38, 39, 40], rg 42, rg 43] [65, 66, 67, 68, 69, 70, 71, 72, 73, 74, 75, 76, 77, 78, 79, 80, 81, 82, 83, 84, 85, 86, 87, 88, 89, 90, 91, 92, 93, 94, 95, 96, 97, 98, 99, 100, 101, 102, 103, 104, 105, 106, 107, 108] Ext.refl (fun _ _ _ => Ext.trans) (Ext.drew _) (by kernel_rfl) ?_
     refine bd 65 k rfl rfl rfl (fun ax wx hE hR hF => Z02 rfl (hE.g e3)) ?_
     refine bd 66 k rfl rfl rfl (fun ax wx hE hR hF => Z02 rfl (hE.g e10)) ?_
     apply bd 67 k rfl rfl rfl; case h =>
      intro ax wx hE hR hF; have e65 := zhF hF 0 65 ml1; have e66 := zhF hF 1 66 ml0; simp [go_sem, ↓IntWalk.iteOmega, ev e65, ev e66]
      with_reducible rfl
     apply bd 68 k rfl rfl rfl; case h =>
      intro ax wx hE hR hF; have e67 := zhF hF 2 67 ml0; simp [go_sem, ↓IntWalk.iteOmega, ev e67]
      with_reducible rfl
     apply bd 69 k rfl rfl rfl; case h =>
      intro ax wx hE hR hF; have e68 := zhF hF 3 68 ml0; obtain ⟨_, e, d0, d1⟩ := Z3h (OwnT.get (OwnT.ext O hR) 4 rfl : (tRf (.slice (some ⟨gl, 0, none⟩) l.length cl) l).holds _) hx; injection e with e; injection e with e; subst e
      simp [go_sem, ↓IntWalk.iteOmega, ev e68, d0]
      with_reducible rfl
     refine bd 70 k rfl rfl rfl (fun ax wx hE hR hF => Z02 rfl (hE.g e2)) ?_
     refine bd 71 k rfl rfl rfl (fun ax wx hE hR hF => have e69 := zhF hF 4 69 ml1; have e70 := zhF hF 5 70 ml0; Z05 (Z12 rfl e69 e70) (decide_eq_false (by omega))) ?_
     refine bd 72 k rfl rfl rfl (fun ax wx hE hR hF => have e71 := zhF hF 6 71 ml0; Z02 rfl e71) ?_
     refine bsk 73 k rfl rfl rfl rfl (fun hF => zhF hF 7 72 ml0) ?_
     refine bsk 74 k rfl rfl rfl rfl (fun hF => zhF hF 7 72 ml1) ?_
     refine bsk 75 k rfl rfl rfl rfl (fun hF => zhF hF 7 72 ml2) ?_
     refine bsk 76 k rfl rfl rfl rfl (fun hF => zhF hF 7 72 ml3) ?_
     refine bsk 77 k rfl rfl rfl rfl (fun hF => zhF hF 7 72 ml4) ?_
     refine bsk 78 k rfl rfl rfl rfl (fun hF => zhF hF 7 72 ml5) ?_
     refine bd 79 k rfl rfl rfl (fun ax wx hE hR hF => have e72 := zhF hF 7 72 ml6; have e78 := zhF hF 13 78 ml0; Z07 rfl e72 rfl) ?_
     refine bd 80 k rfl rfl rfl (fun ax wx hE hR hF => have e79 := zhF hF 14 79 ml0; Z02 rfl e79) ?_
     refine bdg 81 k rfl rfl rfl rfl (fun ax wx hE hR hF => have e80 := zhF hF 15 80 ml0; ⟨e80, Z02 rfl (hE.g e3)⟩) ?_
     refine bdg 82 k rfl rfl rfl rfl (fun ax wx hE hR hF => have e80 := zhF hF 15 80 ml1; ⟨e80, Z02 rfl (hE.g e10)⟩) ?_
     apply bdg 83 k rfl rfl rfl rfl; case h =>
      intro ax wx hE hR hF; have e81 := zhF hF 16 81 ml1; have e82 := zhF hF 17 82 ml0; have e80 := zhF hF 15 80 ml2; refine ⟨e80, ?_⟩; simp [go_sem, ↓IntWalk.iteOmega, ev e81, ev e82]
      with_reducible rfl
     apply bdg 84 k rfl rfl rfl rfl; case h =>
      intro ax wx hE hR hF; have e83 := zhF hF 18 83 ml0; have e80 := zhF hF 15 80 ml3; refine ⟨e80, ?_⟩; simp [go_sem, ↓IntWalk.iteOmega, ev e83]
      with_reducible rfl
     apply bdg 85 k rfl rfl rfl rfl; case h =>
      intro ax wx hE hR hF; have e84 := zhF hF 19 84 ml0; have e80 := zhF hF 15 80 ml4; refine ⟨e80, ?_⟩; obtain ⟨_, e, d0, d1⟩ := Z3h (OwnT.get (OwnT.ext O hR) 4 rfl : (tRf (.slice (some ⟨gl, 0, none⟩) l.length cl) l).holds _) hx; injection e with e; injection e with e; subst e
      simp [go_sem, ↓IntWalk.iteOmega, ev e84, d0]
      with_reducible rfl
     refine bdg 86 k rfl rfl rfl rfl (fun ax wx hE hR hF => have e80 := zhF hF 15 80 ml5; ⟨e80, Z02 rfl (hE.g e2)⟩) ?_
     refine bdg 87 k rfl rfl rfl rfl (fun ax wx hE hR hF => have e85 := zhF hF 20 85 ml1; have e86 := zhF hF 21 86 ml0; have e80 := zhF hF 15 80 ml6; ⟨e80, Z05 (Z0q rfl e85 e86) (decide_eq_true (by omega))⟩) ?_
     refine bdg 88 k rfl rfl rfl rfl (fun ax wx hE hR hF => have e87 := zhF hF 22 87 ml0; have e80 := zhF hF 15 80 ml7; ⟨e80, Z02 rfl e87⟩) ?_
     refine bdg 89 k rfl rfl rfl rfl (fun ax wx hE hR hF => have e88 := zhF hF 23 88 ml0; ⟨e88, Z02 rfl (hE.g e3)⟩) ?_
     refine bdg 90 k rfl rfl rfl rfl (fun ax wx hE hR hF => have e88 := zhF hF 23 88 ml1; ⟨e88, Z02 rfl (hE.g e10)⟩) ?_
     apply bdg 91 k rfl rfl rfl rfl; case h =>
      intro ax wx hE hR hF; have e89 := zhF hF 24 89 ml1; have e90 := zhF hF 25 90 ml0; have e88 := zhF hF 23 88 ml2; refine ⟨e88, ?_⟩; simp [go_sem, ↓IntWalk.iteOmega, ev e89, ev e90]
      with_reducible rfl
     apply bdg 92 k rfl rfl rfl rfl; case h =>
      intro ax wx hE hR hF; have e91 := zhF hF 26 91 ml0; have e88 := zhF hF 23 88 ml3; refine ⟨e88, ?_⟩; simp [go_sem, ↓IntWalk.iteOmega, ev e91]
      with_reducible rfl
     apply bdg 93 k rfl rfl rfl rfl; case h =>
      intro ax wx hE hR hF; have e92 := zhF hF 27 92 ml0; have e88 := zhF hF 23 88 ml4; refine ⟨e88, ?_⟩; obtain ⟨_, e, d0, d1⟩ := Z3h (OwnT.get (OwnT.ext O hR) 4 rfl : (tRf (.slice (some ⟨gl, 0, none⟩) l.length cl) l).holds _) hx; injection e with e; injection e with e; subst e
      simp [go_sem, ↓IntWalk.iteOmega, ev e92, d1]
      with_reducible rfl
     refine bdg 94 k rfl rfl rfl rfl (fun ax wx hE hR hF => have e93 := zhF hF 28 93 ml0; have e88 := zhF hF 23 88 ml5; ⟨e88, Z05 (Z0q rfl e93 rfl) (decide_eq_false (by omega))⟩) ?_
     refine bdg 95 k rfl rfl rfl rfl (fun ax wx hE hR hF => have e88 := zhF hF 23 88 ml6; have e94 := zhF hF 29 94 ml0; have e80 := zhF hF 15 80 ml14; ⟨e80, Z0n rfl e88 e94⟩) ?_
     refine bd 96 k rfl rfl rfl (fun ax wx hE hR hF => have e80 := zhF hF 15 80 ml15; have e95 := zhF hF 30 95 ml0; Z07 rfl e80 e95) ?_
     refine bd 97 k rfl rfl rfl (fun ax wx hE hR hF => have e96 := zhF hF 31 96 ml0; Z02 rfl e96) ?_
     refine bdg 98 k rfl rfl rfl rfl (fun ax wx hE hR hF => have e97 := zhF hF 32 97 ml0; ⟨e97, Z02 rfl (hE.g e5)⟩) ?_
     refine bdg 99 k rfl rfl rfl rfl (fun ax wx hE hR hF => have e97 := zhF hF 32 97 ml1; ⟨e97, Z02 rfl (hE.g e10)⟩) ?_
     apply bdg 100 k rfl rfl rfl rfl; case h =>
      intro ax wx hE hR hF; have e98 := zhF hF 33 98 ml1; have e99 := zhF hF 34 99 ml0; have e97 := zhF hF 32 97 ml2; refine ⟨e97, ?_⟩; simp [go_sem, ↓IntWalk.iteOmega, ev e98, ev e99]
      with_reducible rfl
     apply bdg 101 k rfl rfl rfl rfl; case h =>
      intro ax wx hE hR hF; have e100 := zhF hF 35 100 ml0; have e97 := zhF hF 32 97 ml3; refine ⟨e97, ?_⟩; obtain ⟨_, e, d0⟩ := Z66 (OwnT.get (OwnT.ext O hR) 3 rfl : (tNs (.slice (some ⟨gk, 0, none⟩) ks.length ck) ks).holds _) hkx; injection e with e; injection e with e; subst e
      simp [go_sem, ↓IntWalk.iteOmega, ev e100, d0]
      with_reducible rfl
     refine bdg 102 k rfl rfl rfl rfl (fun ax wx hE hR hF => have e97 := zhF hF 32 97 ml4; ⟨e97, Z02 rfl (hE.g e3)⟩) ?_
     refine bdg 103 k rfl rfl rfl rfl (fun ax wx hE hR hF => have e97 := zhF hF 32 97 ml5; ⟨e97, Z02 rfl (hE.g e10)⟩) ?_
     apply bdg 104 k rfl rfl rfl rfl; case h =>
      intro ax wx hE hR hF; have e102 := zhF hF 37 102 ml1; have e103 := zhF hF 38 103 ml0; have e97 := zhF hF 32 97 ml6; refine ⟨e97, ?_⟩; simp [go_sem, ↓IntWalk.iteOmega, ev e102, ev e103]
      with_reducible rfl
     apply bdg 105 k rfl rfl rfl rfl; case h =>
      intro ax wx hE hR hF; have e104 := zhF hF 39 104 ml0; have e97 := zhF hF 32 97 ml7; refine ⟨e97, ?_⟩; simp [go_sem, ↓IntWalk.iteOmega, ev e104]
      with_reducible rfl
     apply bdg 106 k rfl rfl rfl rfl; case h =>
      intro ax wx hE hR hF; have e105 := zhF hF 40 105 ml0; have e97 := zhF hF 32 97 ml8; refine ⟨e97, ?_⟩; obtain ⟨_, e, d0, d1⟩ := Z3h (OwnT.get (OwnT.ext O hR) 4 rfl : (tRf (.slice (some ⟨gl, 0, none⟩) l.length cl) l).holds _) hx; injection e with e; injection e with e; subst e
      simp [go_sem, ↓IntWalk.iteOmega, ev e105, d0]
      with_reducible rfl
     refine bdg 107 k rfl rfl rfl rfl (fun ax wx hE hR hF => have e101 := zhF hF 36 101 ml5; have e106 := zhF hF 41 106 ml0; have e97 := zhF hF 32 97 ml9; ⟨e97, Z05 (Z0q rfl e101 e106) (decide_eq_false (by omega))⟩) ?_
     refine bd 108 k rfl rfl rfl (fun ax wx hE hR hF => have e97 := zhF hF 32 97 ml10; have e107 := zhF hF 42 107 ml0; Z07 rfl e97 e107) ?_
     apply Build.stop
     refine ⟨by kernel_rfl, .inl ⟨rfl, ?_⟩⟩
     intro a92 w93 hE R hF; have e108 : a92.eval (.tmp 108) = _ := hF 43 (det 108 _) ml0
     clear hF; replace O := OwnT.ext O R; clear R; replace e2 := hE.g e2; replace e3 := hE.g e3; replace e5 := hE.g e5; replace e9 := hE.g e9; replace e10 := hE.g e10; replace k := k.env hE; clear hE e62; refine Z00 ?_; refine Z06 e108 rfl ?_
     refine wp_skip ?_; refine Z00 ?_; obtain ⟨_, e, -, d1⟩ := Z3h (OwnT.get O 4 rfl) hx; injection e with e; injection e with e; subst e
     refine wp_region_lit ?_
     have hE := Env.refl a92 [109, 110, 111, 112, 113, 114, 115, 9]; refine sd 109 hE k (Z02 rfl e9) ?_; intro a94 hE e109 kp; replace e9 := kt kp e9; refine zm 110 hE k e3 ?_; intro a95 hE e110 kp; replace e9 := kt kp e9; replace e109 := kt kp e109; refine zm 111 hE k e10 ?_; intro a96 hE e111 kp; replace e9 := kt kp e9; replace e109 := kt kp e109; replace e110 := kt kp e110; apply Z03 112 hE k rfl rfl rfl rfl; case h =>
      simp [go_sem, ↓IntWalk.iteOmega, ev e110, ev e111]
      with_reducible rfl
     intro a97 hE e112 kp; replace e9 := kt kp e9; replace e109 := kt kp e109; apply Z03 113 hE k rfl rfl rfl rfl; case h =>
      simp [go_sem, ↓IntWalk.iteOmega, ev e112]
      with_reducible rfl
     intro a98 hE e113 kp; replace e9 := kt kp e9; replace e109 := kt kp e109; apply Z03 114 hE k rfl rfl rfl rfl; case h =>
      simp [go_sem, ↓IntWalk.iteOmega, ev e113, d1]
      with_reducible rfl
     intro a99 hE e114 kp; replace e9 := kt kp e9; replace e109 := kt kp e109; refine sd 115 hE k (Z11 rfl e109 e114 (by omega)) ?_; intro a100 hE e115 kp; replace e9 := kt kp e9; replace e115 := e115.trans (Z0s (show (z : Int) + (c : Int) = ((sumL ((l.take (i + 1)).map Prod.snd) : Nat) : Int) by rw [hsum, hz]; omega))
     refine sd 9 hE k (Z01 rfl e115) ?_; intro a101 hE e9 kp; refine wpList_nil ?_; replace e2 := hE.g e2; replace e3 := hE.g e3; replace e5 := hE.g e5; replace e10 := hE.g e10; replace k := k.env hE; clear hE e108; refine Z0u ?_; refine Z00 ?_; refine wp_region_lit ?_
     have hE := Env.refl a101 [63, 64, 10]; refine sd 63 hE k (Z02 rfl e10) ?_; intro a102 hE e63 kp; replace e10 := kt kp e10; refine sd 64 hE k (Z11 rfl e63 rfl (by omega)) ?_; intro a103 hE e64 kp; replace e10 := kt kp e10; refine sd 10 hE k (Z01 rfl e64) ?_; intro a104 hE e10 kp; refine wpList_nil ?_; replace e2 := hE.g e2; replace e3 := hE.g e3; replace e5 := hE.g e5; replace e9 := hE.g e9; replace k := k.env hE; clear hE; refine Z00 ?_; refine ⟨⟨k, e2, e3, e5, i + 1, e9, e10, by omega, O⟩, ?_⟩
     rw [e10, mi]; simp only [intOf]; omega
 · obtain rfl : i = l.length := by omega
   clear mi; rw [List.take_length, hs4] at e9
   refine wp_seq ?_; refine wp_seq ?_; refine wp_region_lit ?_
   have hE := Env.refl a69 [59, 60, 61, 62]; refine zm 59 hE k e10 ?_; intro a105 hE e59 kp; refine zm 60 hE k e3 ?_; intro a106 hE e60 kp; replace e59 := kt kp e59; refine sd 61 hE k (Z0j Try.underlying50 rfl e60) ?_; intro a107 hE e61 kp; replace e59 := kt kp e59; refine sd 62 hE k (Z05 (Z1d rfl e59 e61) (decide_eq_false (by omega))) ?_
   intro a108 hE e62 kp; refine wpList_nil ?_; replace e2 := hE.g e2; replace e3 := hE.g e3; replace e5 := hE.g e5; replace e9 := hE.g e9; replace e10 := hE.g e10; replace k := k.env hE; clear hE; refine Z00 ?_; refine Z06 e62 rfl ?_
   refine wp_exit ?_
   refine Z1g ?_
   refine Z1g ?_
   refine Z1q ?_
   refine Z00 (wp_seq ?_); refine wp_region_lit ?_
   have hE := Env.refl a108 [116, 117, 0]; refine zm 116 hE k e9 ?_; intro a109 hE e116 kp; refine sd 117 hE k (Z05 (Z12 rfl e116 rfl) (decide_eq_true rfl)) ?_; intro a110 hE e117 kp; refine sd 0 hE k (Z01 rfl e117) ?_; intro a111 hE e0 kp; refine wpList_nil ?_; replace k := k.env hE; clear hE e2 e3 e5 e9 e10 e62; refine Z00 ?_; refine wp_ret ?_
   refine Z0v rfl k e0 ?_
   exact ⟨rfl, O.below⟩
end Go.Proofs.Ytbfgacmfjfbooaa

/- ReachExact: the walk (by the machine). -/
namespace Go.Proofs.Ytbfgacmfjfbooaa
set_option linter.unusedVariables false
set_option linter.unusedSimpArgs false
set_option linter.unusedVariables false
set_option linter.unusedSimpArgs false
open Go.RowKit

theorem Row1.extx {E : Type} {w w' : World} {A : Option Addr} {enc : E → Value} {xs : List E} (h : Row1 w A enc xs) (E : Ext w w') : Row1 w' A enc xs := fun i x hx => by
  obtain ⟨b, o, e, hlt, hc⟩ := h i x hx
  exact ⟨b, o, e, Nat.lt_of_lt_of_le hlt E.size, by rw [← hc]; exact E.cell (p := ⟨b, o + i, none⟩) hlt⟩
theorem rf_at2 (E : List Nat) : ∀ j q, (keysE E)[j]? = some q → ((refsL E).flatMap encR)[2 * j]? = some (.int .i64 (q : Nat)) ∧ ((refsL E).flatMap encR)[2 * j + 1]? = some (.int .i64 (cn E q : Nat)) := by
  unfold refsL
  generalize cn E = f
  generalize keysE E = ks
  intro j
  induction ks generalizing j with
  | nil => intro q h; simp at h
  | cons k ks ih =>
    intro q h
    cases j with
    | zero => simp at h; subst h; simp [encR]
    | succ j =>
      obtain ⟨h1, h2⟩ := ih j q (by simpa using h)
      rw [show 2 * (j + 1) = 2 * j + 1 + 1 by omega]
      exact ⟨by simpa [encR] using h1, by simpa [encR] using h2⟩
set_option maxRecDepth 20000 in
theorem Z40 {Bn Br : Option Addr} {cn' cr : Nat} (X : List Na) (rs : List Int) (w0 : World) (hmX : X.length ≤ maxLen) (hmr : rs.length ≤ maxLen) (hrow : Row w0 Bn 2 leafC X) (hok : ∀ x ∈ X, NaOk w0 x) (hrs : Row1 w0 Br (Value.int .i64) rs) :
    Calls Try.prog 4 #[.slice Bn X.length cn', .slice Br rs.length cr] w0 fun e w' => e = .returned (.bool true) ∧ Ext w0 w' := by
  unfold maxLen at hmX hmr
  refine fnG (aw0 w0) 140 Try.func4 rfl rfl rfl fun a h => ?_
  refine gX h [] rfl fun a w h => ?_
  refine gE h rfl (awake09 w) fun a w E h => ?_
  by_cases hX : 60 < X.length
  · refine gX h [.f, vI X.length, .t] rfl fun a w h => ?_
    exact gR h rfl ⟨rfl, h.O.awE (L := [])⟩
  by_cases hR : 10 < rs.length
  · refine gX h [.f, vI X.length, .f, vI rs.length, .t] rfl fun a w h => ?_
    exact gR h rfl ⟨rfl, h.O.awE (L := [])⟩
  refine gX h [.f, vI X.length, .f, vI rs.length, .f] rfl fun a w h => ?_
  refine lpG (G := Nat) (fun i => [(0, .slice Bn X.length cn'), (1, .slice Br rs.length cr), (5, .int .i64 i)]) (fun _ => [tAw w0]) (fun i => i ≤ X.length ∧ ∀ x ∈ X.take i, x.2.2.length ≤ 20) (fun i => X.length - i) 0 h ⟨rfl, rfl, rfl, trivial⟩ h.O ⟨Nat.zero_le _, by simp⟩ fun i ⟨hi, h20⟩ a w h => ?_
  by_cases h1 : i < X.length
  · obtain ⟨x, hx0⟩ : ∃ x, X[i]? = some x := ⟨_, List.getElem?_eq_getElem h1⟩
    obtain ⟨l, nv, ps⟩ := x
    obtain ⟨B, c, hnv, h5, hx, hps⟩ := hok _ (List.mem_of_getElem? hx0)
    simp only at hnv h5 hx hps
    subst hnv
    obtain ⟨bn, on, rfl, -, hc⟩ := hrow i _ hx0
    have d1 := hc 1 _ rfl
    unfold maxLen at h5
    by_cases h2 : 20 < ps.length
    · refine gX h [vI X.length, .t, vj (on + i * 2), .k [0], .v (.slice B ps.length c), vI ps.length, .t] rfl fun a w h => ?_
      exact gR h rfl ⟨rfl, h.O.awE (L := [])⟩
    · refine gX h [vI X.length, .t, vj (on + i * 2), .k [0], .v (.slice B ps.length c), vI ps.length, .f, vI (i + 1 : Nat)] rfl fun a w h => ?_
      exact reG (i + 1) h ⟨rfl, rfl, rfl, trivial⟩ h.O ⟨h1, fun x hx => by
        rw [List.take_add_one, hx0] at hx
        rcases List.mem_append.1 hx with hx | hx
        · exact h20 x hx
        · simp only [Option.toList, List.mem_singleton] at hx
          subst hx
          simp only; omega⟩ (by omega)
  obtain rfl : i = X.length := by omega
  rw [List.take_length] at h20
  have h20' : ∀ x ∈ X, x.2.2.length ≤ 1000 := fun x hx => by have := h20 x hx; omega
  refine gX h [vI X.length, .f] rfl fun a w h => ?_
  refine gW h rfl fun sb a w E h => ?_
  refine gX h [] rfl fun a w h => ?_
  have rd : ∀ {w L}, OwnT 0 w0 L w → tAw w0 ∈ L → tSh sb Bn X.length cn' 100 ∈ L → Ext w0 w ∧ Reads w (.iface 47 (.pointer (some ⟨sb, 0, none⟩))) (ndF X) := fun {w L} O h1 h2 => by
    have hE : Ext w0 w := by
      have hA : (tAw w0).holds w := O.all.mem h1
      exact ⟨O.below.os, O.below.tape, O.below.output, hA.1, fun i hi => hA.2 i hi⟩
    have hb : Blk w sb 49 ⟨[.slice Bn X.length cn', .int .i64 100]⟩ := O.all.mem h2
    exact ⟨hE, reads_arg (room := 100) (hb.cell 0) (hrow.below hE) (fun x hx => (hok x hx).ext hE) (by omega) h20'⟩
  obtain ⟨hE1, hR1⟩ := rd h.O (by simp) (by simp)
  refine gC h rfl (crefsX rs w hR1 ⟨_, _, rfl⟩ (hrs.extx hE1) (by omega)) ?_
  intro e w' hP
  cases hF : refsE (ndF X) rs with
  | none =>
    rw [hF] at hP
    obtain ⟨rfl, E2⟩ := hP
    refine ⟨_, rfl, _, h.O.ext E2, trivial, fun a h => ?_⟩
    refine gX h [] rfl fun a w h => ?_
    obtain ⟨hE1, hR1⟩ := rd h.O (by simp) (by simp)
    refine gC h rfl (cpagesX rs w hR1 ⟨_, _, rfl⟩ (hrs.extx hE1) (by omega)) ?_
    intro e w' hP
    rw [hF] at hP
    obtain ⟨rfl, E2⟩ := hP
    refine ⟨_, rfl, _, h.O.ext E2, trivial, fun a h => ?_⟩
    refine gX h [] rfl fun a w h => ?_
    obtain ⟨hE1, hR1⟩ := rd h.O (by simp) (by simp)
    refine gC h rfl (rRefsX rs w (hrow.below hE1) (fun x hx => (hok x hx).ext hE1) (by omega) h20' (hrs.extx hE1) (by omega) hR1) ?_
    intro e w' hP
    rw [hF] at hP
    obtain ⟨rfl, E2⟩ := hP
    refine ⟨_, rfl, _, h.O.ext E2, trivial, fun a h => ?_⟩
    refine gX h [.t, .t, .t, .t, .t] rfl fun a w h => ?_
    exact gR h rfl ⟨rfl, h.O.awE (L := [_])⟩
  | some st =>
  rw [hF] at hP
  obtain ⟨v1, rfl, O2⟩ := hP
  obtain ⟨B1, c1, rfl⟩ := Z0c O2.r0
  refine ⟨_, rfl, _, h.O.graft O2, trivial, fun a h => ?_⟩
  refine gX h [] rfl fun a w h => ?_
  obtain ⟨hE1, hR1⟩ := rd h.O (by simp) (by simp)
  refine gC h rfl (cpagesX rs w hR1 ⟨_, _, rfl⟩ (hrs.extx hE1) (by omega)) ?_
  intro e w' hP
  rw [hF] at hP
  obtain ⟨v2, rfl, O2⟩ := hP
  obtain ⟨B2, c2, rfl⟩ := Z0c O2.r0
  refine ⟨_, rfl, _, h.O.graft O2, trivial, fun a h => ?_⟩
  refine gX h [] rfl fun a w h => ?_
  obtain ⟨hE1, hR1⟩ := rd h.O (by simp) (by simp)
  refine gC h rfl (rRefsX rs w (hrow.below hE1) (fun x hx => (hok x hx).ext hE1) (by omega) h20' (hrs.extx hE1) (by omega) hR1) ?_
  intro e w' hP
  rw [hF] at hP
  obtain ⟨v3, rfl, O2⟩ := hP
  obtain ⟨B3, c3, rfl⟩ := Z0c O2.r0
  refine ⟨_, rfl, _, OwnT.pick (h.O.graft O2) [0, 1, 2, 4] (by decide), trivial, fun a h => ?_⟩
  have hRn : (keysE st.1).length = (refsL st.1).length := by unfold refsL; rw [List.length_map]
  have hat := rf_at2 st.1
  have hnl := Z5z st.1
  obtain ⟨n, hn⟩ : ∃ n, (refsL st.1).length = n := ⟨_, rfl⟩
  obtain ⟨ks, hks⟩ : ∃ ks, keysE st.1 = ks := ⟨_, rfl⟩
  obtain ⟨RF, hRF⟩ : ∃ RF, (refsL st.1).flatMap encR = RF := ⟨_, rfl⟩
  have Or : OwnT 0 w0 [tRr (.slice B3 (refsL st.1).length c3) (refsL st.1), tNs (.slice B2 (keysE st.1).length c2) (keysE st.1), tRf (.slice B1 (refsL st.1).length c1) (refsL st.1), tAw w0] w' := h.O
  unfold tRr tNs tRf at Or
  rw [hRn, hn, hks, hRF] at Or
  rw [hn] at hRn
  rw [hks] at hat hRn
  rw [hRF] at hat
  replace h := h.with Or
  rw [show (keysE st.1).length = n by rw [hks]; exact hRn, hn] at h
  clear Or
  rw [hn] at hnl
  refine gX h [.f, .f, .f, vI n, .f, .f] rfl fun a w h => ?_
  refine lpG (G := Nat) (fun i => [(7, .slice B1 n c1), (9, .slice B2 n c2), (11, .slice B3 n c3), (13, .int .i64 i)]) (fun _ => [tRow 60 2 (.slice B3 n c3) n RF, tRow 3 1 (.slice B2 n c2) n (ks.flatMap encN), tRow 59 2 (.slice B1 n c1) n RF, tAw w0]) (fun i => i ≤ n) (fun i => n - i) 0 h ⟨rfl, rfl, rfl, rfl, trivial⟩ h.O (Nat.zero_le _) fun i hi a w h => ?_
  by_cases h1 : i < n
  rotate_left
  · refine gX h [vI n, .f] rfl fun a w h => ?_
    exact gR h rfl ⟨rfl, h.O.awE (L := [_, _, _])⟩
  obtain ⟨q, hq⟩ : ∃ q, ks[i]? = some q := ⟨_, List.getElem?_eq_getElem (by omega)⟩
  obtain ⟨qa, qb⟩ := hat i q hq
  have qc : (ks.flatMap encN)[i]? = some (Value.int .i64 (q : Int)) := by rw [Z4k, hq]; rfl
  obtain ⟨b1, rfl⟩ : ∃ b, B1 = some ⟨b, 0, none⟩ := by
    rcases (show World.ownsRow _ 0 _ _ _ _ _ from h.O.all.2.2.1).2 with ⟨-, h0⟩ | ⟨g, cap, cur, hv, -⟩
    · omega
    · injection hv with h1; exact ⟨g, h1⟩
  obtain ⟨b2, rfl⟩ : ∃ b, B2 = some ⟨b, 0, none⟩ := by
    rcases (show World.ownsRow _ 0 _ _ _ _ _ from h.O.all.2.1).2 with ⟨-, h0⟩ | ⟨g, cap, cur, hv, -⟩
    · omega
    · injection hv with h1; exact ⟨g, h1⟩
  obtain ⟨b3, rfl⟩ : ∃ b, B3 = some ⟨b, 0, none⟩ := by
    rcases (show World.ownsRow _ 0 _ _ _ _ _ from h.O.all.1).2 with ⟨-, h0⟩ | ⟨g, cap, cur, hv, -⟩
    · omega
    · injection hv with h1; exact ⟨g, h1⟩
  refine gX h [vI n, .t, vj (2 * i), 2, .v (.int .i64 (q : Nat)), vj (2 * i), 0, .v (.int .i64 (q : Nat)), .f, vj (2 * i), 2, .v (.int .i64 (cn st.1 q : Nat)), vj (2 * i), 0, .v (.int .i64 (cn st.1 q : Nat)), .f, vj i, 1, .v (.int .i64 (q : Nat)), vj (2 * i), 0, .v (.int .i64 (q : Nat)), .f, vI (i + 1 : Nat)] rfl fun a w h => ?_
  exact reG (i + 1) h ⟨rfl, rfl, rfl, rfl, trivial⟩ h.O h1 (by omega)
theorem reachExact_walk (w : World) (v0 v1 : Value) (h0 : Arg Try.prog w 42 v0) (h1 : Arg Try.prog w 43 v1) :
    Calls Try.prog 4 #[v0, v1] w fun e w' => e = .returned (.bool true) ∧ Below w.heap.size w w' := by
  obtain ⟨A, c, X, rfl, k1, k2, k3⟩ := arg_nodes h0
  obtain ⟨A', len', cap', rs, rfl, j1, j2, rfl, j4, j5⟩ := arg_ints Try.underlying43 Try.underlying3 (by kernel_rfl) h1
  exact Z40 X rs w k1 (by omega) k3 k2 j5
section
open Go.ChangeShapes Go.WideShapes Go.ChangeAt
theorem Arg.mk_ {P : Program} {w : World} {t : TypeId} {v : Value} {H : Type} {enc : TypeId × Value → H} {d : DataW H} {p : List MemPlace} {r : Reach} {base : Nat} (h : DataW.Trod enc P w 0 (fun _ => true) true t v d p) (hv : Value.okWide P w r base t v) : Arg P w t v := by
  obtain ⟨fuel, hf⟩ := h
  exact ⟨⟨H, enc, fuel, _, hf⟩, r, base, hv⟩
end
end Go.Proofs.Ytbfgacmfjfbooaa
