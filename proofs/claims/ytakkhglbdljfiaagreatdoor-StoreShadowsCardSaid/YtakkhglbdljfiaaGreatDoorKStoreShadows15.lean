/- Rows of pairs, pools of nodes, as things. -/
import Derived.Test.YtakkhglbdljfiaaGreatDoorKStoreShadows14
import Derived.Test.YtakkhglbdljfiaaGreatDoorKStoreShadows08
import Derived.Test.YtakkhglbdljfiaaGreatDoorKStoreShadows06
import Derived.Test.YtakkhglbdljfiaaGreatDoorKStoreShadows04
import Derived.Test.YtakkhglbdljfiaaGreatDoorKStoreShadows03
import Derived.Test.YtakkhglbdljfiaaGreatDoorKStoreShadows00
import Derived.RegionTactic
namespace Go.Proofs.YtakkhglbdljfiaaGreatDoor
set_option linter.unusedVariables false
set_option linter.unusedSimpArgs false
open Go.RowKit Go.Maps

abbrev flatP (ps : List Pr) : List Value := ps.flatMap pairC
theorem Z6y (ps : List Pr) : (flatP ps).length = ps.length * 2 := by
  induction ps with
  | nil => rfl
  | cons x ps ih => rw [flatP, List.flatMap_cons, List.length_append, ih, List.length_cons]; show 2 + _ = _; omega
theorem flatP_one (ps : List Pr) : ∀ u ∈ flatP ps, u.oneCell' = true := by
  intro u hu
  obtain ⟨x, _, hx⟩ := List.mem_flatMap.1 hu
  simp [pairC] at hx
  rcases hx with rfl | rfl <;> rfl
/-- A row of pairs as a thing. -/
abbrev tPs (v : Value) (ps : List Pr) : Thing := tRow 98 2 v ps.length (flatP ps)
def tPool (vs : List Value) (N : List Nd) : Thing where
  foot := vs.flatMap fun v => v.ownBlock.toList
  holds := fun w => vs.length = N.length ∧ ∀ i v nd, vs[i]? = some v → N[i]? = some nd → (tPs v nd.2).holds w
  keep := fun w w' hs h ⟨h1, h2⟩ => ⟨h1, fun i v nd hv hn => (tPs v nd.2).keep w w' hs (fun j hj => h j (List.mem_flatMap.2 ⟨v, List.mem_of_getElem? hv, hj⟩)) (h2 i v nd hv hn)⟩
  lt := fun w ⟨h1, h2⟩ i hi => by
    obtain ⟨v, hv, hj⟩ := List.mem_flatMap.1 hi
    obtain ⟨k, hk⟩ := List.getElem?_of_mem hv
    have hkl := (List.getElem?_eq_some_iff.1 hk).1
    exact (tPs v (N[k]'(by omega)).2).lt w (h2 k v _ hk (List.getElem?_eq_getElem (by omega))) i hj
section
variable {H : Nat} {A w w' : World} {R : List Thing} {X Y Z : Thing}
/-- Two things in one. -/
theorem OwnT.merge (h : OwnT H A (X :: Y :: R) w) (hz : Z.holds w) (hf : ∀ i ∈ Z.foot, i ∈ X.foot ∨ i ∈ Y.foot) : OwnT H A (Z :: R) w := by
  have hd := List.pairwise_cons.1 h.diff
  have hd2 := List.pairwise_cons.1 hd.2
  refine ⟨h.below, h.size, ⟨hz, h.all.2.2⟩, fun x hx i hi => ?_, List.Pairwise.cons (fun y hy i hi hj => ?_) hd2.2⟩
  · rcases List.mem_cons.1 hx with rfl | hx
    · rcases hf i hi with h1 | h1
      · exact h.high X (by simp) i h1
      · exact h.high Y (by simp) i h1
    · exact h.high x (by simp [hx]) i hi
  · rcases hf i hi with h1 | h1
    · exact hd.1 y (by simp [hy]) i h1 hj
    · exact hd2.1 y hy i h1 hj
theorem OwnT.poolAdd {vs : List Value} {N : List Nd} {v : Value} {l : Nat} {ps : List Pr} (h : OwnT H A (tPs v ps :: tPool vs N :: R) w) : OwnT H A (tPool (vs ++ [v]) (N ++ [(l, ps)]) :: R) w := by
  obtain ⟨h1, h2, _⟩ := h.all
  refine h.merge ⟨by rw [List.length_append, List.length_append, h2.1]; rfl, fun i u nd hu hn => ?_⟩ (fun i hi => ?_)
  · by_cases hi : i < N.length
    · rw [List.getElem?_append_left (by rw [h2.1]; exact hi)] at hu
      rw [List.getElem?_append_left hi] at hn
      exact h2.2 i u nd hu hn
    · rw [List.getElem?_append_right (by rw [h2.1]; omega)] at hu
      rw [List.getElem?_append_right (by omega)] at hn
      have e1 : i - N.length = 0 := by
        have := (List.getElem?_eq_some_iff.1 hn).1
        simpa using this
      rw [e1] at hn
      rw [h2.1, e1] at hu
      obtain rfl : v = u := by simpa using hu
      obtain rfl : (l, ps) = nd := by simpa using hn
      exact h1
  · show i ∈ (tPs v ps).foot ∨ _
    have hi : i ∈ (vs ++ [v]).flatMap fun v => v.ownBlock.toList := hi
    rw [List.flatMap_append] at hi
    rcases List.mem_append.1 hi with hi | hi
    · exact .inr hi
    · exact .inl (by simpa [tRow] using hi)
theorem pool_nil (h : OwnT H A R w) : OwnT H A (tPool [] [] :: R) w :=
  h.cons (Ext.refl w) _ ⟨rfl, fun i v nd hv => by simp at hv⟩ (fun i hi => by cases hi)
/-- A row of pairs: nil, or in a block. -/
def SlB (B : Option Addr) (cap : Nat) (ps : List Pr) : Prop := (B = none ∧ ps = [] ∧ cap = 0) ∨ ∃ g off, B = some ⟨g, off, none⟩
theorem Z85 {v : Value} {ps : List Pr} (h : (tPs v ps).holds w) : ∃ B cap, v = .slice B ps.length cap ∧ ps.length ≤ cap ∧ cap ≤ maxLen ∧ Row w B 2 pairC ps ∧ SlB B cap ps := by
  obtain ⟨B, cap, e, h1, h2, _, h4⟩ := Z2t (enc := pairC) (X := ps) (fun _ => rfl) (by decide) h
  refine ⟨B, cap, e, h1, h2, h4, ?_⟩
  rcases h.2 with ⟨e1, e2⟩ | ⟨g, cap', cur, e1, _⟩
  · rw [e] at e1
    injection e1 with e1 _ e3
    exact .inl ⟨e1, List.eq_nil_of_length_eq_zero e2, e3⟩
  · rw [e] at e1
    injection e1 with e1
    exact .inr ⟨g, 0, e1⟩
end
end Go.Proofs.YtakkhglbdljfiaaGreatDoor

/- rows of pairs: what is appended, Clone (printed by XTrC0.gen.py). -/
namespace Go.Proofs.YtakkhglbdljfiaaGreatDoor
attribute [local simp] BigFrame.eval_const BigFrame.eval_global BigFrame.eval_func
set_option linter.unusedVariables false
set_option linter.unusedSimpArgs false
open Go.RowKit Go.Maps

theorem elemPr : ElemI Tryz.prog 45 98 2 16 := ⟨Tryz.underlying45, by
 have h : (Tryz.prog.info? 98).map (fun i => (i.zero, i.size, i.bytes)) = some (some (.agg #[.int .u64 0, .int .u64 0]), 2, 16) := by kernel_rfl
 obtain ⟨i, h1, h2, h3, h4⟩ := info_parts h
 exact ⟨i, _, h1, h2, h3, h4, rfl⟩⟩
theorem app_many {P : Program} {H : Nat} {A w : World} {T t : TypeId} {k n m c bytes : Nat} {v : Value} {xs news : List Value} {G : List Thing} {p : Addr} (O : OwnT H A (tRow T k v n xs :: G) w) (E : ElemI P t T k bytes) (hk : 0 < k) (hlen : news.length = m * k) (hn : ∀ j u, news[j]? = some u → w.cell? (p.add j) = some u) (h1 : ∀ u ∈ news, u.oneCell' = true) (h63 : n + m ≤ maxLen) (hbytes : (n + m) * bytes ≤ 140737488355328) :
 ∃ v' w', (∀ ty, (Builtin.append_ #[t, t] ty #[v, .slice (some p) m c]).run P w = .ok v' w') ∧ OwnT H A (tRow T k v' (n + m) (xs ++ news) :: G) w' := by
 obtain ⟨i, z, hi, hz, hs, hby, hzs⟩ := E.info
 obtain ⟨v', w', hrun, h2, h3, h4⟩ := Z24 (P := P) w t t T i z k bytes E.ht hi hz hs hby hzs hk v n xs O.r0 p m c news hlen hn h1 h63 hbytes
 exact ⟨v', w', fun _ => hrun, O.row h2 h3 h4⟩
/-- An append in order. -/
theorem app_seq {P : Program} {H : Nat} {A w : World} {T t : TypeId} {k n g bytes : Nat} {v : Value} {xs news : List Value} {G : List Thing} (O : OwnT H A (tBlk g T news.toArray :: tRow T k v n xs :: G) w) (E : ElemI P t T k bytes) (hk : 0 < k) (hlen : news.length = k) (h1 : ∀ u ∈ news, u.oneCell' = true) (h63 : n + 1 ≤ maxLen) (hbytes : (n + 1) * bytes ≤ 140737488355328) :
 ∃ gr cap w', (∀ ty, (Builtin.append_ #[t, t] ty #[v, .slice (some ⟨g, 0, none⟩) 1 1]).run P w = .ok (.slice (some ⟨gr, 0, none⟩) (n + 1) cap) w') ∧ OwnT H A (tRow T k (.slice (some ⟨gr, 0, none⟩) (n + 1) cap) (n + 1) (xs ++ news) :: G) w' := by
 obtain ⟨i, z, hi, hz, hs, hby, hzs⟩ := E.info
 obtain ⟨r, w', hrun, h3⟩ := (O.perm (.swap _ _ _)).appendOne (P := P) t i z bytes E.ht hi hz hs hby hzs hk g T news O.b0 hlen h1 h63 hbytes
 obtain ⟨gr, cap, rfl⟩ := OwnT.slice0 h3 (by omega)
 exact ⟨gr, cap, w', hrun, h3.pick01⟩
theorem Z7r {w : World} {g off : Nat} {ps : List Pr} (h : Row w (some ⟨g, off, none⟩) 2 pairC ps) : ∀ j u, (flatP ps)[j]? = some u → w.cell? ((⟨g, off, none⟩ : Addr).add j) = some u := by
 intro j u hu
 have hadd : (⟨g, off, none⟩ : Addr).add j = ⟨g, off + j, none⟩ := by unfold Addr.add; split <;> simp_all
 rw [hadd]
 have hjl := (List.getElem?_eq_some_iff.1 hu).1
 rw [Z6y] at hjl
 obtain ⟨x, hx⟩ : ∃ x, ps[j / 2]? = some x := ⟨_, List.getElem?_eq_getElem (by omega)⟩
 obtain ⟨b, o, e, _, hc⟩ := h (j / 2) x hx
 injection e with e
 injection e with e1 e2
 subst e1 e2
 have h2 : (pairC x)[j % 2]? = some u := by
  have hm : j % 2 < 2 := Nat.mod_lt _ (by omega)
  rcases (show j % 2 = 0 ∨ j % 2 = 1 by omega) with hm | hm
  · have h3 := Z39 (enc := pairC) (c := 2) (fun _ => rfl) ps (j / 2) x 0 (.int .u64 x.1) hx rfl
    rw [show j / 2 * 2 + 0 = j by omega] at h3
    rw [hm, ← hu]; exact h3.symm ▸ rfl
  · have h3 := Z39 (enc := pairC) (c := 2) (fun _ => rfl) ps (j / 2) x 1 (.int .u64 x.2) hx rfl
    rw [show j / 2 * 2 + 1 = j by omega] at h3
    rw [hm, ← hu]; exact h3.symm ▸ rfl
 have := hc (j % 2) u h2
 rwa [show off + j / 2 * 2 + j % 2 = off + j by omega] at this
theorem OwnT.asRowE {g k : Nat} {T : TypeId} {H : Nat} {A w : World} {L : List Thing} (h : OwnT H A (tBlk g T #[] :: L) w) : OwnT H A (tRow T k (.slice (some ⟨g, 0, none⟩) 0 0) 0 [] :: L) w :=
 h.call (F := []) (Chg.refl [] w) (by simp) (tRow T k (.slice (some ⟨g, 0, none⟩) 0 0) 0 []) (row_of h.b0 (Nat.le_refl _) (by decide) (by simp) (by simp)) (fun i hi => .inl (by simpa [tRow, tBlk, Value.ownBlock] using hi))
theorem eq_nil (w : World) : (binOp .eql 45 (.slice none 0 0) (.slice none 0 0)).run Tryz.prog w = .ok (.bool true) w := by kernel_rfl
theorem eq_some (g off n cap : Nat) (w : World) : (binOp .eql 45 (.slice (some ⟨g, off, none⟩) n cap) (.slice none 0 0)).run Tryz.prog w = .ok (.bool false) w := by kernel_rfl
theorem cellB {W0 w : World} (hb : Below W0.heap.size W0 w) {b o : Nat} {v : Value} (h : W0.cell? ⟨b, o, none⟩ = some v) : w.cell? ⟨b, o, none⟩ = some v := by
 have hlt : b < W0.heap.size := by
  rcases Nat.lt_or_ge b W0.heap.size with h1 | h1
  · exact h1
  · simp [World.cell?, Array.getElem?_eq_none h1] at h
 rw [← h]
 exact hb.cell (p := ⟨b, o, none⟩) hlt

theorem clone_nil (W0 : World) : Calls Tryz.prog 50 #[.slice none 0 0] W0 fun e w' => ∃ v', e = .returned v' ∧ w'.ownsRow W0.heap.size 98 2 v' 0 (flatP []) ∧ Ext W0 w' := by
 have O := OwnT.start W0
 refine Z0c Tryz.func50 rfl 8 rfl (by rfl) ?_
 intro a1 k hargs
 have e0 : a1.eval (.tmp 0) = .slice none 0 0 := hargs 0 _ rfl
 clear hargs
 refine wp_seq ?_
 refine wp_region_lit ?_
 have hE := Env.refl a1 [2]
 refine sd 2 hE k (Z01 rfl rfl) ?_
 intro a2 hE e2 kp
 refine wpList_nil ?_
 replace e0 := hE.g e0
 replace k := k.env hE
 clear hE e2
 refine Z00 (wp_seq ?_)
 refine wp_seq ?_
 refine wp_region_lit ?_
 have hE := Env.refl a2 [3, 4]
 refine zm 3 hE k e0 ?_
 intro a3 hE e3 kp
 apply Z02 4 hE k rfl rfl rfl rfl
 case h =>
  simp [go_sem, ↓IntWalk.iteOmega, ev e3, eq_nil]
  with_reducible rfl
 intro a4 hE e4 kp
 refine wpList_nil ?_
 replace e0 := hE.g e0
 replace k := k.env hE
 clear hE
 refine Z00 ?_
 refine Z0l e4 rfl ?_
 refine wp_seq ?_
 refine wp_region_lit ?_
 have hE := Env.refl a4 [2]
 refine sd 2 hE k (Z01 rfl rfl) ?_
 intro a5 hE e2 kp
 refine wpList_nil ?_
 replace k := k.env hE
 clear hE e0 e4
 refine Z00 ?_
 refine wp_ret ?_
 refine Z0u ?_
 refine Z0i rfl k e2 ?_
 exact ⟨_, rfl, (OwnT.nilRow O 98 2).rowBase, O.below⟩
set_option maxRecDepth 100000 in
set_option maxHeartbeats 4000000 in
theorem clone_some (g off cap n : Nat) (ps : List Pr) (W0 : World) (hl : ps.length = n) (hrow : Row W0 (some ⟨g, off, none⟩) 2 pairC ps) (hn : n ≤ 1000000) : Calls Tryz.prog 50 #[.slice (some ⟨g, off, none⟩) n cap] W0 fun e w' => ∃ v', e = .returned v' ∧ w'.ownsRow W0.heap.size 98 2 v' n (flatP ps) ∧ Ext W0 w' := by
 have O := OwnT.start W0
 refine Z0c Tryz.func50 rfl 8 rfl (by rfl) ?_
 intro a1 k hargs
 have e0 : a1.eval (.tmp 0) = .slice (some ⟨g, off, none⟩) n cap := hargs 0 _ rfl
 clear hargs
 refine wp_seq ?_
 refine wp_region_lit ?_
 have hE := Env.refl a1 [2]
 refine sd 2 hE k (Z01 rfl rfl) ?_
 intro a2 hE e2 kp
 refine wpList_nil ?_
 replace e0 := hE.g e0
 replace k := k.env hE
 clear hE e2
 refine Z00 (wp_seq ?_)
 refine wp_seq ?_
 refine wp_region_lit ?_
 have hE := Env.refl a2 [3, 4]
 refine zm 3 hE k e0 ?_
 intro a3 hE e3 kp
 apply Z02 4 hE k rfl rfl rfl rfl
 case h =>
  simp [go_sem, ↓IntWalk.iteOmega, ev e3, eq_some]
  with_reducible rfl
 intro a4 hE e4 kp
 refine wpList_nil ?_
 replace e0 := hE.g e0
 replace k := k.env hE
 clear hE
 refine Z00 ?_
 refine Z07 e4 rfl ?_
 refine wp_skip ?_
 refine Z00 (wp_seq ?_)
 refine wp_region_lit ?_
 have hE := Env.refl a4 [5, 6, 7, 2]
 refine Z4a (m := 0) (c := 0) O (cs := #[]) (t := 98) 5 hE k rfl (by rfl) (by rfl) rfl (by simp [go_sem, ↓IntWalk.iteOmega]) ?_
 clear O
 intro g0 a5 w6 O hE e5 kp
 refine zm 6 hE k e0 ?_
 intro a7 hE e6 kp
 replace e5 := kt kp e5
 obtain ⟨v2, w2, hrun, O2⟩ := app_many (m := n) (c := cap) (OwnT.asRowE (k := 2) O) elemPr (by decide) (by rw [Z6y, hl]) (Z7r (hrow.below O.below)) (flatP_one ps) (by unfold maxLen; omega) (by omega)
 refine Z3f rfl _ _ _ _ rfl _ _ e5 e6 (hrun _) ?_
 replace O := O2
 clear O2 hrun
 refine put_F 7 hE k (by rfl) (by rfl) ?_
 intro a8 hE e7 kp
 refine sd 2 hE k (Z01 rfl e7) ?_
 intro a9 hE e2 kp
 refine wpList_nil ?_
 replace k := k.env hE
 clear hE e0 e4
 refine Z00 ?_
 refine wp_ret ?_
 refine Z0i rfl k e2 ?_
 exact ⟨_, rfl, by have h := O.rowBase; rwa [Nat.zero_add, List.nil_append] at h, O.below⟩
/-- A row's clone. -/
theorem Z71 {H : Nat} {A0 : World} {R : List Thing} {B : Option Addr} {cap n : Nat} (ps : List Pr) (w : World) (O : OwnT H A0 R w) (hl : ps.length = n) (hrow : Row w B 2 pairC ps) (hB : SlB B cap ps) (hn : n ≤ 1000000) :
 Calls Tryz.prog 50 #[.slice B n cap] w fun e w' => ∃ v', e = .returned v' ∧ OwnT H A0 (tPs v' ps :: R) w' ∧ Ext w w' := by
 subst hl
 rcases hB with ⟨rfl, rfl, rfl⟩ | ⟨g, off, rfl⟩
 · refine (clone_nil w).mono ?_
   rintro e w' ⟨v', rfl, h1, h2⟩
   exact ⟨v', rfl, O.newRow h2 h1, h2⟩
 · refine (clone_some g off cap _ ps w rfl hrow hn).mono ?_
   rintro e w' ⟨v', rfl, h1, h2⟩
   exact ⟨v', rfl, O.newRow h2 h1, h2⟩

end Go.Proofs.YtakkhglbdljfiaaGreatDoor

/- Plain: bytes of numbers, the sum of bytes (CRC) as a linear, one-to-one step. No program in sight. -/
namespace Go.Proofs.YtakkhglbdljfiaaGreatDoor
set_option linter.unusedVariables false
set_option linter.unusedSimpArgs false

/-- The lowest k bytes of n, the lowest first. -/
def le (n : Nat) : Nat → List UInt8
  | 0 => []
  | k + 1 => le n k ++ [UInt8.ofNat (n / 256 ^ k)]
theorem Z0a (n k : Nat) : (le n k).length = k := by
  induction k with
  | zero => rfl
  | succ k ih => simp [le, ih]
theorem le_get (n k i : Nat) (h : i < k) : (le n k)[i]? = some (UInt8.ofNat (n / 256 ^ i)) := by
  induction k with
  | zero => omega
  | succ k ih =>
    simp only [le]
    by_cases hi : i < k
    · rw [List.getElem?_append_left (by rw [Z0a]; exact hi)]
      exact ih hi
    · have : i = k := by omega
      subst this
      rw [List.getElem?_append_right (by rw [Z0a]; omega), Z0a]
      simp

/-- One bit. -/
def crcT (c : Nat) : Nat := if c % 2 = 1 then (c / 2) ^^^ 2197175160 else c / 2
def crcIt : Nat → Nat → Nat
  | 0, c => c
  | k + 1, c => crcT (crcIt k c)
/-- One byte. -/
def crcStep (c b : Nat) : Nat := crcIt 8 (c ^^^ b)
def crcState (c : Nat) (l : List UInt8) : Nat := l.foldl (fun c b => crcStep c b.toNat) c
def crcSum (l : List UInt8) : Nat := crcState 4294967295 l ^^^ 4294967295

theorem crcT_lt {c : Nat} (h : c < 4294967296) : crcT c < 4294967296 := by
  unfold crcT
  split
  · exact Nat.xor_lt_two_pow (n := 32) (by omega) (by decide)
  · omega
theorem crcIt_lt {c : Nat} (k : Nat) (h : c < 4294967296) : crcIt k c < 4294967296 := by
  induction k with
  | zero => exact h
  | succ k ih => exact crcT_lt ih
theorem Z5h {c b : Nat} (h : c < 4294967296) (hb : b < 256) : crcStep c b < 4294967296 :=
  crcIt_lt 8 (Nat.xor_lt_two_pow (n := 32) h (by omega))
theorem Z7v {c : Nat} (l : List UInt8) (h : c < 4294967296) : crcState c l < 4294967296 := by
  induction l generalizing c with
  | nil => exact h
  | cons b l ih => exact ih (Z5h h b.toNat_lt)
theorem crcSum_lt (l : List UInt8) : crcSum l < 4294967296 := Nat.xor_lt_two_pow (n := 32) (Z7v l (by decide)) (by decide)

theorem Z4p (c : Nat) (a b : List UInt8) : crcState c (a ++ b) = crcState (crcState c a) b := by simp [crcState]
end Go.Proofs.YtakkhglbdljfiaaGreatDoor

/- The walks of strings.Builder's methods on the builder that lies in an octet.Writer of the call's own. -/
namespace Go.Proofs.YtakkhglbdljfiaaGreatDoor
set_option linter.unusedVariables false
set_option linter.unusedSimpArgs false
open Go.RowKit

/-- Block b is a Writer that holds the bytes l; its buffer is block g (none: it has none yet). 'p': what the builder's 'addr' holds. -/
def WrP (w : World) (b : Nat) (g : Option Nat) (p : Value) (l : List UInt8) : Prop :=
  ∃ v, w.heap[b]? = some (.cells #[p, v] 132 (0, 0)) ∧ w.ownsRowF 0 5 1 v l.length (Lib.byteCells l) ∧ v.ownBlock = g
def Wr (w : World) (b : Nat) (g : Option Nat) (l : List UInt8) : Prop := WrP w b g (.pointer none) l ∨ WrP w b g (.pointer (some ⟨b, 0, none⟩)) l

/-- Of what was there nothing has turned but block b and its buffer g; the buffer is now g', the old one or a new one. -/
structure Wrote (w : World) (b : Nat) (g g' : Option Nat) (w' : World) : Prop where
  os : w'.os = w.os
  tape : w'.tape = w.tape
  output : w'.output = w.output
  size : w.heap.size ≤ w'.heap.size
  block : ∀ k, k < w.heap.size → k ≠ b → some k ≠ g → w'.heap[k]? = w.heap[k]?
  own : g' = g ∨ ∃ k, g' = some k ∧ w.heap.size ≤ k

theorem Wrote.refl (w : World) (b : Nat) (g : Option Nat) : Wrote w b g g w := ⟨rfl, rfl, rfl, Nat.le_refl _, fun _ _ _ _ => rfl, .inl rfl⟩
theorem Wrote.trans {a c d : World} {b : Nat} {g g' g'' : Option Nat} (h : Wrote a b g g' c) (k : Wrote c b g' g'' d) : Wrote a b g g'' d := by
  refine ⟨k.os.trans h.os, k.tape.trans h.tape, k.output.trans h.output, Nat.le_trans h.size k.size, fun i hi hb hg => ?_, ?_⟩
  · refine (k.block i (Nat.lt_of_lt_of_le hi h.size) hb ?_).trans (h.block i hi hb hg)
    rcases h.own with rfl | ⟨j, rfl, hj⟩
    · exact hg
    · intro e
      injection e with e
      omega
  · rcases k.own with rfl | ⟨j, rfl, hj⟩
    · exact h.own
    · exact .inr ⟨j, rfl, Nat.le_trans h.size hj⟩
theorem Wrote.drew {a c : World} {b : Nat} {g g' : Option Nat} (h : Wrote a b g g' c) : Wrote a b g g' c.drew := ⟨h.os, h.tape, h.output, h.size, h.block, h.own⟩
/-- Both the writer and its buffer lie from B on: below B nothing has turned. -/
theorem Wrote.below {A w w' : World} {B b : Nat} {g g' : Option Nat} (h : Wrote w b g g' w') (hA : Below B A w) (hB : B ≤ w.heap.size) (hb : B ≤ b) (hg : ∀ k, g = some k → B ≤ k) : Below B A w' :=
  hA.trans ⟨h.os, h.tape, h.output, h.size, fun k hk => h.block k (by omega) (by omega) (fun e => by have := hg k e.symm; omega)⟩
theorem Wrote.own_from {w w' : World} {B b : Nat} {g g' : Option Nat} (h : Wrote w b g g' w') (hB : B ≤ w.heap.size) (hg : ∀ k, g = some k → B ≤ k) : ∀ k, g' = some k → B ≤ k := by
  intro k hk
  rcases h.own with e | ⟨j, e, hj⟩
  · exact hg k (e ▸ hk)
  · rw [hk] at e; injection e with e; omega

theorem WrP.lt {w : World} {b : Nat} {g : Option Nat} {p : Value} {l : List UInt8} (h : WrP w b g p l) : b < w.heap.size := by
  obtain ⟨v, hb, _⟩ := h
  exact Blk.lt hb
theorem WrP.ne {w : World} {b : Nat} {g : Option Nat} {p : Value} {l : List UInt8} (h : WrP w b g p l) : g ≠ some b := by
  obtain ⟨v, hb, hown, rfl⟩ := h
  exact Lib.ownBlock_neF hown hb (by decide)
theorem WrP.own_lt {w : World} {b : Nat} {g : Option Nat} {p : Value} {l : List UInt8} (h : WrP w b g p l) : ∀ k, g = some k → k < w.heap.size := by
  obtain ⟨v, hb, hown, rfl⟩ := h
  exact fun k hk => (hown.lt k hk).2
/-- Kept where neither block has turned. -/
theorem WrP.keep {w w' : World} {b : Nat} {g : Option Nat} {p : Value} {l : List UInt8} (h : WrP w b g p l) (hb : w'.heap[b]? = w.heap[b]?) (hg : ∀ k, g = some k → w'.heap[k]? = w.heap[k]?) : WrP w' b g p l := by
  obtain ⟨v, h1, h2, h3⟩ := h
  refine ⟨v, hb.trans h1, ⟨h2.1, ?_⟩, h3⟩
  rcases h2.2 with hn | ⟨g', cap, cur, fz, rfl, hbg, hgg, rest⟩
  · exact .inl hn
  · exact .inr ⟨g', cap, cur, fz, rfl, hbg, (hg g' (by rw [← h3]; rfl)).trans hgg, rest⟩
theorem Wr.lt {w : World} {b : Nat} {g : Option Nat} {l : List UInt8} (h : Wr w b g l) : b < w.heap.size := h.elim WrP.lt WrP.lt
theorem Wr.ne {w : World} {b : Nat} {g : Option Nat} {l : List UInt8} (h : Wr w b g l) : g ≠ some b := h.elim WrP.ne WrP.ne
theorem Wr.own_lt {w : World} {b : Nat} {g : Option Nat} {l : List UInt8} (h : Wr w b g l) : ∀ k, g = some k → k < w.heap.size := h.elim WrP.own_lt WrP.own_lt
theorem Wr.keep {w w' : World} {b : Nat} {g : Option Nat} {l : List UInt8} (h : Wr w b g l) (hb : w'.heap[b]? = w.heap[b]?) (hg : ∀ k, g = some k → w'.heap[k]? = w.heap[k]?) : Wr w' b g l :=
  h.elim (fun h => .inl (h.keep hb hg)) (fun h => .inr (h.keep hb hg))
theorem Wr.drew {w : World} {b : Nat} {g : Option Nat} {l : List UInt8} (h : Wr w b g l) : Wr w.drew b g l := h
theorem Wr.alloc {w : World} {b : Nat} {g : Option Nat} {l : List UInt8} (h : Wr w b g l) (o : Obj) : Wr (w.alloc o) b g l :=
  h.keep (Below.heap_alloc w o b h.lt) (fun k hk => Below.heap_alloc w o k (h.own_lt k hk))
theorem Wr.below {w w' : World} {b : Nat} {g : Option Nat} {l : List UInt8} (h : Wr w b g l) (hb : Below w.heap.size w w') : Wr w' b g l :=
  h.keep (hb.block b h.lt) (fun k hk => hb.block k (h.own_lt k hk))
/-- Another writer's deed. -/
theorem Wr.other {w w' : World} {b b2 : Nat} {g g2 g3 : Option Nat} {l : List UInt8} (h : Wr w b g l) (k : Wrote w b2 g2 g3 w') (hb : b ≠ b2) (hg : g2 ≠ some b) (hb2 : g ≠ some b2) (hgg : g ≠ g2 ∨ g = none) : Wr w' b g l :=
  h.keep (k.block b h.lt hb (fun e => hg e.symm)) (fun j hj => k.block j (h.own_lt j hj) (fun e => hb2 (by rw [hj, e])) (fun e => by
    rcases hgg with hh | hh
    · exact hh (by rw [hj, e])
    · rw [hh] at hj; cases hj))
/-- A new, empty writer. -/
theorem Wr.new_ {w : World} {b : Nat} (hb : b = w.heap.size) : Wr (w.alloc (.cells #[.pointer none, .slice none 0 0] 132)) b none [] :=
  .inl ⟨.slice none 0 0, blk_new hb, ⟨rfl, .inl ⟨rfl, rfl⟩⟩, rfl⟩

theorem sizeB : (Tryz.prog.info? 130).map (·.size) = some 2 := by kernel_rfl
theorem liesB : liesAt Tryz.prog Tryz.prog.depth 132 (2 / Tryz.prog.cellsOf 132) 0 130 1 = true := by kernel_rfl
theorem infoByte : (Tryz.prog.info? 5).map (fun i => (i.zero, i.size, i.bytes)) = some (some (.int .u8 0), 1, 1) := by kernel_rfl
theorem cellsByte : Tryz.prog.cellsOf 5 = 1 := by kernel_rfl

set_option maxHeartbeats 1000000 in
set_option maxRecDepth 100000 in
theorem Z4v (b : Nat) (w : World) (h0 : w.cell? ⟨b, 0, none⟩ = some (.pointer (some ⟨b, 0, none⟩))) :
    Calls Tryz.prog 112 #[.pointer (some ⟨b, 0, none⟩)] w fun e w' => e = .returned (.tuple #[]) ∧ w' = w := by
  obtain ⟨j, hj, _⟩ := Option.map_eq_some_iff.1 sizeB
  go_enter Tryz.func112, Tryz.ntmps112
  go_wp2
  rw [Lib.run_neq_ptr_same w _ Tryz.underlying128 hj]
  go_wp2
  go_end0
  exact ⟨rfl, rfl⟩

set_option maxHeartbeats 1000000 in
set_option maxRecDepth 100000 in
theorem Z4r (b : Nat) (w : World) (h0 : w.cell? ⟨b, 0, none⟩ = some (.pointer none)) (hsh : w.shape? b = some (132, 2)) (hfz : w.frozen? ⟨b, 0, none⟩ = false) :
    Calls Tryz.prog 112 #[.pointer (some ⟨b, 0, none⟩)] w fun e w' => e = .returned (.tuple #[]) ∧ w' = w.setCell ⟨b, 0, none⟩ (.pointer (some ⟨b, 0, none⟩)) := by
  obtain ⟨j, hj, hjs⟩ := Option.map_eq_some_iff.1 sizeB
  go_enter Tryz.func112, Tryz.ntmps112
  go_wp2
  rw [Lib.run_to_unsafe w ⟨b, 0, none⟩ Tryz.underlying128 Tryz.underlying176 hj (by rw [hjs]; decide) hsh (Nat.zero_lt_succ 1)]
  simp only [Result.andThen]
  rw [Oper.upon_value]
  go_wp2
  rw [run_callFunc_extern Tryz.func124 (by kernel_rfl) (by kernel_rfl) (by kernel_rfl) (e := Extern.AbiNoEscape.same) (by kernel_rfl)]
  rw [Lib.run_noEscape]
  simp only [Result.andThen]
  rw [Oper.upon_value]
  go_wp2
  rw [Lib.run_from_unsafe w ⟨b, 0, none⟩ Tryz.underlying176 Tryz.underlying128 hj hsh liesB]
  simp only [Result.andThen]
  rw [Oper.upon_value]
  go_wp2
  go_end0
  exact ⟨rfl, rfl⟩

theorem wrote_set {w : World} {b : Nat} {g : Option Nat} (i : Nat) (u : Value) : Wrote w b g g (w.setCell ⟨b, i, none⟩ u) :=
  ⟨rfl, rfl, rfl, by simp [World.setCell], fun k _ hk _ => Below.heap_setCell _ _ _ _ hk, .inl rfl⟩

theorem Z3a (b : Nat) (g : Option Nat) (l : List UInt8) (w : World) (h : Wr w b g l) :
    Calls Tryz.prog 112 #[.pointer (some ⟨b, 0, none⟩)] w fun e w' => e = .returned (.tuple #[]) ∧ WrP w' b g (.pointer (some ⟨b, 0, none⟩)) l ∧ Wrote w b g g w' := by
  rcases h with h | h
  · have hne := h.ne
    have h' := h
    obtain ⟨v, hb, hown, hg⟩ := h
    refine (Z4r b w (Blk.cell hb 0) (by simp [World.shape?, hb]) (Blk.frozen hb 0)).mono ?_
    rintro e w' ⟨rfl, rfl⟩
    refine ⟨rfl, ⟨v, Blk.set_ hb 0 _, ?_, hg⟩, wrote_set 0 _⟩
    refine hown.kept (row := some b) ⟨rfl, rfl, rfl, by simp [World.setCell], fun k _ hk => Below.heap_setCell _ _ _ _ (fun e => hk (by simp [e]))⟩ (.inr (by rw [hg]; exact hne))
  · have h' := h
    obtain ⟨v, hb, hown, hg⟩ := h
    refine (Z4v b w (Blk.cell hb 0)).mono ?_
    rintro e w' ⟨rfl, rfl⟩
    exact ⟨rfl, h', Wrote.refl _ _ _⟩
end Go.Proofs.YtakkhglbdljfiaaGreatDoor
