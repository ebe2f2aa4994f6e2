/- 'x.f = append(x.f, e)' in a region that draws its order. No function of the program in sight. -/
import Derived.Test.YtdeocidlkpbhcaaKReachShares08
import Derived.Test.YtdeocidlkpbhcaaKReachShares09
import Derived.Test.YtdeocidlkpbhcaaKReachShares05
import Derived.Test.YtdeocidlkpbhcaaKReachShares07
import Derived.Test.YtdeocidlkpbhcaaKReachShares04
namespace Go.Proofs.Ytdeocidlkpbhcaa
set_option linter.unusedVariables false
set_option linter.unusedSimpArgs false
open Go.RowKit

structure ElemI (P : Program) (t T : TypeId) (k bytes : Nat) : Prop where
  ht : P.underlying t = some (.slice T)
  info : ∃ i z, P.info? T = some i ∧ i.zero = some z ∧ i.size = k ∧ i.bytes = bytes ∧ z.cells.size = k
def AppI (H : Nat) (A : World) (T : TypeId) (k : Nat) (v : Value) (n : Nat) (xs : List Value) (g : Nat) (news : List Value) (G : List Thing) (b c : Bool) (w : World) : Prop :=
  if c = true then b = true ∧ ∃ v', OwnT H A (tRow T k v' (n + 1) (xs ++ news) :: tBlk g T news.toArray :: G) w
  else if b = true then OwnT H A (tRow T k v n xs :: tBlk g T news.toArray :: G) w
  else OwnT H A (tRow T k v n xs :: G) w ∧ w.heap.size = g
section
variable {P : Program} {H : Nat} {A : World} {T t : TypeId} {k n g bytes : Nat} {v : Value} {xs news : List Value} {G : List Thing} {b c : Bool} {w : World} {l : Nat → Bool} {ib ia : Nat} {M : Sem Next}
theorem AppI.start (h : OwnT H A (tRow T k v n xs :: G) w) : AppI H A T k v n xs w.heap.size news G false false w.drew := ⟨h.drew, rfl⟩
theorem AppI.own (h : AppI H A T k v n xs g news G b c w) : OwnT H A G w := by
  unfold AppI at h
  split at h
  · obtain ⟨_, v, h⟩ := h
    exact h.tail.tail
  · split at h
    · exact h.tail.tail
    · exact h.1.tail
theorem app_build (h : AppI H A T k v n xs g news G (l ib) (l ia) w) (hl : l ib = false) (hne : ia ≠ ib)
    (hM : M.run P w = .ok (.value (.slice (some ⟨w.heap.size, 0, none⟩) 1 1)) (w.alloc (.cells news.toArray T))) :
    ∃ r w', M.run P w = .ok (.value r) w' ∧ (if l ia = true then Ext w w' else True) ∧ AppI H A T k v n xs g news G (upd l ib ib) (upd l ib ia) w' ∧ r = .slice (some ⟨g, 0, none⟩) 1 1 := by
  unfold AppI at h
  rw [hl] at h
  split at h
  · cases h.1
  · rename_i h14
    obtain ⟨h1, h2⟩ : OwnT H A (tRow T k v n xs :: G) w ∧ w.heap.size = g := by simpa using h
    refine ⟨_, _, hM, ?_, ?_, by rw [h2]⟩
    · rw [if_neg h14]; trivial
    · have e13 : upd l ib ib = true := if_pos rfl
      have e14 : upd l ib ia = l ia := if_neg hne
      unfold AppI
      rw [e13, e14, if_neg h14, if_pos rfl]
      have h3 := h1.new T news.toArray
      rw [h2] at h3
      exact h3.perm (.swap _ _ _)
theorem app_grow (h : AppI H A T k v n xs g news G (l ib) (l ia) w) (hl : l ia = false) (hb : l ib = true) (hne : ia ≠ ib) (E : ElemI P t T k bytes) (hk : 0 < k) (hlen : news.length = k) (h1 : ∀ u ∈ news, u.oneCell' = true) (h63 : n + 1 ≤ maxLen) (hbytes : (n + 1) * bytes ≤ 140737488355328) {ty : TypeId}
    (hM : ∀ r w', (Builtin.append_ #[t, t] ty #[v, .slice (some ⟨g, 0, none⟩) 1 1]).run P w = .ok r w' → M.run P w = .ok (.value r) w') :
    ∃ r w', M.run P w = .ok (.value r) w' ∧ (if l ia = true then Ext w w' else True) ∧ AppI H A T k v n xs g news G (upd l ia ib) (upd l ia ia) w' ∧ OwnT H A (tRow T k r (n + 1) (xs ++ news) :: tBlk g T news.toArray :: G) w' := by
  have h2 : OwnT H A (tRow T k v n xs :: tBlk g T news.toArray :: G) w := by
    unfold AppI at h
    rw [hl, hb] at h
    simpa using h
  obtain ⟨i, z, hi, hz, hs, hby, hzs⟩ := E.info
  obtain ⟨r, w', hrun, h3⟩ := h2.appendOne (P := P) t i z bytes E.ht hi hz hs hby hzs hk g T news h2.b1 hlen h1 h63 hbytes
  refine ⟨r, w', hM _ _ (hrun ty), by rw [hl]; simp, ?_, h3⟩
  have e13 : upd l ia ib = l ib := if_neg (fun e => hne e.symm)
  have e14 : upd l ia ia = true := if_pos rfl
  unfold AppI
  rw [e13, e14, if_pos rfl]
  exact ⟨hb, r, h3⟩
end
/-- A row that isn't empty: its slice. -/
theorem OwnT.slice0 {H : Nat} {A w : World} {L : List Thing} {T : TypeId} {k n : Nat} {v : Value} {xs : List Value} (h : OwnT H A (tRow T k v n xs :: L) w) (hn : 0 < n) : ∃ g cap, v = .slice (some ⟨g, 0, none⟩) n cap := by
  obtain ⟨g, cap, cur, h1, _⟩ := Z11 h.r0 hn
  exact ⟨g, cap, h1⟩
theorem Z26 {w : World} {base : Nat} {T : TypeId} {k n : Nat} {v : Value} {xs : List Value} (h : w.ownsRow base T k v n xs) : ∃ B cap, v = .slice B n cap := by
  rcases h.2 with ⟨rfl, rfl⟩ | ⟨g, cap, cur, rfl, _⟩
  · exact ⟨none, 0, rfl⟩
  · exact ⟨_, cap, rfl⟩
theorem OwnT.pick01 {H : Nat} {A w : World} {L : List Thing} {X Y : Thing} (h : OwnT H A (X :: Y :: L) w) : OwnT H A (X :: L) w := h.sub (.cons_cons _ (.cons _ (.refl _)))
end Go.Proofs.Ytdeocidlkpbhcaa

/- Pages in memory, as things: the shelf's block, its row of nodes, the nodes' rows of pairs. -/
namespace Go.Proofs.Ytdeocidlkpbhcaa
set_option linter.unusedVariables false
set_option linter.unusedSimpArgs false
open Go.RowKit Go.Maps

/-- The nodes' cells: their levels, their rows. -/
def leafV : List Value → List Nd → List Value
  | v :: vs, nd :: N => .int .i64 (nd.1 : Nat) :: v :: leafV vs N
  | _, _ => []
theorem Z5j : ∀ {vs : List Value} {N : List Nd} {v : Value} {nd : Nd}, vs.length = N.length → leafV (vs ++ [v]) (N ++ [nd]) = leafV vs N ++ [.int .i64 (nd.1 : Nat), v]
  | [], [], _, _, _ => rfl
  | _ :: vs, _ :: N, v, nd, h => by
    have := Z5j (vs := vs) (N := N) (v := v) (nd := nd) (by simpa using h)
    simp only [List.cons_append, leafV, this]
  | [], _ :: _, _, _, h => by cases h
  | _ :: _, [], _, _, h => by cases h
theorem Z6l : ∀ {vs : List Value} {N : List Nd} {i : Nat} {nd : Nd}, vs.length = N.length → N[i]? = some nd → ∃ v, vs[i]? = some v ∧ (leafV vs N)[i * 2]? = some (.int .i64 (nd.1 : Nat)) ∧ (leafV vs N)[i * 2 + 1]? = some v
  | [], [], _, _, _, h => by simp at h
  | v :: _, n :: _, 0, nd, _, h => by
    obtain rfl : n = nd := by simpa using h
    exact ⟨v, rfl, rfl, rfl⟩
  | _ :: vs, _ :: N, i + 1, nd, hl, h => by
    obtain ⟨v, h1, h2, h3⟩ := Z6l (vs := vs) (N := N) (i := i) (nd := nd) (by simpa using hl) (by simpa using h)
    refine ⟨v, by simpa using h1, ?_, ?_⟩
    · rw [show (i + 1) * 2 = i * 2 + 1 + 1 by omega]; simpa [leafV] using h2
    · rw [show (i + 1) * 2 + 1 = i * 2 + 1 + 1 + 1 by omega]; simpa [leafV] using h3
  | [], _ :: _, _, _, h, _ => by cases h
  | _ :: _, [], _, _, h, _ => by cases h
abbrev flatP (ps : List Pr) : List Value := ps.flatMap pairC
theorem Z14 (ps : List Pr) : (flatP ps).length = ps.length * 2 := by
  induction ps with
  | nil => rfl
  | cons x ps ih => rw [flatP, List.flatMap_cons, List.length_append, ih, List.length_cons]; show 2 + _ = _; omega
theorem Z1m (ps : List Pr) : ∀ u ∈ flatP ps, u.oneCell' = true := by
  intro u hu
  obtain ⟨x, _, hx⟩ := List.mem_flatMap.1 hu
  simp [pairC] at hx
  rcases hx with rfl | rfl <;> rfl
/-- A row of pairs as a thing. -/
abbrev tPs (v : Value) (ps : List Pr) : Thing := tRow 59 2 v ps.length (flatP ps)
def tPool (vs : List Value) (N : List Nd) : Thing where
  foot := vs.flatMap fun v => v.ownBlock.toList
  holds := fun w => vs.length = N.length ∧ ∀ i v nd, vs[i]? = some v → N[i]? = some nd → (tPs v nd.2).holds w
  keep := fun w w' hs h ⟨h1, h2⟩ => ⟨h1, fun i v nd hv hn => (tPs v nd.2).keep w w' hs (fun j hj => h j (List.mem_flatMap.2 ⟨v, List.mem_of_getElem? hv, hj⟩)) (h2 i v nd hv hn)⟩
  lt := fun w ⟨h1, h2⟩ i hi => by
    obtain ⟨v, hv, hj⟩ := List.mem_flatMap.1 hi
    obtain ⟨k, hk⟩ := List.getElem?_of_mem hv
    have hkl := (List.getElem?_eq_some_iff.1 hk).1
    exact (tPs v (N[k]'(by omega)).2).lt w (h2 k v _ hk (List.getElem?_eq_getElem (by omega))) i hj
section
variable {H : Nat} {A w w' : World} {R : List Thing} {X Y Z : Thing}
/-- Two things in one. -/
theorem OwnT.merge (h : OwnT H A (X :: Y :: R) w) (hz : Z.holds w) (hf : ∀ i ∈ Z.foot, i ∈ X.foot ∨ i ∈ Y.foot) : OwnT H A (Z :: R) w := by
  have hd := List.pairwise_cons.1 h.diff
  have hd2 := List.pairwise_cons.1 hd.2
  refine ⟨h.below, h.size, ⟨hz, h.all.2.2⟩, fun x hx i hi => ?_, List.Pairwise.cons (fun y hy i hi hj => ?_) hd2.2⟩
  · rcases List.mem_cons.1 hx with rfl | hx
    · rcases hf i hi with h1 | h1
      · exact h.high X (by simp) i h1
      · exact h.high Y (by simp) i h1
    · exact h.high x (by simp [hx]) i hi
  · rcases hf i hi with h1 | h1
    · exact hd.1 y (by simp [hy]) i h1 hj
    · exact hd2.1 y hy i h1 hj
theorem OwnT.poolAdd {vs : List Value} {N : List Nd} {v : Value} {l : Nat} {ps : List Pr} (h : OwnT H A (tPs v ps :: tPool vs N :: R) w) : OwnT H A (tPool (vs ++ [v]) (N ++ [(l, ps)]) :: R) w := by
  obtain ⟨h1, h2, _⟩ := h.all
  refine h.merge ⟨by rw [List.length_append, List.length_append, h2.1]; rfl, fun i u nd hu hn => ?_⟩ (fun i hi => ?_)
  · by_cases hi : i < N.length
    · rw [List.getElem?_append_left (by rw [h2.1]; exact hi)] at hu
      rw [List.getElem?_append_left hi] at hn
      exact h2.2 i u nd hu hn
    · rw [List.getElem?_append_right (by rw [h2.1]; omega)] at hu
      rw [List.getElem?_append_right (by omega)] at hn
      have e1 : i - N.length = 0 := by
        have := (List.getElem?_eq_some_iff.1 hn).1
        simpa using this
      rw [e1] at hn
      rw [h2.1, e1] at hu
      obtain rfl : v = u := by simpa using hu
      obtain rfl : (l, ps) = nd := by simpa using hn
      exact h1
  · show i ∈ (tPs v ps).foot ∨ _
    have hi : i ∈ (vs ++ [v]).flatMap fun v => v.ownBlock.toList := hi
    rw [List.flatMap_append] at hi
    rcases List.mem_append.1 hi with hi | hi
    · exact .inr hi
    · exact .inl (by simpa [tRow] using hi)
theorem pool_nil (h : OwnT H A R w) : OwnT H A (tPool [] [] :: R) w :=
  h.cons (Ext.refl w) _ ⟨rfl, fun i v nd hv => by simp at hv⟩ (fun i hi => by cases hi)
/-- A row of pairs: nil, or in a block. -/
def SlB (B : Option Addr) (cap : Nat) (ps : List Pr) : Prop := (B = none ∧ ps = [] ∧ cap = 0) ∨ ∃ g off, B = some ⟨g, off, none⟩
theorem Z0o {v : Value} {ps : List Pr} (h : (tPs v ps).holds w) : ∃ B cap, v = .slice B ps.length cap ∧ ps.length ≤ cap ∧ cap ≤ maxLen ∧ Row w B 2 pairC ps ∧ SlB B cap ps := by
  obtain ⟨B, cap, e, h1, h2, _, h4⟩ := Z2e (enc := pairC) (X := ps) (fun _ => rfl) (by decide) h
  refine ⟨B, cap, e, h1, h2, h4, ?_⟩
  rcases h.2 with ⟨e1, e2⟩ | ⟨g, cap', cur, e1, _⟩
  · rw [e] at e1
    injection e1 with e1 _ e3
    exact .inl ⟨e1, List.eq_nil_of_length_eq_zero e2, e3⟩
  · rw [e] at e1
    injection e1 with e1
    exact .inr ⟨g, 0, e1⟩
end
/-- A shelf: its block, its nodes, their rows. -/
abbrev shT (sb : Nat) (room : Int) (B : Option Addr) (cap : Nat) (vs : List Value) (N : List Nd) (R : List Thing) : List Thing :=
  tBlk sb 27 #[.slice B N.length cap, .int .i64 room] :: tRow 40 2 (.slice B N.length cap) N.length (leafV vs N) :: tPool vs N :: R
section
variable {H : Nat} {A w w' : World} {R : List Thing} {sb cap : Nat} {room : Int} {B : Option Addr} {vs : List Value} {N : List Nd}
theorem sh_len (h : OwnT H A (shT sb room B cap vs N R) w) : vs.length = N.length := h.all.2.2.1.1
/-- The node of a page, in memory. -/
theorem sh_node (h : OwnT H A (shT sb room B cap vs N R) w) {i : Nat} {nd : Nd} (hi : N[i]? = some nd) : ∃ g v, B = some ⟨g, 0, none⟩ ∧ (tPs v nd.2).holds w ∧ w.cell? ⟨g, i * 2, none⟩ = some (.int .i64 (nd.1 : Nat)) ∧ w.cell? ⟨g, i * 2 + 1, none⟩ = some v := by
  obtain ⟨h1, h2, h3, _⟩ := h.all
  obtain ⟨v, hv, c0, c1⟩ := Z6l h3.1 hi
  have hil := (List.getElem?_eq_some_iff.1 hi).1
  obtain ⟨g, cap', cur, e, hg, _, _, hcs, htk⟩ := Z11 h2 (by omega)
  injection e with e1 _ e3
  subst e1 e3
  refine ⟨g, v, rfl, h3.2 i v nd hv hi, ?_, ?_⟩
  · rw [hg.cell, ← c0, ← htk, List.getElem?_take_of_lt (by omega)]; simp
  · rw [hg.cell, ← c1, ← htk, List.getElem?_take_of_lt (by omega)]; simp
theorem sh_nil {R : List Thing} (h : OwnT H A (tBlk sb 27 #[.slice none 0 0, .int .i64 room] :: R) w) : OwnT H A (shT sb room none 0 [] [] R) w :=
  ((pool_nil h).nilRow 40 2).perm (((List.Perm.swap _ _ _).cons _).trans (List.Perm.swap _ _ _))
end
end Go.Proofs.Ytdeocidlkpbhcaa

/- leaf: Good. -/
namespace Go.Proofs.Ytdeocidlkpbhcaa
set_option linter.unusedVariables false
set_option linter.unusedSimpArgs false
open Go.RowKit

def farB (v : Nat) : Bool := decide (v < 1) || decide (512 ≤ v)
theorem far_any (k v : Nat) (w : World) : Calls Try.prog 43 #[.agg #[.int .u64 k, .int .u64 v]] w fun e w' => e = .returned (.bool (farB v)) ∧ Ext w w' := by
  have hE := Lib.hid (Ext.alloc w (.cells #[.int .u64 k, .int .u64 v] 59))
  by_cases h1 : v < 1
  · have e : farB v = true := by unfold farB; simp [h1]
    rw [e]
    obtain rfl : v = 0 := by omega
    clear e
    go_enter Try.func43, Try.ntmps43
    go_wp2_with fail
    go_ret
    exact ⟨rfl, hE.out⟩
  · have h1d : decide (v < 1) = false := by simpa using h1
    have h1i : decide ((v : Int) < 1) = false := by rw [decide_eq_false_iff_not]; omega
    have h1z : ¬ v = 0 := by omega
    by_cases h2 : 512 ≤ v
    · have e : farB v = true := by unfold farB; rw [Bool.or_eq_true, decide_eq_true_iff, decide_eq_true_iff]; exact .inr h2
      rw [e]
      have h2i : decide ((512 : Int) ≤ (v : Int)) = true := by rw [decide_eq_true_iff]; omega
      have h2d : decide (512 ≤ v) = true := by rw [decide_eq_true_iff]; omega
      clear e
      go_enter Try.func43, Try.ntmps43
      go_wp2_with fail
      go_ret
      exact ⟨rfl, hE.out⟩
    · have e : farB v = false := by unfold farB; rw [Bool.or_eq_false_iff, decide_eq_false_iff_not, decide_eq_false_iff_not]; exact ⟨h1, h2⟩
      rw [e]
      have h2i : decide ((512 : Int) ≤ (v : Int)) = false := by rw [decide_eq_false_iff_not]; omega
      have h2d : decide (512 ≤ v) = false := by rw [decide_eq_false_iff_not]; omega
      clear e
      go_enter Try.func43, Try.ntmps43
      go_wp2_with fail
      go_ret
      exact ⟨rfl, hE.out⟩
set_option maxHeartbeats 1000000 in
theorem index_any (A : Option Addr) (len cap : Nat) (xs : List (Nat × Nat)) (w : World) (hlen : xs.length = len) (hm : len ≤ 1000000) (hrow : Row w A 2 pairC xs) :
    Calls Try.prog 52 #[.slice A len cap, .func (.func 43) #[] #[]] w fun e w' => ∃ r : Int, e = .returned (.int .i64 r) ∧ decide (0 ≤ r) = xs.any (fun x => farB x.2) ∧ Ext w w' := by
  go_enter Try.func52, Try.ntmps52
  go_wp2_with fail
  go_loopw [8] (fun i wr => ∃ j : Nat, i = .int .i64 j ∧ j ≤ len ∧ Ext w wr ∧ Hid ((xs.take j).any (fun x => farB x.2) = false)) (fun i _ => len - (intOf i).toNat)
  case atStart => exact ⟨0, rfl, by omega, Ext.refl _, by simp [Hid]⟩
  case round =>
    obtain ⟨j, rfl, hj, hEx, HJ⟩ := hrel
    by_cases hlt : j < len
    · have hjx : j < xs.length := by omega
      obtain ⟨b0, o0, rfl, hlt0, q0, q1⟩ := hrow.pair_in hEx hjx
      have HF := Lib.hid (fun W => far_any xs[j].1 xs[j].2 W)
      have htk : (xs.take (j + 1)).any (fun x => farB x.2) = ((xs.take j).any (fun x => farB x.2) || farB xs[j].2) := by
        rw [List.take_succ_eq_append_getElem hjx, List.any_append]
        simp only [List.any_cons, List.any_nil, Bool.or_false]
      rw [HJ.out, Bool.false_or] at htk
      have hin : farB xs[j].2 = true → xs.any (fun x => farB x.2) = true := fun h => List.any_eq_true.2 ⟨_, List.getElem_mem hjx, h⟩
      generalize farB xs[j].2 = B at HF htk hin
      have HTK := Lib.hid htk
      have HIN := Lib.hid hin
      clear htk hin
      cases B
      · go_wp2_with fail
        refine (HF.out _).mono ?_
        rintro e w2 ⟨rfl, R2⟩
        go_wp2_with fail
        go_roundw
        case rel => exact ⟨j + 1, by go_num, by omega, hEx.trans R2, HTK.out⟩
        case measure => simp [intOf]; omega
      · go_wp2_with fail
        refine (HF.out _).mono ?_
        rintro e w2 ⟨rfl, R2⟩
        go_wp2_with fail
        go_ret
        exact ⟨(j : Int), rfl, by rw [HIN.out (by trivial), decide_eq_true_iff]; omega, hEx.trans R2⟩
    · have HA : Hid (xs.any (fun x => farB x.2) = false) := by
        have := HJ.out
        rwa [List.take_of_length_le (by omega)] at this
      go_wp2_with fail
      go_ret
      exact ⟨-1, rfl, by rw [HA.out]; decide, hEx⟩
theorem Z5p (A : Option Addr) (len cap : Nat) (xs : List (Nat × Nat)) (w : World) (hlen : xs.length = len) (hm : len ≤ 1000000) (hrow : Row w A 2 pairC xs) :
    Calls Try.prog 44 #[.slice A len cap, .func (.func 43) #[] #[]] w fun e w' => e = .returned (.bool (xs.any (fun x => farB x.2))) ∧ Ext w w' := by
  go_enter Try.func44, Try.ntmps44
  go_wp2_with fail
  refine (index_any A len cap xs _ hlen hm hrow).mono ?_
  rintro e w2 ⟨r, rfl, hr, R2⟩
  have HR := Lib.hid hr
  clear hr
  go_wp2_with fail
  go_ret
  exact ⟨Z4w HR.out, R2⟩
end Go.Proofs.Ytdeocidlkpbhcaa

/- leaf: Good. -/
namespace Go.Proofs.Ytdeocidlkpbhcaa
set_option linter.unusedVariables false
set_option linter.unusedSimpArgs false
open Go.RowKit

/-- Whether a node can be. -/
def goodB (lv : Int) (xs : List (Nat × Nat)) : Bool :=
  decide (0 ≤ lv ∧ lv < 8 ∧ xs.length ≤ 15) && (riseB xs && (decide (lv = 0) || (decide (0 < xs.length) && !xs.any (fun x => farB x.2))))
set_option maxHeartbeats 1000000 in
theorem Z6n (lv : Int) (A : Option Addr) (len cap : Nat) (xs : List (Nat × Nat)) (w : World) (hlen : xs.length = len) (hm : len ≤ 1000000) (hrow : Row w A 2 pairC xs) (hx : ∀ x ∈ xs, x.1 < 18446744073709551616) :
    Calls Try.prog 29 #[.agg #[.int .i64 lv, .slice A len cap]] w fun e w' => e = .returned (.bool (goodB lv xs)) ∧ Ext w w' := by
  have hE := Ext.alloc w (.cells #[.int .i64 lv, .slice A len cap] 40)
  have hX : Blk (w.alloc (.cells #[.int .i64 lv, .slice A len cap] 40)) w.heap.size 40 #[.int .i64 lv, .slice A len cap] := Blk.new _ _ _
  have HR := Lib.hid (fun W (h : Ext (w.alloc (.cells #[.int .i64 lv, .slice A len cap] 40)) W) => rise_any A len cap xs W hlen hm (hrow.ext (hE.trans h)) hx)
  have HC := Lib.hid (fun W (h : Ext (w.alloc (.cells #[.int .i64 lv, .slice A len cap] 40)) W) => Z5p A len cap xs W hlen hm (hrow.ext (hE.trans h)))
  have HE := Lib.hid hE
  have HX := Lib.hid hX
  have hgd : goodB lv xs = (decide (0 ≤ lv ∧ lv < 8 ∧ len ≤ 15) && (riseB xs && (decide (lv = 0) || (decide (0 < len) && !xs.any (fun x => farB x.2))))) := by unfold goodB; rw [hlen]
  rw [hgd]
  generalize riseB xs = RB at HR ⊢
  generalize xs.any (fun x => farB x.2) = FB at HC ⊢
  clear hE hX hrow hx hgd hlen
  by_cases h1 : 0 ≤ lv ∧ lv < 8 ∧ len ≤ 15
  · rw [decide_eq_true h1, Bool.true_and]
    obtain ⟨ha, hb, hc⟩ := h1
    have d1 : decide (lv < 0) = false := by rw [decide_eq_false_iff_not]; omega
    have d2 : decide (8 ≤ lv) = false := by rw [decide_eq_false_iff_not]; omega
    have d3 : decide ((15 : Int) < (len : Int)) = false := by rw [decide_eq_false_iff_not]; omega
    cases RB
    · rw [Bool.false_and]
      go_enter Try.func29, Try.ntmps29
      go_wp2_with fail
      refine (HR.out _ (Ext.refl _)).mono ?_
      rintro e w2 ⟨rfl, R2⟩
      go_wp2_with fail
      go_ret
      exact ⟨rfl, HE.out.trans R2⟩
    · rw [Bool.true_and]
      by_cases h0 : lv = 0
      · rw [decide_eq_true h0, Bool.true_or]
        subst h0
        go_enter Try.func29, Try.ntmps29
        go_wp2_with fail
        refine (HR.out _ (Ext.refl _)).mono ?_
        rintro e w2 ⟨rfl, R2⟩
        have X2 := HX.out.ext R2
        have q0 := X2.cell 0
        have q1 := X2.cell 1
        clear X2
        go_wp2_with fail
        go_ret
        exact ⟨rfl, HE.out.trans R2⟩
      · rw [decide_eq_false h0, Bool.false_or]
        have d4 : (lv == 0) = false := by simpa using h0
        by_cases hl : 0 < len
        · rw [decide_eq_true hl, Bool.true_and]
          have d5 : decide ((0 : Int) < (len : Int)) = true := by rw [decide_eq_true_iff]; omega
          go_enter Try.func29, Try.ntmps29
          go_wp2_with fail
          refine (HR.out _ (Ext.refl _)).mono ?_
          rintro e w2 ⟨rfl, R2⟩
          have X2 := HX.out.ext R2
          have q0 := X2.cell 0
          have q1 := X2.cell 1
          clear X2
          go_wp2_with fail
          refine (HC.out _ R2).mono ?_
          rintro e w3 ⟨rfl, R3⟩
          go_wp2_with fail
          go_ret
          exact ⟨rfl, (HE.out.trans R2).trans R3⟩
        · rw [decide_eq_false hl, Bool.false_and]
          obtain rfl : len = 0 := by omega
          go_enter Try.func29, Try.ntmps29
          go_wp2_with fail
          refine (HR.out _ (Ext.refl _)).mono ?_
          rintro e w2 ⟨rfl, R2⟩
          have X2 := HX.out.ext R2
          have q0 := X2.cell 0
          have q1 := X2.cell 1
          clear X2
          go_wp2_with fail
          go_ret
          exact ⟨rfl, HE.out.trans R2⟩
  · rw [decide_eq_false h1, Bool.false_and]
    clear HR HC
    by_cases ha : lv < 0
    · have d1 : decide (lv < 0) = true := by rw [decide_eq_true_iff]; omega
      go_enter Try.func29, Try.ntmps29
      go_wp2_with fail
      go_ret
      exact ⟨rfl, HE.out⟩
    · have d1 : decide (lv < 0) = false := by rw [decide_eq_false_iff_not]; omega
      by_cases hb : 8 ≤ lv
      · have d2 : decide (8 ≤ lv) = true := by rw [decide_eq_true_iff]; omega
        go_enter Try.func29, Try.ntmps29
        go_wp2_with fail
        go_ret
        exact ⟨rfl, HE.out⟩
      · have d2 : decide (8 ≤ lv) = false := by rw [decide_eq_false_iff_not]; omega
        have d3 : decide ((15 : Int) < (len : Int)) = true := by rw [decide_eq_true_iff]; omega
        have hc : 15 < len := by omega
        go_enter Try.func29, Try.ntmps29
        go_wp2_with fail
        go_ret
        exact ⟨rfl, HE.out⟩
end Go.Proofs.Ytdeocidlkpbhcaa
