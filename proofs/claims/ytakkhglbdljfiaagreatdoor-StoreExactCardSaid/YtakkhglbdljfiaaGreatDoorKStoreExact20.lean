/- The store's pages counted; rows of new pages (plain). -/
import Derived.Test.YtakkhglbdljfiaaGreatDoorKStoreExact19
import Derived.Test.YtakkhglbdljfiaaGreatDoorKStoreExact00
import Derived.Laws.StructEq
import Derived.Test.YtakkhglbdljfiaaGreatDoorKStoreExact12
import Derived.Test.YtakkhglbdljfiaaGreatDoorKStoreExact17
import Derived.Test.YtakkhglbdljfiaaGreatDoorKStoreExact15
namespace Go.Proofs.YtakkhglbdljfiaaGreatDoor
set_option linter.unusedVariables false
set_option linter.unusedSimpArgs false
open Go.RowKit Go.Maps

theorem riseN_succ (P : Nat) (p : Int → Bool) : riseN (P + 1) p = riseN P p ++ (if p (P : Nat) then [((P : Nat) : Int)] else []) := by
  unfold riseN
  rw [List.range_succ, List.map_append, List.filter_append]
  congr 1
  show ([((P : Nat) : Int)]).filter p = _
  rw [List.filter_cons]
  rfl
theorem Z17 (P : Nat) (p : Int → Bool) : (riseN (P + 1) p).length = (riseN P p).length + (if p (P : Nat) then 1 else 0) := by
  rw [riseN_succ, List.length_append]
  split <;> rfl
/-- The free pages. -/
def freeL (P : Nat) (K : Int → Bool) (F : Int → Option Nd) : List Int := riseN P fun c => decide (1 ≤ c) && freeB K F c
section
variable {P : Nat} {K : Int → Bool} {F : Int → Option Nd} {ps : List Int} {g : Nat → Int} {c : Int}
theorem count3 (hK : K 0 = false) (hF : F 0 = none) (hd : ∀ c, K c = true → F c = none) : ∀ P : Nat, (kL (P + 1) K).length + (fL (P + 1) F).length + (freeL (P + 1) K F).length = P
  | 0 => by
    unfold kL fL freeL
    rw [Z17, Z17, Z17]
    simp [riseN, hK, hF]
  | P + 1 => by
    have ih := count3 hK hF hd P
    unfold kL fL freeL at *
    rw [Z17, Z17 (P + 1), Z17 (P + 1)]
    have h1 : decide ((1 : Int) ≤ ((P + 1 : Nat) : Int)) = true := decide_eq_true (by omega)
    have hdc := hd ((P + 1 : Nat) : Int)
    unfold freeB at *
    cases hk : K ((P + 1 : Nat) : Int) with
    | true =>
      rw [hdc hk]
      simp only [h1, Option.isSome_none, Bool.not_true, Bool.and_false, if_true]
      simp only [Bool.false_eq_true, if_false]
      omega
    | false =>
      cases hf : F ((P + 1 : Nat) : Int) with
      | none =>
        simp only [h1, Option.isSome_none, Bool.not_false, Bool.and_true, if_true]
        simp only [Bool.false_eq_true, if_false]
        omega
      | some nd =>
        simp only [h1, Option.isSome_some, Bool.not_true, Bool.not_false, Bool.and_true, Bool.and_false, if_true]
        simp only [Bool.false_eq_true, if_false]
        omega
/-- Committed pages are not new. -/
structure Apart7 (K : Int → Bool) (F : Int → Option Nd) : Prop where
  k0 : K 0 = false
  f0 : F 0 = none
  no : ∀ c, K c = true → F c = none
theorem StOk.apart {vs : List Value} {N : List Nd} {m : Int → Option Value} (s : StOk P K F vs N m) (h : ∀ c, K c = true → F c = none) : Apart7 K F := by
  refine ⟨?_, ?_, h⟩
  · cases h0 : K 0 with
    | false => rfl
    | true => exact absurd (s.kr 0 h0).1 (by decide)
  · cases h0 : F 0 with
    | none => rfl
    | some nd => exact absurd (s.fr 0 nd h0).1 (by decide)
theorem Apart7.count (h : Apart7 K F) (hP : 1 ≤ P) : (kL P K).length + (fL P F).length + (freeL P K F).length = P - 1 := by
  obtain ⟨q, rfl⟩ : ∃ q, P = q + 1 := ⟨P - 1, by omega⟩
  exact count3 h.k0 h.f0 h.no q
theorem fL_put (hF : F c = none) (h1 : 0 ≤ c) (nd : Nd) : ∀ P : Nat, (fL P (putF F c nd)).length = (fL P F).length + (if c < (P : Nat) then 1 else 0)
  | 0 => by rw [if_neg (by omega)]; rfl
  | P + 1 => by
    have ih := fL_put hF h1 nd P
    unfold fL at *
    rw [Z17, Z17, ih]
    have e : putF F c nd ((P : Nat) : Int) = if ((P : Nat) : Int) = c then some nd else F ((P : Nat) : Int) := rfl
    by_cases hc : ((P : Nat) : Int) = c
    · rw [e, if_pos hc, if_neg (show ¬ c < ((P : Nat) : Int) by omega), if_pos (show c < ((P + 1 : Nat) : Int) by omega), hc, hF]
      simp
    · rw [e, if_neg hc]
      by_cases hl : c < ((P : Nat) : Int)
      · rw [if_pos hl, if_pos (show c < ((P + 1 : Nat) : Int) by omega)]
        omega
      · rw [if_neg hl, if_neg (show ¬ c < ((P + 1 : Nat) : Int) by omega)]
        exact Nat.add_right_comm _ _ _
/-- The new pages are those of a row, with the laws' nodes. -/
structure Adds (P : Nat) (K : Int → Bool) (F : Int → Option Nd) (ps : List Int) (g : Nat → Int) : Prop where
  at_ : ∀ (j : Nat) c, ps[j]? = some c → F c = some (node (g j))
  free : ∀ c ∈ ps, K c = false ∧ 1 ≤ c ∧ c < (P : Nat)
  only : ∀ c, (F c).isSome = true → c ∈ ps
  len : (fL P F).length = ps.length
theorem Adds.nil (P : Nat) (K : Int → Bool) (g : Nat → Int) : Adds P K (fun _ => none) [] g := by
  refine ⟨fun j c h => (by simp at h), fun c h => (by cases h), fun c h => (by cases h), ?_⟩
  have : fL P (fun _ => none) = [] := by
    unfold fL riseN
    rw [List.filter_eq_nil_iff]
    simp
  rw [this]
theorem Z6y (h : freeB K F c = true) : F c = none ∧ K c = false := by
  unfold freeB at h
  rw [Bool.and_eq_true, Bool.not_eq_true', Bool.not_eq_true', Option.isSome_eq_false_iff, Option.isNone_iff_eq_none] at h
  exact h
theorem Adds.put {d : Nat} (h : Adds P K F ps g) (hf : FirstFree P K F d) : Adds P K (putF F (d : Nat) (node (g ps.length))) (ps ++ [((d : Nat) : Int)]) g := by
  obtain ⟨h1, h2, h3, _⟩ := hf
  obtain ⟨hF, hK⟩ := Z6y h3
  have hn : ∀ c ∈ ps, c ≠ ((d : Nat) : Int) := fun c hc e => by
    obtain ⟨j, hj⟩ := List.getElem?_of_mem hc
    have := h.at_ j c hj
    rw [e, hF] at this
    cases this
  refine ⟨fun j c hc => ?_, fun c hc => ?_, fun c hc => ?_, ?_⟩
  · by_cases hj : j < ps.length
    · rw [List.getElem?_append_left hj] at hc
      unfold putF
      rw [if_neg (hn c (List.mem_of_getElem? hc))]
      exact h.at_ j c hc
    · rw [List.getElem?_append_right (by omega)] at hc
      have e : j - ps.length = 0 := by have := (List.getElem?_eq_some_iff.1 hc).1; simp at this; omega
      rw [e] at hc
      obtain rfl : ((d : Nat) : Int) = c := by simpa using hc
      unfold putF
      rw [if_pos rfl, show j = ps.length by omega]
  · rcases List.mem_append.1 hc with hc | hc
    · exact h.free c hc
    · obtain rfl := List.mem_singleton.1 hc
      exact ⟨hK, by omega, by omega⟩
  · unfold putF at hc
    split at hc
    · rename_i e
      exact List.mem_append.2 (.inr (List.mem_singleton.2 e))
    · exact List.mem_append.2 (.inl (h.only c hc))
  · rw [fL_put hF (by omega), h.len, if_pos (by omega), List.length_append]
    rfl
theorem Adds.apart (h : Adds P K F ps g) : ∀ c, K c = true → F c = none := fun c hc => by
  cases hf : F c with
  | none => rfl
  | some nd =>
    have := (h.free c (h.only c (by rw [hf]; rfl))).1
    rw [hc] at this
    cases this
theorem Adds.kept (h : Adds P K F ps g) : (kL P (inP P ps)).length = ps.length := by
  rw [← h.len]
  unfold kL fL
  congr 1
  refine riseN_congr fun i hi => ?_
  unfold inP
  cases hf : F ((i : Nat) : Int) with
  | none =>
    refine decide_eq_false fun hh => ?_
    obtain ⟨j, hj⟩ := List.getElem?_of_mem hh.1
    have := h.at_ j _ hj
    rw [hf] at this
    cases this
  | some nd =>
    have hm := h.only ((i : Nat) : Int) (by rw [hf]; rfl)
    exact decide_eq_true ⟨hm, (h.free _ hm).2⟩
theorem Adds.todo (h : Adds P K F ps g) (hc : c ∈ ps) : c ∈ todo P F ps := by
  obtain ⟨j, hj⟩ := List.getElem?_of_mem hc
  obtain ⟨_, h1, h2⟩ := h.free c hc
  exact Z26.2 ⟨⟨⟨by omega, h2⟩, by rw [h.at_ j c hj]; rfl⟩, hc⟩
/-- What a commit of them leaves. -/
theorem Adds.page {S : List Sec} {o : Nat} {hb : List UInt8} {j : Nat} (h : Adds P K F ps g) (hS : 16 * P ≤ S.length) (ho : o < 16) (hj : ps[j]? = some c) : pgS (cmS S F (Go.Proofs.YtakkhglbdljfiaaGreatDoor.todo P F ps) o hb) c.toNat = pgB (node (g j)) := by
  have hm := List.mem_of_getElem? hj
  obtain ⟨_, h1, h2⟩ := h.free c hm
  have e : ((c.toNat : Nat) : Int) = c := Int.toNat_of_nonneg (by omega)
  exact cm_new (nd := node (g j)) (by omega) ho (by omega) (by rw [e]; exact h.todo hm) (by rw [e]; exact h.at_ j c hj) (Z3g _)
end
/-- A row of numbers of one's own. -/
theorem row1_own {w : World} {T : TypeId} {B : Option Addr} {n c : Nat} {xs : List Int} (h : w.ownsRow 0 T 1 (.slice B n c) n (xs.map (Value.int .i64))) (hn : xs.length = n) : Row1 w B (Value.int .i64) xs := by
  intro i x hx
  have hi := (List.getElem?_eq_some_iff.1 hx).1
  obtain ⟨g, cap', cur, e, hb, _, _, _, h5⟩ := Z6q h (by omega)
  injection e with e1
  subst e1
  refine ⟨g, 0, rfl, hb.lt, ?_⟩
  rw [Nat.zero_add, hb.cell, ← Array.getElem?_toList]
  have h6 := congrArg (fun l => l[i]?) h5
  simp only [Nat.mul_one] at h6
  rw [List.getElem?_take_of_lt (by omega), List.getElem?_map, hx] at h6
  exact h6
theorem elemI8 : ElemI Tryz.prog 40 3 1 8 := ⟨Tryz.underlying40, by
  have h : (Tryz.prog.info? 3).map (fun i => (i.zero, i.size, i.bytes)) = some (some (.int .i64 0), 1, 8) := by kernel_rfl
  obtain ⟨i, h1, h2, h3, h4⟩ := info_parts h
  exact ⟨i, _, h1, h2, h3, h4, rfl⟩⟩
def intsV (l : List Int) : List Value := l.map (Value.int .i64)
theorem intsV_app (l : List Int) (x : Int) : intsV (l ++ [x]) = intsV l ++ [Value.int .i64 x] := by simp [intsV]
theorem looL_no7 (n : Nat) : looL n noL = [] := by
  unfold looL riseN
  rw [List.filter_eq_nil_iff]
  simp
section
variable {H : Nat} {A0 : World} {R : List Thing} {sb p kb fb mb n cap bm : Nat} {B : Option Addr} {S : List Sec} {L : Int → Option Sec} {h : Hd} {at_ : Int} {K : Int → Bool} {m : Int → Option Value} {F : Int → Option Nd} {vs : List Value} {N : List Nd} {M : Mn}
theorem sadd_two (nn : Int) {g : Nat} (w : World) (O : OwnT H A0 (stL sb p h at_ kb fb K m vs N (tDisc p mb B n cap bm S L :: R)) w) (ok : StOk (pgs n) K F vs N m) (hrow : Row w (some ⟨g, 0, none⟩) 2 pairC (nodeP nn)) :
    Calls Tryz.prog 13 #[.pointer (some ⟨sb, 0, none⟩), .agg #[.int .i64 0, .slice (some ⟨g, 0, none⟩) 1 1]] w fun e w' =>
      ∃ (c ef : Int) (F' : Int → Option Nd) (m' : Int → Option Value) (vs' : List Value) (N' : List Nd), e = .returned (.tuple #[.int .i64 c, .int .i64 ef]) ∧ OwnT H A0 (stL sb p h at_ kb fb K m' vs' N' (tDisc p mb B n cap bm S L :: R)) w' ∧ StOk (pgs n) K F' vs' N' m' ∧ ((∃ d : Nat, c = d ∧ ef = 0 ∧ FirstFree (pgs n) K F d ∧ F' = putF F (d : Nat) (node nn)) ∨ (c = 0 ∧ ef = 6 ∧ NoFree (pgs n) K F ∧ F' = F)) := by
  refine (Z7e nn w O ok hrow).mono ?_
  rintro e w' (⟨d, m', vs', N', hd, rfl, O', ok'⟩ | ⟨hn, rfl, O'⟩)
  · exact ⟨_, _, _, m', vs', N', rfl, O', ok', .inl ⟨d, rfl, rfl, hd, rfl⟩⟩
  · exact ⟨_, _, _, m, vs, N, rfl, O', ok, .inr ⟨rfl, rfl, hn, rfl⟩⟩
end
open Go.RowKit

theorem sizeOf_int (w : World) : (sizeOf 3).run Tryz.prog w = .ok 1 w := by kernel_rfl
theorem part2_0 (w : World) (x y : Value) : (part 3 #[x, y] 0).run Tryz.prog w = .ok x w := by kernel_rfl
theorem part2_1 (w : World) (x y : Value) : (part 3 #[x, y] 1).run Tryz.prog w = .ok y w := by kernel_rfl
theorem eq_arr2 (d : Nat) (a b a' b' : Int) (w : World) : (Op.equalIn (d + 2) 33 (.agg #[.int .i64 a, .int .i64 b]) (.agg #[.int .i64 a', .int .i64 b'])).run Tryz.prog w = .ok ((a == a') && (b == b')) w := by
  have h0 := fun W x y => run_equalIn_int (P := Tryz.prog) W d 3 .i64 .i64 x y Tryz.underlying3
  rw [Op.equalIn]
  simp only [Sem.run_bind, run_underlying Tryz.underlying33, Result.andThen_ok, sizeOf_int]
  by_cases ha : a = a' <;> by_cases hb : b = b' <;> simp [List.range', List.forIn_cons, Sem.run_bind, Sem.run_ite, part2_0, part2_1, h0, ha, hb]

section
variable {w : World} {o : Oper} {ρ : Operand → Value} {t u : TypeId} {x y : Operand}
theorem x_neHd {g r a b c : Int} (ho : o.op = .binOp .neq 39 x y u) (hx : ρ x = headV g r a b c) (hy : ρ y = headV g r a b c) : (execOp ρ o).run Tryz.prog w = .ok (.value (.bool false)) w := by
  have h := eq_arr2 9997 a b a b w
  unfold execOp
  simp only [ho, hx, hy]
  simp [go_sem, h]
end
section
variable {H : Nat} {A0 : World} {R : List Thing} {sb p kb fb mb n cap bm : Nat} {B : Option Addr} {S : List Sec} {L : Int → Option Sec} {M : Mn}
end

/-- What operation k makes: a thing in a block; the slot's value. -/
structure MkT where
  k : Nat
  d : Tmp
  T : Nat → Thing
  val : Nat → Value
abbrev RT : (Nat → Bool) → World → World → Prop := fun _ _ _ => True
def MkI (ms : List MkT) (H : Nat) (A0 : World) (base : List Thing) (l : Nat → Bool) (a : Act) (w : World) : Prop :=
  ∃ γ : Nat → Nat, OwnT H A0 (((ms.filter fun m => l m.k).map fun m => m.T (γ m.k)) ++ base) w ∧ ∀ m ∈ ms, l m.k = true → a.eval (.tmp m.d) = m.val (γ m.k)
theorem Z5b {α β : Type} {f : α → β} : ∀ {ms : List α} {x y : α}, (ms.map f).Nodup → x ∈ ms → y ∈ ms → f x = f y → x = y
  | m :: ms, x, y, hu, hx, hy, e => by
    have hu2 := List.nodup_cons.1 (show (f m :: ms.map f).Nodup from hu)
    rcases List.mem_cons.1 hx with hx | hx <;> rcases List.mem_cons.1 hy with hy | hy
    · rw [hx, hy]
    · exact absurd (List.mem_map.2 ⟨y, hy, by rw [← e, hx]⟩) hu2.1
    · exact absurd (List.mem_map.2 ⟨x, hx, by rw [e, hy]⟩) hu2.1
    · exact Z5b hu2.2 hx hy e
theorem mk_perm {l : Nat → Bool} {γ : Nat → Nat} {g : Nat} {m : MkT} : ∀ (ms : List MkT), (ms.map (·.k)).Nodup → m ∈ ms → l m.k = false →
    ((ms.filter fun x => upd l m.k x.k).map fun x => x.T (if x.k = m.k then g else γ x.k)).Perm (m.T g :: (ms.filter fun x => l x.k).map fun x => x.T (γ x.k))
  | [], _, hm, _ => by cases hm
  | x :: ms, hu, hm, hl => by
    have hu2 := List.nodup_cons.1 (show (x.k :: ms.map (·.k)).Nodup from hu)
    by_cases e : x.k = m.k
    · have hx : x = m := by
        rcases List.mem_cons.1 hm with h | h
        · exact h.symm
        · exact absurd (List.mem_map.2 ⟨m, h, e.symm⟩) hu2.1
      subst hx
      have hno : ∀ y ∈ ms, y.k ≠ x.k := fun y hy h => hu2.1 (List.mem_map.2 ⟨y, hy, h⟩)
      have h1 : ms.filter (fun y => upd l x.k y.k) = ms.filter fun y => l y.k := List.filter_congr fun y hy => by unfold upd; rw [if_neg (hno y hy)]
      have h2 : (ms.filter fun y => l y.k).map (fun y => y.T (if y.k = x.k then g else γ y.k)) = (ms.filter fun y => l y.k).map fun y => y.T (γ y.k) := List.map_congr_left fun y hy => by rw [if_neg (hno y (List.mem_filter.1 hy).1)]
      rw [List.filter_cons, if_pos (show upd l x.k x.k = true by unfold upd; rw [if_pos rfl]), List.filter_cons, if_neg (by rw [hl]; decide), List.map_cons, if_pos rfl, h1, h2]
    · have hm2 : m ∈ ms := by
        rcases List.mem_cons.1 hm with h | h
        · exact absurd (congrArg MkT.k h.symm) e
        · exact h
      have ih := mk_perm (l := l) (γ := γ) (g := g) ms hu2.2 hm2 hl
      have hx : upd l m.k x.k = l x.k := by unfold upd; rw [if_neg e]
      rw [List.filter_cons, List.filter_cons, hx]
      cases l x.k with
      | false => simpa using ih
      | true =>
        rw [if_pos rfl, if_pos rfl, List.map_cons, List.map_cons, if_neg e]
        exact (List.Perm.cons _ ih).trans (.swap _ _ _)
section
variable {P : Program} {ops : Array Oper} {a0 : Act} {D : List Tmp} {A : List (List Nat)} {G : List (Nat × TFactL RT) → Prop} {k : Nat} {o : Oper} {os : List Oper} {done : List (Nat × TFactL RT)} {v : Value} {H : Nat} {A0 : World} {base : List Thing} {ms : List MkT} {Q : Exit → Act → World → Prop}
theorem MkI.det {l : Nat → Bool} {a : Act} {w : World} {d : Tmp} (h : MkI ms H A0 base l a w) (hk : ms.all (fun m => !Nat.beq m.k k && !Nat.beq m.d d) = true) : MkI ms H A0 base (upd l k) (a.put (some d) v) w := by
  obtain ⟨γ, O, hs⟩ := h
  have hne : ∀ m ∈ ms, m.k ≠ k ∧ m.d ≠ d := fun m hm => by
    have := List.all_eq_true.1 hk m hm
    rw [Bool.and_eq_true, Bool.not_eq_true', Bool.not_eq_true'] at this
    exact ⟨Nat.ne_of_beq_eq_false this.1, Nat.ne_of_beq_eq_false this.2⟩
  have hu : ∀ m ∈ ms, upd l k m.k = l m.k := fun m hm => by unfold upd; rw [if_neg (hne m hm).1]
  refine ⟨γ, ?_, fun m hm hl => ?_⟩
  · rw [List.filter_congr (fun m hm => hu m hm)]
    exact O
  · rw [hu m hm] at hl
    rw [Z0q (by
      cases e : Nat.beq m.d d with
      | false => rfl
      | true => exact absurd (Nat.eq_of_beq_eq_true e) (hne m hm).2)]
    exact hs m hm hl
theorem MkB.det (d : Tmp) {v : Value} (hk : ms.all (fun m => !Nat.beq m.k k && !Nat.beq m.d d) = true) (hd : o.dst = some d) (hn : Nat.blt d a0.tmps.size = true) (hg : o.guard = none)
    (h : ∀ l a w, Env a0 D a → MkI ms H A0 base l a w → (∀ (i : Nat) (S' : TFactL RT), i ∈ A.getD k [] → (i, S') ∈ done → S'.T a w) → (execOp a.eval o).run P w = .ok (.value v) w)
    (hr : BuildM P RT ops (MkI ms H A0 base) a0 D A G (k + 1) os ((k, detL k d v) :: done)) : BuildM P RT ops (MkI ms H A0 base) a0 D A G k (o :: os) done :=
  .step _ rfl (fun l a w hE hI hl hA hF => .inl ⟨Z0e hg, by
    unfold YieldsR
    rw [h l a w hE hI hF]
    refine ⟨trivial, trivial, ?_, ?_⟩
    · rw [hd]; exact Z0j (by rw [hE.size]; exact Nat.le_of_ble_eq_true hn)
    · rw [hd]; exact hI.det hk⟩) hr
def trivL (k : Nat) : TFactL RT := ⟨k, [], fun _ _ => True, fun _ _ _ _ _ => trivial, fun _ _ _ _ _ _ _ => trivial⟩
theorem MkB.make (m : MkT) (hm : m ∈ ms) (hu : (ms.map (·.k)).Nodup) (hud : (ms.map (·.d)).Nodup) (hmk : m.k = k) (hd : o.dst = some m.d) (hn : Nat.blt m.d a0.tmps.size = true) (hg : o.guard = none)
    (h : ∀ a w, Env a0 D a → (∀ (i : Nat) (S' : TFactL RT), i ∈ A.getD k [] → (i, S') ∈ done → S'.T a w) → ∃ g w', (execOp a.eval o).run P w = .ok (.value (m.val g)) w' ∧ Ext w w' ∧ (m.T g).holds w' ∧ ∀ i ∈ (m.T g).foot, w.heap.size ≤ i)
    (hr : BuildM P RT ops (MkI ms H A0 base) a0 D A G (k + 1) os ((k, trivL k) :: done)) : BuildM P RT ops (MkI ms H A0 base) a0 D A G k (o :: os) done :=
  .step (trivL k) rfl (fun l a w hE hI hl hA hF => .inl ⟨Z0e hg, by
    obtain ⟨g, w', h1, h2, h3, h4⟩ := h a w hE hF
    unfold YieldsR
    rw [h1]
    refine ⟨trivial, trivial, trivial, ?_⟩
    obtain ⟨γ, O, hs⟩ := hI
    subst hmk
    refine ⟨fun i => if i = m.k then g else γ i, ?_, fun x hx hlx => ?_⟩
    · refine ((O.cons h2 (m.T g) h3 h4).perm ?_)
      rw [← List.cons_append]
      exact ((mk_perm ms hu hm hl).symm).append_right base
    · rw [hd]
      by_cases e : x.k = m.k
      · have hxm : x = m := Z5b hu hx hm e
        subst hxm
        show (a.put (some x.d) (x.val g)).eval (.tmp x.d) = x.val (if x.k = x.k then g else γ x.k)
        rw [if_pos rfl]
        exact Z0j (by rw [hE.size]; exact Nat.le_of_ble_eq_true hn)
      · have hdd : x.d ≠ m.d := fun e2 => e (by rw [Z5b hud hx hm e2])
        show (a.put (some m.d) (m.val g)).eval (.tmp x.d) = x.val (if x.k = m.k then g else γ x.k)
        rw [if_neg e, Z0q (by
          cases e3 : Nat.beq x.d m.d with
          | false => rfl
          | true => exact absurd (Nat.eq_of_beq_eq_true e3) hdd)]
        have : upd l m.k x.k = l x.k := by unfold upd; rw [if_neg e]
        exact hs x hx (by rwa [this] at hlx)⟩) hr
/-- A region that makes. -/
theorem wp_makes {id : Nat} {l : List Oper} {w : World} (ms : List MkT) (A : List (List Nat)) (D : List Tmp) (O : OwnT H A0 base w) (hf : P.follows .mixedOrders = true)
    (h : BuildM P RT l.toArray (MkI ms H A0 base) a0 D A (FinM P l (MkI ms H A0 base) a0 D A Q) 0 l []) : (Code.region id l.toArray true).wp P Q a0 w :=
  Z5s RT (MkI ms H A0 base) A D (fun _ _ => trivial) ⟨fun _ => 0, by
    have e : ms.filter (fun _ => false) = [] := by rw [List.filter_eq_nil_iff]; simp
    rw [e]
    exact O.drew, fun m _ h => by cases h⟩ hf h
theorem MkI.all {l : Nat → Bool} {a : Act} {w : World} (h : MkI ms H A0 base l a w) (hl : ∀ m ∈ ms, l m.k = true) : ∃ γ : Nat → Nat, OwnT H A0 ((ms.map fun m => m.T (γ m.k)) ++ base) w ∧ ∀ m ∈ ms, a.eval (.tmp m.d) = m.val (γ m.k) := by
  obtain ⟨γ, O, hs⟩ := h
  have e : ms.filter (fun m => l m.k) = ms := by rw [List.filter_eq_self]; exact hl
  rw [e] at O
  exact ⟨γ, O, fun m hm => hs m hm (hl m hm)⟩
end

/-- Two states: ahead of the store, behind it. -/
def I1 (s : Nat) (H : Nat) (A0 : World) (L0 L1 : List Thing) : (Nat → Bool) → World → Prop := fun l w =>
  (l s = false ∧ OwnT H A0 L0 w) ∨ (l s = true ∧ OwnT H A0 L1 w)
section
variable {P : Program} {Q : Exit → Act → World → Prop} {ops : Array Oper} {a0 : Act} {D : List Tmp} {A : List (List Nat)} {G : List (Nat × TFactL RT2) → Prop} {k s : Nat} {o : Oper} {os : List Oper} {done : List (Nat × TFactL RT2)} {H : Nat} {A0 w w' : World} {L0 L1 : List Thing} {l : Nat → Bool}
theorem I1.any (h : I1 s H A0 L0 L1 l w) : OwnT H A0 L0 w ∨ OwnT H A0 L1 w := by
  rcases h with ⟨_, h⟩ | ⟨_, h⟩
  · exact .inl h
  · exact .inr h
theorem I1.keep (h : I1 s H A0 L0 L1 l w) (hk : Nat.beq k s = false) (hE : Ext w w') : I1 s H A0 L0 L1 (upd l k) w' := by
  have n1 : ¬ s = k := fun e => Nat.ne_of_beq_eq_false hk e.symm
  unfold I1 upd at *
  simp only [if_neg n1]
  rcases h with ⟨h1, h⟩ | ⟨h1, h⟩
  · exact .inl ⟨h1, h.ext hE⟩
  · exact .inr ⟨h1, h.ext hE⟩
theorem Build1.det (d : Tmp) {v : Value} (h1 : Nat.beq k s = false) (hd : o.dst = some d) (hn : Nat.blt d a0.tmps.size = true) (hg : o.guard = none)
    (h : ∀ a w, Env a0 D a → (OwnT H A0 L0 w ∨ OwnT H A0 L1 w) → (∀ (i : Nat) (S' : TFactL RT2), i ∈ A.getD k [] → (i, S') ∈ done → S'.T a w) → (execOp a.eval o).run P w = .ok (.value v) w)
    (hr : BuildL P RT2 ops (I1 s H A0 L0 L1) a0 D A G (k + 1) os ((k, detL k d v) :: done)) : BuildL P RT2 ops (I1 s H A0 L0 L1) a0 D A G k (o :: os) done :=
  BuildL.det d (fun _ _ => trivial) (fun _ w hI => hI.keep h1 (Ext.refl w)) hd hn hg (fun l a w hE hI hF => h a w hE hI.any hF) hr
theorem Build1.detg (d : Tmp) {v : Value} {j dj : Nat} {b : Bool} (h1 : Nat.beq k s = false) (hd : o.dst = some d) (hn : Nat.blt d a0.tmps.size = true) (hg : o.guard = some (j, b)) (hj : (ops[j]?).bind (·.dst) = some dj)
    (h : ∀ a w, Env a0 D a → (OwnT H A0 L0 w ∨ OwnT H A0 L1 w) → (∀ (i : Nat) (S' : TFactL RT2), i ∈ A.getD k [] → (i, S') ∈ done → S'.T a w) → a.eval (.tmp dj) = .bool b ∧ (execOp a.eval o).run P w = .ok (.value v) w)
    (hr : BuildL P RT2 ops (I1 s H A0 L0 L1) a0 D A G (k + 1) os ((k, detL k d v) :: done)) : BuildL P RT2 ops (I1 s H A0 L0 L1) a0 D A G k (o :: os) done :=
  .step _ rfl (fun l a w hE hI hl hA hF => .inl ⟨(Z0r hg hj (h a w hE hI.any hF).1).trans (by simp), by
    unfold YieldsR
    rw [(h a w hE hI.any hF).2]
    exact ⟨trivial, hI.keep h1 (Ext.refl w), by rw [hd]; exact Z0j (by rw [hE.size]; exact Nat.le_of_ble_eq_true hn)⟩⟩) hr
theorem Build1.skip (d : Tmp) {j dj : Nat} {b : Bool} (h1 : Nat.beq k s = false) (hd : o.dst = some d) (hn : Nat.blt d a0.tmps.size = true) (hg : o.guard = some (j, b)) (hj : (ops[j]?).bind (·.dst) = some dj)
    (h : ∀ a w, Env a0 D a → (∀ (i : Nat) (S' : TFactL RT2), i ∈ A.getD k [] → (i, S') ∈ done → S'.T a w) → a.eval (.tmp dj) = .bool (!b))
    (hr : BuildL P RT2 ops (I1 s H A0 L0 L1) a0 D A G (k + 1) os ((k, detL k d undef) :: done)) : BuildL P RT2 ops (I1 s H A0 L0 L1) a0 D A G k (o :: os) done :=
  .step _ rfl (fun l a w hE hI hl hA hF => .inr ⟨(Z0r hg hj (h a w hE hF)).trans (by simp), hI.keep h1 (Ext.refl w), by rw [hd]; exact Z0j (by rw [hE.size]; exact Nat.le_of_ble_eq_true hn)⟩) hr
theorem Build1.skipu (d : Tmp) {j dj : Nat} {b : Bool} (h1 : Nat.beq k s = false) (hd : o.dst = some d) (hn : Nat.blt d a0.tmps.size = true) (hg : o.guard = some (j, b)) (hj : (ops[j]?).bind (·.dst) = some dj)
    (h : ∀ a w, Env a0 D a → (∀ (i : Nat) (S' : TFactL RT2), i ∈ A.getD k [] → (i, S') ∈ done → S'.T a w) → a.eval (.tmp dj) = undef)
    (hr : BuildL P RT2 ops (I1 s H A0 L0 L1) a0 D A G (k + 1) os ((k, detL k d undef) :: done)) : BuildL P RT2 ops (I1 s H A0 L0 L1) a0 D A G k (o :: os) done :=
  .step _ rfl (fun l a w hE hI hl hA hF => .inr ⟨Z23 hg hj (h a w hE hF), hI.keep h1 (Ext.refl w), by rw [hd]; exact Z0j (by rw [hE.size]; exact Nat.le_of_ble_eq_true hn)⟩) hr
theorem Z5l {f : FuncId} {args : Array Value} {d : Tmp} {v : Value} {a : Act} (h1 : Nat.beq k s = false) (hE : Env a0 D a) (hI : I1 s H A0 L0 L1 l w) (hd : o.dst = some d) (hn : Nat.blt d a0.tmps.size = true)
    (hx : (execOp a.eval o).run P w = .ok (.enter f args) w) (hc : Calls P f args w fun e w' => e = .returned v ∧ Ext w w') : YieldsR P (RT2 l) (I1 s H A0 L0 L1 (upd l k)) o ((detL k d v : TFactL RT2).T) a w := by
  unfold YieldsR
  rw [hx]
  refine hc.mono fun e w' ⟨he, hw⟩ => ⟨v, he, trivial, hI.keep h1 hw, ?_⟩
  rw [hd]
  exact Z0j (by rw [hE.size]; exact Nat.le_of_ble_eq_true hn)
theorem Build1.call (d : Tmp) {v : Value} {f : FuncId} {args : Array Value} (h1 : Nat.beq k s = false) (hd : o.dst = some d) (hn : Nat.blt d a0.tmps.size = true) (hg : o.guard = none)
    (h : ∀ a w, Env a0 D a → (OwnT H A0 L0 w ∨ OwnT H A0 L1 w) → (∀ (i : Nat) (S' : TFactL RT2), i ∈ A.getD k [] → (i, S') ∈ done → S'.T a w) → (execOp a.eval o).run P w = .ok (.enter f args) w)
    (hc : ∀ w, (OwnT H A0 L0 w ∨ OwnT H A0 L1 w) → Calls P f args w fun e w' => e = .returned v ∧ Ext w w')
    (hr : BuildL P RT2 ops (I1 s H A0 L0 L1) a0 D A G (k + 1) os ((k, detL k d v) :: done)) : BuildL P RT2 ops (I1 s H A0 L0 L1) a0 D A G k (o :: os) done :=
  .step _ rfl (fun l a w hE hI hl hA hF => .inl ⟨Z0e hg, Z5l h1 hE hI hd hn (h a w hE hI.any hF) (hc w hI.any)⟩) hr
theorem Build1.callg (d : Tmp) {v : Value} {f : FuncId} {args : Array Value} {j dj : Nat} {b : Bool} (h1 : Nat.beq k s = false) (hd : o.dst = some d) (hn : Nat.blt d a0.tmps.size = true) (hg : o.guard = some (j, b)) (hj : (ops[j]?).bind (·.dst) = some dj)
    (h : ∀ a w, Env a0 D a → (OwnT H A0 L0 w ∨ OwnT H A0 L1 w) → (∀ (i : Nat) (S' : TFactL RT2), i ∈ A.getD k [] → (i, S') ∈ done → S'.T a w) → a.eval (.tmp dj) = .bool b ∧ (execOp a.eval o).run P w = .ok (.enter f args) w)
    (hc : ∀ w, (OwnT H A0 L0 w ∨ OwnT H A0 L1 w) → Calls P f args w fun e w' => e = .returned v ∧ Ext w w')
    (hr : BuildL P RT2 ops (I1 s H A0 L0 L1) a0 D A G (k + 1) os ((k, detL k d v) :: done)) : BuildL P RT2 ops (I1 s H A0 L0 L1) a0 D A G k (o :: os) done :=
  .step _ rfl (fun l a w hE hI hl hA hF => .inl ⟨(Z0r hg hj (h a w hE hI.any hF).1).trans (by simp), Z5l h1 hE hI hd hn (h a w hE hI.any hF).2 (hc w hI.any)⟩) hr
theorem Build1.store (hk : k = s) (hd : o.dst = none) (hg : o.guard = none)
    (h : ∀ a w, Env a0 D a → OwnT H A0 L0 w → (∀ (i : Nat) (S' : TFactL RT2), i ∈ A.getD k [] → (i, S') ∈ done → S'.T a w) → ∃ w', (execOp a.eval o).run P w = .ok .skip w' ∧ OwnT H A0 L1 w')
    (hr : BuildL P RT2 ops (I1 s H A0 L0 L1) a0 D A G (k + 1) os ((k, triv2 k) :: done)) : BuildL P RT2 ops (I1 s H A0 L0 L1) a0 D A G k (o :: os) done :=
  .step _ rfl (fun l a w hE hI hl hA hF => by
    subst hk
    rcases hI with ⟨h1, O⟩ | ⟨h1, _⟩
    · obtain ⟨w', hrun, O'⟩ := h a w hE O hF
      refine .inl ⟨Z0e hg, ?_⟩
      unfold YieldsR
      rw [hrun]
      refine ⟨trivial, .inr ⟨?_, O'⟩, trivial⟩
      unfold upd; rw [if_pos rfl]
    · rw [hl] at h1; cases h1) hr
theorem wp_st1 {id : Nat} {l : List Oper} (s : Nat) (A : List (List Nat)) (D : List Tmp) (O : OwnT H A0 L0 w) (hf : P.follows .mixedOrders = true)
    (h : BuildL P RT2 l.toArray (I1 s H A0 L0 L1) a0 D A (FinL P l (I1 s H A0 L0 L1) a0 D A Q) 0 l []) : (Code.region id l.toArray true).wp P Q a0 w :=
  Z3v RT2 (I1 s H A0 L0 L1) A D (fun _ _ => trivial) (.inl ⟨rfl, O.drew⟩) hf h
theorem I1.end_ (h : I1 s H A0 L0 L1 l w) (h2 : l s = true) : OwnT H A0 L1 w := by
  rcases h with ⟨e, _⟩ | ⟨_, O⟩
  · rw [h2] at e; cases e
  · exact O
end

/-- Booleans of pages; nodes of pages. -/
def boV (P : Nat) (K : Int → Bool) : List Value := (List.range P).map fun i => Value.bool (K (i : Nat))
abbrev boA (P : Nat) (K : Int → Bool) : Array Value := (boV P K).toArray
def putB (K : Int → Bool) (j : Int) (b : Bool) : Int → Bool := fun i => if i = j then b else K i
def ndV (P : Nat) (T : Int → Value) : List Value := (List.range P).flatMap fun i => [Value.int .i64 0, T (i : Nat)]
abbrev ndA (P : Nat) (T : Int → Value) : Array Value := (ndV P T).toArray
def putT (T : Int → Value) (j : Int) (v : Value) : Int → Value := fun i => if i = j then v else T i
section
variable {P j : Nat} {K : Int → Bool} {T : Int → Value} {w : World} {g : Nat} {t : TypeId}
theorem Z71 : (boV P K).length = P := by simp [boV]
theorem boV_at (hj : j < P) : (boV P K)[j]? = some (.bool (K (j : Nat))) := by simp [boV, hj]
theorem boV_set (b : Bool) : (boV P K).set j (.bool b) = boV P (putB K (j : Nat) b) := by
  apply List.ext_getElem?
  intro i
  by_cases hi : i < P
  · rw [boV_at hi]
    by_cases e : j = i
    · subst e
      rw [List.getElem?_set_self (by rw [Z71]; exact hi)]
      unfold putB
      rw [if_pos rfl]
    · rw [List.getElem?_set_ne e, boV_at hi]
      unfold putB
      rw [if_neg (by omega)]
  · rw [List.getElem?_eq_none (by rw [List.length_set, Z71]; omega), List.getElem?_eq_none (by rw [Z71]; omega)]
theorem Z2p (b : Bool) : (boA P K).setIfInBounds j (.bool b) = boA P (putB K (j : Nat) b) := by
  show ((boV P K).toArray).setIfInBounds j (.bool b) = (boV P (putB K (j : Nat) b)).toArray
  rw [← boV_set]
  simp
theorem Z0u (h : Blk w g t (boA P K)) (hj : j < P) : w.cell? ⟨g, j, none⟩ = some (.bool (K (j : Nat))) := by
  rw [h.cell, List.getElem?_toArray, boV_at hj]
theorem boV_congr {K' : Int → Bool} (h : ∀ i : Nat, i < P → K (i : Nat) = K' (i : Nat)) : boV P K = boV P K' := by
  unfold boV
  exact List.map_congr_left fun i hi => by rw [h i (List.mem_range.1 hi)]
theorem Z4q : ndV (P + 1) T = ndV P T ++ [Value.int .i64 0, T (P : Nat)] := by
  unfold ndV
  rw [List.range_succ, List.flatMap_append]
  simp
theorem Z43 : ∀ P : Nat, (ndV P T).length = 2 * P
  | 0 => rfl
  | P + 1 => by rw [Z4q, List.length_append, Z43 P]; rfl
theorem Z7n : ∀ {P : Nat}, j < P → (ndV P T)[2 * j]? = some (.int .i64 0) ∧ (ndV P T)[2 * j + 1]? = some (T (j : Nat))
  | P + 1, hj => by
    rw [Z4q]
    by_cases h : j < P
    · have ih := Z7n h
      have hl := Z43 (T := T) P
      rw [List.getElem?_append_left (by omega), List.getElem?_append_left (by omega)]
      exact ih
    · obtain rfl : j = P := by omega
      have hl := Z43 (T := T) j
      rw [List.getElem?_append_right (by omega), List.getElem?_append_right (by omega), hl, Nat.sub_self, show 2 * j + 1 - 2 * j = 1 by omega]
      exact ⟨rfl, rfl⟩
theorem ndV_set (v : Value) : ∀ {P : Nat}, j < P → (ndV P T).set (2 * j + 1) v = ndV P (putT T (j : Nat) v)
  | P + 1, hj => by
    rw [Z4q, Z4q]
    have hl := Z43 (T := T) P
    by_cases h : j < P
    · rw [List.set_append_left _ _ (by omega), ndV_set v h]
      congr 3
      unfold putT
      rw [if_neg (by omega)]
    · obtain rfl : j = P := by omega
      rw [List.set_append_right _ _ (by omega), hl, show 2 * j + 1 - 2 * j = 1 by omega]
      have e1 : ndV j T = ndV j (putT T (j : Nat) v) := by
        unfold ndV
        rw [List.flatMap_def, List.flatMap_def]
        congr 1
        exact List.map_congr_left fun i hi => by
          have := List.mem_range.1 hi
          unfold putT
          rw [if_neg (by omega)]
      rw [← e1]
      unfold putT
      rw [if_pos rfl]
      rfl
theorem nd_cell (h : Blk w g t (ndA P T)) (hj : j < P) : w.cell? ⟨g, 2 * j, none⟩ = some (.int .i64 0) ∧ w.cell? ⟨g, 2 * j + 1, none⟩ = some (T (j : Nat)) := by
  rw [h.cell, h.cell, List.getElem?_toArray, List.getElem?_toArray]
  exact Z7n hj
theorem ndA_set (v : Value) (hj : j < P) : ((ndA P T).setIfInBounds (2 * j) (.int .i64 0)).setIfInBounds (2 * j + 1) v = ndA P (putT T (j : Nat) v) := by
  have h0 : (ndV P T).set (2 * j) (.int .i64 0) = ndV P T := by
    apply List.ext_getElem?
    intro i
    by_cases e : 2 * j = i
    · subst e
      rw [List.getElem?_set_self (by rw [Z43]; omega), (Z7n hj).1]
    · rw [List.getElem?_set_ne e]
  show (((ndV P T).toArray).setIfInBounds (2 * j) (.int .i64 0)).setIfInBounds (2 * j + 1) v = (ndV P (putT T (j : Nat) v)).toArray
  rw [← ndV_set v hj]
  conv => rhs; rw [← h0]
  simp
end
abbrev tyU : TypeId := 62
/-- The reference's store. -/
abbrev usC (P g1 g2 g3 : Nat) (h : Hd) : Array Value := #[.int .i64 P, .slice (some ⟨g1, 0, none⟩) P P, .slice (some ⟨g2, 0, none⟩) P P, .slice (some ⟨g3, 0, none⟩) P P, .int .u64 h.g, .int .i64 h.r, .int .i64 h.a, .int .i64 h.b, .int .i64 h.c]
abbrev usL (ub P g1 g2 g3 : Nat) (h : Hd) (K G : Int → Bool) (T : Int → Value) (R : List Thing) : List Thing :=
  tBlk ub tyU (usC P g1 g2 g3 h) :: tBlk g1 4 (boA P K) :: tBlk g2 4 (boA P G) :: tBlk g3 47 (ndA P T) :: R
abbrev isF (F : Int → Option Nd) : Int → Bool := fun c => (F c).isSome
end Go.Proofs.YtakkhglbdljfiaaGreatDoor
