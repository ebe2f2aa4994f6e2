/- disc's law: the reference's rows, plain; appends in order. -/
import Derived.Test.YtdpohbaeopidmaaKDiscExact16
namespace Go.Proofs.Ytdpohbaeopidmaa
set_option linter.unusedVariables false
set_option linter.unusedSimpArgs false
open Go.RowKit Go.Maps

def boolsV (X : List Bool) : List Value := X.map Value.bool
/-- Which are loose. -/
def isL (n : Nat) (L : Int → Option Sec) : List Bool := (List.range n).map fun (i : Nat) => (L i).isSome
theorem isL_len (n : Nat) (L : Int → Option Sec) : (isL n L).length = n := by simp [isL]
theorem isL_at {n : Nat} {L : Int → Option Sec} {i : Nat} (h : i < n) : (isL n L)[i]? = some (L i).isSome := by simp [isL, h]
theorem isL_none (n : Nat) : isL n (fun _ => none) = List.replicate n false := by
  apply List.ext_getElem?
  intro i
  by_cases h : i < n
  · rw [isL_at h, List.getElem?_replicate, if_pos h]; rfl
  · rw [List.getElem?_eq_none (by rw [isL_len]; omega), List.getElem?_eq_none (by simpa using h)]
theorem set_range {α : Type} (n i : Nat) (f : Nat → α) (v : α) : ((List.range n).map f).set i v = (List.range n).map fun k => if k = i then v else f k := by
  apply List.ext_getElem?
  intro k
  by_cases h : k < n
  · by_cases e : i = k
    · subst e
      rw [List.getElem?_set_self (by simpa using h)]
      simp [h]
    · rw [List.getElem?_set_ne e]
      have e' : ¬ k = i := fun h => e h.symm
      simp [h, e']
  · rw [List.getElem?_eq_none (by simp; omega), List.getElem?_eq_none (by simp; omega)]
theorem map_range_congr {α : Type} {n : Nat} {f g : Nat → α} (h : ∀ k, k < n → f k = g k) : (List.range n).map f = (List.range n).map g :=
  List.map_congr_left fun k hk => h k (by simpa using hk)
theorem list_range {n : Nat} {S : List Sec} (h : S.length = n) : S = (List.range n).map fun k => S.getD k [] := by
  subst h
  apply List.ext_getElem?
  intro k
  by_cases hk : k < S.length
  · simp [hk]
  · rw [List.getElem?_eq_none (by omega), List.getElem?_eq_none (by simp; omega)]
/-! A write. -/
theorem nowL_put {S : List Sec} {L : Int → Option Sec} {i : Nat} {s : Sec} : nowL S (putS L i s) = (nowL S L).set i s := by
  unfold nowL
  rw [set_range]
  refine map_range_congr fun k _ => ?_
  unfold nowAt putS
  by_cases e : k = i
  · subst e; simp
  · have : ¬ ((k : Int) = i) := by omega
    rw [if_neg this, if_neg e]
theorem isL_put {n : Nat} {L : Int → Option Sec} {i : Nat} {s : Sec} : isL n (putS L i s) = (isL n L).set i true := by
  unfold isL
  rw [set_range]
  refine map_range_congr fun k _ => ?_
  unfold putS
  by_cases e : k = i
  · subst e; simp
  · have : ¬ ((k : Int) = i) := by omega
    rw [if_neg this, if_neg e]
/-! A flush under way: the first j are done. -/
def flJ (n j : Nat) (X S : List Sec) : List Sec := (List.range n).map fun k => if k < j then X.getD k [] else S.getD k []
def blJ (n j : Nat) (Y : List Bool) : List Bool := (List.range n).map fun k => if k < j then false else Y.getD k false
theorem flJ_len (n j : Nat) (X S : List Sec) : (flJ n j X S).length = n := by simp [flJ]
theorem blJ_len (n j : Nat) (Y : List Bool) : (blJ n j Y).length = n := by simp [blJ]
theorem flJ_zero {n : Nat} {X S : List Sec} (h : S.length = n) : flJ n 0 X S = S := by
  conv => rhs; rw [list_range h]
  exact map_range_congr fun k _ => if_neg (by omega)
theorem flJ_all {n : Nat} {X S : List Sec} (h : X.length = n) : flJ n n X S = X := by
  conv => rhs; rw [list_range h]
  exact map_range_congr fun k hk => if_pos hk
theorem flJ_set {n j : Nat} {X S : List Sec} {x : Sec} (hx : X[j]? = some x) : (flJ n j X S).set j x = flJ n (j + 1) X S := by
  unfold flJ
  rw [set_range]
  refine map_range_congr fun k _ => ?_
  by_cases e : k = j
  · subst e; simp [List.getD, hx]
  · by_cases h : k < j
    · rw [if_neg e, if_pos h, if_pos (by omega)]
    · rw [if_neg e, if_neg h, if_neg (by omega)]
theorem blJ_zero {n : Nat} {Y : List Bool} (h : Y.length = n) : blJ n 0 Y = Y := by
  subst h
  apply List.ext_getElem?
  intro k
  by_cases hk : k < Y.length
  · simp [blJ, hk]
  · rw [List.getElem?_eq_none (by rw [blJ_len]; omega), List.getElem?_eq_none (by omega)]
theorem blJ_all (n : Nat) (Y : List Bool) : blJ n n Y = List.replicate n false := by
  apply List.ext_getElem?
  intro k
  by_cases h : k < n
  · simp [blJ, h, List.getElem?_replicate]
  · rw [List.getElem?_eq_none (by rw [blJ_len]; omega), List.getElem?_eq_none (by simpa using h)]
theorem blJ_set {n j : Nat} {Y : List Bool} : (blJ n j Y).set j false = blJ n (j + 1) Y := by
  unfold blJ
  rw [set_range]
  refine map_range_congr fun k _ => ?_
  by_cases e : k = j
  · subst e; simp
  · by_cases h : k < j
    · rw [if_neg e, if_pos h, if_pos (by omega)]
    · rw [if_neg e, if_neg h, if_neg (by omega)]
/-! A settling under way. -/
theorem looL_succ (i : Nat) (L : Int → Option Sec) : looL (i + 1) L = looL i L ++ (if (L i).isSome = true then [(i : Int)] else []) := by
  unfold looL riseN
  rw [List.range_succ, List.map_append, List.filter_append]
  congr 1
  simp only [List.map_cons, List.map_nil, List.filter_cons, List.filter_nil]
theorem setK_app (q : List UInt8) (L : Int → Option Sec) (x : Int) : ∀ (xs : List Int) (j : Nat) (S : List Sec), setK q L (xs ++ [x]) j S = if staysB q (j + xs.length) then (setK q L xs j S).set x.toNat ((L x).getD []) else setK q L xs j S
  | [], j, S => rfl
  | y :: r, j, S => by
    rw [List.cons_append, setK, setK_app q L x r (j + 1), setK, List.length_cons, show j + 1 + r.length = j + (r.length + 1) by omega]
theorem setK_out {q : List UInt8} {L : Int → Option Sec} {i : Nat} : ∀ (xs : List Int) (j : Nat) (S : List Sec), (∀ x ∈ xs, 0 ≤ x ∧ x ≠ i) → (setK q L xs j S)[i]? = S[i]?
  | [], _, _, _ => rfl
  | x :: r, j, S, h => by
    have hx := h x (by simp)
    rw [setK, setK_out r (j + 1) _ (fun y hy => h y (by simp [hy]))]
    split
    · rw [List.getElem?_set_ne (by omega)]
    · rfl
theorem looL_lt {i : Nat} {L : Int → Option Sec} {x : Int} (h : x ∈ looL i L) : 0 ≤ x ∧ x < i := (mem_riseN.1 h).1
abbrev seS (q : List UInt8) (L : Int → Option Sec) (S : List Sec) (i : Nat) : List Sec := setK q L (looL i L) 0 S
/-- Now, when i sectors are settled. -/
def seN (q : List UInt8) (L : Int → Option Sec) (S : List Sec) (i : Nat) : List Sec := (List.range S.length).map fun (k : Nat) => if k < i then (seS q L S i).getD k [] else nowAt S L k
theorem seN_len (q : List UInt8) (L : Int → Option Sec) (S : List Sec) (i : Nat) : (seN q L S i).length = S.length := by simp [seN]
theorem seN_zero (q : List UInt8) (L : Int → Option Sec) (S : List Sec) : seN q L S 0 = nowL S L := map_range_congr fun k _ => if_neg (by omega)
theorem seN_all {q : List UInt8} {L : Int → Option Sec} {S : List Sec} {n : Nat} (h : S.length = n) : seN q L S n = seS q L S n := by
  subst h
  show seN q L S S.length = setK q L (looL S.length L) 0 S
  conv => rhs; rw [list_range (setK_len q L (looL S.length L) 0 S)]
  exact map_range_congr fun k hk => if_pos hk
section
variable {q : List UInt8} {L : Int → Option Sec} {S : List Sec} {i : Nat}
theorem seS_at (i : Nat) : (seS q L S i)[i]? = S[i]? := setK_out _ _ _ fun x hx => by have := looL_lt hx; omega
theorem seS_skip (h : L i = none) : seS q L S (i + 1) = seS q L S i := by unfold seS; rw [looL_succ, h]; simp
theorem seS_yes {s : Sec} (h : L i = some s) (hs : staysB q (looL i L).length = true) : seS q L S (i + 1) = (seS q L S i).set i s := by
  unfold seS
  rw [looL_succ, h, show (if (some s).isSome = true then [(i : Int)] else []) = [(i : Int)] from rfl, setK_app, Nat.zero_add, if_pos hs, h]
  rfl
theorem seS_no {s : Sec} (h : L i = some s) (hs : staysB q (looL i L).length = false) : seS q L S (i + 1) = seS q L S i := by
  unfold seS
  rw [looL_succ, h, show (if (some s).isSome = true then [(i : Int)] else []) = [(i : Int)] from rfl, setK_app, Nat.zero_add, hs]
  rfl
theorem seN_skip (hi : i < S.length) (h : L i = none) : seN q L S (i + 1) = seN q L S i := by
  unfold seN
  rw [seS_skip h]
  refine map_range_congr fun k _ => ?_
  by_cases e : k = i
  · subst e
    rw [if_pos (by omega), if_neg (by omega)]
    unfold nowAt
    rw [h]
    simp only [List.getD, seS_at, Option.getD_none, Int.toNat_natCast]
  · by_cases h2 : k < i
    · rw [if_pos h2, if_pos (by omega)]
    · rw [if_neg h2, if_neg (by omega)]
theorem seN_yes (hi : i < S.length) {s : Sec} (h : L i = some s) (hs : staysB q (looL i L).length = true) : seN q L S (i + 1) = seN q L S i := by
  unfold seN
  rw [seS_yes h hs]
  refine map_range_congr fun k _ => ?_
  by_cases e : k = i
  · subst e
    rw [if_pos (by omega), if_neg (by omega)]
    unfold nowAt
    rw [h]
    simp [List.getD, setK_len, hi]
  · by_cases h2 : k < i
    · rw [if_pos h2, if_pos (by omega)]
      simp only [List.getD]
      rw [List.getElem?_set_ne (fun e' => e e'.symm)]
    · rw [if_neg h2, if_neg (by omega)]
theorem seN_no (hi : i < S.length) {s : Sec} (h : L i = some s) (hs : staysB q (looL i L).length = false) : seN q L S (i + 1) = (seN q L S i).set i (S.getD i []) := by
  unfold seN
  rw [seS_no h hs, set_range]
  refine map_range_congr fun k _ => ?_
  by_cases e : k = i
  · subst e
    rw [if_pos (by omega), if_pos rfl]
    simp only [List.getD, seS_at]
  · by_cases h2 : k < i
    · rw [if_pos (by omega), if_neg e, if_pos h2]
    · rw [if_neg (by omega), if_neg e, if_neg h2]
theorem looL_len_yes {s : Sec} (h : L i = some s) : (looL (i + 1) L).length = (looL i L).length + 1 := by rw [looL_succ, h]; simp
theorem looL_len_no (h : L i = none) : (looL (i + 1) L).length = (looL i L).length := by rw [looL_succ, h]; simp
end
/-! An append in order. -/
theorem app_seq {P : Program} {H : Nat} {A w : World} {T t : TypeId} {k n g bytes : Nat} {v : Value} {xs news : List Value} {G : List Thing} (O : OwnT H A (tBlk g T news.toArray :: tRow T k v n xs :: G) w) (E : ElemI P t T k bytes) (hk : 0 < k) (hlen : news.length = k) (h1 : ∀ u ∈ news, u.oneCell' = true) (h63 : n + 1 ≤ maxLen) (hbytes : (n + 1) * bytes ≤ 140737488355328) :
    ∃ gr cap w', (∀ ty, (Builtin.append_ #[t, t] ty #[v, .slice (some ⟨g, 0, none⟩) 1 1]).run P w = .ok (.slice (some ⟨gr, 0, none⟩) (n + 1) cap) w') ∧ OwnT H A (tRow T k (.slice (some ⟨gr, 0, none⟩) (n + 1) cap) (n + 1) (xs ++ news) :: G) w' := by
  obtain ⟨i, z, hi, hz, hs, hby, hzs⟩ := E.info
  obtain ⟨r, w', hrun, h3⟩ := (O.perm (.swap _ _ _)).appendOne (P := P) t i z bytes E.ht hi hz hs hby hzs hk g T news O.b0 hlen h1 h63 hbytes
  obtain ⟨gr, cap, rfl⟩ := OwnT.slice0 h3 (by omega)
  exact ⟨gr, cap, w', hrun, h3.pick01⟩
/-- A cut with both ends. -/
theorem x_cut_both {P : Program} {w : World} {o : Oper} {ρ : Operand → Value} {t : TypeId} {x lo hi : Operand} {l : List UInt8} {k k' : IntKind} {a b : Nat} (hu : P.underlying t = some .string) (ho : o.op = .slice t x (some lo) (some hi) none) (hx : ρ x = .string (sB l)) (hl : ρ lo = .int k (a : Nat)) (hh : ρ hi = .int k' (b : Nat)) (hab : a ≤ b) (hb : b ≤ l.length) : (execOp ρ o).run P w = .ok (.value (.string (sB ((l.take b).drop a)))) w := by
  have hb' : ((b : Int) ≤ (sB l).size) := by rw [sB_size]; omega
  have ha' : ((a : Int) ≤ (b : Int)) := by omega
  unfold execOp
  simp only [ho, Option.map_some, Option.map_none, hx, hl, hh]
  simp [Instr.sliceAt, Instr.slice, Instr.sliceBounds, Instr.sliceBound, run_underlying hu, asIntOf, sB_cut, sB_size]
  rw [if_pos hb, if_pos hab]
theorem secOf_cut (l : List UInt8) (j : Nat) : (l.take (16 * j + 16)).drop (16 * j) = secOf l j := by
  unfold secOf
  rw [List.drop_take]
  congr 1
  omega
end Go.Proofs.Ytdpohbaeopidmaa
