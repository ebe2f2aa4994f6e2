/- disc's law: the reference's rows, plain; appends in order. -/
import Derived.Test.YtdpohbaeopidmaaKChunkExact13
import Derived.Test.YtdpohbaeopidmaaKChunkExact00
import Derived.Laws.IdiomStrings
import Derived.Laws.BytesArg
import Derived.Test.YtdpohbaeopidmaaKChunkExact04
import Derived.Test.YtdpohbaeopidmaaKChunkExact06
import Derived.Laws.OwnMore
namespace Go.Proofs.Ytdpohbaeopidmaa
set_option linter.unusedVariables false
set_option linter.unusedSimpArgs false
open Go.RowKit Go.Maps

def boolsV (X : List Bool) : List Value := X.map Value.bool
/-- Which are loose. -/
def isL (n : Nat) (L : Int → Option Sec) : List Bool := (List.range n).map fun (i : Nat) => (L i).isSome
theorem isL_len (n : Nat) (L : Int → Option Sec) : (isL n L).length = n := by simp [isL]
theorem isL_at {n : Nat} {L : Int → Option Sec} {i : Nat} (h : i < n) : (isL n L)[i]? = some (L i).isSome := by simp [isL, h]
theorem isL_none (n : Nat) : isL n (fun _ => none) = List.replicate n false := by
  apply List.ext_getElem?
  intro i
  by_cases h : i < n
  · rw [isL_at h, List.getElem?_replicate, if_pos h]; rfl
  · rw [List.getElem?_eq_none (by rw [isL_len]; omega), List.getElem?_eq_none (by simpa using h)]
theorem set_range {α : Type} (n i : Nat) (f : Nat → α) (v : α) : ((List.range n).map f).set i v = (List.range n).map fun k => if k = i then v else f k := by
  apply List.ext_getElem?
  intro k
  by_cases h : k < n
  · by_cases e : i = k
    · subst e
      rw [List.getElem?_set_self (by simpa using h)]
      simp [h]
    · rw [List.getElem?_set_ne e]
      have e' : ¬ k = i := fun h => e h.symm
      simp [h, e']
  · rw [List.getElem?_eq_none (by simp; omega), List.getElem?_eq_none (by simp; omega)]
theorem map_range_congr {α : Type} {n : Nat} {f g : Nat → α} (h : ∀ k, k < n → f k = g k) : (List.range n).map f = (List.range n).map g :=
  List.map_congr_left fun k hk => h k (by simpa using hk)
theorem list_range {n : Nat} {S : List Sec} (h : S.length = n) : S = (List.range n).map fun k => S.getD k [] := by
  subst h
  apply List.ext_getElem?
  intro k
  by_cases hk : k < S.length
  · simp [hk]
  · rw [List.getElem?_eq_none (by omega), List.getElem?_eq_none (by simp; omega)]
/-! A write. -/
theorem nowL_put {S : List Sec} {L : Int → Option Sec} {i : Nat} {s : Sec} : nowL S (putS L i s) = (nowL S L).set i s := by
  unfold nowL
  rw [set_range]
  refine map_range_congr fun k _ => ?_
  unfold nowAt putS
  by_cases e : k = i
  · subst e; simp
  · have : ¬ ((k : Int) = i) := by omega
    rw [if_neg this, if_neg e]
theorem isL_put {n : Nat} {L : Int → Option Sec} {i : Nat} {s : Sec} : isL n (putS L i s) = (isL n L).set i true := by
  unfold isL
  rw [set_range]
  refine map_range_congr fun k _ => ?_
  unfold putS
  by_cases e : k = i
  · subst e; simp
  · have : ¬ ((k : Int) = i) := by omega
    rw [if_neg this, if_neg e]
/-! A flush under way: the first j are done. -/
def flJ (n j : Nat) (X S : List Sec) : List Sec := (List.range n).map fun k => if k < j then X.getD k [] else S.getD k []
def blJ (n j : Nat) (Y : List Bool) : List Bool := (List.range n).map fun k => if k < j then false else Y.getD k false
theorem flJ_len (n j : Nat) (X S : List Sec) : (flJ n j X S).length = n := by simp [flJ]
theorem blJ_len (n j : Nat) (Y : List Bool) : (blJ n j Y).length = n := by simp [blJ]
theorem flJ_zero {n : Nat} {X S : List Sec} (h : S.length = n) : flJ n 0 X S = S := by
  conv => rhs; rw [list_range h]
  exact map_range_congr fun k _ => if_neg (by omega)
theorem flJ_all {n : Nat} {X S : List Sec} (h : X.length = n) : flJ n n X S = X := by
  conv => rhs; rw [list_range h]
  exact map_range_congr fun k hk => if_pos hk
theorem flJ_set {n j : Nat} {X S : List Sec} {x : Sec} (hx : X[j]? = some x) : (flJ n j X S).set j x = flJ n (j + 1) X S := by
  unfold flJ
  rw [set_range]
  refine map_range_congr fun k _ => ?_
  by_cases e : k = j
  · subst e; simp [List.getD, hx]
  · by_cases h : k < j
    · rw [if_neg e, if_pos h, if_pos (by omega)]
    · rw [if_neg e, if_neg h, if_neg (by omega)]
theorem blJ_zero {n : Nat} {Y : List Bool} (h : Y.length = n) : blJ n 0 Y = Y := by
  subst h
  apply List.ext_getElem?
  intro k
  by_cases hk : k < Y.length
  · simp [blJ, hk]
  · rw [List.getElem?_eq_none (by rw [blJ_len]; omega), List.getElem?_eq_none (by omega)]
theorem blJ_all (n : Nat) (Y : List Bool) : blJ n n Y = List.replicate n false := by
  apply List.ext_getElem?
  intro k
  by_cases h : k < n
  · simp [blJ, h, List.getElem?_replicate]
  · rw [List.getElem?_eq_none (by rw [blJ_len]; omega), List.getElem?_eq_none (by simpa using h)]
theorem blJ_set {n j : Nat} {Y : List Bool} : (blJ n j Y).set j false = blJ n (j + 1) Y := by
  unfold blJ
  rw [set_range]
  refine map_range_congr fun k _ => ?_
  by_cases e : k = j
  · subst e; simp
  · by_cases h : k < j
    · rw [if_neg e, if_pos h, if_pos (by omega)]
    · rw [if_neg e, if_neg h, if_neg (by omega)]
/-! A settling under way. -/
theorem looL_succ (i : Nat) (L : Int → Option Sec) : looL (i + 1) L = looL i L ++ (if (L i).isSome = true then [(i : Int)] else []) := by
  unfold looL riseN
  rw [List.range_succ, List.map_append, List.filter_append]
  congr 1
  simp only [List.map_cons, List.map_nil, List.filter_cons, List.filter_nil]
theorem setK_app (q : List UInt8) (L : Int → Option Sec) (x : Int) : ∀ (xs : List Int) (j : Nat) (S : List Sec), setK q L (xs ++ [x]) j S = if staysB q (j + xs.length) then (setK q L xs j S).set x.toNat ((L x).getD []) else setK q L xs j S
  | [], j, S => rfl
  | y :: r, j, S => by
    rw [List.cons_append, setK, setK_app q L x r (j + 1), setK, List.length_cons, show j + 1 + r.length = j + (r.length + 1) by omega]
theorem setK_out {q : List UInt8} {L : Int → Option Sec} {i : Nat} : ∀ (xs : List Int) (j : Nat) (S : List Sec), (∀ x ∈ xs, 0 ≤ x ∧ x ≠ i) → (setK q L xs j S)[i]? = S[i]?
  | [], _, _, _ => rfl
  | x :: r, j, S, h => by
    have hx := h x (by simp)
    rw [setK, setK_out r (j + 1) _ (fun y hy => h y (by simp [hy]))]
    split
    · rw [List.getElem?_set_ne (by omega)]
    · rfl
theorem looL_lt {i : Nat} {L : Int → Option Sec} {x : Int} (h : x ∈ looL i L) : 0 ≤ x ∧ x < i := (mem_riseN.1 h).1
abbrev seS (q : List UInt8) (L : Int → Option Sec) (S : List Sec) (i : Nat) : List Sec := setK q L (looL i L) 0 S
/-- Now, when i sectors are settled. -/
def seN (q : List UInt8) (L : Int → Option Sec) (S : List Sec) (i : Nat) : List Sec := (List.range S.length).map fun (k : Nat) => if k < i then (seS q L S i).getD k [] else nowAt S L k
theorem seN_len (q : List UInt8) (L : Int → Option Sec) (S : List Sec) (i : Nat) : (seN q L S i).length = S.length := by simp [seN]
theorem seN_zero (q : List UInt8) (L : Int → Option Sec) (S : List Sec) : seN q L S 0 = nowL S L := map_range_congr fun k _ => if_neg (by omega)
theorem seN_all {q : List UInt8} {L : Int → Option Sec} {S : List Sec} {n : Nat} (h : S.length = n) : seN q L S n = seS q L S n := by
  subst h
  show seN q L S S.length = setK q L (looL S.length L) 0 S
  conv => rhs; rw [list_range (setK_len q L (looL S.length L) 0 S)]
  exact map_range_congr fun k hk => if_pos hk
section
variable {q : List UInt8} {L : Int → Option Sec} {S : List Sec} {i : Nat}
theorem seS_at (i : Nat) : (seS q L S i)[i]? = S[i]? := setK_out _ _ _ fun x hx => by have := looL_lt hx; omega
theorem seS_skip (h : L i = none) : seS q L S (i + 1) = seS q L S i := by unfold seS; rw [looL_succ, h]; simp
theorem seS_yes {s : Sec} (h : L i = some s) (hs : staysB q (looL i L).length = true) : seS q L S (i + 1) = (seS q L S i).set i s := by
  unfold seS
  rw [looL_succ, h, show (if (some s).isSome = true then [(i : Int)] else []) = [(i : Int)] from rfl, setK_app, Nat.zero_add, if_pos hs, h]
  rfl
theorem seS_no {s : Sec} (h : L i = some s) (hs : staysB q (looL i L).length = false) : seS q L S (i + 1) = seS q L S i := by
  unfold seS
  rw [looL_succ, h, show (if (some s).isSome = true then [(i : Int)] else []) = [(i : Int)] from rfl, setK_app, Nat.zero_add, hs]
  rfl
theorem seN_skip (hi : i < S.length) (h : L i = none) : seN q L S (i + 1) = seN q L S i := by
  unfold seN
  rw [seS_skip h]
  refine map_range_congr fun k _ => ?_
  by_cases e : k = i
  · subst e
    rw [if_pos (by omega), if_neg (by omega)]
    unfold nowAt
    rw [h]
    simp only [List.getD, seS_at, Option.getD_none, Int.toNat_natCast]
  · by_cases h2 : k < i
    · rw [if_pos h2, if_pos (by omega)]
    · rw [if_neg h2, if_neg (by omega)]
theorem seN_yes (hi : i < S.length) {s : Sec} (h : L i = some s) (hs : staysB q (looL i L).length = true) : seN q L S (i + 1) = seN q L S i := by
  unfold seN
  rw [seS_yes h hs]
  refine map_range_congr fun k _ => ?_
  by_cases e : k = i
  · subst e
    rw [if_pos (by omega), if_neg (by omega)]
    unfold nowAt
    rw [h]
    simp [List.getD, setK_len, hi]
  · by_cases h2 : k < i
    · rw [if_pos h2, if_pos (by omega)]
      simp only [List.getD]
      rw [List.getElem?_set_ne (fun e' => e e'.symm)]
    · rw [if_neg h2, if_neg (by omega)]
theorem seN_no (hi : i < S.length) {s : Sec} (h : L i = some s) (hs : staysB q (looL i L).length = false) : seN q L S (i + 1) = (seN q L S i).set i (S.getD i []) := by
  unfold seN
  rw [seS_no h hs, set_range]
  refine map_range_congr fun k _ => ?_
  by_cases e : k = i
  · subst e
    rw [if_pos (by omega), if_pos rfl]
    simp only [List.getD, seS_at]
  · by_cases h2 : k < i
    · rw [if_pos (by omega), if_neg e, if_pos h2]
    · rw [if_neg (by omega), if_neg e, if_neg h2]
theorem looL_len_yes {s : Sec} (h : L i = some s) : (looL (i + 1) L).length = (looL i L).length + 1 := by rw [looL_succ, h]; simp
theorem looL_len_no (h : L i = none) : (looL (i + 1) L).length = (looL i L).length := by rw [looL_succ, h]; simp
end
/-! An append in order. -/
theorem app_seq {P : Program} {H : Nat} {A w : World} {T t : TypeId} {k n g bytes : Nat} {v : Value} {xs news : List Value} {G : List Thing} (O : OwnT H A (tBlk g T news.toArray :: tRow T k v n xs :: G) w) (E : ElemI P t T k bytes) (hk : 0 < k) (hlen : news.length = k) (h1 : ∀ u ∈ news, u.oneCell' = true) (h63 : n + 1 ≤ maxLen) (hbytes : (n + 1) * bytes ≤ 140737488355328) :
    ∃ gr cap w', (∀ ty, (Builtin.append_ #[t, t] ty #[v, .slice (some ⟨g, 0, none⟩) 1 1]).run P w = .ok (.slice (some ⟨gr, 0, none⟩) (n + 1) cap) w') ∧ OwnT H A (tRow T k (.slice (some ⟨gr, 0, none⟩) (n + 1) cap) (n + 1) (xs ++ news) :: G) w' := by
  obtain ⟨i, z, hi, hz, hs, hby, hzs⟩ := E.info
  obtain ⟨r, w', hrun, h3⟩ := (O.perm (.swap _ _ _)).appendOne (P := P) t i z bytes E.ht hi hz hs hby hzs hk g T news O.b0 hlen h1 h63 hbytes
  obtain ⟨gr, cap, rfl⟩ := OwnT.slice0 h3 (by omega)
  exact ⟨gr, cap, w', hrun, h3.pick01⟩
/-- A cut with both ends. -/
theorem x_cut_both {P : Program} {w : World} {o : Oper} {ρ : Operand → Value} {t : TypeId} {x lo hi : Operand} {l : List UInt8} {k k' : IntKind} {a b : Nat} (hu : P.underlying t = some .string) (ho : o.op = .slice t x (some lo) (some hi) none) (hx : ρ x = .string (sB l)) (hl : ρ lo = .int k (a : Nat)) (hh : ρ hi = .int k' (b : Nat)) (hab : a ≤ b) (hb : b ≤ l.length) : (execOp ρ o).run P w = .ok (.value (.string (sB ((l.take b).drop a)))) w := by
  have hb' : ((b : Int) ≤ (sB l).size) := by rw [sB_size]; omega
  have ha' : ((a : Int) ≤ (b : Int)) := by omega
  unfold execOp
  simp only [ho, Option.map_some, Option.map_none, hx, hl, hh]
  simp [Instr.sliceAt, Instr.slice, Instr.sliceBounds, Instr.sliceBound, run_underlying hu, asIntOf, sB_cut, sB_size]
  rw [if_pos hb, if_pos hab]
theorem secOf_cut (l : List UInt8) (j : Nat) : (l.take (16 * j + 16)).drop (16 * j) = secOf l j := by
  unfold secOf
  rw [List.drop_take]
  congr 1
  omega
end Go.Proofs.Ytdpohbaeopidmaa

/- disc's law: the reference's Text (printed by XRefT.gen.py). -/
namespace Go.Proofs.Ytdpohbaeopidmaa
attribute [local simp] BigFrame.eval_const BigFrame.eval_global BigFrame.eval_func
set_option linter.unusedVariables false
set_option linter.unusedSimpArgs false
open Go.RowKit Go.Maps

theorem elemB : ElemI Try.prog 78 4 1 1 := ⟨Try.underlying78, by
  have h : (Try.prog.info? 4).map (fun i => (i.zero, i.size, i.bytes)) = some (some (.bool false), 1, 1) := by kernel_rfl
  obtain ⟨i, h1, h2, h3, h4⟩ := info_parts h
  exact ⟨i, _, h1, h2, h3, h4, rfl⟩⟩
theorem elemI : ElemI Try.prog 49 3 1 8 := ⟨Try.underlying49, by
  have h : (Try.prog.info? 3).map (fun i => (i.zero, i.size, i.bytes)) = some (some (.int .i64 0), 1, 8) := by kernel_rfl
  obtain ⟨i, h1, h2, h3, h4⟩ := info_parts h
  exact ⟨i, _, h1, h2, h3, h4, rfl⟩⟩
/-- Strings in a row, somewhere. -/
def Strs (w : World) (A : Option Addr) (xs : List Sec) : Prop := ∀ i s, xs[i]? = some s → ∃ b o, A = some ⟨b, o, none⟩ ∧ w.cell? ⟨b, o + i, none⟩ = some (.string (sB s))
theorem strs_row {w : World} {B : Option Addr} {n cap : Nat} {xs : List Sec} (h : w.ownsRow 0 9 1 (.slice B n cap) n (strsV xs)) : Strs w B xs := by
  intro i s hi
  have hil : i < xs.length := (List.getElem?_eq_some_iff.1 hi).1
  have hl := h.1
  simp only [strsV, List.length_map] at hl
  obtain ⟨g, c, e, _⟩ := row1_some h (by omega)
  injection e with e1 _ e3
  subst e1 e3
  refine ⟨g, 0, rfl, ?_⟩
  rw [Nat.zero_add]
  exact (row1_cell h (i := i) (v := .string (sB s)) (by simp [strsV, hi])).1
theorem flat_take_succ {xs : List Sec} {j : Nat} {s : Sec} (h : xs[j]? = some s) : (xs.take j).flatten ++ s = (xs.take (j + 1)).flatten := by
  rw [List.take_add_one, h]; simp
theorem flat_take_le {xs : List Sec} (h : ∀ s ∈ xs, s.length = 16) (j : Nat) : (xs.take j).flatten.length ≤ 16 * j := by
  rw [flat16 (fun s hs => h s (List.mem_of_mem_take hs)), List.length_take]
  omega

set_option maxRecDepth 100000 in
set_option maxHeartbeats 4000000 in
theorem text4_any (A : Option Addr) (cap : Nat) (xs : List Sec) (w : World) (h : Strs w A xs) (hs : ∀ s ∈ xs, s.length = 16) (hn : xs.length ≤ 1000000) : Calls Try.prog 47 #[.slice A xs.length cap] w fun e w' => e = .returned (.string (sB xs.flatten)) ∧ w = w' := by
  obtain ⟨n, hl⟩ : ∃ n, xs.length = n := ⟨_, rfl⟩
  rw [hl]
  refine calls_F Try.func47 rfl 18 rfl (by rfl) ?_
  intro a1 k hargs
  have e0 : a1.eval (.tmp 0) = .slice A n cap := hargs 0 _ rfl
  clear hargs
  refine wp_seq ?_
  refine wp_region_lit ?_
  have hE := Env.refl a1 [2]
  apply sq_det 2 hE k rfl (by rfl) (by rfl) rfl
  case h =>
    exact x_assign rfl rfl
  intro a2 hE e2 kp
  refine wpList_nil ?_
  replace e0 := hE.eval 0 (by rfl) e0
  replace k := k.env hE
  clear hE e2
  refine then_n ?_
  refine wp_seq ?_
  refine wp_region_lit ?_
  have hE := Env.refl a2 [3]
  apply sq_det 3 hE k rfl (by rfl) (by rfl) rfl
  case h =>
    exact x_assign rfl rfl
  intro a3 hE e3 kp
  refine wpList_nil ?_
  replace e0 := hE.eval 0 (by rfl) e0
  replace k := k.env hE
  clear hE
  refine then_n ?_
  refine wp_seq ?_
  refine wp_seq ?_
  refine wp_region_lit ?_
  have hE := Env.refl a3 [4]
  apply sq_det 4 hE k rfl (by rfl) (by rfl) rfl
  case h =>
    exact x_assign rfl rfl
  intro a4 hE e4 kp
  refine wpList_nil ?_
  replace e0 := hE.eval 0 (by rfl) e0
  replace e3 := hE.eval 3 (by rfl) e3
  replace k := k.env hE
  clear hE
  refine then_n ?_
  refine wp_block ?_
  obtain ⟨w_, hw_⟩ : ∃ w_, w = w_ := ⟨_, rfl⟩
  rw [hw_] at h ⊢
  refine wp_loop (fun a w => Fr 18 a ∧ a.eval (.tmp 0) = .slice A n cap ∧ ∃ j : Nat, a.eval (.tmp 3) = .string (sB ((xs.take j).flatten)) ∧ a.eval (.tmp 4) = .int .i64 ↑j ∧ j ≤ n ∧ w = w_) (fun a w => n - (intOf (a.eval (.tmp 4))).toNat) ?_ ?_
  · exact ⟨k, e0, 0, e3, e4, Nat.zero_le _, rfl⟩
  intro a5 w6 hI
  clear k e0
  obtain ⟨k, e0, h_⟩ := hI
  clear e3 e4
  obtain ⟨j, e3, e4, hj, rfl⟩ := h_
  have mj := e4
  refine wp_seq ?_
  refine wp_seq ?_
  refine wp_region_lit ?_
  have hE := Env.refl a5 [5, 6, 7, 8]
  apply sq_det 5 hE k rfl (by rfl) (by rfl) rfl
  case h =>
    exact x_move rfl (hE.eval 4 (by rfl) e4)
  intro a7 hE e5 kp
  apply sq_det 6 hE k rfl (by rfl) (by rfl) rfl
  case h =>
    exact x_move rfl (hE.eval 0 (by rfl) e0)
  intro a8 hE e6 kp
  replace e5 := (kp 5 rfl).trans e5
  apply sq_det 7 hE k rfl (by rfl) (by rfl) rfl
  case h =>
    exact x_len Try.underlying77 rfl e6
  intro a9 hE e7 kp
  replace e5 := (kp 5 rfl).trans e5
  apply sq_det 8 hE k rfl (by rfl) (by rfl) rfl
  case h =>
    exact x_lss rfl e5 e7
  intro a10 hE e8 kp
  refine wpList_nil ?_
  replace e0 := hE.eval 0 (by rfl) e0
  replace e3 := hE.eval 3 (by rfl) e3
  replace e4 := hE.eval 4 (by rfl) e4
  replace k := k.env hE
  clear hE
  refine then_n ?_
  by_cases hlt : j < n
  · have hltI : (j : Int) < (n : Int) := by omega
    refine cond_t e8 (congrArg Value.bool (decide_eq_true (by omega))) ?_
    clear e8
    obtain ⟨s, hx⟩ : ∃ s, xs[j]? = some s := ⟨_, List.getElem?_eq_getElem (by omega)⟩
    obtain ⟨b, o, rfl, cx⟩ := h j s hx
    have hs16 := hs s (List.mem_of_getElem? hx)
    have hft := flat_take_le hs j
    refine wp_skip ?_
    refine then_n ?_
    refine wp_seq ?_
    refine wp_block ?_
    refine wp_region_lit ?_
    have hE := Env.refl a10 [11, 12, 13, 14, 15, 16, 3]
    apply sq_det 11 hE k rfl (by rfl) (by rfl) rfl
    case h =>
      exact x_move rfl e3
    intro a11 hE e11 kp
    replace e3 := (kp 3 rfl).trans e3
    apply sq_det 12 hE k rfl (by rfl) (by rfl) rfl
    case h =>
      exact x_move rfl (hE.eval 0 (by rfl) e0)
    intro a12 hE e12 kp
    replace e3 := (kp 3 rfl).trans e3
    replace e11 := (kp 11 rfl).trans e11
    apply sq_det 13 hE k rfl (by rfl) (by rfl) rfl
    case h =>
      exact x_move rfl (hE.eval 4 (by rfl) e4)
    intro a13 hE e13 kp
    replace e3 := (kp 3 rfl).trans e3
    replace e11 := (kp 11 rfl).trans e11
    replace e12 := (kp 12 rfl).trans e12
    apply sq_det 14 hE k rfl (by rfl) (by rfl) rfl
    case h =>
      simp [go_sem, ↓IntWalk.iteOmega, ev e12, ev e13]
      with_reducible rfl
    intro a14 hE e14 kp
    replace e3 := (kp 3 rfl).trans e3
    replace e11 := (kp 11 rfl).trans e11
    apply sq_det 15 hE k rfl (by rfl) (by rfl) rfl
    case h =>
      simp [go_sem, ↓IntWalk.iteOmega, ev e14, cx]
      with_reducible rfl
    intro a15 hE e15 kp
    replace e3 := (kp 3 rfl).trans e3
    replace e11 := (kp 11 rfl).trans e11
    apply sq_det 16 hE k rfl (by rfl) (by rfl) rfl
    case h =>
      exact x_cat (l := (xs.take j).flatten) (m := s) rfl e11 e15 (by omega)
    intro a16 hE e16 kp
    replace e3 := (kp 3 rfl).trans e3
    apply sq_det 3 hE k rfl (by rfl) (by rfl) rfl
    case h =>
      exact x_assign rfl e16
    intro a17 hE e3 kp
    refine wpList_nil ?_
    replace e0 := hE.eval 0 (by rfl) e0
    replace e4 := hE.eval 4 (by rfl) e4
    replace k := k.env hE
    clear hE
    refine block_n ?_
    refine then_n ?_
    refine wp_region_lit ?_
    have hE := Env.refl a17 [9, 10, 4]
    apply sq_det 9 hE k rfl (by rfl) (by rfl) rfl
    case h =>
      exact x_move rfl e4
    intro a18 hE e9 kp
    replace e4 := (kp 4 rfl).trans e4
    apply sq_det 10 hE k rfl (by rfl) (by rfl) rfl
    case h =>
      exact x_add rfl e9 rfl (by omega)
    intro a19 hE e10 kp
    replace e4 := (kp 4 rfl).trans e4
    apply sq_det 4 hE k rfl (by rfl) (by rfl) rfl
    case h =>
      exact x_assign rfl e10
    intro a20 hE e4 kp
    refine wpList_nil ?_
    replace e0 := hE.eval 0 (by rfl) e0
    replace e3 := hE.eval 3 (by rfl) e3
    replace k := k.env hE
    clear hE
    refine then_n ?_
    rw [flat_take_succ hx] at e3
    refine ⟨⟨k, e0, j + 1, e3, e4, by omega, rfl⟩, ?_⟩
    rw [e4, mj]; simp only [intOf]; omega
  · have hltI : ¬ (j : Int) < (n : Int) := by omega
    refine cond_f e8 (congrArg Value.bool (decide_eq_false (by omega))) ?_
    clear e0 e4 e8
    refine wp_exit ?_
    refine then_x ?_
    refine then_x ?_
    refine block_x ?_
    refine then_n ?_
    refine wp_seq ?_
    refine wp_region_lit ?_
    have hE := Env.refl a10 [17, 2]
    apply sq_det 17 hE k rfl (by rfl) (by rfl) rfl
    case h =>
      exact x_move rfl (hE.eval 3 (by rfl) e3)
    intro a21 hE e17 kp
    apply sq_det 2 hE k rfl (by rfl) (by rfl) rfl
    case h =>
      exact x_assign rfl e17
    intro a22 hE e2 kp
    refine wpList_nil ?_
    replace k := k.env hE
    clear hE e3
    refine then_n ?_
    refine wp_ret ?_
    refine ret_F1 rfl k e2 ?_
    exact ⟨by rw [List.take_of_length_le (by omega)], rfl⟩
end Go.Proofs.Ytdpohbaeopidmaa

/- Numbers turned (int, uint, byte), a use without power. -/
namespace Go.Proofs.Ytdpohbaeopidmaa
set_option linter.unusedVariables false
set_option linter.unusedSimpArgs false
open Go.RowKit Go.Maps

theorem cellB {W0 w : World} (hb : Below W0.heap.size W0 w) {b o : Nat} {v : Value} (h : W0.cell? ⟨b, o, none⟩ = some v) : w.cell? ⟨b, o, none⟩ = some v := by
  have hlt : b < W0.heap.size := by
    rcases Nat.lt_or_ge b W0.heap.size with h1 | h1
    · exact h1
    · simp [World.cell?, Array.getElem?_eq_none h1] at h
  rw [← h]
  exact hb.cell (p := ⟨b, o, none⟩) hlt
section
variable {H : Nat} {A w : World} {L : List Thing}
theorem OwnT.asRow0 {g k : Nat} {T : TypeId} (h : OwnT H A (tBlk g T #[] :: L) w) : OwnT H A (tRow T k (.slice (some ⟨g, 0, none⟩) 0 0) 0 [] :: L) w :=
  h.call (F := []) (Chg.refl [] w) (by simp) (tRow T k (.slice (some ⟨g, 0, none⟩) 0 0) 0 []) (row_of h.b0 (Nat.le_refl _) (by decide) (by simp) (by simp)) (fun i hi => .inl (by simpa [tRow, tBlk, Value.ownBlock] using hi))
end
/-- 'uint(N)'. -/
def uN (N : Int) : Nat := (IntKind.u64.wrap N).toNat
theorem conv_uint (N : Int) (w : World) : (convert 3 86 (.int .i64 N)).run Try.prog w = .ok (.int .u64 ((uN N : Nat) : Int)) w := by
  have h : ((uN N : Nat) : Int) = IntKind.u64.wrap N := by
    unfold uN
    have : 0 ≤ IntKind.u64.wrap N := by
      show 0 ≤ N % 18446744073709551616
      omega
    omega
  rw [h]
  simp [convert, run_underlying Try.underlying3, run_underlying Try.underlying86, Conv.intToInt]
theorem conv_int (m : Nat) (w : World) (h : m ≤ 1000000) : (convert 86 3 (.int .u64 ((m : Nat) : Int))).run Try.prog w = .ok (.int .i64 ((m : Nat) : Int)) w := by
  simp [convert, run_underlying Try.underlying3, run_underlying Try.underlying86, Conv.intToInt, IntWalk.i64_in _ (show -9223372036854775808 ≤ (m : Int) ∧ (m : Int) ≤ 9223372036854775807 by omega)]
theorem conv_u8 (m : Nat) (w : World) (h : m ≤ 255) : (convert 3 5 (.int .i64 ((m : Nat) : Int))).run Try.prog w = .ok (.int .u8 ((m : Nat) : Int)) w := by
  have e : IntKind.u8.wrap (m : Int) = m := by
    show (m : Int) % 256 = m
    omega
  simp [convert, run_underlying Try.underlying3, run_underlying Try.underlying5, Conv.intToInt, e]
section
variable {w : World} {o : Oper} {ρ : Operand → Value} {t u : TypeId} {x y : Operand}
theorem x_remU {m j : Nat} {k : Int} (ho : o.op = .binOp .rem t x y u) (hx : ρ x = .int .u64 (m : Nat)) (hy : ρ y = .int .u64 k) (hk : k = (j : Nat)) (hj : 0 < j) : (execOp ρ o).run Try.prog w = .ok (.value (.int .u64 ((m % j : Nat) : Int))) w := by
  subst hk
  refine x_bin ho hx hy ?_
  have h0 : ¬ ((j : Int) = 0) := by omega
  have h2 : (m : Int).tmod (j : Int) = ((m % j : Nat) : Int) := rfl
  simp only [binOp, Op.intDiv, if_neg h0, h2]
  rfl
theorem x_add8 {b : UInt8} {i : Nat} (ho : o.op = .binOp .add t x y u) (hx : ρ x = .int .u8 (b.toNat : Int)) (hy : ρ y = .int .u8 (i : Nat)) (hi : i ≤ 255) : (execOp ρ o).run Try.prog w = .ok (.value (.int .u8 ((b + UInt8.ofNat i).toNat : Int))) w := by
  have e : IntKind.u8.wrap ((b.toNat : Int) + (i : Int)) = ((b + UInt8.ofNat i).toNat : Int) := by
    rw [UInt8.toNat_add, UInt8.toNat_ofNat']
    show ((b.toNat : Int) + (i : Int)) % 256 = _
    omega
  refine x_bin ho hx hy ?_
  rw [← e]
  simp [binOp, Op.intArith]
end
section
variable {M : Mn}
theorem use_dn (h : M.up = false) : M.use.uses = M.uses ∧ M.use.away = true := by
  unfold Mn.use
  rw [h]
  exact ⟨rfl, rfl⟩
end
end Go.Proofs.Ytdpohbaeopidmaa

/- '[]byte(s)' and 'string(b)': what the walk needs of them. -/
namespace Go.Proofs.Ytdpohbaeopidmaa
set_option linter.unusedVariables false
set_option linter.unusedSimpArgs false
open Go.RowKit

/-- '[]byte(s)': a new block of the bytes. -/
theorem conv_bytes (s : ByteArray) (w : World) (hs : s.size ≤ maxLen) : ∃ (C : Array Value) (c : Nat) (fz : Nat × Nat),
    (convert 9 66 (.string s)).run Try.prog w = .ok (.slice (some ⟨w.heap.size, 0, none⟩) s.size c) (w.drew.alloc (.cells C 5 fz)) ∧
    (∀ i, C[i]? = if i < s.size then some (.int .u8 ((s.data.toList.getD i 0).toNat : Int)) else if i < c then some (.int .u8 0) else none) ∧ s.size ≤ c ∧ c ≤ maxLen ∧ C.size = c ∧ fz = (c, c + 1) := by
  have hge := grownCap_ge w s.size 0 5
  have hle := grownCap_le_maxLen w s.size 0 5 hs
  have hsz : (bytesRow s (grownCap w s.size 0 5)).size = grownCap w s.size 0 5 := by
    simp only [bytesRow, Array.size_append, Array.size_map, Array.size_replicate]
    have : s.data.size = s.size := rfl
    omega
  refine ⟨_, _, _, run_bytes_of_string w 9 66 5 s Try.underlying9 Try.underlying66 Try.underlying5, fun i => ?_, hge, hle, hsz, by rw [hsz]⟩
  have hd : s.data.size = s.size := rfl
  by_cases hi : i < s.size
  · rw [if_pos hi, bytesRow_at s _ i (by omega)]
    congr 3
    simp [List.getD, Array.getElem?_toList, hd, hi]
  · rw [if_neg hi]
    by_cases hc : i < grownCap w s.size 0 5
    · rw [if_pos hc]
      simp only [bytesRow]
      rw [Array.getElem?_append_right (by simp only [Array.size_map]; omega), Array.getElem?_replicate, if_pos (by simp only [Array.size_map]; omega)]
    · rw [if_neg hc]
      exact Array.getElem?_eq_none (by omega)

/-- 'string(b)': of a row whose cells are the bytes l. -/
theorem conv_string (w : World) (g off cap : Nat) (l : List UInt8) (n : Nat) (hn : l.length = n) (h : ∀ i, i < n → w.cell? ⟨g, off + i, none⟩ = some (.int .u8 ((l.getD i 0).toNat : Int))) :
    (convert 66 9 (.slice (some ⟨g, off, none⟩) n cap)).run Try.prog w = .ok (.string ⟨l.toArray⟩) w := by
  have hr := run_convert_bytes_arg (P := Try.prog) w 66 5 Try.underlying66 Try.underlying5 g off n cap (l.map fun b => (b.toNat : Int)) (by simpa using hn) (fun i hi => by
    have hil : i < l.length := by omega
    rw [h i hi]
    simp [List.getD, hil]) 9 Try.underlying9
  have hst : strOfNums (l.map fun b => (b.toNat : Int)) = ⟨l.toArray⟩ := by
    simp [strOfNums, List.map_map, Function.comp_def]
  rw [hr, hst]
end Go.Proofs.Ytdpohbaeopidmaa

/- Rows of bytes of one's own: made, filled, turned into strings. No function of the program in sight. -/
namespace Go.Proofs.Ytdpohbaeopidmaa
set_option linter.unusedVariables false
set_option linter.unusedSimpArgs false
open Go.RowKit

def u8V (b : UInt8) : Value := .int .u8 (b.toNat : Int)
theorem info_u8 : ∃ i : TypeInfo, Try.prog.info? 5 = some i ∧ i.zero = some (.int .u8 0) ∧ i.size = 1 ∧ i.bytes = 1 := by
  have h : (Try.prog.info? 5).map (fun i => (i.zero, i.size, i.bytes)) = some (some (.int .u8 0), 1, 1) := by kernel_rfl
  exact info_parts h
theorem mk_bytes (w : World) (n : Nat) (hn : n ≤ 10000000) : ∃ g w', (Instr.makeSlice 66 (.int .i64 n) (.int .i64 n)).run Try.prog w = .ok (.slice (some ⟨g, 0, none⟩) n n) w' ∧
    w'.ownsRow w.heap.size 5 1 (.slice (some ⟨g, 0, none⟩) n n) n (List.replicate n (u8V 0)) ∧ Ext w w' := by
  obtain ⟨i, hi, hz, hs, hb⟩ := info_u8
  obtain ⟨w', h1, h2, h3⟩ := run_makeSlice_full (P := Try.prog) w w.heap.size 66 5 i (.int .u8 0) 1 Try.underlying66 hi hz hs .i64 .i64 n (by omega) (by rw [hb]; omega) (by unfold maxLen; omega) (Nat.le_refl _)
  refine ⟨_, w', h1, ?_, ⟨h3.os, h3.tape, h3.output, h3.size, fun i hi => h3.block i hi (by simp)⟩⟩
  have e : (madeCells (Value.int .u8 0).cells (n * 1)).toList = List.replicate n (u8V 0) := by
    have := h2.1
    apply List.ext_getElem?
    intro i
    by_cases hi : i < n
    · rw [List.getElem?_replicate, if_pos hi]
      simp [madeCells, Value.cells, hi, Nat.mod_one]
      rfl
    · rw [List.getElem?_eq_none (by rw [this]; omega), List.getElem?_eq_none (by rw [List.length_replicate]; omega)]
  rw [e] at h2
  exact h2
theorem x_make {o : Oper} {ρ : Operand → Value} {x y : Operand} {t : TypeId} {v v' u : Value} {w w' : World} (ho : o.op = .makeSlice t x y) (hx : ρ x = v) (hy : ρ y = v') (h : (Instr.makeSlice t v v').run Try.prog w = .ok u w') : (execOp ρ o).run Try.prog w = .ok (.value u) w' := by
  simp [execOp, ho, hx, hy, h]
theorem x_conv {o : Oper} {ρ : Operand → Value} {x : Operand} {t u : TypeId} {v v' : Value} {w w' : World} (ho : o.op = .convert t u x) (hx : ρ x = v) (h : (convert t u v).run Try.prog w = .ok v' w') : (execOp ρ o).run Try.prog w = .ok (.value v') w' := by
  simp [execOp, ho, hx, h]
/-- n bytes, the first j of them b, the others 0. -/
def fillC (b : UInt8) (n j : Nat) : List Value := List.replicate j (u8V b) ++ List.replicate (n - j) (u8V 0)
theorem fillC_zero (b : UInt8) (n : Nat) : fillC b n 0 = List.replicate n (u8V 0) := by simp [fillC]
theorem fillC_len {b : UInt8} {n j : Nat} (h : j ≤ n) : (fillC b n j).length = n := by simp [fillC]; omega
theorem fillC_set {b : UInt8} {n j : Nat} (h : j < n) : (fillC b n j).set j (u8V b) = fillC b n (j + 1) := by
  unfold fillC
  rw [List.set_append_right _ _ (by simp), List.length_replicate, Nat.sub_self]
  obtain ⟨k, hk⟩ : ∃ k, n - j = k + 1 := ⟨n - j - 1, by omega⟩
  rw [hk, List.replicate_succ, List.set_cons_zero, show n - (j + 1) = k by omega, List.replicate_succ', List.append_assoc]
  rfl
theorem fillC_all (b : UInt8) (n : Nat) : fillC b n n = List.replicate n (u8V b) := by simp [fillC]
/-- 'string(b)' of a row of bytes. -/
theorem conv_row {w : World} {g n cap : Nat} {l : List UInt8} (h : w.ownsRow 0 5 1 (.slice (some ⟨g, 0, none⟩) n cap) n (l.map u8V)) (hl : l.length = n) :
    (convert 66 9 (.slice (some ⟨g, 0, none⟩) n cap)).run Try.prog w = .ok (.string (sB l)) w := by
  refine conv_string w g 0 cap l n hl (fun i hi => ?_)
  have hil : i < l.length := by omega
  rw [Nat.zero_add]
  refine (row1_cell h (i := i) ?_).1
  rw [List.getElem?_map, List.getElem?_eq_getElem hil]
  simp [u8V, List.getD, hil]
end Go.Proofs.Ytdpohbaeopidmaa
