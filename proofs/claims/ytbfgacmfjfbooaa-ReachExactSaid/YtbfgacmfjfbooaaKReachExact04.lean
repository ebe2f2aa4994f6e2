/- append onto a row of the call's own whose head may be frozen: as the library's laws (Lib/FrozenHead, FrozenHead2), and besides: the new row is the old one or a new block. No program in sight. -/
import Derived.Test.YtbfgacmfjfbooaaKReachExact00
import Derived.Lib.FrozenHead2
import Derived.Test.YtbfgacmfjfbooaaKReachExact01
import Derived.Test.YtbfgacmfjfbooaaKReachExact03
import Derived.Great.BuildSlice
import Derived.Laws.IdiomStrings
import Derived.Laws.BytesArg
import Derived.Laws.OwnMore
namespace Go.Proofs.Ytbfgacmfjfbooaa
set_option linter.unusedVariables false
set_option linter.unusedSimpArgs false
open Go Go.RowKit Go.Lib

theorem ownsF_mono {w : World} {base base' : Nat} {e : TypeId} {size : Nat} {v : Value} {n : Nat} {xs : List Value} (h : w.ownsRowF base e size v n xs) (hb : base' ≤ base) : w.ownsRowF base' e size v n xs := by
  refine ⟨h.1, ?_⟩
  rcases h.2 with hn | ⟨g, cap, cur, fz, hv, hg, rest⟩
  · exact .inl hn
  · exact .inr ⟨g, cap, cur, fz, hv, Nat.le_trans hb hg, rest⟩
theorem Z6z {w w' : World} {e : TypeId} {size : Nat} {v : Value} {n : Nat} {xs : List Value} (h : w'.ownsRowF w.heap.size e size v n xs) : v.ownBlock = (Value.slice none 0 0).ownBlock ∨ ∃ k, v.ownBlock = some k ∧ w.heap.size ≤ k := by
  rcases h.2 with ⟨rfl, _⟩ | ⟨g, cap, cur, fz, rfl, hg, _⟩
  · exact .inl rfl
  · exact .inr ⟨g, rfl, hg⟩

section
variable {P : Program} (w : World)

theorem Z3i (base : Nat) (t ty e : TypeId) (i : TypeInfo) (z : Value) (size bytes : Nat) (ht : P.underlying t = some (.slice e)) (hi : P.info? e = some i) (hz : i.zero = some z)
    (hsize : i.size = size) (hby : i.bytes = bytes) (hzs : z.cells.size = size) (hsz : 0 < size)
    (v : Value) (n : Nat) (xs : List Value) (hown : w.ownsRowF base e size v n xs)
    (a : Addr) (m c : Nat) (news : List Value) (hl : news.length = m * size) (hnews : ∀ j u, news[j]? = some u → w.cell? (a.add j) = some u) (h1 : ∀ u ∈ news, u.oneCell' = true)
    (h63 : n + m ≤ maxLen) (hbytes : (n + m) * bytes ≤ 140737488355328) (hbase : base ≤ w.heap.size) :
    ∃ v' w', (Builtin.append_ #[t, t] ty #[v, .slice (some a) m c]).run P w = .ok v' w' ∧ w'.ownsRowF base e size v' (n + m) (xs ++ news) ∧ w.grownBy w' v.ownBlock ∧
      (v'.ownBlock = v.ownBlock ∨ ∃ k, v'.ownBlock = some k ∧ w.heap.size ≤ k) := by
  rcases hown.2 with ⟨rfl, rfl⟩ | ⟨g, cap, cur, fz, rfl, hbg, hg, hfz, hnc, hcm, hcs, htake⟩
  · obtain ⟨v', w', r1, r2, r3, r4⟩ := run_append_own (P := P) w w.heap.size t ty e i z size bytes ht hi hz hsize hby hzs hsz (.slice none 0 0) 0 xs ⟨hown.1, .inl ⟨rfl, rfl⟩⟩ a m c news hl hnews h1 h63 hbytes (Nat.le_refl _)
    exact ⟨v', w', r1, ownsF_mono (World.ownsRowF_of r2) hbase, r3, Z6z (World.ownsRowF_of r2)⟩
  · subst hsize
    subst hby
    have hsmall : n + m ≤ 9223372036854775807 := by simp only [maxLen] at h63; omega
    have hlen : (xs ++ news).length = (n + m) * i.size := by rw [List.length_append, hown.1, hl, Nat.add_mul]
    by_cases hroom : n + m ≤ cap
    · have hfit : n * i.size + news.length ≤ cur.size := by rw [hl, hcs, ← Nat.add_mul]; exact Nat.mul_le_mul_right _ hroom
      have hr := run_append_roomF (P := P) w t ty e i ht hi g n cap cur fz hg hfz a m c news hl hnews h1 hroom hfit
      refine ⟨_, _, hr, ⟨hlen, .inr ⟨g, cap, _, fz, rfl, hbg, setRow_heap w g cur _ e _ hg, Nat.le_trans hfz (Nat.mul_le_mul_right _ (Nat.le_add_right n m)), hroom, hcm, ?_, ?_⟩⟩, ⟨rfl, rfl, rfl, by simp, fun k _ hk => setRow_other w g k _ (fun e => hk (by simp [Value.ownBlock, e]))⟩, .inl rfl⟩
      · simp only [List.size_toArray, List.length_append, List.length_take, List.length_drop, Array.length_toList]
        omega
      · rw [htake, ← hlen]
        exact List.take_left
    · have holds : ∀ j u, xs[j]? = some u → w.cell? ((⟨g, 0, none⟩ : Addr).add j) = some u := hown.cells (g := g) rfl
      have hr := run_append_grow (P := P) w t ty e i z ht hi hz ⟨g, 0, none⟩ n cap xs hown.1 holds a m c news hl hnews (by omega) (by omega) (growslice_fits (by omega) hbytes)
      have hge := grownCap_ge w (n + m) cap e
      have hcm2 : grownCap w (n + m) cap e ≤ maxLen := grownCap_le_maxLen w (n + m) cap e h63
      refine ⟨_, _, hr, ⟨hlen, .inr ⟨w.heap.size, _, _, (0, 0), rfl, hbase, _root_.Go.heap_alloc_new w.drew _, Nat.zero_le _, hge, hcm2, ?_, ?_⟩⟩, ⟨rfl, rfl, rfl, by simp, fun k hk _ => _root_.Go.heap_alloc_old w.drew _ hk⟩, .inr ⟨_, rfl, Nat.le_refl _⟩⟩
      · simp only [Array.size_append, List.size_toArray, size_zeroCells, hzs, hown.1, hl, ← Nat.add_mul]
        congr 1
        omega
      · simp only [Array.toList_append, List.append_assoc]
        rw [← List.append_assoc, ← hlen]
        exact List.take_left

end
open Go.RowKit

/-- Blocks of one's own, and a row of one's own apart from them: n elements of c cells. -/
structure ORow (H : Nat) (A : World) (L : List BlkD) (e : TypeId) (c : Nat) (v : Value) (n : Nat) (cs : List Value) (w : World) : Prop where
  own : Own H A L w
  row : w.ownsRowF H e c v n cs
  apart : ∀ x ∈ L, v.ownBlock ≠ some x.1
/-- Blocks of other types than T stay as they are. -/
def KeepT (T : TypeId) (w w' : World) : Prop := ∀ k t cs, t ≠ T → Blk w k t cs → Blk w' k t cs
section
variable {H : Nat} {A w w' : World} {L L1 L2 : List BlkD} {e t T : TypeId} {c n m b : Nat} {v v' : Value} {xs ys : List Value} {cs cs' : Array Value}
theorem KeepT.refl (T : TypeId) (w : World) : KeepT T w w := fun _ _ _ _ h => h
theorem KeepT.of_ext (h : Ext w w') : KeepT T w w' := fun _ _ _ _ hb => hb.ext h
theorem ORow.start (h : Own H A L w) (e : TypeId) (c : Nat) : ORow H A L e c (.slice none 0 0) 0 [] w :=
  ⟨h, World.ownsRowF_nil w H e c, fun _ _ h => by simp [Value.ownBlock] at h⟩
theorem ORow.ext (h : ORow H A L e c v n xs w) (k : Ext w w') : ORow H A L e c v n xs w' :=
  ⟨h.own.ext k, h.row.kept (Z24 k none) (Classical.em _), h.apart⟩
theorem ORow.new (h : ORow H A L e c v n xs w) (t : TypeId) (cs : Array Value) : ORow H A ((w.heap.size, t, cs) :: L) e c v n xs (w.alloc (.cells cs t)) :=
  ⟨h.own.new t cs, h.row.kept (Z24 (Ext.alloc w _) none) (Classical.em _), fun x hx he => by
    rcases List.mem_cons.1 hx with rfl | hx
    · exact absurd (h.row.lt _ he).2 (by simp)
    · exact h.apart x hx he⟩
theorem ORow.put (h : ORow H A L e c v n xs w) (hL : L = L1 ++ (b, t, cs) :: L2) (cs' : Array Value) (hg : w.grownBy w' (some b)) (hb : Blk w' b t cs') : ORow H A (L1 ++ (b, t, cs') :: L2) e c v n xs w' := by
  refine ⟨h.own.put hL cs' hg hb, h.row.kept hg (.inr (h.apart (b, t, cs) (by rw [hL]; simp))), fun x hx => ?_⟩
  subst hL
  rcases List.mem_append.1 hx with hx | hx
  · exact h.apart x (by simp [hx])
  · rcases List.mem_cons.1 hx with rfl | hx
    · exact h.apart (b, t, cs) (by simp)
    · exact h.apart x (by simp [hx])
theorem ORow.set (h : ORow H A L e c v n xs w) (hL : L = L1 ++ (b, t, cs) :: L2) (i : Nat) (u : Value) : ORow H A (L1 ++ (b, t, cs.setIfInBounds i u) :: L2) e c v n xs (w.setCell ⟨b, i, none⟩ u) :=
  h.put hL _ (Z1h (World.grownBy.refl w _) (.inl rfl) u) ((h.own.all.mem (x := (b, t, cs)) (by rw [hL]; simp) : Blk w b t cs).set_ i u)
theorem ORow.grow (h : ORow H A L e c v n xs w) (h2 : w'.ownsRowF H e c v' m ys) (hg : w.grownBy w' v.ownBlock) (h4 : v'.ownBlock = v.ownBlock ∨ ∃ k, v'.ownBlock = some k ∧ w.heap.size ≤ k) : ORow H A L e c v' m ys w' := by
  refine ⟨?_, h2, fun x hx he => ?_⟩
  · cases hv : v.ownBlock with
    | none =>
      rw [hv] at hg
      exact h.own.ext ⟨hg.os, hg.tape, hg.output, hg.size, fun i hi => hg.block i hi (by simp)⟩
    | some g =>
      rw [hv] at hg
      exact h.own.far (h.row.lt g hv).1 (fun x hx e => h.apart x hx (by rw [hv, e])) hg
  · rcases h4 with h4 | ⟨k, h4, hk⟩
    · rw [h4] at he; exact h.apart x hx he
    · rw [h4] at he; injection he with he; have := h.own.lt hx; omega
theorem ORow.tail {x : BlkD} (h : ORow H A (x :: L) e c v n xs w) : ORow H A L e c v n xs w := ⟨h.own.tail, h.row, fun y hy => h.apart y (by simp [hy])⟩
theorem ORow.slice (h : ORow H A L e c v n xs w) : ∃ B cap, v = .slice B n cap := by
  rcases h.row.2 with ⟨rfl, rfl⟩ | ⟨g, cap, cur, fz, rfl, _⟩
  · exact ⟨none, 0, rfl⟩
  · exact ⟨some ⟨g, 0, none⟩, cap, rfl⟩
/-- It is a row of data. -/
theorem Z33 {E : Type} {enc : E → List Value} {c : Nat} (hc : ∀ x, (enc x).length = c) : ∀ (xs : List E) (i : Nat) (x : E) (j : Nat) (u : Value), xs[i]? = some x → (enc x)[j]? = some u → (xs.flatMap enc)[i * c + j]? = some u
  | [], i, x, j, u, h, _ => by simp at h
  | y :: ys, 0, x, j, u, h, hu => by
    simp at h
    subst h
    have hj : j < (enc y).length := (List.getElem?_eq_some_iff.1 hu).1
    rw [List.flatMap_cons, Nat.zero_mul, Nat.zero_add, List.getElem?_append_left hj]
    exact hu
  | y :: ys, i + 1, x, j, u, h, hu => by
    have := Z33 hc ys i x j u (by simpa using h) hu
    rw [List.flatMap_cons, List.getElem?_append_right (by rw [hc, Nat.add_mul]; omega), hc]
    rw [show (i + 1) * c + j - c = i * c + j by rw [Nat.add_mul]; omega]
    exact this
theorem ORow.rows {E : Type} {enc : E → List Value} {zs : List E} (h : ORow H A L e c v n (zs.flatMap enc) w) (hc : ∀ x, (enc x).length = c) (hn : zs.length = n) :
    ∃ B cap, v = .slice B n cap ∧ n ≤ cap ∧ cap ≤ maxLen ∧ Row w B c enc zs := by
  rcases h.row.2 with ⟨rfl, rfl⟩ | ⟨g, cap, cur, fz, rfl, hb, hg, hfz, hcap, hmax, hcs, ht⟩
  · refine ⟨none, 0, rfl, Nat.le_refl _, by decide, fun i x hx => ?_⟩
    have : zs = [] := List.length_eq_zero_iff.1 hn
    subst this
    simp at hx
  · refine ⟨some ⟨g, 0, none⟩, cap, rfl, hcap, hmax, fun i x hx => ⟨g, 0, rfl, (Array.getElem?_eq_some_iff.1 hg).1, fun j u hu => ?_⟩⟩
    have := h.row.cells (g := g) rfl (i * c + j) u (Z33 hc zs i x j u hx hu)
    have hadd : (⟨g, 0, none⟩ : Addr).add (i * c + j) = ⟨g, i * c + j, none⟩ := by unfold Addr.add; split <;> simp_all
    rw [hadd] at this
    rw [Nat.zero_add]
    exact this

variable {P : Program}
/-- append of elements that lie in a block. -/
theorem ORow.append {o : Oper} {a : Act} {K : Act → World → Prop} {Q : Exit → Act → World → Prop} (h : ORow H A L e c v n xs w) (s x : Operand) (t : TypeId)
    (ho : o.op = .call { callee := .builtin .append, args := #[s, x], argTypes := #[t, t] })
    (i : TypeInfo) (z : Value) (bytes : Nat) (ht : P.underlying t = some (.slice e)) (hi : P.info? e = some i) (hz : i.zero = some z)
    (hsize : i.size = c) (hby : i.bytes = bytes) (hzs : z.cells.size = c) (hsz : 0 < c)
    (hs : a.eval s = v) (g m cp : Nat) (news : List Value) (hx : a.eval x = .slice (some ⟨g, 0, none⟩) m cp) (tg : TypeId) (hb : Blk w g tg news.toArray) (hl : news.length = m * c) (h1 : ∀ u ∈ news, u.oneCell' = true)
    (h63 : n + m ≤ maxLen) (hbytes : (n + m) * bytes ≤ 140737488355328)
    (hk : ∀ v' w', ORow H A L e c v' (n + m) (xs ++ news) w' → w.grownBy w' v.ownBlock → K (a.put o.dst v') w') : o.wp P a w K Q := by
  obtain ⟨v', w', hr, h2, h3, h4⟩ := Z3i (P := P) w H t o.type e i z c bytes ht hi hz hsize hby hzs hsz v n xs h.row ⟨g, 0, none⟩ m cp news hl (fun j u hu => by
    have := hb.cell j
    have hadd : (⟨g, 0, none⟩ : Addr).add j = ⟨g, j, none⟩ := by unfold Addr.add; split <;> simp_all
    rw [hadd, this]
    simpa using hu) h1 h63 hbytes h.own.size
  unfold Oper.wp execOp
  simp only [ho, resolve, invoke, builtin, Sem.run_bind, Sem.run_pure, Result.andThen_ok, List.map_toArray, List.map_cons, List.map_nil, hs, hx, hr]
  exact hk _ _ (h.grow h2 h3 h4) h3
end
open Go.RowKit Go.Maps Go.ChangeMaps Go.MapKept Go.WideShapes

theorem Z72 : ∀ (N : Nat) (l : List Nat), l.Nodup → (∀ x ∈ l, x < N) → l.length ≤ N := by
  intro N
  induction N with
  | zero =>
    intro l _ h
    cases l with
    | nil => simp
    | cons x l => have := h x (by simp); omega
  | succ N ih =>
    intro l hn h
    by_cases hm : N ∈ l
    · have h1 := ih (l.erase N) (hn.erase N) (fun x hx => by
        have h2 := h x (List.mem_of_mem_erase hx)
        have h3 : x ≠ N := fun e => by subst e; exact (hn.not_mem_erase) hx
        omega)
      rw [List.length_erase_of_mem hm] at h1
      omega
    · have := ih l hn (fun x hx => by
        have h2 := h x hx
        have h3 : x ≠ N := fun e => by subst e; exact hm hx
        omega)
      omega
theorem OwnT.newRow {H : Nat} {A w w' : World} {L : List Thing} {T : TypeId} {k n : Nat} {v : Value} {xs : List Value} (h : OwnT H A L w) (hE : Ext w w') (hr : w'.ownsRow w.heap.size T k v n xs) : OwnT H A (tRow T k v n xs :: L) w' := by
  refine h.cons hE (tRow T k v n xs) ⟨hr.1, ?_⟩ (fun i hi => (hr.lt i (by simpa [tRow] using hi)).1)
  rcases hr.2 with hn | ⟨g, cap, cur, h1, _, h2⟩
  · exact .inl hn
  · exact .inr ⟨g, cap, cur, h1, Nat.zero_le _, h2⟩
theorem OwnT.nilRow {H : Nat} {A w : World} {R : List Thing} (h : OwnT H A R w) (T : TypeId) (k : Nat) : OwnT H A (tRow T k (.slice none 0 0) 0 [] :: R) w :=
  h.cons (Ext.refl _) (tRow T k (.slice none 0 0) 0 []) (World.ownsRow_nil _ _ _ _) (fun i hi => by simp [tRow, Value.ownBlock] at hi)
section
variable {H : Nat} {A w : World} {R : List Thing} {T : TypeId} {k n : Nat} {v : Value} {xs : List Value}
theorem OwnT.rowBase (h : OwnT H A (tRow T k v n xs :: R) w) : w.ownsRow H T k v n xs := by
  have hr := h.r0
  refine ⟨hr.1, ?_⟩
  rcases hr.2 with hn | ⟨g, cap, cur, rfl, _, rest⟩
  · exact .inl hn
  · exact .inr ⟨g, cap, cur, rfl, h.high (tRow T k (.slice (some ⟨g, 0, none⟩) n cap) n xs) (by simp) g (by simp [tRow, Value.ownBlock]), rest⟩
theorem OwnT.appendOne {P : Program} (h : OwnT H A (tRow T k v n xs :: R) w) (t : TypeId) (i : TypeInfo) (z : Value) (bytes : Nat) (ht : P.underlying t = some (.slice T)) (hi : P.info? T = some i) (hz : i.zero = some z)
    (hsize : i.size = k) (hby : i.bytes = bytes) (hzs : z.cells.size = k) (hk : 0 < k) (g : Nat) (tg : TypeId) (news : List Value) (hb : Blk w g tg news.toArray) (hl : news.length = k) (h1 : ∀ u ∈ news, u.oneCell' = true)
    (h63 : n + 1 ≤ maxLen) (hbytes : (n + 1) * bytes ≤ 140737488355328) :
    ∃ v' w', (∀ ty, (Builtin.append_ #[t, t] ty #[v, .slice (some ⟨g, 0, none⟩) 1 1]).run P w = .ok v' w') ∧ OwnT H A (tRow T k v' (n + 1) (xs ++ news) :: R) w' := by
  obtain ⟨v', w', hrun, h2, h3, h4⟩ := Z1o (P := P) w t t T i z k bytes ht hi hz hsize hby hzs hk v n xs h.r0 ⟨g, 0, none⟩ 1 1 news (by omega) (fun j u hu => by
    have := hb.cell j
    have hadd : (⟨g, 0, none⟩ : Addr).add j = ⟨g, j, none⟩ := by unfold Addr.add; split <;> simp_all
    rw [hadd, this]
    simpa using hu) h1 h63 hbytes
  exact ⟨v', w', fun _ => hrun, h.row h2 h3 h4⟩
theorem OwnT.emptyRow (h : OwnT H A R w) (T : TypeId) (k : Nat) : OwnT H A (tRow T k (.slice (some ⟨w.heap.size, 0, none⟩) 0 0) 0 [] :: R) (w.alloc (.cells #[] T)) :=
  h.cons (Ext.alloc w _) _ (Z3x (Blk.new w T #[]) (Nat.le_refl _) (by decide) (by simp) (by simp)) (fun i hi => by simp [tRow, Value.ownBlock] at hi; omega)
end
/-- A row of one's own as data. -/
theorem Z23 {E : Type} {enc : E → List Value} {k : Nat} (hk : ∀ x, (enc x).length = k) (hk0 : 0 < k) {w : World} {base n : Nat} {T : TypeId} {v : Value} {X : List E} (h : w.ownsRow base T k v n (X.flatMap enc)) : ∃ B cap, v = .slice B n cap ∧ n ≤ cap ∧ cap ≤ maxLen ∧ X.length = n ∧ Row w B k enc X := by
  have hfl : ∀ X : List E, (X.flatMap enc).length = X.length * k := fun X => by
    induction X with
    | nil => simp
    | cons x X ih => rw [List.flatMap_cons, List.length_append, ih, hk, List.length_cons, Nat.succ_mul]; omega
  have hl : X.length = n := by
    have := h.1
    rw [hfl] at this
    exact Nat.eq_of_mul_eq_mul_right hk0 this
  have hF := World.ownsRowF_of h
  rcases h.2 with ⟨rfl, rfl⟩ | ⟨g, cap, cur, rfl, hb, hg, hcap, hmax, hcs, ht⟩
  · refine ⟨none, 0, rfl, Nat.le_refl _, by decide, hl, fun i x hx => ?_⟩
    have : X = [] := List.length_eq_zero_iff.1 hl
    subst this
    simp at hx
  · refine ⟨some ⟨g, 0, none⟩, cap, rfl, hcap, hmax, hl, fun i x hx => ⟨g, 0, rfl, (Array.getElem?_eq_some_iff.1 hg).1, fun j u hu => ?_⟩⟩
    have := hF.cells (g := g) rfl (i * k + j) u (Z33 hk X i x j u hx hu)
    have hadd : (⟨g, 0, none⟩ : Addr).add (i * k + j) = ⟨g, i * k + j, none⟩ := by unfold Addr.add; split <;> simp_all
    rw [hadd] at this
    rw [Nat.zero_add]
    exact this
theorem Z6y {w : World} {base base' : Nat} {T : TypeId} {k n : Nat} {v : Value} {xs : List Value} (h : w.ownsRow base T k v n xs) (hb : base' ≤ base) : w.ownsRow base' T k v n xs := by
  refine ⟨h.1, ?_⟩
  rcases h.2 with hn | ⟨g, cap, cur, rfl, hb', rest⟩
  · exact .inl hn
  · exact .inr ⟨g, cap, cur, rfl, Nat.le_trans hb hb', rest⟩

structure ElemI (P : Program) (t T : TypeId) (k bytes : Nat) : Prop where
  ht : P.underlying t = some (.slice T)
  info : ∃ i z, P.info? T = some i ∧ i.zero = some z ∧ i.size = k ∧ i.bytes = bytes ∧ z.cells.size = k
def AppI (H : Nat) (A : World) (T : TypeId) (k : Nat) (v : Value) (n : Nat) (xs : List Value) (g : Nat) (news : List Value) (G : List Thing) (b c : Bool) (w : World) : Prop :=
  if c = true then b = true ∧ ∃ v', OwnT H A (tRow T k v' (n + 1) (xs ++ news) :: tBlk g T news.toArray :: G) w
  else if b = true then OwnT H A (tRow T k v n xs :: tBlk g T news.toArray :: G) w
  else OwnT H A (tRow T k v n xs :: G) w ∧ w.heap.size = g
section
variable {P : Program} {H : Nat} {A : World} {T t : TypeId} {k n g bytes : Nat} {v : Value} {xs news : List Value} {G : List Thing} {b c : Bool} {w : World} {l : Nat → Bool} {ib ia : Nat} {M : Sem Next}
theorem AppI.start (h : OwnT H A (tRow T k v n xs :: G) w) : AppI H A T k v n xs w.heap.size news G false false w.drew := ⟨h.drew, rfl⟩
theorem AppI.own (h : AppI H A T k v n xs g news G b c w) : OwnT H A G w := by
  unfold AppI at h
  split at h
  · obtain ⟨_, v, h⟩ := h
    exact h.tail.tail
  · split at h
    · exact h.tail.tail
    · exact h.1.tail
theorem app_build (h : AppI H A T k v n xs g news G (l ib) (l ia) w) (hl : l ib = false) (hne : ia ≠ ib)
    (hM : M.run P w = .ok (.value (.slice (some ⟨w.heap.size, 0, none⟩) 1 1)) (w.alloc (.cells news.toArray T))) :
    ∃ r w', M.run P w = .ok (.value r) w' ∧ (if l ia = true then Ext w w' else True) ∧ AppI H A T k v n xs g news G (upd l ib ib) (upd l ib ia) w' ∧ r = .slice (some ⟨g, 0, none⟩) 1 1 := by
  unfold AppI at h
  rw [hl] at h
  split at h
  · cases h.1
  · rename_i h14
    obtain ⟨h1, h2⟩ : OwnT H A (tRow T k v n xs :: G) w ∧ w.heap.size = g := by simpa using h
    refine ⟨_, _, hM, ?_, ?_, by rw [h2]⟩
    · rw [if_neg h14]; trivial
    · have e13 : upd l ib ib = true := if_pos rfl
      have e14 : upd l ib ia = l ia := if_neg hne
      unfold AppI
      rw [e13, e14, if_neg h14, if_pos rfl]
      have h3 := h1.new T news.toArray
      rw [h2] at h3
      exact h3.perm (.swap _ _ _)
theorem app_grow (h : AppI H A T k v n xs g news G (l ib) (l ia) w) (hl : l ia = false) (hb : l ib = true) (hne : ia ≠ ib) (E : ElemI P t T k bytes) (hk : 0 < k) (hlen : news.length = k) (h1 : ∀ u ∈ news, u.oneCell' = true) (h63 : n + 1 ≤ maxLen) (hbytes : (n + 1) * bytes ≤ 140737488355328) {ty : TypeId}
    (hM : ∀ r w', (Builtin.append_ #[t, t] ty #[v, .slice (some ⟨g, 0, none⟩) 1 1]).run P w = .ok r w' → M.run P w = .ok (.value r) w') :
    ∃ r w', M.run P w = .ok (.value r) w' ∧ (if l ia = true then Ext w w' else True) ∧ AppI H A T k v n xs g news G (upd l ia ib) (upd l ia ia) w' ∧ OwnT H A (tRow T k r (n + 1) (xs ++ news) :: tBlk g T news.toArray :: G) w' := by
  have h2 : OwnT H A (tRow T k v n xs :: tBlk g T news.toArray :: G) w := by
    unfold AppI at h
    rw [hl, hb] at h
    simpa using h
  obtain ⟨i, z, hi, hz, hs, hby, hzs⟩ := E.info
  obtain ⟨r, w', hrun, h3⟩ := h2.appendOne (P := P) t i z bytes E.ht hi hz hs hby hzs hk g T news h2.b1 hlen h1 h63 hbytes
  refine ⟨r, w', hM _ _ (hrun ty), by rw [hl]; simp, ?_, h3⟩
  have e13 : upd l ia ib = l ib := if_neg (fun e => hne e.symm)
  have e14 : upd l ia ia = true := if_pos rfl
  unfold AppI
  rw [e13, e14, if_pos rfl]
  exact ⟨hb, r, h3⟩
end
/-- A row that isn't empty: its slice. -/
theorem OwnT.slice0 {H : Nat} {A w : World} {L : List Thing} {T : TypeId} {k n : Nat} {v : Value} {xs : List Value} (h : OwnT H A (tRow T k v n xs :: L) w) (hn : 0 < n) : ∃ g cap, v = .slice (some ⟨g, 0, none⟩) n cap := by
  obtain ⟨g, cap, cur, h1, _⟩ := Z18 h.r0 hn
  exact ⟨g, cap, h1⟩
theorem Z0c {w : World} {base : Nat} {T : TypeId} {k n : Nat} {v : Value} {xs : List Value} (h : w.ownsRow base T k v n xs) : ∃ B cap, v = .slice B n cap := by
  rcases h.2 with ⟨rfl, rfl⟩ | ⟨g, cap, cur, rfl, _⟩
  · exact ⟨none, 0, rfl⟩
  · exact ⟨_, cap, rfl⟩
theorem OwnT.pick01 {H : Nat} {A w : World} {L : List Thing} {X Y : Thing} (h : OwnT H A (X :: Y :: L) w) : OwnT H A (X :: L) w := h.sub (.cons_cons _ (.cons _ (.refl _)))

def chkE (P : Program) (t T k bytes : Nat) : Bool := (match P.underlying t with | some (.slice e) => Nat.beq e T | _ => false) && (match P.info? T with | some i => Nat.beq i.size k && Nat.beq i.bytes bytes && (match i.zero with | some z => Nat.beq z.cells.size k | none => false) | none => false)
theorem Z5j {P : Program} {t T k bytes : Nat} (h : chkE P t T k bytes = true) : ElemI P t T k bytes := by
  simp only [chkE, Bool.and_eq_true] at h
  obtain ⟨h1, h2⟩ := h
  split at h1
  case h_2 => cases h1
  rename_i e hu
  obtain rfl := Nat.eq_of_beq_eq_true h1
  split at h2
  case h_2 => cases h2
  rename_i i hi
  simp only [Bool.and_eq_true] at h2
  obtain ⟨⟨h3, h4⟩, h5⟩ := h2
  split at h5
  case h_2 => cases h5
  rename_i z hz
  exact ⟨hu, i, z, hi, hz, Nat.eq_of_beq_eq_true h3, Nat.eq_of_beq_eq_true h4, Nat.eq_of_beq_eq_true h5⟩
/-- The parts of a slice literal, each of k cells: values, cells. -/
def bsP (m : Mp) (k : Nat) : Nat → List (Nat × Operand) → Option (List Value × List Value)
  | _, [] => some ([], [])
  | j, (i, x) :: ps => match Nat.beq i j with
    | true => match opv m x with
      | some v => match cellsV v with
        | some vs => match takeL k vs with
          | some vs' => match dropL k vs with
            | some [] => match bsP m k (j + 1) ps with
              | some (us, fl) => match app2 vs' fl with
                | some z => some (v :: us, z)
                | none => none
              | none => none
            | _ => none
          | none => none
        | none => none
      | none => none
    | false => none
theorem bsP_ok {m : Mp} {ρ : Operand → Value} (hρ : ∀ x v, opv m x = some v → ρ x = v) (k : Nat) : ∀ (ps : List (Nat × Operand)) (j : Nat) (us fl : List Value), bsP m k j ps = some (us, fl) → (ps.map fun (i, x) => (i, ρ x)) = ((us.zipIdx j).map fun x => (x.2, x.1)) ∧ (∀ v ∈ us, v.cells.size = k) ∧ fl = us.flatMap fun v => v.cells.toList
  | [], j, us, fl, h => by
    simp only [bsP] at h
    cases h
    exact ⟨rfl, fun v hv => (by cases hv), rfl⟩
  | (i, x) :: ps, j, us, fl, h => by
    simp only [bsP] at h
    split at h
    case h_2 => cases h
    rename_i hij
    obtain rfl := Nat.eq_of_beq_eq_true hij
    split at h
    case h_2 => cases h
    rename_i v hv
    split at h
    case h_2 => cases h
    rename_i vs hvs
    split at h
    case h_2 => cases h
    rename_i vs' ht
    split at h
    case h_2 => cases h
    rename_i hdr
    split at h
    case h_2 => cases h
    rename_i us' fl' hb
    split at h
    case h_2 => cases h
    rename_i z hz
    cases h
    obtain ⟨t1, t2⟩ := Z2i _ _ _ ht
    have t3 := Z2n _ _ _ hdr
    have hvv : vs' = vs := by
      have := List.take_append_drop k vs
      rw [t1, t3, List.append_nil] at this
      exact this
    subst hvv
    obtain ⟨i1, i2, i3⟩ := bsP_ok hρ k ps (i + 1) us' fl' hb
    have hc := Z1z hvs
    refine ⟨?_, ?_, ?_⟩
    · rw [List.map_cons, List.zipIdx_cons, List.map_cons, i1]
      show (i, ρ x) :: _ = (i, v) :: _
      rw [hρ x v hv]
    · intro u hu
      rcases List.mem_cons.1 hu with rfl | hu
      · rw [hc]; exact t2
      · exact i2 u hu
    · rw [Z5l _ _ _ hz, List.flatMap_cons, hc, i3]
abbrev RE : (Nat → Bool) → World → World → Prop := fun _ => Ext
section
variable {P : Program} {Q : Exit → Act → World → Prop} {a a0 : Act} {w w' w0 : World} {n : Nat} {D D' : List Tmp} {o : Oper} {v : Value} {K : Act → World → Prop}
/-! A region that draws, with one call in the midst that writes; what stands behind it moves its answer's parts. -/
def projV : Value → Nat → Value
  | .tuple vs, i => vs.getD i undef
  | v, _ => v
def RM (ic : Nat) : (Nat → Bool) → World → World → Prop := fun l w w' => l ic = true → Ext w w'
def IM (ic : Nat) (anc : List Nat) (w0 : World) : (Nat → Bool) → World → Prop := fun l w => (l ic = false → Ext w0 w) ∧ (l ic = true → ∀ i ∈ anc, l i = true)
section
variable {R : (Nat → Bool) → World → World → Prop} {ops : Array Oper} {I : (Nat → Bool) → World → Prop} {A : List (List Nat)} {G : List (Nat × TFactL R) → Prop} {k ic : Nat} {os : List Oper} {done : List (Nat × TFactL R)} {anc : List Nat} {l : Nat → Bool}
theorem IM.pre (h : IM ic anc w0 l w) (hk : anc.contains k = true) (hl : l k = false) : Ext w0 w := by
  refine h.1 ?_
  cases e : l ic with
  | false => rfl
  | true =>
    have := h.2 e k (by simpa using hk)
    rw [hl] at this
    cases this
theorem IM.upd (h : IM ic anc w0 l w) (hk : Nat.beq k ic = false) : IM ic anc w0 (upd l k) w := by
  have hne : ¬ ic = k := fun e => Nat.ne_of_beq_eq_false hk e.symm
  refine ⟨fun hf => h.1 (by simpa [Go.Proofs.Ytbfgacmfjfbooaa.upd, hne] using hf), fun ht i hi => ?_⟩
  have := h.2 (by simpa [Go.Proofs.Ytbfgacmfjfbooaa.upd, hne] using ht) i hi
  unfold Go.Proofs.Ytbfgacmfjfbooaa.upd
  split
  · rfl
  · exact this
theorem IM.grow (h : IM ic anc w0 l w) (hk : Nat.beq k ic = false) (he : Ext w w') : IM ic anc w0 (Go.Proofs.Ytbfgacmfjfbooaa.upd l k) w' := by
  have h2 := h.upd hk
  exact ⟨fun hf => (h2.1 hf).trans he, h2.2⟩
theorem IM.at_ (hA : ∀ i ∈ anc, l i = true) : IM ic anc w0 (Go.Proofs.Ytbfgacmfjfbooaa.upd l ic) w :=
  ⟨fun h => by simp [Go.Proofs.Ytbfgacmfjfbooaa.upd] at h, fun _ i hi => by unfold Go.Proofs.Ytbfgacmfjfbooaa.upd; split; rfl; exact hA i hi⟩
theorem Z4c {id : Nat} {l : List Oper} (ic : Nat) (A : List (List Nat)) (D : List Tmp) (hf : P.follows .mixedOrders = true)
    (h : BuildL P (RM ic) l.toArray (IM ic (A.getD ic []) w0) a0 D A (FinL P l (IM ic (A.getD ic []) w0) a0 D A Q) 0 l []) : (Code.region id l.toArray true).wp P Q a0 w0 :=
  Z4b (RM ic) _ A D (fun _ w _ => Ext.refl w) ⟨fun _ => Ext.drew w0, fun h => by cases h⟩ hf h
/-- The slot holds what another one's value gives. -/
def relL (k : Nat) (d s : Tmp) (g : Value → Value) : TFactL R := ⟨k, [d, s], fun a _ => a.eval (.tmp d) = g (a.eval (.tmp s)), fun a a' _ h e => by
  rw [← Z15 (h d (by simp)), ← Z15 (h s (by simp))]; exact e, fun _ _ _ _ _ _ e => e⟩
theorem BuildL.rel (d s : Tmp) (g : Value → Value) (hds : Nat.beq s d = false) (hrr : ∀ l w, R l w w) (hI : ∀ l w, I l w → I (upd l k) w) (hd : o.dst = some d) (hn : Nat.blt d a0.tmps.size = true) (hg : o.guard = none)
    (h : ∀ l a w, Env a0 D a → I l w → (∀ (i : Nat) (S' : TFactL R), i ∈ A.getD k [] → (i, S') ∈ done → S'.T a w) → (execOp a.eval o).run P w = .ok (.value (g (a.eval (.tmp s)))) w)
    (hr : BuildL P R ops I a0 D A G (k + 1) os ((k, relL k d s g) :: done)) : BuildL P R ops I a0 D A G k (o :: os) done :=
  .step _ rfl (fun l a w hE hR _ _ hF => .inl ⟨Z0d hg, by
    unfold YieldsR
    rw [h l a w hE hR hF]
    refine ⟨hrr l w, hI l w hR, ?_⟩
    rw [hd]
    show (a.put (some d) _).eval (.tmp d) = g ((a.put (some d) _).eval (.tmp s))
    rw [Z0g (by rw [hE.size]; exact Nat.le_of_ble_eq_true hn), Z10 hds]⟩) hr
theorem BuildL.detA (d : Tmp) {v : Value} (hrr : ∀ l w, R l w w) (hI : ∀ l w, I l w → I (upd l k) w) (hd : o.dst = some d) (hn : Nat.blt d a0.tmps.size = true) (hg : o.guard = none)
    (h : ∀ l a w, Env a0 D a → I l w → l k = false → (∀ i ∈ A.getD k [], l i = true) → (∀ (i : Nat) (S' : TFactL R), i ∈ A.getD k [] → (i, S') ∈ done → S'.T a w) → (execOp a.eval o).run P w = .ok (.value v) w)
    (hr : BuildL P R ops I a0 D A G (k + 1) os ((k, detL k d v) :: done)) : BuildL P R ops I a0 D A G k (o :: os) done :=
  .step _ rfl (fun l a w hE hR hl hA hF => .inl ⟨Z0d hg, by
    unfold YieldsR
    rw [h l a w hE hR hl hA hF]
    exact ⟨hrr l w, hI l w hR, by rw [hd]; exact Z0g (by rw [hE.size]; exact Nat.le_of_ble_eq_true hn)⟩⟩) hr
end
end

def AgS (a : Act) (m : Mp) (S : List Tmp) : Prop := ∀ t ∈ S, ∀ v, lookM m t = some v → a.eval (.tmp t) = v
section
variable {P : Program} {o : Oper} {ρ : Operand → Value} {L : List Thing} {vc : List Prop} {hs : List Ht} {T : TbG} {m : Mp} {ops : List Oper} {a : Act} {w : World} {H n : Nat} {A : World}
theorem AgS.opv (h : AgS a m (o.looksAt ⟨ops⟩)) : ∀ x ∈ o.op.operands, ∀ v, opv m x = some v → a.eval x = v := fun x hx v hv => by
  cases x with
  | tmp t => exact h t (List.mem_append_left _ (List.mem_filterMap.2 ⟨.tmp t, by simpa using hx, rfl⟩)) v hv
  | const c => simp [Proofs.Ytbfgacmfjfbooaa.opv] at hv; subst hv; rfl
  | global g => simp [Proofs.Ytbfgacmfjfbooaa.opv] at hv; subst hv; rfl
  | func f => simp [Proofs.Ytbfgacmfjfbooaa.opv] at hv; subst hv; rfl
/-- What an operation among the first ones leaves: a value; a new block. -/
inductive Pf where
  | v (d : Nat) (x : Value)
  | b (d : Nat) (t : TypeId) (cs : List Value) (ln : Nat)
def Pf.slot : Pf → Nat
  | .v d _ => d
  | .b d _ _ _ => d
end

section
variable {P : Program} {fn : Func} {R : Ending → World → Prop} {L : List Thing} {vc : List Prop} {hs : List Ht} {T : TbG} {m m' : Mp} {ops : List Oper} {a a0 : Act} {w : World} {H n np : Nat} {A : World} {r : List Pf} {ks : List Kf}
end

def bsV (m : Mp) (ops : List Oper) (fr : List Nat) (i k : Nat) : Option (TypeId × Nat × List Value × Nat) := match nthT ops i with
  | some ⟨some d, .buildSlice t len ⟨ps⟩, _, _, _, g⟩ => match gd m ops g [] [] with
    | some (true, _, []) => match memN fr i with
      | false => match bsP m k 0 ps with
        | some (us, fl) => match Nat.beq us.length len with
          | true => some (t, d, fl, len)
          | false => none
        | none => none
      | true => none
    | _ => none
  | _ => none
section
variable {P : Program} {fn : Func} {R : Ending → World → Prop} {H n : Nat} {A : World} {m : Mp} {a : Act} {w : World} {ops : List Oper} {fr is : List Nat} {LI : List Thing} {ks : List Kf} {L : List Thing} {i : Nat}
/-- A slice literal: a new block. -/
theorem gSG {t d len bytes : Nat} {fl : List Value} (h : Hold H A L n m (.s ops fr LI (i :: is)) a w) (T k : Nat) (e : bsV m ops fr i k = some (t, d, fl, len))
    (hn : ∀ g a' w', Ext w w' → Hold H A (tBlk g T ⟨fl⟩ :: L) n ((d, .slice (some ⟨g, 0, none⟩) len len) :: m) (.s ops fr LI is) a' w' → At P fn R ks (.s ops fr LI is) a' w')
    (hE : chkE P t T k bytes = true) (hs : Nat.ble (len * k) 16777216 = true := by rfl) (hp : Nat.blt 0 (len * k) = true := by rfl) (hb : Nat.blt d n = true := by rfl) : At P fn R ks (.s ops fr LI (i :: is)) a w := by
  unfold bsV at e
  split at e
  case h_2 => cases e
  rename_i d' t' len' ps ty pos af gu hi
  split at e
  case h_2 => cases e
  rename_i hs' hg
  split at e
  case h_2 => cases e
  rename_i hm
  split at e
  case h_2 => cases e
  rename_i us fl' hbs
  split at e
  case h_2 => cases e
  rename_i hlen
  obtain rfl := Nat.eq_of_beq_eq_true hlen
  cases e
  have hgd : gd m ops (⟨some d, .buildSlice t us.length ⟨ps⟩, ty, pos, af, gu⟩ : Oper).guard [] [] = some (true, hs', []) := hg
  obtain ⟨-, hw⟩ := Z4a (o := ⟨some d, .buildSlice t us.length ⟨ps⟩, ty, pos, af, gu⟩) hgd trivial
  rw [Z0w] at hi
  have hi' : (⟨ops⟩ : Array Oper)[i]? = some ⟨some d, .buildSlice t us.length ⟨ps⟩, ty, pos, af, gu⟩ := by simpa using hi
  obtain ⟨E1, i0, z, hi0, hz, hsz, hby, hzs⟩ := Z5j hE
  obtain ⟨b1, b2, b3⟩ := bsP_ok h.M.opv k ps 0 us fl hbs
  have hp' := Nat.le_of_ble_eq_true hp
  have hk0 : 0 < k := by
    rcases Nat.eq_zero_or_pos k with rfl | h0
    · simp at hp'
    · exact h0
  have hfill : Instr.fill (fun i => some (i * i0.size, i0.size)) ((Array.range (us.length * i0.size)).map (z.cells[· % z.cells.size]!)) (ps.map fun (i, x) => (i, a.eval x)) = some ⟨fl⟩ := by
    rw [b1, hsz, b3]
    exact Great.fill_whole hk0 us _ b2 (by simp)
  have hrun : (execOp a.eval ⟨some d, .buildSlice t us.length ⟨ps⟩, ty, pos, af, gu⟩).run P w = .ok (.value (.slice (some ⟨w.heap.size, 0, none⟩) us.length us.length)) (w.alloc (.cells ⟨fl⟩ T)) := by
    unfold execOp
    simp only [Sem.run_bind]
    rw [run_buildSlice w t T us.length _ _ i0 z E1 hi0 hz (by rw [hsz]; have := Nat.le_of_ble_eq_true hs; omega) (by rw [hsz]; omega) (by simpa using hfill)]
    rfl
  clear hfill b1 b2 b3 hbs hs hp hp' hE hzs hby hi0
  have hE2 := Ext.alloc w (.cells ⟨fl⟩ T)
  refine ⟨_, hi', ?_⟩
  rw [hm]
  unfold wpOp
  simp only [hi', hw a h.M, if_true]
  have hfin : Ths (w.alloc (.cells ⟨fl⟩ T)) LI ∧ At P fn R ks (.s ops fr LI is) (a.put (some d) (.slice (some ⟨w.heap.size, 0, none⟩) us.length us.length)) (w.alloc (.cells ⟨fl⟩ T)) :=
    ⟨h.J.ext hE2, hn _ _ _ hE2 ⟨h.O.new T _, h.k.put _ _, h.M.put h.k hb _, h.J.ext hE2⟩⟩
  exact .inl (Z0z hrun hfin)
end

def nwX (T : TbG) (m : Mp) (ops : List Oper) (fr : List Nat) (i : Nat) : Option (Nat × TypeId × List Value) := match nthT ops i with
  | some ⟨some d, op, _, _, _, g⟩ => match gd m ops g [] [] with
    | some (true, _, []) => match memN fr i with
      | false => match nwV T m op with
        | some (t, cs) => some (d, t, cs)
        | none => none
      | true => none
    | _ => none
  | _ => none
def apV (m : Mp) (ops : List Oper) (fr : List Nat) (i : Nat) : Option (TypeId × Value × Nat × Nat) := match nthT ops i with
  | some ⟨some d, .call ⟨.builtin .append, ⟨[x, y]⟩, ⟨[t, t']⟩⟩, _, _, _, g⟩ => match gd m ops g [] [] with
    | some (true, _, []) => match memN fr i with
      | false => match Nat.beq t t' with
        | true => match opv m x with
          | some v => match opv m y with
            | some (.slice (some ⟨b, 0, none⟩) 1 1) => some (t, v, b, d)
            | _ => none
          | none => none
        | false => none
      | true => none
    | _ => none
  | _ => none
section
variable {fn : Func} {R : Ending → World → Prop} {H n : Nat} {A : World} {m : Mp} {a : Act} {w : World} {ops : List Oper} {fr is : List Nat} {LI : List Thing} {ks : List Kf} {L : List Thing} {i : Nat}
theorem gX {pc pc' : Pc} {ks' : List Kf} {L' : List Thing} {m' : Mp} {hs' : List Ht} {vc' : List Prop} {kb' : Bool} (h : Hold H A L n m pc a w) (hs : List Ht) (e : run tt n 1000 pc ks L m hs [] true = some ⟨pc', ks', L', m', hs', vc', kb'⟩)
    (hn : ∀ a w, Hold H A L' n m' pc' a w → At Try.prog fn R ks' pc' a w) (hv : AllP vc' := by (first | exact trivial | ((try simp only [AllP, inK, cellsAt, and_true, true_and]) <;> (repeat' apply And.intro) <;> first | exact trivial | omega | rfl | assumption | (simp; done) | (simp; omega)))) (hk : kb' = true := by kernel_rfl) : At Try.prog fn R ks pc a w :=
  exG Z2t tt_fo h hs 1000 e hk hv hn
theorem gC {f : FuncId} {args : List Value} {d : Nat} {vc : List Prop} {S : Ending → World → Prop} (h : Hold H A L n m (.s ops fr LI (i :: is)) a w) (e : clV m ops fr i [] = some (f, args, d, vc)) (hc : Calls Try.prog f ⟨args⟩ w S)
    (hn : ∀ e w', S e w' → ∃ v, e = .returned v ∧ ∃ L', OwnT H A L' w' ∧ Ths w' LI ∧ ∀ a', Hold H A L' n ((d, v) :: m) (.s ops fr LI is) a' w' → At Try.prog fn R ks (.s ops fr LI is) a' w')
    (hv : AllP vc := by trivial) (hok : okCall Try.prog f = true := by kernel_rfl) (hb : Nat.blt d n = true := by rfl) : At Try.prog fn R ks (.s ops fr LI (i :: is)) a w := clG h [] e hc hn hv hok hb
/-- A call that has a known value and leaves all things as they were. -/
theorem gE {f : FuncId} {args : List Value} {d : Nat} {vc : List Prop} {v : Value} (h : Hold H A L n m (.s ops fr LI (i :: is)) a w) (e : clV m ops fr i [] = some (f, args, d, vc)) (hc : Calls Try.prog f ⟨args⟩ w fun e w' => e = .returned v ∧ Ext w w')
    (hn : ∀ a' w', Ext w w' → Hold H A L n ((d, v) :: m) (.s ops fr LI is) a' w' → At Try.prog fn R ks (.s ops fr LI is) a' w')
    (hv : AllP vc := by trivial) (hok : okCall Try.prog f = true := by kernel_rfl) (hb : Nat.blt d n = true := by rfl) : At Try.prog fn R ks (.s ops fr LI (i :: is)) a w :=
  clG h [] e hc (fun e w' hS => ⟨v, hS.1, L, h.O.ext hS.2, h.J.ext hS.2, fun a' hh => hn a' w' hS.2 hh⟩) hv hok hb
theorem gR {v : Value} {vc : List Prop} (h : Hold H A L n m (.x .ret) a w) (e : retV tt m L fn.results.toList [] = some (v, vc)) (hr : R (.returned v) w) (hv : AllP vc := by trivial) : At Try.prog fn R [] (.x .ret) a w := rtG Z2t h [] e hv hr
theorem gN {v : Value} {vc : List Prop} (h : Hold H A L n m (.x .normal) a w) (e : retV tt m L fn.results.toList [] = some (v, vc)) (hr : R (.returned v) w) (hv : AllP vc := by trivial) : At Try.prog fn R [] (.x .normal) a w := enG Z2t h [] e hv hr
theorem gW {d : Nat} {t : TypeId} {cs : List Value} (h : Hold H A L n m (.s ops fr LI (i :: is)) a w) (e : nwX tt m ops fr i = some (d, t, cs))
    (hn : ∀ g a' w', Ext w w' → Hold H A (tBlk g t ⟨cs⟩ :: L) n ((d, .pointer (some ⟨g, 0, none⟩)) :: m) (.s ops fr LI is) a' w' → At Try.prog fn R ks (.s ops fr LI is) a' w') (hb : Nat.blt d n = true := by rfl) : At Try.prog fn R ks (.s ops fr LI (i :: is)) a w := by
  unfold nwX at e
  split at e
  case h_2 => cases e
  rename_i d' op ty pos af g hi
  split at e
  case h_2 => cases e
  rename_i hs' hg
  split at e
  case h_2 => cases e
  rename_i hm
  split at e
  case h_2 => cases e
  rename_i t' cs' hc
  cases e
  have hgd : gd m ops (⟨some d, op, ty, pos, af, g⟩ : Oper).guard [] [] = some (true, hs', []) := hg
  obtain ⟨-, hw⟩ := Z4a (o := ⟨some d, op, ty, pos, af, g⟩) hgd trivial
  rw [Z0w] at hi
  have hi' : (⟨ops⟩ : Array Oper)[i]? = some ⟨some d, op, ty, pos, af, g⟩ := by simpa using hi
  refine ⟨_, hi', ?_⟩
  rw [hm]
  unfold wpOp
  simp only [hi', hw a h.M, if_true]
  have hE := Ext.alloc w (.cells ⟨cs⟩ t)
  refine .inl (Z0z (nwV_run (o := ⟨some d, op, ty, pos, af, g⟩) Z2t hc h.M w) ⟨h.J.ext hE, ?_⟩)
  exact hn _ _ _ hE ⟨h.O.new t ⟨cs⟩, h.k.put _ _, h.M.put h.k hb _, h.J.ext hE⟩
/-- append of one element to a row: the new block is thing 0, the row at place ri of the others. -/
theorem gA {T k N g d bytes : Nat} {t : TypeId} {v : Value} {xs news : List Value} {L' : Nat → Nat → List Thing} (h : Hold H A (tBlk g T ⟨news⟩ :: L) n m (.s ops fr LI (i :: is)) a w) (e : apV m ops fr i = some (t, v, g, d)) (ri : Nat) (hr : L[ri]? = some (tRow T k v N xs))
    (hL : ∀ B c, setTh L ri (tRow T k (.slice (some ⟨B, 0, none⟩) (N + 1) c) (N + 1) (xs ++ news)) = some (L' B c)) (hbytes : (N + 1) * bytes ≤ 140737488355328) (hI : ∀ B c w', OwnT H A (L' B c) w' → Ths w' LI)
    (hn : ∀ B c a' w', Hold H A (L' B c) n ((d, .slice (some ⟨B, 0, none⟩) (N + 1) c) :: m) (.s ops fr LI is) a' w' → At Try.prog fn R ks (.s ops fr LI is) a' w')
    (hE : chkE Try.prog t T k bytes = true := by kernel_rfl) (hlen : news.length = k := by rfl) (h1 : news.all (·.oneCell') = true := by rfl) (hk : Nat.blt 0 k = true := by rfl) (h63 : N + 1 ≤ maxLen := by (simp only [maxLen]; omega)) (hb : Nat.blt d n = true := by rfl) : At Try.prog fn R ks (.s ops fr LI (i :: is)) a w := by
  unfold apV at e
  split at e
  case h_2 => cases e
  rename_i d' x y t1 t2 ty pos af gu hi
  split at e
  case h_2 => cases e
  rename_i hs' hg
  split at e
  case h_2 => cases e
  rename_i hm
  split at e
  case h_2 => cases e
  rename_i htt
  obtain rfl := Nat.eq_of_beq_eq_true htt
  split at e
  case h_2 => cases e
  rename_i v' hx
  split at e
  case h_2 => cases e
  rename_i b hy
  cases e
  have hgd : gd m ops (⟨some d, .call ⟨.builtin .append, ⟨[x, y]⟩, ⟨[t, t]⟩⟩, ty, pos, af, gu⟩ : Oper).guard [] [] = some (true, hs', []) := hg
  obtain ⟨-, hw⟩ := Z4a (o := ⟨some d, .call ⟨.builtin .append, ⟨[x, y]⟩, ⟨[t, t]⟩⟩, ty, pos, af, gu⟩) hgd trivial
  rw [Z0w] at hi
  have hi' : (⟨ops⟩ : Array Oper)[i]? = some ⟨some d, .call ⟨.builtin .append, ⟨[x, y]⟩, ⟨[t, t]⟩⟩, ty, pos, af, gu⟩ := by simpa using hi
  obtain ⟨E1, i0, z, hi0, hz, hs, hby, hzs⟩ := Z5j hE
  have O1 : OwnT H A (tRow T k v N xs :: tBlk g T ⟨news⟩ :: L.eraseIdx ri) w := h.O.perm (((Z3b L ri _ hr).cons _).trans (.swap _ _ _))
  obtain ⟨r, w', hrun, h3⟩ := O1.appendOne (P := Try.prog) t i0 z bytes E1 hi0 hz hs hby hzs (Nat.le_of_ble_eq_true hk) g T news O1.b1 hlen (List.all_eq_true.1 h1) h63 hbytes
  obtain ⟨B, c, rfl⟩ := OwnT.slice0 h3 (by omega)
  have O2 := OwnT.push ri hr h3.pick01
  rw [← Z3n _ _ _ _ (hL B c)] at O2
  refine ⟨_, hi', ?_⟩
  rw [hm]
  unfold wpOp
  simp only [hi', hw a h.M, if_true]
  refine .inl (Z0z (Z1e rfl (h.M.opv _ _ hx) (h.M.opv _ _ hy) (hrun _)) ⟨hI B c w' O2, ?_⟩)
  exact hn _ _ _ _ ⟨O2, h.k.put _ _, h.M.put h.k hb _, hI B c w' O2⟩
/-- A slice literal: a new block. -/
theorem gS {t d len bytes : Nat} {fl : List Value} (h : Hold H A L n m (.s ops fr LI (i :: is)) a w) (T k : Nat) (e : bsV m ops fr i k = some (t, d, fl, len))
    (hn : ∀ g a' w', Ext w w' → Hold H A (tBlk g T ⟨fl⟩ :: L) n ((d, .slice (some ⟨g, 0, none⟩) len len) :: m) (.s ops fr LI is) a' w' → At Try.prog fn R ks (.s ops fr LI is) a' w')
    (hE : chkE Try.prog t T k bytes = true := by kernel_rfl) (hs : Nat.ble (len * k) 16777216 = true := by rfl) (hp : Nat.blt 0 (len * k) = true := by rfl) (hb : Nat.blt d n = true := by rfl) : At Try.prog fn R ks (.s ops fr LI (i :: is)) a w := gSG h T k e hn hE hs hp hb
/-- Things told anew. -/
theorem Hold.with {pc : Pc} {L' : List Thing} (h : Hold H A L n m pc a w) (O : OwnT H A L' w) : Hold H A L' n m pc a w := ⟨O, h.k, h.M, h.J⟩
end

theorem Z2r {o : Oper} {ρ : Operand → Value} {x : Operand} {t u : TypeId} {v v' : Value} {w w' : World} (ho : o.op = .convert t u x) (hx : ρ x = v) (h : (convert t u v).run Try.prog w = .ok v' w') : (execOp ρ o).run Try.prog w = .ok (.value v') w' := by
  simp [execOp, ho, hx, h]

/-- 'string(b)': of a row whose cells are the bytes l. -/
theorem Z7a (w : World) (g off cap : Nat) (l : List UInt8) (n : Nat) (hn : l.length = n) (h : ∀ i, i < n → w.cell? ⟨g, off + i, none⟩ = some (.int .u8 ((l.getD i 0).toNat : Int))) :
    (convert 69 9 (.slice (some ⟨g, off, none⟩) n cap)).run Try.prog w = .ok (.string ⟨l.toArray⟩) w := by
  have hr := run_convert_bytes_arg (P := Try.prog) w 69 5 Try.underlying69 Try.underlying5 g off n cap (l.map fun b => (b.toNat : Int)) (by simpa using hn) (fun i hi => by
    have hil : i < l.length := by omega
    rw [h i hi]
    simp [List.getD, hil]) 9 Try.underlying9
  have hst : strOfNums (l.map fun b => (b.toNat : Int)) = ⟨l.toArray⟩ := by
    simp [strOfNums, List.map_map, Function.comp_def]
  rw [hr, hst]

theorem x_make {o : Oper} {ρ : Operand → Value} {x y : Operand} {t : TypeId} {v v' u : Value} {w w' : World} (ho : o.op = .makeSlice t x y) (hx : ρ x = v) (hy : ρ y = v') (h : (Instr.makeSlice t v v').run Try.prog w = .ok u w') : (execOp ρ o).run Try.prog w = .ok (.value u) w' := by
  simp [execOp, ho, hx, hy, h]
end Go.Proofs.Ytbfgacmfjfbooaa
