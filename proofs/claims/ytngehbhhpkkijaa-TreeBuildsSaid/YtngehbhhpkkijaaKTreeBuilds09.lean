/- append onto a row of the call's own whose head may be frozen: as the library's laws (Lib/FrozenHead, FrozenHead2), and besides: the new row is the old one or a new block. No program in sight. -/
import Derived.Test.YtngehbhhpkkijaaKTreeBuilds00
import Derived.Lib.FrozenHead2
import Derived.Test.YtngehbhhpkkijaaKTreeBuilds02
import Derived.Test.YtngehbhhpkkijaaKTreeBuilds05
import Derived.Test.YtngehbhhpkkijaaKTreeBuilds07
import Derived.Test.YtngehbhhpkkijaaKTreeBuilds08
import Derived.Test.YtngehbhhpkkijaaKTreeBuilds04
import Derived.Test.YtngehbhhpkkijaaKTreeBuilds03
namespace Go.Proofs.Ytngehbhhpkkijaa
set_option linter.unusedVariables false
set_option linter.unusedSimpArgs false
open Go Go.RowKit Go.Lib

theorem Z6r {w : World} {base base' : Nat} {e : TypeId} {size : Nat} {v : Value} {n : Nat} {xs : List Value} (h : w.ownsRowF base e size v n xs) (hb : base' ≤ base) : w.ownsRowF base' e size v n xs := by
  refine ⟨h.1, ?_⟩
  rcases h.2 with hn | ⟨g, cap, cur, fz, hv, hg, rest⟩
  · exact .inl hn
  · exact .inr ⟨g, cap, cur, fz, hv, Nat.le_trans hb hg, rest⟩
theorem Z5m {w w' : World} {e : TypeId} {size : Nat} {v : Value} {n : Nat} {xs : List Value} (h : w'.ownsRowF w.heap.size e size v n xs) : v.ownBlock = (Value.slice none 0 0).ownBlock ∨ ∃ k, v.ownBlock = some k ∧ w.heap.size ≤ k := by
  rcases h.2 with ⟨rfl, _⟩ | ⟨g, cap, cur, fz, rfl, hg, _⟩
  · exact .inl rfl
  · exact .inr ⟨g, rfl, hg⟩

section
variable {P : Program} (w : World)

theorem Z2z (base : Nat) (t ty e : TypeId) (i : TypeInfo) (z : Value) (size bytes : Nat) (ht : P.underlying t = some (.slice e)) (hi : P.info? e = some i) (hz : i.zero = some z)
    (hsize : i.size = size) (hby : i.bytes = bytes) (hzs : z.cells.size = size) (hsz : 0 < size)
    (v : Value) (n : Nat) (xs : List Value) (hown : w.ownsRowF base e size v n xs)
    (a : Addr) (m c : Nat) (news : List Value) (hl : news.length = m * size) (hnews : ∀ j u, news[j]? = some u → w.cell? (a.add j) = some u) (h1 : ∀ u ∈ news, u.oneCell' = true)
    (h63 : n + m ≤ maxLen) (hbytes : (n + m) * bytes ≤ 140737488355328) (hbase : base ≤ w.heap.size) :
    ∃ v' w', (Builtin.append_ #[t, t] ty #[v, .slice (some a) m c]).run P w = .ok v' w' ∧ w'.ownsRowF base e size v' (n + m) (xs ++ news) ∧ w.grownBy w' v.ownBlock ∧
      (v'.ownBlock = v.ownBlock ∨ ∃ k, v'.ownBlock = some k ∧ w.heap.size ≤ k) := by
  rcases hown.2 with ⟨rfl, rfl⟩ | ⟨g, cap, cur, fz, rfl, hbg, hg, hfz, hnc, hcm, hcs, htake⟩
  · obtain ⟨v', w', r1, r2, r3, r4⟩ := run_append_own (P := P) w w.heap.size t ty e i z size bytes ht hi hz hsize hby hzs hsz (.slice none 0 0) 0 xs ⟨hown.1, .inl ⟨rfl, rfl⟩⟩ a m c news hl hnews h1 h63 hbytes (Nat.le_refl _)
    exact ⟨v', w', r1, Z6r (World.ownsRowF_of r2) hbase, r3, Z5m (World.ownsRowF_of r2)⟩
  · subst hsize
    subst hby
    have hsmall : n + m ≤ 9223372036854775807 := by simp only [maxLen] at h63; omega
    have hlen : (xs ++ news).length = (n + m) * i.size := by rw [List.length_append, hown.1, hl, Nat.add_mul]
    by_cases hroom : n + m ≤ cap
    · have hfit : n * i.size + news.length ≤ cur.size := by rw [hl, hcs, ← Nat.add_mul]; exact Nat.mul_le_mul_right _ hroom
      have hr := run_append_roomF (P := P) w t ty e i ht hi g n cap cur fz hg hfz a m c news hl hnews h1 hroom hfit
      refine ⟨_, _, hr, ⟨hlen, .inr ⟨g, cap, _, fz, rfl, hbg, setRow_heap w g cur _ e _ hg, Nat.le_trans hfz (Nat.mul_le_mul_right _ (Nat.le_add_right n m)), hroom, hcm, ?_, ?_⟩⟩, ⟨rfl, rfl, rfl, by simp, fun k _ hk => setRow_other w g k _ (fun e => hk (by simp [Value.ownBlock, e]))⟩, .inl rfl⟩
      · simp only [List.size_toArray, List.length_append, List.length_take, List.length_drop, Array.length_toList]
        omega
      · rw [htake, ← hlen]
        exact List.take_left
    · have holds : ∀ j u, xs[j]? = some u → w.cell? ((⟨g, 0, none⟩ : Addr).add j) = some u := hown.cells (g := g) rfl
      have hr := run_append_grow (P := P) w t ty e i z ht hi hz ⟨g, 0, none⟩ n cap xs hown.1 holds a m c news hl hnews (by omega) (by omega) (growslice_fits (by omega) hbytes)
      have hge := grownCap_ge w (n + m) cap e
      have hcm2 : grownCap w (n + m) cap e ≤ maxLen := grownCap_le_maxLen w (n + m) cap e h63
      refine ⟨_, _, hr, ⟨hlen, .inr ⟨w.heap.size, _, _, (0, 0), rfl, hbase, _root_.Go.heap_alloc_new w.drew _, Nat.zero_le _, hge, hcm2, ?_, ?_⟩⟩, ⟨rfl, rfl, rfl, by simp, fun k hk _ => _root_.Go.heap_alloc_old w.drew _ hk⟩, .inr ⟨_, rfl, Nat.le_refl _⟩⟩
      · simp only [Array.size_append, List.size_toArray, size_zeroCells, hzs, hown.1, hl, ← Nat.add_mul]
        congr 1
        omega
      · simp only [Array.toList_append, List.append_assoc]
        rw [← List.append_assoc, ← hlen]
        exact List.take_left

end
end Go.Proofs.Ytngehbhhpkkijaa

/- A row that the call makes by append, beside blocks of its own. -/
namespace Go.Proofs.Ytngehbhhpkkijaa
set_option linter.unusedVariables false
set_option linter.unusedSimpArgs false
open Go.RowKit

/-- Blocks of one's own, and a row of one's own apart from them: n elements of c cells. -/
structure ORow (H : Nat) (A : World) (L : List BlkD) (e : TypeId) (c : Nat) (v : Value) (n : Nat) (cs : List Value) (w : World) : Prop where
  own : Own H A L w
  row : w.ownsRowF H e c v n cs
  apart : ∀ x ∈ L, v.ownBlock ≠ some x.1
/-- Blocks of other types than T stay as they are. -/
def KeepT (T : TypeId) (w w' : World) : Prop := ∀ k t cs, t ≠ T → Blk w k t cs → Blk w' k t cs
section
variable {H : Nat} {A w w' : World} {L L1 L2 : List BlkD} {e t T : TypeId} {c n m b : Nat} {v v' : Value} {xs ys : List Value} {cs cs' : Array Value}
theorem KeepT.refl (T : TypeId) (w : World) : KeepT T w w := fun _ _ _ _ h => h
theorem KeepT.of_ext (h : Ext w w') : KeepT T w w' := fun _ _ _ _ hb => hb.ext h
theorem ORow.start (h : Own H A L w) (e : TypeId) (c : Nat) : ORow H A L e c (.slice none 0 0) 0 [] w :=
  ⟨h, World.ownsRowF_nil w H e c, fun _ _ h => by simp [Value.ownBlock] at h⟩
theorem ORow.ext (h : ORow H A L e c v n xs w) (k : Ext w w') : ORow H A L e c v n xs w' :=
  ⟨h.own.ext k, h.row.kept (Z27 k none) (Classical.em _), h.apart⟩
theorem ORow.new (h : ORow H A L e c v n xs w) (t : TypeId) (cs : Array Value) : ORow H A ((w.heap.size, t, cs) :: L) e c v n xs (w.alloc (.cells cs t)) :=
  ⟨h.own.new t cs, h.row.kept (Z27 (Ext.alloc w _) none) (Classical.em _), fun x hx he => by
    rcases List.mem_cons.1 hx with rfl | hx
    · exact absurd (h.row.lt _ he).2 (by simp)
    · exact h.apart x hx he⟩
theorem ORow.put (h : ORow H A L e c v n xs w) (hL : L = L1 ++ (b, t, cs) :: L2) (cs' : Array Value) (hg : w.grownBy w' (some b)) (hb : Blk w' b t cs') : ORow H A (L1 ++ (b, t, cs') :: L2) e c v n xs w' := by
  refine ⟨h.own.put hL cs' hg hb, h.row.kept hg (.inr (h.apart (b, t, cs) (by rw [hL]; simp))), fun x hx => ?_⟩
  subst hL
  rcases List.mem_append.1 hx with hx | hx
  · exact h.apart x (by simp [hx])
  · rcases List.mem_cons.1 hx with rfl | hx
    · exact h.apart (b, t, cs) (by simp)
    · exact h.apart x (by simp [hx])
theorem ORow.set (h : ORow H A L e c v n xs w) (hL : L = L1 ++ (b, t, cs) :: L2) (i : Nat) (u : Value) : ORow H A (L1 ++ (b, t, cs.setIfInBounds i u) :: L2) e c v n xs (w.setCell ⟨b, i, none⟩ u) :=
  h.put hL _ (Z1k (World.grownBy.refl w _) (.inl rfl) u) ((h.own.all.mem (x := (b, t, cs)) (by rw [hL]; simp) : Blk w b t cs).set_ i u)
theorem ORow.grow (h : ORow H A L e c v n xs w) (h2 : w'.ownsRowF H e c v' m ys) (hg : w.grownBy w' v.ownBlock) (h4 : v'.ownBlock = v.ownBlock ∨ ∃ k, v'.ownBlock = some k ∧ w.heap.size ≤ k) : ORow H A L e c v' m ys w' := by
  refine ⟨?_, h2, fun x hx he => ?_⟩
  · cases hv : v.ownBlock with
    | none =>
      rw [hv] at hg
      exact h.own.ext ⟨hg.os, hg.tape, hg.output, hg.size, fun i hi => hg.block i hi (by simp)⟩
    | some g =>
      rw [hv] at hg
      exact h.own.far (h.row.lt g hv).1 (fun x hx e => h.apart x hx (by rw [hv, e])) hg
  · rcases h4 with h4 | ⟨k, h4, hk⟩
    · rw [h4] at he; exact h.apart x hx he
    · rw [h4] at he; injection he with he; have := h.own.lt hx; omega
theorem ORow.tail {x : BlkD} (h : ORow H A (x :: L) e c v n xs w) : ORow H A L e c v n xs w := ⟨h.own.tail, h.row, fun y hy => h.apart y (by simp [hy])⟩
theorem ORow.slice (h : ORow H A L e c v n xs w) : ∃ B cap, v = .slice B n cap := by
  rcases h.row.2 with ⟨rfl, rfl⟩ | ⟨g, cap, cur, fz, rfl, _⟩
  · exact ⟨none, 0, rfl⟩
  · exact ⟨some ⟨g, 0, none⟩, cap, rfl⟩
/-- It is a row of data. -/
theorem Z2p {E : Type} {enc : E → List Value} {c : Nat} (hc : ∀ x, (enc x).length = c) : ∀ (xs : List E) (i : Nat) (x : E) (j : Nat) (u : Value), xs[i]? = some x → (enc x)[j]? = some u → (xs.flatMap enc)[i * c + j]? = some u
  | [], i, x, j, u, h, _ => by simp at h
  | y :: ys, 0, x, j, u, h, hu => by
    simp at h
    subst h
    have hj : j < (enc y).length := (List.getElem?_eq_some_iff.1 hu).1
    rw [List.flatMap_cons, Nat.zero_mul, Nat.zero_add, List.getElem?_append_left hj]
    exact hu
  | y :: ys, i + 1, x, j, u, h, hu => by
    have := Z2p hc ys i x j u (by simpa using h) hu
    rw [List.flatMap_cons, List.getElem?_append_right (by rw [hc, Nat.add_mul]; omega), hc]
    rw [show (i + 1) * c + j - c = i * c + j by rw [Nat.add_mul]; omega]
    exact this
theorem ORow.rows {E : Type} {enc : E → List Value} {zs : List E} (h : ORow H A L e c v n (zs.flatMap enc) w) (hc : ∀ x, (enc x).length = c) (hn : zs.length = n) :
    ∃ B cap, v = .slice B n cap ∧ n ≤ cap ∧ cap ≤ maxLen ∧ Row w B c enc zs := by
  rcases h.row.2 with ⟨rfl, rfl⟩ | ⟨g, cap, cur, fz, rfl, hb, hg, hfz, hcap, hmax, hcs, ht⟩
  · refine ⟨none, 0, rfl, Nat.le_refl _, by decide, fun i x hx => ?_⟩
    have : zs = [] := List.length_eq_zero_iff.1 hn
    subst this
    simp at hx
  · refine ⟨some ⟨g, 0, none⟩, cap, rfl, hcap, hmax, fun i x hx => ⟨g, 0, rfl, (Array.getElem?_eq_some_iff.1 hg).1, fun j u hu => ?_⟩⟩
    have := h.row.cells (g := g) rfl (i * c + j) u (Z2p hc zs i x j u hx hu)
    have hadd : (⟨g, 0, none⟩ : Addr).add (i * c + j) = ⟨g, i * c + j, none⟩ := by unfold Addr.add; split <;> simp_all
    rw [hadd] at this
    rw [Nat.zero_add]
    exact this

variable {P : Program}
/-- append of elements that lie in a block. -/
theorem ORow.append {o : Oper} {a : Act} {K : Act → World → Prop} {Q : Exit → Act → World → Prop} (h : ORow H A L e c v n xs w) (s x : Operand) (t : TypeId)
    (ho : o.op = .call { callee := .builtin .append, args := #[s, x], argTypes := #[t, t] })
    (i : TypeInfo) (z : Value) (bytes : Nat) (ht : P.underlying t = some (.slice e)) (hi : P.info? e = some i) (hz : i.zero = some z)
    (hsize : i.size = c) (hby : i.bytes = bytes) (hzs : z.cells.size = c) (hsz : 0 < c)
    (hs : a.eval s = v) (g m cp : Nat) (news : List Value) (hx : a.eval x = .slice (some ⟨g, 0, none⟩) m cp) (tg : TypeId) (hb : Blk w g tg news.toArray) (hl : news.length = m * c) (h1 : ∀ u ∈ news, u.oneCell' = true)
    (h63 : n + m ≤ maxLen) (hbytes : (n + m) * bytes ≤ 140737488355328)
    (hk : ∀ v' w', ORow H A L e c v' (n + m) (xs ++ news) w' → w.grownBy w' v.ownBlock → K (a.put o.dst v') w') : o.wp P a w K Q := by
  obtain ⟨v', w', hr, h2, h3, h4⟩ := Z2z (P := P) w H t o.type e i z c bytes ht hi hz hsize hby hzs hsz v n xs h.row ⟨g, 0, none⟩ m cp news hl (fun j u hu => by
    have := hb.cell j
    have hadd : (⟨g, 0, none⟩ : Addr).add j = ⟨g, j, none⟩ := by unfold Addr.add; split <;> simp_all
    rw [hadd, this]
    simpa using hu) h1 h63 hbytes h.own.size
  unfold Oper.wp execOp
  simp only [ho, resolve, invoke, builtin, Sem.run_bind, Sem.run_pure, Result.andThen_ok, List.map_toArray, List.map_cons, List.map_nil, hs, hx, hr]
  exact hk _ _ (h.grow h2 h3 h4) h3
end
end Go.Proofs.Ytngehbhhpkkijaa

/- Rows and maps of one's own: what whole programs use. No function of a program in sight. -/
namespace Go.Proofs.Ytngehbhhpkkijaa
set_option linter.unusedVariables false
set_option linter.unusedSimpArgs false
open Go.RowKit Go.Maps Go.ChangeMaps Go.MapKept Go.WideShapes

theorem OwnT.newRow {H : Nat} {A w w' : World} {L : List Thing} {T : TypeId} {k n : Nat} {v : Value} {xs : List Value} (h : OwnT H A L w) (hE : Ext w w') (hr : w'.ownsRow w.heap.size T k v n xs) : OwnT H A (tRow T k v n xs :: L) w' := by
  refine h.cons hE (tRow T k v n xs) ⟨hr.1, ?_⟩ (fun i hi => (hr.lt i (by simpa [tRow] using hi)).1)
  rcases hr.2 with hn | ⟨g, cap, cur, h1, _, h2⟩
  · exact .inl hn
  · exact .inr ⟨g, cap, cur, h1, Nat.zero_le _, h2⟩
theorem OwnT.nilRow {H : Nat} {A w : World} {R : List Thing} (h : OwnT H A R w) (T : TypeId) (k : Nat) : OwnT H A (tRow T k (.slice none 0 0) 0 [] :: R) w :=
  h.cons (Ext.refl _) (tRow T k (.slice none 0 0) 0 []) (World.ownsRow_nil _ _ _ _) (fun i hi => by simp [tRow, Value.ownBlock] at hi)
section
variable {H : Nat} {A w : World} {R : List Thing} {T : TypeId} {k n : Nat} {v : Value} {xs : List Value}
theorem OwnT.rowBase (h : OwnT H A (tRow T k v n xs :: R) w) : w.ownsRow H T k v n xs := by
  have hr := h.r0
  refine ⟨hr.1, ?_⟩
  rcases hr.2 with hn | ⟨g, cap, cur, rfl, _, rest⟩
  · exact .inl hn
  · exact .inr ⟨g, cap, cur, rfl, h.high (tRow T k (.slice (some ⟨g, 0, none⟩) n cap) n xs) (by simp) g (by simp [tRow, Value.ownBlock]), rest⟩
theorem OwnT.appendOne {P : Program} (h : OwnT H A (tRow T k v n xs :: R) w) (t : TypeId) (i : TypeInfo) (z : Value) (bytes : Nat) (ht : P.underlying t = some (.slice T)) (hi : P.info? T = some i) (hz : i.zero = some z)
    (hsize : i.size = k) (hby : i.bytes = bytes) (hzs : z.cells.size = k) (hk : 0 < k) (g : Nat) (tg : TypeId) (news : List Value) (hb : Blk w g tg news.toArray) (hl : news.length = k) (h1 : ∀ u ∈ news, u.oneCell' = true)
    (h63 : n + 1 ≤ maxLen) (hbytes : (n + 1) * bytes ≤ 140737488355328) :
    ∃ v' w', (∀ ty, (Builtin.append_ #[t, t] ty #[v, .slice (some ⟨g, 0, none⟩) 1 1]).run P w = .ok v' w') ∧ OwnT H A (tRow T k v' (n + 1) (xs ++ news) :: R) w' := by
  obtain ⟨v', w', hrun, h2, h3, h4⟩ := Z1n (P := P) w t t T i z k bytes ht hi hz hsize hby hzs hk v n xs h.r0 ⟨g, 0, none⟩ 1 1 news (by omega) (fun j u hu => by
    have := hb.cell j
    have hadd : (⟨g, 0, none⟩ : Addr).add j = ⟨g, j, none⟩ := by unfold Addr.add; split <;> simp_all
    rw [hadd, this]
    simpa using hu) h1 h63 hbytes
  exact ⟨v', w', fun _ => hrun, h.row h2 h3 h4⟩
end
/-- A row of one's own as data. -/
theorem Z3i {E : Type} {enc : E → List Value} {k : Nat} (hk : ∀ x, (enc x).length = k) (hk0 : 0 < k) {w : World} {base n : Nat} {T : TypeId} {v : Value} {X : List E} (h : w.ownsRow base T k v n (X.flatMap enc)) : ∃ B cap, v = .slice B n cap ∧ n ≤ cap ∧ cap ≤ maxLen ∧ X.length = n ∧ Row w B k enc X := by
  have hfl : ∀ X : List E, (X.flatMap enc).length = X.length * k := fun X => by
    induction X with
    | nil => simp
    | cons x X ih => rw [List.flatMap_cons, List.length_append, ih, hk, List.length_cons, Nat.succ_mul]; omega
  have hl : X.length = n := by
    have := h.1
    rw [hfl] at this
    exact Nat.eq_of_mul_eq_mul_right hk0 this
  have hF := World.ownsRowF_of h
  rcases h.2 with ⟨rfl, rfl⟩ | ⟨g, cap, cur, rfl, hb, hg, hcap, hmax, hcs, ht⟩
  · refine ⟨none, 0, rfl, Nat.le_refl _, by decide, hl, fun i x hx => ?_⟩
    have : X = [] := List.length_eq_zero_iff.1 hl
    subst this
    simp at hx
  · refine ⟨some ⟨g, 0, none⟩, cap, rfl, hcap, hmax, hl, fun i x hx => ⟨g, 0, rfl, (Array.getElem?_eq_some_iff.1 hg).1, fun j u hu => ?_⟩⟩
    have := hF.cells (g := g) rfl (i * k + j) u (Z2p hk X i x j u hx hu)
    have hadd : (⟨g, 0, none⟩ : Addr).add (i * k + j) = ⟨g, i * k + j, none⟩ := by unfold Addr.add; split <;> simp_all
    rw [hadd] at this
    rw [Nat.zero_add]
    exact this
end Go.Proofs.Ytngehbhhpkkijaa

/- 'x.f = append(x.f, e)' in a region that draws its order. No function of the program in sight. -/
namespace Go.Proofs.Ytngehbhhpkkijaa
set_option linter.unusedVariables false
set_option linter.unusedSimpArgs false
open Go.RowKit

structure ElemI (P : Program) (t T : TypeId) (k bytes : Nat) : Prop where
  ht : P.underlying t = some (.slice T)
  info : ∃ i z, P.info? T = some i ∧ i.zero = some z ∧ i.size = k ∧ i.bytes = bytes ∧ z.cells.size = k
def AppI (H : Nat) (A : World) (T : TypeId) (k : Nat) (v : Value) (n : Nat) (xs : List Value) (g : Nat) (news : List Value) (G : List Thing) (b c : Bool) (w : World) : Prop :=
  if c = true then b = true ∧ ∃ v', OwnT H A (tRow T k v' (n + 1) (xs ++ news) :: tBlk g T news.toArray :: G) w
  else if b = true then OwnT H A (tRow T k v n xs :: tBlk g T news.toArray :: G) w
  else OwnT H A (tRow T k v n xs :: G) w ∧ w.heap.size = g
section
variable {P : Program} {H : Nat} {A : World} {T t : TypeId} {k n g bytes : Nat} {v : Value} {xs news : List Value} {G : List Thing} {b c : Bool} {w : World} {l : Nat → Bool} {ib ia : Nat} {M : Sem Next}
theorem AppI.start (h : OwnT H A (tRow T k v n xs :: G) w) : AppI H A T k v n xs w.heap.size news G false false w.drew := ⟨h.drew, rfl⟩
theorem AppI.own (h : AppI H A T k v n xs g news G b c w) : OwnT H A G w := by
  unfold AppI at h
  split at h
  · obtain ⟨_, v, h⟩ := h
    exact h.tail.tail
  · split at h
    · exact h.tail.tail
    · exact h.1.tail
theorem Z5e (h : AppI H A T k v n xs g news G (l ib) (l ia) w) (hl : l ib = false) (hne : ia ≠ ib)
    (hM : M.run P w = .ok (.value (.slice (some ⟨w.heap.size, 0, none⟩) 1 1)) (w.alloc (.cells news.toArray T))) :
    ∃ r w', M.run P w = .ok (.value r) w' ∧ (if l ia = true then Ext w w' else True) ∧ AppI H A T k v n xs g news G (upd l ib ib) (upd l ib ia) w' ∧ r = .slice (some ⟨g, 0, none⟩) 1 1 := by
  unfold AppI at h
  rw [hl] at h
  split at h
  · cases h.1
  · rename_i h14
    obtain ⟨h1, h2⟩ : OwnT H A (tRow T k v n xs :: G) w ∧ w.heap.size = g := by simpa using h
    refine ⟨_, _, hM, ?_, ?_, by rw [h2]⟩
    · rw [if_neg h14]; trivial
    · have e13 : upd l ib ib = true := if_pos rfl
      have e14 : upd l ib ia = l ia := if_neg hne
      unfold AppI
      rw [e13, e14, if_neg h14, if_pos rfl]
      have h3 := h1.new T news.toArray
      rw [h2] at h3
      exact h3.perm (.swap _ _ _)
theorem Z6d (h : AppI H A T k v n xs g news G (l ib) (l ia) w) (hl : l ia = false) (hb : l ib = true) (hne : ia ≠ ib) (E : ElemI P t T k bytes) (hk : 0 < k) (hlen : news.length = k) (h1 : ∀ u ∈ news, u.oneCell' = true) (h63 : n + 1 ≤ maxLen) (hbytes : (n + 1) * bytes ≤ 140737488355328) {ty : TypeId}
    (hM : ∀ r w', (Builtin.append_ #[t, t] ty #[v, .slice (some ⟨g, 0, none⟩) 1 1]).run P w = .ok r w' → M.run P w = .ok (.value r) w') :
    ∃ r w', M.run P w = .ok (.value r) w' ∧ (if l ia = true then Ext w w' else True) ∧ AppI H A T k v n xs g news G (upd l ia ib) (upd l ia ia) w' ∧ OwnT H A (tRow T k r (n + 1) (xs ++ news) :: tBlk g T news.toArray :: G) w' := by
  have h2 : OwnT H A (tRow T k v n xs :: tBlk g T news.toArray :: G) w := by
    unfold AppI at h
    rw [hl, hb] at h
    simpa using h
  obtain ⟨i, z, hi, hz, hs, hby, hzs⟩ := E.info
  obtain ⟨r, w', hrun, h3⟩ := h2.appendOne (P := P) t i z bytes E.ht hi hz hs hby hzs hk g T news h2.b1 hlen h1 h63 hbytes
  refine ⟨r, w', hM _ _ (hrun ty), by rw [hl]; simp, ?_, h3⟩
  have e13 : upd l ia ib = l ib := if_neg (fun e => hne e.symm)
  have e14 : upd l ia ia = true := if_pos rfl
  unfold AppI
  rw [e13, e14, if_pos rfl]
  exact ⟨hb, r, h3⟩
end
/-- A row that isn't empty: its slice. -/
theorem OwnT.slice0 {H : Nat} {A w : World} {L : List Thing} {T : TypeId} {k n : Nat} {v : Value} {xs : List Value} (h : OwnT H A (tRow T k v n xs :: L) w) (hn : 0 < n) : ∃ g cap, v = .slice (some ⟨g, 0, none⟩) n cap := by
  obtain ⟨g, cap, cur, h1, _⟩ := Z17 h.r0 hn
  exact ⟨g, cap, h1⟩
theorem Z3d {w : World} {base : Nat} {T : TypeId} {k n : Nat} {v : Value} {xs : List Value} (h : w.ownsRow base T k v n xs) : ∃ B cap, v = .slice B n cap := by
  rcases h.2 with ⟨rfl, rfl⟩ | ⟨g, cap, cur, rfl, _⟩
  · exact ⟨none, 0, rfl⟩
  · exact ⟨_, cap, rfl⟩
theorem OwnT.pick01 {H : Nat} {A w : World} {L : List Thing} {X Y : Thing} (h : OwnT H A (X :: Y :: L) w) : OwnT H A (X :: L) w := h.sub (.cons_cons _ (.cons _ (.refl _)))
end Go.Proofs.Ytngehbhhpkkijaa

/- Pages in memory, as things: the shelf's block, its row of nodes, the nodes' rows of pairs. -/
namespace Go.Proofs.Ytngehbhhpkkijaa
set_option linter.unusedVariables false
set_option linter.unusedSimpArgs false
open Go.RowKit Go.Maps

/-- The nodes' cells: their levels, their rows. -/
def leafV : List Value → List Nd → List Value
  | v :: vs, nd :: N => .int .i64 (nd.1 : Nat) :: v :: leafV vs N
  | _, _ => []
theorem Z50 : ∀ {vs : List Value} {N : List Nd} {v : Value} {nd : Nd}, vs.length = N.length → leafV (vs ++ [v]) (N ++ [nd]) = leafV vs N ++ [.int .i64 (nd.1 : Nat), v]
  | [], [], _, _, _ => rfl
  | _ :: vs, _ :: N, v, nd, h => by
    have := Z50 (vs := vs) (N := N) (v := v) (nd := nd) (by simpa using h)
    simp only [List.cons_append, leafV, this]
  | [], _ :: _, _, _, h => by cases h
  | _ :: _, [], _, _, h => by cases h
theorem Z68 : ∀ {vs : List Value} {N : List Nd} {i : Nat} {nd : Nd}, vs.length = N.length → N[i]? = some nd → ∃ v, vs[i]? = some v ∧ (leafV vs N)[i * 2]? = some (.int .i64 (nd.1 : Nat)) ∧ (leafV vs N)[i * 2 + 1]? = some v
  | [], [], _, _, _, h => by simp at h
  | v :: _, n :: _, 0, nd, _, h => by
    obtain rfl : n = nd := by simpa using h
    exact ⟨v, rfl, rfl, rfl⟩
  | _ :: vs, _ :: N, i + 1, nd, hl, h => by
    obtain ⟨v, h1, h2, h3⟩ := Z68 (vs := vs) (N := N) (i := i) (nd := nd) (by simpa using hl) (by simpa using h)
    refine ⟨v, by simpa using h1, ?_, ?_⟩
    · rw [show (i + 1) * 2 = i * 2 + 1 + 1 by omega]; simpa [leafV] using h2
    · rw [show (i + 1) * 2 + 1 = i * 2 + 1 + 1 + 1 by omega]; simpa [leafV] using h3
  | [], _ :: _, _, _, h, _ => by cases h
  | _ :: _, [], _, _, h, _ => by cases h
abbrev flatP (ps : List Pr) : List Value := ps.flatMap pairC
theorem Z0w (ps : List Pr) : (flatP ps).length = ps.length * 2 := by
  induction ps with
  | nil => rfl
  | cons x ps ih => rw [flatP, List.flatMap_cons, List.length_append, ih, List.length_cons]; show 2 + _ = _; omega
theorem Z1l (ps : List Pr) : ∀ u ∈ flatP ps, u.oneCell' = true := by
  intro u hu
  obtain ⟨x, _, hx⟩ := List.mem_flatMap.1 hu
  simp [pairC] at hx
  rcases hx with rfl | rfl <;> rfl
/-- A row of pairs as a thing. -/
abbrev tPs (v : Value) (ps : List Pr) : Thing := tRow 38 2 v ps.length (flatP ps)
def tPool (vs : List Value) (N : List Nd) : Thing where
  foot := vs.flatMap fun v => v.ownBlock.toList
  holds := fun w => vs.length = N.length ∧ ∀ i v nd, vs[i]? = some v → N[i]? = some nd → (tPs v nd.2).holds w
  keep := fun w w' hs h ⟨h1, h2⟩ => ⟨h1, fun i v nd hv hn => (tPs v nd.2).keep w w' hs (fun j hj => h j (List.mem_flatMap.2 ⟨v, List.mem_of_getElem? hv, hj⟩)) (h2 i v nd hv hn)⟩
  lt := fun w ⟨h1, h2⟩ i hi => by
    obtain ⟨v, hv, hj⟩ := List.mem_flatMap.1 hi
    obtain ⟨k, hk⟩ := List.getElem?_of_mem hv
    have hkl := (List.getElem?_eq_some_iff.1 hk).1
    exact (tPs v (N[k]'(by omega)).2).lt w (h2 k v _ hk (List.getElem?_eq_getElem (by omega))) i hj
section
variable {H : Nat} {A w w' : World} {R : List Thing} {X Y Z : Thing}
/-- Two things in one. -/
theorem OwnT.merge (h : OwnT H A (X :: Y :: R) w) (hz : Z.holds w) (hf : ∀ i ∈ Z.foot, i ∈ X.foot ∨ i ∈ Y.foot) : OwnT H A (Z :: R) w := by
  have hd := List.pairwise_cons.1 h.diff
  have hd2 := List.pairwise_cons.1 hd.2
  refine ⟨h.below, h.size, ⟨hz, h.all.2.2⟩, fun x hx i hi => ?_, List.Pairwise.cons (fun y hy i hi hj => ?_) hd2.2⟩
  · rcases List.mem_cons.1 hx with rfl | hx
    · rcases hf i hi with h1 | h1
      · exact h.high X (by simp) i h1
      · exact h.high Y (by simp) i h1
    · exact h.high x (by simp [hx]) i hi
  · rcases hf i hi with h1 | h1
    · exact hd.1 y (by simp [hy]) i h1 hj
    · exact hd2.1 y hy i h1 hj
theorem OwnT.poolAdd {vs : List Value} {N : List Nd} {v : Value} {l : Nat} {ps : List Pr} (h : OwnT H A (tPs v ps :: tPool vs N :: R) w) : OwnT H A (tPool (vs ++ [v]) (N ++ [(l, ps)]) :: R) w := by
  obtain ⟨h1, h2, _⟩ := h.all
  refine h.merge ⟨by rw [List.length_append, List.length_append, h2.1]; rfl, fun i u nd hu hn => ?_⟩ (fun i hi => ?_)
  · by_cases hi : i < N.length
    · rw [List.getElem?_append_left (by rw [h2.1]; exact hi)] at hu
      rw [List.getElem?_append_left hi] at hn
      exact h2.2 i u nd hu hn
    · rw [List.getElem?_append_right (by rw [h2.1]; omega)] at hu
      rw [List.getElem?_append_right (by omega)] at hn
      have e1 : i - N.length = 0 := by
        have := (List.getElem?_eq_some_iff.1 hn).1
        simpa using this
      rw [e1] at hn
      rw [h2.1, e1] at hu
      obtain rfl : v = u := by simpa using hu
      obtain rfl : (l, ps) = nd := by simpa using hn
      exact h1
  · show i ∈ (tPs v ps).foot ∨ _
    have hi : i ∈ (vs ++ [v]).flatMap fun v => v.ownBlock.toList := hi
    rw [List.flatMap_append] at hi
    rcases List.mem_append.1 hi with hi | hi
    · exact .inr hi
    · exact .inl (by simpa [tRow] using hi)
theorem pool_nil (h : OwnT H A R w) : OwnT H A (tPool [] [] :: R) w :=
  h.cons (Ext.refl w) _ ⟨rfl, fun i v nd hv => by simp at hv⟩ (fun i hi => by cases hi)
/-- A row of pairs: nil, or in a block. -/
def SlB (B : Option Addr) (cap : Nat) (ps : List Pr) : Prop := (B = none ∧ ps = [] ∧ cap = 0) ∨ ∃ g off, B = some ⟨g, off, none⟩
theorem Z0r {v : Value} {ps : List Pr} (h : (tPs v ps).holds w) : ∃ B cap, v = .slice B ps.length cap ∧ ps.length ≤ cap ∧ cap ≤ maxLen ∧ Row w B 2 pairC ps ∧ SlB B cap ps := by
  obtain ⟨B, cap, e, h1, h2, _, h4⟩ := Z3i (enc := pairC) (X := ps) (fun _ => rfl) (by decide) h
  refine ⟨B, cap, e, h1, h2, h4, ?_⟩
  rcases h.2 with ⟨e1, e2⟩ | ⟨g, cap', cur, e1, _⟩
  · rw [e] at e1
    injection e1 with e1 _ e3
    exact .inl ⟨e1, List.eq_nil_of_length_eq_zero e2, e3⟩
  · rw [e] at e1
    injection e1 with e1
    exact .inr ⟨g, 0, e1⟩
end
/-- A shelf: its block, its nodes, their rows. -/
abbrev shT (sb : Nat) (room : Int) (B : Option Addr) (cap : Nat) (vs : List Value) (N : List Nd) (R : List Thing) : List Thing :=
  tBlk sb 28 #[.slice B N.length cap, .int .i64 room] :: tRow 125 2 (.slice B N.length cap) N.length (leafV vs N) :: tPool vs N :: R
section
variable {H : Nat} {A w w' : World} {R : List Thing} {sb cap : Nat} {room : Int} {B : Option Addr} {vs : List Value} {N : List Nd}
theorem sh_len (h : OwnT H A (shT sb room B cap vs N R) w) : vs.length = N.length := h.all.2.2.1.1
/-- The node of a page, in memory. -/
theorem sh_node (h : OwnT H A (shT sb room B cap vs N R) w) {i : Nat} {nd : Nd} (hi : N[i]? = some nd) : ∃ g v, B = some ⟨g, 0, none⟩ ∧ (tPs v nd.2).holds w ∧ w.cell? ⟨g, i * 2, none⟩ = some (.int .i64 (nd.1 : Nat)) ∧ w.cell? ⟨g, i * 2 + 1, none⟩ = some v := by
  obtain ⟨h1, h2, h3, _⟩ := h.all
  obtain ⟨v, hv, c0, c1⟩ := Z68 h3.1 hi
  have hil := (List.getElem?_eq_some_iff.1 hi).1
  obtain ⟨g, cap', cur, e, hg, _, _, hcs, htk⟩ := Z17 h2 (by omega)
  injection e with e1 _ e3
  subst e1 e3
  refine ⟨g, v, rfl, h3.2 i v nd hv hi, ?_, ?_⟩
  · rw [hg.cell, ← c0, ← htk, List.getElem?_take_of_lt (by omega)]; simp
  · rw [hg.cell, ← c1, ← htk, List.getElem?_take_of_lt (by omega)]; simp
theorem sh_nil {R : List Thing} (h : OwnT H A (tBlk sb 28 #[.slice none 0 0, .int .i64 room] :: R) w) : OwnT H A (shT sb room none 0 [] [] R) w :=
  ((pool_nil h).nilRow 125 2).perm (((List.Perm.swap _ _ _).cons _).trans (List.Perm.swap _ _ _))
end
end Go.Proofs.Ytngehbhhpkkijaa
