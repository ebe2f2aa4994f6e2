/- Maps: a store at a key that is there, in the round of a range over that very map; what is left behind maps.DeleteFunc. No program in sight. -/
import Derived.Test.YtdeocidlkpbhcaaKReachShares00
import Derived.Maps.RangeWalk
import Derived.Maps.Ext
import Derived.Lib.SlMapFilter
import Derived.Lib.FrozenHead2
import Derived.Test.YtdeocidlkpbhcaaKReachShares05
import Derived.Test.YtdeocidlkpbhcaaKReachShares02
import Derived.Test.YtdeocidlkpbhcaaKReachShares07
import Derived.Test.YtdeocidlkpbhcaaKReachShares06
namespace Go.Proofs.Ytdeocidlkpbhcaa
set_option linter.unusedVariables false
set_option linter.unusedSimpArgs false
open Go.RowKit Go.Maps Go.ChangeMaps Go.MapKept Go.WideShapes
open Go.WideElems (Fit rd rg pl rd_key rd_val rg_of rd_mk other_key)

section
variable {H : Type} {P : Program} {k : TypeId} {R : Value → Option (DataW H × List MemPlace)} {w : World} {b r n : Nat} {D : DataW H} {left : Lit → Bool} {cnt : Nat}

theorem has_mem {es : List (Lit × DataW H)} {kl : Lit} (h : Maps.has (.map es) kl = true) : ∃ d, (kl, d) ∈ es := by
  obtain ⟨p, hp, hs⟩ := List.any_eq_true.1 h
  have := WideAt.sameKey_eq hs
  exact ⟨p.2, by rw [← this]; exact hp⟩
end
end Go.Proofs.Ytdeocidlkpbhcaa

/- append onto a row of the call's own whose head may be frozen: as the library's laws (Lib/FrozenHead, FrozenHead2), and besides: the new row is the old one or a new block. No program in sight. -/
namespace Go.Proofs.Ytdeocidlkpbhcaa
set_option linter.unusedVariables false
set_option linter.unusedSimpArgs false
open Go Go.RowKit Go.Lib

theorem Z77 {w : World} {base base' : Nat} {e : TypeId} {size : Nat} {v : Value} {n : Nat} {xs : List Value} (h : w.ownsRowF base e size v n xs) (hb : base' ≤ base) : w.ownsRowF base' e size v n xs := by
  refine ⟨h.1, ?_⟩
  rcases h.2 with hn | ⟨g, cap, cur, fz, hv, hg, rest⟩
  · exact .inl hn
  · exact .inr ⟨g, cap, cur, fz, hv, Nat.le_trans hb hg, rest⟩
theorem Z63 {w w' : World} {e : TypeId} {size : Nat} {v : Value} {n : Nat} {xs : List Value} (h : w'.ownsRowF w.heap.size e size v n xs) : v.ownBlock = (Value.slice none 0 0).ownBlock ∨ ∃ k, v.ownBlock = some k ∧ w.heap.size ≤ k := by
  rcases h.2 with ⟨rfl, _⟩ | ⟨g, cap, cur, fz, rfl, hg, _⟩
  · exact .inl rfl
  · exact .inr ⟨g, rfl, hg⟩

section
variable {P : Program} (w : World)

theorem Z3o (base : Nat) (t ty e : TypeId) (i : TypeInfo) (z : Value) (size bytes : Nat) (ht : P.underlying t = some (.slice e)) (hi : P.info? e = some i) (hz : i.zero = some z)
    (hsize : i.size = size) (hby : i.bytes = bytes) (hzs : z.cells.size = size) (hsz : 0 < size)
    (v : Value) (n : Nat) (xs : List Value) (hown : w.ownsRowF base e size v n xs)
    (a : Addr) (m c : Nat) (news : List Value) (hl : news.length = m * size) (hnews : ∀ j u, news[j]? = some u → w.cell? (a.add j) = some u) (h1 : ∀ u ∈ news, u.oneCell' = true)
    (h63 : n + m ≤ maxLen) (hbytes : (n + m) * bytes ≤ 140737488355328) (hbase : base ≤ w.heap.size) :
    ∃ v' w', (Builtin.append_ #[t, t] ty #[v, .slice (some a) m c]).run P w = .ok v' w' ∧ w'.ownsRowF base e size v' (n + m) (xs ++ news) ∧ w.grownBy w' v.ownBlock ∧
      (v'.ownBlock = v.ownBlock ∨ ∃ k, v'.ownBlock = some k ∧ w.heap.size ≤ k) := by
  rcases hown.2 with ⟨rfl, rfl⟩ | ⟨g, cap, cur, fz, rfl, hbg, hg, hfz, hnc, hcm, hcs, htake⟩
  · obtain ⟨v', w', r1, r2, r3, r4⟩ := run_append_own (P := P) w w.heap.size t ty e i z size bytes ht hi hz hsize hby hzs hsz (.slice none 0 0) 0 xs ⟨hown.1, .inl ⟨rfl, rfl⟩⟩ a m c news hl hnews h1 h63 hbytes (Nat.le_refl _)
    exact ⟨v', w', r1, Z77 (World.ownsRowF_of r2) hbase, r3, Z63 (World.ownsRowF_of r2)⟩
  · subst hsize
    subst hby
    have hsmall : n + m ≤ 9223372036854775807 := by simp only [maxLen] at h63; omega
    have hlen : (xs ++ news).length = (n + m) * i.size := by rw [List.length_append, hown.1, hl, Nat.add_mul]
    by_cases hroom : n + m ≤ cap
    · have hfit : n * i.size + news.length ≤ cur.size := by rw [hl, hcs, ← Nat.add_mul]; exact Nat.mul_le_mul_right _ hroom
      have hr := run_append_roomF (P := P) w t ty e i ht hi g n cap cur fz hg hfz a m c news hl hnews h1 hroom hfit
      refine ⟨_, _, hr, ⟨hlen, .inr ⟨g, cap, _, fz, rfl, hbg, setRow_heap w g cur _ e _ hg, Nat.le_trans hfz (Nat.mul_le_mul_right _ (Nat.le_add_right n m)), hroom, hcm, ?_, ?_⟩⟩, ⟨rfl, rfl, rfl, by simp, fun k _ hk => setRow_other w g k _ (fun e => hk (by simp [Value.ownBlock, e]))⟩, .inl rfl⟩
      · simp only [List.size_toArray, List.length_append, List.length_take, List.length_drop, Array.length_toList]
        omega
      · rw [htake, ← hlen]
        exact List.take_left
    · have holds : ∀ j u, xs[j]? = some u → w.cell? ((⟨g, 0, none⟩ : Addr).add j) = some u := hown.cells (g := g) rfl
      have hr := run_append_grow (P := P) w t ty e i z ht hi hz ⟨g, 0, none⟩ n cap xs hown.1 holds a m c news hl hnews (by omega) (by omega) (growslice_fits (by omega) hbytes)
      have hge := grownCap_ge w (n + m) cap e
      have hcm2 : grownCap w (n + m) cap e ≤ maxLen := grownCap_le_maxLen w (n + m) cap e h63
      refine ⟨_, _, hr, ⟨hlen, .inr ⟨w.heap.size, _, _, (0, 0), rfl, hbase, _root_.Go.heap_alloc_new w.drew _, Nat.zero_le _, hge, hcm2, ?_, ?_⟩⟩, ⟨rfl, rfl, rfl, by simp, fun k hk _ => _root_.Go.heap_alloc_old w.drew _ hk⟩, .inr ⟨_, rfl, Nat.le_refl _⟩⟩
      · simp only [Array.size_append, List.size_toArray, size_zeroCells, hzs, hown.1, hl, ← Nat.add_mul]
        congr 1
        omega
      · simp only [Array.toList_append, List.append_assoc]
        rw [← List.append_assoc, ← hlen]
        exact List.take_left

end
end Go.Proofs.Ytdeocidlkpbhcaa

/- A row that the call makes by append, beside blocks of its own. -/
namespace Go.Proofs.Ytdeocidlkpbhcaa
set_option linter.unusedVariables false
set_option linter.unusedSimpArgs false
open Go.RowKit

/-- Blocks of one's own, and a row of one's own apart from them: n elements of c cells. -/
structure ORow (H : Nat) (A : World) (L : List BlkD) (e : TypeId) (c : Nat) (v : Value) (n : Nat) (cs : List Value) (w : World) : Prop where
  own : Own H A L w
  row : w.ownsRowF H e c v n cs
  apart : ∀ x ∈ L, v.ownBlock ≠ some x.1
/-- Blocks of other types than T stay as they are. -/
def KeepT (T : TypeId) (w w' : World) : Prop := ∀ k t cs, t ≠ T → Blk w k t cs → Blk w' k t cs
section
variable {H : Nat} {A w w' : World} {L L1 L2 : List BlkD} {e t T : TypeId} {c n m b : Nat} {v v' : Value} {xs ys : List Value} {cs cs' : Array Value}
theorem KeepT.refl (T : TypeId) (w : World) : KeepT T w w := fun _ _ _ _ h => h
theorem KeepT.of_ext (h : Ext w w') : KeepT T w w' := fun _ _ _ _ hb => hb.ext h
theorem ORow.start (h : Own H A L w) (e : TypeId) (c : Nat) : ORow H A L e c (.slice none 0 0) 0 [] w :=
  ⟨h, World.ownsRowF_nil w H e c, fun _ _ h => by simp [Value.ownBlock] at h⟩
theorem ORow.ext (h : ORow H A L e c v n xs w) (k : Ext w w') : ORow H A L e c v n xs w' :=
  ⟨h.own.ext k, h.row.kept (Z2f k none) (Classical.em _), h.apart⟩
theorem ORow.new (h : ORow H A L e c v n xs w) (t : TypeId) (cs : Array Value) : ORow H A ((w.heap.size, t, cs) :: L) e c v n xs (w.alloc (.cells cs t)) :=
  ⟨h.own.new t cs, h.row.kept (Z2f (Ext.alloc w _) none) (Classical.em _), fun x hx he => by
    rcases List.mem_cons.1 hx with rfl | hx
    · exact absurd (h.row.lt _ he).2 (by simp)
    · exact h.apart x hx he⟩
theorem ORow.put (h : ORow H A L e c v n xs w) (hL : L = L1 ++ (b, t, cs) :: L2) (cs' : Array Value) (hg : w.grownBy w' (some b)) (hb : Blk w' b t cs') : ORow H A (L1 ++ (b, t, cs') :: L2) e c v n xs w' := by
  refine ⟨h.own.put hL cs' hg hb, h.row.kept hg (.inr (h.apart (b, t, cs) (by rw [hL]; simp))), fun x hx => ?_⟩
  subst hL
  rcases List.mem_append.1 hx with hx | hx
  · exact h.apart x (by simp [hx])
  · rcases List.mem_cons.1 hx with rfl | hx
    · exact h.apart (b, t, cs) (by simp)
    · exact h.apart x (by simp [hx])
theorem ORow.set (h : ORow H A L e c v n xs w) (hL : L = L1 ++ (b, t, cs) :: L2) (i : Nat) (u : Value) : ORow H A (L1 ++ (b, t, cs.setIfInBounds i u) :: L2) e c v n xs (w.setCell ⟨b, i, none⟩ u) :=
  h.put hL _ (Z1s (World.grownBy.refl w _) (.inl rfl) u) ((h.own.all.mem (x := (b, t, cs)) (by rw [hL]; simp) : Blk w b t cs).set_ i u)
theorem ORow.grow (h : ORow H A L e c v n xs w) (h2 : w'.ownsRowF H e c v' m ys) (hg : w.grownBy w' v.ownBlock) (h4 : v'.ownBlock = v.ownBlock ∨ ∃ k, v'.ownBlock = some k ∧ w.heap.size ≤ k) : ORow H A L e c v' m ys w' := by
  refine ⟨?_, h2, fun x hx he => ?_⟩
  · cases hv : v.ownBlock with
    | none =>
      rw [hv] at hg
      exact h.own.ext ⟨hg.os, hg.tape, hg.output, hg.size, fun i hi => hg.block i hi (by simp)⟩
    | some g =>
      rw [hv] at hg
      exact h.own.far (h.row.lt g hv).1 (fun x hx e => h.apart x hx (by rw [hv, e])) hg
  · rcases h4 with h4 | ⟨k, h4, hk⟩
    · rw [h4] at he; exact h.apart x hx he
    · rw [h4] at he; injection he with he; have := h.own.lt hx; omega
theorem ORow.tail {x : BlkD} (h : ORow H A (x :: L) e c v n xs w) : ORow H A L e c v n xs w := ⟨h.own.tail, h.row, fun y hy => h.apart y (by simp [hy])⟩
theorem ORow.slice (h : ORow H A L e c v n xs w) : ∃ B cap, v = .slice B n cap := by
  rcases h.row.2 with ⟨rfl, rfl⟩ | ⟨g, cap, cur, fz, rfl, _⟩
  · exact ⟨none, 0, rfl⟩
  · exact ⟨some ⟨g, 0, none⟩, cap, rfl⟩
/-- It is a row of data. -/
theorem Z34 {E : Type} {enc : E → List Value} {c : Nat} (hc : ∀ x, (enc x).length = c) : ∀ (xs : List E) (i : Nat) (x : E) (j : Nat) (u : Value), xs[i]? = some x → (enc x)[j]? = some u → (xs.flatMap enc)[i * c + j]? = some u
  | [], i, x, j, u, h, _ => by simp at h
  | y :: ys, 0, x, j, u, h, hu => by
    simp at h
    subst h
    have hj : j < (enc y).length := (List.getElem?_eq_some_iff.1 hu).1
    rw [List.flatMap_cons, Nat.zero_mul, Nat.zero_add, List.getElem?_append_left hj]
    exact hu
  | y :: ys, i + 1, x, j, u, h, hu => by
    have := Z34 hc ys i x j u (by simpa using h) hu
    rw [List.flatMap_cons, List.getElem?_append_right (by rw [hc, Nat.add_mul]; omega), hc]
    rw [show (i + 1) * c + j - c = i * c + j by rw [Nat.add_mul]; omega]
    exact this
theorem ORow.rows {E : Type} {enc : E → List Value} {zs : List E} (h : ORow H A L e c v n (zs.flatMap enc) w) (hc : ∀ x, (enc x).length = c) (hn : zs.length = n) :
    ∃ B cap, v = .slice B n cap ∧ n ≤ cap ∧ cap ≤ maxLen ∧ Row w B c enc zs := by
  rcases h.row.2 with ⟨rfl, rfl⟩ | ⟨g, cap, cur, fz, rfl, hb, hg, hfz, hcap, hmax, hcs, ht⟩
  · refine ⟨none, 0, rfl, Nat.le_refl _, by decide, fun i x hx => ?_⟩
    have : zs = [] := List.length_eq_zero_iff.1 hn
    subst this
    simp at hx
  · refine ⟨some ⟨g, 0, none⟩, cap, rfl, hcap, hmax, fun i x hx => ⟨g, 0, rfl, (Array.getElem?_eq_some_iff.1 hg).1, fun j u hu => ?_⟩⟩
    have := h.row.cells (g := g) rfl (i * c + j) u (Z34 hc zs i x j u hx hu)
    have hadd : (⟨g, 0, none⟩ : Addr).add (i * c + j) = ⟨g, i * c + j, none⟩ := by unfold Addr.add; split <;> simp_all
    rw [hadd] at this
    rw [Nat.zero_add]
    exact this

variable {P : Program}
/-- append of elements that lie in a block. -/
theorem ORow.append {o : Oper} {a : Act} {K : Act → World → Prop} {Q : Exit → Act → World → Prop} (h : ORow H A L e c v n xs w) (s x : Operand) (t : TypeId)
    (ho : o.op = .call { callee := .builtin .append, args := #[s, x], argTypes := #[t, t] })
    (i : TypeInfo) (z : Value) (bytes : Nat) (ht : P.underlying t = some (.slice e)) (hi : P.info? e = some i) (hz : i.zero = some z)
    (hsize : i.size = c) (hby : i.bytes = bytes) (hzs : z.cells.size = c) (hsz : 0 < c)
    (hs : a.eval s = v) (g m cp : Nat) (news : List Value) (hx : a.eval x = .slice (some ⟨g, 0, none⟩) m cp) (tg : TypeId) (hb : Blk w g tg news.toArray) (hl : news.length = m * c) (h1 : ∀ u ∈ news, u.oneCell' = true)
    (h63 : n + m ≤ maxLen) (hbytes : (n + m) * bytes ≤ 140737488355328)
    (hk : ∀ v' w', ORow H A L e c v' (n + m) (xs ++ news) w' → w.grownBy w' v.ownBlock → K (a.put o.dst v') w') : o.wp P a w K Q := by
  obtain ⟨v', w', hr, h2, h3, h4⟩ := Z3o (P := P) w H t o.type e i z c bytes ht hi hz hsize hby hzs hsz v n xs h.row ⟨g, 0, none⟩ m cp news hl (fun j u hu => by
    have := hb.cell j
    have hadd : (⟨g, 0, none⟩ : Addr).add j = ⟨g, j, none⟩ := by unfold Addr.add; split <;> simp_all
    rw [hadd, this]
    simpa using hu) h1 h63 hbytes h.own.size
  unfold Oper.wp execOp
  simp only [ho, resolve, invoke, builtin, Sem.run_bind, Sem.run_pure, Result.andThen_ok, List.map_toArray, List.map_cons, List.map_nil, hs, hx, hr]
  exact hk _ _ (h.grow h2 h3 h4) h3
end
end Go.Proofs.Ytdeocidlkpbhcaa

/- Rows and maps of one's own: what whole programs use. No function of a program in sight. -/
namespace Go.Proofs.Ytdeocidlkpbhcaa
set_option linter.unusedVariables false
set_option linter.unusedSimpArgs false
open Go.RowKit Go.Maps Go.ChangeMaps Go.MapKept Go.WideShapes

theorem OwnT.newRow {H : Nat} {A w w' : World} {L : List Thing} {T : TypeId} {k n : Nat} {v : Value} {xs : List Value} (h : OwnT H A L w) (hE : Ext w w') (hr : w'.ownsRow w.heap.size T k v n xs) : OwnT H A (tRow T k v n xs :: L) w' := by
  refine h.cons hE (tRow T k v n xs) ⟨hr.1, ?_⟩ (fun i hi => (hr.lt i (by simpa [tRow] using hi)).1)
  rcases hr.2 with hn | ⟨g, cap, cur, h1, _, h2⟩
  · exact .inl hn
  · exact .inr ⟨g, cap, cur, h1, Nat.zero_le _, h2⟩
theorem OwnT.nilRow {H : Nat} {A w : World} {R : List Thing} (h : OwnT H A R w) (T : TypeId) (k : Nat) : OwnT H A (tRow T k (.slice none 0 0) 0 [] :: R) w :=
  h.cons (Ext.refl _) (tRow T k (.slice none 0 0) 0 []) (World.ownsRow_nil _ _ _ _) (fun i hi => by simp [tRow, Value.ownBlock] at hi)
section
variable {H : Nat} {A w : World} {R : List Thing} {T : TypeId} {k n : Nat} {v : Value} {xs : List Value}
theorem OwnT.rowBase (h : OwnT H A (tRow T k v n xs :: R) w) : w.ownsRow H T k v n xs := by
  have hr := h.r0
  refine ⟨hr.1, ?_⟩
  rcases hr.2 with hn | ⟨g, cap, cur, rfl, _, rest⟩
  · exact .inl hn
  · exact .inr ⟨g, cap, cur, rfl, h.high (tRow T k (.slice (some ⟨g, 0, none⟩) n cap) n xs) (by simp) g (by simp [tRow, Value.ownBlock]), rest⟩
theorem OwnT.appendOne {P : Program} (h : OwnT H A (tRow T k v n xs :: R) w) (t : TypeId) (i : TypeInfo) (z : Value) (bytes : Nat) (ht : P.underlying t = some (.slice T)) (hi : P.info? T = some i) (hz : i.zero = some z)
    (hsize : i.size = k) (hby : i.bytes = bytes) (hzs : z.cells.size = k) (hk : 0 < k) (g : Nat) (tg : TypeId) (news : List Value) (hb : Blk w g tg news.toArray) (hl : news.length = k) (h1 : ∀ u ∈ news, u.oneCell' = true)
    (h63 : n + 1 ≤ maxLen) (hbytes : (n + 1) * bytes ≤ 140737488355328) :
    ∃ v' w', (∀ ty, (Builtin.append_ #[t, t] ty #[v, .slice (some ⟨g, 0, none⟩) 1 1]).run P w = .ok v' w') ∧ OwnT H A (tRow T k v' (n + 1) (xs ++ news) :: R) w' := by
  obtain ⟨v', w', hrun, h2, h3, h4⟩ := Z1t (P := P) w t t T i z k bytes ht hi hz hsize hby hzs hk v n xs h.r0 ⟨g, 0, none⟩ 1 1 news (by omega) (fun j u hu => by
    have := hb.cell j
    have hadd : (⟨g, 0, none⟩ : Addr).add j = ⟨g, j, none⟩ := by unfold Addr.add; split <;> simp_all
    rw [hadd, this]
    simpa using hu) h1 h63 hbytes
  exact ⟨v', w', fun _ => hrun, h.row h2 h3 h4⟩
end
/-- A row of one's own as data. -/
theorem Z2e {E : Type} {enc : E → List Value} {k : Nat} (hk : ∀ x, (enc x).length = k) (hk0 : 0 < k) {w : World} {base n : Nat} {T : TypeId} {v : Value} {X : List E} (h : w.ownsRow base T k v n (X.flatMap enc)) : ∃ B cap, v = .slice B n cap ∧ n ≤ cap ∧ cap ≤ maxLen ∧ X.length = n ∧ Row w B k enc X := by
  have hfl : ∀ X : List E, (X.flatMap enc).length = X.length * k := fun X => by
    induction X with
    | nil => simp
    | cons x X ih => rw [List.flatMap_cons, List.length_append, ih, hk, List.length_cons, Nat.succ_mul]; omega
  have hl : X.length = n := by
    have := h.1
    rw [hfl] at this
    exact Nat.eq_of_mul_eq_mul_right hk0 this
  have hF := World.ownsRowF_of h
  rcases h.2 with ⟨rfl, rfl⟩ | ⟨g, cap, cur, rfl, hb, hg, hcap, hmax, hcs, ht⟩
  · refine ⟨none, 0, rfl, Nat.le_refl _, by decide, hl, fun i x hx => ?_⟩
    have : X = [] := List.length_eq_zero_iff.1 hl
    subst this
    simp at hx
  · refine ⟨some ⟨g, 0, none⟩, cap, rfl, hcap, hmax, hl, fun i x hx => ⟨g, 0, rfl, (Array.getElem?_eq_some_iff.1 hg).1, fun j u hu => ?_⟩⟩
    have := hF.cells (g := g) rfl (i * k + j) u (Z34 hk X i x j u hx hu)
    have hadd : (⟨g, 0, none⟩ : Addr).add (i * k + j) = ⟨g, i * k + j, none⟩ := by unfold Addr.add; split <;> simp_all
    rw [hadd] at this
    rw [Nat.zero_add]
    exact this
end Go.Proofs.Ytdeocidlkpbhcaa
