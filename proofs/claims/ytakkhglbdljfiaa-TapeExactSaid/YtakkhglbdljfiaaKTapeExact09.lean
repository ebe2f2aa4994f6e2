/- Rows and maps of one's own: what whole programs use. No function of a program in sight. -/
import Derived.Test.YtakkhglbdljfiaaKTapeExact07
import Derived.Test.YtakkhglbdljfiaaKTapeExact08
namespace Go.Proofs.Ytakkhglbdljfiaa
set_option linter.unusedVariables false
set_option linter.unusedSimpArgs false
open Go.RowKit Go.Maps Go.ChangeMaps Go.MapKept Go.WideShapes

theorem Z59 : ∀ (N : Nat) (l : List Nat), l.Nodup → (∀ x ∈ l, x < N) → l.length ≤ N := by
  intro N
  induction N with
  | zero =>
    intro l _ h
    cases l with
    | nil => simp
    | cons x l => have := h x (by simp); omega
  | succ N ih =>
    intro l hn h
    by_cases hm : N ∈ l
    · have h1 := ih (l.erase N) (hn.erase N) (fun x hx => by
        have h2 := h x (List.mem_of_mem_erase hx)
        have h3 : x ≠ N := fun e => by subst e; exact (hn.not_mem_erase) hx
        omega)
      rw [List.length_erase_of_mem hm] at h1
      omega
    · have := ih l hn (fun x hx => by
        have h2 := h x hx
        have h3 : x ≠ N := fun e => by subst e; exact hm hx
        omega)
      omega
theorem Z3b (l : List Int) (lo : Int) (N : Nat) (hn : l.Nodup) (h : ∀ x ∈ l, lo ≤ x ∧ x < lo + N) : l.length ≤ N := by
  have h1 : (l.map fun x => (x - lo).toNat).Nodup := by
    rw [List.nodup_iff_pairwise_ne, List.pairwise_map]
    refine (List.nodup_iff_pairwise_ne.1 hn).imp_of_mem (fun {a b} ha hb hab e => hab ?_)
    have := h a ha
    have := h b hb
    omega
  have := Z59 N _ h1 (fun y hy => by
    obtain ⟨x, hx, rfl⟩ := List.mem_map.1 hy
    have := h x hx
    omega)
  simpa using this
def litI : Lit → Int
  | .int _ x => x
  | _ => 0
/-- A map with keys of a range has no more entries than the range. -/
theorem VM.tight {w : World} {b n : Nat} {m : Int → Option Value} (h : VM w b n m) (lo : Int) (N : Nat) (hk : ∀ i, wfV i → (m i).isSome = true → lo ≤ i ∧ i < lo + N) : VM w b N m := by
  obtain ⟨D, hown, hD⟩ := h
  refine ⟨D, ?_, hD⟩
  obtain ⟨es, clock, hb, F, hs, rfl⟩ := id hown
  refine ⟨es, clock, hb, F, ?_, rfl⟩
  have hapart := fit_apart Z1i F
  have hkeys : ∀ e ∈ es.toList, ∃ x, (Go.WideElems.rg Try.prog 3 heldE e).1 = .int .i64 x ∧ wfV x ∧ (m x).isSome = true := by
    intro e he
    obtain ⟨y, hy⟩ := F.reads e he
    obtain ⟨x, h1, h2, h3⟩ := Maps.keyOf_int_inv Try.underlying3 (Go.WideElems.rd_key hy)
    have hrg : (Go.WideElems.rg Try.prog 3 heldE e).1 = .int .i64 x := by rw [Go.WideElems.rg_of hy]; exact h2
    refine ⟨x, hrg, h3, ?_⟩
    rw [← (hD x h3).2]
    refine List.any_eq_true.2 ⟨Go.WideElems.rg Try.prog 3 heldE e, mem_sorted.2 (List.mem_map.2 ⟨e, he, rfl⟩), ?_⟩
    rw [hrg]
    exact WideAt.sameKey_self (keyV x)
  obtain ⟨f, hf⟩ : ∃ f : MapEntry → Int, ∀ e ∈ es.toList, (Go.WideElems.rg Try.prog 3 heldE e).1 = .int .i64 (f e) ∧ wfV (f e) ∧ (m (f e)).isSome = true := by
    refine ⟨fun e => litI (Go.WideElems.rg Try.prog 3 heldE e).1, fun e he => ?_⟩
    obtain ⟨x, h1, h2, h3⟩ := hkeys e he
    have h4 : litI (Go.WideElems.rg Try.prog 3 heldE e).1 = x := by rw [h1]; rfl
    simp only [h4]
    exact ⟨h1, h2, h3⟩
  have hnd : (es.toList.map f).Nodup := by
    rw [List.nodup_iff_pairwise_ne, List.pairwise_map]
    rw [List.pairwise_map] at hapart
    refine hapart.imp_of_mem (fun {a b} ha hb hab e => hab ?_)
    rw [(hf a ha).1, (hf b hb).1, e]
  have := Z3b (es.toList.map f) lo N hnd (fun x hx => by
    obtain ⟨e, he, rfl⟩ := List.mem_map.1 hx
    exact hk _ (hf e he).2.1 (hf e he).2.2)
  simpa using this
theorem OwnT.newRow {H : Nat} {A w w' : World} {L : List Thing} {T : TypeId} {k n : Nat} {v : Value} {xs : List Value} (h : OwnT H A L w) (hE : Ext w w') (hr : w'.ownsRow w.heap.size T k v n xs) : OwnT H A (tRow T k v n xs :: L) w' := by
  refine h.cons hE (tRow T k v n xs) ⟨hr.1, ?_⟩ (fun i hi => (hr.lt i (by simpa [tRow] using hi)).1)
  rcases hr.2 with hn | ⟨g, cap, cur, h1, _, h2⟩
  · exact .inl hn
  · exact .inr ⟨g, cap, cur, h1, Nat.zero_le _, h2⟩
theorem OwnT.nilRow {H : Nat} {A w : World} {R : List Thing} (h : OwnT H A R w) (T : TypeId) (k : Nat) : OwnT H A (tRow T k (.slice none 0 0) 0 [] :: R) w :=
  h.cons (Ext.refl _) (tRow T k (.slice none 0 0) 0 []) (World.ownsRow_nil _ _ _ _) (fun i hi => by simp [tRow, Value.ownBlock] at hi)
section
variable {H : Nat} {A w : World} {R : List Thing} {T : TypeId} {k n : Nat} {v : Value} {xs : List Value}
theorem OwnT.rowBase (h : OwnT H A (tRow T k v n xs :: R) w) : w.ownsRow H T k v n xs := by
  have hr := h.r0
  refine ⟨hr.1, ?_⟩
  rcases hr.2 with hn | ⟨g, cap, cur, rfl, _, rest⟩
  · exact .inl hn
  · exact .inr ⟨g, cap, cur, rfl, h.high (tRow T k (.slice (some ⟨g, 0, none⟩) n cap) n xs) (by simp) g (by simp [tRow, Value.ownBlock]), rest⟩
theorem OwnT.appendOne {P : Program} (h : OwnT H A (tRow T k v n xs :: R) w) (t : TypeId) (i : TypeInfo) (z : Value) (bytes : Nat) (ht : P.underlying t = some (.slice T)) (hi : P.info? T = some i) (hz : i.zero = some z)
    (hsize : i.size = k) (hby : i.bytes = bytes) (hzs : z.cells.size = k) (hk : 0 < k) (g : Nat) (tg : TypeId) (news : List Value) (hb : Blk w g tg news.toArray) (hl : news.length = k) (h1 : ∀ u ∈ news, u.oneCell' = true)
    (h63 : n + 1 ≤ maxLen) (hbytes : (n + 1) * bytes ≤ 140737488355328) :
    ∃ v' w', (∀ ty, (Builtin.append_ #[t, t] ty #[v, .slice (some ⟨g, 0, none⟩) 1 1]).run P w = .ok v' w') ∧ OwnT H A (tRow T k v' (n + 1) (xs ++ news) :: R) w' := by
  obtain ⟨v', w', hrun, h2, h3, h4⟩ := Z1k (P := P) w t t T i z k bytes ht hi hz hsize hby hzs hk v n xs h.r0 ⟨g, 0, none⟩ 1 1 news (by omega) (fun j u hu => by
    have := hb.cell j
    have hadd : (⟨g, 0, none⟩ : Addr).add j = ⟨g, j, none⟩ := by unfold Addr.add; split <;> simp_all
    rw [hadd, this]
    simpa using hu) h1 h63 hbytes
  exact ⟨v', w', fun _ => hrun, h.row h2 h3 h4⟩
end
/-- A row of one's own as data. -/
theorem Z2y {E : Type} {enc : E → List Value} {k : Nat} (hk : ∀ x, (enc x).length = k) (hk0 : 0 < k) {w : World} {base n : Nat} {T : TypeId} {v : Value} {X : List E} (h : w.ownsRow base T k v n (X.flatMap enc)) : ∃ B cap, v = .slice B n cap ∧ n ≤ cap ∧ cap ≤ maxLen ∧ X.length = n ∧ Row w B k enc X := by
  have hfl : ∀ X : List E, (X.flatMap enc).length = X.length * k := fun X => by
    induction X with
    | nil => simp
    | cons x X ih => rw [List.flatMap_cons, List.length_append, ih, hk, List.length_cons, Nat.succ_mul]; omega
  have hl : X.length = n := by
    have := h.1
    rw [hfl] at this
    exact Nat.eq_of_mul_eq_mul_right hk0 this
  have hF := World.ownsRowF_of h
  rcases h.2 with ⟨rfl, rfl⟩ | ⟨g, cap, cur, rfl, hb, hg, hcap, hmax, hcs, ht⟩
  · refine ⟨none, 0, rfl, Nat.le_refl _, by decide, hl, fun i x hx => ?_⟩
    have : X = [] := List.length_eq_zero_iff.1 hl
    subst this
    simp at hx
  · refine ⟨some ⟨g, 0, none⟩, cap, rfl, hcap, hmax, hl, fun i x hx => ⟨g, 0, rfl, (Array.getElem?_eq_some_iff.1 hg).1, fun j u hu => ?_⟩⟩
    have := hF.cells (g := g) rfl (i * k + j) u (Z49 hk X i x j u hx hu)
    have hadd : (⟨g, 0, none⟩ : Addr).add (i * k + j) = ⟨g, i * k + j, none⟩ := by unfold Addr.add; split <;> simp_all
    rw [hadd] at this
    rw [Nat.zero_add]
    exact this
theorem Z4q {w w' : World} {base : Nat} {T : TypeId} {k n : Nat} {v : Value} {xs : List Value} (h : w.ownsRow base T k v n xs) (hE : Ext w w') : w'.ownsRow base T k v n xs := by
  refine ⟨h.1, ?_⟩
  rcases h.2 with hn | ⟨g, cap, cur, rfl, hb, hg, rest⟩
  · exact .inl hn
  · exact .inr ⟨g, cap, cur, rfl, hb, (hE.block g (Array.getElem?_eq_some_iff.1 hg).1).trans hg, rest⟩
end Go.Proofs.Ytakkhglbdljfiaa

/- disc: what a device is, in memory. -/
namespace Go.Proofs.Ytakkhglbdljfiaa
set_option linter.unusedVariables false
set_option linter.unusedSimpArgs false
open Go.RowKit Go.Maps

abbrev Sec := List UInt8
def strsV (S : List Sec) : List Value := S.map fun s => .string (sB s)
def looV (L : Int → Option Sec) : Int → Option Value := fun i => (L i).map fun s => .string (sB s)
def putS (L : Int → Option Sec) (i : Int) (s : Sec) : Int → Option Sec := fun j => if j = i then some s else L j
theorem looV_put (L : Int → Option Sec) (i : Int) (s : Sec) : looV (putS L i s) = putV (looV L) i (.string (sB s)) := by
  funext j
  unfold looV putS putV
  split <;> rfl
theorem Z7e : looV (fun _ => none) = fun _ => none := rfl
theorem Z7d {L : Int → Option Sec} {i : Int} {v : Value} (h : looV L i = some v) : ∃ s, L i = some s ∧ v = .string (sB s) := by
  obtain ⟨s, h1, h2⟩ := Option.map_eq_some_iff.1 h
  exact ⟨s, h1, h2.symm⟩
theorem Z5a (L : Int → Option Sec) (i : Int) : (looV L i).isSome = (L i).isSome := by unfold looV; simp
structure DOk (n : Nat) (S : List Sec) (L : Int → Option Sec) : Prop where
  le : n ≤ 16384
  len : S.length = n
  sz : ∀ s ∈ S, s.length = 16
  rng : ∀ i s, L i = some s → (0 ≤ i ∧ i < n) ∧ s.length = 16
/-- A device: block p; its safe sectors S in a row; the map bm of the loose ones L. -/
def tDisc (p mb : Nat) (B : Option Addr) (n cap bm : Nat) (S : List Sec) (L : Int → Option Sec) : Thing where
  foot := p :: bm :: (Value.slice B n cap).ownBlock.toList
  holds := fun w => (p :: bm :: (Value.slice B n cap).ownBlock.toList).Nodup ∧ DOk n S L ∧ Blk w p 51 #[.pointer (some ⟨mb, 0, none⟩), .slice B n cap, .map (some bm)] ∧
    w.ownsRow 0 9 1 (.slice B n cap) n (strsV S) ∧ VM w bm 16384 (looV L)
  keep := fun w w' hs h ⟨h1, h2, h3, h4, h5⟩ => ⟨h1, h2, (h p (by simp)).trans h3, (tRow 9 1 (.slice B n cap) n (strsV S)).keep w w' hs (fun i hi => h i (by simp [tRow] at hi ⊢; exact .inr (.inr hi))) h4, h5.same (h bm (by simp))⟩
  lt := fun w ⟨h1, h2, h3, h4, h5⟩ i hi => by
    rcases List.mem_cons.1 hi with rfl | hi
    · exact Blk.lt h3
    · rcases List.mem_cons.1 hi with rfl | hi
      · exact h5.lt
      · exact (tRow 9 1 (.slice B n cap) n (strsV S)).lt w h4 i hi
section
variable {H : Nat} {A w w' : World} {R : List Thing} {p mb n cap bm : Nat} {B : Option Addr} {S : List Sec} {L : Int → Option Sec}
theorem OwnT.dok (h : OwnT H A (tDisc p mb B n cap bm S L :: R) w) : DOk n S L := h.all.1.2.1
/-- A device by its parts. -/
theorem OwnT.openD (h : OwnT H A (tDisc p mb B n cap bm S L :: R) w) : OwnT H A (tBlk p 51 #[.pointer (some ⟨mb, 0, none⟩), .slice B n cap, .map (some bm)] :: tRow 9 1 (.slice B n cap) n (strsV S) :: tMap bm 16384 (looV L) :: R) w := by
  obtain ⟨h1, h2, h3, h4, h5⟩ := h.all.1
  have hd := List.pairwise_cons.1 h.diff
  rw [List.nodup_cons, List.nodup_cons] at h1
  obtain ⟨n1, n2, n3⟩ := h1
  have hf : ∀ i, i = p ∨ i = bm ∨ i ∈ (Value.slice B n cap).ownBlock.toList → i ∈ (tDisc p mb B n cap bm S L).foot := fun i hi => by
    show i ∈ p :: bm :: _
    rcases hi with rfl | rfl | hi
    · simp
    · simp
    · exact List.mem_cons_of_mem _ (List.mem_cons_of_mem _ hi)
  refine ⟨h.below, h.size, ⟨h3, h4, h5, Ths.of fun x hx => h.all.mem (by simp [hx])⟩, fun x hx i hi => ?_, ?_⟩
  · rcases List.mem_cons.1 hx with rfl | hx
    · exact h.high _ (by simp) i (hf i (.inl (by simpa [tBlk] using hi)))
    · rcases List.mem_cons.1 hx with rfl | hx
      · exact h.high _ (by simp) i (hf i (.inr (.inr hi)))
      · rcases List.mem_cons.1 hx with rfl | hx
        · exact h.high _ (by simp) i (hf i (.inr (.inl (by simpa [tMap] using hi))))
        · exact h.high x (by simp [hx]) i hi
  · refine List.Pairwise.cons (fun y hy i hi hj => ?_) (List.Pairwise.cons (fun y hy i hi hj => ?_) (List.Pairwise.cons (fun y hy i hi hj => ?_) hd.2))
    · have hi : i = p := by simpa [tBlk] using hi
      subst hi
      rcases List.mem_cons.1 hy with rfl | hy
      · exact n1 (List.mem_cons_of_mem _ hj)
      · rcases List.mem_cons.1 hy with rfl | hy
        · exact n1 (by have : i = bm := by simpa [tMap] using hj
                       simp [this])
        · exact hd.1 y hy i (hf i (.inl rfl)) hj
    · rcases List.mem_cons.1 hy with rfl | hy
      · have : i = bm := by simpa [tMap] using hj
        subst this
        exact n2 hi
      · exact hd.1 y hy i (hf i (.inr (.inr hi))) hj
    · exact hd.1 y hy i (hf i (.inr (.inl (by simpa [tMap] using hi)))) hj
theorem OwnT.closeD {S : List Sec} {L : Int → Option Sec} {k : Nat} (h : OwnT H A (tBlk p 51 #[.pointer (some ⟨mb, 0, none⟩), .slice B n cap, .map (some bm)] :: tRow 9 1 (.slice B n cap) n (strsV S) :: tMap bm k (looV L) :: R) w) (hk : DOk n S L) : OwnT H A (tDisc p mb B n cap bm S L :: R) w := by
  obtain ⟨h3, h4, h5, hR⟩ := h.all
  have hd := List.pairwise_cons.1 h.diff
  have hd2 := List.pairwise_cons.1 hd.2
  have hd3 := List.pairwise_cons.1 hd2.2
  have e1 : p ≠ bm := fun e => hd.1 (tMap bm k (looV L)) (by simp) p (by simp [tBlk]) (by simp [tMap, e])
  have e2 : p ∉ (Value.slice B n cap).ownBlock.toList := fun e => hd.1 _ (List.mem_cons_self ..) p (by simp [tBlk]) e
  have e3 : bm ∉ (Value.slice B n cap).ownBlock.toList := fun e => hd2.1 (tMap bm k (looV L)) (by simp) bm e (by simp [tMap])
  have h5' : VM w bm 16384 (looV L) := (VM.tight h5 0 n (fun i _ hs => by
    rw [Z5a] at hs
    obtain ⟨s, hs⟩ := Option.isSome_iff_exists.1 hs
    have := (hk.rng i s hs).1
    omega)).mono hk.le
  have hnd : (p :: bm :: (Value.slice B n cap).ownBlock.toList).Nodup := by
    rw [List.nodup_cons, List.nodup_cons]
    refine ⟨fun e => ?_, e3, ?_⟩
    · rcases List.mem_cons.1 e with e | e
      · exact e1 e
      · exact e2 e
    · cases (Value.slice B n cap).ownBlock <;> simp
  refine ⟨h.below, h.size, ⟨⟨hnd, hk, h3, h4, h5'⟩, hR⟩, fun x hx i hi => ?_, ?_⟩
  · rcases List.mem_cons.1 hx with rfl | hx
    · rcases List.mem_cons.1 hi with rfl | hi
      · exact h.high _ (List.mem_cons_self ..) i (by simp [tBlk])
      · rcases List.mem_cons.1 hi with rfl | hi
        · exact h.high (tMap i k (looV L)) (by simp) i (by simp [tMap])
        · exact h.high _ (List.mem_cons_of_mem _ (List.mem_cons_self ..)) i hi
    · exact h.high x (by simp [hx]) i hi
  · refine List.Pairwise.cons (fun y hy i hi hj => ?_) hd3.2
    rcases List.mem_cons.1 hi with rfl | hi
    · exact hd.1 y (by simp [hy]) i (by simp [tBlk]) hj
    · rcases List.mem_cons.1 hi with rfl | hi
      · exact hd3.1 y hy i (by simp [tMap]) hj
      · exact hd2.1 y (by simp [hy]) i hi hj
/-- What is read there. -/
structure DiscR (p mb : Nat) (B : Option Addr) (n cap bm : Nat) (S : List Sec) (L : Int → Option Sec) (w : World) : Prop where
  ok : DOk n S L
  blk : Blk w p 51 #[.pointer (some ⟨mb, 0, none⟩), .slice B n cap, .map (some bm)]
  row : w.ownsRow 0 9 1 (.slice B n cap) n (strsV S)
  map : VM w bm 16384 (looV L)
theorem OwnT.disc (h : OwnT H A (tDisc p mb B n cap bm S L :: R) w) : DiscR p mb B n cap bm S L w := ⟨h.all.1.2.1, h.all.1.2.2.1, h.all.1.2.2.2.1, h.all.1.2.2.2.2⟩
theorem Thing.disc (h : (tDisc p mb B n cap bm S L).holds w) : DiscR p mb B n cap bm S L w := ⟨h.2.1, h.2.2.1, h.2.2.2.1, h.2.2.2.2⟩
theorem DiscR.ext (h : DiscR p mb B n cap bm S L w) (k : Ext w w') : DiscR p mb B n cap bm S L w' := ⟨h.ok, h.blk.ext k, Z4q h.row k, h.map.ext k⟩
theorem DiscR.sec (h : DiscR p mb B n cap bm S L w) {i : Nat} {s : Sec} (hi : S[i]? = some s) : ∃ g, B = some ⟨g, 0, none⟩ ∧ w.cell? ⟨g, i, none⟩ = some (.string (sB s)) := by
  have hil := (List.getElem?_eq_some_iff.1 hi).1
  obtain ⟨g, c, e, _⟩ := Z2w h.row (by have := h.ok.len; omega)
  injection e with e1 _ e3
  subst e1 e3
  exact ⟨g, rfl, (Z2x h.row (i := i) (v := .string (sB s)) (by simp [strsV, hi])).1⟩
end
end Go.Proofs.Ytakkhglbdljfiaa
