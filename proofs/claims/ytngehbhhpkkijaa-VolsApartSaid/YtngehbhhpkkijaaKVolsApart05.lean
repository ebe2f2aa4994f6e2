/- Trees, plain: what is added, put, dropped. -/
import Derived.Test.YtngehbhhpkkijaaKVolsApart04
import Derived.Test.YtngehbhhpkkijaaKVolsApart03
import Derived.Test.YtngehbhhpkkijaaKVolsApart01
namespace Go.Proofs.Ytngehbhhpkkijaa
set_option linter.unusedVariables false
set_option linter.unusedSimpArgs false

/-- A node's pairs as nodes: none, one, or two. -/
def parts (xs : List Pr) : List (List Pr) := if xs = [] then [] else if xs.length ≤ 15 then [xs] else [xs.take 8, xs.drop 8]
/-- The pairs that lead to new nodes, behind so many. -/
def outs : List (List Pr) → Nat → List Pr
  | [], _ => []
  | c :: r, n => (keyAt c 0, n + 1) :: outs r (n + 1)
/-- So many new nodes of a level. -/
abbrev newN (l : Nat) (cs : List (List Pr)) : List Nd := cs.map fun c => (l, c)
theorem Z32 : ∀ (cs : List (List Pr)) (n : Nat), (outs cs n).length = cs.length
  | [], _ => rfl
  | _ :: r, n => by rw [outs, List.length_cons, Z32 r, List.length_cons]
theorem Z2l (xs : List Pr) : (parts xs).length ≤ 2 := by
  unfold parts
  split
  · simp
  · split <;> simp
theorem Z4l (xs : List Pr) : (parts xs).flatten = xs := by
  unfold parts
  split
  · rename_i h; rw [h]; rfl
  · split
    · simp
    · simp
theorem parts_ne {xs : List Pr} : ∀ c ∈ parts xs, c ≠ [] := by
  intro c hc
  unfold parts at hc
  split at hc
  · cases hc
  · rename_i h0
    split at hc
    · rw [List.mem_singleton.1 hc]; exact h0
    · rename_i h1
      rcases List.mem_cons.1 hc with rfl | hc
      · intro e; have := congrArg List.length e; rw [List.length_take, List.length_nil] at this; omega
      · rw [List.mem_singleton.1 hc]; intro e; have := congrArg List.length e; rw [List.length_drop, List.length_nil] at this; omega
theorem Z31 {xs : List Pr} (h : xs ≠ []) (hl : xs.length ≤ 15) : parts xs = [xs] := by unfold parts; rw [if_neg h, if_pos hl]
theorem Z30 {xs : List Pr} (hl : xs.length = 16) : parts xs = [xs.take 8, xs.drop 8] := by
  unfold parts
  rw [if_neg (fun e => by rw [e] at hl; cases hl), if_neg (by omega)]
theorem Z5b : parts [] = [] := rfl
theorem Body.hdk {N : List Nd} {l : Nat} {xs : List Pr} {L : List (List Pr)} {h : List Nat} (hb : Body (Tb N l) l xs L h) (hx : xs ≠ []) : hdk L = some (keyAt xs 0) := by
  cases l with
  | zero =>
    obtain ⟨rfl, _⟩ := Z0i.1 hb
    rw [if_neg hx]
    unfold Go.Proofs.Ytngehbhhpkkijaa.hdk
    cases xs with
    | nil => exact absurd rfl hx
    | cons x r => simp [keyAt]
  | succ l =>
    cases xs with
    | nil => exact absurd rfl hx
    | cons x r => exact (Z0h.1 hb).hdk
/-- A node of what stands in it. -/
theorem Z23 {N M : List Nd} {l p : Nat} {xs : List Pr} {L : List (List Pr)} {h : List Nat} (hb : Body (Tb N l) l xs L h) (hx : xs ≠ []) (h15 : xs.length ≤ 15) (hp : ndAt (N ++ M) p = some (l, xs)) : Tr (N ++ M) l p L (p :: h) :=
  Z49.2 ⟨xs, h, hp, hx, h15, hb.mono M, rfl⟩
/-- What is added of a node's pairs leads to what they led to. -/
theorem Z3i {N : List Nd} {l : Nat} {xs : List Pr} {L : List (List Pr)} {h : List Nat} (hb : Body (Tb N l) l xs L h) (h16 : xs.length ≤ 16) (hn : h.Nodup) :
    ∃ g, Kids (Tr (N ++ newN l (parts xs)) l) (outs (parts xs) N.length) (if l = 0 then parts xs else L) g ∧ g.Nodup ∧ (∀ q ∈ g, q ∈ h ∨ N.length < q) := by
  have hpg := hb.pages
  by_cases hx : xs = []
  · subst hx
    rw [Z5b]
    refine ⟨[], ⟨?_, rfl⟩, List.nodup_nil, fun q hq => (by cases hq)⟩
    cases l with
    | zero => rfl
    | succ l =>
      rw [if_neg (by omega)]
      exact (Z0h.1 hb).1
  by_cases h15 : xs.length ≤ 15
  · rw [Z31 hx h15]
    have hT := Z23 (M := [(l, xs)]) hb hx h15 (Z1i N (l, xs) [])
    have hL : (if l = 0 then [xs] else L) = L := by
      cases l with
      | zero => rw [(Z0i.1 hb).1, if_neg hx]; rfl
      | succ l => rw [if_neg (by omega)]
    rw [hL]
    refine ⟨_, Kids.one (x := (keyAt xs 0, N.length + 1)) hT (hb.hdk hx), List.nodup_cons.2 ⟨fun hm => ?_, hn⟩, fun q hq => ?_⟩
    · have := (hpg _ hm).2
      omega
    · rcases List.mem_cons.1 hq with rfl | hq
      · exact .inr (by omega)
      · exact .inl hq
  · have h8 : xs.length = 16 := by omega
    rw [Z30 h8]
    have hA : xs.take 8 ≠ [] := fun e => by have := congrArg List.length e; rw [List.length_take, List.length_nil] at this; omega
    have hB : xs.drop 8 ≠ [] := fun e => by have := congrArg List.length e; rw [List.length_drop, List.length_nil] at this; omega
    have hAl : (xs.take 8).length ≤ 15 := by rw [List.length_take]; omega
    have hBl : (xs.drop 8).length ≤ 15 := by rw [List.length_drop]; omega
    have e2 : N ++ [(l, xs.take 8), (l, xs.drop 8)] = (N ++ [(l, xs.take 8)]) ++ [(l, xs.drop 8)] := by simp
    have hp2 : ndAt (N ++ [(l, xs.take 8), (l, xs.drop 8)]) (N.length + 1 + 1) = some (l, xs.drop 8) := by
      rw [e2]
      have := Z1i (N ++ [(l, xs.take 8)]) (l, xs.drop 8) []
      rwa [List.length_append, List.length_singleton] at this
    have hp1 := Z1i N (l, xs.take 8) [(l, xs.drop 8)]
    cases l with
    | zero =>
      obtain ⟨_, rfl⟩ := Z0i.1 hb
      have hb1 : Body (Tb N 0) 0 (xs.take 8) [xs.take 8] [] := Z0i.2 ⟨by rw [if_neg hA], rfl⟩
      have hb2 : Body (Tb N 0) 0 (xs.drop 8) [xs.drop 8] [] := Z0i.2 ⟨by rw [if_neg hB], rfl⟩
      refine ⟨[N.length + 1, N.length + 1 + 1], ⟨[xs.take 8], [N.length + 1], [xs.drop 8], [N.length + 1 + 1], Z23 hb1 hA hAl hp1, hb1.hdk hA, ⟨[xs.drop 8], [N.length + 1 + 1], [], [], Z23 hb2 hB hBl hp2, hb2.hdk hB, ⟨rfl, rfl⟩, rfl, rfl⟩, rfl, rfl⟩, by simp, fun q hq => .inr ?_⟩
      simp only [List.mem_cons, List.not_mem_nil, or_false] at hq
      omega
    | succ l =>
      have hk := Z0h.1 hb
      rw [← List.take_append_drop 8 xs] at hk
      obtain ⟨LA, gA, LB, gB, kA, kB, rfl, rfl⟩ := hk.parts
      have hb1 : Body (Tb N (l + 1)) (l + 1) (xs.take 8) LA gA := Z0h.2 kA
      have hb2 : Body (Tb N (l + 1)) (l + 1) (xs.drop 8) LB gB := Z0h.2 kB
      rw [if_neg (by omega)]
      refine ⟨(N.length + 1) :: gA ++ ((N.length + 1 + 1) :: gB ++ []), ⟨LA, (N.length + 1) :: gA, LB, (N.length + 1 + 1) :: gB ++ [], Z23 hb1 hA hAl hp1, hb1.hdk hA, ⟨LB, (N.length + 1 + 1) :: gB, [], [], Z23 hb2 hB hBl hp2, hb2.hdk hB, ⟨rfl, rfl⟩, by simp, rfl⟩, rfl, rfl⟩, ?_, fun q hq => ?_⟩
      · rw [List.append_nil]
        obtain ⟨n1, n2, n3⟩ := List.nodup_append.1 hn
        have hq : ∀ q ∈ gA ++ gB, q ≤ N.length := fun q hq => (hpg q hq).2
        rw [List.cons_append, List.nodup_cons, List.nodup_append, List.nodup_cons]
        refine ⟨fun hm => ?_, n1, ⟨fun hm => ?_, n2⟩, fun a ha b hb' => ?_⟩
        · rcases List.mem_append.1 hm with hm | hm
          · have := hq _ (List.mem_append_left _ hm); omega
          · rcases List.mem_cons.1 hm with hm | hm
            · omega
            · have := hq _ (List.mem_append_right _ hm); omega
        · have := hq _ (List.mem_append_right _ hm); omega
        · rcases List.mem_cons.1 hb' with rfl | hb'
          · have := hq _ (List.mem_append_left _ ha); omega
          · exact n3 a ha b hb'
      · simp only [List.append_nil, List.cons_append, List.mem_cons, List.mem_append] at hq ⊢
        rcases hq with rfl | hq | rfl | hq
        · exact .inr (by omega)
        · exact .inl (.inl hq)
        · exact .inr (by omega)
        · exact .inl (.inr hq)
/-! A put. -/
/-- One leaf has one pair more, or another one. -/
def SplitL (x : Pr) (L L' : List (List Pr)) : Prop := ∃ A c B, L = A ++ c :: B ∧ L' = A ++ (parts (insP x c) ++ B) ∧ (insP x c).length ≤ 16
theorem Z6h {x : Pr} {ps : List Pr} : (insP x ps).length ≤ ps.length + 1 := by
  unfold insP
  rw [List.length_append, List.length_cons]
  have h1 : (ps.filter (fun y => decide (y.1 < x.1))).length + (ps.filter (fun y => decide (x.1 < y.1))).length ≤ ps.length := by
    induction ps with
    | nil => simp
    | cons y r ih =>
      simp only [List.filter_cons, List.length_cons]
      split <;> split
      · rename_i h1 h2; simp at h1 h2; omega
      · simp only [List.length_cons]; omega
      · simp only [List.length_cons]; omega
      · omega
  omega
structure PutR (N N' : List Nd) (l p : Nat) (x : Pr) (L : List (List Pr)) (g : List Nat) (es : List Pr) : Prop where
  app : ∃ M, N' = N ++ M ∧ M.length ≤ 2 * (l + 1)
  one : es.length = 1 ∨ es.length = 2
  kids : ∃ L' g', Kids (Tr N' l) es L' g' ∧ g'.Nodup ∧ (∀ q ∈ g', q ∈ g ∨ N.length < q) ∧ SplitL x L L' ∧ L'.flatten = insP x L.flatten ∧ (es.length = 2 → 0 < l → 16 ≤ L'.length)
  root : 0 < l → ∃ xs, ndAt N p = some (l, xs) ∧ (es.length = 1 → ∃ k q xs', es = [(k, q)] ∧ ndAt N' q = some (l, xs') ∧ xs.length ≤ xs'.length)
theorem Z5c {N : List Nd} {l n : Nat} {xs : List Pr} (hx : xs ≠ []) (h16 : xs.length ≤ 16) (hn : n ≤ xs.length) :
    ((outs (parts xs) N.length).length = 1 ∨ (outs (parts xs) N.length).length = 2) ∧ ((outs (parts xs) N.length).length = 2 → xs.length = 16) ∧
    ((outs (parts xs) N.length).length = 1 → ∃ k q xs', outs (parts xs) N.length = [(k, q)] ∧ ndAt (N ++ newN l (parts xs)) q = some (l, xs') ∧ n ≤ xs'.length) := by
  by_cases h15 : xs.length ≤ 15
  · rw [Z31 hx h15]
    exact ⟨.inl rfl, fun h => (by cases h), fun _ => ⟨_, _, xs, rfl, Z1i N (l, xs) [], hn⟩⟩
  · rw [Z30 (by omega)]
    exact ⟨.inr rfl, fun _ => by omega, fun h => (by cases h)⟩
theorem put_leaf {N : List Nd} {p : Nat} {x : Pr} {L : List (List Pr)} {g : List Nat} {xs : List Pr} (hT : Tr N 0 p L g) (hp : ndAt N p = some (0, xs)) :
    PutR N (N ++ newN 0 (parts (insP x xs))) 0 p x L g (outs (parts (insP x xs)) N.length) ∧ (insP x xs).length ≤ 16 ∧ L.flatten = xs := by
  obtain ⟨xs', h, h1, h2, h3, h4, rfl⟩ := hT
  rw [hp] at h1
  injection h1 with h1
  injection h1 with _ h1
  subst h1
  obtain ⟨rfl, rfl⟩ := Z0i.1 h4
  rw [if_neg h2]
  have hl := Z6h (x := x) (ps := xs)
  have h16 : (insP x xs).length ≤ 16 := by omega
  have hb : Body (Tb N 0) 0 (insP x xs) [insP x xs] [] := Z0i.2 ⟨by rw [if_neg Z5z], rfl⟩
  obtain ⟨g, k1, k2, k3⟩ := Z3i hb h16 List.nodup_nil
  rw [if_pos rfl] at k1
  obtain ⟨r1, r2, r3⟩ := Z5c (N := N) (l := 0) (n := 0) Z5z h16 (Nat.zero_le _)
  exact ⟨⟨⟨_, rfl, by rw [List.length_map]; have := Z2l (insP x xs); omega⟩, r1, ⟨_, g, k1, k2, fun q hq => (k3 q hq).elim (fun h => by cases h) .inr, ⟨[], xs, [], rfl, by simp, h16⟩, by rw [Z4l]; simp, fun _ h => (by cases h)⟩, fun h => (by cases h)⟩, h16, by simp⟩
theorem Z7p {N : List Nd} {l p : Nat} {L : List (List Pr)} {g : List Nat} (hT : Tr N l p L g) {l' : Nat} {xs : List Pr} (hp : ndAt N p = some (l', xs)) : l' = l ∧ xs ≠ [] ∧ xs.length ≤ 15 ∧ ∃ h, Body (Tb N l) l xs L h ∧ g = p :: h := by
  obtain ⟨xs', h, h1, h2, h3, h4, h5⟩ := Z49.1 hT
  rw [hp] at h1
  injection h1 with h1
  injection h1 with h0 h1
  subst h0 h1
  exact ⟨rfl, h2, h3, h, h4, h5⟩
/-- Which child a key is looked for in: all ahead is less, all behind is greater. -/
theorem Z5f {N : List Nd} {l p k n : Nat} {L : List (List Pr)} {g : List Nat} {xs : List Pr} (hT : Tr N (l + 1) p L g) (hu : Up L.flatten) (hp : ndAt N p = some (l + 1, xs)) (hpl : Place xs k n) :
    ∃ A y B LA gA Lx gx LB gB, xs = A ++ y :: B ∧ A.length = kidN xs k n ∧ Kids (Tr N l) A LA gA ∧ Tr N l y.2 Lx gx ∧ Kids (Tr N l) B LB gB ∧ L = LA ++ (Lx ++ LB) ∧ g = p :: (gA ++ (gx ++ gB)) ∧ (∀ z ∈ LA.flatten, z.1 < k) ∧ (∀ z ∈ LB.flatten, k < z.1) := by
  obtain ⟨_, hx, h15, h, hb, rfl⟩ := Z7p hT hp
  have hk := Z0h.1 hb
  obtain ⟨A, y, B, e, hA, h1, h2⟩ := kid_at (hk.up hu).1 hx hpl
  subst e
  obtain ⟨LA, gA, Lx, gx, LB, gB, kA, kx, kh, kB, rfl, rfl⟩ := hk.at_
  refine ⟨A, y, B, LA, gA, Lx, gx, LB, gB, rfl, hA, kA, kx, kB, rfl, rfl, fun z hz => ?_, fun z hz => ?_⟩
  · have hA0 : A ≠ [] := fun e => by subst e; obtain ⟨rfl, _⟩ := kA; cases hz
    have := h1 hA0
    obtain ⟨v, r, e⟩ := Z52 kh
    rw [List.flatten_append, List.flatten_append] at hu
    have := hu.app.2.2 z hz (y.1, v) (by rw [e]; simp)
    omega
  · have hB0 : B ≠ [] := fun e => by subst e; obtain ⟨rfl, _⟩ := kB; cases hz
    obtain ⟨b, B', rfl⟩ := List.exists_cons_of_ne_nil hB0
    have h3 := h2 b (by simp)
    obtain ⟨v, r, e⟩ := Z52 kB.hdk
    rw [List.flatten_append, List.flatten_append] at hu
    have hu2 := hu.app.2.1.app.2.1
    rw [e] at hu2 hz
    rcases List.mem_cons.1 hz with rfl | hz
    · exact h3
    · have := (List.pairwise_cons.1 hu2).1 z hz
      omega
theorem put_node {N N1 : List Nd} {l p n : Nat} {x : Pr} {L Lx LA LB : List (List Pr)} {g gx gA gB : List Nat} {A B es : List Pr} {y : Pr} (hp : ndAt N p = some (l + 1, A ++ y :: B)) (h15 : (A ++ y :: B).length ≤ 15)
    (kA : Kids (Tr N l) A LA gA) (kB : Kids (Tr N l) B LB gB) (hL : L = LA ++ (Lx ++ LB)) (hg : g = p :: (gA ++ (gx ++ gB))) (hgn : g.Nodup) (hgl : ∀ q ∈ g, q ≤ N.length) (hA : ∀ z ∈ LA.flatten, z.1 < x.1) (hB : ∀ z ∈ LB.flatten, x.1 < z.1) (hr : PutR N N1 l y.2 x Lx gx es) :
    PutR N (N1 ++ newN (l + 1) (parts (A ++ (es ++ B)))) (l + 1) p x L g (outs (parts (A ++ (es ++ B))) N1.length) ∧ (A ++ (es ++ B)).length ≤ 16 ∧ A ++ (es ++ B) ≠ [] := by
  subst hL hg
  obtain ⟨⟨M, rfl, hM⟩, h1, ⟨L', g', k1, k2, k3, ⟨A1, c, B1, s1, s2, s3⟩, k5, k6⟩, -⟩ := hr
  have hes : es ≠ [] := fun e => by subst e; rcases h1 with h1 | h1 <;> cases h1
  have h16 : (A ++ (es ++ B)).length ≤ 16 := by simp only [List.length_append, List.length_cons] at h15 ⊢; omega
  have hne : A ++ (es ++ B) ≠ [] := by simp [hes]
  have hK : Kids (Tr (N ++ M) l) (A ++ (es ++ B)) (LA ++ (L' ++ LB)) (gA ++ (g' ++ gB)) := (kA.mono fun _ _ _ h => h.mono M).app (k1.app (kB.mono fun _ _ _ h => h.mono M))
  have hgn' := (List.nodup_cons.1 hgn).2
  have hgl' : ∀ q ∈ gA ++ (gx ++ gB), q ≤ N.length := fun q hq => hgl q (List.mem_cons_of_mem _ hq)
  have hnd : (gA ++ (g' ++ gB)).Nodup := by
    obtain ⟨n1, n2, n3⟩ := List.nodup_append.1 hgn'
    obtain ⟨n4, n5, n6⟩ := List.nodup_append.1 n2
    rw [List.nodup_append, List.nodup_append]
    refine ⟨n1, ⟨k2, n5, fun a ha b hb => ?_⟩, fun a ha b hb => ?_⟩
    · rcases k3 a ha with h | h
      · exact n6 a h b hb
      · have := hgl' b (by simp [hb]); omega
    · rcases List.mem_append.1 hb with hb | hb
      · rcases k3 b hb with h | h
        · exact n3 a ha b (by simp [h])
        · have := hgl' a (by simp [ha]); omega
      · exact n3 a ha b (by simp [hb])
  obtain ⟨g2, a1, a2, a3⟩ := Z3i (N := N ++ M) (l := l + 1) (Z0h.2 hK) h16 hnd
  rw [if_neg (by omega)] at a1
  obtain ⟨r1, r2, r3⟩ := Z5c (N := N ++ M) (l := l + 1) (n := (A ++ y :: B).length) hne h16 (by simp only [List.length_append, List.length_cons]; omega)
  refine ⟨⟨⟨M ++ newN (l + 1) (parts (A ++ (es ++ B))), by rw [List.append_assoc], ?_⟩, r1, ⟨_, g2, a1, a2, fun q hq => ?_, ⟨LA ++ A1, c, B1 ++ LB, by rw [s1]; simp, by rw [s2]; simp, s3⟩, ?_, fun h2 _ => ?_⟩, fun _ => ⟨_, hp, r3⟩⟩, h16, hne⟩
  · rw [List.length_append, List.length_map]
    have := Z2l (A ++ (es ++ B))
    omega
  · rcases a3 q hq with h | h
    · rcases List.mem_append.1 h with h | h
      · exact .inl (by simp [h])
      · rcases List.mem_append.1 h with h | h
        · rcases k3 q h with h | h
          · exact .inl (by simp [h])
          · exact .inr h
        · exact .inl (by simp [h])
    · rw [List.length_append] at h
      exact .inr (by omega)
  · rw [List.flatten_append, List.flatten_append, List.flatten_append, List.flatten_append, k5, Z51 hA hB]
  · have h3 := r2 h2
    have h4 := hK.len
    omega
/-! A drop. -/
/-- One leaf lacks a pair; or it is gone. -/
def DelL (k : Nat) (L L' : List (List Pr)) : Prop := ∃ A c B, L = A ++ c :: B ∧ L' = A ++ ((if delP k c = [] then [] else [delP k c]) ++ B)
structure DelR (N N' : List Nd) (l k : Nat) (L : List (List Pr)) (g : List Nat) (xs' : List Pr) : Prop where
  app : ∃ M, N' = N ++ M ∧ M.length ≤ l
  len : xs'.length ≤ 15
  body : ∃ L' h', Body (Tb N' l) l xs' L' h' ∧ h'.Nodup ∧ (∀ q ∈ h', q ∈ g ∨ N.length < q) ∧ DelL k L L' ∧ L'.flatten = delP k L.flatten
theorem Z6l {k : Nat} {ps : List Pr} : (delP k ps).length ≤ ps.length := List.length_filter_le _ _
theorem Z5i {N : List Nd} {p k : Nat} {L : List (List Pr)} {g : List Nat} {xs : List Pr} (hT : Tr N 0 p L g) (hp : ndAt N p = some (0, xs)) : DelR N N 0 k L g (delP k xs) ∧ L.flatten = xs := by
  obtain ⟨_, hx, h15, h, hb, rfl⟩ := Z7p hT hp
  obtain ⟨rfl, rfl⟩ := Z0i.1 hb
  rw [if_neg hx]
  have := Z6l (k := k) (ps := xs)
  refine ⟨⟨⟨[], by simp, Nat.zero_le _⟩, by omega, ⟨_, [], Z0i.2 ⟨rfl, rfl⟩, List.nodup_nil, fun q hq => (by cases hq), ⟨[], xs, [], rfl, by simp⟩, ?_⟩⟩, by simp⟩
  split
  · rename_i h; simp [h]
  · simp
theorem drop_node {N N1 : List Nd} {l p k : Nat} {L Lx LA LB : List (List Pr)} {g gx gA gB : List Nat} {A B xs1 : List Pr} {y : Pr} (h15 : (A ++ y :: B).length ≤ 15)
    (kA : Kids (Tr N l) A LA gA) (kB : Kids (Tr N l) B LB gB) (hL : L = LA ++ (Lx ++ LB)) (hg : g = p :: (gA ++ (gx ++ gB))) (hgn : g.Nodup) (hgl : ∀ q ∈ g, q ≤ N.length) (hA : ∀ z ∈ LA.flatten, z.1 < k) (hB : ∀ z ∈ LB.flatten, k < z.1) (hr : DelR N N1 l k Lx gx xs1) :
    DelR N (N1 ++ newN l (parts xs1)) (l + 1) k L g (A ++ (outs (parts xs1) N1.length ++ B)) := by
  subst hL hg
  obtain ⟨⟨M, rfl, hM⟩, h1, ⟨L', h', k1, k2, k3, ⟨A1, c, B1, s1, s2⟩, k5⟩⟩ := hr
  obtain ⟨g', a1, a2, a3⟩ := Z3i k1 (by omega) k2
  have hL' : (if l = 0 then parts xs1 else L') = L' := by
    cases l with
    | zero =>
      rw [if_pos rfl, (Z0i.1 k1).1]
      unfold parts
      rw [if_pos h1]
    | succ l => rw [if_neg (by omega)]
  rw [hL'] at a1
  have hp1 : (outs (parts xs1) (N ++ M).length).length ≤ 1 := by
    rw [Z32]
    unfold parts
    rw [if_pos h1]
    split <;> simp
  have hpl : (parts xs1).length ≤ 1 := by rw [Z32] at hp1; exact hp1
  have hK : Kids (Tr ((N ++ M) ++ newN l (parts xs1)) l) (A ++ (outs (parts xs1) (N ++ M).length ++ B)) (LA ++ (L' ++ LB)) (gA ++ (g' ++ gB)) :=
    (kA.mono fun _ _ _ h => (h.mono M).mono _).app (a1.app (kB.mono fun _ _ _ h => (h.mono M).mono _))
  have a4 : ∀ q ∈ g', q ∈ gx ∨ N.length < q := fun q hq => by
    rcases a3 q hq with h | h
    · exact k3 q h
    · rw [List.length_append] at h; exact .inr (by omega)
  have hgn' := (List.nodup_cons.1 hgn).2
  have hgl' : ∀ q ∈ gA ++ (gx ++ gB), q ≤ N.length := fun q hq => hgl q (List.mem_cons_of_mem _ hq)
  refine ⟨⟨M ++ newN l (parts xs1), by rw [List.append_assoc], by rw [List.length_append, List.length_map]; omega⟩, by rw [List.length_append, List.length_append]; rw [List.length_append, List.length_cons] at h15; omega, ⟨_, _, Z0h.2 hK, ?_, fun q hq => ?_, ⟨LA ++ A1, c, B1 ++ LB, by rw [s1]; simp, by rw [s2]; simp⟩, ?_⟩⟩
  · obtain ⟨n1, n2, n3⟩ := List.nodup_append.1 hgn'
    obtain ⟨n4, n5, n6⟩ := List.nodup_append.1 n2
    rw [List.nodup_append, List.nodup_append]
    refine ⟨n1, ⟨a2, n5, fun a ha b hb => ?_⟩, fun a ha b hb => ?_⟩
    · rcases a4 a ha with h | h
      · exact n6 a h b hb
      · have := hgl' b (by simp [hb]); omega
    · rcases List.mem_append.1 hb with hb | hb
      · rcases a4 b hb with h | h
        · exact n3 a ha b (by simp [h])
        · have := hgl' a (by simp [ha]); omega
      · exact n3 a ha b (by simp [hb])
  · rcases List.mem_append.1 hq with h | h
    · exact .inl (by simp [h])
    · rcases List.mem_append.1 h with h | h
      · rcases a4 q h with h | h
        · exact .inl (by simp [h])
        · exact .inr h
      · exact .inl (by simp [h])
  · rw [List.flatten_append, List.flatten_append, List.flatten_append, List.flatten_append, k5, Z6k (fun y hy => by have := hA y hy; omega) (fun y hy => by have := hB y hy; omega)]
/-! How great: each leaf counts eight, and what it has beyond eight. -/
def phi (L : List (List Pr)) : Nat := (L.map fun c => c.length - 8).sum + 8 * L.length
theorem Z2v (A B : List (List Pr)) : phi (A ++ B) = phi A + phi B := by
  unfold phi
  rw [List.map_append, List.sum_append, List.length_append]
  omega
theorem Z4v (c : List Pr) : phi [c] = (c.length - 8) + 8 := by simp [phi]
theorem Z3o (c : List Pr) (L : List (List Pr)) : phi (c :: L) = (c.length - 8) + 8 + phi L := by
  rw [show c :: L = [c] ++ L from rfl, Z2v, Z4v]
theorem Z81 {x : Pr} {L L' : List (List Pr)} (h : SplitL x L L') : phi L' ≤ phi L + 1 := by
  obtain ⟨A, c, B, rfl, rfl, h16⟩ := h
  have hl := Z6h (x := x) (ps := c)
  rw [Z2v, Z2v, Z2v, Z3o]
  by_cases h15 : (insP x c).length ≤ 15
  · rw [Z31 Z5z h15, Z4v]; omega
  · rw [Z30 (by omega), Z3o, Z4v, List.length_take, List.length_drop]; omega
theorem phi_del {k : Nat} {L L' : List (List Pr)} (h : DelL k L L') : phi L' ≤ phi L := by
  obtain ⟨A, c, B, rfl, rfl⟩ := h
  have hl := Z6l (k := k) (ps := c)
  rw [Z2v, Z2v, Z2v, Z3o]
  split
  · simp [phi]
  · rw [Z4v]; omega
/-! Trees. -/
/-- A tree of at most so many levels above its leaves. -/
structure RT (m : Nat) (N : List Nd) (root : Nat) (L : List (List Pr)) (g : List Nat) : Prop where
  rt : (root = 0 ∧ L = [] ∧ g = []) ∨ ∃ l, l ≤ m ∧ Tr N l root L g ∧ (0 < l → ∃ xs, ndAt N root = some (l, xs) ∧ 2 ≤ xs.length)
  up : Up L.flatten
  nod : g.Nodup
  wf : ∀ y ∈ L.flatten, y.1 < 18446744073709551616 ∧ y.2 < 18446744073709551616
theorem RT.mono {m : Nat} {N : List Nd} {root : Nat} {L : List (List Pr)} {g : List Nat} (h : RT m N root L g) (M : List Nd) : RT m (N ++ M) root L g := by
  refine ⟨?_, h.up, h.nod, h.wf⟩
  rcases h.rt with h | ⟨l, h1, h2, h3⟩
  · exact .inl h
  · exact .inr ⟨l, h1, h2.mono M, fun h0 => by obtain ⟨xs, h4, h5⟩ := h3 h0; exact ⟨xs, Z4x h4 M, h5⟩⟩
theorem rt_zero (m : Nat) (N : List Nd) : RT m N 0 [] [] := ⟨.inl ⟨rfl, rfl, rfl⟩, List.Pairwise.nil, List.nodup_nil, fun _ h => (by cases h)⟩
theorem wf_ins {x : Pr} {ps : List Pr} (h : ∀ y ∈ ps, y.1 < 18446744073709551616 ∧ y.2 < 18446744073709551616) (hx : x.1 < 18446744073709551616 ∧ x.2 < 18446744073709551616) : ∀ y ∈ insP x ps, y.1 < 18446744073709551616 ∧ y.2 < 18446744073709551616 := by
  intro y hy
  rcases Z6e hy with rfl | hy
  · exact hx
  · exact h y hy
end Go.Proofs.Ytngehbhhpkkijaa

/- Regions by facts: an operation guarded by one that was skipped. -/
namespace Go.Proofs.Ytngehbhhpkkijaa
set_option linter.unusedVariables false
set_option linter.unusedSimpArgs false
open Go.RowKit

section
variable {P : Program} {R : World → World → Prop} {ops : Array Oper} {w0 : World} {a0 : Act} {D : List Tmp} {A : List (List Nat)} {G : List (Nat × TFact R) → Prop} {k : Nat} {o : Oper} {os : List Oper} {done : List (Nat × TFact R)}
theorem Z55 {a : Act} {j dj : Nat} {b : Bool} (hg : o.guard = some (j, b)) (hj : (ops[j]?).bind (·.dst) = some dj) (he : a.eval (.tmp dj) = undef) : Region.wanted o (yielded ops a.tmps) = false := by
  have h : yielded ops a.tmps j = none := by
    unfold yielded
    rw [hj]
    rw [Z15, Array.getD_eq_getD_getElem?] at he
    cases hx : a.tmps[dj]? with
    | none => simp [hx]
    | some x =>
      rw [hx] at he
      have he : x = undef := he
      subst he
      simp [hx]
      rfl
  unfold Region.wanted
  rw [hg]
  simp [h]
end
end Go.Proofs.Ytngehbhhpkkijaa

/- Regions by facts: a guarded call that hands back something new. No function of the program in sight. -/
namespace Go.Proofs.Ytngehbhhpkkijaa
set_option linter.unusedVariables false
set_option linter.unusedSimpArgs false
open Go.RowKit
section
variable {R : World → World → Prop}
variable {P : Program} {ops : Array Oper} {w0 : World} {a0 : Act} {D : List Tmp} {A : List (List Nat)}
variable {o : Oper}
variable {G : List (Nat × TFact R) → Prop} {k : Nat} {os : List Oper} {done : List (Nat × TFact R)}
end
end Go.Proofs.Ytngehbhhpkkijaa

/- The blocks of one's own, as one fact: what each holds; below H all is as it was. -/
namespace Go.Proofs.Ytngehbhhpkkijaa
set_option linter.unusedVariables false
set_option linter.unusedSimpArgs false
open Go.RowKit

abbrev BlkD := Nat × TypeId × Array Value
def Blks (w : World) : List BlkD → Prop
  | [] => True
  | x :: L => Blk w x.1 x.2.1 x.2.2 ∧ Blks w L
/-- Below H the world is as A; the blocks of L, from H on, hold this; no two are one. -/
structure Own (H : Nat) (A : World) (L : List BlkD) (w : World) : Prop where
  below : Below H A w
  size : H ≤ w.heap.size
  all : Blks w L
  high : ∀ x ∈ L, H ≤ x.1
  diff : L.Pairwise fun x y => x.1 ≠ y.1
section
variable {H : Nat} {A w w' : World} {L : List BlkD}
theorem Blks.mono_ (h : Blks w L) (k : ∀ x ∈ L, Blk w x.1 x.2.1 x.2.2 → Blk w' x.1 x.2.1 x.2.2) : Blks w' L := by
  induction L with
  | nil => trivial
  | cons x L ih => exact ⟨k x (by simp) h.1, ih h.2 (fun y hy => k y (by simp [hy]))⟩
theorem Blks.mem (h : Blks w L) {x : BlkD} (hx : x ∈ L) : Blk w x.1 x.2.1 x.2.2 := by
  induction L with
  | nil => cases hx
  | cons y L ih =>
    rcases List.mem_cons.1 hx with rfl | hx
    · exact h.1
    · exact ih h.2 hx
theorem Own.start (w : World) : Own w.heap.size w [] w := ⟨Below.refl _ _, Nat.le_refl _, trivial, (fun _ h => by cases h), List.Pairwise.nil⟩
theorem Own.ext (h : Own H A L w) (k : Ext w w') : Own H A L w' :=
  ⟨h.below.trans (k.mono h.size), Nat.le_trans h.size k.size, h.all.mono_ fun _ _ hb => hb.ext k, h.high, h.diff⟩
theorem Own.lt (h : Own H A L w) {x : BlkD} (hx : x ∈ L) : x.1 < w.heap.size := (h.all.mem hx).lt
theorem Own.drew (h : Own H A L w) : Own H A L w.drew := h.ext (Ext.drew w)
theorem Own.new (h : Own H A L w) (t : TypeId) (cs : Array Value) : Own H A ((w.heap.size, t, cs) :: L) (w.alloc (.cells cs t)) := by
  have h1 := h.ext (Ext.alloc w (.cells cs t))
  refine ⟨h1.below, h1.size, ⟨Blk.new w t cs, h1.all⟩, fun x hx => ?_, ?_⟩
  · rcases List.mem_cons.1 hx with rfl | hx
    · exact h.size
    · exact h1.high x hx
  · exact List.Pairwise.cons (fun y hy e => by have := h.lt hy; simp only at e; omega) h.diff
theorem Own.other (h : Own H A L w) (o : Obj) : Own H A L (w.alloc o) := h.ext (Ext.alloc w o)
/-- The world with a block anew. -/
theorem Own.put (h : Own H A L w) {b : Nat} {t : TypeId} {cs : Array Value} {L1 L2 : List BlkD} (hL : L = L1 ++ (b, t, cs) :: L2) (cs' : Array Value) (hg : w.grownBy w' (some b)) (hb : Blk w' b t cs') : Own H A (L1 ++ (b, t, cs') :: L2) w' := by
  subst hL
  have hHb : H ≤ b := h.high (b, t, cs) (by simp)
  have hd := h.diff
  rw [List.pairwise_append] at hd
  obtain ⟨d1, d2, d3⟩ := hd
  rw [List.pairwise_cons] at d2
  have hfar : ∀ x ∈ L1 ++ L2, x.1 ≠ b := by
    intro x hx
    rcases List.mem_append.1 hx with hx | hx
    · exact d3 x hx (b, t, cs) (by simp)
    · exact (d2.1 x hx).symm
  have hmem : ∀ x ∈ L1 ++ L2, Blk w' x.1 x.2.1 x.2.2 := fun x hx => (h.all.mem (x := x) (by
    rcases List.mem_append.1 hx with hx | hx
    · simp [hx]
    · simp [hx])).grown hg (by simpa using hfar x hx)
  refine ⟨h.below.grown hg h.size (fun k e => by injection e with e; omega), Nat.le_trans h.size hg.size, ?_, ?_, ?_⟩
  · have : ∀ M : List BlkD, (∀ x ∈ M, Blk w' x.1 x.2.1 x.2.2) → Blks w' M := by
      intro M
      induction M with
      | nil => intro _; trivial
      | cons x M ih => intro hM; exact ⟨hM x (by simp), ih fun y hy => hM y (by simp [hy])⟩
    refine this _ fun x hx => ?_
    rcases List.mem_append.1 hx with hx | hx
    · exact hmem x (by simp [hx])
    · rcases List.mem_cons.1 hx with rfl | hx
      · exact hb
      · exact hmem x (by simp [hx])
  · intro x hx
    rcases List.mem_append.1 hx with hx | hx
    · exact h.high x (by simp [hx])
    · rcases List.mem_cons.1 hx with rfl | hx
      · exact hHb
      · exact h.high x (by simp [hx])
  · rw [List.pairwise_append]
    refine ⟨d1, List.pairwise_cons.2 ⟨d2.1, d2.2⟩, fun x hx y hy => ?_⟩
    rcases List.mem_cons.1 hy with rfl | hy
    · exact d3 x hx (b, t, cs) (by simp)
    · exact d3 x hx y (by simp [hy])
theorem Own.set (h : Own H A L w) {b : Nat} {t : TypeId} {cs : Array Value} {L1 L2 : List BlkD} (hL : L = L1 ++ (b, t, cs) :: L2) (i : Nat) (u : Value) : Own H A (L1 ++ (b, t, cs.setIfInBounds i u) :: L2) (w.setCell ⟨b, i, none⟩ u) :=
  h.put hL _ (Z1s (World.grownBy.refl w _) (.inl rfl) u) ((h.all.mem (x := (b, t, cs)) (by rw [hL]; simp) : Blk w b t cs).set_ i u)
/-- Another block of one's own has turned. -/
theorem Own.far (h : Own H A L w) {b : Nat} (hb : H ≤ b) (hL : ∀ x ∈ L, x.1 ≠ b) (hg : w.grownBy w' (some b)) : Own H A L w' :=
  ⟨h.below.grown hg h.size (fun k e => by injection e with e; omega), Nat.le_trans h.size hg.size, (by
    have h0 := h.all
    clear h
    induction L with
    | nil => trivial
    | cons x L ih => exact ⟨h0.1.grown hg (by have := hL x (by simp); simpa using this), ih (fun y hy => hL y (by simp [hy])) h0.2⟩), h.high, h.diff⟩
theorem Own.tail {x : BlkD} (h : Own H A (x :: L) w) : Own H A L w := ⟨h.below, h.size, h.all.2, fun y hy => h.high y (by simp [hy]), (List.pairwise_cons.1 h.diff).2⟩
theorem Own.done (h : Own w'.heap.size w' L w) : Below w'.heap.size w' w := h.below
end
end Go.Proofs.Ytngehbhhpkkijaa
