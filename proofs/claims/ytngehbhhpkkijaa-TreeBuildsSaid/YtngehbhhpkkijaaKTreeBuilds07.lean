/- Trees, plain: what is added, put, dropped. -/
import Derived.Test.YtngehbhhpkkijaaKTreeBuilds06
import Derived.Test.YtngehbhhpkkijaaKTreeBuilds03
import Derived.Laws.CopyOwn
import Derived.Laws.OwnMore
import Derived.Lib.AppendZerosOnto
namespace Go.Proofs.Ytngehbhhpkkijaa
set_option linter.unusedVariables false
set_option linter.unusedSimpArgs false

/-- A node's pairs as nodes: none, one, or two. -/
def parts (xs : List Pr) : List (List Pr) := if xs = [] then [] else if xs.length ≤ 15 then [xs] else [xs.take 8, xs.drop 8]
/-- The pairs that lead to new nodes, behind so many. -/
def outs : List (List Pr) → Nat → List Pr
  | [], _ => []
  | c :: r, n => (keyAt c 0, n + 1) :: outs r (n + 1)
/-- So many new nodes of a level. -/
abbrev newN (l : Nat) (cs : List (List Pr)) : List Nd := cs.map fun c => (l, c)
theorem Z1g : ∀ (cs : List (List Pr)) (n : Nat), (outs cs n).length = cs.length
  | [], _ => rfl
  | _ :: r, n => by rw [outs, List.length_cons, Z1g r, List.length_cons]
theorem Z1y (xs : List Pr) : (parts xs).length ≤ 2 := by
  unfold parts
  split
  · simp
  · split <;> simp
theorem Z2w (xs : List Pr) : (parts xs).flatten = xs := by
  unfold parts
  split
  · rename_i h; rw [h]; rfl
  · split
    · simp
    · simp
theorem parts_ne {xs : List Pr} : ∀ c ∈ parts xs, c ≠ [] := by
  intro c hc
  unfold parts at hc
  split at hc
  · cases hc
  · rename_i h0
    split at hc
    · rw [List.mem_singleton.1 hc]; exact h0
    · rename_i h1
      rcases List.mem_cons.1 hc with rfl | hc
      · intro e; have := congrArg List.length e; rw [List.length_take, List.length_nil] at this; omega
      · rw [List.mem_singleton.1 hc]; intro e; have := congrArg List.length e; rw [List.length_drop, List.length_nil] at this; omega
theorem Z2d {xs : List Pr} (h : xs ≠ []) (hl : xs.length ≤ 15) : parts xs = [xs] := by unfold parts; rw [if_neg h, if_pos hl]
theorem Z2c {xs : List Pr} (hl : xs.length = 16) : parts xs = [xs.take 8, xs.drop 8] := by
  unfold parts
  rw [if_neg (fun e => by rw [e] at hl; cases hl), if_neg (by omega)]
theorem Z4t : parts [] = [] := rfl
theorem Body.hdk {N : List Nd} {l : Nat} {xs : List Pr} {L : List (List Pr)} {h : List Nat} (hb : Body (Tb N l) l xs L h) (hx : xs ≠ []) : hdk L = some (keyAt xs 0) := by
  cases l with
  | zero =>
    obtain ⟨rfl, _⟩ := Z0i.1 hb
    rw [if_neg hx]
    unfold Go.Proofs.Ytngehbhhpkkijaa.hdk
    cases xs with
    | nil => exact absurd rfl hx
    | cons x r => simp [keyAt]
  | succ l =>
    cases xs with
    | nil => exact absurd rfl hx
    | cons x r => exact (Z0l.1 hb).hdk
/-- A node of what stands in it. -/
theorem Z2h {N M : List Nd} {l p : Nat} {xs : List Pr} {L : List (List Pr)} {h : List Nat} (hb : Body (Tb N l) l xs L h) (hx : xs ≠ []) (h15 : xs.length ≤ 15) (hp : ndAt (N ++ M) p = some (l, xs)) : Tr (N ++ M) l p L (p :: h) :=
  Z2s.2 ⟨xs, h, hp, hx, h15, hb.mono M, rfl⟩
/-- What is added of a node's pairs leads to what they led to. -/
theorem Z42 {N : List Nd} {l : Nat} {xs : List Pr} {L : List (List Pr)} {h : List Nat} (hb : Body (Tb N l) l xs L h) (h16 : xs.length ≤ 16) (hn : h.Nodup) :
    ∃ g, Kids (Tr (N ++ newN l (parts xs)) l) (outs (parts xs) N.length) (if l = 0 then parts xs else L) g ∧ g.Nodup ∧ (∀ q ∈ g, q ∈ h ∨ N.length < q) := by
  have hpg := hb.pages
  by_cases hx : xs = []
  · subst hx
    rw [Z4t]
    refine ⟨[], ⟨?_, rfl⟩, List.nodup_nil, fun q hq => (by cases hq)⟩
    cases l with
    | zero => rfl
    | succ l =>
      rw [if_neg (by omega)]
      exact (Z0l.1 hb).1
  by_cases h15 : xs.length ≤ 15
  · rw [Z2d hx h15]
    have hT := Z2h (M := [(l, xs)]) hb hx h15 (Z28 N (l, xs) [])
    have hL : (if l = 0 then [xs] else L) = L := by
      cases l with
      | zero => rw [(Z0i.1 hb).1, if_neg hx]; rfl
      | succ l => rw [if_neg (by omega)]
    rw [hL]
    refine ⟨_, Kids.one (x := (keyAt xs 0, N.length + 1)) hT (hb.hdk hx), List.nodup_cons.2 ⟨fun hm => ?_, hn⟩, fun q hq => ?_⟩
    · have := (hpg _ hm).2
      omega
    · rcases List.mem_cons.1 hq with rfl | hq
      · exact .inr (by omega)
      · exact .inl hq
  · have h8 : xs.length = 16 := by omega
    rw [Z2c h8]
    have hA : xs.take 8 ≠ [] := fun e => by have := congrArg List.length e; rw [List.length_take, List.length_nil] at this; omega
    have hB : xs.drop 8 ≠ [] := fun e => by have := congrArg List.length e; rw [List.length_drop, List.length_nil] at this; omega
    have hAl : (xs.take 8).length ≤ 15 := by rw [List.length_take]; omega
    have hBl : (xs.drop 8).length ≤ 15 := by rw [List.length_drop]; omega
    have e2 : N ++ [(l, xs.take 8), (l, xs.drop 8)] = (N ++ [(l, xs.take 8)]) ++ [(l, xs.drop 8)] := by simp
    have hp2 : ndAt (N ++ [(l, xs.take 8), (l, xs.drop 8)]) (N.length + 1 + 1) = some (l, xs.drop 8) := by
      rw [e2]
      have := Z28 (N ++ [(l, xs.take 8)]) (l, xs.drop 8) []
      rwa [List.length_append, List.length_singleton] at this
    have hp1 := Z28 N (l, xs.take 8) [(l, xs.drop 8)]
    cases l with
    | zero =>
      obtain ⟨_, rfl⟩ := Z0i.1 hb
      have hb1 : Body (Tb N 0) 0 (xs.take 8) [xs.take 8] [] := Z0i.2 ⟨by rw [if_neg hA], rfl⟩
      have hb2 : Body (Tb N 0) 0 (xs.drop 8) [xs.drop 8] [] := Z0i.2 ⟨by rw [if_neg hB], rfl⟩
      refine ⟨[N.length + 1, N.length + 1 + 1], ⟨[xs.take 8], [N.length + 1], [xs.drop 8], [N.length + 1 + 1], Z2h hb1 hA hAl hp1, hb1.hdk hA, ⟨[xs.drop 8], [N.length + 1 + 1], [], [], Z2h hb2 hB hBl hp2, hb2.hdk hB, ⟨rfl, rfl⟩, rfl, rfl⟩, rfl, rfl⟩, by simp, fun q hq => .inr ?_⟩
      simp only [List.mem_cons, List.not_mem_nil, or_false] at hq
      omega
    | succ l =>
      have hk := Z0l.1 hb
      rw [← List.take_append_drop 8 xs] at hk
      obtain ⟨LA, gA, LB, gB, kA, kB, rfl, rfl⟩ := hk.parts
      have hb1 : Body (Tb N (l + 1)) (l + 1) (xs.take 8) LA gA := Z0l.2 kA
      have hb2 : Body (Tb N (l + 1)) (l + 1) (xs.drop 8) LB gB := Z0l.2 kB
      rw [if_neg (by omega)]
      refine ⟨(N.length + 1) :: gA ++ ((N.length + 1 + 1) :: gB ++ []), ⟨LA, (N.length + 1) :: gA, LB, (N.length + 1 + 1) :: gB ++ [], Z2h hb1 hA hAl hp1, hb1.hdk hA, ⟨LB, (N.length + 1 + 1) :: gB, [], [], Z2h hb2 hB hBl hp2, hb2.hdk hB, ⟨rfl, rfl⟩, by simp, rfl⟩, rfl, rfl⟩, ?_, fun q hq => ?_⟩
      · rw [List.append_nil]
        obtain ⟨n1, n2, n3⟩ := List.nodup_append.1 hn
        have hq : ∀ q ∈ gA ++ gB, q ≤ N.length := fun q hq => (hpg q hq).2
        rw [List.cons_append, List.nodup_cons, List.nodup_append, List.nodup_cons]
        refine ⟨fun hm => ?_, n1, ⟨fun hm => ?_, n2⟩, fun a ha b hb' => ?_⟩
        · rcases List.mem_append.1 hm with hm | hm
          · have := hq _ (List.mem_append_left _ hm); omega
          · rcases List.mem_cons.1 hm with hm | hm
            · omega
            · have := hq _ (List.mem_append_right _ hm); omega
        · have := hq _ (List.mem_append_right _ hm); omega
        · rcases List.mem_cons.1 hb' with rfl | hb'
          · have := hq _ (List.mem_append_left _ ha); omega
          · exact n3 a ha b hb'
      · simp only [List.append_nil, List.cons_append, List.mem_cons, List.mem_append] at hq ⊢
        rcases hq with rfl | hq | rfl | hq
        · exact .inr (by omega)
        · exact .inl (.inl hq)
        · exact .inr (by omega)
        · exact .inl (.inr hq)
/-! A put. -/
/-- One leaf has one pair more, or another one. -/
def SplitL (x : Pr) (L L' : List (List Pr)) : Prop := ∃ A c B, L = A ++ c :: B ∧ L' = A ++ (parts (insP x c) ++ B) ∧ (insP x c).length ≤ 16
theorem Z69 {x : Pr} {ps : List Pr} : (insP x ps).length ≤ ps.length + 1 := by
  unfold insP
  rw [List.length_append, List.length_cons]
  have h1 : (ps.filter (fun y => decide (y.1 < x.1))).length + (ps.filter (fun y => decide (x.1 < y.1))).length ≤ ps.length := by
    induction ps with
    | nil => simp
    | cons y r ih =>
      simp only [List.filter_cons, List.length_cons]
      split <;> split
      · rename_i h1 h2; simp at h1 h2; omega
      · simp only [List.length_cons]; omega
      · simp only [List.length_cons]; omega
      · omega
  omega
structure PutR (N N' : List Nd) (l p : Nat) (x : Pr) (L : List (List Pr)) (g : List Nat) (es : List Pr) : Prop where
  app : ∃ M, N' = N ++ M ∧ M.length ≤ 2 * (l + 1)
  one : es.length = 1 ∨ es.length = 2
  kids : ∃ L' g', Kids (Tr N' l) es L' g' ∧ g'.Nodup ∧ (∀ q ∈ g', q ∈ g ∨ N.length < q) ∧ SplitL x L L' ∧ L'.flatten = insP x L.flatten ∧ (es.length = 2 → 0 < l → 16 ≤ L'.length) ∧ N'.length + L.length ≤ N.length + L'.length + 1 + (if l = 0 then 0 else 2 * (l - 1) + es.length)
  root : 0 < l → ∃ xs, ndAt N p = some (l, xs) ∧ (es.length = 1 → ∃ k q xs', es = [(k, q)] ∧ ndAt N' q = some (l, xs') ∧ xs.length ≤ xs'.length)
theorem Z4v {N : List Nd} {l n : Nat} {xs : List Pr} (hx : xs ≠ []) (h16 : xs.length ≤ 16) (hn : n ≤ xs.length) :
    ((outs (parts xs) N.length).length = 1 ∨ (outs (parts xs) N.length).length = 2) ∧ ((outs (parts xs) N.length).length = 2 → xs.length = 16) ∧
    ((outs (parts xs) N.length).length = 1 → ∃ k q xs', outs (parts xs) N.length = [(k, q)] ∧ ndAt (N ++ newN l (parts xs)) q = some (l, xs') ∧ n ≤ xs'.length) := by
  by_cases h15 : xs.length ≤ 15
  · rw [Z2d hx h15]
    exact ⟨.inl rfl, fun h => (by cases h), fun _ => ⟨_, _, xs, rfl, Z28 N (l, xs) [], hn⟩⟩
  · rw [Z2c (by omega)]
    exact ⟨.inr rfl, fun _ => by omega, fun h => (by cases h)⟩
theorem put_leaf {N : List Nd} {p : Nat} {x : Pr} {L : List (List Pr)} {g : List Nat} {xs : List Pr} (hT : Tr N 0 p L g) (hp : ndAt N p = some (0, xs)) :
    PutR N (N ++ newN 0 (parts (insP x xs))) 0 p x L g (outs (parts (insP x xs)) N.length) ∧ (insP x xs).length ≤ 16 ∧ L.flatten = xs := by
  obtain ⟨xs', h, h1, h2, h3, h4, rfl⟩ := hT
  rw [hp] at h1
  injection h1 with h1
  injection h1 with _ h1
  subst h1
  obtain ⟨rfl, rfl⟩ := Z0i.1 h4
  rw [if_neg h2]
  have hl := Z69 (x := x) (ps := xs)
  have h16 : (insP x xs).length ≤ 16 := by omega
  have hb : Body (Tb N 0) 0 (insP x xs) [insP x xs] [] := Z0i.2 ⟨by rw [if_neg Z5s], rfl⟩
  obtain ⟨g, k1, k2, k3⟩ := Z42 hb h16 List.nodup_nil
  rw [if_pos rfl] at k1
  obtain ⟨r1, r2, r3⟩ := Z4v (N := N) (l := 0) (n := 0) Z5s h16 (Nat.zero_le _)
  exact ⟨⟨⟨_, rfl, by rw [List.length_map]; have := Z1y (insP x xs); omega⟩, r1, ⟨_, g, k1, k2, fun q hq => (k3 q hq).elim (fun h => by cases h) .inr, ⟨[], xs, [], rfl, by simp, h16⟩, by rw [Z2w]; simp, (fun _ h => (by cases h)), (by rw [if_pos rfl, List.length_append, List.length_map]; show _ + _ + 1 ≤ _; omega)⟩, fun h => (by cases h)⟩, h16, by simp⟩
theorem Z78 {N : List Nd} {l p : Nat} {L : List (List Pr)} {g : List Nat} (hT : Tr N l p L g) {l' : Nat} {xs : List Pr} (hp : ndAt N p = some (l', xs)) : l' = l ∧ xs ≠ [] ∧ xs.length ≤ 15 ∧ ∃ h, Body (Tb N l) l xs L h ∧ g = p :: h := by
  obtain ⟨xs', h, h1, h2, h3, h4, h5⟩ := Z2s.1 hT
  rw [hp] at h1
  injection h1 with h1
  injection h1 with h0 h1
  subst h0 h1
  exact ⟨rfl, h2, h3, h, h4, h5⟩
/-- Which child a key is looked for in: all ahead is less, all behind is greater. -/
theorem Z53 {N : List Nd} {l p k n : Nat} {L : List (List Pr)} {g : List Nat} {xs : List Pr} (hT : Tr N (l + 1) p L g) (hu : Up L.flatten) (hp : ndAt N p = some (l + 1, xs)) (hpl : Place xs k n) :
    ∃ A y B LA gA Lx gx LB gB, xs = A ++ y :: B ∧ A.length = kidN xs k n ∧ Kids (Tr N l) A LA gA ∧ Tr N l y.2 Lx gx ∧ Kids (Tr N l) B LB gB ∧ L = LA ++ (Lx ++ LB) ∧ g = p :: (gA ++ (gx ++ gB)) ∧ (∀ z ∈ LA.flatten, z.1 < k) ∧ (∀ z ∈ LB.flatten, k < z.1) := by
  obtain ⟨_, hx, h15, h, hb, rfl⟩ := Z78 hT hp
  have hk := Z0l.1 hb
  obtain ⟨A, y, B, e, hA, h1, h2⟩ := kid_at (hk.up hu).1 hx hpl
  subst e
  obtain ⟨LA, gA, Lx, gx, LB, gB, kA, kx, kh, kB, rfl, rfl⟩ := hk.at_
  refine ⟨A, y, B, LA, gA, Lx, gx, LB, gB, rfl, hA, kA, kx, kB, rfl, rfl, fun z hz => ?_, fun z hz => ?_⟩
  · have hA0 : A ≠ [] := fun e => by subst e; obtain ⟨rfl, _⟩ := kA; cases hz
    have := h1 hA0
    obtain ⟨v, r, e⟩ := Z3k kh
    rw [List.flatten_append, List.flatten_append] at hu
    have := hu.app.2.2 z hz (y.1, v) (by rw [e]; simp)
    omega
  · have hB0 : B ≠ [] := fun e => by subst e; obtain ⟨rfl, _⟩ := kB; cases hz
    obtain ⟨b, B', rfl⟩ := List.exists_cons_of_ne_nil hB0
    have h3 := h2 b (by simp)
    obtain ⟨v, r, e⟩ := Z3k kB.hdk
    rw [List.flatten_append, List.flatten_append] at hu
    have hu2 := hu.app.2.1.app.2.1
    rw [e] at hu2 hz
    rcases List.mem_cons.1 hz with rfl | hz
    · exact h3
    · have := (List.pairwise_cons.1 hu2).1 z hz
      omega
theorem put_node {N N1 : List Nd} {l p n : Nat} {x : Pr} {L Lx LA LB : List (List Pr)} {g gx gA gB : List Nat} {A B es : List Pr} {y : Pr} (hp : ndAt N p = some (l + 1, A ++ y :: B)) (h15 : (A ++ y :: B).length ≤ 15)
    (kA : Kids (Tr N l) A LA gA) (kB : Kids (Tr N l) B LB gB) (hL : L = LA ++ (Lx ++ LB)) (hg : g = p :: (gA ++ (gx ++ gB))) (hgn : g.Nodup) (hgl : ∀ q ∈ g, q ≤ N.length) (hA : ∀ z ∈ LA.flatten, z.1 < x.1) (hB : ∀ z ∈ LB.flatten, x.1 < z.1) (hr : PutR N N1 l y.2 x Lx gx es) :
    PutR N (N1 ++ newN (l + 1) (parts (A ++ (es ++ B)))) (l + 1) p x L g (outs (parts (A ++ (es ++ B))) N1.length) ∧ (A ++ (es ++ B)).length ≤ 16 ∧ A ++ (es ++ B) ≠ [] := by
  subst hL hg
  obtain ⟨⟨M, rfl, hM⟩, h1, ⟨L', g', k1, k2, k3, ⟨A1, c, B1, s1, s2, s3⟩, k5, k6, k7⟩, -⟩ := hr
  have hes : es ≠ [] := fun e => by subst e; rcases h1 with h1 | h1 <;> cases h1
  have h16 : (A ++ (es ++ B)).length ≤ 16 := by simp only [List.length_append, List.length_cons] at h15 ⊢; omega
  have hne : A ++ (es ++ B) ≠ [] := by simp [hes]
  have hK : Kids (Tr (N ++ M) l) (A ++ (es ++ B)) (LA ++ (L' ++ LB)) (gA ++ (g' ++ gB)) := (kA.mono fun _ _ _ h => h.mono M).app (k1.app (kB.mono fun _ _ _ h => h.mono M))
  have hgn' := (List.nodup_cons.1 hgn).2
  have hgl' : ∀ q ∈ gA ++ (gx ++ gB), q ≤ N.length := fun q hq => hgl q (List.mem_cons_of_mem _ hq)
  have hnd : (gA ++ (g' ++ gB)).Nodup := by
    obtain ⟨n1, n2, n3⟩ := List.nodup_append.1 hgn'
    obtain ⟨n4, n5, n6⟩ := List.nodup_append.1 n2
    rw [List.nodup_append, List.nodup_append]
    refine ⟨n1, ⟨k2, n5, fun a ha b hb => ?_⟩, fun a ha b hb => ?_⟩
    · rcases k3 a ha with h | h
      · exact n6 a h b hb
      · have := hgl' b (by simp [hb]); omega
    · rcases List.mem_append.1 hb with hb | hb
      · rcases k3 b hb with h | h
        · exact n3 a ha b (by simp [h])
        · have := hgl' a (by simp [ha]); omega
      · exact n3 a ha b (by simp [hb])
  obtain ⟨g2, a1, a2, a3⟩ := Z42 (N := N ++ M) (l := l + 1) (Z0l.2 hK) h16 hnd
  rw [if_neg (by omega)] at a1
  obtain ⟨r1, r2, r3⟩ := Z4v (N := N ++ M) (l := l + 1) (n := (A ++ y :: B).length) hne h16 (by simp only [List.length_append, List.length_cons]; omega)
  refine ⟨⟨⟨M ++ newN (l + 1) (parts (A ++ (es ++ B))), by rw [List.append_assoc], ?_⟩, r1, ⟨_, g2, a1, a2, fun q hq => ?_, ⟨LA ++ A1, c, B1 ++ LB, by rw [s1]; simp, by rw [s2]; simp, s3⟩, ?_, (fun h2 _ => ?_), ?_⟩, fun _ => ⟨_, hp, r3⟩⟩, h16, hne⟩
  · rw [List.length_append, List.length_map]
    have := Z1y (A ++ (es ++ B))
    omega
  · rcases a3 q hq with h | h
    · rcases List.mem_append.1 h with h | h
      · exact .inl (by simp [h])
      · rcases List.mem_append.1 h with h | h
        · rcases k3 q h with h | h
          · exact .inl (by simp [h])
          · exact .inr h
        · exact .inl (by simp [h])
    · rw [List.length_append] at h
      exact .inr (by omega)
  · rw [List.flatten_append, List.flatten_append, List.flatten_append, List.flatten_append, k5, Z4k hA hB]
  · have h3 := r2 h2
    have h4 := hK.len
    omega
  · rw [if_neg (Nat.succ_ne_zero l), Z1g]
    simp only [List.length_append, List.length_map] at k7 ⊢
    have h8 : (if l = 0 then 0 else 2 * (l - 1) + es.length) ≤ 2 * l := by split <;> omega
    omega
/-! A drop. -/
/-- One leaf lacks a pair; or it is gone. -/
def DelL (k : Nat) (L L' : List (List Pr)) : Prop := ∃ A c B, L = A ++ c :: B ∧ L' = A ++ ((if delP k c = [] then [] else [delP k c]) ++ B)
structure DelR (N N' : List Nd) (l k : Nat) (L : List (List Pr)) (g : List Nat) (xs' : List Pr) : Prop where
  app : ∃ M, N' = N ++ M ∧ M.length ≤ l
  len : xs'.length ≤ 15
  body : ∃ L' h', Body (Tb N' l) l xs' L' h' ∧ h'.Nodup ∧ (∀ q ∈ h', q ∈ g ∨ N.length < q) ∧ DelL k L L' ∧ L'.flatten = delP k L.flatten
theorem delP_len {k : Nat} {ps : List Pr} : (delP k ps).length ≤ ps.length := List.length_filter_le _ _
theorem Z56 {N : List Nd} {p k : Nat} {L : List (List Pr)} {g : List Nat} {xs : List Pr} (hT : Tr N 0 p L g) (hp : ndAt N p = some (0, xs)) : DelR N N 0 k L g (delP k xs) ∧ L.flatten = xs := by
  obtain ⟨_, hx, h15, h, hb, rfl⟩ := Z78 hT hp
  obtain ⟨rfl, rfl⟩ := Z0i.1 hb
  rw [if_neg hx]
  have := delP_len (k := k) (ps := xs)
  refine ⟨⟨⟨[], by simp, Nat.zero_le _⟩, by omega, ⟨_, [], Z0i.2 ⟨rfl, rfl⟩, List.nodup_nil, fun q hq => (by cases hq), ⟨[], xs, [], rfl, by simp⟩, ?_⟩⟩, by simp⟩
  split
  · rename_i h; simp [h]
  · simp
/-! How great: each leaf counts eight, and what it has beyond eight. -/
def phi (L : List (List Pr)) : Nat := (L.map fun c => c.length - 8).sum + 8 * L.length
theorem Z4e (A B : List (List Pr)) : phi (A ++ B) = phi A + phi B := by
  unfold phi
  rw [List.map_append, List.sum_append, List.length_append]
  omega
theorem Z5k (c : List Pr) : phi [c] = (c.length - 8) + 8 := by simp [phi]
theorem Z4d (c : List Pr) (L : List (List Pr)) : phi (c :: L) = (c.length - 8) + 8 + phi L := by
  rw [show c :: L = [c] ++ L from rfl, Z4e, Z5k]
theorem Z7p {x : Pr} {L L' : List (List Pr)} (h : SplitL x L L') : phi L' ≤ phi L + 1 := by
  obtain ⟨A, c, B, rfl, rfl, h16⟩ := h
  have hl := Z69 (x := x) (ps := c)
  rw [Z4e, Z4e, Z4e, Z4d]
  by_cases h15 : (insP x c).length ≤ 15
  · rw [Z2d Z5s h15, Z5k]; omega
  · rw [Z2c (by omega), Z4d, Z5k, List.length_take, List.length_drop]; omega
/-! Trees. -/
/-- A tree of at most so many levels above its leaves. -/
structure RT (m : Nat) (N : List Nd) (root : Nat) (L : List (List Pr)) (g : List Nat) : Prop where
  rt : (root = 0 ∧ L = [] ∧ g = []) ∨ ∃ l, l ≤ m ∧ Tr N l root L g ∧ (0 < l → ∃ xs, ndAt N root = some (l, xs) ∧ 2 ≤ xs.length)
  up : Up L.flatten
  nod : g.Nodup
  wf : ∀ y ∈ L.flatten, y.1 < 18446744073709551616 ∧ y.2 < 18446744073709551616
theorem RT.mono {m : Nat} {N : List Nd} {root : Nat} {L : List (List Pr)} {g : List Nat} (h : RT m N root L g) (M : List Nd) : RT m (N ++ M) root L g := by
  refine ⟨?_, h.up, h.nod, h.wf⟩
  rcases h.rt with h | ⟨l, h1, h2, h3⟩
  · exact .inl h
  · exact .inr ⟨l, h1, h2.mono M, fun h0 => by obtain ⟨xs, h4, h5⟩ := h3 h0; exact ⟨xs, Z4f h4 M, h5⟩⟩
theorem Z7i (m : Nat) (N : List Nd) : RT m N 0 [] [] := ⟨.inl ⟨rfl, rfl, rfl⟩, List.Pairwise.nil, List.nodup_nil, fun _ h => (by cases h)⟩
theorem wf_ins {x : Pr} {ps : List Pr} (h : ∀ y ∈ ps, y.1 < 18446744073709551616 ∧ y.2 < 18446744073709551616) (hx : x.1 < 18446744073709551616 ∧ x.2 < 18446744073709551616) : ∀ y ∈ insP x ps, y.1 < 18446744073709551616 ∧ y.2 < 18446744073709551616 := by
  intro y hy
  rcases mem_insP hy with rfl | hy
  · exact hx
  · exact h y hy
end Go.Proofs.Ytngehbhhpkkijaa

/- Rows of elements of k cells: copy, clear, append at a place; rows as things. No function of the program in sight. -/
namespace Go.Proofs.Ytngehbhhpkkijaa
set_option linter.unusedVariables false
set_option linter.unusedSimpArgs false
open Go.RowKit Go.Maps Go.ChangeMaps Go.MapKept Go.WideShapes

theorem Blk.setRow {w : World} {g : Nat} {t : TypeId} {cs : Array Value} (h : Blk w g t cs) (cs' : Array Value) : Blk (w.setRow g cs') g t cs' := setRow_heap w g cs cs' t (0, 0) h
theorem Z24 (w : World) (g : Nat) (cs : Array Value) : Chg [g] w (w.setRow g cs) := ⟨rfl, rfl, rfl, by simp, fun i _ hn => setRow_other w g i cs (by simpa using hn)⟩
/-- A row of one's own as a thing. -/
def tRow (T : TypeId) (k : Nat) (v : Value) (n : Nat) (xs : List Value) : Thing where
  foot := v.ownBlock.toList
  holds := fun w => w.ownsRow 0 T k v n xs
  keep := fun w w' _ h hb => by
    refine ⟨hb.1, ?_⟩
    rcases hb.2 with hn | ⟨g, cap, cur, rfl, hg, hgb, rest⟩
    · exact .inl hn
    · exact .inr ⟨g, cap, cur, rfl, hg, (h g (by simp [Value.ownBlock])).trans hgb, rest⟩
  lt := fun w h i hi => (h.lt i (by simpa using hi)).2
/-- What a row that is not nil is. -/
theorem Z17 {w : World} {T : TypeId} {k n : Nat} {v : Value} {xs : List Value} (h : w.ownsRow 0 T k v n xs) (hn : 0 < n) : ∃ g cap cur, v = .slice (some ⟨g, 0, none⟩) n cap ∧ Blk w g T cur ∧ n ≤ cap ∧ cap ≤ maxLen ∧ cur.size = cap * k ∧ cur.toList.take (n * k) = xs := by
  rcases h.2 with ⟨_, rfl⟩ | ⟨g, cap, cur, rfl, _, h1, h2, h3, h4, h5⟩
  · omega
  · exact ⟨g, cap, cur, rfl, h1, h2, h3, h4, h5⟩
theorem Z62 {w : World} {T : TypeId} {k n g cap : Nat} {cur : Array Value} {xs : List Value} (h1 : Blk w g T cur) (h2 : n ≤ cap) (h3 : cap ≤ maxLen) (h4 : cur.size = cap * k) (h5 : cur.toList.take (n * k) = xs) :
    w.ownsRow 0 T k (.slice (some ⟨g, 0, none⟩) n cap) n xs := by
  have hc : n * k ≤ cap * k := Nat.mul_le_mul_right k h2
  refine ⟨?_, .inr ⟨g, cap, cur, rfl, Nat.zero_le _, h1, h2, h3, h4, h5⟩⟩
  rw [← h5, List.length_take, Array.length_toList, h4]
  omega
theorem OwnT.row {H : Nat} {A w w' : World} {L : List Thing} {T : TypeId} {k n n' : Nat} {v v' : Value} {xs xs' : List Value} (h : OwnT H A (tRow T k v n xs :: L) w) (hr : w'.ownsRow 0 T k v' n' xs') (hg : w.grownBy w' v.ownBlock)
    (hf : v'.ownBlock = v.ownBlock ∨ ∃ j, v'.ownBlock = some j ∧ w.heap.size ≤ j) : OwnT H A (tRow T k v' n' xs' :: L) w' := by
  refine h.call (F := v.ownBlock.toList) ⟨hg.os, hg.tape, hg.output, hg.size, fun i hi hn => hg.block i hi (fun e => hn (by rw [← e]; simp))⟩ (fun i hi => hi) (tRow T k v' n' xs') hr (fun i hi => ?_)
  rcases hf with e | ⟨j, e, hj⟩
  · exact .inl (by simp only [tRow] at hi ⊢; rw [← e]; exact hi)
  · simp only [tRow, e, Option.toList_some, List.mem_singleton] at hi
    exact .inr (by omega)
theorem OwnT.r0 {H : Nat} {A w : World} {L : List Thing} {T : TypeId} {k n : Nat} {v : Value} {xs : List Value} (h : OwnT H A (tRow T k v n xs :: L) w) : w.ownsRow 0 T k v n xs := h.all.1
theorem OwnT.b0 {H : Nat} {A w : World} {L : List Thing} {b : Nat} {t : TypeId} {cs : Array Value} (h : OwnT H A (tBlk b t cs :: L) w) : Blk w b t cs := h.all.1
theorem OwnT.b1 {H : Nat} {A w : World} {X : Thing} {L : List Thing} {b : Nat} {t : TypeId} {cs : Array Value} (h : OwnT H A (X :: tBlk b t cs :: L) w) : Blk w b t cs := h.all.2.1
theorem OwnT.b2 {H : Nat} {A w : World} {X Y : Thing} {L : List Thing} {b : Nat} {t : TypeId} {cs : Array Value} (h : OwnT H A (X :: Y :: tBlk b t cs :: L) w) : Blk w b t cs := h.all.2.2.1
section
variable {P : Program}
/-- copy of elements of k cells. -/
theorem Z1x (w : World) (dT sT ty elem : TypeId) (i : TypeInfo) (k : Nat) (hu : P.underlying dT = some (.slice elem)) (hi : P.info? elem = some i) (hk : i.size = k) (g o dLen dCap : Nat) (a : Addr) (sLen sCap : Nat) (cur : Array Value) (t : TypeId) (cs : List Value)
    (hg : Blk w g t cur) (hn : cs.length = Nat.min sLen dLen * k) (hsrc : ∀ j v, cs[j]? = some v → w.cell? (a.add j) = some v) (hfit : o + cs.length ≤ cur.size) (h1 : ∀ v ∈ cs, v.oneCell' = true) :
    (Builtin.copy_ #[dT, sT] ty #[.slice (some ⟨g, o, none⟩) dLen dCap, .slice (some a) sLen sCap]).run P w = .ok (goInt (Nat.min sLen dLen)) (w.setRow g (splice cur.toList o cs).toArray) := by
  have hl := run_loadCells_list (P := P) w a cs hsrc
  have hst := run_storeCells_at P g o t cs 0 cur w hg (by simpa using hfit) h1
  subst hk
  simp [Builtin.copy_, run_underlying hu, Builtin.lenOf, Builtin.firstCells, sizeOf, typeInfo, hi, ← hn, hl, hst, splice]
theorem Z48 (w : World) (dT sT ty elem : TypeId) (i : TypeInfo) (hu : P.underlying dT = some (.slice elem)) (hi : P.info? elem = some i) (A B : Option Addr) (dLen dCap sLen sCap : Nat) (hn : Nat.min sLen dLen = 0) :
    (Builtin.copy_ #[dT, sT] ty #[.slice A dLen dCap, .slice B sLen sCap]).run P w = .ok (goInt 0) w := by
  cases A <;> cases B <;> simp [Builtin.copy_, run_underlying hu, Builtin.lenOf, Builtin.firstCells, sizeOf, typeInfo, hi, hn, storeCells, loadCells, loadCellsFrom]
/-- clear of elements of k cells. -/
theorem Z3c (w : World) (t elem ty : TypeId) (i : TypeInfo) (z : Value) (hu : P.underlying t = some (.slice elem)) (hi : P.info? elem = some i) (hz : i.zero = some z) (g o n c : Nat) (cur : Array Value) (T : TypeId)
    (hg : Blk w g T cur) (hn : 0 < n) (hfit : o + n * z.cells.size ≤ cur.size) (h1 : ∀ v ∈ (Builtin.zeroCells z.cells n).toList, v.oneCell' = true) :
    (Builtin.clear_ #[t] ty #[.slice (some ⟨g, o, none⟩) n c]).run P w = .ok (.tuple #[]) (w.setRow g (splice cur.toList o (Builtin.zeroCells z.cells n).toList).toArray) := by
  have hl : (Builtin.zeroCells z.cells n).toList.length = n * z.cells.size := by simp [Builtin.zeroCells]
  have hst := run_storeCells_at P g o T (Builtin.zeroCells z.cells n).toList 0 cur w hg (by rw [hl]; simpa using hfit) h1
  obtain ⟨m, rfl⟩ : ∃ m, n = m + 1 := ⟨n - 1, by omega⟩
  simp [Builtin.clear_, run_underlying hu, zeroValue, typeInfo, hi, hz, hst, splice]
theorem Z3o (w : World) (t elem ty : TypeId) (hu : P.underlying t = some (.slice elem)) (A : Option Addr) (c : Nat) :
    (Builtin.clear_ #[t] ty #[.slice A 0 c]).run P w = .ok (.tuple #[]) w := by
  cases A <;> simp [Builtin.clear_, run_underlying hu]
/-- append to a row of one's own: which block it lies in then. -/
theorem Z1n (w : World) (t ty e : TypeId) (i : TypeInfo) (z : Value) (size bytes : Nat) (ht : P.underlying t = some (.slice e)) (hi : P.info? e = some i) (hz : i.zero = some z)
    (hsize : i.size = size) (hby : i.bytes = bytes) (hzs : z.cells.size = size) (hsz : 0 < size) (v : Value) (n : Nat) (xs : List Value) (hown : w.ownsRow 0 e size v n xs)
    (a : Addr) (m c : Nat) (news : List Value) (hl : news.length = m * size) (hnews : ∀ j u, news[j]? = some u → w.cell? (a.add j) = some u) (h1 : ∀ u ∈ news, u.oneCell' = true)
    (h63 : n + m ≤ maxLen) (hbytes : (n + m) * bytes ≤ 140737488355328) :
    ∃ v' w', (Builtin.append_ #[t, t] ty #[v, .slice (some a) m c]).run P w = .ok v' w' ∧ w'.ownsRow 0 e size v' (n + m) (xs ++ news) ∧ w.grownBy w' v.ownBlock ∧
      (v'.ownBlock = v.ownBlock ∨ ∃ k, v'.ownBlock = some k ∧ w.heap.size ≤ k) := by
  obtain ⟨v', w', hrun, h2, h3, h4⟩ := run_append_own (P := P) w 0 t ty e i z size bytes ht hi hz hsize hby hzs hsz v n xs hown a m c news hl hnews h1 h63 hbytes (Nat.zero_le _)
  refine ⟨v', w', hrun, h2, h3, ?_⟩
  subst hsize hby
  rcases hown.2 with ⟨rfl, rfl⟩ | ⟨g, cap, cur, rfl, hbg, hg, hnc, hcm, hcs, htake⟩
  · by_cases hm : m = 0
    · obtain rfl := (h4.2 ⟨rfl, hm⟩)
      exact .inl rfl
    · have hr := run_append_nil (P := P) w t ty e i z ht hi hz a m c news hl hnews (by omega) (by have := h63; unfold maxLen at this; omega) (by have hb := hbytes; simp only [Nat.zero_add] at hb; omega)
      rw [hr] at hrun
      injection hrun with e1 e2
      subst e1
      exact .inr ⟨w.heap.size, rfl, Nat.le_refl _⟩
  · by_cases hroom : n + m ≤ cap
    · have hfit : n * i.size + news.length ≤ cur.size := by rw [hl, hcs, ← Nat.add_mul]; exact Nat.mul_le_mul_right _ hroom
      have hr := run_append_room (P := P) w t ty e i ht hi g n cap cur hg a m c news hl hnews h1 hroom hfit
      rw [hr] at hrun
      injection hrun with e1 e2
      subst e1
      exact .inl rfl
    · have holds : ∀ j u, xs[j]? = some u → w.cell? ((⟨g, 0, none⟩ : Addr).add j) = some u := hown.cells (g := g) rfl
      have hr := run_append_grow (P := P) w t ty e i z ht hi hz ⟨g, 0, none⟩ n cap xs hown.1 holds a m c news hl hnews (by omega) (by have := h63; unfold maxLen at this; omega) (growslice_fits (by omega) hbytes)
      rw [hr] at hrun
      injection hrun with e1 e2
      subst e1
      exact .inr ⟨w.heap.size, rfl, Nat.le_refl _⟩
/-- copy, append, clear at an operation, by their runs. -/
theorem Z2i {w : World} {o : Oper} {a : Act} {K : Act → World → Prop} {Q : Exit → Act → World → Prop} (d s : Operand) (t t' : TypeId)
    (ho : o.op = .call { callee := .builtin .copy, args := #[d, s], argTypes := #[t, t'] }) (v u : Value) (hd : a.eval d = v) (hs : a.eval s = u) {v' : Value} {w' : World}
    (hr : (Builtin.copy_ #[t, t'] o.type #[v, u]).run P w = .ok v' w') (h : K (a.put o.dst v') w') : o.wp P a w K Q := by
  unfold Oper.wp execOp
  simp only [ho, resolve, invoke, builtin, Sem.run_bind, Sem.run_pure, Result.andThen_ok, List.map_toArray, List.map_cons, List.map_nil, hd, hs, hr]
  exact h
theorem Z13 {w : World} {ops : Array Oper} {rest : List Oper} {o : Oper} {a : Act} {Q : Exit → Act → World → Prop} (hgd : o.guard = none) (d s : Operand) (t t' : TypeId)
    (ho : o.op = .call { callee := .builtin .copy, args := #[d, s], argTypes := #[t, t'] }) (v u : Value) (hd : a.eval d = v) (hs : a.eval s = u) {v' : Value} {w' : World}
    (hr : (Builtin.copy_ #[t, t'] o.type #[v, u]).run P w = .ok v' w') (h : wpList P ops Q rest (a.put o.dst v') w') : wpList P ops Q (o :: rest) a w :=
  wpList_plain hgd fun _ hK => Z2i d s t t' ho v u hd hs hr (hK _ _ h)
theorem Z44 {w : World} {o : Oper} {a : Act} {K : Act → World → Prop} {Q : Exit → Act → World → Prop} (d s : Operand) (t t' : TypeId)
    (ho : o.op = .call { callee := .builtin .append, args := #[d, s], argTypes := #[t, t'] }) (v u : Value) (hd : a.eval d = v) (hs : a.eval s = u) {v' : Value} {w' : World}
    (hr : (Builtin.append_ #[t, t'] o.type #[v, u]).run P w = .ok v' w') (h : K (a.put o.dst v') w') : o.wp P a w K Q := by
  unfold Oper.wp execOp
  simp only [ho, resolve, invoke, builtin, Sem.run_bind, Sem.run_pure, Result.andThen_ok, List.map_toArray, List.map_cons, List.map_nil, hd, hs, hr]
  exact h
theorem Z0o {w : World} {ops : Array Oper} {rest : List Oper} {o : Oper} {a : Act} {Q : Exit → Act → World → Prop} (hgd : o.guard = none) (d s : Operand) (t t' : TypeId)
    (ho : o.op = .call { callee := .builtin .append, args := #[d, s], argTypes := #[t, t'] }) (v u : Value) (hd : a.eval d = v) (hs : a.eval s = u) {v' : Value} {w' : World}
    (hr : (Builtin.append_ #[t, t'] o.type #[v, u]).run P w = .ok v' w') (h : wpList P ops Q rest (a.put o.dst v') w') : wpList P ops Q (o :: rest) a w :=
  wpList_plain hgd fun _ hK => Z44 d s t t' ho v u hd hs hr (hK _ _ h)
end
end Go.Proofs.Ytngehbhhpkkijaa
