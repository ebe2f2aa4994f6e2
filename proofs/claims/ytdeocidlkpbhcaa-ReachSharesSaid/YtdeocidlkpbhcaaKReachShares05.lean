/- Trees, plain: what is added, put, dropped. -/
import Derived.Test.YtdeocidlkpbhcaaKReachShares04
import Derived.Test.YtdeocidlkpbhcaaKReachShares01
namespace Go.Proofs.Ytdeocidlkpbhcaa
set_option linter.unusedVariables false
set_option linter.unusedSimpArgs false

/-- A node's pairs as nodes: none, one, or two. -/
def parts (xs : List Pr) : List (List Pr) := if xs = [] then [] else if xs.length ≤ 15 then [xs] else [xs.take 8, xs.drop 8]
/-- The pairs that lead to new nodes, behind so many. -/
def outs : List (List Pr) → Nat → List Pr
  | [], _ => []
  | c :: r, n => (keyAt c 0, n + 1) :: outs r (n + 1)
/-- So many new nodes of a level. -/
abbrev newN (l : Nat) (cs : List (List Pr)) : List Nd := cs.map fun c => (l, c)
theorem Z2q : ∀ (cs : List (List Pr)) (n : Nat), (outs cs n).length = cs.length
  | [], _ => rfl
  | _ :: r, n => by rw [outs, List.length_cons, Z2q r, List.length_cons]
theorem Z2j (xs : List Pr) : (parts xs).length ≤ 2 := by
  unfold parts
  split
  · simp
  · split <;> simp
theorem Z4o (xs : List Pr) : (parts xs).flatten = xs := by
  unfold parts
  split
  · rename_i h; rw [h]; rfl
  · split
    · simp
    · simp
theorem parts_ne {xs : List Pr} : ∀ c ∈ parts xs, c ≠ [] := by
  intro c hc
  unfold parts at hc
  split at hc
  · cases hc
  · rename_i h0
    split at hc
    · rw [List.mem_singleton.1 hc]; exact h0
    · rename_i h1
      rcases List.mem_cons.1 hc with rfl | hc
      · intro e; have := congrArg List.length e; rw [List.length_take, List.length_nil] at this; omega
      · rw [List.mem_singleton.1 hc]; intro e; have := congrArg List.length e; rw [List.length_drop, List.length_nil] at this; omega
theorem Z28 {xs : List Pr} (h : xs ≠ []) (hl : xs.length ≤ 15) : parts xs = [xs] := by unfold parts; rw [if_neg h, if_pos hl]
theorem Z27 {xs : List Pr} (hl : xs.length = 16) : parts xs = [xs.take 8, xs.drop 8] := by
  unfold parts
  rw [if_neg (fun e => by rw [e] at hl; cases hl), if_neg (by omega)]
theorem Z5e : parts [] = [] := rfl
theorem Body.hdk {N : List Nd} {l : Nat} {xs : List Pr} {L : List (List Pr)} {h : List Nat} (hb : Body (Tb N l) l xs L h) (hx : xs ≠ []) : hdk L = some (keyAt xs 0) := by
  cases l with
  | zero =>
    obtain ⟨rfl, _⟩ := Z0e.1 hb
    rw [if_neg hx]
    unfold Go.Proofs.Ytdeocidlkpbhcaa.hdk
    cases xs with
    | nil => exact absurd rfl hx
    | cons x r => simp [keyAt]
  | succ l =>
    cases xs with
    | nil => exact absurd rfl hx
    | cons x r => exact (Z0f.1 hb).hdk
/-- A node of what stands in it. -/
theorem Z23 {N M : List Nd} {l p : Nat} {xs : List Pr} {L : List (List Pr)} {h : List Nat} (hb : Body (Tb N l) l xs L h) (hx : xs ≠ []) (h15 : xs.length ≤ 15) (hp : ndAt (N ++ M) p = some (l, xs)) : Tr (N ++ M) l p L (p :: h) :=
  Z3n.2 ⟨xs, h, hp, hx, h15, hb.mono M, rfl⟩
/-- What is added of a node's pairs leads to what they led to. -/
theorem Z3l {N : List Nd} {l : Nat} {xs : List Pr} {L : List (List Pr)} {h : List Nat} (hb : Body (Tb N l) l xs L h) (h16 : xs.length ≤ 16) (hn : h.Nodup) :
    ∃ g, Kids (Tr (N ++ newN l (parts xs)) l) (outs (parts xs) N.length) (if l = 0 then parts xs else L) g ∧ g.Nodup ∧ (∀ q ∈ g, q ∈ h ∨ N.length < q) := by
  have hpg := hb.pages
  by_cases hx : xs = []
  · subst hx
    rw [Z5e]
    refine ⟨[], ⟨?_, rfl⟩, List.nodup_nil, fun q hq => (by cases hq)⟩
    cases l with
    | zero => rfl
    | succ l =>
      rw [if_neg (by omega)]
      exact (Z0f.1 hb).1
  by_cases h15 : xs.length ≤ 15
  · rw [Z28 hx h15]
    have hT := Z23 (M := [(l, xs)]) hb hx h15 (Z1l N (l, xs) [])
    have hL : (if l = 0 then [xs] else L) = L := by
      cases l with
      | zero => rw [(Z0e.1 hb).1, if_neg hx]; rfl
      | succ l => rw [if_neg (by omega)]
    rw [hL]
    refine ⟨_, Kids.one (x := (keyAt xs 0, N.length + 1)) hT (hb.hdk hx), List.nodup_cons.2 ⟨fun hm => ?_, hn⟩, fun q hq => ?_⟩
    · have := (hpg _ hm).2
      omega
    · rcases List.mem_cons.1 hq with rfl | hq
      · exact .inr (by omega)
      · exact .inl hq
  · have h8 : xs.length = 16 := by omega
    rw [Z27 h8]
    have hA : xs.take 8 ≠ [] := fun e => by have := congrArg List.length e; rw [List.length_take, List.length_nil] at this; omega
    have hB : xs.drop 8 ≠ [] := fun e => by have := congrArg List.length e; rw [List.length_drop, List.length_nil] at this; omega
    have hAl : (xs.take 8).length ≤ 15 := by rw [List.length_take]; omega
    have hBl : (xs.drop 8).length ≤ 15 := by rw [List.length_drop]; omega
    have e2 : N ++ [(l, xs.take 8), (l, xs.drop 8)] = (N ++ [(l, xs.take 8)]) ++ [(l, xs.drop 8)] := by simp
    have hp2 : ndAt (N ++ [(l, xs.take 8), (l, xs.drop 8)]) (N.length + 1 + 1) = some (l, xs.drop 8) := by
      rw [e2]
      have := Z1l (N ++ [(l, xs.take 8)]) (l, xs.drop 8) []
      rwa [List.length_append, List.length_singleton] at this
    have hp1 := Z1l N (l, xs.take 8) [(l, xs.drop 8)]
    cases l with
    | zero =>
      obtain ⟨_, rfl⟩ := Z0e.1 hb
      have hb1 : Body (Tb N 0) 0 (xs.take 8) [xs.take 8] [] := Z0e.2 ⟨by rw [if_neg hA], rfl⟩
      have hb2 : Body (Tb N 0) 0 (xs.drop 8) [xs.drop 8] [] := Z0e.2 ⟨by rw [if_neg hB], rfl⟩
      refine ⟨[N.length + 1, N.length + 1 + 1], ⟨[xs.take 8], [N.length + 1], [xs.drop 8], [N.length + 1 + 1], Z23 hb1 hA hAl hp1, hb1.hdk hA, ⟨[xs.drop 8], [N.length + 1 + 1], [], [], Z23 hb2 hB hBl hp2, hb2.hdk hB, ⟨rfl, rfl⟩, rfl, rfl⟩, rfl, rfl⟩, by simp, fun q hq => .inr ?_⟩
      simp only [List.mem_cons, List.not_mem_nil, or_false] at hq
      omega
    | succ l =>
      have hk := Z0f.1 hb
      rw [← List.take_append_drop 8 xs] at hk
      obtain ⟨LA, gA, LB, gB, kA, kB, rfl, rfl⟩ := hk.parts
      have hb1 : Body (Tb N (l + 1)) (l + 1) (xs.take 8) LA gA := Z0f.2 kA
      have hb2 : Body (Tb N (l + 1)) (l + 1) (xs.drop 8) LB gB := Z0f.2 kB
      rw [if_neg (by omega)]
      refine ⟨(N.length + 1) :: gA ++ ((N.length + 1 + 1) :: gB ++ []), ⟨LA, (N.length + 1) :: gA, LB, (N.length + 1 + 1) :: gB ++ [], Z23 hb1 hA hAl hp1, hb1.hdk hA, ⟨LB, (N.length + 1 + 1) :: gB, [], [], Z23 hb2 hB hBl hp2, hb2.hdk hB, ⟨rfl, rfl⟩, by simp, rfl⟩, rfl, rfl⟩, ?_, fun q hq => ?_⟩
      · rw [List.append_nil]
        obtain ⟨n1, n2, n3⟩ := List.nodup_append.1 hn
        have hq : ∀ q ∈ gA ++ gB, q ≤ N.length := fun q hq => (hpg q hq).2
        rw [List.cons_append, List.nodup_cons, List.nodup_append, List.nodup_cons]
        refine ⟨fun hm => ?_, n1, ⟨fun hm => ?_, n2⟩, fun a ha b hb' => ?_⟩
        · rcases List.mem_append.1 hm with hm | hm
          · have := hq _ (List.mem_append_left _ hm); omega
          · rcases List.mem_cons.1 hm with hm | hm
            · omega
            · have := hq _ (List.mem_append_right _ hm); omega
        · have := hq _ (List.mem_append_right _ hm); omega
        · rcases List.mem_cons.1 hb' with rfl | hb'
          · have := hq _ (List.mem_append_left _ ha); omega
          · exact n3 a ha b hb'
      · simp only [List.append_nil, List.cons_append, List.mem_cons, List.mem_append] at hq ⊢
        rcases hq with rfl | hq | rfl | hq
        · exact .inr (by omega)
        · exact .inl (.inl hq)
        · exact .inr (by omega)
        · exact .inl (.inr hq)
/-! A put. -/
/-- One leaf has one pair more, or another one. -/
def SplitL (x : Pr) (L L' : List (List Pr)) : Prop := ∃ A c B, L = A ++ c :: B ∧ L' = A ++ (parts (insP x c) ++ B) ∧ (insP x c).length ≤ 16
theorem Z54 {x : Pr} {ps : List Pr} : (insP x ps).length ≤ ps.length + 1 := by
  unfold insP
  rw [List.length_append, List.length_cons]
  have h1 : (ps.filter (fun y => decide (y.1 < x.1))).length + (ps.filter (fun y => decide (x.1 < y.1))).length ≤ ps.length := by
    induction ps with
    | nil => simp
    | cons y r ih =>
      simp only [List.filter_cons, List.length_cons]
      split <;> split
      · rename_i h1 h2; simp at h1 h2; omega
      · simp only [List.length_cons]; omega
      · simp only [List.length_cons]; omega
      · omega
  omega
structure PutR (N N' : List Nd) (l p : Nat) (x : Pr) (L : List (List Pr)) (g : List Nat) (es : List Pr) : Prop where
  app : ∃ M, N' = N ++ M ∧ M.length ≤ 2 * (l + 1)
  one : es.length = 1 ∨ es.length = 2
  kids : ∃ L' g', Kids (Tr N' l) es L' g' ∧ g'.Nodup ∧ (∀ q ∈ g', q ∈ g ∨ N.length < q) ∧ SplitL x L L' ∧ L'.flatten = insP x L.flatten ∧ (es.length = 2 → 0 < l → 16 ≤ L'.length) ∧ N'.length + L.length ≤ N.length + L'.length + 1 + (if l = 0 then 0 else 2 * (l - 1) + es.length)
  root : 0 < l → ∃ xs, ndAt N p = some (l, xs) ∧ (es.length = 1 → ∃ k q xs', es = [(k, q)] ∧ ndAt N' q = some (l, xs') ∧ xs.length ≤ xs'.length)
theorem Z5f {N : List Nd} {l n : Nat} {xs : List Pr} (hx : xs ≠ []) (h16 : xs.length ≤ 16) (hn : n ≤ xs.length) :
    ((outs (parts xs) N.length).length = 1 ∨ (outs (parts xs) N.length).length = 2) ∧ ((outs (parts xs) N.length).length = 2 → xs.length = 16) ∧
    ((outs (parts xs) N.length).length = 1 → ∃ k q xs', outs (parts xs) N.length = [(k, q)] ∧ ndAt (N ++ newN l (parts xs)) q = some (l, xs') ∧ n ≤ xs'.length) := by
  by_cases h15 : xs.length ≤ 15
  · rw [Z28 hx h15]
    exact ⟨.inl rfl, fun h => (by cases h), fun _ => ⟨_, _, xs, rfl, Z1l N (l, xs) [], hn⟩⟩
  · rw [Z27 (by omega)]
    exact ⟨.inr rfl, fun _ => by omega, fun h => (by cases h)⟩
theorem put_leaf {N : List Nd} {p : Nat} {x : Pr} {L : List (List Pr)} {g : List Nat} {xs : List Pr} (hT : Tr N 0 p L g) (hp : ndAt N p = some (0, xs)) :
    PutR N (N ++ newN 0 (parts (insP x xs))) 0 p x L g (outs (parts (insP x xs)) N.length) ∧ (insP x xs).length ≤ 16 ∧ L.flatten = xs := by
  obtain ⟨xs', h, h1, h2, h3, h4, rfl⟩ := hT
  rw [hp] at h1
  injection h1 with h1
  injection h1 with _ h1
  subst h1
  obtain ⟨rfl, rfl⟩ := Z0e.1 h4
  rw [if_neg h2]
  have hl := Z54 (x := x) (ps := xs)
  have h16 : (insP x xs).length ≤ 16 := by omega
  have hb : Body (Tb N 0) 0 (insP x xs) [insP x xs] [] := Z0e.2 ⟨by rw [if_neg Z69], rfl⟩
  obtain ⟨g, k1, k2, k3⟩ := Z3l hb h16 List.nodup_nil
  rw [if_pos rfl] at k1
  obtain ⟨r1, r2, r3⟩ := Z5f (N := N) (l := 0) (n := 0) Z69 h16 (Nat.zero_le _)
  exact ⟨⟨⟨_, rfl, by rw [List.length_map]; have := Z2j (insP x xs); omega⟩, r1, ⟨_, g, k1, k2, fun q hq => (k3 q hq).elim (fun h => by cases h) .inr, ⟨[], xs, [], rfl, by simp, h16⟩, by rw [Z4o]; simp, (fun _ h => (by cases h)), (by rw [if_pos rfl, List.length_append, List.length_map]; show _ + _ + 1 ≤ _; omega)⟩, fun h => (by cases h)⟩, h16, by simp⟩
theorem Z7j {N : List Nd} {l p : Nat} {L : List (List Pr)} {g : List Nat} (hT : Tr N l p L g) {l' : Nat} {xs : List Pr} (hp : ndAt N p = some (l', xs)) : l' = l ∧ xs ≠ [] ∧ xs.length ≤ 15 ∧ ∃ h, Body (Tb N l) l xs L h ∧ g = p :: h := by
  obtain ⟨xs', h, h1, h2, h3, h4, h5⟩ := Z3n.1 hT
  rw [hp] at h1
  injection h1 with h1
  injection h1 with h0 h1
  subst h0 h1
  exact ⟨rfl, h2, h3, h, h4, h5⟩
/-- Which child a key is looked for in: all ahead is less, all behind is greater. -/
theorem Z5k {N : List Nd} {l p k n : Nat} {L : List (List Pr)} {g : List Nat} {xs : List Pr} (hT : Tr N (l + 1) p L g) (hu : Up L.flatten) (hp : ndAt N p = some (l + 1, xs)) (hpl : Place xs k n) :
    ∃ A y B LA gA Lx gx LB gB, xs = A ++ y :: B ∧ A.length = kidN xs k n ∧ Kids (Tr N l) A LA gA ∧ Tr N l y.2 Lx gx ∧ Kids (Tr N l) B LB gB ∧ L = LA ++ (Lx ++ LB) ∧ g = p :: (gA ++ (gx ++ gB)) ∧ (∀ z ∈ LA.flatten, z.1 < k) ∧ (∀ z ∈ LB.flatten, k < z.1) := by
  obtain ⟨_, hx, h15, h, hb, rfl⟩ := Z7j hT hp
  have hk := Z0f.1 hb
  obtain ⟨A, y, B, e, hA, h1, h2⟩ := kid_at (hk.up hu).1 hx hpl
  subst e
  obtain ⟨LA, gA, Lx, gx, LB, gB, kA, kx, kh, kB, rfl, rfl⟩ := hk.at_
  refine ⟨A, y, B, LA, gA, Lx, gx, LB, gB, rfl, hA, kA, kx, kB, rfl, rfl, fun z hz => ?_, fun z hz => ?_⟩
  · have hA0 : A ≠ [] := fun e => by subst e; obtain ⟨rfl, _⟩ := kA; cases hz
    have := h1 hA0
    obtain ⟨v, r, e⟩ := Z4d kh
    rw [List.flatten_append, List.flatten_append] at hu
    have := hu.app.2.2 z hz (y.1, v) (by rw [e]; simp)
    omega
  · have hB0 : B ≠ [] := fun e => by subst e; obtain ⟨rfl, _⟩ := kB; cases hz
    obtain ⟨b, B', rfl⟩ := List.exists_cons_of_ne_nil hB0
    have h3 := h2 b (by simp)
    obtain ⟨v, r, e⟩ := Z4d kB.hdk
    rw [List.flatten_append, List.flatten_append] at hu
    have hu2 := hu.app.2.1.app.2.1
    rw [e] at hu2 hz
    rcases List.mem_cons.1 hz with rfl | hz
    · exact h3
    · have := (List.pairwise_cons.1 hu2).1 z hz
      omega
theorem put_node {N N1 : List Nd} {l p n : Nat} {x : Pr} {L Lx LA LB : List (List Pr)} {g gx gA gB : List Nat} {A B es : List Pr} {y : Pr} (hp : ndAt N p = some (l + 1, A ++ y :: B)) (h15 : (A ++ y :: B).length ≤ 15)
    (kA : Kids (Tr N l) A LA gA) (kB : Kids (Tr N l) B LB gB) (hL : L = LA ++ (Lx ++ LB)) (hg : g = p :: (gA ++ (gx ++ gB))) (hgn : g.Nodup) (hgl : ∀ q ∈ g, q ≤ N.length) (hA : ∀ z ∈ LA.flatten, z.1 < x.1) (hB : ∀ z ∈ LB.flatten, x.1 < z.1) (hr : PutR N N1 l y.2 x Lx gx es) :
    PutR N (N1 ++ newN (l + 1) (parts (A ++ (es ++ B)))) (l + 1) p x L g (outs (parts (A ++ (es ++ B))) N1.length) ∧ (A ++ (es ++ B)).length ≤ 16 ∧ A ++ (es ++ B) ≠ [] := by
  subst hL hg
  obtain ⟨⟨M, rfl, hM⟩, h1, ⟨L', g', k1, k2, k3, ⟨A1, c, B1, s1, s2, s3⟩, k5, k6, k7⟩, -⟩ := hr
  have hes : es ≠ [] := fun e => by subst e; rcases h1 with h1 | h1 <;> cases h1
  have h16 : (A ++ (es ++ B)).length ≤ 16 := by simp only [List.length_append, List.length_cons] at h15 ⊢; omega
  have hne : A ++ (es ++ B) ≠ [] := by simp [hes]
  have hK : Kids (Tr (N ++ M) l) (A ++ (es ++ B)) (LA ++ (L' ++ LB)) (gA ++ (g' ++ gB)) := (kA.mono fun _ _ _ h => h.mono M).app (k1.app (kB.mono fun _ _ _ h => h.mono M))
  have hgn' := (List.nodup_cons.1 hgn).2
  have hgl' : ∀ q ∈ gA ++ (gx ++ gB), q ≤ N.length := fun q hq => hgl q (List.mem_cons_of_mem _ hq)
  have hnd : (gA ++ (g' ++ gB)).Nodup := by
    obtain ⟨n1, n2, n3⟩ := List.nodup_append.1 hgn'
    obtain ⟨n4, n5, n6⟩ := List.nodup_append.1 n2
    rw [List.nodup_append, List.nodup_append]
    refine ⟨n1, ⟨k2, n5, fun a ha b hb => ?_⟩, fun a ha b hb => ?_⟩
    · rcases k3 a ha with h | h
      · exact n6 a h b hb
      · have := hgl' b (by simp [hb]); omega
    · rcases List.mem_append.1 hb with hb | hb
      · rcases k3 b hb with h | h
        · exact n3 a ha b (by simp [h])
        · have := hgl' a (by simp [ha]); omega
      · exact n3 a ha b (by simp [hb])
  obtain ⟨g2, a1, a2, a3⟩ := Z3l (N := N ++ M) (l := l + 1) (Z0f.2 hK) h16 hnd
  rw [if_neg (by omega)] at a1
  obtain ⟨r1, r2, r3⟩ := Z5f (N := N ++ M) (l := l + 1) (n := (A ++ y :: B).length) hne h16 (by simp only [List.length_append, List.length_cons]; omega)
  refine ⟨⟨⟨M ++ newN (l + 1) (parts (A ++ (es ++ B))), by rw [List.append_assoc], ?_⟩, r1, ⟨_, g2, a1, a2, fun q hq => ?_, ⟨LA ++ A1, c, B1 ++ LB, by rw [s1]; simp, by rw [s2]; simp, s3⟩, ?_, (fun h2 _ => ?_), ?_⟩, fun _ => ⟨_, hp, r3⟩⟩, h16, hne⟩
  · rw [List.length_append, List.length_map]
    have := Z2j (A ++ (es ++ B))
    omega
  · rcases a3 q hq with h | h
    · rcases List.mem_append.1 h with h | h
      · exact .inl (by simp [h])
      · rcases List.mem_append.1 h with h | h
        · rcases k3 q h with h | h
          · exact .inl (by simp [h])
          · exact .inr h
        · exact .inl (by simp [h])
    · rw [List.length_append] at h
      exact .inr (by omega)
  · rw [List.flatten_append, List.flatten_append, List.flatten_append, List.flatten_append, k5, Z53 hA hB]
  · have h3 := r2 h2
    have h4 := hK.len
    omega
  · rw [if_neg (Nat.succ_ne_zero l), Z2q]
    simp only [List.length_append, List.length_map] at k7 ⊢
    have h8 : (if l = 0 then 0 else 2 * (l - 1) + es.length) ≤ 2 * l := by split <;> omega
    omega
/-! A drop. -/
/-- One leaf lacks a pair; or it is gone. -/
def DelL (k : Nat) (L L' : List (List Pr)) : Prop := ∃ A c B, L = A ++ c :: B ∧ L' = A ++ ((if delP k c = [] then [] else [delP k c]) ++ B)
structure DelR (N N' : List Nd) (l k : Nat) (L : List (List Pr)) (g : List Nat) (xs' : List Pr) : Prop where
  app : ∃ M, N' = N ++ M ∧ M.length ≤ l
  len : xs'.length ≤ 15
  body : ∃ L' h', Body (Tb N' l) l xs' L' h' ∧ h'.Nodup ∧ (∀ q ∈ h', q ∈ g ∨ N.length < q) ∧ DelL k L L' ∧ L'.flatten = delP k L.flatten
theorem Z55 {k : Nat} {ps : List Pr} : (delP k ps).length ≤ ps.length := List.length_filter_le _ _
theorem Z5n {N : List Nd} {p k : Nat} {L : List (List Pr)} {g : List Nat} {xs : List Pr} (hT : Tr N 0 p L g) (hp : ndAt N p = some (0, xs)) : DelR N N 0 k L g (delP k xs) ∧ L.flatten = xs := by
  obtain ⟨_, hx, h15, h, hb, rfl⟩ := Z7j hT hp
  obtain ⟨rfl, rfl⟩ := Z0e.1 hb
  rw [if_neg hx]
  have := Z55 (k := k) (ps := xs)
  refine ⟨⟨⟨[], by simp, Nat.zero_le _⟩, by omega, ⟨_, [], Z0e.2 ⟨rfl, rfl⟩, List.nodup_nil, fun q hq => (by cases hq), ⟨[], xs, [], rfl, by simp⟩, ?_⟩⟩, by simp⟩
  split
  · rename_i h; simp [h]
  · simp
theorem drop_node {N N1 : List Nd} {l p k : Nat} {L Lx LA LB : List (List Pr)} {g gx gA gB : List Nat} {A B xs1 : List Pr} {y : Pr} (h15 : (A ++ y :: B).length ≤ 15)
    (kA : Kids (Tr N l) A LA gA) (kB : Kids (Tr N l) B LB gB) (hL : L = LA ++ (Lx ++ LB)) (hg : g = p :: (gA ++ (gx ++ gB))) (hgn : g.Nodup) (hgl : ∀ q ∈ g, q ≤ N.length) (hA : ∀ z ∈ LA.flatten, z.1 < k) (hB : ∀ z ∈ LB.flatten, k < z.1) (hr : DelR N N1 l k Lx gx xs1) :
    DelR N (N1 ++ newN l (parts xs1)) (l + 1) k L g (A ++ (outs (parts xs1) N1.length ++ B)) := by
  subst hL hg
  obtain ⟨⟨M, rfl, hM⟩, h1, ⟨L', h', k1, k2, k3, ⟨A1, c, B1, s1, s2⟩, k5⟩⟩ := hr
  obtain ⟨g', a1, a2, a3⟩ := Z3l k1 (by omega) k2
  have hL' : (if l = 0 then parts xs1 else L') = L' := by
    cases l with
    | zero =>
      rw [if_pos rfl, (Z0e.1 k1).1]
      unfold parts
      rw [if_pos h1]
    | succ l => rw [if_neg (by omega)]
  rw [hL'] at a1
  have hp1 : (outs (parts xs1) (N ++ M).length).length ≤ 1 := by
    rw [Z2q]
    unfold parts
    rw [if_pos h1]
    split <;> simp
  have hpl : (parts xs1).length ≤ 1 := by rw [Z2q] at hp1; exact hp1
  have hK : Kids (Tr ((N ++ M) ++ newN l (parts xs1)) l) (A ++ (outs (parts xs1) (N ++ M).length ++ B)) (LA ++ (L' ++ LB)) (gA ++ (g' ++ gB)) :=
    (kA.mono fun _ _ _ h => (h.mono M).mono _).app (a1.app (kB.mono fun _ _ _ h => (h.mono M).mono _))
  have a4 : ∀ q ∈ g', q ∈ gx ∨ N.length < q := fun q hq => by
    rcases a3 q hq with h | h
    · exact k3 q h
    · rw [List.length_append] at h; exact .inr (by omega)
  have hgn' := (List.nodup_cons.1 hgn).2
  have hgl' : ∀ q ∈ gA ++ (gx ++ gB), q ≤ N.length := fun q hq => hgl q (List.mem_cons_of_mem _ hq)
  refine ⟨⟨M ++ newN l (parts xs1), by rw [List.append_assoc], by rw [List.length_append, List.length_map]; omega⟩, by rw [List.length_append, List.length_append]; rw [List.length_append, List.length_cons] at h15; omega, ⟨_, _, Z0f.2 hK, ?_, fun q hq => ?_, ⟨LA ++ A1, c, B1 ++ LB, by rw [s1]; simp, by rw [s2]; simp⟩, ?_⟩⟩
  · obtain ⟨n1, n2, n3⟩ := List.nodup_append.1 hgn'
    obtain ⟨n4, n5, n6⟩ := List.nodup_append.1 n2
    rw [List.nodup_append, List.nodup_append]
    refine ⟨n1, ⟨a2, n5, fun a ha b hb => ?_⟩, fun a ha b hb => ?_⟩
    · rcases a4 a ha with h | h
      · exact n6 a h b hb
      · have := hgl' b (by simp [hb]); omega
    · rcases List.mem_append.1 hb with hb | hb
      · rcases a4 b hb with h | h
        · exact n3 a ha b (by simp [h])
        · have := hgl' a (by simp [ha]); omega
      · exact n3 a ha b (by simp [hb])
  · rcases List.mem_append.1 hq with h | h
    · exact .inl (by simp [h])
    · rcases List.mem_append.1 h with h | h
      · rcases a4 q h with h | h
        · exact .inl (by simp [h])
        · exact .inr h
      · exact .inl (by simp [h])
  · rw [List.flatten_append, List.flatten_append, List.flatten_append, List.flatten_append, k5, Z6p (fun y hy => by have := hA y hy; omega) (fun y hy => by have := hB y hy; omega)]
/-! How great: each leaf counts eight, and what it has beyond eight. -/
def phi (L : List (List Pr)) : Nat := (L.map fun c => c.length - 8).sum + 8 * L.length
theorem Z2y (A B : List (List Pr)) : phi (A ++ B) = phi A + phi B := by
  unfold phi
  rw [List.map_append, List.sum_append, List.length_append]
  omega
theorem Z4z (c : List Pr) : phi [c] = (c.length - 8) + 8 := by simp [phi]
theorem Z3t (c : List Pr) (L : List (List Pr)) : phi (c :: L) = (c.length - 8) + 8 + phi L := by
  rw [show c :: L = [c] ++ L from rfl, Z2y, Z4z]
theorem Z80 {x : Pr} {L L' : List (List Pr)} (h : SplitL x L L') : phi L' ≤ phi L + 1 := by
  obtain ⟨A, c, B, rfl, rfl, h16⟩ := h
  have hl := Z54 (x := x) (ps := c)
  rw [Z2y, Z2y, Z2y, Z3t]
  by_cases h15 : (insP x c).length ≤ 15
  · rw [Z28 Z69 h15, Z4z]; omega
  · rw [Z27 (by omega), Z3t, Z4z, List.length_take, List.length_drop]; omega
theorem phi_del {k : Nat} {L L' : List (List Pr)} (h : DelL k L L') : phi L' ≤ phi L := by
  obtain ⟨A, c, B, rfl, rfl⟩ := h
  have hl := Z55 (k := k) (ps := c)
  rw [Z2y, Z2y, Z2y, Z3t]
  split
  · simp [phi]
  · rw [Z4z]; omega
/-! Trees. -/
/-- A tree of at most so many levels above its leaves. -/
structure RT (m : Nat) (N : List Nd) (root : Nat) (L : List (List Pr)) (g : List Nat) : Prop where
  rt : (root = 0 ∧ L = [] ∧ g = []) ∨ ∃ l, l ≤ m ∧ Tr N l root L g ∧ (0 < l → ∃ xs, ndAt N root = some (l, xs) ∧ 2 ≤ xs.length)
  up : Up L.flatten
  nod : g.Nodup
  wf : ∀ y ∈ L.flatten, y.1 < 18446744073709551616 ∧ y.2 < 18446744073709551616
theorem RT.mono {m : Nat} {N : List Nd} {root : Nat} {L : List (List Pr)} {g : List Nat} (h : RT m N root L g) (M : List Nd) : RT m (N ++ M) root L g := by
  refine ⟨?_, h.up, h.nod, h.wf⟩
  rcases h.rt with h | ⟨l, h1, h2, h3⟩
  · exact .inl h
  · exact .inr ⟨l, h1, h2.mono M, fun h0 => by obtain ⟨xs, h4, h5⟩ := h3 h0; exact ⟨xs, Z50 h4 M, h5⟩⟩
theorem Z5y (m : Nat) (N : List Nd) : RT m N 0 [] [] := ⟨.inl ⟨rfl, rfl, rfl⟩, List.Pairwise.nil, List.nodup_nil, fun _ h => (by cases h)⟩
theorem wf_ins {x : Pr} {ps : List Pr} (h : ∀ y ∈ ps, y.1 < 18446744073709551616 ∧ y.2 < 18446744073709551616) (hx : x.1 < 18446744073709551616 ∧ x.2 < 18446744073709551616) : ∀ y ∈ insP x ps, y.1 < 18446744073709551616 ∧ y.2 < 18446744073709551616 := by
  intro y hy
  rcases mem_insP hy with rfl | hy
  · exact hx
  · exact h y hy
end Go.Proofs.Ytdeocidlkpbhcaa

/- The blocks of one's own, as one fact: what each holds; below H all is as it was. -/
namespace Go.Proofs.Ytdeocidlkpbhcaa
set_option linter.unusedVariables false
set_option linter.unusedSimpArgs false
open Go.RowKit

abbrev BlkD := Nat × TypeId × Array Value
def Blks (w : World) : List BlkD → Prop
  | [] => True
  | x :: L => Blk w x.1 x.2.1 x.2.2 ∧ Blks w L
/-- Below H the world is as A; the blocks of L, from H on, hold this; no two are one. -/
structure Own (H : Nat) (A : World) (L : List BlkD) (w : World) : Prop where
  below : Below H A w
  size : H ≤ w.heap.size
  all : Blks w L
  high : ∀ x ∈ L, H ≤ x.1
  diff : L.Pairwise fun x y => x.1 ≠ y.1
section
variable {H : Nat} {A w w' : World} {L : List BlkD}
theorem Blks.mono_ (h : Blks w L) (k : ∀ x ∈ L, Blk w x.1 x.2.1 x.2.2 → Blk w' x.1 x.2.1 x.2.2) : Blks w' L := by
  induction L with
  | nil => trivial
  | cons x L ih => exact ⟨k x (by simp) h.1, ih h.2 (fun y hy => k y (by simp [hy]))⟩
theorem Blks.mem (h : Blks w L) {x : BlkD} (hx : x ∈ L) : Blk w x.1 x.2.1 x.2.2 := by
  induction L with
  | nil => cases hx
  | cons y L ih =>
    rcases List.mem_cons.1 hx with rfl | hx
    · exact h.1
    · exact ih h.2 hx
theorem Own.start (w : World) : Own w.heap.size w [] w := ⟨Below.refl _ _, Nat.le_refl _, trivial, (fun _ h => by cases h), List.Pairwise.nil⟩
theorem Own.ext (h : Own H A L w) (k : Ext w w') : Own H A L w' :=
  ⟨h.below.trans (k.mono h.size), Nat.le_trans h.size k.size, h.all.mono_ fun _ _ hb => hb.ext k, h.high, h.diff⟩
theorem Own.lt (h : Own H A L w) {x : BlkD} (hx : x ∈ L) : x.1 < w.heap.size := (h.all.mem hx).lt
theorem Own.drew (h : Own H A L w) : Own H A L w.drew := h.ext (Ext.drew w)
theorem Own.new (h : Own H A L w) (t : TypeId) (cs : Array Value) : Own H A ((w.heap.size, t, cs) :: L) (w.alloc (.cells cs t)) := by
  have h1 := h.ext (Ext.alloc w (.cells cs t))
  refine ⟨h1.below, h1.size, ⟨Blk.new w t cs, h1.all⟩, fun x hx => ?_, ?_⟩
  · rcases List.mem_cons.1 hx with rfl | hx
    · exact h.size
    · exact h1.high x hx
  · exact List.Pairwise.cons (fun y hy e => by have := h.lt hy; simp only at e; omega) h.diff
theorem Own.other (h : Own H A L w) (o : Obj) : Own H A L (w.alloc o) := h.ext (Ext.alloc w o)
/-- The world with a block anew. -/
theorem Own.put (h : Own H A L w) {b : Nat} {t : TypeId} {cs : Array Value} {L1 L2 : List BlkD} (hL : L = L1 ++ (b, t, cs) :: L2) (cs' : Array Value) (hg : w.grownBy w' (some b)) (hb : Blk w' b t cs') : Own H A (L1 ++ (b, t, cs') :: L2) w' := by
  subst hL
  have hHb : H ≤ b := h.high (b, t, cs) (by simp)
  have hd := h.diff
  rw [List.pairwise_append] at hd
  obtain ⟨d1, d2, d3⟩ := hd
  rw [List.pairwise_cons] at d2
  have hfar : ∀ x ∈ L1 ++ L2, x.1 ≠ b := by
    intro x hx
    rcases List.mem_append.1 hx with hx | hx
    · exact d3 x hx (b, t, cs) (by simp)
    · exact (d2.1 x hx).symm
  have hmem : ∀ x ∈ L1 ++ L2, Blk w' x.1 x.2.1 x.2.2 := fun x hx => (h.all.mem (x := x) (by
    rcases List.mem_append.1 hx with hx | hx
    · simp [hx]
    · simp [hx])).grown hg (by simpa using hfar x hx)
  refine ⟨h.below.grown hg h.size (fun k e => by injection e with e; omega), Nat.le_trans h.size hg.size, ?_, ?_, ?_⟩
  · have : ∀ M : List BlkD, (∀ x ∈ M, Blk w' x.1 x.2.1 x.2.2) → Blks w' M := by
      intro M
      induction M with
      | nil => intro _; trivial
      | cons x M ih => intro hM; exact ⟨hM x (by simp), ih fun y hy => hM y (by simp [hy])⟩
    refine this _ fun x hx => ?_
    rcases List.mem_append.1 hx with hx | hx
    · exact hmem x (by simp [hx])
    · rcases List.mem_cons.1 hx with rfl | hx
      · exact hb
      · exact hmem x (by simp [hx])
  · intro x hx
    rcases List.mem_append.1 hx with hx | hx
    · exact h.high x (by simp [hx])
    · rcases List.mem_cons.1 hx with rfl | hx
      · exact hHb
      · exact h.high x (by simp [hx])
  · rw [List.pairwise_append]
    refine ⟨d1, List.pairwise_cons.2 ⟨d2.1, d2.2⟩, fun x hx y hy => ?_⟩
    rcases List.mem_cons.1 hy with rfl | hy
    · exact d3 x hx (b, t, cs) (by simp)
    · exact d3 x hx y (by simp [hy])
theorem Own.set (h : Own H A L w) {b : Nat} {t : TypeId} {cs : Array Value} {L1 L2 : List BlkD} (hL : L = L1 ++ (b, t, cs) :: L2) (i : Nat) (u : Value) : Own H A (L1 ++ (b, t, cs.setIfInBounds i u) :: L2) (w.setCell ⟨b, i, none⟩ u) :=
  h.put hL _ (Z1s (World.grownBy.refl w _) (.inl rfl) u) ((h.all.mem (x := (b, t, cs)) (by rw [hL]; simp) : Blk w b t cs).set_ i u)
/-- Another block of one's own has turned. -/
theorem Own.far (h : Own H A L w) {b : Nat} (hb : H ≤ b) (hL : ∀ x ∈ L, x.1 ≠ b) (hg : w.grownBy w' (some b)) : Own H A L w' :=
  ⟨h.below.grown hg h.size (fun k e => by injection e with e; omega), Nat.le_trans h.size hg.size, (by
    have h0 := h.all
    clear h
    induction L with
    | nil => trivial
    | cons x L ih => exact ⟨h0.1.grown hg (by have := hL x (by simp); simpa using this), ih (fun y hy => hL y (by simp [hy])) h0.2⟩), h.high, h.diff⟩
theorem Own.tail {x : BlkD} (h : Own H A (x :: L) w) : Own H A L w := ⟨h.below, h.size, h.all.2, fun y hy => h.high y (by simp [hy]), (List.pairwise_cons.1 h.diff).2⟩
theorem Own.done (h : Own w'.heap.size w' L w) : Below w'.heap.size w' w := h.below
end
end Go.Proofs.Ytdeocidlkpbhcaa

/- Things of one's own: what holds of some blocks; below H all is as it was. -/
namespace Go.Proofs.Ytdeocidlkpbhcaa
set_option linter.unusedVariables false
set_option linter.unusedSimpArgs false
open Go.RowKit

/-- Only the blocks of F, and what is new, have turned. -/
structure Chg (F : List Nat) (w w' : World) : Prop where
  os : w'.os = w.os
  tape : w'.tape = w.tape
  output : w'.output = w.output
  size : w.heap.size ≤ w'.heap.size
  block : ∀ i, i < w.heap.size → i ∉ F → w'.heap[i]? = w.heap[i]?
/-- What holds of the blocks 'foot', whatever becomes of others. -/
structure Thing where
  foot : List Nat
  holds : World → Prop
  keep : ∀ w w', w.heap.size ≤ w'.heap.size → (∀ i ∈ foot, w'.heap[i]? = w.heap[i]?) → holds w → holds w'
  lt : ∀ w, holds w → ∀ i ∈ foot, i < w.heap.size
section
variable {F G : List Nat} {w w' w'' : World}
theorem Chg.refl (F : List Nat) (w : World) : Chg F w w := ⟨rfl, rfl, rfl, Nat.le_refl _, fun _ _ _ => rfl⟩
theorem Chg.trans (h : Chg F w w') (k : Chg F w' w'') : Chg F w w'' :=
  ⟨k.os.trans h.os, k.tape.trans h.tape, k.output.trans h.output, Nat.le_trans h.size k.size, fun i hi hn => (k.block i (Nat.lt_of_lt_of_le hi h.size) hn).trans (h.block i hi hn)⟩
/-- Behind a change, a change of what is new or was changed. -/
theorem Chg.trans' (h : Chg F w w') (k : Chg G w' w'') (hG : ∀ i ∈ G, i ∈ F ∨ w.heap.size ≤ i) : Chg F w w'' :=
  ⟨k.os.trans h.os, k.tape.trans h.tape, k.output.trans h.output, Nat.le_trans h.size k.size, fun i hi hn => (k.block i (Nat.lt_of_lt_of_le hi h.size) (fun hg => by
    rcases hG i hg with h1 | h1
    · exact hn h1
    · omega)).trans (h.block i hi hn)⟩
theorem Chg.mono (h : Chg F w w') (hF : ∀ i ∈ F, i ∈ G ∨ w.heap.size ≤ i) : Chg G w w' :=
  ⟨h.os, h.tape, h.output, h.size, fun i hi hn => h.block i hi (fun hf => by
    rcases hF i hf with h1 | h1
    · exact hn h1
    · omega)⟩
theorem Chg.of_ext (h : Ext w w') (F : List Nat) : Chg F w w' := ⟨h.os, h.tape, h.output, h.size, fun i hi _ => h.block i hi⟩
theorem Chg.ext (h : Chg [] w w') : Ext w w' := ⟨h.os, h.tape, h.output, h.size, fun i hi => h.block i hi (by simp)⟩
theorem Chg.of_grown {b : Nat} (h : w.grownBy w' (some b)) : Chg [b] w w' := ⟨h.os, h.tape, h.output, h.size, fun i hi hn => h.block i hi (by simpa using hn)⟩
theorem Chg.grown {b : Nat} (h : Chg [b] w w') : w.grownBy w' (some b) := ⟨h.os, h.tape, h.output, h.size, fun i hi hn => h.block i hi (by simpa using hn)⟩
theorem Chg.drew (h : Chg F w w') : Chg F w w'.drew := ⟨h.os, h.tape, h.output, h.size, h.block⟩
theorem Chg.alloc (h : Chg F w w') (o : Obj) : Chg F w (w'.alloc o) := h.trans (Chg.of_ext (Ext.alloc w' o) F)
theorem Chg.set (h : Chg F w w') {p : Addr} (hp : p.block ∈ F ∨ w.heap.size ≤ p.block) (u : Value) : Chg F w (w'.setCell p u) :=
  h.trans' (G := [p.block]) (Chg.of_grown (Z1s (World.grownBy.refl w' _) (.inl rfl) u)) (fun i hi => by
    simp at hi
    subst hi
    exact hp)
theorem Chg.blk (h : Chg F w w') {g : Nat} {t : TypeId} {cs : Array Value} (hb : Blk w g t cs) (hg : g ∉ F) : Blk w' g t cs := (h.block g hb.lt hg).trans hb
theorem Chg.below {H : Nat} {A : World} (h : Chg F w w') (hb : Below H A w) (hs : H ≤ w.heap.size) (hF : ∀ i ∈ F, H ≤ i) : Below H A w' :=
  ⟨h.os.trans hb.os, h.tape.trans hb.tape, h.output.trans hb.output, Nat.le_trans hb.size h.size, fun i hi => (h.block i (by omega) (fun hf => by have := hF i hf; omega)).trans (hb.block i hi)⟩
end
/-- A block of cells. -/
def tBlk (b : Nat) (t : TypeId) (cs : Array Value) : Thing where
  foot := [b]
  holds := fun w => Blk w b t cs
  keep := fun w w' _ h hb => (h b (by simp)).trans hb
  lt := fun w h i hi => by simp at hi; subst hi; exact h.lt

def Ths (w : World) : List Thing → Prop
  | [] => True
  | x :: L => x.holds w ∧ Ths w L
structure OwnT (H : Nat) (A : World) (L : List Thing) (w : World) : Prop where
  below : Below H A w
  size : H ≤ w.heap.size
  all : Ths w L
  high : ∀ x ∈ L, ∀ i ∈ x.foot, H ≤ i
  diff : L.Pairwise fun x y => ∀ i ∈ x.foot, i ∉ y.foot
section
variable {H : Nat} {A w w' : World} {L L1 L2 : List Thing} {T T' : Thing} {F : List Nat}
theorem Ths.mem (h : Ths w L) (hx : T ∈ L) : T.holds w := by
  induction L with
  | nil => cases hx
  | cons y L ih =>
    rcases List.mem_cons.1 hx with rfl | hx
    · exact h.1
    · exact ih h.2 hx
theorem Ths.of (h : ∀ x ∈ L, x.holds w) : Ths w L := by
  induction L with
  | nil => trivial
  | cons x L ih => exact ⟨h x (by simp), ih fun y hy => h y (by simp [hy])⟩
theorem OwnT.start (w : World) : OwnT w.heap.size w [] w := ⟨Below.refl _ _, Nat.le_refl _, trivial, (fun _ h => by cases h), List.Pairwise.nil⟩
theorem OwnT.lt (h : OwnT H A L w) (hx : T ∈ L) {i : Nat} (hi : i ∈ T.foot) : i < w.heap.size := T.lt w (h.all.mem hx) i hi
theorem OwnT.at_ (h : OwnT H A L w) (hx : T ∈ L) : T.holds w := h.all.mem hx
theorem OwnT.t0 (h : OwnT H A (T :: L) w) : T.holds w := h.all.1
theorem OwnT.t1 {X : Thing} (h : OwnT H A (X :: T :: L) w) : T.holds w := h.all.2.1
theorem OwnT.t3 {X Y Z : Thing} (h : OwnT H A (X :: Y :: Z :: T :: L) w) : T.holds w := h.all.2.2.2.1
theorem OwnT.t4 {X Y Z U : Thing} (h : OwnT H A (X :: Y :: Z :: U :: T :: L) w) : T.holds w := h.all.2.2.2.2.1
theorem OwnT.t5 {X Y Z U V : Thing} (h : OwnT H A (X :: Y :: Z :: U :: V :: T :: L) w) : T.holds w := h.all.2.2.2.2.2.1
/-- What is not of F stays. -/
theorem Thing.chg (T : Thing) (h : T.holds w) (k : Chg F w w') (hF : ∀ i ∈ T.foot, i ∉ F) : T.holds w' :=
  T.keep w w' k.size (fun i hi => k.block i (T.lt w h i hi) (hF i hi)) h
theorem OwnT.ext (h : OwnT H A L w) (k : Ext w w') : OwnT H A L w' :=
  ⟨h.below.trans (k.mono h.size), Nat.le_trans h.size k.size, Ths.of fun x hx => x.chg (h.all.mem hx) (Chg.of_ext k []) (by simp), h.high, h.diff⟩
theorem OwnT.drew (h : OwnT H A L w) : OwnT H A L w.drew := h.ext (Ext.drew w)
theorem OwnT.other (h : OwnT H A L w) (o : Obj) : OwnT H A L (w.alloc o) := h.ext (Ext.alloc w o)
theorem OwnT.perm (h : OwnT H A L w) {M : List Thing} (hp : L.Perm M) : OwnT H A M w :=
  ⟨h.below, h.size, Ths.of fun x hx => h.all.mem (hp.mem_iff.2 hx), fun x hx => h.high x (hp.mem_iff.2 hx),
   hp.pairwise h.diff (fun {x y} hxy i hi hj => hxy i hj hi)⟩
theorem OwnT.sub (h : OwnT H A L w) {M : List Thing} (hp : M.Sublist L) : OwnT H A M w :=
  ⟨h.below, h.size, Ths.of fun x hx => h.all.mem (hp.subset hx), fun x hx => h.high x (hp.subset hx), h.diff.sublist hp⟩
theorem OwnT.tail (h : OwnT H A (T :: L) w) : OwnT H A L w := h.sub (List.sublist_cons_self T L)
/-- A new thing. -/
theorem OwnT.cons (h : OwnT H A L w) (k : Ext w w') (T : Thing) (hT : T.holds w') (hf : ∀ i ∈ T.foot, w.heap.size ≤ i) : OwnT H A (T :: L) w' := by
  have h1 := h.ext k
  refine ⟨h1.below, h1.size, ⟨hT, h1.all⟩, fun x hx i hi => ?_, List.Pairwise.cons (fun y hy i hi hj => ?_) h.diff⟩
  · rcases List.mem_cons.1 hx with rfl | hx
    · have := hf i hi; have := h.size; omega
    · exact h.high x hx i hi
  · have := hf i hi
    have := h.lt hy hj
    omega
theorem OwnT.new (h : OwnT H A L w) (t : TypeId) (cs : Array Value) : OwnT H A (tBlk w.heap.size t cs :: L) (w.alloc (.cells cs t)) :=
  h.cons (Ext.alloc w _) (tBlk w.heap.size t cs) (Blk.new w t cs) (fun i hi => by simp [tBlk] at hi; omega)
/-- The first thing has turned, and what is new. -/
theorem OwnT.call (h : OwnT H A (T :: L) w) (k : Chg F w w') (hF : ∀ i ∈ F, i ∈ T.foot) (T' : Thing) (hT : T'.holds w') (hf : ∀ i ∈ T'.foot, i ∈ T.foot ∨ w.heap.size ≤ i) : OwnT H A (T' :: L) w' := by
  have hd := List.pairwise_cons.1 h.diff
  refine ⟨k.below h.below h.size (fun i hi => h.high T (by simp) i (hF i hi)), Nat.le_trans h.size k.size, ⟨hT, Ths.of fun x hx => x.chg (h.all.mem (by simp [hx])) k (fun i hi hf => hd.1 x hx i (hF i hf) hi)⟩, fun x hx i hi => ?_, List.Pairwise.cons (fun y hy i hi hj => ?_) hd.2⟩
  · rcases List.mem_cons.1 hx with rfl | hx
    · rcases hf i hi with h1 | h1
      · exact h.high T (by simp) i h1
      · have := h.size; omega
    · exact h.high x (by simp [hx]) i hi
  · rcases hf i hi with h1 | h1
    · exact hd.1 y hy i h1 hj
    · have := h.lt (T := y) (by simp [hy]) hj
      omega
/-- A cell of a block. -/
theorem OwnT.set {b : Nat} {t : TypeId} {cs : Array Value} (h : OwnT H A (tBlk b t cs :: L) w) (i : Nat) (u : Value) : OwnT H A (tBlk b t (cs.setIfInBounds i u) :: L) (w.setCell ⟨b, i, none⟩ u) :=
  h.call (F := [b]) (Chg.of_grown (Z1s (World.grownBy.refl w _) (.inl rfl) u)) (fun i hi => by simpa [tBlk] using hi) (tBlk b t (cs.setIfInBounds i u)) ((h.all.1 : Blk w b t cs).set_ i u) (fun i hi => .inl (by simpa [tBlk] using hi))
end
end Go.Proofs.Ytdeocidlkpbhcaa
