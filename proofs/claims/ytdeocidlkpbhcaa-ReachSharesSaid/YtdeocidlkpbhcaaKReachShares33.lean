/- Reach, plain: how many leads, how many pages; a tree that grows. -/
import Derived.Test.YtdeocidlkpbhcaaKReachShares28
import Derived.Test.YtdeocidlkpbhcaaKReachShares32
namespace Go.Proofs.Ytdeocidlkpbhcaa
set_option linter.unusedVariables false
set_option linter.unusedSimpArgs false
open Go.RowKit Go.Maps
/-! Sums over pages. -/
theorem Z5b (F : Nat → Nat → Nat) (n : Nat) : ∀ (m : Nat), sumN (fun q => sumN (fun p => F p q) n) m = sumN (fun p => sumN (fun q => F p q) m) n
  | 0 => (Z1w n).symm
  | m + 1 => by
    show sumN (fun q => sumN (fun p => F p q) n) m + sumN (fun p => F p (m + 1)) n = sumN (fun p => sumN (fun q => F p q) m + F p (m + 1)) n
    rw [Z5b F n m, Z31]
theorem Z44 (sn : Nat → Bool) (f : Nat → Nat) : ∀ (n : Nat), sumL ((((List.range n).map (· + 1)).filter sn).map f) = sumN (fun q => if sn q then f q else 0) n
  | 0 => rfl
  | n + 1 => by
    rw [List.range_succ, List.map_append, List.filter_append, List.map_append, Z21, Z44 sn f n]
    show _ = sumN _ n + (if sn (n + 1) then f (n + 1) else 0)
    congr 1
    cases h : sn (n + 1) with
    | false => simp [h, sumL]
    | true => simp [h, sumL]
theorem Z3d (sn : Nat → Bool) (n : Nat) : ∀ (l : List Nat), (∀ r ∈ l, sn r = true ∧ 1 ≤ r ∧ r ≤ n) → sumN (fun q => if sn q then l.countP (fun r => decide (r = q)) else 0) n = l.length
  | [], _ => by
    rw [Z0y (g := fun _ => 0) n (fun i _ _ => by simp), Z1w]
    rfl
  | x :: l, h => by
    obtain ⟨h1, h2, h3⟩ := h x List.mem_cons_self
    have ih := Z3d sn n l (fun r hr => h r (List.mem_cons_of_mem _ hr))
    rw [Z0y (g := fun q => (if sn q then l.countP (fun r => decide (r = q)) else 0) + (if q = x then 1 else 0)) n (fun q _ _ => by
      rw [List.countP_cons]
      by_cases e : q = x
      · subst e; simp [h1]
      · have e' : ¬ x = q := fun h => e h.symm
        simp [e, e']), Z31, ih, Z3q h2, if_pos h3]
    rfl
/-- How many pairs of an inner node. -/
def lenIn (N : List Nd) (p : Nat) : Nat := match ndAt N p with
  | some (l, xs) => if l = 0 then 0 else xs.length
  | none => 0
/-- All leads: the roots, and the inner nodes' pairs. -/
theorem Z85 {N : List Nd} {tg : Tg} (h : TgOk N tg) (hN : N.length ≤ 1023) : sumL ((refL N tg).map Prod.snd) = (rsF tg).length + sumL ((keysN (snF tg)).map (lenIn N)) := by
  have hsn : ∀ q, snF tg q = true → 1 ≤ q ∧ q ≤ 1023 := fun q hq => by have := Z4t h hq; omega
  have e1 : (refL N tg).map Prod.snd = (keysN (snF tg)).map (ldF N (rsF tg) (snF tg)) := by unfold refL; rw [List.map_map]; rfl
  rw [e1]
  unfold keysN
  rw [Z44, Z44]
  have e2 : sumN (fun q => if snF tg q then ldF N (rsF tg) (snF tg) q else 0) 1023 = sumN (fun q => (if snF tg q then (rsF tg).countP (fun r => decide (r = q)) else 0) + sumN (fun p => if snF tg p then (if snF tg q then cntIn N p q else 0) else 0) 1023) 1023 := Z0y 1023 fun q _ _ => by
    unfold ldF
    by_cases e : snF tg q = true
    · have h9 : sumN (fun p => if snF tg p then cntIn N p q else 0) 1023 = sumN (fun p => if snF tg p then (if snF tg q then cntIn N p q else 0) else 0) 1023 := Z0y 1023 fun p _ _ => by rw [if_pos e]
      rw [if_pos e, if_pos e, h9]
    · rw [if_neg e, if_neg e, Z0y (g := fun _ => 0) 1023 (fun p _ _ => by rw [if_neg e]; split <;> rfl), Z1w]
  rw [e2, Z31, Z3d (snF tg) 1023 (rsF tg) (fun r hr => by
    obtain ⟨hr1, hr2⟩ := List.mem_filter.1 hr
    obtain ⟨x, hx, rfl⟩ := List.mem_map.1 hr1
    obtain ⟨m, L, hR, _⟩ := h x hx
    rcases hR.rt with ⟨e, _, _⟩ | ⟨l, _, hT, _⟩
    · rw [e] at hr2; simp at hr2
    · have hs : snF tg x.1 = true := List.any_eq_true.2 ⟨x, hx, decide_eq_true (Tr.self hT)⟩
      exact ⟨hs, hsn _ hs⟩), Z5b (fun p q => if snF tg p then (if snF tg q then cntIn N p q else 0) else 0)]
  refine congrArg ((rsF tg).length + ·) (Z0y 1023 fun p _ _ => ?_)
  by_cases e : snF tg p = true
  · rw [if_pos e, Z0y (g := fun q => if snF tg q then cntIn N p q else 0) 1023 (fun q _ _ => if_pos e)]
    obtain ⟨x, hx, hm⟩ := List.any_eq_true.1 e
    obtain ⟨m, L, hR, _⟩ := h x hx
    rcases hR.rt with ⟨_, _, e0⟩ | ⟨l, _, hT, _⟩
    · rw [e0] at hm; cases of_decide_eq_true hm
    · obtain ⟨l', xs, e1, _, e3⟩ := Tr.closed hT p (of_decide_eq_true hm)
      unfold cntIn lenIn
      rw [e1]
      show sumN (fun q => if snF tg q = true then (if l' = 0 then 0 else cntX xs q) else 0) 1023 = if l' = 0 then 0 else xs.length
      by_cases hl : l' = 0
      · rw [if_pos hl, Z0y (g := fun _ => 0) 1023 (fun q _ _ => by rw [if_pos hl]; split <;> rfl), Z1w]
      · rw [if_neg hl]
        have h2 := Z3d (snF tg) 1023 (xs.map Prod.snd) (fun r hr => by
          obtain ⟨y, hy, rfl⟩ := List.mem_map.1 hr
          have hs : snF tg y.2 = true := List.any_eq_true.2 ⟨x, hx, decide_eq_true (e3 hl y hy)⟩
          exact ⟨hs, hsn _ hs⟩)
        rw [List.length_map] at h2
        rw [← h2]
        refine Z0y 1023 fun q _ _ => ?_
        rw [if_neg hl]
        unfold cntX
        rw [List.countP_map]
        rfl
  · rw [if_neg e, Z0y (g := fun _ => 0) 1023 (fun q _ _ => if_neg e), Z1w]
theorem Z49 : ∀ {K g : List Nat}, K.Nodup → (∀ q ∈ K, q ∈ g) → K.length ≤ g.length
  | [], _, _, _ => Nat.zero_le _
  | a :: K, g, hn, h => by
    obtain ⟨h1, h2⟩ := List.nodup_cons.1 hn
    have ha := h a List.mem_cons_self
    have h3 := Z49 (g := g.erase a) h2 (fun q hq => (List.mem_erase_of_ne (fun e => h1 (by rw [← e]; exact hq))).2 (h q (List.mem_cons_of_mem _ hq)))
    have h4 := List.length_erase_of_mem ha
    have h5 := List.length_pos_of_mem ha
    rw [List.length_cons]
    omega
/-- Two trees that share all but what is new. -/
theorem Z66 {N : Nat} {M : Nat} : ∀ {K g : List Nat}, K.Nodup → (∀ q ∈ K, q ∈ g ∨ (N < q ∧ q ≤ N + M)) → K.length ≤ g.length + M := fun {K g} hn h => by
  have h1 : (K.filter fun q => decide (q ∈ g)).length ≤ g.length := by
    exact Z49 (hn.filter _) (fun q hq => of_decide_eq_true (List.mem_filter.1 hq).2)
  have h2 : (K.filter fun q => !decide (q ∈ g)).length ≤ M := by
    have hs := Z49 (K := K.filter fun q => !decide (q ∈ g)) (g := (List.range M).map fun i => N + 1 + i) (hn.filter _) (fun q hq => by
      obtain ⟨h3, h4⟩ := List.mem_filter.1 hq
      have h4 : ¬ q ∈ g := by simpa using h4
      rcases h q h3 with h5 | ⟨h5, h6⟩
      · exact absurd h5 h4
      · exact List.mem_map.2 ⟨q - N - 1, by rw [List.mem_range]; omega, by omega⟩)
    simpa using hs
  have h3 : K.length = (K.filter fun q => decide (q ∈ g)).length + (K.filter fun q => !decide (q ∈ g)).length := by
    clear h h1 h2 hn
    induction K with
    | nil => rfl
    | cons a K ih =>
      by_cases e : a ∈ g
      · simp [e] at ih ⊢; omega
      · simp [e] at ih ⊢; omega
  omega
theorem Z4c (sn : Nat → Bool) : (keysN sn).Nodup := (Z2l sn).imp (fun {x y} h e => by omega)
theorem Z7u (x : Nat × List Nat) (i : Nat) : snF [x] i = true ↔ i ∈ x.2 := by simp [snF]
theorem one_len {N : List Nd} {r : Nat} {g : List Nat} (hok : TgOk N [(r, g)]) (hN : N.length ≤ 1023) (hg : g.Nodup) : (keysN (snF [(r, g)])).length = g.length := by
  refine ((List.perm_ext_iff_of_nodup (Z4c _) hg).2 fun q => ?_).length_eq
  rw [Z2k, Z7u]
  constructor
  · rintro ⟨_, h⟩; exact h
  · intro h
    have := Z4t hok ((Z7u (r, g) q).2 h)
    exact ⟨by omega, h⟩
theorem two_len {N M : List Nd} {r r' : Nat} {g g' : List Nat} (hok : TgOk (N ++ M) [(r, g), (r', g')]) (hs : ∀ q ∈ g', q ∈ g ∨ N.length < q) : (keysN (snF [(r, g), (r', g')])).length ≤ g.length + M.length := by
  refine Z66 (N := N.length) (Z4c _) fun q hq => ?_
  have h1 := (Z2k.1 hq).2
  have h2 := Z4t hok h1
  rw [List.length_append] at h2
  have h3 : q ∈ g ∨ q ∈ g' := by simpa [snF] using h1
  rcases h3 with h3 | h3
  · exact .inl h3
  · rcases hs q h3 with h4 | h4
    · exact .inl h4
    · exact .inr ⟨h4, h2.2⟩
/-! A tree that grows by rising keys. -/
def BigL (L : List (List Pr)) : Prop := L.length ≤ 1 ∨ ∀ c ∈ L, 8 ≤ c.length
theorem big_len : ∀ {L : List (List Pr)}, (∀ c ∈ L, 8 ≤ c.length) → 8 * L.length ≤ L.flatten.length
  | [], _ => by simp
  | c :: L, h => by
    have h1 := h c List.mem_cons_self
    have h2 := big_len (L := L) (fun d hd => h d (List.mem_cons_of_mem _ hd))
    rw [List.length_cons, List.flatten_cons, List.length_append]
    omega
theorem BigL.le {L : List (List Pr)} (h : BigL L) {n : Nat} (hn : L.flatten.length ≤ n) (h8 : 8 ≤ n) : 8 * L.length ≤ n := by
  rcases h with h | h
  · omega
  · have := big_len h; omega
theorem big_parts {c : List Pr} {x : Pr} (hc : ∀ y ∈ c, y.1 < x.1) (h8 : 8 ≤ c.length) (h16 : (insP x c).length ≤ 16) : ∀ d ∈ parts (insP x c), 8 ≤ d.length := fun d hd => by
  have hl := (Z3u hc).1
  have hne : insP x c ≠ [] := fun e => by rw [e] at hl; cases hl
  by_cases h15 : (insP x c).length ≤ 15
  · rw [Z28 hne h15] at hd
    obtain rfl := List.mem_singleton.1 hd
    omega
  · rw [Z27 (by omega)] at hd
    rcases List.mem_cons.1 hd with rfl | hd
    · rw [List.length_take]; omega
    · obtain rfl := List.mem_singleton.1 hd
      rw [List.length_drop]; omega
theorem BigL.step {root : Nat} {x : Pr} {L L' : List (List Pr)} (h : BigL L) (hg : GrowL root x L L') (hk : ∀ y ∈ L.flatten, y.1 < x.1) : BigL L' := by
  rcases hg with ⟨_, _, rfl⟩ | ⟨_, A, c, B, rfl, rfl, h16⟩
  · exact .inl (by simp)
  · have hc : ∀ y ∈ c, y.1 < x.1 := fun y hy => hk y (List.mem_flatten.2 ⟨c, by simp, hy⟩)
    rcases h with h | h
    · have hA : A = [] := by
        cases A with
        | nil => rfl
        | cons a A => simp at h
      have hB : B = [] := by
        cases B with
        | nil => rfl
        | cons a B => rw [hA] at h; simp at h
      subst hA hB
      have hl := (Z3u hc).1
      have hne : insP x c ≠ [] := fun e => by rw [e] at hl; cases hl
      by_cases h15 : (insP x c).length ≤ 15
      · rw [Z28 hne h15]; exact .inl (by simp)
      · rw [Z27 (by omega)]
        refine .inr fun d hd => ?_
        simp only [List.nil_append, List.append_nil] at hd
        rcases List.mem_cons.1 hd with rfl | hd
        · rw [List.length_take]; omega
        · obtain rfl := List.mem_singleton.1 hd
          rw [List.length_drop]; omega
    · refine .inr fun d hd => ?_
      rcases List.mem_append.1 hd with hd | hd
      · exact h d (by simp [hd])
      · rcases List.mem_append.1 hd with hd | hd
        · exact big_parts hc (h c (by simp)) h16 d hd
        · exact h d (by simp [hd])
structure Grw (N : List Nd) (r i : Nat) (L : List (List Pr)) (g : List Nat) : Prop where
  rt : ∃ m, RT m N r L g ∧ m ≤ 1
  len : L.flatten.length = i
  lt : ∀ y ∈ L.flatten, y.1 < i
  big : BigL L
  cnt : N.length ≤ 4 * i + L.length
theorem Grw.zero : Grw [] 0 0 [] [] := ⟨⟨0, Z5y 0 [], by omega⟩, rfl, (fun y h => by cases h), .inl (by simp), by simp⟩
theorem Grw.small {N : List Nd} {r i : Nat} {L : List (List Pr)} {g : List Nat} (h : Grw N r i L g) (hi : i ≤ 120) : N.length ≤ 4 * i + 15 := by
  have h1 := h.cnt
  have h2 := h.big.le (n := 120) (by have := h.len; omega) (by omega)
  omega
theorem Grw.put {m : Nat} {N N' : List Nd} {room root' er : Int} {r i : Nat} {L : List (List Pr)} {g : List Nat} (h : Grw N r i L g) (hR : RT m N r L g) (hm : m ≤ 1) (hi : i < 120) (hroom : room = 511) (hP : PutT m N N' room r i i L g root' er) : er = 0 ∧ ∃ (r' : Nat) (L' : List (List Pr)) (g' : List Nat), root' = r' ∧ 1 ≤ r' ∧ Grw N' r' (i + 1) L' g' := by
  have hs := h.small (by omega)
  rcases hP.how with ⟨_, _, hf⟩ | ⟨h0, r', L', g', m', h1, h2, _, h4, h5, h6, h7, h8, h9, h10⟩
  · exact absurd ⟨by omega, by omega⟩ hf
  · obtain ⟨hl1, hl2⟩ := Z3u (x := (i, i)) h.lt
    have hlen : L'.flatten.length = i + 1 := by rw [h5, hl1, h.len]
    have hbig := h.big.step h6 h.lt
    have hle := hbig.le (n := 127) (by omega) (by omega)
    refine ⟨h0, r', L', g', h1, h2, ⟨m', h4, by omega⟩, hlen, fun y hy => ?_, hbig, ?_⟩
    · rw [h5] at hy
      have := hl2 y hy
      simp only at this
      omega
    · have := h.cnt
      omega
end Go.Proofs.Ytdeocidlkpbhcaa
