/- reach's law: ReachUnion (printed by XRcF.gen.py). -/
import Derived.Test.YtdeocidlkpbhcaaKReachUnion28
import Derived.Laws.Tables
import Derived.Laws.CopyRow
namespace Go.Proofs.Ytdeocidlkpbhcaa
attribute [local simp] BigFrame.eval_const BigFrame.eval_global BigFrame.eval_func
set_option linter.unusedVariables false
set_option linter.unusedSimpArgs false
open Go.RowKit Go.Maps


/-- 512 marks in a row. -/
def bwA (u : Nat → Bool) : Array Value := ((List.range 512).map fun i => Value.bool (u i)).toArray
theorem Z2m (u : Nat → Bool) : (bwA u).size = 512 := by simp [bwA]
theorem Z3q (u : Nat → Bool) {i : Nat} (hi : i < 512) : (bwA u)[i]? = some (.bool (u i)) := by
 unfold bwA
 rw [List.getElem?_toArray, List.getElem?_map, List.getElem?_range hi]
 rfl
theorem bwA_one (u : Nat → Bool) : (bwA u).all (·.oneCell') = true := by
 rw [Array.all_eq_true]
 intro i hi
 have h := Z3q u (i := i) (by rw [Z2m] at hi; exact hi)
 rw [Array.getElem?_eq_getElem hi] at h
 have h2 := Option.some.inj h
 rw [h2]
 rfl
theorem bwA_set (u : Nat → Bool) {k : Nat} (hk : k < 512) : (bwA u).setIfInBounds k (.bool true) = bwA (insB k u) := by
 apply Array.ext_getElem?
 intro i
 rw [Array.getElem?_setIfInBounds]
 by_cases e : k = i
 · subst e
   rw [if_pos rfl, if_pos (by rw [Z2m]; exact hk), Z3q _ hk]
   simp [insB]
 · rw [if_neg e]
   have e' : ¬ i = k := fun h => e h.symm
   by_cases hi : i < 512
   · rw [Z3q _ hi, Z3q _ hi]; simp [insB, e']
   · rw [Array.getElem?_eq_none (by rw [Z2m]; omega), Array.getElem?_eq_none (by rw [Z2m]; omega)]
section
variable {w : World} {o : Oper} {ρ : Operand → Value}
theorem x_zeroW (ho : o.op = .build 33 #[]) : (execOp ρ o).run Try.prog w = .ok (.value (.agg (bwA fun _ => false))) w := by
 unfold execOp
 simp only [ho]
 kernel_rfl
theorem Z7s (ho : o.op = .alloc 33) : (execOp ρ o).run Try.prog w = .ok (.value (.pointer (some ⟨w.heap.size, 0, none⟩))) (w.alloc (.cells (bwA fun _ => false) 33)) := by
 unfold execOp
 simp only [ho]
 kernel_rfl
end
theorem Z7w {ops : Array Oper} {rest : List Oper} {o : Oper} {a : Act} {w : World} {Q : Exit → Act → World → Prop} (hgd : o.guard = none) (hd : o.dst = none) (ty : TypeId) (x y : Operand) (ho : o.op = .store ty x y) {g : Nat} {Z : Array Value} {t : TypeId} (hx : a.eval x = .pointer (some ⟨g, 0, none⟩)) (hy : a.eval y = .agg Z) (hb : Blk w g t Z) (hi : (Try.prog.info? ty).map (·.size) = some Z.size) (h1 : Z.all (·.oneCell') = true) (h : wpList Try.prog ops Q rest a w) : wpList Try.prog ops Q (o :: rest) a w := by
 refine wpList_store_row hgd ty x y ho g Z hx hy t Z hb hi rfl h1 ?_
 rw [setRow_self _ _ _ _ _ hb, hd]
 exact h
theorem uN_nat {n : Nat} (h : n ≤ 1000000) : uN (n : Int) = n := by
 unfold uN
 rw [show IntKind.u64.wrap (n : Int) = (n : Int) from by show (n : Int) % 18446744073709551616 = n; omega]
 omega
theorem encN_len (ns : List Nat) : (ns.flatMap encN).length = ns.length * 1 := by
 induction ns with
 | nil => rfl
 | cons x l ih => rw [List.flatMap_cons, List.length_append, ih, List.length_cons]; show 1 + l.length * 1 = (l.length + 1) * 1; omega
theorem encN_one (ns : List Nat) : ∀ u ∈ ns.flatMap encN, u.oneCell' = true := fun u hu => by
 obtain ⟨x, _, hx⟩ := List.mem_flatMap.1 hu
 obtain rfl := List.mem_singleton.1 hx
 rfl
theorem encN_map (ns : List Nat) : ns.flatMap encN = ns.map fun (v : Nat) => Value.int .i64 (v : Nat) := by
 induction ns with
 | nil => rfl
 | cons x l ih => rw [List.flatMap_cons, ih]; rfl
theorem encN_get (ns : List Nat) {j : Nat} {u : Value} (h : (ns.flatMap encN)[j]? = some u) : ∃ v, ns[j]? = some v ∧ u = .int .i64 (v : Nat) := by
 have e := encN_map ns
 rw [e, List.getElem?_map] at h
 cases hv : ns[j]? with
 | none => rw [hv] at h; cases h
 | some v => rw [hv] at h; exact ⟨v, rfl, (Option.some.inj h).symm⟩
theorem ns_cells {w : World} {g c : Nat} {ns : List Nat} (h : (tNs (.slice (some ⟨g, 0, none⟩) ns.length c) ns).holds w) : ∀ j u, (ns.flatMap encN)[j]? = some u → w.cell? ((⟨g, 0, none⟩ : Addr).add j) = some u := fun j u hu => by
 obtain ⟨v, hv, rfl⟩ := encN_get ns hu
 obtain ⟨g', e, hc⟩ := Z2r h hv
 injection e with e
 injection e with e
 subst e
 rw [show (⟨g, 0, none⟩ : Addr).add j = ⟨g, j, none⟩ by unfold Addr.add; split <;> simp_all]
 exact hc
/-- Pages, walked through by numbers. -/
def SeenN (ks : List Nat) (i k : Nat) : Prop := k ≤ ks.length ∧ ∀ (j : Nat) y, ks[j]? = some y → (y < i ↔ j < k)
theorem SeenN.start {ks : List Nat} : SeenN ks 0 0 := ⟨Nat.zero_le _, fun j y _ => by omega⟩
theorem SeenN.skip {ks : List Nat} {i k : Nat} (h : SeenN ks i k) (hn : i ∉ ks) : SeenN ks (i + 1) k := ⟨h.1, fun j y hy => by
 have h1 := h.2 j y hy
 have : y ≠ i := fun e => hn (by rw [← e]; exact List.mem_of_getElem? hy)
 omega⟩
theorem SeenN.next {ks : List Nat} {i k : Nat} (h : SeenN ks i k) (hu : ks.Pairwise fun a b => a < b) (hm : i ∈ ks) : ks[k]? = some i ∧ SeenN ks (i + 1) (k + 1) := by
 obtain ⟨j, hj⟩ := List.getElem?_of_mem hm
 have up : ∀ (a b x y : Nat), ks[a]? = some x → ks[b]? = some y → a < b → x < y := fun a b x y ha hb hab => by
  obtain ⟨ha1, rfl⟩ := List.getElem?_eq_some_iff.1 ha
  obtain ⟨hb1, rfl⟩ := List.getElem?_eq_some_iff.1 hb
  exact List.pairwise_iff_getElem.1 hu a b ha1 hb1 hab
 have h1 : ¬ j < k := fun e => by have := (h.2 j i hj).2 e; omega
 have h2 : ¬ k < j := fun e => by
  obtain ⟨y, hy⟩ : ∃ y, ks[k]? = some y := ⟨_, List.getElem?_eq_getElem (by have := (List.getElem?_eq_some_iff.1 hj).1; omega)⟩
  have := up k j y i hy hj e
  have := (h.2 k y hy).1 this
  omega
 obtain rfl : j = k := by omega
 refine ⟨hj, by have := (List.getElem?_eq_some_iff.1 hj).1; omega, fun a y hy => ?_⟩
 constructor
 · intro h3
   by_cases e : y = i
   · by_cases h4 : a < j + 1
     · exact h4
     · have := up j a i y hj hy (by omega); omega
   · have := (h.2 a y hy).1 (by omega); omega
 · intro h3
   by_cases e : a = j
   · subst e; rw [hj] at hy; injection hy with hy; omega
   · have := (h.2 a y hy).2 (by omega); omega
theorem SeenN.done {ks : List Nat} {n k : Nat} (h : SeenN ks n k) (hb : ∀ q ∈ ks, q < n) : k = ks.length := by
 rcases Nat.lt_or_ge k ks.length with h1 | h1
 · exfalso
   obtain ⟨y, hy⟩ : ∃ y, ks[k]? = some y := ⟨_, List.getElem?_eq_getElem h1⟩
   have := (h.2 k y hy).1 (hb y (List.mem_of_getElem? hy))
   omega
 · have := h.1; omega
/-- The pages of one tree more. -/
theorem Z7t {N : List Nd} {tg : Tg} {x : Nat × List Nat} (hx : TgOk N [x]) (hN : N.length ≤ 1023) : unB (keysN (snF [x])) (snF tg) = snF (tg ++ [x]) := by
 rw [Z6y]
 funext i
 have h : snF [x] i = decide (i ∈ x.2) := by simp [snF]
 have e : i ∈ keysN (snF [x]) ↔ i ∈ x.2 := by
  rw [Z22, h]
  constructor
  · rintro ⟨_, h⟩; exact of_decide_eq_true h
  · intro hi
    have hs : snF [x] i = true := by rw [h]; exact decide_eq_true hi
    have := Z37 hx hs
    exact ⟨by omega, decide_eq_true hi⟩
 unfold unB
 rw [decide_eq_decide.2 e]
theorem snF_two (x : Nat × List Nat) (tgb tg : Tg) (h : snF tgb = snF tg) : snF (x :: x :: tgb) = snF (tg ++ [x]) := by
 funext i
 have h1 := congrFun h i
 unfold snF at h1 ⊢
 rw [List.any_append, List.any_cons, List.any_cons, h1]
 simp [Bool.or_comm, Bool.or_assoc]
def Roots (N : List Nd) (rts : List Nat) : Prop := ∀ r ∈ rts, ∃ P, Tre N r 200 P
theorem Roots.mono {N : List Nd} {rts : List Nat} (h : Roots N rts) (M : List Nd) : Roots (N ++ M) rts := fun r hr => by
 obtain ⟨P, hP⟩ := h r hr
 exact ⟨P, hP.mono M⟩
theorem Roots.one {N : List Nd} {rts : List Nat} (h : Roots N rts) (hN : N.length ≤ 511) {r : Nat} (hr : r ∈ rts) : ∃ g, TgOk N [(r, g)] := by
 obtain ⟨P, m, L, g, h1, h2, h3, h4⟩ := h r hr
 have h5 := h1.pages_le
 have h6 := Z43 L
 refine ⟨g, fun x hx => ?_⟩
 obtain rfl := List.mem_singleton.1 hx
 exact ⟨m, L, h1, by omega, by show g.length ≤ 600; omega, by omega⟩

set_option maxRecDepth 100000 in
set_option maxHeartbeats 4000000 in
theorem Z4l {A : Option Addr} {n1 cp : Nat} (nn : Int) (xs : List Int) (W0 : World) (hl : xs.length = n1) (hrow : Row1 W0 A (Value.int .i64) xs) : Calls Try.prog 3 #[.int .i64 nn, .slice A n1 cp] W0 fun e w' => e = .returned (.bool true) ∧ Below W0.heap.size W0 w' := by
 have O := OwnT.start W0
 refine Z09 Try.func3 rfl 182 rfl (by rfl) ?_
 intro a1 k hargs
 have e0 : a1.eval (.tmp 0) = .int .i64 nn := hargs 0 _ rfl
 have e1 : a1.eval (.tmp 1) = .slice A n1 cp := hargs 1 _ rfl
 clear hargs
 refine wp_seq ?_
 refine wp_region_lit ?_
 have hE := Env.refl a1 [4]
 refine sd 4 hE k (Z01 rfl rfl) ?_
 intro a2 hE e4 kp
 refine wpList_nil ?_
 replace e0 := hE.g e0; replace e1 := hE.g e1
 replace k := k.env hE
 clear hE e4
 refine Z00 (wp_seq ?_)
 refine wp_seq ?_
 refine wp_region_lit ?_
 have hE := Env.refl a2 [25, 26]
 apply Z08 25 hE k rfl (by rfl) (by rfl) rfl
 case h =>
  simp [go_sem, ↓IntWalk.iteOmega]
  with_reducible exact ⟨rfl, rfl⟩
 case hc => exact awake09 _
 rintro e w4 ⟨rfl, R⟩
 replace O := OwnT.ext O R
 refine ⟨_, rfl, ?_⟩
 intro a3 hE e25 kp
 refine sd 26 hE k (Z1o rfl e25) ?_
 intro a5 hE e26 kp
 refine wpList_nil ?_
 replace e0 := hE.g e0; replace e1 := hE.g e1
 replace k := k.env hE
 clear hE
 refine Z00 ?_
 refine Z06 e26 rfl ?_
 refine wp_skip ?_
 refine Z00 ?_
 by_cases h6 : 6 < n1
 · skip
   refine wp_seq ?_
   refine wp_seq ?_
   refine wp_region_lit ?_
   have hE := Env.refl a5 [27, 28, 29]
   refine zm 27 hE k e1 ?_
   intro a6 hE e27 kp
   refine sd 28 hE k (Z0e Try.underlying22 rfl e27) ?_
   intro a7 hE e28 kp
   refine sd 29 hE k (Z05 (Z20 rfl e28 rfl) (decide_eq_true (by omega))) ?_
   intro a8 hE e29 kp
   refine wpList_nil ?_
   replace e0 := hE.g e0; replace e1 := hE.g e1
   replace k := k.env hE
   clear hE e26
   refine Z00 ?_
   refine Z0b e29 rfl ?_
   refine wp_seq ?_
   refine wp_region_lit ?_
   have hE := Env.refl a8 [4]
   refine sd 4 hE k (Z01 rfl rfl) ?_
   intro a9 hE e4 kp
   refine wpList_nil ?_
   replace k := k.env hE
   clear hE e0 e1 e29
   refine Z00 ?_
   refine wp_ret ?_
   refine Z0k ?_
   refine Z0t rfl k e4 ?_
   exact ⟨rfl, O.below⟩
 · skip
   refine wp_seq ?_
   refine wp_seq ?_
   refine wp_region_lit ?_
   have hE := Env.refl a5 [27, 28, 29]
   refine zm 27 hE k e1 ?_
   intro a10 hE e27 kp
   refine sd 28 hE k (Z0e Try.underlying22 rfl e27) ?_
   intro a11 hE e28 kp
   refine sd 29 hE k (Z05 (Z20 rfl e28 rfl) (decide_eq_false (by omega))) ?_
   intro a12 hE e29 kp
   refine wpList_nil ?_
   replace e0 := hE.g e0; replace e1 := hE.g e1
   replace k := k.env hE
   clear hE e26
   refine Z00 ?_
   refine Z06 e29 rfl ?_
   refine wp_skip ?_
   refine Z00 (wp_seq ?_)
   refine wp_region_lit ?_
   have hE := Env.refl a12 [30, 31, 5]
   apply Z02 30 hE k rfl rfl rfl rfl
   case h =>
    simp [go_sem, ↓IntWalk.iteOmega]
    with_reducible rfl
   intro a13 hE e30 kp
   refine Z0i O (cs := #[.slice none 0 0, .int .i64 511]) (t := 27) 31 hE k rfl (by rfl) (by rfl) rfl (by simp [go_sem, ↓IntWalk.iteOmega, ev e30]) ?_
   clear O
   intro sb a14 w15 O hE e31 kp
   refine sd 5 hE k (Z01 rfl e31) ?_
   intro a16 hE e5 kp
   refine wpList_nil ?_
   replace e0 := hE.g e0; replace e1 := hE.g e1
   replace k := k.env hE
   clear hE e29
   refine Z00 ?_
   replace O := sh_nil O
   refine wp_seq ?_
   refine wp_region_lit ?_
   have hE := Env.refl a16 [32, 6]
   refine Z10 (m := 1) (c := 1) O (cs := #[.int .i64 0]) (t := 3) 32 hE k rfl (by rfl) (by rfl) rfl (by simp [go_sem, ↓IntWalk.iteOmega]) ?_
   clear O
   intro g6 a17 w18 O hE e32 kp
   refine sd 6 hE k (Z01 rfl e32) ?_
   intro a19 hE e6 kp
   refine wpList_nil ?_
   replace e0 := hE.g e0; replace e1 := hE.g e1; replace e5 := hE.g e5
   replace k := k.env hE
   clear hE
   refine Z00 ?_
   replace O := OwnT.asRowN (k := 1) (n := 1) (cs := [.int .i64 0]) O rfl (by decide)
   replace O : OwnT _ _ ((tBlk sb 27 #[.slice none (([]).length) 0, .int .i64 511]) :: (tRow 40 2 (.slice none ([]).length 0) ([]).length (leafV ([]) ([]))) :: (tPool ([]) ([])) :: (tRow 3 1 (.slice (some ⟨g6, 0, none⟩) 1 1) 1 (([0]).flatMap encN)) :: []) w18 := OwnT.pickR (L := [_, _, _, _]) (R := []) O [1, 2, 3, 0] (by decide)
   refine wp_seq ?_
   refine wp_region_lit ?_
   have hE := Env.refl a19 [7]
   refine sd 7 hE k (Z01 rfl rfl) ?_
   intro a20 hE e7 kp
   refine wpList_nil ?_
   replace e0 := hE.g e0; replace e1 := hE.g e1; replace e5 := hE.g e5; replace e6 := hE.g e6
   replace k := k.env hE
   clear hE
   refine Z00 (wp_seq ?_)
   refine wp_seq ?_
   refine wp_region_lit ?_
   have hE := Env.refl a20 [8]
   refine sd 8 hE k (Z01 rfl rfl) ?_
   intro a21 hE e8 kp
   refine wpList_nil ?_
   replace e0 := hE.g e0; replace e1 := hE.g e1; replace e5 := hE.g e5; replace e6 := hE.g e6; replace e7 := hE.g e7
   replace k := k.env hE
   clear hE
   refine Z00 ?_
   refine wp_block ?_
   obtain ⟨K, hK⟩ : ∃ k, 1 + uN nn % 100 = k := ⟨_, rfl⟩
   have hK1 : K ≤ 100 := by omega
   refine wp_loop (fun a w => Fr 182 a ∧ a.eval (.tmp 0) = .int .i64 nn ∧ a.eval (.tmp 1) = .slice A n1 cp ∧ a.eval (.tmp 5) = .pointer (some ⟨sb, 0, none⟩) ∧ ∃ (i rt n : Nat) (P : List Pr) (rts : List Nat) (Br : Option Addr) (cr : Nat) (N : List Nd) (B : Option Addr) (cap : Nat) (vs : List Value), a.eval (.tmp 6) = .slice Br n cr ∧ a.eval (.tmp 7) = .int .i64 ↑rt ∧ a.eval (.tmp 8) = .int .i64 ↑i ∧ i ≤ K ∧ N.length ≤ 5 * i ∧ n = i + 1 ∧ rts.length = n ∧ Tre N rt (8 + i) P ∧ Roots N rts ∧ OwnT W0.heap.size W0 ((tBlk sb 27 #[.slice B N.length cap, .int .i64 511]) :: (tRow 40 2 (.slice B N.length cap) N.length (leafV vs N)) :: (tPool vs N) :: (tRow 3 1 (.slice Br n cr) n (rts.flatMap encN)) :: []) w) (fun a w => K - (intOf (a.eval (.tmp 8))).toNat) ?_ ?_
   · exact ⟨k, e0, e1, e5, 0, 0, 1, [], [0], _, _, [], none, 0, [], e6, e7, e8, Nat.zero_le _, Nat.zero_le _, rfl, rfl, (Tre.zero []).le (by omega), (fun r hr => ⟨[], by obtain rfl := List.mem_singleton.1 hr; exact (Tre.zero []).le (by omega)⟩), O⟩
   intro a22 w23 hI
   clear k e0 e1 e5
   obtain ⟨k, e0, e1, e5, h_⟩ := hI
   clear O e6 e7 e8
   obtain ⟨i, rt, n, P, rts, Br, cr, N, B, cap, vs, e6, e7, e8, hi, hN, hni, hrn, hT, hRo, O⟩ := h_
   have mi := e8
   by_cases hlt : i < K
   · obtain ⟨ky, hky⟩ : ∃ k, i * 7 % 101 = k := ⟨_, rfl⟩
     have hky1 : ky ≤ 100 := by omega
     refine wp_seq ?_
     refine wp_seq ?_
     refine wp_region_lit ?_
     have hE := Env.refl a22 [33, 34, 35, 36, 37, 38, 39]
     refine zm 33 hE k e8 ?_
     intro a24 hE e33 kp
     refine zm 34 hE k e0 ?_
     intro a25 hE e34 kp
     replace e33 := kt kp e33
     refine sd 35 hE k (Z1i rfl e34 (Z2j nn _)) ?_
     intro a26 hE e35 kp
     replace e33 := kt kp e33
     refine sd 36 hE k (Z6i (m := uN nn) (j := 100) rfl e35 rfl rfl (by decide)) ?_
     intro a27 hE e36 kp
     replace e33 := kt kp e33
     refine sd 37 hE k (Z1i rfl e36 (Z4b _ _ (by omega))) ?_
     intro a28 hE e37 kp
     replace e33 := kt kp e33
     refine sd 38 hE k (Z0s rfl rfl e37 (by omega)) ?_
     intro a29 hE e38 kp
     replace e33 := kt kp e33
     replace e38 := e38.trans (Z0n (show 1 + ((uN nn % 100 : Nat) : Int) = (K : Int) by omega))
     refine sd 39 hE k (Z05 (Z0w rfl e33 e38) (decide_eq_true (by omega))) ?_
     intro a30 hE e39 kp
     refine wpList_nil ?_
     replace e0 := hE.g e0; replace e1 := hE.g e1; replace e5 := hE.g e5; replace e6 := hE.g e6; replace e7 := hE.g e7; replace e8 := hE.g e8
     replace k := k.env hE
     clear hE
     refine Z00 ?_
     refine Z0b e39 rfl ?_
     refine wp_skip ?_
     refine Z00 (wp_seq ?_)
     refine wp_block ?_
     refine wp_seq ?_
     refine wp_region_lit ?_
     have hE := Env.refl a30 [43, 44, 45, 46, 47, 48, 49, 50, 42, 51, 52, 9, 10]
     refine zm 43 hE k e5 ?_
     intro a31 hE e43 kp
     apply Z02 44 hE k rfl rfl rfl rfl
     case h =>
      simp [go_sem, ↓IntWalk.iteOmega, ev e43]
      with_reducible rfl
     intro a32 hE e44 kp
     refine zm 45 hE k e7 ?_
     intro a33 hE e45 kp
     replace e44 := kt kp e44
     refine zm 46 hE k e8 ?_
     intro a34 hE e46 kp
     replace e44 := kt kp e44; replace e45 := kt kp e45
     refine sd 47 hE k (x_mul rfl e46 rfl (by omega)) ?_
     intro a35 hE e47 kp
     replace e44 := kt kp e44; replace e45 := kt kp e45
     replace e47 := e47.trans (Z0n (show (i : Int) * 7 = ((i * 7 : Nat) : Int) by omega))
     refine sd 48 hE k (x_remN (m := i * 7) (j := 101) rfl e47 rfl rfl (by decide)) ?_
     intro a36 hE e48 kp
     replace e44 := kt kp e44; replace e45 := kt kp e45
     replace e48 := e48.trans (Z0n (show ((i * 7 % 101 : Nat) : Int) = (ky : Int) by rw [hky]))
     refine sd 49 hE k (Z1i rfl e48 (Z2k ky _ (by omega))) ?_
     intro a37 hE e49 kp
     replace e44 := kt kp e44; replace e45 := kt kp e45
     apply Z08 50 hE k rfl (by rfl) (by rfl) rfl
     case h =>
      simp [go_sem, ↓IntWalk.iteOmega, ev e44, ev e45, ev e49]
      with_reducible exact ⟨rfl, rfl⟩
     case hc => exact lPut (R := _ :: []) (ky := ky) (vl := 1) _ O hT.norm (by split <;> omega) (by omega) (by omega) (by omega)
     clear O
     rintro e w39 ⟨N2, r2, er, B2, cap2, vs2, rfl, O, hPL⟩
     refine ⟨_, rfl, ?_⟩
     intro a38 hE e50 kp
     refine sd 42 hE k (Z03 rfl e50) ?_
     intro a40 hE e42 kp
     apply Z02 51 hE k rfl rfl rfl rfl
     case h =>
      simp [go_sem, ↓IntWalk.iteOmega, ev e42]
      with_reducible rfl
     intro a41 hE e51 kp
     replace e42 := kt kp e42
     apply Z02 52 hE k rfl rfl rfl rfl
     case h =>
      simp [go_sem, ↓IntWalk.iteOmega, ev e42]
      with_reducible rfl
     intro a42 hE e52 kp
     replace e51 := kt kp e51
     refine sd 9 hE k (Z01 rfl e51) ?_
     intro a43 hE e9 kp
     replace e52 := kt kp e52
     refine sd 10 hE k (Z01 rfl e52) ?_
     intro a44 hE e10 kp
     replace e9 := kt kp e9
     refine wpList_nil ?_
     replace e0 := hE.g e0; replace e1 := hE.g e1; replace e5 := hE.g e5; replace e6 := hE.g e6; replace e8 := hE.g e8
     replace k := k.env hE
     clear hE e7 e39
     refine Z00 ?_
     rcases hPL with ⟨⟨M, rfl, hM⟩, ⟨rfl, rfl, -⟩ | ⟨rfl, r, rfl, hr1, hr2, hT2⟩⟩
     · skip
       refine wp_seq ?_
       refine wp_seq ?_
       refine wp_region_lit ?_
       have hE := Env.refl a44 [53, 54]
       refine zm 53 hE k e10 ?_
       intro a45 hE e53 kp
       refine sd 54 hE k (Z05 (Z0q rfl e53 rfl) (decide_eq_true (by omega))) ?_
       intro a46 hE e54 kp
       refine wpList_nil ?_
       replace e0 := hE.g e0; replace e1 := hE.g e1; replace e5 := hE.g e5; replace e6 := hE.g e6; replace e8 := hE.g e8; replace e9 := hE.g e9; replace e10 := hE.g e10
       replace k := k.env hE
       clear hE
       refine Z00 ?_
       refine Z0b e54 rfl ?_
       refine wp_seq ?_
       refine wp_region_lit ?_
       have hE := Env.refl a46 [55, 56, 4]
       refine zm 55 hE k e10 ?_
       intro a47 hE e55 kp
       refine sd 56 hE k (Z05 (Z0x rfl e55 rfl) (decide_eq_true rfl)) ?_
       intro a48 hE e56 kp
       refine sd 4 hE k (Z01 rfl e56) ?_
       intro a49 hE e4 kp
       refine wpList_nil ?_
       replace k := k.env hE
       clear hE e0 e1 e5 e6 e8 e9 e10 e54
       refine Z00 ?_
       refine wp_ret ?_
       refine Z0k ?_
       refine Z1e ?_
       refine Z0k ?_
       refine Z0k ?_
       refine Z1e ?_
       refine Z0k ?_
       refine Z0t rfl k e4 ?_
       exact ⟨rfl, O.below⟩
     · skip
       refine wp_seq ?_
       refine wp_seq ?_
       refine wp_region_lit ?_
       have hE := Env.refl a44 [53, 54]
       refine zm 53 hE k e10 ?_
       intro a50 hE e53 kp
       refine sd 54 hE k (Z05 (Z0q rfl e53 rfl) (decide_eq_false (by omega))) ?_
       intro a51 hE e54 kp
       refine wpList_nil ?_
       replace e0 := hE.g e0; replace e1 := hE.g e1; replace e5 := hE.g e5; replace e6 := hE.g e6; replace e8 := hE.g e8; replace e9 := hE.g e9; replace e10 := hE.g e10
       replace k := k.env hE
       clear hE
       refine Z00 ?_
       refine Z06 e54 rfl ?_
       refine wp_skip ?_
       refine Z00 (wp_seq ?_)
       refine wp_region_lit ?_
       have hE := Env.refl a51 [57, 7]
       refine zm 57 hE k e9 ?_
       intro a52 hE e57 kp
       refine sd 7 hE k (Z01 rfl e57) ?_
       intro a53 hE e7 kp
       refine wpList_nil ?_
       replace e0 := hE.g e0; replace e1 := hE.g e1; replace e5 := hE.g e5; replace e6 := hE.g e6; replace e8 := hE.g e8; replace e9 := hE.g e9
       replace k := k.env hE
       clear hE e10 e54
       refine Z00 ?_
       replace O : OwnT _ _ ((tRow 3 1 (.slice Br n cr) n (rts.flatMap encN)) :: (tBlk sb 27 #[.slice B2 (((N ++ M)).length) cap2, .int .i64 511]) :: (tRow 40 2 (.slice B2 ((N ++ M)).length cap2) ((N ++ M)).length (leafV vs2 ((N ++ M)))) :: (tPool vs2 ((N ++ M))) :: []) w39 := OwnT.pickR (L := [_, _, _, _]) (R := []) O [3, 0, 1, 2] (by decide)
       refine wp_region_lit ?_
       have hE := Env.refl a53 [58, 59, 60, 61, 6]
       refine sd 58 hE k (Z03 rfl e6) ?_
       intro a54 hE e58 kp
       replace e6 := kt kp e6
       refine zm 59 hE k e9 ?_
       intro a55 hE e59 kp
       replace e6 := kt kp e6; replace e58 := kt kp e58
       refine Z10 (m := 1) (c := 1) O (cs := #[.int .i64 ↑r]) (t := 3) 60 hE k rfl (by rfl) (by rfl) rfl (by simp [go_sem, ↓IntWalk.iteOmega, ev e59]) ?_
       clear O
       intro g7 a56 w57 O hE e60 kp
       replace e6 := kt kp e6; replace e58 := kt kp e58
       obtain ⟨gr, cr2, w58, hrun, O⟩ := Z26 O elemIr (by decide) rfl (by intro u hu; simp at hu; subst hu; rfl) (by unfold maxLen; omega) (by omega)
       apply Z1g 61 hE k rfl (by rfl) (by rfl) rfl
       case h => exact Z1b rfl e58 e60 (hrun _)
       clear hrun
       intro a59 hE e61 kp
       replace e6 := kt kp e6
       refine sd 6 hE k (Z01 rfl e61) ?_
       intro a60 hE e6 kp
       refine wpList_nil ?_
       replace e0 := hE.g e0; replace e1 := hE.g e1; replace e5 := hE.g e5; replace e7 := hE.g e7; replace e8 := hE.g e8
       replace k := k.env hE
       clear hE e9
       refine Z0p ?_
       refine Z00 ?_
       refine wp_region_lit ?_
       have hE := Env.refl a60 [40, 41, 8]
       refine sd 40 hE k (Z03 rfl e8) ?_
       intro a61 hE e40 kp
       replace e8 := kt kp e8
       refine sd 41 hE k (Z0s rfl e40 rfl (by omega)) ?_
       intro a62 hE e41 kp
       replace e8 := kt kp e8
       refine sd 8 hE k (Z01 rfl e41) ?_
       intro a63 hE e8 kp
       refine wpList_nil ?_
       replace e0 := hE.g e0; replace e1 := hE.g e1; replace e5 := hE.g e5; replace e6 := hE.g e6; replace e7 := hE.g e7
       replace k := k.env hE
       clear hE
       refine Z00 ?_
       rw [show rts.flatMap encN ++ [Value.int .i64 (r : Int)] = (rts ++ [r]).flatMap encN by rw [List.flatMap_append]; rfl] at O
       refine ⟨⟨k, e0, e1, e5, i + 1, r, n + 1, _, rts ++ [r], some ⟨gr, 0, none⟩, cr2, N ++ M, B2, cap2, vs2, e6, e7, e8, by omega, by rw [List.length_append]; omega, by omega, by rw [List.length_append, hrn]; rfl, hT2.next (by omega), (fun z hz => by rcases List.mem_append.1 hz with hz | hz; exact (hRo.mono M) z hz; (obtain rfl := List.mem_singleton.1 hz; exact ⟨_, (hT2.next (by omega)).le (by omega)⟩)), OwnT.pickR (L := [_, _, _, _]) (R := []) O [1, 2, 3, 0] (by decide)⟩, ?_⟩
       rw [e8, mi]; simp only [intOf]; omega
   · clear mi
     have hn1 : 1 ≤ n ∧ n ≤ 101 := by omega
     have hN5 : N.length ≤ 500 := by omega
     clear hT
     refine wp_seq ?_
     refine wp_seq ?_
     refine wp_region_lit ?_
     have hE := Env.refl a22 [33, 34, 35, 36, 37, 38, 39]
     refine zm 33 hE k e8 ?_
     intro a64 hE e33 kp
     refine zm 34 hE k e0 ?_
     intro a65 hE e34 kp
     replace e33 := kt kp e33
     refine sd 35 hE k (Z1i rfl e34 (Z2j nn _)) ?_
     intro a66 hE e35 kp
     replace e33 := kt kp e33
     refine sd 36 hE k (Z6i (m := uN nn) (j := 100) rfl e35 rfl rfl (by decide)) ?_
     intro a67 hE e36 kp
     replace e33 := kt kp e33
     refine sd 37 hE k (Z1i rfl e36 (Z4b _ _ (by omega))) ?_
     intro a68 hE e37 kp
     replace e33 := kt kp e33
     refine sd 38 hE k (Z0s rfl rfl e37 (by omega)) ?_
     intro a69 hE e38 kp
     replace e33 := kt kp e33
     replace e38 := e38.trans (Z0n (show 1 + ((uN nn % 100 : Nat) : Int) = (K : Int) by omega))
     refine sd 39 hE k (Z05 (Z0w rfl e33 e38) (decide_eq_false (by omega))) ?_
     intro a70 hE e39 kp
     refine wpList_nil ?_
     replace e0 := hE.g e0; replace e1 := hE.g e1; replace e5 := hE.g e5; replace e6 := hE.g e6; replace e7 := hE.g e7; replace e8 := hE.g e8
     replace k := k.env hE
     clear hE
     refine Z00 ?_
     refine Z06 e39 rfl ?_
     refine wp_exit ?_
     refine Z0v ?_
     refine Z0v ?_
     refine Z1d ?_
     refine Z00 (wp_seq ?_)
     refine wp_region_lit ?_
     have hE := Env.refl a70 [62, 11]
     refine Z10 (m := 0) (c := 0) O (cs := #[]) (t := 3) 62 hE k rfl (by rfl) (by rfl) rfl (by simp [go_sem, ↓IntWalk.iteOmega]) ?_
     clear O
     intro g11 a71 w72 O hE e62 kp
     refine sd 11 hE k (Z01 rfl e62) ?_
     intro a73 hE e11 kp
     refine wpList_nil ?_
     replace e1 := hE.g e1; replace e5 := hE.g e5; replace e6 := hE.g e6
     replace k := k.env hE
     clear hE e0 e7 e8 e39
     refine Z00 (wp_seq ?_)
     refine wp_region_lit ?_
     have hE := Env.refl a73 [63, 12]
     refine Z10 (m := 0) (c := 0) O (cs := #[]) (t := 3) 63 hE k rfl (by rfl) (by rfl) rfl (by simp [go_sem, ↓IntWalk.iteOmega]) ?_
     clear O
     intro g12 a74 w75 O hE e63 kp
     refine sd 12 hE k (Z01 rfl e63) ?_
     intro a76 hE e12 kp
     refine wpList_nil ?_
     replace e1 := hE.g e1; replace e5 := hE.g e5; replace e6 := hE.g e6; replace e11 := hE.g e11
     replace k := k.env hE
     clear hE
     refine Z00 ?_
     replace O := OwnT.asRowE (k := 1) O
     replace O := OwnT.asRowE (k := 1) (OwnT.pickR (L := [_, _, _, _, _, _]) (R := []) O [1, 0, 2, 3, 4, 5] (by decide))
     replace O : OwnT W0.heap.size W0 ((tRow 3 1 (.slice (some ⟨g11, 0, none⟩) 0 0) 0 (((([] : Tg)).map Prod.fst).flatMap encN)) :: (tNs (.slice (some ⟨g12, 0, none⟩) (([] : Tg)).length 0) ((([] : Tg)).map Prod.fst)) :: (tBlk sb 27 #[.slice B N.length cap, .int .i64 511]) :: (tRow 40 2 (.slice B N.length cap) N.length (leafV vs N)) :: (tPool vs N) :: (tRow 3 1 (.slice Br n cr) n (rts.flatMap encN)) :: []) w75 := O
     refine wp_seq ?_
     refine wp_region_lit ?_
     have hE := Env.refl a76 [64, 13]
     refine sd 64 hE k (x_zeroW rfl) ?_
     intro a77 hE e64 kp
     apply Z1g 13 hE k rfl (by rfl) (by rfl) rfl
     case h =>
      exact Z7s rfl
     intro a78 hE e13 kp
     replace e64 := kt kp e64
     obtain ⟨wb, hub⟩ : ∃ b, w75.heap.size = b := ⟨_, rfl⟩
     replace O := OwnT.new O 33 (bwA fun _ => false)
     rw [hub] at O e13
     clear hub
     generalize w75.alloc (.cells (bwA fun _ => false) 33) = wz at O ⊢
     refine Z7w rfl rfl _ _ _ rfl e13 e64 (OwnT.b0 O) (by rw [Z2m]; kernel_rfl) (bwA_one _) ?_
     refine wpList_nil ?_
     replace e1 := hE.g e1; replace e5 := hE.g e5; replace e6 := hE.g e6; replace e11 := hE.g e11; replace e12 := hE.g e12
     replace k := k.env hE
     clear hE
     refine Z00 ?_
     replace O : OwnT _ _ ((tBlk sb 27 #[.slice B N.length cap, .int .i64 511]) :: (tRow 40 2 (.slice B N.length cap) N.length (leafV vs N)) :: (tPool vs N) :: (tRow 3 1 (.slice Br n cr) n (rts.flatMap encN)) :: (tRow 3 1 (.slice (some ⟨g11, 0, none⟩) 0 0) 0 (((([] : Tg)).map Prod.fst).flatMap encN)) :: (tNs (.slice (some ⟨g12, 0, none⟩) (([] : Tg)).length 0) ((([] : Tg)).map Prod.fst)) :: (tBlk wb 33 (bwA fun _ => false)) :: []) wz := OwnT.pickR (L := [_, _, _, _, _, _, _]) (R := []) O [3, 4, 5, 6, 1, 2, 0] (by decide)
     refine wp_seq ?_
     refine wp_seq ?_
     refine wp_region_lit ?_
     have hE := Env.refl a78 [14]
     refine sd 14 hE k (Z01 rfl rfl) ?_
     intro a80 hE e14 kp
     refine wpList_nil ?_
     replace e1 := hE.g e1; replace e5 := hE.g e5; replace e6 := hE.g e6; replace e11 := hE.g e11; replace e12 := hE.g e12; replace e13 := hE.g e13
     replace k := k.env hE
     clear hE
     refine Z00 ?_
     refine wp_block ?_
     refine wp_loop (fun a w => Fr 182 a ∧ a.eval (.tmp 1) = .slice A n1 cp ∧ a.eval (.tmp 5) = .pointer (some ⟨sb, 0, none⟩) ∧ a.eval (.tmp 6) = .slice Br n cr ∧ a.eval (.tmp 13) = .pointer (some ⟨wb, 0, none⟩) ∧ ∃ (i : Nat) (tg tgb : Tg) (Bs : Option Addr) (cs gb cb : Nat), a.eval (.tmp 11) = .slice Bs i cs ∧ a.eval (.tmp 12) = .slice (some ⟨gb, 0, none⟩) tgb.length cb ∧ a.eval (.tmp 14) = .int .i64 ↑i ∧ i ≤ n1 ∧ tg.length = i ∧ tgb.length = 2 * i ∧ TgOk N tg ∧ TgOk N tgb ∧ snF tgb = snF tg ∧ OwnT W0.heap.size W0 ((tBlk sb 27 #[.slice B N.length cap, .int .i64 511]) :: (tRow 40 2 (.slice B N.length cap) N.length (leafV vs N)) :: (tPool vs N) :: (tRow 3 1 (.slice Br n cr) n (rts.flatMap encN)) :: (tRow 3 1 (.slice Bs i cs) i ((tg.map Prod.fst).flatMap encN)) :: (tNs (.slice (some ⟨gb, 0, none⟩) tgb.length cb) (tgb.map Prod.fst)) :: (tBlk wb 33 (bwA (snF tg))) :: []) w) (fun a w => n1 - (intOf (a.eval (.tmp 14))).toNat) ?_ ?_
     · exact ⟨k, e1, e5, e6, e13, 0, [], [], _, _, _, _, e11, e12, e14, Nat.zero_le _, rfl, rfl, (fun _ h => by cases h), (fun _ h => by cases h), rfl, O⟩
     intro a81 w82 hI
     clear k e1 e5 e6 e13
     obtain ⟨k, e1, e5, e6, e13, h_⟩ := hI
     clear O e11 e12 e14
     obtain ⟨j, tg, tgb, Bs, cs, gb, cb, e11, e12, e14, hj, htl, htb, hok, hokb, hsn, O⟩ := h_
     have mj := e14
     by_cases hlt2 : j < n1
     · have hltI : (j : Int) < (n1 : Int) := by omega
       obtain ⟨x, hx⟩ : ∃ x, xs[j]? = some x := ⟨_, List.getElem?_eq_getElem (by omega)⟩
       obtain ⟨b, o, rfl, d0⟩ := row1I hrow O.below hx
       obtain ⟨z, hz⟩ : ∃ z, uN x % n = z := ⟨_, rfl⟩
       have hzn : z < n := by rw [← hz]; exact Nat.mod_lt _ (by omega)
       have hznI : (z : Int) < (n : Int) := by omega
       obtain ⟨r, hr⟩ : ∃ r, rts[z]? = some r := ⟨_, List.getElem?_eq_getElem (by omega)⟩
       obtain ⟨g, hok1⟩ := hRo.one (by omega) (List.mem_of_getElem? hr)
       have hrtn : OwnT.get O 3 rfl = OwnT.get O 3 rfl := rfl
       obtain ⟨gr, rfl, d1⟩ : ∃ g, Br = some ⟨g, 0, none⟩ ∧ w82.cell? ⟨g, z, none⟩ = some (.int .i64 (r : Nat)) := by
        have h := OwnT.get O 3 rfl
        rw [← hrn] at h
        exact Z2r h hr

       clear hrtn
       refine wp_seq ?_
       refine wp_seq ?_
       refine wp_region_lit ?_
       have hE := Env.refl a81 [65, 66, 67, 68]
       refine zm 65 hE k e14 ?_
       intro a83 hE e65 kp
       refine zm 66 hE k e1 ?_
       intro a84 hE e66 kp
       replace e65 := kt kp e65
       refine sd 67 hE k (Z0e Try.underlying22 rfl e66) ?_
       intro a85 hE e67 kp
       replace e65 := kt kp e65
       refine sd 68 hE k (Z05 (Z0w rfl e65 e67) (decide_eq_true (by omega))) ?_
       intro a86 hE e68 kp
       refine wpList_nil ?_
       replace e1 := hE.g e1; replace e5 := hE.g e5; replace e6 := hE.g e6; replace e11 := hE.g e11; replace e12 := hE.g e12; replace e13 := hE.g e13; replace e14 := hE.g e14
       replace k := k.env hE
       clear hE
       refine Z00 ?_
       refine Z0b e68 rfl ?_
       refine wp_skip ?_
       refine Z00 (wp_seq ?_)
       refine wp_block ?_
       refine wp_seq ?_
       refine wp_region_lit ?_
       have hE := Env.refl a86 [71, 72, 73, 74, 75, 76, 77, 78, 79, 80, 81, 82, 83, 15]
       refine zm 71 hE k e6 ?_
       intro a87 hE e71 kp
       refine zm 72 hE k e1 ?_
       intro a88 hE e72 kp
       replace e71 := kt kp e71
       refine zm 73 hE k e14 ?_
       intro a89 hE e73 kp
       replace e71 := kt kp e71; replace e72 := kt kp e72
       apply Z02 74 hE k rfl rfl rfl rfl
       case h =>
        simp [go_sem, ↓IntWalk.iteOmega, ev e72, ev e73]
        with_reducible rfl
       intro a90 hE e74 kp
       replace e71 := kt kp e71
       apply Z02 75 hE k rfl rfl rfl rfl
       case h =>
        simp [go_sem, ↓IntWalk.iteOmega, ev e74, d0]
        with_reducible rfl
       intro a91 hE e75 kp
       replace e71 := kt kp e71
       refine sd 76 hE k (Z1i rfl e75 (Z2j x _)) ?_
       intro a92 hE e76 kp
       replace e71 := kt kp e71
       refine zm 77 hE k e6 ?_
       intro a93 hE e77 kp
       replace e71 := kt kp e71; replace e76 := kt kp e76
       refine sd 78 hE k (Z0e Try.underlying22 rfl e77) ?_
       intro a94 hE e78 kp
       replace e71 := kt kp e71; replace e76 := kt kp e76
       refine sd 79 hE k (Z1i rfl e78 (Z2j _ _)) ?_
       intro a95 hE e79 kp
       replace e71 := kt kp e71; replace e76 := kt kp e76
       replace e79 := e79.trans (Z0n (show ((uN (n : Int) : Nat) : Int) = (n : Int) by rw [uN_nat (by omega)]))
       refine sd 80 hE k (Z6i (m := uN x) (j := n) rfl e76 e79 rfl (by omega)) ?_
       intro a96 hE e80 kp
       replace e71 := kt kp e71
       refine sd 81 hE k (Z1i rfl e80 (Z4b _ _ (by rw [hz]; omega))) ?_
       intro a97 hE e81 kp
       replace e71 := kt kp e71
       replace e81 := e81.trans (Z0n (show ((uN x % n : Nat) : Int) = (z : Int) by rw [hz]))
       apply Z02 82 hE k rfl rfl rfl rfl
       case h =>
        simp [go_sem, ↓IntWalk.iteOmega, ev e71, ev e81]
        with_reducible rfl
       intro a98 hE e82 kp
       apply Z02 83 hE k rfl rfl rfl rfl
       case h =>
        simp [go_sem, ↓IntWalk.iteOmega, ev e82, d1]
        with_reducible rfl
       intro a99 hE e83 kp
       refine sd 15 hE k (Z01 rfl e83) ?_
       intro a100 hE e15 kp
       refine wpList_nil ?_
       replace e1 := hE.g e1; replace e5 := hE.g e5; replace e6 := hE.g e6; replace e11 := hE.g e11; replace e12 := hE.g e12; replace e13 := hE.g e13; replace e14 := hE.g e14
       replace k := k.env hE
       clear hE e68
       refine Z00 ?_
       clear d0 d1
       replace O : OwnT _ _ ((tRow 3 1 (.slice Bs j cs) j ((tg.map Prod.fst).flatMap encN)) :: (tBlk sb 27 #[.slice B N.length cap, .int .i64 511]) :: (tRow 40 2 (.slice B N.length cap) N.length (leafV vs N)) :: (tPool vs N) :: (tRow 3 1 (.slice (some ⟨gr, 0, none⟩) n cr) n (rts.flatMap encN)) :: (tNs (.slice (some ⟨gb, 0, none⟩) tgb.length cb) (tgb.map Prod.fst)) :: (tBlk wb 33 (bwA (snF tg))) :: []) w82 := OwnT.pickR (L := [_, _, _, _, _, _, _]) (R := []) O [4, 0, 1, 2, 3, 5, 6] (by decide)
       refine wp_seq ?_
       refine wp_region_lit ?_
       have hE := Env.refl a100 [84, 85, 86, 87, 11]
       refine sd 84 hE k (Z03 rfl e11) ?_
       intro a101 hE e84 kp
       replace e11 := kt kp e11
       refine zm 85 hE k e15 ?_
       intro a102 hE e85 kp
       replace e11 := kt kp e11; replace e84 := kt kp e84
       refine Z10 (m := 1) (c := 1) O (cs := #[.int .i64 ↑r]) (t := 3) 86 hE k rfl (by rfl) (by rfl) rfl (by simp [go_sem, ↓IntWalk.iteOmega, ev e85]) ?_
       clear O
       intro g7 a103 w104 O hE e86 kp
       replace e11 := kt kp e11; replace e84 := kt kp e84
       obtain ⟨gs, cs2, w105, hrun, O⟩ := Z26 O elemIr (by decide) rfl (by intro u hu; simp at hu; subst hu; rfl) (by unfold maxLen; omega) (by omega)
       apply Z1g 87 hE k rfl (by rfl) (by rfl) rfl
       case h => exact Z1b rfl e84 e86 (hrun _)
       clear hrun
       intro a106 hE e87 kp
       replace e11 := kt kp e11
       refine sd 11 hE k (Z01 rfl e87) ?_
       intro a107 hE e11 kp
       refine wpList_nil ?_
       replace e1 := hE.g e1; replace e5 := hE.g e5; replace e6 := hE.g e6; replace e12 := hE.g e12; replace e13 := hE.g e13; replace e14 := hE.g e14; replace e15 := hE.g e15
       replace k := k.env hE
       clear hE
       refine Z00 ?_
       rw [show (tg.map Prod.fst).flatMap encN ++ [Value.int .i64 (r : Int)] = ((tg ++ [(r, g)]).map Prod.fst).flatMap encN by rw [List.map_append, List.flatMap_append]; rfl] at O
       refine wp_seq ?_
       refine wp_region_lit ?_
       have hE := Env.refl a107 [88, 89, 90, 91, 92, 12]
       refine zm 88 hE k e15 ?_
       intro a108 hE e88 kp
       replace e12 := kt kp e12
       refine zm 89 hE k e15 ?_
       intro a109 hE e89 kp
       replace e12 := kt kp e12; replace e88 := kt kp e88
       refine Z10 (m := 2) (c := 2) O (cs := #[.int .i64 ↑r, .int .i64 ↑r]) (t := 3) 90 hE k rfl (by rfl) (by rfl) rfl (by simp [go_sem, ↓IntWalk.iteOmega, ev e88, ev e89]) ?_
       clear O
       intro g8 a110 w111 O hE e90 kp
       replace e12 := kt kp e12
       refine sd 91 hE k (Z03 rfl e12) ?_
       intro a112 hE e91 kp
       replace e12 := kt kp e12; replace e90 := kt kp e90
       have O1 := OwnT.asRowN (k := 1) (n := 2) (cs := [.int .i64 (r : Nat), .int .i64 (r : Nat)]) O rfl (by decide)
       clear O
       obtain ⟨v2, w113, hrun, O⟩ := Z32 (m := tgb.length) (c := cb) (p := ⟨gb, 0, none⟩) (news := (tgb.map Prod.fst).flatMap encN) O1 elemIr (by decide) (by rw [encN_len, List.length_map]) (ns_cells (by have h := OwnT.get O1 6 rfl; rw [show tgb.length = (tgb.map Prod.fst).length from (List.length_map _).symm] at h; exact h)) (encN_one _) (by unfold maxLen; omega) (by omega)
       clear O1
       obtain ⟨gb2, cb2, rfl⟩ := OwnT.slice0 O (by omega)
       rw [show 2 + tgb.length = ((r, g) :: (r, g) :: tgb).length by simp only [List.length_cons]; omega] at O hrun
       have O2 : OwnT W0.heap.size W0 ((tNs (.slice (some ⟨gb2, 0, none⟩) (((r, g) :: (r, g) :: tgb)).length cb2) ((((r, g) :: (r, g) :: tgb)).map Prod.fst)) :: (tRow 3 1 (.slice (some ⟨gs, 0, none⟩) (j + 1) cs2) (j + 1) (((tg ++ [(r, g)]).map Prod.fst).flatMap encN)) :: (tBlk sb 27 #[.slice B N.length cap, .int .i64 511]) :: (tRow 40 2 (.slice B N.length cap) N.length (leafV vs N)) :: (tPool vs N) :: (tRow 3 1 (.slice (some ⟨gr, 0, none⟩) n cr) n (rts.flatMap encN)) :: (tNs (.slice (some ⟨gb, 0, none⟩) tgb.length cb) (tgb.map Prod.fst)) :: (tBlk wb 33 (bwA (snF tg))) :: []) w113 := by
        show OwnT _ _ (tRow 3 1 _ (((r, g) :: (r, g) :: tgb).map Prod.fst).length _ :: _) _
        rw [List.length_map]; exact O
       clear O
       have O := O2
       clear O2
       apply Z1g 92 hE k rfl (by rfl) (by rfl) rfl
       case h => exact Z1b rfl e90 e91 (hrun _)
       clear hrun
       intro a114 hE e92 kp
       replace e12 := kt kp e12
       refine sd 12 hE k (Z01 rfl e92) ?_
       intro a115 hE e12 kp
       refine wpList_nil ?_
       replace e1 := hE.g e1; replace e5 := hE.g e5; replace e6 := hE.g e6; replace e11 := hE.g e11; replace e13 := hE.g e13; replace e14 := hE.g e14; replace e15 := hE.g e15
       replace k := k.env hE
       clear hE
       refine Z00 ?_
       obtain ⟨ks, hks⟩ : ∃ ks, keysN (snF [(r, g)]) = ks := ⟨_, rfl⟩
       have hkl2 : ks.length ≤ 1023 := by rw [← hks]; exact Z31 _
       obtain ⟨tb2, htb2⟩ : ∃ l, (r, g) :: (r, g) :: tgb = l := ⟨_, rfl⟩
       have htl2 : tb2.length = tgb.length + 2 := by rw [← htb2]; rfl
       rw [htb2] at O e12
       replace O : OwnT _ _ ((tBlk sb 27 #[.slice B N.length cap, .int .i64 511]) :: (tRow 40 2 (.slice B N.length cap) N.length (leafV vs N)) :: (tPool vs N) :: (tRow 3 1 (.slice (some ⟨gr, 0, none⟩) n cr) n (rts.flatMap encN)) :: (tRow 3 1 (.slice (some ⟨gs, 0, none⟩) (j + 1) cs2) (j + 1) (((tg ++ [(r, g)]).map Prod.fst).flatMap encN)) :: (tNs (.slice (some ⟨gb2, 0, none⟩) tb2.length cb2) (tb2.map Prod.fst)) :: (tBlk wb 33 (bwA (snF tg))) :: []) w113 := OwnT.pickR (L := [_, _, _, _, _, _, _, _]) (R := []) O [2, 3, 4, 5, 1, 0, 7] (by decide)
       refine wp_seq ?_
       refine wp_region_lit ?_
       have hE := Env.refl a115 [94, 95, 96, 97, 98, 93, 99, 100, 16, 17]
       refine zm 94 hE k e5 ?_
       intro a116 hE e94 kp
       apply Z02 95 hE k rfl rfl rfl rfl
       case h =>
        simp [go_sem, ↓IntWalk.iteOmega, ev e94]
        with_reducible rfl
       intro a117 hE e95 kp
       refine zm 96 hE k e15 ?_
       intro a118 hE e96 kp
       replace e95 := kt kp e95
       refine Z10 (m := 1) (c := 1) O (cs := #[.int .i64 ↑r]) (t := 3) 97 hE k rfl (by rfl) (by rfl) rfl (by simp [go_sem, ↓IntWalk.iteOmega, ev e96]) ?_
       clear O
       intro g9 a119 w120 O hE e97 kp
       replace e95 := kt kp e95
       apply Z08 98 hE k rfl (by rfl) (by rfl) rfl
       case h =>
        simp [go_sem, ↓IntWalk.iteOmega, ev e95, ev e97]
        with_reducible exact ⟨rfl, rfl⟩
       case hc => exact rcPages (tg := [(r, g)]) (R := [_, _, _, _]) _ (OwnT.pickR (L := [_, _, _, _, _, _, _, _]) (R := []) (OwnT.asRowN (k := 1) (n := 1) (cs := [.int .i64 (r : Nat)]) O rfl (by decide)) [1, 2, 3, 0, 4, 5, 6, 7] (by decide)) hok1 (by omega) (by simp)
       clear O
       rintro e w122 ⟨Bk, ck, rfl, O⟩
       rw [hks] at O
       refine ⟨.tuple #[.slice Bk ks.length ck, .int .i64 0], by rw [hks], ?_⟩
       intro a121 hE e98 kp
       refine sd 93 hE k (Z03 rfl e98) ?_
       intro a123 hE e93 kp
       apply Z02 99 hE k rfl rfl rfl rfl
       case h =>
        simp [go_sem, ↓IntWalk.iteOmega, ev e93]
        with_reducible rfl
       intro a124 hE e99 kp
       replace e93 := kt kp e93
       apply Z02 100 hE k rfl rfl rfl rfl
       case h =>
        simp [go_sem, ↓IntWalk.iteOmega, ev e93]
        with_reducible rfl
       intro a125 hE e100 kp
       replace e99 := kt kp e99
       refine sd 16 hE k (Z01 rfl e99) ?_
       intro a126 hE e16 kp
       replace e100 := kt kp e100
       refine sd 17 hE k (Z01 rfl e100) ?_
       intro a127 hE e17 kp
       replace e16 := kt kp e16
       refine wpList_nil ?_
       replace e1 := hE.g e1; replace e5 := hE.g e5; replace e6 := hE.g e6; replace e11 := hE.g e11; replace e12 := hE.g e12; replace e13 := hE.g e13; replace e14 := hE.g e14
       replace k := k.env hE
       clear hE e15
       refine Z00 (wp_seq ?_)
       refine wp_seq ?_
       refine wp_region_lit ?_
       have hE := Env.refl a127 [101, 102]
       refine zm 101 hE k e17 ?_
       intro a128 hE e101 kp
       refine sd 102 hE k (Z05 (Z0q rfl e101 rfl) (decide_eq_false (by omega))) ?_
       intro a129 hE e102 kp
       refine wpList_nil ?_
       replace e1 := hE.g e1; replace e5 := hE.g e5; replace e6 := hE.g e6; replace e11 := hE.g e11; replace e12 := hE.g e12; replace e13 := hE.g e13; replace e14 := hE.g e14; replace e16 := hE.g e16
       replace k := k.env hE
       clear hE e17
       refine Z00 ?_
       refine Z06 e102 rfl ?_
       refine wp_skip ?_
       refine Z00 ?_
       replace O : OwnT _ _ ((tBlk sb 27 #[.slice B N.length cap, .int .i64 511]) :: (tRow 40 2 (.slice B N.length cap) N.length (leafV vs N)) :: (tPool vs N) :: (tRow 3 1 (.slice (some ⟨gr, 0, none⟩) n cr) n (rts.flatMap encN)) :: (tRow 3 1 (.slice (some ⟨gs, 0, none⟩) (j + 1) cs2) (j + 1) (((tg ++ [(r, g)]).map Prod.fst).flatMap encN)) :: (tNs (.slice (some ⟨gb2, 0, none⟩) tb2.length cb2) (tb2.map Prod.fst)) :: (tBlk wb 33 (bwA (snF tg))) :: (tNs (.slice Bk ks.length ck) ks) :: []) w122 := OwnT.pickR (L := [_, _, _, _, _, _, _, _, _]) (R := []) O [0, 1, 2, 5, 6, 7, 8, 3] (by decide)
       refine wp_seq ?_
       refine wp_region_lit ?_
       have hE := Env.refl a129 [18]
       refine sd 18 hE k (Z01 rfl rfl) ?_
       intro a130 hE e18 kp
       refine wpList_nil ?_
       replace e1 := hE.g e1; replace e5 := hE.g e5; replace e6 := hE.g e6; replace e11 := hE.g e11; replace e12 := hE.g e12; replace e13 := hE.g e13; replace e14 := hE.g e14; replace e16 := hE.g e16
       replace k := k.env hE
       clear hE e102
       refine Z00 ?_
       refine wp_block ?_
       have hkr : ∀ q ∈ ks, q < 512 := fun q hq => by
        rw [← hks] at hq
        have := Z37 hok1 (Z22.1 hq).2
        omega
       have hu0 : unB (ks.take 0) (snF tg) = snF tg := by rw [List.take_zero, Z52]

       replace O : OwnT W0.heap.size W0 ((tBlk sb 27 #[.slice B N.length cap, .int .i64 511]) :: (tRow 40 2 (.slice B N.length cap) N.length (leafV vs N)) :: (tPool vs N) :: (tRow 3 1 (.slice (some ⟨gr, 0, none⟩) n cr) n (rts.flatMap encN)) :: (tRow 3 1 (.slice (some ⟨gs, 0, none⟩) (j + 1) cs2) (j + 1) (((tg ++ [(r, g)]).map Prod.fst).flatMap encN)) :: (tNs (.slice (some ⟨gb2, 0, none⟩) tb2.length cb2) (tb2.map Prod.fst)) :: (tBlk wb 33 (bwA (unB (ks.take 0) (snF tg)))) :: (tNs (.slice Bk ks.length ck) ks) :: []) w122 := by rw [hu0]; exact O
       clear hu0
       refine wp_loop (fun a w => Fr 182 a ∧ a.eval (.tmp 1) = .slice (some ⟨b, o, none⟩) n1 cp ∧ a.eval (.tmp 5) = .pointer (some ⟨sb, 0, none⟩) ∧ a.eval (.tmp 6) = .slice (some ⟨gr, 0, none⟩) n cr ∧ a.eval (.tmp 11) = .slice (some ⟨gs, 0, none⟩) ((j + 1)) cs2 ∧ a.eval (.tmp 12) = .slice (some ⟨gb2, 0, none⟩) tb2.length cb2 ∧ a.eval (.tmp 13) = .pointer (some ⟨wb, 0, none⟩) ∧ a.eval (.tmp 14) = .int .i64 ↑j ∧ a.eval (.tmp 16) = .slice Bk ks.length ck ∧ ∃ (q : Nat), a.eval (.tmp 18) = .int .i64 ↑q ∧ q ≤ ks.length ∧ OwnT W0.heap.size W0 ((tBlk sb 27 #[.slice B N.length cap, .int .i64 511]) :: (tRow 40 2 (.slice B N.length cap) N.length (leafV vs N)) :: (tPool vs N) :: (tRow 3 1 (.slice (some ⟨gr, 0, none⟩) n cr) n (rts.flatMap encN)) :: (tRow 3 1 (.slice (some ⟨gs, 0, none⟩) (j + 1) cs2) (j + 1) (((tg ++ [(r, g)]).map Prod.fst).flatMap encN)) :: (tNs (.slice (some ⟨gb2, 0, none⟩) tb2.length cb2) (tb2.map Prod.fst)) :: (tBlk wb 33 (bwA (unB (ks.take q) (snF tg)))) :: (tNs (.slice Bk ks.length ck) ks) :: []) w) (fun a w => ks.length - (intOf (a.eval (.tmp 18))).toNat) ?_ ?_
       · exact ⟨k, e1, e5, e6, e11, e12, e13, e14, e16, 0, e18, Nat.zero_le _, O⟩
       intro a131 w132 hI
       clear k e1 e5 e6 e11 e12 e13 e14 e16
       obtain ⟨k, e1, e5, e6, e11, e12, e13, e14, e16, h_⟩ := hI
       clear O e18
       obtain ⟨q, e18, hq, O⟩ := h_
       have mq := e18
       by_cases hltq : q < ks.length
       · have hltqI : (q : Int) < (ks.length : Int) := by omega
         obtain ⟨p, hp⟩ : ∃ p, ks[q]? = some p := ⟨_, List.getElem?_eq_getElem hltq⟩
         have hp5 := hkr p (List.mem_of_getElem? hp)
         have hp5I : (p : Int) < 512 := by omega
         obtain ⟨gk, rfl, d0⟩ := Z2r (OwnT.get O 7 rfl) hp

         have hcw : w132.cell? ⟨wb, p, none⟩ = some (.bool (unB (ks.take q) (snF tg) p)) := by rw [(OwnT.blk O 6 rfl).cell, Z3q _ hp5]
         have hzw : w132.frozen? ⟨wb, p, none⟩ = false := (OwnT.blk O 6 rfl).frozen p
         refine wp_seq ?_
         refine wp_seq ?_
         refine wp_region_lit ?_
         have hE := Env.refl a131 [103, 104, 105, 106]
         refine zm 103 hE k e18 ?_
         intro a133 hE e103 kp
         refine zm 104 hE k e16 ?_
         intro a134 hE e104 kp
         replace e103 := kt kp e103
         refine sd 105 hE k (Z0e Try.underlying22 rfl e104) ?_
         intro a135 hE e105 kp
         replace e103 := kt kp e103
         refine sd 106 hE k (Z05 (Z0w rfl e103 e105) (decide_eq_true (by omega))) ?_
         intro a136 hE e106 kp
         refine wpList_nil ?_
         replace e1 := hE.g e1; replace e5 := hE.g e5; replace e6 := hE.g e6; replace e11 := hE.g e11; replace e12 := hE.g e12; replace e13 := hE.g e13; replace e14 := hE.g e14; replace e16 := hE.g e16; replace e18 := hE.g e18
         replace k := k.env hE
         clear hE
         refine Z00 ?_
         refine Z0b e106 rfl ?_
         refine wp_skip ?_
         refine Z00 (wp_seq ?_)
         refine wp_block ?_
         refine wp_region_lit ?_
         have hE := Env.refl a136 [109, 110, 111, 112, 113]
         refine zm 109 hE k e16 ?_
         intro a137 hE e109 kp
         refine zm 110 hE k e18 ?_
         intro a138 hE e110 kp
         replace e109 := kt kp e109
         apply Z02 111 hE k rfl rfl rfl rfl
         case h =>
          simp [go_sem, ↓IntWalk.iteOmega, ev e109, ev e110]
          with_reducible rfl
         intro a139 hE e111 kp
         apply Z02 112 hE k rfl rfl rfl rfl
         case h =>
          simp [go_sem, ↓IntWalk.iteOmega, ev e111, d0]
          with_reducible rfl
         intro a140 hE e112 kp
         apply Z02 113 hE k rfl rfl rfl rfl
         case h =>
          simp [go_sem, ↓IntWalk.iteOmega, ev (hE.g e13), ev e112]
          with_reducible rfl
         intro a141 hE e113 kp
         refine Z0m (w' := (w132.setCell ⟨wb, p, none⟩ (.bool true))) hE rfl rfl ?_ ?_
         · simp [go_sem, ↓IntWalk.iteOmega, ev e113, hcw, hzw]
         replace O := OwnT.push (L := [_, _, _, _, _, _, _, _]) 6 rfl ((OwnT.pull O 6 rfl).set p (.bool true))
         clear hcw hzw d0
         rw [bwA_set _ hp5, Z5k _ hp] at O
         generalize (w132.setCell ⟨wb, p, none⟩ (.bool true)) = w142 at O ⊢
         refine wpList_nil ?_
         replace e1 := hE.g e1; replace e5 := hE.g e5; replace e6 := hE.g e6; replace e11 := hE.g e11; replace e12 := hE.g e12; replace e13 := hE.g e13; replace e14 := hE.g e14; replace e16 := hE.g e16; replace e18 := hE.g e18
         replace k := k.env hE
         clear hE e106 e113
         refine Z0p ?_
         refine Z00 ?_
         refine wp_region_lit ?_
         have hE := Env.refl a141 [107, 108, 18]
         refine sd 107 hE k (Z03 rfl e18) ?_
         intro a143 hE e107 kp
         replace e18 := kt kp e18
         refine sd 108 hE k (Z0s rfl e107 rfl (by omega)) ?_
         intro a144 hE e108 kp
         replace e18 := kt kp e18
         refine sd 18 hE k (Z01 rfl e108) ?_
         intro a145 hE e18 kp
         refine wpList_nil ?_
         replace e1 := hE.g e1; replace e5 := hE.g e5; replace e6 := hE.g e6; replace e11 := hE.g e11; replace e12 := hE.g e12; replace e13 := hE.g e13; replace e14 := hE.g e14; replace e16 := hE.g e16
         replace k := k.env hE
         clear hE
         refine Z00 ?_
         refine ⟨⟨k, e1, e5, e6, e11, e12, e13, e14, e16, q + 1, e18, by omega, O⟩, ?_⟩
         rw [e18, mq]; simp only [intOf]; omega
       · obtain rfl : q = ks.length := by omega
         clear mq
         rw [List.take_length, ← hks, Z7t hok1 (by omega)] at O
         refine wp_seq ?_
         refine wp_seq ?_
         refine wp_region_lit ?_
         have hE := Env.refl a131 [103, 104, 105, 106]
         refine zm 103 hE k e18 ?_
         intro a146 hE e103 kp
         refine zm 104 hE k e16 ?_
         intro a147 hE e104 kp
         replace e103 := kt kp e103
         refine sd 105 hE k (Z0e Try.underlying22 rfl e104) ?_
         intro a148 hE e105 kp
         replace e103 := kt kp e103
         refine sd 106 hE k (Z05 (Z0w rfl e103 e105) (decide_eq_false (by omega))) ?_
         intro a149 hE e106 kp
         refine wpList_nil ?_
         replace e1 := hE.g e1; replace e5 := hE.g e5; replace e6 := hE.g e6; replace e11 := hE.g e11; replace e12 := hE.g e12; replace e13 := hE.g e13; replace e14 := hE.g e14; replace e16 := hE.g e16; replace e18 := hE.g e18
         replace k := k.env hE
         clear hE
         refine Z00 ?_
         refine Z06 e106 rfl ?_
         refine wp_exit ?_
         refine Z0v ?_
         refine Z0v ?_
         refine Z1d ?_
         refine Z0p ?_
         refine Z00 ?_
         refine wp_region_lit ?_
         have hE := Env.refl a149 [69, 70, 14]
         refine sd 69 hE k (Z03 rfl e14) ?_
         intro a150 hE e69 kp
         replace e14 := kt kp e14
         refine sd 70 hE k (Z0s rfl e69 rfl (by omega)) ?_
         intro a151 hE e70 kp
         replace e14 := kt kp e14
         refine sd 14 hE k (Z01 rfl e70) ?_
         intro a152 hE e14 kp
         refine wpList_nil ?_
         replace e1 := hE.g e1; replace e5 := hE.g e5; replace e6 := hE.g e6; replace e11 := hE.g e11; replace e12 := hE.g e12; replace e13 := hE.g e13
         replace k := k.env hE
         clear hE e16 e18 e106
         refine Z00 ?_
         refine ⟨⟨k, e1, e5, e6, e13, j + 1, tg ++ [(r, g)], tb2, some ⟨gs, 0, none⟩, cs2, gb2, cb2, e11, e12, e14, by omega, by rw [List.length_append, htl]; rfl, by omega, (fun y hy => by rcases List.mem_append.1 hy with hy | hy; exact hok y hy; exact hok1 y hy), (fun y hy => by rw [← htb2] at hy; rcases List.mem_cons.1 hy with hy | hy; exact hok1 y (List.mem_singleton.2 hy); (rcases List.mem_cons.1 hy with hy | hy; exact hok1 y (List.mem_singleton.2 hy); exact hokb y hy)), by rw [← htb2]; exact snF_two _ _ _ hsn, OwnT.pickR (L := [_, _, _, _, _, _, _, _]) (R := []) O [0, 1, 2, 3, 4, 5, 6] (by decide)⟩, ?_⟩
         rw [e14, mj]; simp only [intOf]; omega
     · clear mj
       have htl6 : tg.length ≤ 6 := by omega
       rw [← htl] at e11
       have hsm : OwnT W0.heap.size W0 ((tBlk sb 27 #[.slice B N.length cap, .int .i64 511]) :: (tRow 40 2 (.slice B N.length cap) N.length (leafV vs N)) :: (tPool vs N) :: (tNs (.slice Bs tg.length cs) (tg.map Prod.fst)) :: (tRow 3 1 (.slice Br n cr) n (rts.flatMap encN)) :: (tNs (.slice (some ⟨gb, 0, none⟩) tgb.length cb) (tgb.map Prod.fst)) :: (tBlk wb 33 (bwA (snF tg))) :: []) w82 := by
        have h := OwnT.pickR (L := [_, _, _, _, _, _, _]) (R := []) O [0, 1, 2, 4, 3, 5, 6] (by decide)
        rw [← htl] at h
        have e : tg.length = (tg.map Prod.fst).length := by rw [List.length_map]
        show OwnT _ _ (_ :: _ :: _ :: tRow 3 1 _ (tg.map Prod.fst).length _ :: _) _
        rw [List.length_map]; exact h
       clear O
       have O := hsm
       clear hsm
       obtain ⟨ks, hks⟩ : ∃ ks, keysN (snF tg) = ks := ⟨_, rfl⟩
       have hup : ks.Pairwise fun a b => a < b := by rw [← hks]; exact Z2u _
       have hkl : ks.length ≤ 1023 := by rw [← hks]; exact Z31 _
       have hmk : ∀ q, q ∈ ks ↔ snF tg q = true := fun q => by rw [← hks, Z22]; exact ⟨fun h => h.2, fun h => ⟨by have := Z37 hok h; omega, h⟩⟩
       have hk5 : ∀ q ∈ ks, q < 512 := fun q hq => by have := Z37 hok ((hmk q).1 hq); omega
       refine wp_seq ?_
       refine wp_seq ?_
       refine wp_region_lit ?_
       have hE := Env.refl a81 [65, 66, 67, 68]
       refine zm 65 hE k e14 ?_
       intro a153 hE e65 kp
       refine zm 66 hE k e1 ?_
       intro a154 hE e66 kp
       replace e65 := kt kp e65
       refine sd 67 hE k (Z0e Try.underlying22 rfl e66) ?_
       intro a155 hE e67 kp
       replace e65 := kt kp e65
       refine sd 68 hE k (Z05 (Z0w rfl e65 e67) (decide_eq_false (by omega))) ?_
       intro a156 hE e68 kp
       refine wpList_nil ?_
       replace e1 := hE.g e1; replace e5 := hE.g e5; replace e6 := hE.g e6; replace e11 := hE.g e11; replace e12 := hE.g e12; replace e13 := hE.g e13; replace e14 := hE.g e14
       replace k := k.env hE
       clear hE
       refine Z00 ?_
       refine Z06 e68 rfl ?_
       refine wp_exit ?_
       refine Z0v ?_
       refine Z0v ?_
       refine Z1d ?_
       refine Z00 (wp_seq ?_)
       refine wp_region_lit ?_
       have hE := Env.refl a156 [115, 116, 117, 118, 114, 119, 120, 19, 20]
       refine zm 115 hE k e5 ?_
       intro a157 hE e115 kp
       apply Z02 116 hE k rfl rfl rfl rfl
       case h =>
        simp [go_sem, ↓IntWalk.iteOmega, ev e115]
        with_reducible rfl
       intro a158 hE e116 kp
       refine zm 117 hE k e11 ?_
       intro a159 hE e117 kp
       replace e116 := kt kp e116
       apply Z08 118 hE k rfl (by rfl) (by rfl) rfl
       case h =>
        simp [go_sem, ↓IntWalk.iteOmega, ev e116, ev e117]
        with_reducible exact ⟨rfl, rfl⟩
       case hc => exact rcPages (tg := tg) (R := [_, _, _]) _ O hok (by omega) (by omega)
       clear O
       rintro e w161 ⟨Ba, ca, rfl, O⟩
       rw [hks] at O
       refine ⟨.tuple #[.slice Ba ks.length ca, .int .i64 0], by rw [hks], ?_⟩
       intro a160 hE e118 kp
       refine sd 114 hE k (Z03 rfl e118) ?_
       intro a162 hE e114 kp
       apply Z02 119 hE k rfl rfl rfl rfl
       case h =>
        simp [go_sem, ↓IntWalk.iteOmega, ev e114]
        with_reducible rfl
       intro a163 hE e119 kp
       replace e114 := kt kp e114
       apply Z02 120 hE k rfl rfl rfl rfl
       case h =>
        simp [go_sem, ↓IntWalk.iteOmega, ev e114]
        with_reducible rfl
       intro a164 hE e120 kp
       replace e119 := kt kp e119
       refine sd 19 hE k (Z01 rfl e119) ?_
       intro a165 hE e19 kp
       replace e120 := kt kp e120
       refine sd 20 hE k (Z01 rfl e120) ?_
       intro a166 hE e20 kp
       replace e19 := kt kp e19
       refine wpList_nil ?_
       replace e5 := hE.g e5; replace e12 := hE.g e12; replace e13 := hE.g e13
       replace k := k.env hE
       clear hE e1 e6 e11 e14 e68
       refine Z00 ?_
       replace O : OwnT _ _ ((tBlk sb 27 #[.slice B N.length cap, .int .i64 511]) :: (tRow 40 2 (.slice B N.length cap) N.length (leafV vs N)) :: (tPool vs N) :: (tNs (.slice (some ⟨gb, 0, none⟩) tgb.length cb) (tgb.map Prod.fst)) :: (tNs (.slice Ba ks.length ca) ks) :: (tBlk wb 33 (bwA (snF tg))) :: []) w161 := OwnT.pickR (L := [_, _, _, _, _, _, _, _]) (R := []) O [0, 1, 2, 6, 3, 7] (by decide)
       refine wp_seq ?_
       refine wp_region_lit ?_
       have hE := Env.refl a166 [122, 123, 124, 125, 121, 126, 127, 21, 22]
       refine zm 122 hE k e5 ?_
       intro a167 hE e122 kp
       apply Z02 123 hE k rfl rfl rfl rfl
       case h =>
        simp [go_sem, ↓IntWalk.iteOmega, ev e122]
        with_reducible rfl
       intro a168 hE e123 kp
       refine zm 124 hE k e12 ?_
       intro a169 hE e124 kp
       replace e123 := kt kp e123
       apply Z08 125 hE k rfl (by rfl) (by rfl) rfl
       case h =>
        simp [go_sem, ↓IntWalk.iteOmega, ev e123, ev e124]
        with_reducible exact ⟨rfl, rfl⟩
       case hc => exact rcPages (tg := tgb) (R := [_, _]) _ O hokb (by omega) (by omega)
       clear O
       rintro e w171 ⟨Bb, cbb, rfl, O⟩
       rw [hsn, hks] at O
       refine ⟨.tuple #[.slice Bb ks.length cbb, .int .i64 0], by rw [hsn, hks], ?_⟩
       intro a170 hE e125 kp
       refine sd 121 hE k (Z03 rfl e125) ?_
       intro a172 hE e121 kp
       apply Z02 126 hE k rfl rfl rfl rfl
       case h =>
        simp [go_sem, ↓IntWalk.iteOmega, ev e121]
        with_reducible rfl
       intro a173 hE e126 kp
       replace e121 := kt kp e121
       apply Z02 127 hE k rfl rfl rfl rfl
       case h =>
        simp [go_sem, ↓IntWalk.iteOmega, ev e121]
        with_reducible rfl
       intro a174 hE e127 kp
       replace e126 := kt kp e126
       refine sd 21 hE k (Z01 rfl e126) ?_
       intro a175 hE e21 kp
       replace e127 := kt kp e127
       refine sd 22 hE k (Z01 rfl e127) ?_
       intro a176 hE e22 kp
       replace e21 := kt kp e21
       refine wpList_nil ?_
       replace e13 := hE.g e13; replace e19 := hE.g e19; replace e20 := hE.g e20
       replace k := k.env hE
       clear hE e5 e12
       refine Z00 ?_
       replace O : OwnT _ _ ((tBlk sb 27 #[.slice B N.length cap, .int .i64 511]) :: (tRow 40 2 (.slice B N.length cap) N.length (leafV vs N)) :: (tPool vs N) :: (tNs (.slice Bb ks.length cbb) ks) :: (tNs (.slice Ba ks.length ca) ks) :: (tBlk wb 33 (bwA (snF tg))) :: []) w171 := OwnT.pickR (L := [_, _, _, _, _, _, _]) (R := []) O [0, 1, 2, 3, 5, 6] (by decide)
       refine wp_seq ?_
       refine wp_region_lit ?_
       have hE := Env.refl a176 [23]
       refine sd 23 hE k (Z01 rfl rfl) ?_
       intro a177 hE e23 kp
       refine wpList_nil ?_
       replace e13 := hE.g e13; replace e19 := hE.g e19; replace e20 := hE.g e20; replace e21 := hE.g e21; replace e22 := hE.g e22
       replace k := k.env hE
       clear hE
       refine Z00 (wp_seq ?_)
       refine wp_seq ?_
       refine wp_region_lit ?_
       have hE := Env.refl a177 [24]
       refine sd 24 hE k (Z01 rfl rfl) ?_
       intro a178 hE e24 kp
       refine wpList_nil ?_
       replace e13 := hE.g e13; replace e19 := hE.g e19; replace e20 := hE.g e20; replace e21 := hE.g e21; replace e22 := hE.g e22; replace e23 := hE.g e23
       replace k := k.env hE
       clear hE
       refine Z00 ?_
       refine wp_block ?_
       refine wp_loop (fun a w => Fr 182 a ∧ a.eval (.tmp 13) = .pointer (some ⟨wb, 0, none⟩) ∧ a.eval (.tmp 19) = .slice Ba ks.length ca ∧ a.eval (.tmp 20) = .int .i64 0 ∧ a.eval (.tmp 21) = .slice Bb ks.length cbb ∧ a.eval (.tmp 22) = .int .i64 0 ∧ ∃ (p q : Nat), a.eval (.tmp 23) = .int .i64 ↑q ∧ a.eval (.tmp 24) = .int .i64 ↑p ∧ p ≤ 512 ∧ SeenN ks p q ∧ OwnT W0.heap.size W0 ((tBlk sb 27 #[.slice B N.length cap, .int .i64 511]) :: (tRow 40 2 (.slice B N.length cap) N.length (leafV vs N)) :: (tPool vs N) :: (tNs (.slice Bb ks.length cbb) ks) :: (tNs (.slice Ba ks.length ca) ks) :: (tBlk wb 33 (bwA (snF tg))) :: []) w) (fun a w => 512 - (intOf (a.eval (.tmp 24))).toNat) ?_ ?_
       · exact ⟨k, e13, e19, e20, e21, e22, 0, 0, e23, e24, by omega, SeenN.start, O⟩
       intro a179 w180 hI
       clear k e13 e19 e20 e21 e22
       obtain ⟨k, e13, e19, e20, e21, e22, h_⟩ := hI
       clear O e23 e24
       obtain ⟨p, q, e23, e24, hp, hS, O⟩ := h_
       have mp := e24
       by_cases hltp : p < 512
       · have hltpI : (p : Int) < 512 := by omega
         have hcw : w180.cell? ⟨wb, p, none⟩ = some (.bool (snF tg p)) := by rw [(OwnT.blk O 5 rfl).cell, Z3q _ hltp]
         obtain ⟨bp, hbp⟩ : ∃ b, snF tg p = b := ⟨_, rfl⟩
         rw [hbp] at hcw
         cases bp with
         | false =>
          refine wp_seq ?_
          refine wp_seq ?_
          refine wp_region_lit ?_
          have hE := Env.refl a179 [128, 129]
          refine zm 128 hE k e24 ?_
          intro a181 hE e128 kp
          refine sd 129 hE k (Z05 (Z0w rfl e128 rfl) (decide_eq_true (by omega))) ?_
          intro a182 hE e129 kp
          refine wpList_nil ?_
          replace e13 := hE.g e13; replace e19 := hE.g e19; replace e20 := hE.g e20; replace e21 := hE.g e21; replace e22 := hE.g e22; replace e23 := hE.g e23; replace e24 := hE.g e24
          replace k := k.env hE
          clear hE
          refine Z00 ?_
          refine Z0b e129 rfl ?_
          refine wp_skip ?_
          refine Z00 (wp_seq ?_)
          refine wp_block ?_
          refine wp_seq ?_
          refine wp_seq ?_
          refine wp_region_lit ?_
          have hE := Env.refl a182 [132, 133, 134, 135]
          refine zm 132 hE k e24 ?_
          intro a183 hE e132 kp
          apply Z02 133 hE k rfl rfl rfl rfl
          case h =>
           simp [go_sem, ↓IntWalk.iteOmega, ev (hE.g e13), ev e132]
           with_reducible rfl
          intro a184 hE e133 kp
          apply Z02 134 hE k rfl rfl rfl rfl
          case h =>
           simp [go_sem, ↓IntWalk.iteOmega, ev e133, hcw]
           with_reducible rfl
          intro a185 hE e134 kp
          refine sd 135 hE k (Z1o rfl e134) ?_
          intro a186 hE e135 kp
          refine wpList_nil ?_
          replace e13 := hE.g e13; replace e19 := hE.g e19; replace e20 := hE.g e20; replace e21 := hE.g e21; replace e22 := hE.g e22; replace e23 := hE.g e23; replace e24 := hE.g e24
          replace k := k.env hE
          clear hE e129
          refine Z00 ?_
          refine Z0b e135 rfl ?_
          refine wp_exit ?_
          refine Z0v ?_
          refine Z1d ?_
          refine Z00 ?_
          refine wp_region_lit ?_
          have hE := Env.refl a186 [130, 131, 24]
          refine sd 130 hE k (Z03 rfl e24) ?_
          intro a187 hE e130 kp
          replace e24 := kt kp e24
          refine sd 131 hE k (Z0s rfl e130 rfl (by omega)) ?_
          intro a188 hE e131 kp
          replace e24 := kt kp e24
          refine sd 24 hE k (Z01 rfl e131) ?_
          intro a189 hE e24 kp
          refine wpList_nil ?_
          replace e13 := hE.g e13; replace e19 := hE.g e19; replace e20 := hE.g e20; replace e21 := hE.g e21; replace e22 := hE.g e22; replace e23 := hE.g e23
          replace k := k.env hE
          clear hE e135
          refine Z00 ?_
          refine ⟨⟨k, e13, e19, e20, e21, e22, p + 1, q, e23, e24, by omega, hS.skip (fun h => by have := (hmk p).1 h; rw [hbp] at this; cases this), O⟩, ?_⟩
          rw [e24, mp]; simp only [intOf]; omega
         | true =>
          obtain ⟨hkq, hS2⟩ := hS.next hup ((hmk p).2 hbp)
          have hql := (List.getElem?_eq_some_iff.1 hkq).1
          have hqlI : (q : Int) < (ks.length : Int) := by omega
          obtain ⟨ga, rfl, d0⟩ := Z2r (OwnT.get O 4 rfl) hkq
          obtain ⟨gb3, rfl, d1⟩ := Z2r (OwnT.get O 3 rfl) hkq

          refine wp_seq ?_
          refine wp_seq ?_
          refine wp_region_lit ?_
          have hE := Env.refl a179 [128, 129]
          refine zm 128 hE k e24 ?_
          intro a190 hE e128 kp
          refine sd 129 hE k (Z05 (Z0w rfl e128 rfl) (decide_eq_true (by omega))) ?_
          intro a191 hE e129 kp
          refine wpList_nil ?_
          replace e13 := hE.g e13; replace e19 := hE.g e19; replace e20 := hE.g e20; replace e21 := hE.g e21; replace e22 := hE.g e22; replace e23 := hE.g e23; replace e24 := hE.g e24
          replace k := k.env hE
          clear hE
          refine Z00 ?_
          refine Z0b e129 rfl ?_
          refine wp_skip ?_
          refine Z00 (wp_seq ?_)
          refine wp_block ?_
          refine wp_seq ?_
          refine wp_seq ?_
          refine wp_region_lit ?_
          have hE := Env.refl a191 [132, 133, 134, 135]
          refine zm 132 hE k e24 ?_
          intro a192 hE e132 kp
          apply Z02 133 hE k rfl rfl rfl rfl
          case h =>
           simp [go_sem, ↓IntWalk.iteOmega, ev (hE.g e13), ev e132]
           with_reducible rfl
          intro a193 hE e133 kp
          apply Z02 134 hE k rfl rfl rfl rfl
          case h =>
           simp [go_sem, ↓IntWalk.iteOmega, ev e133, hcw]
           with_reducible rfl
          intro a194 hE e134 kp
          refine sd 135 hE k (Z1o rfl e134) ?_
          intro a195 hE e135 kp
          refine wpList_nil ?_
          replace e13 := hE.g e13; replace e19 := hE.g e19; replace e20 := hE.g e20; replace e21 := hE.g e21; replace e22 := hE.g e22; replace e23 := hE.g e23; replace e24 := hE.g e24
          replace k := k.env hE
          clear hE e129
          refine Z00 ?_
          refine Z06 e135 rfl ?_
          refine wp_skip ?_
          refine Z00 (wp_seq ?_)
          refine wp_seq ?_
          refine wp_region_lit ?_
          have hE := Env.refl a195 [136, 137, 138, 139, 140, 141, 142, 143, 144, 145, 146, 147, 148, 149, 150, 151, 152, 153, 154, 155, 156, 157, 158, 159, 160, 161]
          refine zm 136 hE k e23 ?_
          intro a196 hE e136 kp
          refine zm 137 hE k e19 ?_
          intro a197 hE e137 kp
          replace e136 := kt kp e136
          refine sd 138 hE k (Z0e Try.underlying22 rfl e137) ?_
          intro a198 hE e138 kp
          replace e136 := kt kp e136
          refine sd 139 hE k (Z05 (Z4e rfl e136 e138) (decide_eq_false (by omega))) ?_
          intro a199 hE e139 kp
          refine sd 140 hE k (Z03 rfl e139) ?_
          intro a200 hE e140 kp
          apply Z04 141 hE k rfl rfl rfl rfl rfl e140
          case h =>
           exact Z03 rfl (hE.g e23)
          intro a201 hE e141 kp
          replace e140 := kt kp e140
          apply Z04 142 hE k rfl rfl rfl rfl rfl e140
          case h =>
           exact Z03 rfl (hE.g e21)
          intro a202 hE e142 kp
          replace e140 := kt kp e140; replace e141 := kt kp e141
          apply Z04 143 hE k rfl rfl rfl rfl rfl e140
          case h =>
           exact Z0e Try.underlying22 rfl e142
          intro a203 hE e143 kp
          replace e140 := kt kp e140; replace e141 := kt kp e141
          apply Z04 144 hE k rfl rfl rfl rfl rfl e140
          case h =>
           exact Z05 (Z4e rfl e141 e143) (decide_eq_false (by omega))
          intro a204 hE e144 kp
          replace e140 := kt kp e140
          refine sd 145 hE k (Z07 rfl e140 e144) ?_
          intro a205 hE e145 kp
          refine sd 146 hE k (Z03 rfl e145) ?_
          intro a206 hE e146 kp
          apply Z04 147 hE k rfl rfl rfl rfl rfl e146
          case h =>
           exact Z03 rfl (hE.g e19)
          intro a207 hE e147 kp
          replace e146 := kt kp e146
          apply Z04 148 hE k rfl rfl rfl rfl rfl e146
          case h =>
           exact Z03 rfl (hE.g e23)
          intro a208 hE e148 kp
          replace e146 := kt kp e146; replace e147 := kt kp e147
          apply Z04 149 hE k rfl rfl rfl rfl rfl e146
          case h =>
           simp [go_sem, ↓IntWalk.iteOmega, ev e147, ev e148]
           with_reducible rfl
          intro a209 hE e149 kp
          replace e146 := kt kp e146
          apply Z04 150 hE k rfl rfl rfl rfl rfl e146
          case h =>
           simp [go_sem, ↓IntWalk.iteOmega, ev e149, d0]
           with_reducible rfl
          intro a210 hE e150 kp
          replace e146 := kt kp e146
          apply Z04 151 hE k rfl rfl rfl rfl rfl e146
          case h =>
           exact Z03 rfl (hE.g e24)
          intro a211 hE e151 kp
          replace e146 := kt kp e146; replace e150 := kt kp e150
          apply Z04 152 hE k rfl rfl rfl rfl rfl e146
          case h =>
           exact Z05 (Z0q rfl e150 e151) (decide_eq_false (by omega))
          intro a212 hE e152 kp
          replace e146 := kt kp e146
          refine sd 153 hE k (Z07 rfl e146 e152) ?_
          intro a213 hE e153 kp
          refine sd 154 hE k (Z03 rfl e153) ?_
          intro a214 hE e154 kp
          apply Z04 155 hE k rfl rfl rfl rfl rfl e154
          case h =>
           exact Z03 rfl (hE.g e21)
          intro a215 hE e155 kp
          replace e154 := kt kp e154
          apply Z04 156 hE k rfl rfl rfl rfl rfl e154
          case h =>
           exact Z03 rfl (hE.g e23)
          intro a216 hE e156 kp
          replace e154 := kt kp e154; replace e155 := kt kp e155
          apply Z04 157 hE k rfl rfl rfl rfl rfl e154
          case h =>
           simp [go_sem, ↓IntWalk.iteOmega, ev e155, ev e156]
           with_reducible rfl
          intro a217 hE e157 kp
          replace e154 := kt kp e154
          apply Z04 158 hE k rfl rfl rfl rfl rfl e154
          case h =>
           simp [go_sem, ↓IntWalk.iteOmega, ev e157, d1]
           with_reducible rfl
          intro a218 hE e158 kp
          replace e154 := kt kp e154
          apply Z04 159 hE k rfl rfl rfl rfl rfl e154
          case h =>
           exact Z03 rfl (hE.g e24)
          intro a219 hE e159 kp
          replace e154 := kt kp e154; replace e158 := kt kp e158
          apply Z04 160 hE k rfl rfl rfl rfl rfl e154
          case h =>
           exact Z05 (Z0q rfl e158 e159) (decide_eq_false (by omega))
          intro a220 hE e160 kp
          replace e154 := kt kp e154
          refine sd 161 hE k (Z07 rfl e154 e160) ?_
          intro a221 hE e161 kp
          refine wpList_nil ?_
          replace e13 := hE.g e13; replace e19 := hE.g e19; replace e20 := hE.g e20; replace e21 := hE.g e21; replace e22 := hE.g e22; replace e23 := hE.g e23; replace e24 := hE.g e24
          replace k := k.env hE
          clear hE e135
          refine Z00 ?_
          refine Z06 e161 rfl ?_
          refine wp_skip ?_
          refine Z00 ?_
          refine wp_region_lit ?_
          have hE := Env.refl a221 [162, 163, 23]
          refine sd 162 hE k (Z03 rfl e23) ?_
          intro a222 hE e162 kp
          replace e23 := kt kp e23
          refine sd 163 hE k (Z0s rfl e162 rfl (by omega)) ?_
          intro a223 hE e163 kp
          replace e23 := kt kp e23
          refine sd 23 hE k (Z01 rfl e163) ?_
          intro a224 hE e23 kp
          refine wpList_nil ?_
          replace e13 := hE.g e13; replace e19 := hE.g e19; replace e20 := hE.g e20; replace e21 := hE.g e21; replace e22 := hE.g e22; replace e24 := hE.g e24
          replace k := k.env hE
          clear hE e161
          refine Z0p ?_
          refine Z00 ?_
          refine wp_region_lit ?_
          have hE := Env.refl a224 [130, 131, 24]
          refine sd 130 hE k (Z03 rfl e24) ?_
          intro a225 hE e130 kp
          replace e24 := kt kp e24
          refine sd 131 hE k (Z0s rfl e130 rfl (by omega)) ?_
          intro a226 hE e131 kp
          replace e24 := kt kp e24
          refine sd 24 hE k (Z01 rfl e131) ?_
          intro a227 hE e24 kp
          refine wpList_nil ?_
          replace e13 := hE.g e13; replace e19 := hE.g e19; replace e20 := hE.g e20; replace e21 := hE.g e21; replace e22 := hE.g e22; replace e23 := hE.g e23
          replace k := k.env hE
          clear hE
          refine Z00 ?_
          refine ⟨⟨k, e13, e19, e20, e21, e22, p + 1, q + 1, e23, e24, by omega, hS2, O⟩, ?_⟩
          rw [e24, mp]; simp only [intOf]; omega
       · obtain rfl : p = 512 := by omega
         clear mp
         have hdone := hS.done hk5
         refine wp_seq ?_
         refine wp_seq ?_
         refine wp_region_lit ?_
         have hE := Env.refl a179 [128, 129]
         refine zm 128 hE k e24 ?_
         intro a228 hE e128 kp
         refine sd 129 hE k (Z05 (Z0w rfl e128 rfl) (decide_eq_false (by omega))) ?_
         intro a229 hE e129 kp
         refine wpList_nil ?_
         replace e13 := hE.g e13; replace e19 := hE.g e19; replace e20 := hE.g e20; replace e21 := hE.g e21; replace e22 := hE.g e22; replace e23 := hE.g e23; replace e24 := hE.g e24
         replace k := k.env hE
         clear hE
         refine Z00 ?_
         refine Z06 e129 rfl ?_
         refine wp_exit ?_
         refine Z0v ?_
         refine Z0v ?_
         refine Z1d ?_
         refine Z00 (wp_seq ?_)
         refine wp_region_lit ?_
         have hE := Env.refl a229 [164, 165, 166, 167, 168, 169, 170, 171, 172, 173, 174, 175, 176, 177, 178, 179, 180, 181, 4]
         refine zm 164 hE k e20 ?_
         intro a230 hE e164 kp
         refine sd 165 hE k (Z0x rfl e164 rfl) ?_
         intro a231 hE e165 kp
         refine sd 166 hE k (Z03 rfl e165) ?_
         intro a232 hE e166 kp
         apply Z04 167 hE k rfl rfl rfl rfl rfl e166
         case h =>
          exact Z03 rfl (hE.g e22)
         intro a233 hE e167 kp
         replace e166 := kt kp e166
         apply Z04 168 hE k rfl rfl rfl rfl rfl e166
         case h =>
          exact Z0x rfl e167 rfl
         intro a234 hE e168 kp
         replace e166 := kt kp e166
         refine sd 169 hE k (Z0o rfl e166 e168) ?_
         intro a235 hE e169 kp
         refine sd 170 hE k (Z03 rfl e169) ?_
         intro a236 hE e170 kp
         apply Z04 171 hE k rfl rfl rfl rfl rfl e170
         case h =>
          exact Z03 rfl (hE.g e23)
         intro a237 hE e171 kp
         replace e170 := kt kp e170
         apply Z04 172 hE k rfl rfl rfl rfl rfl e170
         case h =>
          exact Z03 rfl (hE.g e19)
         intro a238 hE e172 kp
         replace e170 := kt kp e170; replace e171 := kt kp e171
         apply Z04 173 hE k rfl rfl rfl rfl rfl e170
         case h =>
          exact Z0e Try.underlying22 rfl e172
         intro a239 hE e173 kp
         replace e170 := kt kp e170; replace e171 := kt kp e171
         apply Z04 174 hE k rfl rfl rfl rfl rfl e170
         case h =>
          exact Z05 (Z0x rfl e171 e173) (decide_eq_true (by omega))
         intro a240 hE e174 kp
         replace e170 := kt kp e170
         refine sd 175 hE k (Z0o rfl e170 e174) ?_
         intro a241 hE e175 kp
         refine sd 176 hE k (Z03 rfl e175) ?_
         intro a242 hE e176 kp
         apply Z04 177 hE k rfl rfl rfl rfl rfl e176
         case h =>
          exact Z03 rfl (hE.g e23)
         intro a243 hE e177 kp
         replace e176 := kt kp e176
         apply Z04 178 hE k rfl rfl rfl rfl rfl e176
         case h =>
          exact Z03 rfl (hE.g e21)
         intro a244 hE e178 kp
         replace e176 := kt kp e176; replace e177 := kt kp e177
         apply Z04 179 hE k rfl rfl rfl rfl rfl e176
         case h =>
          exact Z0e Try.underlying22 rfl e178
         intro a245 hE e179 kp
         replace e176 := kt kp e176; replace e177 := kt kp e177
         apply Z04 180 hE k rfl rfl rfl rfl rfl e176
         case h =>
          exact Z05 (Z0x rfl e177 e179) (decide_eq_true (by omega))
         intro a246 hE e180 kp
         replace e176 := kt kp e176
         refine sd 181 hE k (Z0o rfl e176 e180) ?_
         intro a247 hE e181 kp
         refine sd 4 hE k (Z01 rfl e181) ?_
         intro a248 hE e4 kp
         refine wpList_nil ?_
         replace k := k.env hE
         clear hE e13 e19 e20 e21 e22 e23 e24 e129
         refine Z00 ?_
         refine wp_ret ?_
         refine Z0t rfl k e4 ?_
         exact ⟨rfl, O.below⟩
theorem reachUnion_walk (w : World) (v0 v1 : Value) (h0 : Arg Try.prog w 3 v0) (h1 : Arg Try.prog w 22 v1) :
 Calls Try.prog 3 #[v0, v1] w fun e w' => e = .returned (.bool true) ∧ Below w.heap.size w w' := by
 have hc : Try.prog.cellsOf 3 = 1 := by kernel_rfl
 obtain ⟨nn, rfl, _⟩ := arg_int Try.underlying3 h0
 obtain ⟨A1, n1, c1, xs1, rfl, a1, a2, a3, -, a4⟩ := arg_ints Try.underlying22 Try.underlying3 hc h1
 exact Z4l nn xs1 w a3 a4
section
open Go.ChangeShapes Go.WideShapes Go.ChangeAt
theorem Arg.mk_ {P : Program} {w : World} {t : TypeId} {v : Value} {H : Type} {enc : TypeId × Value → H} {d : DataW H} {p : List MemPlace} {r : Reach} {base : Nat} (h : DataW.Trod enc P w 0 (fun _ => true) true t v d p) (hv : Value.okWide P w r base t v) : Arg P w t v := by
  obtain ⟨fuel, hf⟩ := h
  exact ⟨⟨H, enc, fuel, _, hf⟩, r, base, hv⟩
end
end Go.Proofs.Ytdeocidlkpbhcaa
