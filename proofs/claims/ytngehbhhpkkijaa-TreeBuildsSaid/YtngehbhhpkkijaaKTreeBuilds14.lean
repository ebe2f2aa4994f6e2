/- slices.Chunk at rows of pairs (printed by XRdB.gen.py). -/
import Derived.Test.YtngehbhhpkkijaaKTreeBuilds04
import Derived.Test.YtngehbhhpkkijaaKTreeBuilds13
import Derived.Test.YtngehbhhpkkijaaKTreeBuilds07
namespace Go.Proofs.Ytngehbhhpkkijaa
attribute [local simp] BigFrame.eval_const BigFrame.eval_global BigFrame.eval_func
set_option linter.unusedVariables false
set_option linter.unusedSimpArgs false
open Go.RowKit Go.Maps

section
variable {w : World} {o : Oper} {ρ : Operand → Value} {x lo hi mx y : Operand} {n cap a b c g off l : Nat}
theorem Z73 (ho : o.op = .slice 29 x (some lo) none none) (hx : ρ x = .slice (some ⟨g, off, none⟩) n cap) (hl : ρ lo = .int .i64 (a : Nat)) (ha : a < n) (hn : n ≤ cap) : (execOp ρ o).run Try.prog w = .ok (.value (.slice (some ⟨g, off + a * 2, none⟩) (n - a) (cap - a))) w := by
 have h := Z29 (w := w) ho hx hl (Nat.le_of_lt ha) hn
 have e : (⟨g, off, none⟩ : Addr).add (a * 2) = ⟨g, off + a * 2, none⟩ := by unfold Addr.add; split <;> simp_all
 rw [if_neg (by omega), Option.map_some, e] at h
 exact h
theorem Z85 (ho : o.op = .slice 29 x (some lo) (some hi) (some mx)) (hx : ρ x = .slice (some ⟨g, off, none⟩) n cap) (hl : ρ lo = .int .i64 (a : Nat)) (hh : ρ hi = .int .i64 (b : Nat)) (hm : ρ mx = .int .i64 (b : Nat)) (ha : a < b) (hb : b ≤ cap) : (execOp ρ o).run Try.prog w = .ok (.value (.slice (some ⟨g, off + a * 2, none⟩) (b - a) (b - a))) w := by
 have h1 : (0 ≤ ((b : Nat) : Int) ∧ ((b : Nat) : Int) ≤ (cap : Int)) := by omega
 have h2 : (0 ≤ ((a : Nat) : Int) ∧ ((a : Nat) : Int) ≤ ((b : Nat) : Int)) := by omega
 have h3 : (0 ≤ ((b : Nat) : Int) ∧ ((b : Nat) : Int) ≤ ((b : Nat) : Int)) := by omega
 have hs' := Z3a w
 have e : (⟨g, off, none⟩ : Addr).add (a * 2) = ⟨g, off + a * 2, none⟩ := by unfold Addr.add; split <;> simp_all
 unfold execOp
 simp only [ho, Option.map_some, Option.map_none, hx, hl, hh, hm]
 simp only [Instr.sliceAt, Instr.slice, Instr.sliceBounds, Instr.sliceBound, run_underlying Try.underlying29, asIntOf, Sem.run_bind, Sem.run_pure, Result.andThen_ok, Int.toNat_natCast, if_pos h1, if_pos h2, if_pos h3, hs', Option.isSome_some, if_true, if_neg (show ¬ b = a by omega), Option.map_some, e]
theorem x_yield {u : Value} {r : Next} {w' : World} {t : TypeId} (ho : o.op = .call { callee := .value x, args := #[y], argTypes := #[t] }) (hx : ρ x = .func (.yield l) #[] #[]) (hy : ρ y = u) (h : (Instr.yield l #[u]).run Try.prog w = .ok r w') : (execOp ρ o).run Try.prog w = .ok r w' := by
 unfold execOp
 simp only [ho, resolve, hx, Sem.run_bind, Sem.run_pure, Result.andThen_ok, List.map_toArray, List.map_cons, List.map_nil, hy]
 simpa [invoke, go_sem] using h
end

set_option maxRecDepth 100000 in
set_option maxHeartbeats 4000000 in
theorem chunk1 {l g off n cap bs bn : Nat} (J : Nat → World → Prop) (Jx : World → Prop)
 (hJb : ∀ k w, J k w → w.cell? ⟨bs, 0, none⟩ = some (.slice (some ⟨g, off, none⟩) n cap) ∧ w.cell? ⟨bn, 0, none⟩ = some (.int .i64 15))
 (hJe : ∀ k w w', J k w → Ext w w' → J k w') (hn : n ≤ 1000000) (hcap : n ≤ cap)
 (hY : ∀ k w, J k w → k * 15 < n → ∃ fn tmps assign body, (Instr.yield l #[.slice (some ⟨g, off + k * 15 * 2, none⟩) (min 15 (n - k * 15)) (min 15 (n - k * 15))]).run Try.prog w = .ok (.round l fn tmps assign body) w ∧ RoundIn (FR none) 0 Try.prog l fn tmps assign body w fun e w' => (e = .returned (.bool true) ∧ J (k + 1) w') ∨ (e = .returned (.bool false) ∧ Jx w'))
 (W0 : World) (h0 : J 0 W0) : Calls Try.prog 99 #[.func (.yield l) #[] #[], .pointer (some ⟨bs, 0, none⟩), .pointer (some ⟨bn, 0, none⟩)] W0 fun e w' => (∃ v, e = .returned v) ∧ (J ((n + 14) / 15) w' ∨ Jx w') := by
 have hL : ¬ LetsOut (bodyPost Try.prog Try.f99 fun e w' => (∃ v, e = .returned v) ∧ (J ((n + 14) / 15) w' ∨ Jx w')) := fun ⟨_, _, h⟩ => by obtain ⟨⟨v, h⟩, _⟩ := h; cases h
 refine Z0c Try.func99 rfl 31 rfl (by rfl) ?_
 intro a1 k hargs
 have e0 : a1.eval (.tmp 0) = .func (.yield l) #[] #[] := hargs 0 _ rfl
 have e1 : a1.eval (.tmp 1) = .pointer (some ⟨bs, 0, none⟩) := hargs 1 _ rfl
 have e2 : a1.eval (.tmp 2) = .pointer (some ⟨bn, 0, none⟩) := hargs 2 _ rfl
 clear hargs
 have hJ := h0
 refine wp_seq ?_
 refine wp_region_lit ?_
 have hE := Env.refl a1 [4]
 refine sd 4 hE k (Z01 rfl rfl) ?_
 intro a2 hE e4 kp
 refine wpList_nil ?_
 replace e0 := hE.g e0; replace e1 := hE.g e1; replace e2 := hE.g e2
 replace k := k.env hE
 clear hE
 refine Z00 ?_
 refine wp_block ?_
 refine wp_loop (fun a w => Fr 31 a ∧ a.eval (.tmp 0) = .func (.yield l) #[] #[] ∧ a.eval (.tmp 1) = .pointer (some ⟨bs, 0, none⟩) ∧ a.eval (.tmp 2) = .pointer (some ⟨bn, 0, none⟩) ∧ ∃ (k : Nat), a.eval (.tmp 4) = .int .i64 (↑(k * 15)) ∧ k ≤ (n + 14) / 15 ∧ J k w) (fun a w => n - (intOf (a.eval (.tmp 4))).toNat) ?_ ?_
 · exact ⟨k, e0, e1, e2, 0, e4, Nat.zero_le _, hJ⟩
 intro a3 w4 hI
 clear k e0 e1 e2
 obtain ⟨k, e0, e1, e2, h_⟩ := hI
 obtain ⟨k', e4, hk, hJ⟩ := h_
 have mi := e4
 have hd := hJb _ _ hJ
 by_cases hlt : k' * 15 < n
 · skip
   refine wp_seq ?_
   refine wp_seq ?_
   refine wp_region_lit ?_
   have hE := Env.refl a3 [6, 7, 8, 9]
   refine zm 6 hE k e4 ?_
   intro a5 hE e6 kp
   apply Z02 7 hE k rfl rfl rfl rfl
   case h =>
    simp [go_sem, ↓IntWalk.iteOmega, ev (hE.g e1), hd.1]
    with_reducible rfl
   intro a6 hE e7 kp
   replace e6 := kt kp e6
   refine sd 8 hE k (Z0f Try.underlying29 rfl e7) ?_
   intro a7 hE e8 kp
   replace e6 := kt kp e6
   refine sd 9 hE k (Z06 (Z1c rfl e6 e8) (decide_eq_true (by omega))) ?_
   intro a8 hE e9 kp
   refine wpList_nil ?_
   replace e0 := hE.g e0; replace e1 := hE.g e1; replace e2 := hE.g e2; replace e4 := hE.g e4
   replace k := k.env hE
   clear hE
   refine Z00 ?_
   refine Z0g e9 rfl ?_
   refine wp_skip ?_
   refine Z00 (wp_seq ?_)
   refine wp_block ?_
   obtain ⟨c, hc⟩ : ∃ c, min 15 (n - k' * 15) = c := ⟨_, rfl⟩
   have hc0 : 0 < c := by omega
   clear hd
   refine wp_seq ?_
   refine Z0a (R := Ext) (w0 := w4) [[], [], [], [1, 2], [1, 2, 3], [0, 1, 2, 3, 4], [0, 1, 2, 3, 4, 5]] [13, 14, 15, 16, 17, 18, 5] Ext.refl (fun _ _ _ => Ext.trans) (Ext.drew _) (by kernel_rfl) ?_
   apply bd 13 k rfl rfl rfl
   case h =>
    intro ax wx hE hR hF
    have hd := hJb _ _ (hJe _ _ _ hJ hR)
    simp [go_sem, ↓IntWalk.iteOmega, ev (hE.g e2), hd.2]
    with_reducible rfl
   apply bd 14 k rfl rfl rfl
   case h =>
    intro ax wx hE hR hF
    have hd := hJb _ _ (hJe _ _ _ hJ hR)
    simp [go_sem, ↓IntWalk.iteOmega, ev (hE.g e1), hd.1]
    with_reducible rfl
   apply bd 15 k rfl rfl rfl
   case h =>
    intro ax wx hE hR hF
    exact Z03 rfl (hE.g e4)
   apply bd 16 k rfl rfl rfl
   case h =>
    intro ax wx hE hR hF
    have e14 := zhF hF 1 14 ml1
    have e15 := zhF hF 2 15 ml0
    exact Z73 rfl e14 e15 hlt hcap
   apply bd 17 k rfl rfl rfl
   case h =>
    intro ax wx hE hR hF
    have e16 := zhF hF 3 16 ml0
    exact Z0f Try.underlying29 rfl e16
   apply bd 18 k rfl rfl rfl
   case h =>
    intro ax wx hE hR hF
    have e13 := zhF hF 0 13 ml4
    have e17 := zhF hF 4 17 ml0
    exact x_min rfl e13 e17
   apply bd 5 k rfl rfl rfl
   case h =>
    intro ax wx hE hR hF
    have e18 := zhF hF 5 18 ml0
    exact Z01 rfl e18
   apply Build.stop
   refine ⟨by kernel_rfl, .inl ⟨rfl, ?_⟩⟩
   intro a9 w10 hE R hF
   have e5 : a9.eval (.tmp 5) = _ := hF 6 (det 5 _) ml0
   clear hF
   replace hJ := hJe _ _ _ hJ R
   have hd := hJb _ _ hJ
   clear R
   replace e0 := hE.g e0; replace e1 := hE.g e1; replace e2 := hE.g e2; replace e4 := hE.g e4
   replace k := k.env hE
   clear hE e9
   refine Z00 ?_
   replace e5 := e5.trans (Z0h (show min (15 : Int) (↑(n - k' * 15) : Int) = (↑c : Int) by omega))
   obtain ⟨fn, tmps, assign, body, hyr, hRR⟩ := hY _ _ hJ hlt
   rw [hc] at hyr
   refine wp_seq ?_
   refine wp_regY ?_
   have hE := Env.refl a9 [19, 20, 21, 22, 23, 24, 25, 26, 27, 28, 29, 30]
   refine Z11 rfl (fun h => hL h) ?_
   refine zm 19 hE k e0 ?_
   intro a11 hE e19 kp
   refine wpList_nil ?_
   refine Z00 ?_
   refine Z11 rfl (fun h => hL h) ?_
   apply Z02 20 hE k rfl rfl rfl rfl
   case h =>
    simp [go_sem, ↓IntWalk.iteOmega, ev (hE.g e1), hd.1]
    with_reducible rfl
   intro a12 hE e20 kp
   replace e19 := kt kp e19
   refine wpList_nil ?_
   refine Z00 ?_
   refine Z11 rfl (fun h => hL h) ?_
   refine zm 21 hE k e4 ?_
   intro a13 hE e21 kp
   replace e19 := kt kp e19; replace e20 := kt kp e20
   refine wpList_nil ?_
   refine Z00 ?_
   refine Z11 rfl (fun h => hL h) ?_
   refine zm 22 hE k e4 ?_
   intro a14 hE e22 kp
   replace e19 := kt kp e19; replace e20 := kt kp e20; replace e21 := kt kp e21
   refine wpList_nil ?_
   refine Z00 ?_
   refine Z11 rfl (fun h => hL h) ?_
   refine zm 23 hE k e5 ?_
   intro a15 hE e23 kp
   replace e19 := kt kp e19; replace e20 := kt kp e20; replace e21 := kt kp e21; replace e22 := kt kp e22
   refine wpList_nil ?_
   refine Z00 ?_
   refine Z11 rfl (fun h => hL h) ?_
   refine sd 24 hE k (Z0x rfl e22 e23 (by omega)) ?_
   intro a16 hE e24 kp
   replace e19 := kt kp e19; replace e20 := kt kp e20; replace e21 := kt kp e21
   replace e24 := e24.trans (Z0h (show ((↑(k' * 15) : Int) + ↑c) = (↑(k' * 15 + c) : Int) by omega))
   refine wpList_nil ?_
   refine Z00 ?_
   refine Z11 rfl (fun h => hL h) ?_
   refine zm 25 hE k e4 ?_
   intro a17 hE e25 kp
   replace e19 := kt kp e19; replace e20 := kt kp e20; replace e21 := kt kp e21; replace e24 := kt kp e24
   refine wpList_nil ?_
   refine Z00 ?_
   refine Z11 rfl (fun h => hL h) ?_
   refine zm 26 hE k e5 ?_
   intro a18 hE e26 kp
   replace e19 := kt kp e19; replace e20 := kt kp e20; replace e21 := kt kp e21; replace e24 := kt kp e24; replace e25 := kt kp e25
   refine wpList_nil ?_
   refine Z00 ?_
   refine Z11 rfl (fun h => hL h) ?_
   refine sd 27 hE k (Z0x rfl e25 e26 (by omega)) ?_
   intro a19 hE e27 kp
   replace e19 := kt kp e19; replace e20 := kt kp e20; replace e21 := kt kp e21; replace e24 := kt kp e24
   replace e27 := e27.trans (Z0h (show ((↑(k' * 15) : Int) + ↑c) = (↑(k' * 15 + c) : Int) by omega))
   refine wpList_nil ?_
   refine Z00 ?_
   refine Z11 rfl (fun h => hL h) ?_
   refine sd 28 hE k (Z85 rfl e20 e21 e24 e27 (by omega) (by omega)) ?_
   intro a20 hE e28 kp
   replace e19 := kt kp e19
   refine wpList_nil ?_
   refine Z00 ?_
   apply y_yield 29 hE k rfl (by rfl) (by rfl) rfl
   case hrun => exact x_yield rfl e19 (e28.trans (by rw [show k' * 15 + c - k' * 15 = c by omega])) hyr
   case hdf => rfl
   case hR => exact (RoundIn.mono hRR (R' := fun e w' => ∃ b, e = .returned (.bool b) ∧ (b = true → J (k' + 1) w') ∧ (b = false → Jx w')) (fun e w' h => by rcases h with ⟨h1, h2⟩ | ⟨h1, h2⟩; exact ⟨_, h1, fun _ => h2, fun h => by cases h⟩; exact ⟨_, h1, (fun h => by cases h), fun _ => h2⟩))
   rintro e w22 ⟨b, rfl, hJ1, hJ2⟩
   refine ⟨_, rfl, ?_⟩
   intro a21 hE e29 kp
   refine Z11 rfl (fun h => hL h) ?_
   refine sd 30 hE k (Z1v rfl e29) ?_
   intro a23 hE e30 kp
   refine wpList_nil ?_
   refine Z00 ?_
   refine wpListIn_nil ?_
   replace e0 := hE.g e0; replace e1 := hE.g e1; replace e2 := hE.g e2; replace e4 := hE.g e4
   replace k := k.env hE
   clear hE e5
   refine Z00 ?_
   cases b with
   | false =>
    refine Z0g e30 (rfl) ?_
    clear e0 e1 e2 e4 e30
    refine wp_ret ?_
    refine Z0s ?_
    refine Z0d ?_
    refine Z0d ?_
    refine Z0s ?_
    refine ret_F0 rfl k ?_
    exact ⟨⟨_, rfl⟩, .inr (hJ2 rfl)⟩
   | true =>
    refine Z05 e30 (rfl) ?_
    clear e30
    clear hJ
    have hJ := hJ1 rfl
    have hd := hJb _ _ hJ
    refine wp_skip ?_
    refine Z0t ?_
    refine Z00 ?_
    refine wp_region_lit ?_
    have hE := Env.refl a23 [10, 11, 12, 4]
    refine sd 10 hE k (Z03 rfl e4) ?_
    intro a24 hE e10 kp
    replace e4 := kt kp e4
    apply Z02 11 hE k rfl rfl rfl rfl
    case h =>
     simp [go_sem, ↓IntWalk.iteOmega, ev (hE.g e2), hd.2]
     with_reducible rfl
    intro a25 hE e11 kp
    replace e4 := kt kp e4; replace e10 := kt kp e10
    refine sd 12 hE k (Z0x rfl e10 e11 (by omega)) ?_
    intro a26 hE e12 kp
    replace e4 := kt kp e4
    replace e12 := e12.trans (Z0h (show ((↑(k' * 15) : Int) + 15) = (↑((k' + 1) * 15) : Int) by omega))
    refine sd 4 hE k (Z01 rfl e12) ?_
    intro a27 hE e4 kp
    refine wpList_nil ?_
    replace e0 := hE.g e0; replace e1 := hE.g e1; replace e2 := hE.g e2
    replace k := k.env hE
    clear hE
    refine Z00 ?_
    -- round
    refine ⟨⟨k, e0, e1, e2, k' + 1, e4, by omega, hJ⟩, ?_⟩
    rw [e4, mi]; simp only [intOf]; omega
 · skip
   refine wp_seq ?_
   refine wp_seq ?_
   refine wp_region_lit ?_
   have hE := Env.refl a3 [6, 7, 8, 9]
   refine zm 6 hE k e4 ?_
   intro a28 hE e6 kp
   apply Z02 7 hE k rfl rfl rfl rfl
   case h =>
    simp [go_sem, ↓IntWalk.iteOmega, ev (hE.g e1), hd.1]
    with_reducible rfl
   intro a29 hE e7 kp
   replace e6 := kt kp e6
   refine sd 8 hE k (Z0f Try.underlying29 rfl e7) ?_
   intro a30 hE e8 kp
   replace e6 := kt kp e6
   refine sd 9 hE k (Z06 (Z1c rfl e6 e8) (decide_eq_false (by omega))) ?_
   intro a31 hE e9 kp
   refine wpList_nil ?_
   replace e0 := hE.g e0; replace e1 := hE.g e1; replace e2 := hE.g e2; replace e4 := hE.g e4
   replace k := k.env hE
   clear hE
   refine Z00 ?_
   refine Z05 e9 rfl ?_
   refine wp_exit ?_
   refine Z0z ?_
   refine Z0z ?_
   refine Z1j ?_
   refine end_F0 rfl k ?_
   exact ⟨⟨_, rfl⟩, .inl ((show k' = (n + 14) / 15 by omega) ▸ hJ)⟩
end Go.Proofs.Ytngehbhhpkkijaa

/- Trees, plain: a tree that is built at once. -/
namespace Go.Proofs.Ytngehbhhpkkijaa
set_option linter.unusedVariables false
set_option linter.unusedSimpArgs false
/-- A row of pairs by fifteens. -/
def chkN : Nat → List Pr → List (List Pr)
  | 0, _ => []
  | _ + 1, [] => []
  | n + 1, x :: xs => (x :: xs).take 15 :: chkN n ((x :: xs).drop 15)
def chk (xs : List Pr) : List (List Pr) := chkN xs.length xs
theorem Z59 : ∀ (n m : Nat) (xs : List Pr), xs.length ≤ n → xs.length ≤ m → chkN n xs = chkN m xs
  | 0, 0, _, _, _ => rfl
  | 0, m + 1, xs, h, _ => by
    obtain rfl : xs = [] := List.length_eq_zero_iff.1 (by omega)
    rfl
  | n + 1, 0, xs, _, h => by
    obtain rfl : xs = [] := List.length_eq_zero_iff.1 (by omega)
    rfl
  | n + 1, m + 1, [], _, _ => rfl
  | n + 1, m + 1, x :: xs, h1, h2 => by
    show _ :: _ = _ :: _
    rw [Z59 n m ((x :: xs).drop 15) (by rw [List.length_drop]; simp only [List.length_cons] at h1 ⊢; omega) (by rw [List.length_drop]; simp only [List.length_cons] at h2 ⊢; omega)]
theorem Z4m {xs : List Pr} (h : xs ≠ []) : chk xs = xs.take 15 :: chk (xs.drop 15) := by
  obtain ⟨x, r, rfl⟩ := List.exists_cons_of_ne_nil h
  unfold chk
  show _ :: chkN r.length _ = _
  rw [Z59 r.length ((x :: r).drop 15).length _ (by rw [List.length_drop]; simp only [List.length_cons]; omega) (Nat.le_refl _)]
theorem Z2r : ∀ (n : Nat) (xs : List Pr), xs.length ≤ n → (chk xs).flatten = xs ∧ (∀ c ∈ chk xs, c ≠ [] ∧ c.length ≤ 15) ∧ (chk xs).length = (xs.length + 14) / 15
  | 0, xs, h => by
    obtain rfl : xs = [] := List.length_eq_zero_iff.1 (by omega)
    exact ⟨rfl, (fun c hc => by cases hc), rfl⟩
  | n + 1, xs, h => by
    by_cases e : xs = []
    · subst e; exact ⟨rfl, (fun c hc => by cases hc), rfl⟩
    have hl := List.length_pos_iff.2 e
    obtain ⟨h1, h2, h3⟩ := Z2r n (xs.drop 15) (by rw [List.length_drop]; omega)
    rw [Z4m e]
    refine ⟨by rw [List.flatten_cons, h1, List.take_append_drop], fun c hc => ?_, ?_⟩
    · rcases List.mem_cons.1 hc with rfl | hc
      · refine ⟨fun e2 => ?_, by rw [List.length_take]; omega⟩
        have := congrArg List.length e2
        rw [List.length_take, List.length_nil] at this
        omega
      · exact h2 c hc
    · rw [List.length_cons, h3, List.length_drop]
      by_cases h15 : xs.length ≤ 15
      · rw [show xs.length - 15 = 0 by omega]; omega
      · omega
theorem Z4l (xs : List Pr) : (chk xs).flatten = xs := (Z2r _ xs (Nat.le_refl _)).1
theorem chk_ok (xs : List Pr) : ∀ c ∈ chk xs, c ≠ [] ∧ c.length ≤ 15 := (Z2r _ xs (Nat.le_refl _)).2.1
theorem Z5w (xs : List Pr) : (chk xs).length = (xs.length + 14) / 15 := (Z2r _ xs (Nat.le_refl _)).2.2
/-- The k-th part of a row. -/
theorem chk_at : ∀ (k : Nat) (xs : List Pr), k * 15 < xs.length → (chk xs)[k]? = some ((xs.drop (k * 15)).take 15)
  | 0, xs, h => by
    rw [Z4m (fun e => by rw [e] at h; cases h)]
    simp
  | k + 1, xs, h => by
    rw [Z4m (fun e => by rw [e] at h; simp at h), List.getElem?_cons_succ, chk_at k (xs.drop 15) (by rw [List.length_drop]; omega), List.drop_drop]
    congr 3
    omega
theorem Z4w (c : List Pr) (r : List (List Pr)) (n : Nat) : outs (c :: r) n = (keyAt c 0, n + 1) :: outs r (n + 1) := rfl
/-- Leaves. -/
theorem Z51 {N0 : List Nd} : ∀ (cs : List (List Pr)) (n : Nat), (∀ c ∈ cs, c ≠ [] ∧ c.length ≤ 15) → (∀ (i : Nat) c, cs[i]? = some c → ndAt N0 (n + 1 + i) = some (0, c)) →
    ∃ g, Kids (Tr N0 0) (outs cs n) cs g ∧ g.Nodup ∧ (∀ q ∈ g, n < q ∧ q ≤ n + cs.length) ∧ g.length = cs.length
  | [], n, _, _ => ⟨[], ⟨rfl, rfl⟩, List.nodup_nil, (fun q hq => by cases hq), rfl⟩
  | c :: r, n, h1, h2 => by
    obtain ⟨hc, hc15⟩ := h1 c List.mem_cons_self
    obtain ⟨g, k1, k2, k3, k4⟩ := Z51 (N0 := N0) r (n + 1) (fun d hd => h1 d (List.mem_cons_of_mem _ hd)) (fun i d hd => by
      have := h2 (i + 1) d (by rw [List.getElem?_cons_succ]; exact hd)
      rw [show n + 1 + (i + 1) = n + 1 + 1 + i by omega] at this
      exact this)
    have hb : Body (Tb N0 0) 0 c [c] [] := Z0i.2 ⟨by rw [if_neg hc], rfl⟩
    have hT : Tr N0 0 (n + 1) [c] [n + 1] := Z2s.2 ⟨c, [], h2 0 c rfl, hc, hc15, hb, rfl⟩
    refine ⟨[n + 1] ++ g, ⟨[c], [n + 1], r, g, hT, hb.hdk hc, k1, rfl, rfl⟩, ?_, fun q hq => ?_, by simp [k4]⟩
    · rw [List.singleton_append, List.nodup_cons]
      exact ⟨fun h => by have := k3 _ h; omega, k2⟩
    · rw [List.length_cons]
      rcases List.mem_append.1 hq with hq | hq
      · obtain rfl := List.mem_singleton.1 hq; omega
      · have := k3 q hq; omega
/-- Nodes above. -/
theorem Z52 {N0 : List Nd} {l : Nat} : ∀ (cs : List (List Pr)) (n : Nat) (L : List (List Pr)) (g : List Nat), (∀ c ∈ cs, c ≠ [] ∧ c.length ≤ 15) → (∀ (i : Nat) c, cs[i]? = some c → ndAt N0 (n + 1 + i) = some (l + 1, c)) → Kids (Tr N0 l) cs.flatten L g → g.Nodup → (∀ q ∈ g, q ≤ n) →
    ∃ g', Kids (Tr N0 (l + 1)) (outs cs n) L g' ∧ g'.Nodup ∧ (∀ q ∈ g', q ∈ g ∨ (n < q ∧ q ≤ n + cs.length)) ∧ g'.length = g.length + cs.length
  | [], n, L, g, _, _, ⟨e1, e2⟩, _, _ => ⟨[], ⟨e1, rfl⟩, List.nodup_nil, (fun q hq => by cases hq), by rw [e2]; rfl⟩
  | c :: r, n, L, g, h1, h2, hk, hn, hg => by
    obtain ⟨hc, hc15⟩ := h1 c List.mem_cons_self
    rw [List.flatten_cons] at hk
    obtain ⟨LA, gA, LB, gB, kA, kB, rfl, rfl⟩ := hk.parts
    obtain ⟨n1, n2, n3⟩ := List.nodup_append.1 hn
    obtain ⟨g', k1, k2, k3, k4⟩ := Z52 (N0 := N0) (l := l) r (n + 1) LB gB (fun d hd => h1 d (List.mem_cons_of_mem _ hd)) (fun i d hd => by
      have := h2 (i + 1) d (by rw [List.getElem?_cons_succ]; exact hd)
      rw [show n + 1 + (i + 1) = n + 1 + 1 + i by omega] at this
      exact this) kB n2 (fun q hq => by have := hg q (List.mem_append_right _ hq); omega)
    have hb : Body (Tb N0 (l + 1)) (l + 1) c LA gA := Z0l.2 kA
    have hT : Tr N0 (l + 1) (n + 1) LA ((n + 1) :: gA) := Z2s.2 ⟨c, gA, h2 0 c rfl, hc, hc15, hb, rfl⟩
    refine ⟨((n + 1) :: gA) ++ g', ⟨LA, (n + 1) :: gA, LB, g', hT, hb.hdk hc, k1, rfl, rfl⟩, ?_, fun q hq => ?_, by simp only [List.length_append, List.length_cons, k4]; omega⟩
    · rw [List.nodup_append]
      refine ⟨List.nodup_cons.2 ⟨fun h => by have := hg _ (List.mem_append_left _ h); omega, n1⟩, k2, fun a ha b hb e => ?_⟩
      subst e
      rcases List.mem_cons.1 ha with rfl | ha
      · rcases k3 _ hb with h | h
        · have := hg _ (List.mem_append_right _ h); omega
        · omega
      · rcases k3 _ hb with h | h
        · exact n3 _ ha _ h rfl
        · have := hg _ (List.mem_append_left _ ha); omega
    · rw [List.length_cons]
      rcases List.mem_append.1 hq with hq | hq
      · rcases List.mem_cons.1 hq with rfl | hq
        · exact .inr (by omega)
        · exact .inl (List.mem_append_left _ hq)
      · rcases k3 q hq with h | h
        · exact .inl (List.mem_append_right _ h)
        · exact .inr (by omega)
theorem Z5o {N : List Nd} {l : Nat} {cs : List (List Pr)} {i : Nat} {c : List Pr} (h : cs[i]? = some c) : ndAt (N ++ newN l cs) (N.length + 1 + i) = some (l, c) := by
  unfold ndAt
  rw [if_neg (by omega), show N.length + 1 + i - 1 = N.length + i by omega, List.getElem?_append_right (by omega), show N.length + i - N.length = i by omega, List.getElem?_map, h]
  rfl
/-- On the way: the pairs of the next level. -/
structure Bld (P : List Pr) (N : List Nd) (l : Nat) (xs : List Pr) : Prop where
  ne : xs ≠ []
  zero : l = 0 → xs = P ∧ N = []
  up : ∀ l', l = l' + 1 → 2 ≤ xs.length ∧ ∃ L g, Kids (Tr N l') xs L g ∧ L.flatten = P ∧ g.Nodup ∧ (∀ q ∈ g, 1 ≤ q ∧ q ≤ N.length) ∧ g.length ≤ N.length
theorem Bld.start {P : List Pr} (h : P ≠ []) : Bld P [] 0 P := ⟨h, fun _ => ⟨rfl, rfl⟩, fun l' h => by cases h⟩
/-- A level more. -/
theorem Bld.row {P : List Pr} {N : List Nd} {l : Nat} {xs : List Pr} (h : Bld P N l xs) : ∃ L g, Kids (Tr (N ++ newN l (chk xs)) l) (outs (chk xs) N.length) L g ∧ L.flatten = P ∧ g.Nodup ∧ (∀ q ∈ g, 1 ≤ q ∧ q ≤ (N ++ newN l (chk xs)).length) ∧ g.length ≤ (N ++ newN l (chk xs)).length := by
  have hlen : (N ++ newN l (chk xs)).length = N.length + (chk xs).length := by rw [List.length_append, List.length_map]
  cases l with
  | zero =>
    obtain ⟨rfl, rfl⟩ := h.zero rfl
    obtain ⟨g, k1, k2, k3, k4⟩ := Z51 (N0 := [] ++ newN 0 (chk xs)) (chk xs) ([] : List Nd).length (chk_ok xs) (fun i c hc => Z5o hc)
    exact ⟨chk xs, g, k1, Z4l xs, k2, fun q hq => by have := k3 q hq; rw [hlen]; omega, by rw [hlen]; omega⟩
  | succ l =>
    obtain ⟨h2, L, g, k1, k2, k3, k4, k5⟩ := h.up l rfl
    obtain ⟨g', j1, j2, j3, j4⟩ := Z52 (N0 := N ++ newN (l + 1) (chk xs)) (l := l) (chk xs) N.length L g (chk_ok xs) (fun i c hc => Z5o hc) (by rw [Z4l]; exact k1.mono fun _ _ _ h => h.mono _) k3 (fun q hq => (k4 q hq).2)
    refine ⟨L, g', j1, k2, j2, fun q hq => ?_, by rw [hlen]; omega⟩
    rw [hlen]
    rcases j3 q hq with h | h
    · have := k4 q h; omega
    · omega
theorem Z64 {cs : List (List Pr)} {n : Nat} (h : (outs cs n).length = 1) : outs cs n = [(keyAt (cs.head?.getD []) 0, n + 1)] := by
  rw [Z1g] at h
  obtain ⟨c, rfl⟩ := List.length_eq_one_iff.1 h
  rfl
theorem Bld.next {P : List Pr} {N : List Nd} {l : Nat} {xs : List Pr} (h : Bld P N l xs) (h1 : (outs (chk xs) N.length).length ≠ 1) : Bld P (N ++ newN l (chk xs)) (l + 1) (outs (chk xs) N.length) := by
  have h0 : 0 < (chk xs).length := by rw [Z5w]; have := List.length_pos_iff.2 h.ne; omega
  rw [Z1g] at h1
  refine ⟨fun e => ?_, (fun e => by cases e), fun l' e => ?_⟩
  · have := congrArg List.length e
    rw [Z1g, List.length_nil] at this
    omega
  · obtain rfl : l = l' := by omega
    exact ⟨by rw [Z1g]; omega, h.row⟩
/-- The root. -/
theorem Bld.done {P : List Pr} {N : List Nd} {l m : Nat} {xs : List Pr} (h : Bld P N l xs) (h1 : (outs (chk xs) N.length).length = 1) (hl : l ≤ m) (hu : Up P) (hw : ∀ y ∈ P, y.1 < 18446744073709551616 ∧ y.2 < 18446744073709551616) : ∃ L g, RT m (N ++ newN l (chk xs)) (N.length + 1) L g ∧ L.flatten = P ∧ g.length ≤ (N ++ newN l (chk xs)).length := by
  obtain ⟨L, g, k1, k2, k3, k4, k5⟩ := h.row
  rw [Z64 h1] at k1
  rw [Z1g] at h1
  obtain ⟨c, hc⟩ := List.length_eq_one_iff.1 h1
  have hcx : c = xs := by have := Z4l xs; rw [hc] at this; simpa using this
  refine ⟨L, g, ⟨.inr ⟨l, hl, k1.of_one.1, fun h0 => ?_⟩, by rw [k2]; exact hu, k3, by rw [k2]; exact hw⟩, k2, k5⟩
  obtain ⟨l', rfl⟩ : ∃ l', l = l' + 1 := ⟨l - 1, by omega⟩
  refine ⟨xs, ?_, (h.up l' rfl).1⟩
  have := Z5o (N := N) (l := l' + 1) (cs := chk xs) (i := 0) (c := xs) (by rw [hc, hcx]; rfl)
  exact this
/-- How many nodes are needed. -/
def needF : Nat → Nat → Nat
  | 0, _ => 0
  | f + 1, n => if n = 0 then 0 else (n + 14) / 15 + if n ≤ 15 then 0 else needF f ((n + 14) / 15)
theorem Z1z {f n : Nat} (h0 : n ≠ 0) (h : 15 < n) : needF (f + 1) n = (n + 14) / 15 + needF f ((n + 14) / 15) := by
  show (if n = 0 then 0 else (n + 14) / 15 + if n ≤ 15 then 0 else needF f ((n + 14) / 15)) = _
  rw [if_neg h0, if_neg (by omega)]
theorem Z20 {f n : Nat} (h0 : n ≠ 0) (h : n ≤ 15) : needF (f + 1) n = 1 := by
  show (if n = 0 then 0 else (n + 14) / 15 + if n ≤ 15 then 0 else needF f ((n + 14) / 15)) = _
  rw [if_neg h0, if_pos h]
  omega
theorem Z6s (f : Nat) : needF f 0 = 0 := by cases f <;> rfl
end Go.Proofs.Ytngehbhhpkkijaa
