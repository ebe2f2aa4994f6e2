/- maps: Good, awake (printed by XMpC.gen.py). -/
import Derived.Test.YtngehbhhpkkijaaKMapsExact30
import Derived.Test.YtngehbhhpkkijaaKMapsExact31
import Derived.Laws.StructEq
namespace Go.Proofs.Ytngehbhhpkkijaa
attribute [local simp] BigFrame.eval_const BigFrame.eval_global BigFrame.eval_func
set_option linter.unusedVariables false
set_option linter.unusedSimpArgs false
open Go.RowKit Go.Maps


theorem Z24 {n : Int} {b : Bool} (h : decide (0 ≤ n ∧ n < 64) = b) (W0 : World) : Calls Try.prog 66 #[.int .i64 n] W0 fun e w' => e = .returned (.bool b) ∧ Ext W0 w' := h ▸ Z1e n W0
theorem Z2u {n : Int} {b : Bool} (h : decide (1 ≤ n ∧ n ≤ 1023) = b) (W0 : World) : Calls Try.prog 67 #[.int .i64 n] W0 fun e w' => e = .returned (.bool b) ∧ Ext W0 w' := h ▸ Z31 n W0
/-- Entries: places and chunks. -/
abbrev En := Int × Int
def encI (x : En) : List Value := [.int .i64 x.1, .int .i64 x.2]
def atE (es : List En) (i : Nat) : Int := (es.getD i (0, 0)).1
def chE (es : List En) (i : Nat) : Int := (es.getD i (0, 0)).2
def OkE (size : Int) (es : List En) (i : Nat) : Prop := (0 ≤ atE es i ∧ atE es i < 64) ∧ atE es i < size ∧ (1 ≤ chE es i ∧ chE es i ≤ 1023) ∧ (0 < i → atE es (i - 1) < atE es i)
instance {size : Int} {es : List En} {i : Nat} : Decidable (OkE size es i) := by unfold OkE; exact inferInstance
def goodE (size : Int) (es : List En) : Bool := decide (∀ i, i < es.length → OkE size es i)
theorem rowI_at {W0 w : World} {B : Option Addr} {es : List En} (h : Row W0 B 2 encI es) (hb : Below W0.heap.size W0 w) {i : Nat} (hi : i < es.length) : ∃ b o, B = some ⟨b, o, none⟩ ∧ w.cell? ⟨b, o + i * 2, none⟩ = some (.int .i64 (atE es i)) ∧ w.cell? ⟨b, o + i * 2 + 1, none⟩ = some (.int .i64 (chE es i)) := by
 obtain ⟨b, o, e, _, hc⟩ := (h.below hb) i _ (List.getElem?_eq_getElem hi)
 have e1 : atE es i = es[i].1 := by simp [atE, List.getD, hi]
 have e2 : chE es i = es[i].2 := by simp [chE, List.getD, hi]
 refine ⟨b, o, e, ?_, ?_⟩
 · rw [e1]; have := hc 0 _ rfl; simpa using this
 · rw [e2]; exact hc 1 _ rfl
/-- A row of pairs as entries. -/
theorem Z5y {w : World} {B : Option Addr} {ps : List Pr} (h : Row w B 2 enC ps) : Row w B 2 encI (ps.map fun x => ((x.1 : Int), (x.2 : Int))) := by
 intro i x hx
 rw [List.getElem?_map] at hx
 cases hy : ps[i]? with
 | none => rw [hy] at hx; cases hx
 | some y =>
  rw [hy] at hx
  injection hx with hx
  subst hx
  exact h i y hy
theorem Z4d {w : World} {B : Option Addr} {n c : Nat} {ps : List Pr} (h : (tEs (.slice B n c) ps).holds w) : Row w B 2 enC ps := by
 obtain ⟨B2, c2, e, _, _, _, hr⟩ := Z2i (enc := enC) (X := ps) (fun _ => rfl) (by decide) h
 injection e with e1
 subst e1
 exact hr

theorem en_fields : Try.prog.underlying 67 = some (.struct (Try.prog.fieldsOf 67)) := by kernel_rfl
theorem en_held : Try.prog.stoodInHeld 67 = false := by kernel_rfl
theorem part_e0 (w : World) (x y : Value) : (part 3 #[x, y] 0).run Try.prog w = .ok x w := by kernel_rfl
theorem part_e1 (w : World) (x y : Value) : (part 3 #[x, y] 1).run Try.prog w = .ok y w := by kernel_rfl
theorem eq_en (d : Nat) (a b a' b' : Int) (w : World) : (Op.equalIn (d + 2) 67 (.agg #[.int .i64 a, .int .i64 b]) (.agg #[.int .i64 a', .int .i64 b'])).run Try.prog w = .ok (decide (a = a' ∧ b = b')) w := by
 have h0 := fun W x y => run_equalIn_int (P := Try.prog) W d 3 .i64 .i64 x y Try.underlying3
 rw [run_equalIn_struct w (d + 1) _ _ _ en_fields en_held]
 have hf : (Try.prog.fieldsOf 67).toList.map (fun f => (f.name, f.type, f.offset)) = [("At", 3, 0), ("Chunk", 3, 1)] := by kernel_rfl
 generalize (Try.prog.fieldsOf 67).toList = L at hf ⊢
 obtain ⟨f, g, rfl⟩ : ∃ f g, L = [f, g] := by
  rcases L with _ | ⟨f, _ | ⟨g, _ | ⟨h, L⟩⟩⟩
  · exact absurd (congrArg List.length hf) (by simp)
  · exact absurd (congrArg List.length hf) (by simp)
  · exact ⟨f, g, rfl⟩
  · exact absurd (congrArg List.length hf) (by simp)
 simp only [List.map_cons, List.map_nil, List.cons.injEq, Prod.mk.injEq, and_true] at hf
 obtain ⟨⟨n1, t1, o1⟩, n2, t2, o2⟩ := hf
 by_cases ha : a = a' <;> by_cases hb : b = b' <;> simp [Op.eqFields, n1, n2, t1, t2, o1, o2, Sem.run_bind, Sem.run_ite, part_e0, part_e1, h0, ha, hb]
section
variable {w : World} {o : Oper} {ρ : Operand → Value} {u : TypeId} {x y : Operand} {a b c d : Int}
theorem x_eqEn (ho : o.op = .binOp .eql 67 x y u) (hx : ρ x = .agg #[.int .i64 a, .int .i64 b]) (hy : ρ y = .agg #[.int .i64 c, .int .i64 d]) : (execOp ρ o).run Try.prog w = .ok (.value (.bool (decide (a = c ∧ b = d)))) w := by
 have h := eq_en 9998 a b c d w
 unfold execOp
 simp only [ho, hx, hy]
 by_cases e1 : a = c <;> by_cases e2 : b = d <;> simp [go_sem, h, e1, e2]
theorem x_neEn (ho : o.op = .binOp .neq 67 x y u) (hx : ρ x = .agg #[.int .i64 a, .int .i64 b]) (hy : ρ y = .agg #[.int .i64 c, .int .i64 d]) : (execOp ρ o).run Try.prog w = .ok (.value (.bool (decide (¬ (a = c ∧ b = d))))) w := by
 have h := eq_en 9998 a b c d w
 unfold execOp
 simp only [ho, hx, hy]
 by_cases e1 : a = c <;> by_cases e2 : b = d <;> simp [go_sem, h, e1, e2]
end

set_option maxRecDepth 100000 in
set_option maxHeartbeats 4000000 in
theorem Z39 {B : Option Addr} {n cap : Nat} (size : Int) (es : List En) (W0 : World) (hl : es.length = n) (hrow : Row W0 B 2 encI es) (hn : n ≤ 1000000) : Calls Try.prog 29 #[.slice B n cap, .int .i64 size] W0 fun e w' => e = .returned (.bool (goodE size es)) ∧ Ext W0 w' := by
 have O := OwnT.start W0
 refine Z0d Try.func29 rfl 46 rfl (by rfl) ?_
 intro a1 k hargs
 have e0 : a1.eval (.tmp 0) = .slice B n cap := hargs 0 _ rfl
 have e1 : a1.eval (.tmp 1) = .int .i64 size := hargs 1 _ rfl
 clear hargs
 refine wp_seq ?_
 refine wp_region_lit ?_
 have hE := Env.refl a1 [4]
 refine sd 4 hE k (Z00 rfl rfl) ?_
 intro a2 hE e4 kp
 refine wpList_nil ?_
 replace e0 := hE.g e0; replace e1 := hE.g e1
 replace k := k.env hE
 clear hE e4
 refine Z01 (wp_seq ?_)
 refine wp_seq ?_
 refine wp_region_lit ?_
 have hE := Env.refl a2 [7, 8, 9]
 refine sm 7 hE k e0 ?_
 intro a3 hE e7 kp
 refine sd 8 hE k (Z0j Try.underlying65 rfl e7) ?_
 intro a4 hE e8 kp
 replace e7 := kt kp e7
 refine sd 9 hE k (Z03 rfl rfl) ?_
 intro a5 hE e9 kp
 replace e7 := kt kp e7; replace e8 := kt kp e8
 refine wpList_nil ?_
 replace e0 := hE.g e0; replace e1 := hE.g e1
 replace k := k.env hE
 clear hE
 refine Z01 ?_
 refine wp_block ?_
 refine wp_loop (fun a w => Fr 46 a ∧ a.eval (.tmp 0) = .slice B n cap ∧ a.eval (.tmp 1) = .int .i64 size ∧ a.eval (.tmp 7) = .slice B n cap ∧ a.eval (.tmp 8) = .int .i64 ↑n ∧ ∃ (i : Nat), a.eval (.tmp 9) = .int .i64 ↑i ∧ i ≤ n ∧ (∀ j, j < i → OkE size es j) ∧ OwnT W0.heap.size W0 [] w) (fun a w => n - (intOf (a.eval (.tmp 9))).toNat) ?_ ?_
 · exact ⟨k, e0, e1, e7, e8, 0, e9, Nat.zero_le _, (fun j h => absurd h (Nat.not_lt_zero _)), O⟩
 intro a6 w7 hI
 clear k e0 e1 e7 e8
 obtain ⟨k, e0, e1, e7, e8, h_⟩ := hI
 clear O e9
 obtain ⟨i, e9, hi, hall, O⟩ := h_
 have mi := e9
 by_cases hlt : i < n
 · have hltI : (i : Int) < (n : Int) := by omega
   obtain ⟨b, o, rfl, -, -⟩ := rowI_at hrow O.below (i := i) (by omega)
   have hcs : ∀ W, Below W0.heap.size W0 W → ∀ j, j < n → W.cell? ⟨b, o + j * 2, none⟩ = some (.int .i64 (atE es j)) ∧ W.cell? ⟨b, o + j * 2 + 1, none⟩ = some (.int .i64 (chE es j)) := fun W hW j hj => by
    obtain ⟨b', o', e, h1, h2⟩ := rowI_at hrow hW (i := j) (by omega)
    injection e with e
    injection e with e e'
    subst e e'
    exact ⟨h1, h2⟩
   obtain ⟨d0, d1⟩ := hcs _ O.below i hlt
   obtain ⟨x, hx⟩ : ∃ x, atE es i = x := ⟨_, rfl⟩
   obtain ⟨c, hc⟩ : ∃ c, chE es i = c := ⟨_, rfl⟩
   rw [hx] at d0
   rw [hc] at d1

   refine wp_seq ?_
   refine wp_region_lit ?_
   have hE := Env.refl a6 [10]
   refine sd 10 hE k (Z06 (Z0x rfl (hE.g e9) (hE.g e8)) (decide_eq_true (by omega))) ?_
   intro a8 hE e10 kp
   refine wpList_nil ?_
   replace e0 := hE.g e0; replace e1 := hE.g e1; replace e7 := hE.g e7; replace e8 := hE.g e8; replace e9 := hE.g e9
   replace k := k.env hE
   clear hE
   refine Z01 (wp_seq ?_)
   refine Z0b e10 rfl ?_
   refine wp_skip ?_
   refine Z01 (wp_seq ?_)
   refine wp_block ?_
   refine wp_seq ?_
   refine wp_region_lit ?_
   have hE := Env.refl a8 [11, 12, 13, 6, 5]
   refine sm 11 hE k e9 ?_
   intro a9 hE e11 kp
   apply Z02 12 hE k rfl rfl rfl rfl
   case h =>
    simp [go_sem, ↓IntWalk.iteOmega, ev (hE.g e7), ev (hE.g e9)]
    with_reducible rfl
   intro a10 hE e12 kp
   replace e11 := kt kp e11
   apply Z02 13 hE k rfl rfl rfl rfl
   case h =>
    simp [go_sem, ↓IntWalk.iteOmega, ev e12, d0, d1]
    with_reducible rfl
   intro a11 hE e13 kp
   replace e11 := kt kp e11
   refine Z0m O (cs := #[.int .i64 0, .int .i64 0]) (t := 67) 6 hE k rfl (by rfl) (by rfl) rfl (by simp [go_sem, ↓IntWalk.iteOmega]) ?_
   clear O
   intro eb a12 w13 O hE e6 kp
   replace e11 := kt kp e11; replace e13 := kt kp e13
   refine sd 5 hE k (Z00 rfl e11) ?_
   intro a14 hE e5 kp
   replace e13 := kt kp e13; replace e6 := kt kp e6
   have q0 : w13.cell? ⟨eb, 0, none⟩ = some (.int .i64 0) := (OwnT.blk O 0 rfl).cell 0
   have z0 : w13.frozen? ⟨eb, 0, none⟩ = false := (OwnT.blk O 0 rfl).frozen 0
   have q1 : w13.cell? ⟨eb, 1, none⟩ = some (.int .i64 0) := (OwnT.blk O 0 rfl).cell 1
   have z1 : w13.frozen? ⟨eb, 1, none⟩ = false := (OwnT.blk O 0 rfl).frozen 1
   refine Z0h (w' := ((w13.setCell ⟨eb, 0, none⟩ (.int .i64 x)).setCell ⟨eb, 1, none⟩ (.int .i64 c))) hE rfl rfl (by simp [go_sem, ↓IntWalk.iteOmega, ev e6, ev e13, q0, z0, q1, z1]) ?_
   replace O := OwnT.push 0 rfl (((OwnT.pull O 0 rfl).set 0 (.int .i64 x)).set 1 (.int .i64 c))
   clear q0 z0 q1 z1
   generalize ((w13.setCell ⟨eb, 0, none⟩ (.int .i64 x)).setCell ⟨eb, 1, none⟩ (.int .i64 c)) = w15 at O ⊢
   replace O : OwnT _ _ ([tBlk eb 67 #[.int .i64 x, .int .i64 c]]) w15 := O
   refine wpList_nil ?_
   replace e0 := hE.g e0; replace e1 := hE.g e1; replace e7 := hE.g e7; replace e8 := hE.g e8; replace e9 := hE.g e9
   replace k := k.env hE
   clear hE e10 e13
   refine Z01 ?_
   clear d0 d1
   by_cases h1 : 0 ≤ x ∧ x < 64
   rotate_left
   · skip
     refine wp_seq ?_
     refine Z0f (R := Ext) (w0 := w15) [[], [0], [0, 1], [0, 1, 2], [0, 1, 2, 3], [0, 1, 2, 3, 4], [0, 1, 2, 3, 4, 5], [0, 1, 2, 3, 4], [0, 1, 2, 3, 4, 5, 6, 7], [0, 1, 2, 3, 4, 5, 6, 7, 8], [0, 1, 2, 3, 4, 5, 6, 7, 8, 9], [0, 1, 2, 3, 4, 5, 6, 7, 8, 9, 10], [0, 1, 2, 3, 4, 5, 6, 7, 8, 9, 10, 11], [0, 1, 2, 3, 4, 5, 6, 7, 8, 9, 10, 11, 12], [0, 1, 2, 3, 4, 5, 6, 7, 8, 9, 10, 11, 12, 13], [0, 1, 2, 3, 4, 5, 6, 7, 8, 9, 10, 11, 12, 13, 14], [0, 1, 2, 3, 4, 5, 6, 7, 8, 9, 10, 11, 12, 13, 14, 15], [0, 1, 2, 3, 4, 5, 6, 7, 8, 9, 10, 11, 12, 13, 14, 15, 16], [0, 1, 2, 3, 4, 5, 6, 7, 8, 9, 10, 11, 12, 13, 14, 15, 16, 17], [0, 1, 2, 3, 4, 5, 6, 7, 8, 9, 10, 11, 12, 13, 14, 15, 16, 17, 18], [0, 1, 2, 3, 4, 5, 6, 7, 8, 9, 10, 11, 12, 13, 14, 15, 16, 17, 18, 19], [0, 1, 2, 3, 4, 5, 6, 7, 8, 9, 10, 11, 12, 13, 14, 15, 16, 17, 18, 19], [0, 1, 2, 3, 4, 5, 6, 7, 8, 9, 10, 11, 12, 13, 14, 15, 16, 17, 18, 19, 21], [0, 1, 2, 3, 4, 5, 6, 7, 8, 9, 10, 11, 12, 13, 14, 15, 16, 17, 18, 19, 20, 21, 22], [0, 1, 2, 3, 4, 5, 6, 7, 8, 9, 10, 11, 12, 13, 14, 15, 16, 17, 18, 19, 20, 21, 22, 23], [0, 1, 2, 3, 4, 5, 6, 7, 8, 9, 10, 11, 12, 13, 14, 15, 16, 17, 18, 19, 20, 21, 22, 23, 24], [0, 1, 2, 3, 4, 5, 6, 7, 8, 9, 10, 11, 12, 13, 14, 15, 16, 17, 18, 19], [0, 1, 2, 3, 4, 5, 6, 7, 8, 9, 10, 11, 12, 13, 14, 15, 16, 17, 18, 19, 26], [0, 1, 2, 3, 4, 5, 6, 7, 8, 9, 10, 11, 12, 13, 14, 15, 16, 17, 18, 19, 20, 21, 22, 23, 24, 25, 26, 27], [0, 1, 2, 3, 4, 5, 6, 7, 8, 9, 10, 11, 12, 13, 14, 15, 16, 17, 18, 19, 20, 21, 22, 23, 24, 25, 26, 27, 28], [0, 1, 2, 3, 4, 5, 6, 7, 8, 9, 10, 11, 12, 13, 14, 15, 16, 17, 18, 19, 20, 21, 22, 23, 24, 25, 26, 27, 28, 29]] [14, 15, 16, 17, 18, 19, 20, 21, 22, 23, 24, 25, 26, 27, 28, 29, 30, 31, 32, 33, 34, 35, 36, 37, 38, 39, 40, 41, 42, 43, 44] Ext.refl (fun _ _ _ => Ext.trans) (Ext.drew _) (by kernel_rfl) ?_
     apply bd 14 k rfl rfl rfl
     case h =>
      intro ax wx hE hR hF
      simp [go_sem, ↓IntWalk.iteOmega, ev (hE.g e6)]
      with_reducible rfl
     apply bd 15 k rfl rfl rfl
     case h =>
      intro ax wx hE hR hF
      have e14 := zhF hF 0 14 ml0
      have q0 : wx.cell? ⟨eb, 0, none⟩ = some (.int .i64 x) := (OwnT.blk (OwnT.ext O hR) 0 rfl).cell 0
      simp [go_sem, ↓IntWalk.iteOmega, ev e14, q0]
      with_reducible rfl
     apply Build.call 16 Ext.refl (by rfl) (by rw [k.size]; rfl) rfl
     case h =>
      intro ax wx hE hR hF
      have e15 := zhF hF 1 15 ml0
      simp [go_sem, ↓IntWalk.iteOmega, ev e15]
      with_reducible exact ⟨rfl, rfl⟩
     case hc => intro wx hR; exact Z24 (show decide (0 ≤ x ∧ x < 64) = false from decide_eq_false h1) wx
     apply bd 17 k rfl rfl rfl
     case h =>
      intro ax wx hE hR hF
      have e16 := zhF hF 2 16 ml0
      exact Z0u rfl e16
     apply bd 18 k rfl rfl rfl
     case h =>
      intro ax wx hE hR hF
      have e17 := zhF hF 3 17 ml0
      exact Z03 rfl e17
     refine Build.skip 19 (by rfl) (by rw [k.size]; rfl) rfl rfl ?_ ?_
     · intro ax wx hE hR hF
       have e18 := zhF hF 4 18 ml0
       exact e18
     refine Build.skip 20 (by rfl) (by rw [k.size]; rfl) rfl rfl ?_ ?_
     · intro ax wx hE hR hF
       have e18 := zhF hF 4 18 ml1
       exact e18
     refine Build.skip 21 (by rfl) (by rw [k.size]; rfl) rfl rfl ?_ ?_
     · intro ax wx hE hR hF
       have e18 := zhF hF 4 18 ml2
       exact e18
     refine Build.skip 22 (by rfl) (by rw [k.size]; rfl) rfl rfl ?_ ?_
     · intro ax wx hE hR hF
       have e18 := zhF hF 4 18 ml3
       exact e18
     apply bd 23 k rfl rfl rfl
     case h =>
      intro ax wx hE hR hF
      have e18 := zhF hF 4 18 ml4
      have e22 := zhF hF 8 22 ml0
      exact Z0a rfl e18 rfl
     apply bd 24 k rfl rfl rfl
     case h =>
      intro ax wx hE hR hF
      have e23 := zhF hF 9 23 ml0
      exact Z03 rfl e23
     refine Build.skip 25 (by rfl) (by rw [k.size]; rfl) rfl rfl ?_ ?_
     · intro ax wx hE hR hF
       have e24 := zhF hF 10 24 ml0
       exact e24
     refine Build.skip 26 (by rfl) (by rw [k.size]; rfl) rfl rfl ?_ ?_
     · intro ax wx hE hR hF
       have e24 := zhF hF 10 24 ml1
       exact e24
     refine Build.skip 27 (by rfl) (by rw [k.size]; rfl) rfl rfl ?_ ?_
     · intro ax wx hE hR hF
       have e24 := zhF hF 10 24 ml2
       exact e24
     refine Build.skip 28 (by rfl) (by rw [k.size]; rfl) rfl rfl ?_ ?_
     · intro ax wx hE hR hF
       have e24 := zhF hF 10 24 ml3
       exact e24
     apply bd 29 k rfl rfl rfl
     case h =>
      intro ax wx hE hR hF
      have e24 := zhF hF 10 24 ml4
      have e28 := zhF hF 14 28 ml0
      exact Z0a rfl e24 rfl
     apply bd 30 k rfl rfl rfl
     case h =>
      intro ax wx hE hR hF
      have e29 := zhF hF 15 29 ml0
      exact Z03 rfl e29
     refine Build.skip 31 (by rfl) (by rw [k.size]; rfl) rfl rfl ?_ ?_
     · intro ax wx hE hR hF
       have e30 := zhF hF 16 30 ml0
       exact e30
     refine Build.skip 32 (by rfl) (by rw [k.size]; rfl) rfl rfl ?_ ?_
     · intro ax wx hE hR hF
       have e30 := zhF hF 16 30 ml1
       exact e30
     refine Build.skip 33 (by rfl) (by rw [k.size]; rfl) rfl rfl ?_ ?_
     · intro ax wx hE hR hF
       have e30 := zhF hF 16 30 ml2
       exact e30
     refine Build.skipu 34 (by rfl) (by rw [k.size]; rfl) rfl rfl ?_ ?_
     · intro ax wx hE hR hF
       have e33 := zhF hF 19 33 ml0
       exact e33
     refine Build.skipu 35 (by rfl) (by rw [k.size]; rfl) rfl rfl ?_ ?_
     · intro ax wx hE hR hF
       have e33 := zhF hF 19 33 ml1
       exact e33
     refine Build.skipu 36 (by rfl) (by rw [k.size]; rfl) rfl rfl ?_ ?_
     · intro ax wx hE hR hF
       have e33 := zhF hF 19 33 ml2
       exact e33
     refine Build.skipu 37 (by rfl) (by rw [k.size]; rfl) rfl rfl ?_ ?_
     · intro ax wx hE hR hF
       have e33 := zhF hF 19 33 ml3
       exact e33
     refine Build.skipu 38 (by rfl) (by rw [k.size]; rfl) rfl rfl ?_ ?_
     · intro ax wx hE hR hF
       have e33 := zhF hF 19 33 ml4
       exact e33
     refine Build.skipu 39 (by rfl) (by rw [k.size]; rfl) rfl rfl ?_ ?_
     · intro ax wx hE hR hF
       have e33 := zhF hF 19 33 ml5
       exact e33
     refine Build.skipu 40 (by rfl) (by rw [k.size]; rfl) rfl rfl ?_ ?_
     · intro ax wx hE hR hF
       have e33 := zhF hF 19 33 ml6
       exact e33
     refine Build.skipu 41 (by rfl) (by rw [k.size]; rfl) rfl rfl ?_ ?_
     · intro ax wx hE hR hF
       have e33 := zhF hF 19 33 ml7
       exact e33
     refine Build.skipu 42 (by rfl) (by rw [k.size]; rfl) rfl rfl ?_ ?_
     · intro ax wx hE hR hF
       have e33 := zhF hF 19 33 ml8
       exact e33
     refine Build.skip 43 (by rfl) (by rw [k.size]; rfl) rfl rfl ?_ ?_
     · intro ax wx hE hR hF
       have e30 := zhF hF 16 30 ml12
       exact e30
     apply bd 44 k rfl rfl rfl
     case h =>
      intro ax wx hE hR hF
      have e30 := zhF hF 16 30 ml13
      have e43 := zhF hF 29 43 ml0
      exact Z0a rfl e30 rfl
     apply Build.stop
     refine ⟨by kernel_rfl, .inl ⟨rfl, ?_⟩⟩
     intro a16 w17 hE R hF
     have e44 : a16.eval (.tmp 44) = _ := hF 30 (det 44 _) ml0
     clear hF
     replace O := OwnT.ext O R
     clear R
     replace e0 := hE.g e0; replace e1 := hE.g e1; replace e7 := hE.g e7; replace e8 := hE.g e8; replace e9 := hE.g e9
     replace k := k.env hE
     clear hE e5 e6
     refine Z01 ?_
     refine Z0b e44 rfl ?_
     refine wp_seq ?_
     refine wp_region_lit ?_
     have hE := Env.refl a16 [4]
     refine sd 4 hE k (Z00 rfl rfl) ?_
     intro a18 hE e4 kp
     refine wpList_nil ?_
     replace k := k.env hE
     clear hE e0 e1 e7 e8 e9 e44
     refine Z01 ?_
     refine wp_ret ?_
     refine Z0q ?_
     refine Z0c ?_
     refine Z0c ?_
     refine Z0q ?_
     refine Z0c ?_
     refine Z0n rfl k e4 ?_
     exact ⟨by rw [show goodE size es = false from decide_eq_false (fun h => by have h0 := h i (by omega); unfold OkE at h0; rw [hx, hc] at h0; exact h1 h0.1)]; rfl, O.tail.below⟩
   by_cases h2 : x < size
   rotate_left
   · skip
     refine wp_seq ?_
     refine Z0f (R := Ext) (w0 := w15) [[], [0], [0, 1], [0, 1, 2], [0, 1, 2, 3], [0, 1, 2, 3, 4], [0, 1, 2, 3, 4, 5], [0, 1, 2, 3, 4], [0, 1, 2, 3, 4, 5, 6, 7], [0, 1, 2, 3, 4, 5, 6, 7, 8], [0, 1, 2, 3, 4, 5, 6, 7, 8, 9], [0, 1, 2, 3, 4, 5, 6, 7, 8, 9, 10], [0, 1, 2, 3, 4, 5, 6, 7, 8, 9, 10, 11], [0, 1, 2, 3, 4, 5, 6, 7, 8, 9, 10, 11, 12], [0, 1, 2, 3, 4, 5, 6, 7, 8, 9, 10, 11, 12, 13], [0, 1, 2, 3, 4, 5, 6, 7, 8, 9, 10, 11, 12, 13, 14], [0, 1, 2, 3, 4, 5, 6, 7, 8, 9, 10, 11, 12, 13, 14, 15], [0, 1, 2, 3, 4, 5, 6, 7, 8, 9, 10, 11, 12, 13, 14, 15, 16], [0, 1, 2, 3, 4, 5, 6, 7, 8, 9, 10, 11, 12, 13, 14, 15, 16, 17], [0, 1, 2, 3, 4, 5, 6, 7, 8, 9, 10, 11, 12, 13, 14, 15, 16, 17, 18], [0, 1, 2, 3, 4, 5, 6, 7, 8, 9, 10, 11, 12, 13, 14, 15, 16, 17, 18, 19], [0, 1, 2, 3, 4, 5, 6, 7, 8, 9, 10, 11, 12, 13, 14, 15, 16, 17, 18, 19], [0, 1, 2, 3, 4, 5, 6, 7, 8, 9, 10, 11, 12, 13, 14, 15, 16, 17, 18, 19, 21], [0, 1, 2, 3, 4, 5, 6, 7, 8, 9, 10, 11, 12, 13, 14, 15, 16, 17, 18, 19, 20, 21, 22], [0, 1, 2, 3, 4, 5, 6, 7, 8, 9, 10, 11, 12, 13, 14, 15, 16, 17, 18, 19, 20, 21, 22, 23], [0, 1, 2, 3, 4, 5, 6, 7, 8, 9, 10, 11, 12, 13, 14, 15, 16, 17, 18, 19, 20, 21, 22, 23, 24], [0, 1, 2, 3, 4, 5, 6, 7, 8, 9, 10, 11, 12, 13, 14, 15, 16, 17, 18, 19], [0, 1, 2, 3, 4, 5, 6, 7, 8, 9, 10, 11, 12, 13, 14, 15, 16, 17, 18, 19, 26], [0, 1, 2, 3, 4, 5, 6, 7, 8, 9, 10, 11, 12, 13, 14, 15, 16, 17, 18, 19, 20, 21, 22, 23, 24, 25, 26, 27], [0, 1, 2, 3, 4, 5, 6, 7, 8, 9, 10, 11, 12, 13, 14, 15, 16, 17, 18, 19, 20, 21, 22, 23, 24, 25, 26, 27, 28], [0, 1, 2, 3, 4, 5, 6, 7, 8, 9, 10, 11, 12, 13, 14, 15, 16, 17, 18, 19, 20, 21, 22, 23, 24, 25, 26, 27, 28, 29]] [14, 15, 16, 17, 18, 19, 20, 21, 22, 23, 24, 25, 26, 27, 28, 29, 30, 31, 32, 33, 34, 35, 36, 37, 38, 39, 40, 41, 42, 43, 44] Ext.refl (fun _ _ _ => Ext.trans) (Ext.drew _) (by kernel_rfl) ?_
     apply bd 14 k rfl rfl rfl
     case h =>
      intro ax wx hE hR hF
      simp [go_sem, ↓IntWalk.iteOmega, ev (hE.g e6)]
      with_reducible rfl
     apply bd 15 k rfl rfl rfl
     case h =>
      intro ax wx hE hR hF
      have e14 := zhF hF 0 14 ml0
      have q0 : wx.cell? ⟨eb, 0, none⟩ = some (.int .i64 x) := (OwnT.blk (OwnT.ext O hR) 0 rfl).cell 0
      simp [go_sem, ↓IntWalk.iteOmega, ev e14, q0]
      with_reducible rfl
     apply Build.call 16 Ext.refl (by rfl) (by rw [k.size]; rfl) rfl
     case h =>
      intro ax wx hE hR hF
      have e15 := zhF hF 1 15 ml0
      simp [go_sem, ↓IntWalk.iteOmega, ev e15]
      with_reducible exact ⟨rfl, rfl⟩
     case hc => intro wx hR; exact Z24 (show decide (0 ≤ x ∧ x < 64) = true from decide_eq_true h1) wx
     apply bd 17 k rfl rfl rfl
     case h =>
      intro ax wx hE hR hF
      have e16 := zhF hF 2 16 ml0
      exact Z0u rfl e16
     apply bd 18 k rfl rfl rfl
     case h =>
      intro ax wx hE hR hF
      have e17 := zhF hF 3 17 ml0
      exact Z03 rfl e17
     apply bdg 19 k rfl rfl rfl rfl
     case h =>
      intro ax wx hE hR hF
      have e18 := zhF hF 4 18 ml0
      refine ⟨e18, ?_⟩
      simp [go_sem, ↓IntWalk.iteOmega, ev (hE.g e6)]
      with_reducible rfl
     apply bdg 20 k rfl rfl rfl rfl
     case h =>
      intro ax wx hE hR hF
      have e19 := zhF hF 5 19 ml0
      have e18 := zhF hF 4 18 ml1
      refine ⟨e18, ?_⟩
      have q0 : wx.cell? ⟨eb, 0, none⟩ = some (.int .i64 x) := (OwnT.blk (OwnT.ext O hR) 0 rfl).cell 0
      simp [go_sem, ↓IntWalk.iteOmega, ev e19, q0]
      with_reducible rfl
     apply bdg 21 k rfl rfl rfl rfl
     case h =>
      intro ax wx hE hR hF
      have e18 := zhF hF 4 18 ml2
      refine ⟨e18, ?_⟩
      exact Z03 rfl (hE.g e1)
     apply bdg 22 k rfl rfl rfl rfl
     case h =>
      intro ax wx hE hR hF
      have e20 := zhF hF 6 20 ml1
      have e21 := zhF hF 7 21 ml0
      have e18 := zhF hF 4 18 ml3
      refine ⟨e18, ?_⟩
      exact Z06 (Z1z rfl e20 e21) (decide_eq_true (by omega))
     apply bd 23 k rfl rfl rfl
     case h =>
      intro ax wx hE hR hF
      have e18 := zhF hF 4 18 ml4
      have e22 := zhF hF 8 22 ml0
      exact Z07 rfl e18 e22
     apply bd 24 k rfl rfl rfl
     case h =>
      intro ax wx hE hR hF
      have e23 := zhF hF 9 23 ml0
      exact Z03 rfl e23
     refine Build.skip 25 (by rfl) (by rw [k.size]; rfl) rfl rfl ?_ ?_
     · intro ax wx hE hR hF
       have e24 := zhF hF 10 24 ml0
       exact e24
     refine Build.skip 26 (by rfl) (by rw [k.size]; rfl) rfl rfl ?_ ?_
     · intro ax wx hE hR hF
       have e24 := zhF hF 10 24 ml1
       exact e24
     refine Build.skip 27 (by rfl) (by rw [k.size]; rfl) rfl rfl ?_ ?_
     · intro ax wx hE hR hF
       have e24 := zhF hF 10 24 ml2
       exact e24
     refine Build.skip 28 (by rfl) (by rw [k.size]; rfl) rfl rfl ?_ ?_
     · intro ax wx hE hR hF
       have e24 := zhF hF 10 24 ml3
       exact e24
     apply bd 29 k rfl rfl rfl
     case h =>
      intro ax wx hE hR hF
      have e24 := zhF hF 10 24 ml4
      have e28 := zhF hF 14 28 ml0
      exact Z0a rfl e24 rfl
     apply bd 30 k rfl rfl rfl
     case h =>
      intro ax wx hE hR hF
      have e29 := zhF hF 15 29 ml0
      exact Z03 rfl e29
     refine Build.skip 31 (by rfl) (by rw [k.size]; rfl) rfl rfl ?_ ?_
     · intro ax wx hE hR hF
       have e30 := zhF hF 16 30 ml0
       exact e30
     refine Build.skip 32 (by rfl) (by rw [k.size]; rfl) rfl rfl ?_ ?_
     · intro ax wx hE hR hF
       have e30 := zhF hF 16 30 ml1
       exact e30
     refine Build.skip 33 (by rfl) (by rw [k.size]; rfl) rfl rfl ?_ ?_
     · intro ax wx hE hR hF
       have e30 := zhF hF 16 30 ml2
       exact e30
     refine Build.skipu 34 (by rfl) (by rw [k.size]; rfl) rfl rfl ?_ ?_
     · intro ax wx hE hR hF
       have e33 := zhF hF 19 33 ml0
       exact e33
     refine Build.skipu 35 (by rfl) (by rw [k.size]; rfl) rfl rfl ?_ ?_
     · intro ax wx hE hR hF
       have e33 := zhF hF 19 33 ml1
       exact e33
     refine Build.skipu 36 (by rfl) (by rw [k.size]; rfl) rfl rfl ?_ ?_
     · intro ax wx hE hR hF
       have e33 := zhF hF 19 33 ml2
       exact e33
     refine Build.skipu 37 (by rfl) (by rw [k.size]; rfl) rfl rfl ?_ ?_
     · intro ax wx hE hR hF
       have e33 := zhF hF 19 33 ml3
       exact e33
     refine Build.skipu 38 (by rfl) (by rw [k.size]; rfl) rfl rfl ?_ ?_
     · intro ax wx hE hR hF
       have e33 := zhF hF 19 33 ml4
       exact e33
     refine Build.skipu 39 (by rfl) (by rw [k.size]; rfl) rfl rfl ?_ ?_
     · intro ax wx hE hR hF
       have e33 := zhF hF 19 33 ml5
       exact e33
     refine Build.skipu 40 (by rfl) (by rw [k.size]; rfl) rfl rfl ?_ ?_
     · intro ax wx hE hR hF
       have e33 := zhF hF 19 33 ml6
       exact e33
     refine Build.skipu 41 (by rfl) (by rw [k.size]; rfl) rfl rfl ?_ ?_
     · intro ax wx hE hR hF
       have e33 := zhF hF 19 33 ml7
       exact e33
     refine Build.skipu 42 (by rfl) (by rw [k.size]; rfl) rfl rfl ?_ ?_
     · intro ax wx hE hR hF
       have e33 := zhF hF 19 33 ml8
       exact e33
     refine Build.skip 43 (by rfl) (by rw [k.size]; rfl) rfl rfl ?_ ?_
     · intro ax wx hE hR hF
       have e30 := zhF hF 16 30 ml12
       exact e30
     apply bd 44 k rfl rfl rfl
     case h =>
      intro ax wx hE hR hF
      have e30 := zhF hF 16 30 ml13
      have e43 := zhF hF 29 43 ml0
      exact Z0a rfl e30 rfl
     apply Build.stop
     refine ⟨by kernel_rfl, .inl ⟨rfl, ?_⟩⟩
     intro a19 w20 hE R hF
     have e44 : a19.eval (.tmp 44) = _ := hF 30 (det 44 _) ml0
     clear hF
     replace O := OwnT.ext O R
     clear R
     replace e0 := hE.g e0; replace e1 := hE.g e1; replace e7 := hE.g e7; replace e8 := hE.g e8; replace e9 := hE.g e9
     replace k := k.env hE
     clear hE e5 e6
     refine Z01 ?_
     refine Z0b e44 rfl ?_
     refine wp_seq ?_
     refine wp_region_lit ?_
     have hE := Env.refl a19 [4]
     refine sd 4 hE k (Z00 rfl rfl) ?_
     intro a21 hE e4 kp
     refine wpList_nil ?_
     replace k := k.env hE
     clear hE e0 e1 e7 e8 e9 e44
     refine Z01 ?_
     refine wp_ret ?_
     refine Z0q ?_
     refine Z0c ?_
     refine Z0c ?_
     refine Z0q ?_
     refine Z0c ?_
     refine Z0n rfl k e4 ?_
     exact ⟨by rw [show goodE size es = false from decide_eq_false (fun h => by have h0 := h i (by omega); unfold OkE at h0; rw [hx, hc] at h0; exact h2 h0.2.1)]; rfl, O.tail.below⟩
   by_cases h3 : 1 ≤ c ∧ c ≤ 1023
   rotate_left
   · skip
     refine wp_seq ?_
     refine Z0f (R := Ext) (w0 := w15) [[], [0], [0, 1], [0, 1, 2], [0, 1, 2, 3], [0, 1, 2, 3, 4], [0, 1, 2, 3, 4, 5], [0, 1, 2, 3, 4], [0, 1, 2, 3, 4, 5, 6, 7], [0, 1, 2, 3, 4, 5, 6, 7, 8], [0, 1, 2, 3, 4, 5, 6, 7, 8, 9], [0, 1, 2, 3, 4, 5, 6, 7, 8, 9, 10], [0, 1, 2, 3, 4, 5, 6, 7, 8, 9, 10, 11], [0, 1, 2, 3, 4, 5, 6, 7, 8, 9, 10, 11, 12], [0, 1, 2, 3, 4, 5, 6, 7, 8, 9, 10, 11, 12, 13], [0, 1, 2, 3, 4, 5, 6, 7, 8, 9, 10, 11, 12, 13, 14], [0, 1, 2, 3, 4, 5, 6, 7, 8, 9, 10, 11, 12, 13, 14, 15], [0, 1, 2, 3, 4, 5, 6, 7, 8, 9, 10, 11, 12, 13, 14, 15, 16], [0, 1, 2, 3, 4, 5, 6, 7, 8, 9, 10, 11, 12, 13, 14, 15, 16, 17], [0, 1, 2, 3, 4, 5, 6, 7, 8, 9, 10, 11, 12, 13, 14, 15, 16, 17, 18], [0, 1, 2, 3, 4, 5, 6, 7, 8, 9, 10, 11, 12, 13, 14, 15, 16, 17, 18, 19], [0, 1, 2, 3, 4, 5, 6, 7, 8, 9, 10, 11, 12, 13, 14, 15, 16, 17, 18, 19], [0, 1, 2, 3, 4, 5, 6, 7, 8, 9, 10, 11, 12, 13, 14, 15, 16, 17, 18, 19, 21], [0, 1, 2, 3, 4, 5, 6, 7, 8, 9, 10, 11, 12, 13, 14, 15, 16, 17, 18, 19, 20, 21, 22], [0, 1, 2, 3, 4, 5, 6, 7, 8, 9, 10, 11, 12, 13, 14, 15, 16, 17, 18, 19, 20, 21, 22, 23], [0, 1, 2, 3, 4, 5, 6, 7, 8, 9, 10, 11, 12, 13, 14, 15, 16, 17, 18, 19, 20, 21, 22, 23, 24], [0, 1, 2, 3, 4, 5, 6, 7, 8, 9, 10, 11, 12, 13, 14, 15, 16, 17, 18, 19], [0, 1, 2, 3, 4, 5, 6, 7, 8, 9, 10, 11, 12, 13, 14, 15, 16, 17, 18, 19, 26], [0, 1, 2, 3, 4, 5, 6, 7, 8, 9, 10, 11, 12, 13, 14, 15, 16, 17, 18, 19, 20, 21, 22, 23, 24, 25, 26, 27], [0, 1, 2, 3, 4, 5, 6, 7, 8, 9, 10, 11, 12, 13, 14, 15, 16, 17, 18, 19, 20, 21, 22, 23, 24, 25, 26, 27, 28], [0, 1, 2, 3, 4, 5, 6, 7, 8, 9, 10, 11, 12, 13, 14, 15, 16, 17, 18, 19, 20, 21, 22, 23, 24, 25, 26, 27, 28, 29]] [14, 15, 16, 17, 18, 19, 20, 21, 22, 23, 24, 25, 26, 27, 28, 29, 30, 31, 32, 33, 34, 35, 36, 37, 38, 39, 40, 41, 42, 43, 44] Ext.refl (fun _ _ _ => Ext.trans) (Ext.drew _) (by kernel_rfl) ?_
     apply bd 14 k rfl rfl rfl
     case h =>
      intro ax wx hE hR hF
      simp [go_sem, ↓IntWalk.iteOmega, ev (hE.g e6)]
      with_reducible rfl
     apply bd 15 k rfl rfl rfl
     case h =>
      intro ax wx hE hR hF
      have e14 := zhF hF 0 14 ml0
      have q0 : wx.cell? ⟨eb, 0, none⟩ = some (.int .i64 x) := (OwnT.blk (OwnT.ext O hR) 0 rfl).cell 0
      simp [go_sem, ↓IntWalk.iteOmega, ev e14, q0]
      with_reducible rfl
     apply Build.call 16 Ext.refl (by rfl) (by rw [k.size]; rfl) rfl
     case h =>
      intro ax wx hE hR hF
      have e15 := zhF hF 1 15 ml0
      simp [go_sem, ↓IntWalk.iteOmega, ev e15]
      with_reducible exact ⟨rfl, rfl⟩
     case hc => intro wx hR; exact Z24 (show decide (0 ≤ x ∧ x < 64) = true from decide_eq_true h1) wx
     apply bd 17 k rfl rfl rfl
     case h =>
      intro ax wx hE hR hF
      have e16 := zhF hF 2 16 ml0
      exact Z0u rfl e16
     apply bd 18 k rfl rfl rfl
     case h =>
      intro ax wx hE hR hF
      have e17 := zhF hF 3 17 ml0
      exact Z03 rfl e17
     apply bdg 19 k rfl rfl rfl rfl
     case h =>
      intro ax wx hE hR hF
      have e18 := zhF hF 4 18 ml0
      refine ⟨e18, ?_⟩
      simp [go_sem, ↓IntWalk.iteOmega, ev (hE.g e6)]
      with_reducible rfl
     apply bdg 20 k rfl rfl rfl rfl
     case h =>
      intro ax wx hE hR hF
      have e19 := zhF hF 5 19 ml0
      have e18 := zhF hF 4 18 ml1
      refine ⟨e18, ?_⟩
      have q0 : wx.cell? ⟨eb, 0, none⟩ = some (.int .i64 x) := (OwnT.blk (OwnT.ext O hR) 0 rfl).cell 0
      simp [go_sem, ↓IntWalk.iteOmega, ev e19, q0]
      with_reducible rfl
     apply bdg 21 k rfl rfl rfl rfl
     case h =>
      intro ax wx hE hR hF
      have e18 := zhF hF 4 18 ml2
      refine ⟨e18, ?_⟩
      exact Z03 rfl (hE.g e1)
     apply bdg 22 k rfl rfl rfl rfl
     case h =>
      intro ax wx hE hR hF
      have e20 := zhF hF 6 20 ml1
      have e21 := zhF hF 7 21 ml0
      have e18 := zhF hF 4 18 ml3
      refine ⟨e18, ?_⟩
      exact Z06 (Z1z rfl e20 e21) (decide_eq_false (by omega))
     apply bd 23 k rfl rfl rfl
     case h =>
      intro ax wx hE hR hF
      have e18 := zhF hF 4 18 ml4
      have e22 := zhF hF 8 22 ml0
      exact Z07 rfl e18 e22
     apply bd 24 k rfl rfl rfl
     case h =>
      intro ax wx hE hR hF
      have e23 := zhF hF 9 23 ml0
      exact Z03 rfl e23
     apply bdg 25 k rfl rfl rfl rfl
     case h =>
      intro ax wx hE hR hF
      have e24 := zhF hF 10 24 ml0
      refine ⟨e24, ?_⟩
      simp [go_sem, ↓IntWalk.iteOmega, ev (hE.g e6)]
      with_reducible rfl
     apply bdg 26 k rfl rfl rfl rfl
     case h =>
      intro ax wx hE hR hF
      have e25 := zhF hF 11 25 ml0
      have e24 := zhF hF 10 24 ml1
      refine ⟨e24, ?_⟩
      have q0 : wx.cell? ⟨eb, 1, none⟩ = some (.int .i64 c) := (OwnT.blk (OwnT.ext O hR) 0 rfl).cell 1
      simp [go_sem, ↓IntWalk.iteOmega, ev e25, q0]
      with_reducible rfl
     apply Build.callg 27 Ext.refl (by rfl) (by rw [k.size]; rfl) rfl rfl
     case h =>
      intro ax wx hE hR hF
      have e26 := zhF hF 12 26 ml0
      have e24 := zhF hF 10 24 ml2
      refine ⟨e24, ?_⟩
      simp [go_sem, ↓IntWalk.iteOmega, ev e26]
      with_reducible exact ⟨rfl, rfl⟩
     case hc => intro wx hR; exact Z2u (show decide (1 ≤ c ∧ c ≤ 1023) = false from decide_eq_false h3) wx
     apply bdg 28 k rfl rfl rfl rfl
     case h =>
      intro ax wx hE hR hF
      have e27 := zhF hF 13 27 ml0
      have e24 := zhF hF 10 24 ml3
      refine ⟨e24, ?_⟩
      exact Z0u rfl e27
     apply bd 29 k rfl rfl rfl
     case h =>
      intro ax wx hE hR hF
      have e24 := zhF hF 10 24 ml4
      have e28 := zhF hF 14 28 ml0
      exact Z07 rfl e24 e28
     apply bd 30 k rfl rfl rfl
     case h =>
      intro ax wx hE hR hF
      have e29 := zhF hF 15 29 ml0
      exact Z03 rfl e29
     refine Build.skip 31 (by rfl) (by rw [k.size]; rfl) rfl rfl ?_ ?_
     · intro ax wx hE hR hF
       have e30 := zhF hF 16 30 ml0
       exact e30
     refine Build.skip 32 (by rfl) (by rw [k.size]; rfl) rfl rfl ?_ ?_
     · intro ax wx hE hR hF
       have e30 := zhF hF 16 30 ml1
       exact e30
     refine Build.skip 33 (by rfl) (by rw [k.size]; rfl) rfl rfl ?_ ?_
     · intro ax wx hE hR hF
       have e30 := zhF hF 16 30 ml2
       exact e30
     refine Build.skipu 34 (by rfl) (by rw [k.size]; rfl) rfl rfl ?_ ?_
     · intro ax wx hE hR hF
       have e33 := zhF hF 19 33 ml0
       exact e33
     refine Build.skipu 35 (by rfl) (by rw [k.size]; rfl) rfl rfl ?_ ?_
     · intro ax wx hE hR hF
       have e33 := zhF hF 19 33 ml1
       exact e33
     refine Build.skipu 36 (by rfl) (by rw [k.size]; rfl) rfl rfl ?_ ?_
     · intro ax wx hE hR hF
       have e33 := zhF hF 19 33 ml2
       exact e33
     refine Build.skipu 37 (by rfl) (by rw [k.size]; rfl) rfl rfl ?_ ?_
     · intro ax wx hE hR hF
       have e33 := zhF hF 19 33 ml3
       exact e33
     refine Build.skipu 38 (by rfl) (by rw [k.size]; rfl) rfl rfl ?_ ?_
     · intro ax wx hE hR hF
       have e33 := zhF hF 19 33 ml4
       exact e33
     refine Build.skipu 39 (by rfl) (by rw [k.size]; rfl) rfl rfl ?_ ?_
     · intro ax wx hE hR hF
       have e33 := zhF hF 19 33 ml5
       exact e33
     refine Build.skipu 40 (by rfl) (by rw [k.size]; rfl) rfl rfl ?_ ?_
     · intro ax wx hE hR hF
       have e33 := zhF hF 19 33 ml6
       exact e33
     refine Build.skipu 41 (by rfl) (by rw [k.size]; rfl) rfl rfl ?_ ?_
     · intro ax wx hE hR hF
       have e33 := zhF hF 19 33 ml7
       exact e33
     refine Build.skipu 42 (by rfl) (by rw [k.size]; rfl) rfl rfl ?_ ?_
     · intro ax wx hE hR hF
       have e33 := zhF hF 19 33 ml8
       exact e33
     refine Build.skip 43 (by rfl) (by rw [k.size]; rfl) rfl rfl ?_ ?_
     · intro ax wx hE hR hF
       have e30 := zhF hF 16 30 ml12
       exact e30
     apply bd 44 k rfl rfl rfl
     case h =>
      intro ax wx hE hR hF
      have e30 := zhF hF 16 30 ml13
      have e43 := zhF hF 29 43 ml0
      exact Z0a rfl e30 rfl
     apply Build.stop
     refine ⟨by kernel_rfl, .inl ⟨rfl, ?_⟩⟩
     intro a22 w23 hE R hF
     have e44 : a22.eval (.tmp 44) = _ := hF 30 (det 44 _) ml0
     clear hF
     replace O := OwnT.ext O R
     clear R
     replace e0 := hE.g e0; replace e1 := hE.g e1; replace e7 := hE.g e7; replace e8 := hE.g e8; replace e9 := hE.g e9
     replace k := k.env hE
     clear hE e5 e6
     refine Z01 ?_
     refine Z0b e44 rfl ?_
     refine wp_seq ?_
     refine wp_region_lit ?_
     have hE := Env.refl a22 [4]
     refine sd 4 hE k (Z00 rfl rfl) ?_
     intro a24 hE e4 kp
     refine wpList_nil ?_
     replace k := k.env hE
     clear hE e0 e1 e7 e8 e9 e44
     refine Z01 ?_
     refine wp_ret ?_
     refine Z0q ?_
     refine Z0c ?_
     refine Z0c ?_
     refine Z0q ?_
     refine Z0c ?_
     refine Z0n rfl k e4 ?_
     exact ⟨by rw [show goodE size es = false from decide_eq_false (fun h => by have h0 := h i (by omega); unfold OkE at h0; rw [hx, hc] at h0; exact h3 h0.2.2.1)]; rfl, O.tail.below⟩
   rcases Nat.eq_zero_or_pos i with hi0 | hi0
   · skip
     refine wp_seq ?_
     refine Z0f (R := Ext) (w0 := w15) [[], [0], [0, 1], [0, 1, 2], [0, 1, 2, 3], [0, 1, 2, 3, 4], [0, 1, 2, 3, 4, 5], [0, 1, 2, 3, 4], [0, 1, 2, 3, 4, 5, 6, 7], [0, 1, 2, 3, 4, 5, 6, 7, 8], [0, 1, 2, 3, 4, 5, 6, 7, 8, 9], [0, 1, 2, 3, 4, 5, 6, 7, 8, 9, 10], [0, 1, 2, 3, 4, 5, 6, 7, 8, 9, 10, 11], [0, 1, 2, 3, 4, 5, 6, 7, 8, 9, 10, 11, 12], [0, 1, 2, 3, 4, 5, 6, 7, 8, 9, 10, 11, 12, 13], [0, 1, 2, 3, 4, 5, 6, 7, 8, 9, 10, 11, 12, 13, 14], [0, 1, 2, 3, 4, 5, 6, 7, 8, 9, 10, 11, 12, 13, 14, 15], [0, 1, 2, 3, 4, 5, 6, 7, 8, 9, 10, 11, 12, 13, 14, 15, 16], [0, 1, 2, 3, 4, 5, 6, 7, 8, 9, 10, 11, 12, 13, 14, 15, 16, 17], [0, 1, 2, 3, 4, 5, 6, 7, 8, 9, 10, 11, 12, 13, 14, 15, 16, 17, 18], [0, 1, 2, 3, 4, 5, 6, 7, 8, 9, 10, 11, 12, 13, 14, 15, 16, 17, 18, 19], [0, 1, 2, 3, 4, 5, 6, 7, 8, 9, 10, 11, 12, 13, 14, 15, 16, 17, 18, 19], [0, 1, 2, 3, 4, 5, 6, 7, 8, 9, 10, 11, 12, 13, 14, 15, 16, 17, 18, 19, 21], [0, 1, 2, 3, 4, 5, 6, 7, 8, 9, 10, 11, 12, 13, 14, 15, 16, 17, 18, 19, 20, 21, 22], [0, 1, 2, 3, 4, 5, 6, 7, 8, 9, 10, 11, 12, 13, 14, 15, 16, 17, 18, 19, 20, 21, 22, 23], [0, 1, 2, 3, 4, 5, 6, 7, 8, 9, 10, 11, 12, 13, 14, 15, 16, 17, 18, 19, 20, 21, 22, 23, 24], [0, 1, 2, 3, 4, 5, 6, 7, 8, 9, 10, 11, 12, 13, 14, 15, 16, 17, 18, 19], [0, 1, 2, 3, 4, 5, 6, 7, 8, 9, 10, 11, 12, 13, 14, 15, 16, 17, 18, 19, 26], [0, 1, 2, 3, 4, 5, 6, 7, 8, 9, 10, 11, 12, 13, 14, 15, 16, 17, 18, 19, 20, 21, 22, 23, 24, 25, 26, 27], [0, 1, 2, 3, 4, 5, 6, 7, 8, 9, 10, 11, 12, 13, 14, 15, 16, 17, 18, 19, 20, 21, 22, 23, 24, 25, 26, 27, 28], [0, 1, 2, 3, 4, 5, 6, 7, 8, 9, 10, 11, 12, 13, 14, 15, 16, 17, 18, 19, 20, 21, 22, 23, 24, 25, 26, 27, 28, 29]] [14, 15, 16, 17, 18, 19, 20, 21, 22, 23, 24, 25, 26, 27, 28, 29, 30, 31, 32, 33, 34, 35, 36, 37, 38, 39, 40, 41, 42, 43, 44] Ext.refl (fun _ _ _ => Ext.trans) (Ext.drew _) (by kernel_rfl) ?_
     apply bd 14 k rfl rfl rfl
     case h =>
      intro ax wx hE hR hF
      simp [go_sem, ↓IntWalk.iteOmega, ev (hE.g e6)]
      with_reducible rfl
     apply bd 15 k rfl rfl rfl
     case h =>
      intro ax wx hE hR hF
      have e14 := zhF hF 0 14 ml0
      have q0 : wx.cell? ⟨eb, 0, none⟩ = some (.int .i64 x) := (OwnT.blk (OwnT.ext O hR) 0 rfl).cell 0
      simp [go_sem, ↓IntWalk.iteOmega, ev e14, q0]
      with_reducible rfl
     apply Build.call 16 Ext.refl (by rfl) (by rw [k.size]; rfl) rfl
     case h =>
      intro ax wx hE hR hF
      have e15 := zhF hF 1 15 ml0
      simp [go_sem, ↓IntWalk.iteOmega, ev e15]
      with_reducible exact ⟨rfl, rfl⟩
     case hc => intro wx hR; exact Z24 (show decide (0 ≤ x ∧ x < 64) = true from decide_eq_true h1) wx
     apply bd 17 k rfl rfl rfl
     case h =>
      intro ax wx hE hR hF
      have e16 := zhF hF 2 16 ml0
      exact Z0u rfl e16
     apply bd 18 k rfl rfl rfl
     case h =>
      intro ax wx hE hR hF
      have e17 := zhF hF 3 17 ml0
      exact Z03 rfl e17
     apply bdg 19 k rfl rfl rfl rfl
     case h =>
      intro ax wx hE hR hF
      have e18 := zhF hF 4 18 ml0
      refine ⟨e18, ?_⟩
      simp [go_sem, ↓IntWalk.iteOmega, ev (hE.g e6)]
      with_reducible rfl
     apply bdg 20 k rfl rfl rfl rfl
     case h =>
      intro ax wx hE hR hF
      have e19 := zhF hF 5 19 ml0
      have e18 := zhF hF 4 18 ml1
      refine ⟨e18, ?_⟩
      have q0 : wx.cell? ⟨eb, 0, none⟩ = some (.int .i64 x) := (OwnT.blk (OwnT.ext O hR) 0 rfl).cell 0
      simp [go_sem, ↓IntWalk.iteOmega, ev e19, q0]
      with_reducible rfl
     apply bdg 21 k rfl rfl rfl rfl
     case h =>
      intro ax wx hE hR hF
      have e18 := zhF hF 4 18 ml2
      refine ⟨e18, ?_⟩
      exact Z03 rfl (hE.g e1)
     apply bdg 22 k rfl rfl rfl rfl
     case h =>
      intro ax wx hE hR hF
      have e20 := zhF hF 6 20 ml1
      have e21 := zhF hF 7 21 ml0
      have e18 := zhF hF 4 18 ml3
      refine ⟨e18, ?_⟩
      exact Z06 (Z1z rfl e20 e21) (decide_eq_false (by omega))
     apply bd 23 k rfl rfl rfl
     case h =>
      intro ax wx hE hR hF
      have e18 := zhF hF 4 18 ml4
      have e22 := zhF hF 8 22 ml0
      exact Z07 rfl e18 e22
     apply bd 24 k rfl rfl rfl
     case h =>
      intro ax wx hE hR hF
      have e23 := zhF hF 9 23 ml0
      exact Z03 rfl e23
     apply bdg 25 k rfl rfl rfl rfl
     case h =>
      intro ax wx hE hR hF
      have e24 := zhF hF 10 24 ml0
      refine ⟨e24, ?_⟩
      simp [go_sem, ↓IntWalk.iteOmega, ev (hE.g e6)]
      with_reducible rfl
     apply bdg 26 k rfl rfl rfl rfl
     case h =>
      intro ax wx hE hR hF
      have e25 := zhF hF 11 25 ml0
      have e24 := zhF hF 10 24 ml1
      refine ⟨e24, ?_⟩
      have q0 : wx.cell? ⟨eb, 1, none⟩ = some (.int .i64 c) := (OwnT.blk (OwnT.ext O hR) 0 rfl).cell 1
      simp [go_sem, ↓IntWalk.iteOmega, ev e25, q0]
      with_reducible rfl
     apply Build.callg 27 Ext.refl (by rfl) (by rw [k.size]; rfl) rfl rfl
     case h =>
      intro ax wx hE hR hF
      have e26 := zhF hF 12 26 ml0
      have e24 := zhF hF 10 24 ml2
      refine ⟨e24, ?_⟩
      simp [go_sem, ↓IntWalk.iteOmega, ev e26]
      with_reducible exact ⟨rfl, rfl⟩
     case hc => intro wx hR; exact Z2u (show decide (1 ≤ c ∧ c ≤ 1023) = true from decide_eq_true h3) wx
     apply bdg 28 k rfl rfl rfl rfl
     case h =>
      intro ax wx hE hR hF
      have e27 := zhF hF 13 27 ml0
      have e24 := zhF hF 10 24 ml3
      refine ⟨e24, ?_⟩
      exact Z0u rfl e27
     apply bd 29 k rfl rfl rfl
     case h =>
      intro ax wx hE hR hF
      have e24 := zhF hF 10 24 ml4
      have e28 := zhF hF 14 28 ml0
      exact Z07 rfl e24 e28
     apply bd 30 k rfl rfl rfl
     case h =>
      intro ax wx hE hR hF
      have e29 := zhF hF 15 29 ml0
      exact Z03 rfl e29
     apply bdg 31 k rfl rfl rfl rfl
     case h =>
      intro ax wx hE hR hF
      have e30 := zhF hF 16 30 ml0
      refine ⟨e30, ?_⟩
      exact Z03 rfl (hE.g e5)
     apply bdg 32 k rfl rfl rfl rfl
     case h =>
      intro ax wx hE hR hF
      have e31 := zhF hF 17 31 ml0
      have e30 := zhF hF 16 30 ml1
      refine ⟨e30, ?_⟩
      exact Z06 (Z21 rfl e31 rfl) (decide_eq_false (by omega))
     apply bdg 33 k rfl rfl rfl rfl
     case h =>
      intro ax wx hE hR hF
      have e32 := zhF hF 18 32 ml0
      have e30 := zhF hF 16 30 ml2
      refine ⟨e30, ?_⟩
      exact Z03 rfl e32
     refine Build.skip 34 (by rfl) (by rw [k.size]; rfl) rfl rfl ?_ ?_
     · intro ax wx hE hR hF
       have e33 := zhF hF 19 33 ml0
       exact e33
     refine Build.skip 35 (by rfl) (by rw [k.size]; rfl) rfl rfl ?_ ?_
     · intro ax wx hE hR hF
       have e33 := zhF hF 19 33 ml1
       exact e33
     refine Build.skip 36 (by rfl) (by rw [k.size]; rfl) rfl rfl ?_ ?_
     · intro ax wx hE hR hF
       have e33 := zhF hF 19 33 ml2
       exact e33
     refine Build.skip 37 (by rfl) (by rw [k.size]; rfl) rfl rfl ?_ ?_
     · intro ax wx hE hR hF
       have e33 := zhF hF 19 33 ml3
       exact e33
     refine Build.skip 38 (by rfl) (by rw [k.size]; rfl) rfl rfl ?_ ?_
     · intro ax wx hE hR hF
       have e33 := zhF hF 19 33 ml4
       exact e33
     refine Build.skip 39 (by rfl) (by rw [k.size]; rfl) rfl rfl ?_ ?_
     · intro ax wx hE hR hF
       have e33 := zhF hF 19 33 ml5
       exact e33
     refine Build.skip 40 (by rfl) (by rw [k.size]; rfl) rfl rfl ?_ ?_
     · intro ax wx hE hR hF
       have e33 := zhF hF 19 33 ml6
       exact e33
     refine Build.skip 41 (by rfl) (by rw [k.size]; rfl) rfl rfl ?_ ?_
     · intro ax wx hE hR hF
       have e33 := zhF hF 19 33 ml7
       exact e33
     refine Build.skip 42 (by rfl) (by rw [k.size]; rfl) rfl rfl ?_ ?_
     · intro ax wx hE hR hF
       have e33 := zhF hF 19 33 ml8
       exact e33
     apply bdg 43 k rfl rfl rfl rfl
     case h =>
      intro ax wx hE hR hF
      have e33 := zhF hF 19 33 ml9
      have e42 := zhF hF 28 42 ml0
      have e30 := zhF hF 16 30 ml12
      refine ⟨e30, ?_⟩
      exact Z07 rfl e33 rfl
     apply bd 44 k rfl rfl rfl
     case h =>
      intro ax wx hE hR hF
      have e30 := zhF hF 16 30 ml13
      have e43 := zhF hF 29 43 ml0
      exact Z07 rfl e30 e43
     apply Build.stop
     refine ⟨by kernel_rfl, .inl ⟨rfl, ?_⟩⟩
     intro a25 w26 hE R hF
     have e44 : a25.eval (.tmp 44) = _ := hF 30 (det 44 _) ml0
     clear hF
     replace O := OwnT.ext O R
     clear R
     replace e0 := hE.g e0; replace e1 := hE.g e1; replace e7 := hE.g e7; replace e8 := hE.g e8; replace e9 := hE.g e9
     replace k := k.env hE
     clear hE e5 e6
     refine Z01 ?_
     refine Z05 e44 rfl ?_
     refine wp_skip ?_
     refine Z0i ?_
     refine Z01 ?_
     refine wp_region_lit ?_
     have hE := Env.refl a25 [45, 9]
     refine sd 45 hE k (Z12 rfl e9 rfl (by omega)) ?_
     intro a27 hE e45 kp
     replace e9 := kt kp e9
     refine sd 9 hE k (Z03 rfl e45) ?_
     intro a28 hE e9 kp
     refine wpList_nil ?_
     replace e0 := hE.g e0; replace e1 := hE.g e1; replace e7 := hE.g e7; replace e8 := hE.g e8
     replace k := k.env hE
     clear hE e44
     refine Z01 ?_
     replace O : OwnT _ _ ([]) w26 := OwnT.pick O [] (by decide)
     refine ⟨⟨k, e0, e1, e7, e8, i + 1, e9, by omega, fun j hj => ?_, O⟩, ?_⟩
     · by_cases e : j = i
       · rw [e]; unfold OkE; rw [hx, hc]; exact ⟨h1, h2, h3, fun h => absurd h (by omega)⟩
       · exact hall j (by omega)
     · rw [e9, mi]; simp only [intOf]; omega
   · obtain ⟨p, hp⟩ : ∃ p, i - 1 = p := ⟨_, rfl⟩
     obtain ⟨y, hy⟩ : ∃ y, atE es p = y := ⟨_, rfl⟩
     have hpI : (p : Int) < (n : Int) := by omega
     by_cases h4 : y < x
     · skip
       refine wp_seq ?_
       refine Z0f (R := Ext) (w0 := w15) [[], [0], [0, 1], [0, 1, 2], [0, 1, 2, 3], [0, 1, 2, 3, 4], [0, 1, 2, 3, 4, 5], [0, 1, 2, 3, 4], [0, 1, 2, 3, 4, 5, 6, 7], [0, 1, 2, 3, 4, 5, 6, 7, 8], [0, 1, 2, 3, 4, 5, 6, 7, 8, 9], [0, 1, 2, 3, 4, 5, 6, 7, 8, 9, 10], [0, 1, 2, 3, 4, 5, 6, 7, 8, 9, 10, 11], [0, 1, 2, 3, 4, 5, 6, 7, 8, 9, 10, 11, 12], [0, 1, 2, 3, 4, 5, 6, 7, 8, 9, 10, 11, 12, 13], [0, 1, 2, 3, 4, 5, 6, 7, 8, 9, 10, 11, 12, 13, 14], [0, 1, 2, 3, 4, 5, 6, 7, 8, 9, 10, 11, 12, 13, 14, 15], [0, 1, 2, 3, 4, 5, 6, 7, 8, 9, 10, 11, 12, 13, 14, 15, 16], [0, 1, 2, 3, 4, 5, 6, 7, 8, 9, 10, 11, 12, 13, 14, 15, 16, 17], [0, 1, 2, 3, 4, 5, 6, 7, 8, 9, 10, 11, 12, 13, 14, 15, 16, 17, 18], [0, 1, 2, 3, 4, 5, 6, 7, 8, 9, 10, 11, 12, 13, 14, 15, 16, 17, 18, 19], [0, 1, 2, 3, 4, 5, 6, 7, 8, 9, 10, 11, 12, 13, 14, 15, 16, 17, 18, 19], [0, 1, 2, 3, 4, 5, 6, 7, 8, 9, 10, 11, 12, 13, 14, 15, 16, 17, 18, 19, 21], [0, 1, 2, 3, 4, 5, 6, 7, 8, 9, 10, 11, 12, 13, 14, 15, 16, 17, 18, 19, 20, 21, 22], [0, 1, 2, 3, 4, 5, 6, 7, 8, 9, 10, 11, 12, 13, 14, 15, 16, 17, 18, 19, 20, 21, 22, 23], [0, 1, 2, 3, 4, 5, 6, 7, 8, 9, 10, 11, 12, 13, 14, 15, 16, 17, 18, 19, 20, 21, 22, 23, 24], [0, 1, 2, 3, 4, 5, 6, 7, 8, 9, 10, 11, 12, 13, 14, 15, 16, 17, 18, 19], [0, 1, 2, 3, 4, 5, 6, 7, 8, 9, 10, 11, 12, 13, 14, 15, 16, 17, 18, 19, 26], [0, 1, 2, 3, 4, 5, 6, 7, 8, 9, 10, 11, 12, 13, 14, 15, 16, 17, 18, 19, 20, 21, 22, 23, 24, 25, 26, 27], [0, 1, 2, 3, 4, 5, 6, 7, 8, 9, 10, 11, 12, 13, 14, 15, 16, 17, 18, 19, 20, 21, 22, 23, 24, 25, 26, 27, 28], [0, 1, 2, 3, 4, 5, 6, 7, 8, 9, 10, 11, 12, 13, 14, 15, 16, 17, 18, 19, 20, 21, 22, 23, 24, 25, 26, 27, 28, 29]] [14, 15, 16, 17, 18, 19, 20, 21, 22, 23, 24, 25, 26, 27, 28, 29, 30, 31, 32, 33, 34, 35, 36, 37, 38, 39, 40, 41, 42, 43, 44] Ext.refl (fun _ _ _ => Ext.trans) (Ext.drew _) (by kernel_rfl) ?_
       apply bd 14 k rfl rfl rfl
       case h =>
        intro ax wx hE hR hF
        simp [go_sem, ↓IntWalk.iteOmega, ev (hE.g e6)]
        with_reducible rfl
       apply bd 15 k rfl rfl rfl
       case h =>
        intro ax wx hE hR hF
        have e14 := zhF hF 0 14 ml0
        have q0 : wx.cell? ⟨eb, 0, none⟩ = some (.int .i64 x) := (OwnT.blk (OwnT.ext O hR) 0 rfl).cell 0
        simp [go_sem, ↓IntWalk.iteOmega, ev e14, q0]
        with_reducible rfl
       apply Build.call 16 Ext.refl (by rfl) (by rw [k.size]; rfl) rfl
       case h =>
        intro ax wx hE hR hF
        have e15 := zhF hF 1 15 ml0
        simp [go_sem, ↓IntWalk.iteOmega, ev e15]
        with_reducible exact ⟨rfl, rfl⟩
       case hc => intro wx hR; exact Z24 (show decide (0 ≤ x ∧ x < 64) = true from decide_eq_true h1) wx
       apply bd 17 k rfl rfl rfl
       case h =>
        intro ax wx hE hR hF
        have e16 := zhF hF 2 16 ml0
        exact Z0u rfl e16
       apply bd 18 k rfl rfl rfl
       case h =>
        intro ax wx hE hR hF
        have e17 := zhF hF 3 17 ml0
        exact Z03 rfl e17
       apply bdg 19 k rfl rfl rfl rfl
       case h =>
        intro ax wx hE hR hF
        have e18 := zhF hF 4 18 ml0
        refine ⟨e18, ?_⟩
        simp [go_sem, ↓IntWalk.iteOmega, ev (hE.g e6)]
        with_reducible rfl
       apply bdg 20 k rfl rfl rfl rfl
       case h =>
        intro ax wx hE hR hF
        have e19 := zhF hF 5 19 ml0
        have e18 := zhF hF 4 18 ml1
        refine ⟨e18, ?_⟩
        have q0 : wx.cell? ⟨eb, 0, none⟩ = some (.int .i64 x) := (OwnT.blk (OwnT.ext O hR) 0 rfl).cell 0
        simp [go_sem, ↓IntWalk.iteOmega, ev e19, q0]
        with_reducible rfl
       apply bdg 21 k rfl rfl rfl rfl
       case h =>
        intro ax wx hE hR hF
        have e18 := zhF hF 4 18 ml2
        refine ⟨e18, ?_⟩
        exact Z03 rfl (hE.g e1)
       apply bdg 22 k rfl rfl rfl rfl
       case h =>
        intro ax wx hE hR hF
        have e20 := zhF hF 6 20 ml1
        have e21 := zhF hF 7 21 ml0
        have e18 := zhF hF 4 18 ml3
        refine ⟨e18, ?_⟩
        exact Z06 (Z1z rfl e20 e21) (decide_eq_false (by omega))
       apply bd 23 k rfl rfl rfl
       case h =>
        intro ax wx hE hR hF
        have e18 := zhF hF 4 18 ml4
        have e22 := zhF hF 8 22 ml0
        exact Z07 rfl e18 e22
       apply bd 24 k rfl rfl rfl
       case h =>
        intro ax wx hE hR hF
        have e23 := zhF hF 9 23 ml0
        exact Z03 rfl e23
       apply bdg 25 k rfl rfl rfl rfl
       case h =>
        intro ax wx hE hR hF
        have e24 := zhF hF 10 24 ml0
        refine ⟨e24, ?_⟩
        simp [go_sem, ↓IntWalk.iteOmega, ev (hE.g e6)]
        with_reducible rfl
       apply bdg 26 k rfl rfl rfl rfl
       case h =>
        intro ax wx hE hR hF
        have e25 := zhF hF 11 25 ml0
        have e24 := zhF hF 10 24 ml1
        refine ⟨e24, ?_⟩
        have q0 : wx.cell? ⟨eb, 1, none⟩ = some (.int .i64 c) := (OwnT.blk (OwnT.ext O hR) 0 rfl).cell 1
        simp [go_sem, ↓IntWalk.iteOmega, ev e25, q0]
        with_reducible rfl
       apply Build.callg 27 Ext.refl (by rfl) (by rw [k.size]; rfl) rfl rfl
       case h =>
        intro ax wx hE hR hF
        have e26 := zhF hF 12 26 ml0
        have e24 := zhF hF 10 24 ml2
        refine ⟨e24, ?_⟩
        simp [go_sem, ↓IntWalk.iteOmega, ev e26]
        with_reducible exact ⟨rfl, rfl⟩
       case hc => intro wx hR; exact Z2u (show decide (1 ≤ c ∧ c ≤ 1023) = true from decide_eq_true h3) wx
       apply bdg 28 k rfl rfl rfl rfl
       case h =>
        intro ax wx hE hR hF
        have e27 := zhF hF 13 27 ml0
        have e24 := zhF hF 10 24 ml3
        refine ⟨e24, ?_⟩
        exact Z0u rfl e27
       apply bd 29 k rfl rfl rfl
       case h =>
        intro ax wx hE hR hF
        have e24 := zhF hF 10 24 ml4
        have e28 := zhF hF 14 28 ml0
        exact Z07 rfl e24 e28
       apply bd 30 k rfl rfl rfl
       case h =>
        intro ax wx hE hR hF
        have e29 := zhF hF 15 29 ml0
        exact Z03 rfl e29
       apply bdg 31 k rfl rfl rfl rfl
       case h =>
        intro ax wx hE hR hF
        have e30 := zhF hF 16 30 ml0
        refine ⟨e30, ?_⟩
        exact Z03 rfl (hE.g e5)
       apply bdg 32 k rfl rfl rfl rfl
       case h =>
        intro ax wx hE hR hF
        have e31 := zhF hF 17 31 ml0
        have e30 := zhF hF 16 30 ml1
        refine ⟨e30, ?_⟩
        exact Z06 (Z21 rfl e31 rfl) (decide_eq_true (by omega))
       apply bdg 33 k rfl rfl rfl rfl
       case h =>
        intro ax wx hE hR hF
        have e32 := zhF hF 18 32 ml0
        have e30 := zhF hF 16 30 ml2
        refine ⟨e30, ?_⟩
        exact Z03 rfl e32
       apply bdg 34 k rfl rfl rfl rfl
       case h =>
        intro ax wx hE hR hF
        have e33 := zhF hF 19 33 ml0
        refine ⟨e33, ?_⟩
        exact Z03 rfl (hE.g e0)
       apply bdg 35 k rfl rfl rfl rfl
       case h =>
        intro ax wx hE hR hF
        have e33 := zhF hF 19 33 ml1
        refine ⟨e33, ?_⟩
        exact Z03 rfl (hE.g e5)
       apply bdg 36 k rfl rfl rfl rfl
       case h =>
        intro ax wx hE hR hF
        have e35 := zhF hF 21 35 ml0
        have e33 := zhF hF 19 33 ml2
        refine ⟨e33, ?_⟩
        exact Z1a (v := .int .i64 (p : Int)) (Z3c rfl e35 rfl (by omega)) (Z0z (by omega))
       apply bdg 37 k rfl rfl rfl rfl
       case h =>
        intro ax wx hE hR hF
        have e34 := zhF hF 20 34 ml2
        have e36 := zhF hF 22 36 ml0
        have e33 := zhF hF 19 33 ml3
        refine ⟨e33, ?_⟩
        simp [go_sem, ↓IntWalk.iteOmega, ev e34, ev e36]
        with_reducible rfl
       apply bdg 38 k rfl rfl rfl rfl
       case h =>
        intro ax wx hE hR hF
        have e37 := zhF hF 23 37 ml0
        have e33 := zhF hF 19 33 ml4
        refine ⟨e33, ?_⟩
        simp [go_sem, ↓IntWalk.iteOmega, ev e37]
        with_reducible rfl
       apply bdg 39 k rfl rfl rfl rfl
       case h =>
        intro ax wx hE hR hF
        have e38 := zhF hF 24 38 ml0
        have e33 := zhF hF 19 33 ml5
        refine ⟨e33, ?_⟩
        obtain ⟨d0, -⟩ := hcs wx ((OwnT.ext O hR).tail).below p (by omega); rw [hy] at d0
        simp [go_sem, ↓IntWalk.iteOmega, ev e38, d0]
        with_reducible rfl
       apply bdg 40 k rfl rfl rfl rfl
       case h =>
        intro ax wx hE hR hF
        have e33 := zhF hF 19 33 ml6
        refine ⟨e33, ?_⟩
        simp [go_sem, ↓IntWalk.iteOmega, ev (hE.g e6)]
        with_reducible rfl
       apply bdg 41 k rfl rfl rfl rfl
       case h =>
        intro ax wx hE hR hF
        have e40 := zhF hF 26 40 ml0
        have e33 := zhF hF 19 33 ml7
        refine ⟨e33, ?_⟩
        have q0 : wx.cell? ⟨eb, 0, none⟩ = some (.int .i64 x) := (OwnT.blk (OwnT.ext O hR) 0 rfl).cell 0
        simp [go_sem, ↓IntWalk.iteOmega, ev e40, q0]
        with_reducible rfl
       apply bdg 42 k rfl rfl rfl rfl
       case h =>
        intro ax wx hE hR hF
        have e39 := zhF hF 25 39 ml2
        have e41 := zhF hF 27 41 ml0
        have e33 := zhF hF 19 33 ml8
        refine ⟨e33, ?_⟩
        exact Z06 (Z1z rfl e39 e41) (decide_eq_false (by omega))
       apply bdg 43 k rfl rfl rfl rfl
       case h =>
        intro ax wx hE hR hF
        have e33 := zhF hF 19 33 ml9
        have e42 := zhF hF 28 42 ml0
        have e30 := zhF hF 16 30 ml12
        refine ⟨e30, ?_⟩
        exact Z0a rfl e33 e42
       apply bd 44 k rfl rfl rfl
       case h =>
        intro ax wx hE hR hF
        have e30 := zhF hF 16 30 ml13
        have e43 := zhF hF 29 43 ml0
        exact Z07 rfl e30 e43
       apply Build.stop
       refine ⟨by kernel_rfl, .inl ⟨rfl, ?_⟩⟩
       intro a29 w30 hE R hF
       have e44 : a29.eval (.tmp 44) = _ := hF 30 (det 44 _) ml0
       clear hF
       replace O := OwnT.ext O R
       clear R
       replace e0 := hE.g e0; replace e1 := hE.g e1; replace e7 := hE.g e7; replace e8 := hE.g e8; replace e9 := hE.g e9
       replace k := k.env hE
       clear hE e5 e6
       refine Z01 ?_
       refine Z05 e44 rfl ?_
       refine wp_skip ?_
       refine Z0i ?_
       refine Z01 ?_
       refine wp_region_lit ?_
       have hE := Env.refl a29 [45, 9]
       refine sd 45 hE k (Z12 rfl e9 rfl (by omega)) ?_
       intro a31 hE e45 kp
       replace e9 := kt kp e9
       refine sd 9 hE k (Z03 rfl e45) ?_
       intro a32 hE e9 kp
       refine wpList_nil ?_
       replace e0 := hE.g e0; replace e1 := hE.g e1; replace e7 := hE.g e7; replace e8 := hE.g e8
       replace k := k.env hE
       clear hE e44
       refine Z01 ?_
       replace O : OwnT _ _ ([]) w30 := OwnT.pick O [] (by decide)
       refine ⟨⟨k, e0, e1, e7, e8, i + 1, e9, by omega, fun j hj => ?_, O⟩, ?_⟩
       · by_cases e : j = i
         · rw [e]; unfold OkE; rw [hx, hc]; exact ⟨h1, h2, h3, fun _ => by rw [hp, hy]; exact h4⟩
         · exact hall j (by omega)
       · rw [e9, mi]; simp only [intOf]; omega
     · skip
       refine wp_seq ?_
       refine Z0f (R := Ext) (w0 := w15) [[], [0], [0, 1], [0, 1, 2], [0, 1, 2, 3], [0, 1, 2, 3, 4], [0, 1, 2, 3, 4, 5], [0, 1, 2, 3, 4], [0, 1, 2, 3, 4, 5, 6, 7], [0, 1, 2, 3, 4, 5, 6, 7, 8], [0, 1, 2, 3, 4, 5, 6, 7, 8, 9], [0, 1, 2, 3, 4, 5, 6, 7, 8, 9, 10], [0, 1, 2, 3, 4, 5, 6, 7, 8, 9, 10, 11], [0, 1, 2, 3, 4, 5, 6, 7, 8, 9, 10, 11, 12], [0, 1, 2, 3, 4, 5, 6, 7, 8, 9, 10, 11, 12, 13], [0, 1, 2, 3, 4, 5, 6, 7, 8, 9, 10, 11, 12, 13, 14], [0, 1, 2, 3, 4, 5, 6, 7, 8, 9, 10, 11, 12, 13, 14, 15], [0, 1, 2, 3, 4, 5, 6, 7, 8, 9, 10, 11, 12, 13, 14, 15, 16], [0, 1, 2, 3, 4, 5, 6, 7, 8, 9, 10, 11, 12, 13, 14, 15, 16, 17], [0, 1, 2, 3, 4, 5, 6, 7, 8, 9, 10, 11, 12, 13, 14, 15, 16, 17, 18], [0, 1, 2, 3, 4, 5, 6, 7, 8, 9, 10, 11, 12, 13, 14, 15, 16, 17, 18, 19], [0, 1, 2, 3, 4, 5, 6, 7, 8, 9, 10, 11, 12, 13, 14, 15, 16, 17, 18, 19], [0, 1, 2, 3, 4, 5, 6, 7, 8, 9, 10, 11, 12, 13, 14, 15, 16, 17, 18, 19, 21], [0, 1, 2, 3, 4, 5, 6, 7, 8, 9, 10, 11, 12, 13, 14, 15, 16, 17, 18, 19, 20, 21, 22], [0, 1, 2, 3, 4, 5, 6, 7, 8, 9, 10, 11, 12, 13, 14, 15, 16, 17, 18, 19, 20, 21, 22, 23], [0, 1, 2, 3, 4, 5, 6, 7, 8, 9, 10, 11, 12, 13, 14, 15, 16, 17, 18, 19, 20, 21, 22, 23, 24], [0, 1, 2, 3, 4, 5, 6, 7, 8, 9, 10, 11, 12, 13, 14, 15, 16, 17, 18, 19], [0, 1, 2, 3, 4, 5, 6, 7, 8, 9, 10, 11, 12, 13, 14, 15, 16, 17, 18, 19, 26], [0, 1, 2, 3, 4, 5, 6, 7, 8, 9, 10, 11, 12, 13, 14, 15, 16, 17, 18, 19, 20, 21, 22, 23, 24, 25, 26, 27], [0, 1, 2, 3, 4, 5, 6, 7, 8, 9, 10, 11, 12, 13, 14, 15, 16, 17, 18, 19, 20, 21, 22, 23, 24, 25, 26, 27, 28], [0, 1, 2, 3, 4, 5, 6, 7, 8, 9, 10, 11, 12, 13, 14, 15, 16, 17, 18, 19, 20, 21, 22, 23, 24, 25, 26, 27, 28, 29]] [14, 15, 16, 17, 18, 19, 20, 21, 22, 23, 24, 25, 26, 27, 28, 29, 30, 31, 32, 33, 34, 35, 36, 37, 38, 39, 40, 41, 42, 43, 44] Ext.refl (fun _ _ _ => Ext.trans) (Ext.drew _) (by kernel_rfl) ?_
       apply bd 14 k rfl rfl rfl
       case h =>
        intro ax wx hE hR hF
        simp [go_sem, ↓IntWalk.iteOmega, ev (hE.g e6)]
        with_reducible rfl
       apply bd 15 k rfl rfl rfl
       case h =>
        intro ax wx hE hR hF
        have e14 := zhF hF 0 14 ml0
        have q0 : wx.cell? ⟨eb, 0, none⟩ = some (.int .i64 x) := (OwnT.blk (OwnT.ext O hR) 0 rfl).cell 0
        simp [go_sem, ↓IntWalk.iteOmega, ev e14, q0]
        with_reducible rfl
       apply Build.call 16 Ext.refl (by rfl) (by rw [k.size]; rfl) rfl
       case h =>
        intro ax wx hE hR hF
        have e15 := zhF hF 1 15 ml0
        simp [go_sem, ↓IntWalk.iteOmega, ev e15]
        with_reducible exact ⟨rfl, rfl⟩
       case hc => intro wx hR; exact Z24 (show decide (0 ≤ x ∧ x < 64) = true from decide_eq_true h1) wx
       apply bd 17 k rfl rfl rfl
       case h =>
        intro ax wx hE hR hF
        have e16 := zhF hF 2 16 ml0
        exact Z0u rfl e16
       apply bd 18 k rfl rfl rfl
       case h =>
        intro ax wx hE hR hF
        have e17 := zhF hF 3 17 ml0
        exact Z03 rfl e17
       apply bdg 19 k rfl rfl rfl rfl
       case h =>
        intro ax wx hE hR hF
        have e18 := zhF hF 4 18 ml0
        refine ⟨e18, ?_⟩
        simp [go_sem, ↓IntWalk.iteOmega, ev (hE.g e6)]
        with_reducible rfl
       apply bdg 20 k rfl rfl rfl rfl
       case h =>
        intro ax wx hE hR hF
        have e19 := zhF hF 5 19 ml0
        have e18 := zhF hF 4 18 ml1
        refine ⟨e18, ?_⟩
        have q0 : wx.cell? ⟨eb, 0, none⟩ = some (.int .i64 x) := (OwnT.blk (OwnT.ext O hR) 0 rfl).cell 0
        simp [go_sem, ↓IntWalk.iteOmega, ev e19, q0]
        with_reducible rfl
       apply bdg 21 k rfl rfl rfl rfl
       case h =>
        intro ax wx hE hR hF
        have e18 := zhF hF 4 18 ml2
        refine ⟨e18, ?_⟩
        exact Z03 rfl (hE.g e1)
       apply bdg 22 k rfl rfl rfl rfl
       case h =>
        intro ax wx hE hR hF
        have e20 := zhF hF 6 20 ml1
        have e21 := zhF hF 7 21 ml0
        have e18 := zhF hF 4 18 ml3
        refine ⟨e18, ?_⟩
        exact Z06 (Z1z rfl e20 e21) (decide_eq_false (by omega))
       apply bd 23 k rfl rfl rfl
       case h =>
        intro ax wx hE hR hF
        have e18 := zhF hF 4 18 ml4
        have e22 := zhF hF 8 22 ml0
        exact Z07 rfl e18 e22
       apply bd 24 k rfl rfl rfl
       case h =>
        intro ax wx hE hR hF
        have e23 := zhF hF 9 23 ml0
        exact Z03 rfl e23
       apply bdg 25 k rfl rfl rfl rfl
       case h =>
        intro ax wx hE hR hF
        have e24 := zhF hF 10 24 ml0
        refine ⟨e24, ?_⟩
        simp [go_sem, ↓IntWalk.iteOmega, ev (hE.g e6)]
        with_reducible rfl
       apply bdg 26 k rfl rfl rfl rfl
       case h =>
        intro ax wx hE hR hF
        have e25 := zhF hF 11 25 ml0
        have e24 := zhF hF 10 24 ml1
        refine ⟨e24, ?_⟩
        have q0 : wx.cell? ⟨eb, 1, none⟩ = some (.int .i64 c) := (OwnT.blk (OwnT.ext O hR) 0 rfl).cell 1
        simp [go_sem, ↓IntWalk.iteOmega, ev e25, q0]
        with_reducible rfl
       apply Build.callg 27 Ext.refl (by rfl) (by rw [k.size]; rfl) rfl rfl
       case h =>
        intro ax wx hE hR hF
        have e26 := zhF hF 12 26 ml0
        have e24 := zhF hF 10 24 ml2
        refine ⟨e24, ?_⟩
        simp [go_sem, ↓IntWalk.iteOmega, ev e26]
        with_reducible exact ⟨rfl, rfl⟩
       case hc => intro wx hR; exact Z2u (show decide (1 ≤ c ∧ c ≤ 1023) = true from decide_eq_true h3) wx
       apply bdg 28 k rfl rfl rfl rfl
       case h =>
        intro ax wx hE hR hF
        have e27 := zhF hF 13 27 ml0
        have e24 := zhF hF 10 24 ml3
        refine ⟨e24, ?_⟩
        exact Z0u rfl e27
       apply bd 29 k rfl rfl rfl
       case h =>
        intro ax wx hE hR hF
        have e24 := zhF hF 10 24 ml4
        have e28 := zhF hF 14 28 ml0
        exact Z07 rfl e24 e28
       apply bd 30 k rfl rfl rfl
       case h =>
        intro ax wx hE hR hF
        have e29 := zhF hF 15 29 ml0
        exact Z03 rfl e29
       apply bdg 31 k rfl rfl rfl rfl
       case h =>
        intro ax wx hE hR hF
        have e30 := zhF hF 16 30 ml0
        refine ⟨e30, ?_⟩
        exact Z03 rfl (hE.g e5)
       apply bdg 32 k rfl rfl rfl rfl
       case h =>
        intro ax wx hE hR hF
        have e31 := zhF hF 17 31 ml0
        have e30 := zhF hF 16 30 ml1
        refine ⟨e30, ?_⟩
        exact Z06 (Z21 rfl e31 rfl) (decide_eq_true (by omega))
       apply bdg 33 k rfl rfl rfl rfl
       case h =>
        intro ax wx hE hR hF
        have e32 := zhF hF 18 32 ml0
        have e30 := zhF hF 16 30 ml2
        refine ⟨e30, ?_⟩
        exact Z03 rfl e32
       apply bdg 34 k rfl rfl rfl rfl
       case h =>
        intro ax wx hE hR hF
        have e33 := zhF hF 19 33 ml0
        refine ⟨e33, ?_⟩
        exact Z03 rfl (hE.g e0)
       apply bdg 35 k rfl rfl rfl rfl
       case h =>
        intro ax wx hE hR hF
        have e33 := zhF hF 19 33 ml1
        refine ⟨e33, ?_⟩
        exact Z03 rfl (hE.g e5)
       apply bdg 36 k rfl rfl rfl rfl
       case h =>
        intro ax wx hE hR hF
        have e35 := zhF hF 21 35 ml0
        have e33 := zhF hF 19 33 ml2
        refine ⟨e33, ?_⟩
        exact Z1a (v := .int .i64 (p : Int)) (Z3c rfl e35 rfl (by omega)) (Z0z (by omega))
       apply bdg 37 k rfl rfl rfl rfl
       case h =>
        intro ax wx hE hR hF
        have e34 := zhF hF 20 34 ml2
        have e36 := zhF hF 22 36 ml0
        have e33 := zhF hF 19 33 ml3
        refine ⟨e33, ?_⟩
        simp [go_sem, ↓IntWalk.iteOmega, ev e34, ev e36]
        with_reducible rfl
       apply bdg 38 k rfl rfl rfl rfl
       case h =>
        intro ax wx hE hR hF
        have e37 := zhF hF 23 37 ml0
        have e33 := zhF hF 19 33 ml4
        refine ⟨e33, ?_⟩
        simp [go_sem, ↓IntWalk.iteOmega, ev e37]
        with_reducible rfl
       apply bdg 39 k rfl rfl rfl rfl
       case h =>
        intro ax wx hE hR hF
        have e38 := zhF hF 24 38 ml0
        have e33 := zhF hF 19 33 ml5
        refine ⟨e33, ?_⟩
        obtain ⟨d0, -⟩ := hcs wx ((OwnT.ext O hR).tail).below p (by omega); rw [hy] at d0
        simp [go_sem, ↓IntWalk.iteOmega, ev e38, d0]
        with_reducible rfl
       apply bdg 40 k rfl rfl rfl rfl
       case h =>
        intro ax wx hE hR hF
        have e33 := zhF hF 19 33 ml6
        refine ⟨e33, ?_⟩
        simp [go_sem, ↓IntWalk.iteOmega, ev (hE.g e6)]
        with_reducible rfl
       apply bdg 41 k rfl rfl rfl rfl
       case h =>
        intro ax wx hE hR hF
        have e40 := zhF hF 26 40 ml0
        have e33 := zhF hF 19 33 ml7
        refine ⟨e33, ?_⟩
        have q0 : wx.cell? ⟨eb, 0, none⟩ = some (.int .i64 x) := (OwnT.blk (OwnT.ext O hR) 0 rfl).cell 0
        simp [go_sem, ↓IntWalk.iteOmega, ev e40, q0]
        with_reducible rfl
       apply bdg 42 k rfl rfl rfl rfl
       case h =>
        intro ax wx hE hR hF
        have e39 := zhF hF 25 39 ml2
        have e41 := zhF hF 27 41 ml0
        have e33 := zhF hF 19 33 ml8
        refine ⟨e33, ?_⟩
        exact Z06 (Z1z rfl e39 e41) (decide_eq_true (by omega))
       apply bdg 43 k rfl rfl rfl rfl
       case h =>
        intro ax wx hE hR hF
        have e33 := zhF hF 19 33 ml9
        have e42 := zhF hF 28 42 ml0
        have e30 := zhF hF 16 30 ml12
        refine ⟨e30, ?_⟩
        exact Z0a rfl e33 e42
       apply bd 44 k rfl rfl rfl
       case h =>
        intro ax wx hE hR hF
        have e30 := zhF hF 16 30 ml13
        have e43 := zhF hF 29 43 ml0
        exact Z07 rfl e30 e43
       apply Build.stop
       refine ⟨by kernel_rfl, .inl ⟨rfl, ?_⟩⟩
       intro a33 w34 hE R hF
       have e44 : a33.eval (.tmp 44) = _ := hF 30 (det 44 _) ml0
       clear hF
       replace O := OwnT.ext O R
       clear R
       replace e0 := hE.g e0; replace e1 := hE.g e1; replace e7 := hE.g e7; replace e8 := hE.g e8; replace e9 := hE.g e9
       replace k := k.env hE
       clear hE e5 e6
       refine Z01 ?_
       refine Z0b e44 rfl ?_
       refine wp_seq ?_
       refine wp_region_lit ?_
       have hE := Env.refl a33 [4]
       refine sd 4 hE k (Z00 rfl rfl) ?_
       intro a35 hE e4 kp
       refine wpList_nil ?_
       replace k := k.env hE
       clear hE e0 e1 e7 e8 e9 e44
       refine Z01 ?_
       refine wp_ret ?_
       refine Z0q ?_
       refine Z0c ?_
       refine Z0c ?_
       refine Z0q ?_
       refine Z0c ?_
       refine Z0n rfl k e4 ?_
       exact ⟨by rw [show goodE size es = false from decide_eq_false (fun h => by have h0 := h i (by omega); unfold OkE at h0; rw [hx, hc] at h0; exact h4 (by have := h0.2.2.2 hi0; rw [hp, hy] at this; exact this))]; rfl, O.tail.below⟩
 · skip
   refine wp_seq ?_
   refine wp_region_lit ?_
   have hE := Env.refl a6 [10]
   refine sd 10 hE k (Z06 (Z0x rfl (hE.g e9) (hE.g e8)) (decide_eq_false (by omega))) ?_
   intro a36 hE e10 kp
   refine wpList_nil ?_
   replace e0 := hE.g e0; replace e1 := hE.g e1; replace e7 := hE.g e7; replace e8 := hE.g e8; replace e9 := hE.g e9
   replace k := k.env hE
   clear hE
   refine Z01 (wp_seq ?_)
   refine Z05 e10 rfl ?_
   refine wp_exit ?_
   refine Z0o ?_
   refine Z0o ?_
   refine Z15 ?_
   refine Z01 (wp_seq ?_)
   refine wp_region_lit ?_
   have hE := Env.refl a36 [4]
   refine sd 4 hE k (Z00 rfl rfl) ?_
   intro a37 hE e4 kp
   refine wpList_nil ?_
   replace k := k.env hE
   clear hE e0 e1 e7 e8 e9 e10
   refine Z01 ?_
   refine wp_ret ?_
   refine Z0n rfl k e4 ?_
   exact ⟨by rw [show goodE size es = true from decide_eq_true (fun j hj => hall j (by omega))]; rfl, O.below⟩
set_option maxRecDepth 100000 in
set_option maxHeartbeats 4000000 in
theorem awake12 (W0 : World) : Calls Try.prog 28 #[] W0 fun e w' => e = .returned (.bool true) ∧ Ext W0 w' := by
 have O := OwnT.start W0
 refine Z0d Try.func28 rfl 77 rfl (by rfl) ?_
 intro a1 k hargs
 clear hargs
 refine wp_seq ?_
 refine wp_region_lit ?_
 have hE := Env.refl a1 [0]
 refine sd 0 hE k (Z00 rfl rfl) ?_
 intro a2 hE e0 kp
 refine wpList_nil ?_
 replace k := k.env hE
 clear hE e0
 refine Z01 (wp_seq ?_)
 refine wp_region_lit ?_
 have hE := Env.refl a2 [10, 11, 1]
 apply Z02 10 hE k rfl rfl rfl rfl
 case h =>
  simp [go_sem, ↓IntWalk.iteOmega]
  with_reducible rfl
 intro a3 hE e10 kp
 refine Z0m O (cs := #[.slice none 0 0, .int .i64 50]) (t := 28) 11 hE k rfl (by rfl) (by rfl) rfl (by simp [go_sem, ↓IntWalk.iteOmega, ev e10]) ?_
 clear O
 intro sb a4 w5 O hE e11 kp
 refine sd 1 hE k (Z00 rfl e11) ?_
 intro a6 hE e1 kp
 refine wpList_nil ?_
 replace k := k.env hE
 clear hE
 refine Z01 ?_
 replace O := sh_nil O
 refine wp_seq ?_
 refine wp_region_lit ?_
 have hE := Env.refl a6 [13, 14, 15, 12, 16, 17, 2, 3]
 refine sm 13 hE k e1 ?_
 intro a7 hE e13 kp
 apply Z02 14 hE k rfl rfl rfl rfl
 case h =>
  simp [go_sem, ↓IntWalk.iteOmega, ev e13]
  with_reducible rfl
 intro a8 hE e14 kp
 apply Z08 15 hE k rfl (by rfl) (by rfl) rfl
 case h =>
  simp [go_sem, ↓IntWalk.iteOmega, ev e14]
  with_reducible exact ⟨rfl, rfl⟩
 case hc => exact mSet _ O (Tre.zero []) (by omega) (by simp) (ky := 5) (ch := 9) (by omega) (by omega)
 clear O
 rintro e w10 ⟨N1, r1, er, B1, cap1, vs1, rfl, O, hP⟩
 refine ⟨_, rfl, ?_⟩
 intro a9 hE e15 kp
 refine sd 12 hE k (Z03 rfl e15) ?_
 intro a11 hE e12 kp
 apply Z02 16 hE k rfl rfl rfl rfl
 case h =>
  simp [go_sem, ↓IntWalk.iteOmega, ev e12]
  with_reducible rfl
 intro a12 hE e16 kp
 replace e12 := kt kp e12
 apply Z02 17 hE k rfl rfl rfl rfl
 case h =>
  simp [go_sem, ↓IntWalk.iteOmega, ev e12]
  with_reducible rfl
 intro a13 hE e17 kp
 replace e16 := kt kp e16
 refine sd 2 hE k (Z00 rfl e16) ?_
 intro a14 hE e2 kp
 replace e17 := kt kp e17
 refine sd 3 hE k (Z00 rfl e17) ?_
 intro a15 hE e3 kp
 replace e2 := kt kp e2
 refine wpList_nil ?_
 replace e1 := hE.g e1
 replace k := k.env hE
 clear hE
 refine Z01 ?_
 obtain ⟨⟨M, hM1, hM2⟩, hP⟩ := hP
 have hN1 : N1.length ≤ 5 := by rw [hM1]; simpa using hM2
 obtain ⟨rfl, r, rfl, hr1, hr2, hT⟩ := hP.resolve_left (fun h => h.2.2 (by simp))
 have hins : insP (5, 9) [] = [(5, 9)] := by decide
 rw [hins] at hT
 replace hT := hT.le (d := 8) (by simp)

 refine wp_seq ?_
 refine wp_region_lit ?_
 have hE := Env.refl a15 [19, 20, 21, 22, 18, 23, 24, 4, 5]
 refine sm 19 hE k e1 ?_
 intro a16 hE e19 kp
 apply Z02 20 hE k rfl rfl rfl rfl
 case h =>
  simp [go_sem, ↓IntWalk.iteOmega, ev e19]
  with_reducible rfl
 intro a17 hE e20 kp
 refine sm 21 hE k e2 ?_
 intro a18 hE e21 kp
 replace e20 := kt kp e20
 apply Z08 22 hE k rfl (by rfl) (by rfl) rfl
 case h =>
  simp [go_sem, ↓IntWalk.iteOmega, ev e20, ev e21]
  with_reducible exact ⟨rfl, rfl⟩
 case hc => exact mGet (ky := 5) _ O hT (by omega) (by omega) (fun x hx => by obtain rfl := List.mem_singleton.1 hx; decide)
 clear O
 rintro e w20 ⟨rfl, O⟩
 refine ⟨_, rfl, ?_⟩
 intro a19 hE e22 kp
 refine sd 18 hE k (Z03 rfl e22) ?_
 intro a21 hE e18 kp
 apply Z02 23 hE k rfl rfl rfl rfl
 case h =>
  simp [go_sem, ↓IntWalk.iteOmega, ev e18]
  with_reducible rfl
 intro a22 hE e23 kp
 replace e18 := kt kp e18
 apply Z02 24 hE k rfl rfl rfl rfl
 case h =>
  simp [go_sem, ↓IntWalk.iteOmega, ev e18]
  with_reducible rfl
 intro a23 hE e24 kp
 replace e23 := kt kp e23
 refine sd 4 hE k (Z00 rfl e23) ?_
 intro a24 hE e4 kp
 replace e24 := kt kp e24
 refine sd 5 hE k (Z00 rfl e24) ?_
 intro a25 hE e5 kp
 replace e4 := kt kp e4
 refine wpList_nil ?_
 replace e1 := hE.g e1; replace e2 := hE.g e2; replace e3 := hE.g e3
 replace k := k.env hE
 clear hE
 refine Z01 (wp_seq ?_)
 refine wp_region_lit ?_
 have hE := Env.refl a25 [26, 27, 28, 29, 25, 30, 31, 6, 7]
 refine sm 26 hE k e1 ?_
 intro a26 hE e26 kp
 apply Z02 27 hE k rfl rfl rfl rfl
 case h =>
  simp [go_sem, ↓IntWalk.iteOmega, ev e26]
  with_reducible rfl
 intro a27 hE e27 kp
 refine sm 28 hE k e2 ?_
 intro a28 hE e28 kp
 replace e27 := kt kp e27
 apply Z08 29 hE k rfl (by rfl) (by rfl) rfl
 case h =>
  simp [go_sem, ↓IntWalk.iteOmega, ev e27, ev e28]
  with_reducible exact ⟨rfl, rfl⟩
 case hc => exact mList _ O hT (by omega) (by omega)
 rintro e w30 h
 obtain ⟨B2, c2, rfl, O⟩ := (h.resolve_right (fun h => absurd h.1 (by decide))).2
 clear h
 refine ⟨_, rfl, ?_⟩
 intro a29 hE e29 kp
 refine sd 25 hE k (Z03 rfl e29) ?_
 intro a31 hE e25 kp
 apply Z02 30 hE k rfl rfl rfl rfl
 case h =>
  simp [go_sem, ↓IntWalk.iteOmega, ev e25]
  with_reducible rfl
 intro a32 hE e30 kp
 replace e25 := kt kp e25
 apply Z02 31 hE k rfl rfl rfl rfl
 case h =>
  simp [go_sem, ↓IntWalk.iteOmega, ev e25]
  with_reducible rfl
 intro a33 hE e31 kp
 replace e30 := kt kp e30
 refine sd 6 hE k (Z00 rfl e30) ?_
 intro a34 hE e6 kp
 replace e31 := kt kp e31
 refine sd 7 hE k (Z00 rfl e31) ?_
 intro a35 hE e7 kp
 replace e6 := kt kp e6
 refine wpList_nil ?_
 replace e1 := hE.g e1; replace e3 := hE.g e3; replace e4 := hE.g e4; replace e5 := hE.g e5
 replace k := k.env hE
 clear hE e2
 refine Z01 ?_
 obtain ⟨g2, hg2⟩ : ∃ g, B2 = some ⟨g, 0, none⟩ := by
  obtain ⟨g, c', _, e, -⟩ := Z13 (OwnT.get O 3 rfl : World.ownsRow _ 0 67 2 _ [((5 : Nat), (9 : Nat))].length _) (by decide)
  injection e with e; exact ⟨g, e⟩
 subst hg2
 refine wp_seq ?_
 refine wp_region_lit ?_
 have hE := Env.refl a35 [33, 34, 35, 32, 36, 37, 8, 9]
 refine sm 33 hE k e1 ?_
 intro a36 hE e33 kp
 apply Z02 34 hE k rfl rfl rfl rfl
 case h =>
  simp [go_sem, ↓IntWalk.iteOmega, ev e33]
  with_reducible rfl
 intro a37 hE e34 kp
 apply Z08 35 hE k rfl (by rfl) (by rfl) rfl
 case h =>
  simp [go_sem, ↓IntWalk.iteOmega, ev e34]
  with_reducible exact ⟨rfl, rfl⟩
 case hc => exact Z57 (root := 0) 64 9 _ (by omega)
 rintro e w39 ⟨rfl, R⟩
 replace O := OwnT.ext O R
 refine ⟨_, rfl, ?_⟩
 intro a38 hE e35 kp
 refine sd 32 hE k (Z03 rfl e35) ?_
 intro a40 hE e32 kp
 apply Z02 36 hE k rfl rfl rfl rfl
 case h =>
  simp [go_sem, ↓IntWalk.iteOmega, ev e32]
  with_reducible rfl
 intro a41 hE e36 kp
 replace e32 := kt kp e32
 apply Z02 37 hE k rfl rfl rfl rfl
 case h =>
  simp [go_sem, ↓IntWalk.iteOmega, ev e32]
  with_reducible rfl
 intro a42 hE e37 kp
 replace e36 := kt kp e36
 refine sd 8 hE k (Z00 rfl e36) ?_
 intro a43 hE e8 kp
 replace e37 := kt kp e37
 refine sd 9 hE k (Z00 rfl e37) ?_
 intro a44 hE e9 kp
 refine wpList_nil ?_
 replace e3 := hE.g e3; replace e4 := hE.g e4; replace e5 := hE.g e5; replace e6 := hE.g e6; replace e7 := hE.g e7
 replace k := k.env hE
 clear hE e1
 refine Z01 ?_
 have hrow := Z4d (OwnT.get O 3 rfl : (tEs (.slice (some ⟨g2, 0, none⟩) 1 c2) [(5, 9)]).holds _)
 have hrowI := Z5y hrow
 have cc : ∀ W, Ext w39 W → W.cell? ⟨g2, 0, none⟩ = some (.int .i64 5) ∧ W.cell? ⟨g2, 1, none⟩ = some (.int .i64 9) := fun W hW => by
  obtain ⟨b, o, e, _, h⟩ := hrow.below hW 0 (5, 9) rfl; injection e with e; injection e with e e'; subst e e'; exact ⟨h 0 _ rfl, h 1 _ rfl⟩
 refine wp_seq ?_
 refine wp_region_lit ?_
 have hE := Env.refl a44 [38, 39, 40, 41, 42, 43, 44, 45, 46, 47, 48, 49, 50, 51, 52, 53, 54, 55, 56, 57, 58, 59, 60, 61, 62, 63, 64, 65, 66, 67, 68, 69, 70, 71, 72, 73, 74, 75, 76, 0]
 refine sm 38 hE k e3 ?_
 intro a45 hE e38 kp
 refine sd 39 hE k (Z0k rfl e38 rfl) ?_
 intro a46 hE e39 kp
 refine sd 40 hE k (Z03 rfl e39) ?_
 intro a47 hE e40 kp
 apply Z04 41 hE k rfl rfl rfl rfl rfl e40
 case h =>
  exact Z03 rfl (hE.g e4)
 intro a48 hE e41 kp
 replace e40 := kt kp e40
 apply Z04 42 hE k rfl rfl rfl rfl rfl e40
 case h =>
  exact Z0k rfl e41 rfl
 intro a49 hE e42 kp
 replace e40 := kt kp e40
 refine sd 43 hE k (Z0a rfl e40 e42) ?_
 intro a50 hE e43 kp
 refine sd 44 hE k (Z03 rfl e43) ?_
 intro a51 hE e44 kp
 apply Z04 45 hE k rfl rfl rfl rfl rfl e44
 case h =>
  exact Z03 rfl (hE.g e5)
 intro a52 hE e45 kp
 replace e44 := kt kp e44
 apply Z04 46 hE k rfl rfl rfl rfl rfl e44
 case h =>
  exact Z0k rfl e45 rfl
 intro a53 hE e46 kp
 replace e44 := kt kp e44
 refine sd 47 hE k (Z0a rfl e44 e46) ?_
 intro a54 hE e47 kp
 refine sd 48 hE k (Z03 rfl e47) ?_
 intro a55 hE e48 kp
 apply Z04 49 hE k rfl rfl rfl rfl rfl e48
 case h =>
  exact Z03 rfl (hE.g e7)
 intro a56 hE e49 kp
 replace e48 := kt kp e48
 apply Z04 50 hE k rfl rfl rfl rfl rfl e48
 case h =>
  exact Z0k rfl e49 rfl
 intro a57 hE e50 kp
 replace e48 := kt kp e48
 refine sd 51 hE k (Z0a rfl e48 e50) ?_
 intro a58 hE e51 kp
 refine sd 52 hE k (Z03 rfl e51) ?_
 intro a59 hE e52 kp
 apply Z04 53 hE k rfl rfl rfl rfl rfl e52
 case h =>
  exact Z03 rfl (hE.g e6)
 intro a60 hE e53 kp
 replace e52 := kt kp e52
 apply Z04 54 hE k rfl rfl rfl rfl rfl e52
 case h =>
  exact Z0j Try.underlying65 rfl e53
 intro a61 hE e54 kp
 replace e52 := kt kp e52
 apply Z04 55 hE k rfl rfl rfl rfl rfl e52
 case h =>
  exact Z0k rfl e54 rfl
 intro a62 hE e55 kp
 replace e52 := kt kp e52
 refine sd 56 hE k (Z0a rfl e52 e55) ?_
 intro a63 hE e56 kp
 refine sd 57 hE k (Z03 rfl e56) ?_
 intro a64 hE e57 kp
 apply Z04 58 hE k rfl rfl rfl rfl rfl e57
 case h =>
  exact Z03 rfl (hE.g e6)
 intro a65 hE e58 kp
 replace e57 := kt kp e57
 apply Z04 59 hE k rfl rfl rfl rfl rfl e57
 case h =>
  simp [go_sem, ↓IntWalk.iteOmega, ev e58]
  with_reducible rfl
 intro a66 hE e59 kp
 replace e57 := kt kp e57
 apply Z04 60 hE k rfl rfl rfl rfl rfl e57
 case h =>
  obtain ⟨c0, c1⟩ := cc _ (Ext.refl _)
  simp [go_sem, ↓IntWalk.iteOmega, ev e59, c0, c1]
  with_reducible rfl
 intro a67 hE e60 kp
 replace e57 := kt kp e57
 apply Z04 61 hE k rfl rfl rfl rfl rfl e57
 case h =>
  simp [go_sem, ↓IntWalk.iteOmega]
  with_reducible rfl
 intro a68 hE e61 kp
 replace e57 := kt kp e57; replace e60 := kt kp e60
 apply Z04 62 hE k rfl rfl rfl rfl rfl e57
 case h =>
  exact Z06 (c := true) (x_eqEn rfl e60 e61) (by decide)
 intro a69 hE e62 kp
 replace e57 := kt kp e57
 refine sd 63 hE k (Z0a rfl e57 e62) ?_
 intro a70 hE e63 kp
 refine sd 64 hE k (Z03 rfl e63) ?_
 intro a71 hE e64 kp
 apply Z04 65 hE k rfl rfl rfl rfl rfl e64
 case h =>
  exact Z03 rfl (hE.g e9)
 intro a72 hE e65 kp
 replace e64 := kt kp e64
 apply Z04 66 hE k rfl rfl rfl rfl rfl e64
 case h =>
  exact Z0k rfl e65 rfl
 intro a73 hE e66 kp
 replace e64 := kt kp e64
 refine sd 67 hE k (Z0a rfl e64 e66) ?_
 intro a74 hE e67 kp
 refine sd 68 hE k (Z03 rfl e67) ?_
 intro a75 hE e68 kp
 apply Z04 69 hE k rfl rfl rfl rfl rfl e68
 case h =>
  exact Z03 rfl (hE.g e6)
 intro a76 hE e69 kp
 replace e68 := kt kp e68
 apply Z18 70 hE k rfl (by rfl) (by rfl) rfl rfl e68
 case h =>
  simp [go_sem, ↓IntWalk.iteOmega, ev e69]
  with_reducible exact ⟨rfl, rfl⟩
 case hc => exact Z39 6 [(5, 9)] _ rfl hrowI (by decide)
 rintro e w78 ⟨rfl, RE⟩
 replace hrowI := hrowI.below RE
 replace O := OwnT.ext O RE
 refine ⟨_, congrArg (fun b => Ending.returned (.bool b)) (show goodE 6 [(5, 9)] = true by decide), ?_⟩
 intro a77 hE e70 kp
 replace e68 := kt kp e68
 refine sd 71 hE k (Z0a rfl e68 e70) ?_
 intro a79 hE e71 kp
 refine sd 72 hE k (Z03 rfl e71) ?_
 intro a80 hE e72 kp
 apply Z04 73 hE k rfl rfl rfl rfl rfl e72
 case h =>
  exact Z03 rfl (hE.g e6)
 intro a81 hE e73 kp
 replace e72 := kt kp e72
 apply Z18 74 hE k rfl (by rfl) (by rfl) rfl rfl e72
 case h =>
  simp [go_sem, ↓IntWalk.iteOmega, ev e73]
  with_reducible exact ⟨rfl, rfl⟩
 case hc => exact Z39 5 [(5, 9)] _ rfl hrowI (by decide)
 rintro e w83 ⟨rfl, RE⟩
 replace O := OwnT.ext O RE
 refine ⟨_, congrArg (fun b => Ending.returned (.bool b)) (show goodE 5 [(5, 9)] = false by decide), ?_⟩
 intro a82 hE e74 kp
 replace e72 := kt kp e72
 apply Z04 75 hE k rfl rfl rfl rfl rfl e72
 case h =>
  exact Z0u rfl e74
 intro a84 hE e75 kp
 replace e72 := kt kp e72
 refine sd 76 hE k (Z0a rfl e72 e75) ?_
 intro a85 hE e76 kp
 refine sd 0 hE k (Z00 rfl e76) ?_
 intro a86 hE e0 kp
 refine wpList_nil ?_
 replace k := k.env hE
 clear hE e3 e4 e5 e6 e7 e9
 refine Z01 ?_
 refine wp_ret ?_
 refine Z0n rfl k e0 ?_
 exact ⟨rfl, O.below⟩
end Go.Proofs.Ytngehbhhpkkijaa
