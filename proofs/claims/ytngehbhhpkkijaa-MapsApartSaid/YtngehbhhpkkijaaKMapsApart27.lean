/- maps: Good, awake (printed by XMpC.gen.py). -/
import Derived.Test.YtngehbhhpkkijaaKMapsApart25
import Derived.Test.YtngehbhhpkkijaaKMapsApart26
import Derived.Laws.StructEq
namespace Go.Proofs.Ytngehbhhpkkijaa
attribute [local simp] BigFrame.eval_const BigFrame.eval_global BigFrame.eval_func
set_option linter.unusedVariables false
set_option linter.unusedSimpArgs false
open Go.RowKit Go.Maps


theorem isPlace_is {n : Int} {b : Bool} (h : decide (0 ≤ n ∧ n < 64) = b) (W0 : World) : Calls Try.prog 66 #[.int .i64 n] W0 fun e w' => e = .returned (.bool b) ∧ Ext W0 w' := h ▸ isPlace_any n W0
theorem isChunk_is {n : Int} {b : Bool} (h : decide (1 ≤ n ∧ n ≤ 1023) = b) (W0 : World) : Calls Try.prog 67 #[.int .i64 n] W0 fun e w' => e = .returned (.bool b) ∧ Ext W0 w' := h ▸ isChunk_any n W0
/-- Entries: places and chunks. -/
abbrev En := Int × Int
def encI (x : En) : List Value := [.int .i64 x.1, .int .i64 x.2]
def atE (es : List En) (i : Nat) : Int := (es.getD i (0, 0)).1
def chE (es : List En) (i : Nat) : Int := (es.getD i (0, 0)).2
def OkE (size : Int) (es : List En) (i : Nat) : Prop := (0 ≤ atE es i ∧ atE es i < 64) ∧ atE es i < size ∧ (1 ≤ chE es i ∧ chE es i ≤ 1023) ∧ (0 < i → atE es (i - 1) < atE es i)
instance {size : Int} {es : List En} {i : Nat} : Decidable (OkE size es i) := by unfold OkE; exact inferInstance
def goodE (size : Int) (es : List En) : Bool := decide (∀ i, i < es.length → OkE size es i)
theorem rowI_at {W0 w : World} {B : Option Addr} {es : List En} (h : Row W0 B 2 encI es) (hb : Below W0.heap.size W0 w) {i : Nat} (hi : i < es.length) : ∃ b o, B = some ⟨b, o, none⟩ ∧ w.cell? ⟨b, o + i * 2, none⟩ = some (.int .i64 (atE es i)) ∧ w.cell? ⟨b, o + i * 2 + 1, none⟩ = some (.int .i64 (chE es i)) := by
  obtain ⟨b, o, e, _, hc⟩ := (h.below hb) i _ (List.getElem?_eq_getElem hi)
  have e1 : atE es i = es[i].1 := by simp [atE, List.getD, hi]
  have e2 : chE es i = es[i].2 := by simp [chE, List.getD, hi]
  refine ⟨b, o, e, ?_, ?_⟩
  · rw [e1]; have := hc 0 _ rfl; simpa using this
  · rw [e2]; exact hc 1 _ rfl
/-- A row of pairs as entries. -/
theorem rowI_of {w : World} {B : Option Addr} {ps : List Pr} (h : Row w B 2 enC ps) : Row w B 2 encI (ps.map fun x => ((x.1 : Int), (x.2 : Int))) := by
  intro i x hx
  rw [List.getElem?_map] at hx
  cases hy : ps[i]? with
  | none => rw [hy] at hx; cases hx
  | some y =>
    rw [hy] at hx
    injection hx with hx
    subst hx
    exact h i y hy
theorem es_row {w : World} {B : Option Addr} {n c : Nat} {ps : List Pr} (h : (tEs (.slice B n c) ps).holds w) : Row w B 2 enC ps := by
  obtain ⟨B2, c2, e, _, _, _, hr⟩ := ownsRow_Row (enc := enC) (X := ps) (fun _ => rfl) (by decide) h
  injection e with e1
  subst e1
  exact hr

theorem en_fields : Try.prog.underlying 67 = some (.struct (Try.prog.fieldsOf 67)) := by kernel_rfl
theorem en_held : Try.prog.stoodInHeld 67 = false := by kernel_rfl
theorem part_e0 (w : World) (x y : Value) : (part 3 #[x, y] 0).run Try.prog w = .ok x w := by kernel_rfl
theorem part_e1 (w : World) (x y : Value) : (part 3 #[x, y] 1).run Try.prog w = .ok y w := by kernel_rfl
theorem eq_en (d : Nat) (a b a' b' : Int) (w : World) : (Op.equalIn (d + 2) 67 (.agg #[.int .i64 a, .int .i64 b]) (.agg #[.int .i64 a', .int .i64 b'])).run Try.prog w = .ok (decide (a = a' ∧ b = b')) w := by
  have h0 := fun W x y => run_equalIn_int (P := Try.prog) W d 3 .i64 .i64 x y Try.underlying3
  rw [run_equalIn_struct w (d + 1) _ _ _ en_fields en_held]
  have hf : (Try.prog.fieldsOf 67).toList.map (fun f => (f.name, f.type, f.offset)) = [("At", 3, 0), ("Chunk", 3, 1)] := by kernel_rfl
  generalize (Try.prog.fieldsOf 67).toList = L at hf ⊢
  obtain ⟨f, g, rfl⟩ : ∃ f g, L = [f, g] := by
    rcases L with _ | ⟨f, _ | ⟨g, _ | ⟨h, L⟩⟩⟩
    · exact absurd (congrArg List.length hf) (by simp)
    · exact absurd (congrArg List.length hf) (by simp)
    · exact ⟨f, g, rfl⟩
    · exact absurd (congrArg List.length hf) (by simp)
  simp only [List.map_cons, List.map_nil, List.cons.injEq, Prod.mk.injEq, and_true] at hf
  obtain ⟨⟨n1, t1, o1⟩, n2, t2, o2⟩ := hf
  by_cases ha : a = a' <;> by_cases hb : b = b' <;> simp [Op.eqFields, n1, n2, t1, t2, o1, o2, Sem.run_bind, Sem.run_ite, part_e0, part_e1, h0, ha, hb]
section
variable {w : World} {o : Oper} {ρ : Operand → Value} {u : TypeId} {x y : Operand} {a b c d : Int}
theorem x_eqEn (ho : o.op = .binOp .eql 67 x y u) (hx : ρ x = .agg #[.int .i64 a, .int .i64 b]) (hy : ρ y = .agg #[.int .i64 c, .int .i64 d]) : (execOp ρ o).run Try.prog w = .ok (.value (.bool (decide (a = c ∧ b = d)))) w := by
  have h := eq_en 9998 a b c d w
  unfold execOp
  simp only [ho, hx, hy]
  by_cases e1 : a = c <;> by_cases e2 : b = d <;> simp [go_sem, h, e1, e2]
theorem x_neEn (ho : o.op = .binOp .neq 67 x y u) (hx : ρ x = .agg #[.int .i64 a, .int .i64 b]) (hy : ρ y = .agg #[.int .i64 c, .int .i64 d]) : (execOp ρ o).run Try.prog w = .ok (.value (.bool (decide (¬ (a = c ∧ b = d))))) w := by
  have h := eq_en 9998 a b c d w
  unfold execOp
  simp only [ho, hx, hy]
  by_cases e1 : a = c <;> by_cases e2 : b = d <;> simp [go_sem, h, e1, e2]
end

set_option maxRecDepth 100000 in
set_option maxHeartbeats 4000000 in
theorem mgood_any {B : Option Addr} {n cap : Nat} (size : Int) (es : List En) (W0 : World) (hl : es.length = n) (hrow : Row W0 B 2 encI es) (hn : n ≤ 1000000) : Calls Try.prog 29 #[.slice B n cap, .int .i64 size] W0 fun e w' => e = .returned (.bool (goodE size es)) ∧ Ext W0 w' := by
  have O := OwnT.start W0
  refine calls_F Try.func29 rfl 46 rfl (by rfl) ?_
  intro a1 k hargs
  have e0 : a1.eval (.tmp 0) = .slice B n cap := hargs 0 _ rfl
  have e1 : a1.eval (.tmp 1) = .int .i64 size := hargs 1 _ rfl
  clear hargs
  refine wp_seq ?_
  refine wp_region_lit ?_
  have hE := Env.refl a1 [4]
  apply sq_det 4 hE k rfl (by rfl) (by rfl) rfl
  case h =>
    exact x_assign rfl rfl
  intro a2 hE e4 kp
  refine wpList_nil ?_
  replace e0 := hE.eval 0 (by rfl) e0
  replace e1 := hE.eval 1 (by rfl) e1
  replace k := k.env hE
  clear hE e4
  refine then_n ?_
  refine wp_seq ?_
  refine wp_seq ?_
  refine wp_region_lit ?_
  have hE := Env.refl a2 [7, 8, 9]
  apply sq_det 7 hE k rfl (by rfl) (by rfl) rfl
  case h =>
    exact x_move rfl (hE.eval 0 (by rfl) e0)
  intro a3 hE e7 kp
  apply sq_det 8 hE k rfl (by rfl) (by rfl) rfl
  case h =>
    exact x_len Try.underlying65 rfl e7
  intro a4 hE e8 kp
  replace e7 := (kp 7 rfl).trans e7
  apply sq_det 9 hE k rfl (by rfl) (by rfl) rfl
  case h =>
    exact x_move rfl rfl
  intro a5 hE e9 kp
  replace e7 := (kp 7 rfl).trans e7
  replace e8 := (kp 8 rfl).trans e8
  refine wpList_nil ?_
  replace e0 := hE.eval 0 (by rfl) e0
  replace e1 := hE.eval 1 (by rfl) e1
  replace k := k.env hE
  clear hE
  refine then_n ?_
  refine wp_block ?_
  refine wp_loop (fun a w => Fr 46 a ∧ a.eval (.tmp 0) = .slice B n cap ∧ a.eval (.tmp 1) = .int .i64 size ∧ a.eval (.tmp 7) = .slice B n cap ∧ a.eval (.tmp 8) = .int .i64 ↑n ∧ ∃ (i : Nat), a.eval (.tmp 9) = .int .i64 ↑i ∧ i ≤ n ∧ (∀ j, j < i → OkE size es j) ∧ OwnT W0.heap.size W0 [] w) (fun a w => n - (intOf (a.eval (.tmp 9))).toNat) ?_ ?_
  · exact ⟨k, e0, e1, e7, e8, 0, e9, Nat.zero_le _, (fun j h => absurd h (Nat.not_lt_zero _)), O⟩
  intro a6 w7 hI
  clear k e0 e1 e7 e8
  obtain ⟨k, e0, e1, e7, e8, h_⟩ := hI
  clear O e9
  obtain ⟨i, e9, hi, hall, O⟩ := h_
  have mi := e9
  by_cases hlt : i < n
  · have hltI : (i : Int) < (n : Int) := by omega
    obtain ⟨b, o, rfl, -, -⟩ := rowI_at hrow O.below (i := i) (by omega)
    have hcs : ∀ W, Below W0.heap.size W0 W → ∀ j, j < n → W.cell? ⟨b, o + j * 2, none⟩ = some (.int .i64 (atE es j)) ∧ W.cell? ⟨b, o + j * 2 + 1, none⟩ = some (.int .i64 (chE es j)) := fun W hW j hj => by
      obtain ⟨b', o', e, h1, h2⟩ := rowI_at hrow hW (i := j) (by omega)
      injection e with e
      injection e with e e'
      subst e e'
      exact ⟨h1, h2⟩
    obtain ⟨d0, d1⟩ := hcs _ O.below i hlt
    obtain ⟨x, hx⟩ : ∃ x, atE es i = x := ⟨_, rfl⟩
    obtain ⟨c, hc⟩ : ∃ c, chE es i = c := ⟨_, rfl⟩
    rw [hx] at d0
    rw [hc] at d1
    
    refine wp_seq ?_
    refine wp_region_lit ?_
    have hE := Env.refl a6 [10]
    apply sq_det 10 hE k rfl (by rfl) (by rfl) rfl
    case h =>
      exact x_dec (x_lss rfl (hE.eval 9 (by rfl) e9) (hE.eval 8 (by rfl) e8)) (decide_eq_true (by omega))
    intro a8 hE e10 kp
    refine wpList_nil ?_
    replace e0 := hE.eval 0 (by rfl) e0
    replace e1 := hE.eval 1 (by rfl) e1
    replace e7 := hE.eval 7 (by rfl) e7
    replace e8 := hE.eval 8 (by rfl) e8
    replace e9 := hE.eval 9 (by rfl) e9
    replace k := k.env hE
    clear hE
    refine then_n ?_
    refine wp_seq ?_
    refine cond_t e10 rfl ?_
    refine wp_skip ?_
    refine then_n ?_
    refine wp_seq ?_
    refine wp_block ?_
    refine wp_seq ?_
    refine wp_region_lit ?_
    have hE := Env.refl a8 [11, 12, 13, 6, 5]
    apply sq_det 11 hE k rfl (by rfl) (by rfl) rfl
    case h =>
      exact x_move rfl (hE.eval 9 (by rfl) e9)
    intro a9 hE e11 kp
    apply sq_det 12 hE k rfl (by rfl) (by rfl) rfl
    case h =>
      simp [go_sem, ↓IntWalk.iteOmega, ev (hE.eval 7 (by rfl) e7), ev (hE.eval 9 (by rfl) e9)]
      with_reducible rfl
    intro a10 hE e12 kp
    replace e11 := (kp 11 rfl).trans e11
    apply sq_det 13 hE k rfl (by rfl) (by rfl) rfl
    case h =>
      simp [go_sem, ↓IntWalk.iteOmega, ev e12, d0, d1]
      with_reducible rfl
    intro a11 hE e13 kp
    replace e11 := (kp 11 rfl).trans e11
    refine sq_new O (cs := #[.int .i64 0, .int .i64 0]) (t := 67) 6 hE k rfl (by rfl) (by rfl) rfl (by simp [go_sem, ↓IntWalk.iteOmega]) ?_
    clear O
    intro eb a12 w13 O hE e6 kp
    replace e11 := (kp 11 rfl).trans e11
    replace e13 := (kp 13 rfl).trans e13
    apply sq_det 5 hE k rfl (by rfl) (by rfl) rfl
    case h =>
      exact x_assign rfl e11
    intro a14 hE e5 kp
    replace e13 := (kp 13 rfl).trans e13
    replace e6 := (kp 6 rfl).trans e6
    have q0 : w13.cell? ⟨eb, 0, none⟩ = some (.int .i64 0) := (OwnT.blk O 0 rfl).cell 0
    have z0 : w13.frozen? ⟨eb, 0, none⟩ = false := (OwnT.blk O 0 rfl).frozen 0
    have q1 : w13.cell? ⟨eb, 1, none⟩ = some (.int .i64 0) := (OwnT.blk O 0 rfl).cell 1
    have z1 : w13.frozen? ⟨eb, 1, none⟩ = false := (OwnT.blk O 0 rfl).frozen 1
    refine sq_unit (w' := ((w13.setCell ⟨eb, 0, none⟩ (.int .i64 x)).setCell ⟨eb, 1, none⟩ (.int .i64 c))) hE rfl rfl (by simp [go_sem, ↓IntWalk.iteOmega, ev e6, ev e13, q0, z0, q1, z1]) ?_
    replace O := OwnT.push 0 rfl (((OwnT.pull O 0 rfl).set 0 (.int .i64 x)).set 1 (.int .i64 c))
    clear q0 z0 q1 z1
    generalize ((w13.setCell ⟨eb, 0, none⟩ (.int .i64 x)).setCell ⟨eb, 1, none⟩ (.int .i64 c)) = w15 at O ⊢
    replace O : OwnT _ _ ([tBlk eb 67 #[.int .i64 x, .int .i64 c]]) w15 := O
    refine wpList_nil ?_
    replace e0 := hE.eval 0 (by rfl) e0
    replace e1 := hE.eval 1 (by rfl) e1
    replace e7 := hE.eval 7 (by rfl) e7
    replace e8 := hE.eval 8 (by rfl) e8
    replace e9 := hE.eval 9 (by rfl) e9
    replace k := k.env hE
    clear hE e10 e13
    refine then_n ?_
    clear d0 d1
    by_cases h1 : 0 ≤ x ∧ x < 64
    rotate_left
    · skip
      refine wp_seq ?_
      refine wp_typed (R := Ext) (w0 := w15) [[], [0], [0, 1], [0, 1, 2], [0, 1, 2, 3], [0, 1, 2, 3, 4], [0, 1, 2, 3, 4, 5], [0, 1, 2, 3, 4], [0, 1, 2, 3, 4, 5, 6, 7], [0, 1, 2, 3, 4, 5, 6, 7, 8], [0, 1, 2, 3, 4, 5, 6, 7, 8, 9], [0, 1, 2, 3, 4, 5, 6, 7, 8, 9, 10], [0, 1, 2, 3, 4, 5, 6, 7, 8, 9, 10, 11], [0, 1, 2, 3, 4, 5, 6, 7, 8, 9, 10, 11, 12], [0, 1, 2, 3, 4, 5, 6, 7, 8, 9, 10, 11, 12, 13], [0, 1, 2, 3, 4, 5, 6, 7, 8, 9, 10, 11, 12, 13, 14], [0, 1, 2, 3, 4, 5, 6, 7, 8, 9, 10, 11, 12, 13, 14, 15], [0, 1, 2, 3, 4, 5, 6, 7, 8, 9, 10, 11, 12, 13, 14, 15, 16], [0, 1, 2, 3, 4, 5, 6, 7, 8, 9, 10, 11, 12, 13, 14, 15, 16, 17], [0, 1, 2, 3, 4, 5, 6, 7, 8, 9, 10, 11, 12, 13, 14, 15, 16, 17, 18], [0, 1, 2, 3, 4, 5, 6, 7, 8, 9, 10, 11, 12, 13, 14, 15, 16, 17, 18, 19], [0, 1, 2, 3, 4, 5, 6, 7, 8, 9, 10, 11, 12, 13, 14, 15, 16, 17, 18, 19], [0, 1, 2, 3, 4, 5, 6, 7, 8, 9, 10, 11, 12, 13, 14, 15, 16, 17, 18, 19, 21], [0, 1, 2, 3, 4, 5, 6, 7, 8, 9, 10, 11, 12, 13, 14, 15, 16, 17, 18, 19, 20, 21, 22], [0, 1, 2, 3, 4, 5, 6, 7, 8, 9, 10, 11, 12, 13, 14, 15, 16, 17, 18, 19, 20, 21, 22, 23], [0, 1, 2, 3, 4, 5, 6, 7, 8, 9, 10, 11, 12, 13, 14, 15, 16, 17, 18, 19, 20, 21, 22, 23, 24], [0, 1, 2, 3, 4, 5, 6, 7, 8, 9, 10, 11, 12, 13, 14, 15, 16, 17, 18, 19], [0, 1, 2, 3, 4, 5, 6, 7, 8, 9, 10, 11, 12, 13, 14, 15, 16, 17, 18, 19, 26], [0, 1, 2, 3, 4, 5, 6, 7, 8, 9, 10, 11, 12, 13, 14, 15, 16, 17, 18, 19, 20, 21, 22, 23, 24, 25, 26, 27], [0, 1, 2, 3, 4, 5, 6, 7, 8, 9, 10, 11, 12, 13, 14, 15, 16, 17, 18, 19, 20, 21, 22, 23, 24, 25, 26, 27, 28], [0, 1, 2, 3, 4, 5, 6, 7, 8, 9, 10, 11, 12, 13, 14, 15, 16, 17, 18, 19, 20, 21, 22, 23, 24, 25, 26, 27, 28, 29]] [14, 15, 16, 17, 18, 19, 20, 21, 22, 23, 24, 25, 26, 27, 28, 29, 30, 31, 32, 33, 34, 35, 36, 37, 38, 39, 40, 41, 42, 43, 44] Ext.refl (fun _ _ _ => Ext.trans) (Ext.drew _) (by kernel_rfl) ?_
      apply Build.det 14 Ext.refl (by rfl) (by rw [k.size]; rfl) rfl
      case h =>
        intro ax wx hE hR hF
        simp [go_sem, ↓IntWalk.iteOmega, ev (hE.eval 6 (by rfl) e6)]
        with_reducible rfl
      apply Build.det 15 Ext.refl (by rfl) (by rw [k.size]; rfl) rfl
      case h =>
        intro ax wx hE hR hF
        have e14 : ax.eval (.tmp 14) = _ := hF 0 (det 14 _) (by decide) (.head _)
        have q0 : wx.cell? ⟨eb, 0, none⟩ = some (.int .i64 x) := (OwnT.blk (OwnT.ext O hR) 0 rfl).cell 0
        simp [go_sem, ↓IntWalk.iteOmega, ev e14, q0]
        with_reducible rfl
      apply Build.call 16 Ext.refl (by rfl) (by rw [k.size]; rfl) rfl
      case h =>
        intro ax wx hE hR hF
        have e15 : ax.eval (.tmp 15) = _ := hF 1 (det 15 _) (by decide) (.head _)
        simp [go_sem, ↓IntWalk.iteOmega, ev e15]
        with_reducible exact ⟨rfl, rfl⟩
      case hc => intro wx hR; exact isPlace_is (show decide (0 ≤ x ∧ x < 64) = false from decide_eq_false h1) wx
      apply Build.det 17 Ext.refl (by rfl) (by rw [k.size]; rfl) rfl
      case h =>
        intro ax wx hE hR hF
        have e16 : ax.eval (.tmp 16) = _ := hF 2 (det 16 _) (by decide) (.head _)
        exact x_not rfl e16
      apply Build.det 18 Ext.refl (by rfl) (by rw [k.size]; rfl) rfl
      case h =>
        intro ax wx hE hR hF
        have e17 : ax.eval (.tmp 17) = _ := hF 3 (det 17 _) (by decide) (.head _)
        exact x_move rfl e17
      refine Build.skip 19 (by rfl) (by rw [k.size]; rfl) rfl rfl ?_ ?_
      · intro ax wx hE hR hF
        have e18 : ax.eval (.tmp 18) = _ := hF 4 (det 18 _) (by decide) (.head _)
        exact e18
      refine Build.skip 20 (by rfl) (by rw [k.size]; rfl) rfl rfl ?_ ?_
      · intro ax wx hE hR hF
        have e18 : ax.eval (.tmp 18) = _ := hF 4 (det 18 _) (by decide) (.tail _ (.head _))
        exact e18
      refine Build.skip 21 (by rfl) (by rw [k.size]; rfl) rfl rfl ?_ ?_
      · intro ax wx hE hR hF
        have e18 : ax.eval (.tmp 18) = _ := hF 4 (det 18 _) (by decide) (.tail _ (.tail _ (.head _)))
        exact e18
      refine Build.skip 22 (by rfl) (by rw [k.size]; rfl) rfl rfl ?_ ?_
      · intro ax wx hE hR hF
        have e18 : ax.eval (.tmp 18) = _ := hF 4 (det 18 _) (by decide) (.tail _ (.tail _ (.tail _ (.head _))))
        exact e18
      apply Build.det 23 Ext.refl (by rfl) (by rw [k.size]; rfl) rfl
      case h =>
        intro ax wx hE hR hF
        have e18 : ax.eval (.tmp 18) = _ := hF 4 (det 18 _) (by decide) (.tail _ (.tail _ (.tail _ (.tail _ (.head _)))))
        have e22 : ax.eval (.tmp 22) = _ := hF 8 (det 22 _) (by decide) (.head _)
        exact x_pick_t rfl e18 rfl
      apply Build.det 24 Ext.refl (by rfl) (by rw [k.size]; rfl) rfl
      case h =>
        intro ax wx hE hR hF
        have e23 : ax.eval (.tmp 23) = _ := hF 9 (det 23 _) (by decide) (.head _)
        exact x_move rfl e23
      refine Build.skip 25 (by rfl) (by rw [k.size]; rfl) rfl rfl ?_ ?_
      · intro ax wx hE hR hF
        have e24 : ax.eval (.tmp 24) = _ := hF 10 (det 24 _) (by decide) (.head _)
        exact e24
      refine Build.skip 26 (by rfl) (by rw [k.size]; rfl) rfl rfl ?_ ?_
      · intro ax wx hE hR hF
        have e24 : ax.eval (.tmp 24) = _ := hF 10 (det 24 _) (by decide) (.tail _ (.head _))
        exact e24
      refine Build.skip 27 (by rfl) (by rw [k.size]; rfl) rfl rfl ?_ ?_
      · intro ax wx hE hR hF
        have e24 : ax.eval (.tmp 24) = _ := hF 10 (det 24 _) (by decide) (.tail _ (.tail _ (.head _)))
        exact e24
      refine Build.skip 28 (by rfl) (by rw [k.size]; rfl) rfl rfl ?_ ?_
      · intro ax wx hE hR hF
        have e24 : ax.eval (.tmp 24) = _ := hF 10 (det 24 _) (by decide) (.tail _ (.tail _ (.tail _ (.head _))))
        exact e24
      apply Build.det 29 Ext.refl (by rfl) (by rw [k.size]; rfl) rfl
      case h =>
        intro ax wx hE hR hF
        have e24 : ax.eval (.tmp 24) = _ := hF 10 (det 24 _) (by decide) (.tail _ (.tail _ (.tail _ (.tail _ (.head _)))))
        have e28 : ax.eval (.tmp 28) = _ := hF 14 (det 28 _) (by decide) (.head _)
        exact x_pick_t rfl e24 rfl
      apply Build.det 30 Ext.refl (by rfl) (by rw [k.size]; rfl) rfl
      case h =>
        intro ax wx hE hR hF
        have e29 : ax.eval (.tmp 29) = _ := hF 15 (det 29 _) (by decide) (.head _)
        exact x_move rfl e29
      refine Build.skip 31 (by rfl) (by rw [k.size]; rfl) rfl rfl ?_ ?_
      · intro ax wx hE hR hF
        have e30 : ax.eval (.tmp 30) = _ := hF 16 (det 30 _) (by decide) (.head _)
        exact e30
      refine Build.skip 32 (by rfl) (by rw [k.size]; rfl) rfl rfl ?_ ?_
      · intro ax wx hE hR hF
        have e30 : ax.eval (.tmp 30) = _ := hF 16 (det 30 _) (by decide) (.tail _ (.head _))
        exact e30
      refine Build.skip 33 (by rfl) (by rw [k.size]; rfl) rfl rfl ?_ ?_
      · intro ax wx hE hR hF
        have e30 : ax.eval (.tmp 30) = _ := hF 16 (det 30 _) (by decide) (.tail _ (.tail _ (.head _)))
        exact e30
      refine Build.skipu 34 (by rfl) (by rw [k.size]; rfl) rfl rfl ?_ ?_
      · intro ax wx hE hR hF
        have e33 : ax.eval (.tmp 33) = _ := hF 19 (det 33 _) (by decide) (.head _)
        exact e33
      refine Build.skipu 35 (by rfl) (by rw [k.size]; rfl) rfl rfl ?_ ?_
      · intro ax wx hE hR hF
        have e33 : ax.eval (.tmp 33) = _ := hF 19 (det 33 _) (by decide) (.tail _ (.head _))
        exact e33
      refine Build.skipu 36 (by rfl) (by rw [k.size]; rfl) rfl rfl ?_ ?_
      · intro ax wx hE hR hF
        have e33 : ax.eval (.tmp 33) = _ := hF 19 (det 33 _) (by decide) (.tail _ (.tail _ (.head _)))
        exact e33
      refine Build.skipu 37 (by rfl) (by rw [k.size]; rfl) rfl rfl ?_ ?_
      · intro ax wx hE hR hF
        have e33 : ax.eval (.tmp 33) = _ := hF 19 (det 33 _) (by decide) (.tail _ (.tail _ (.tail _ (.head _))))
        exact e33
      refine Build.skipu 38 (by rfl) (by rw [k.size]; rfl) rfl rfl ?_ ?_
      · intro ax wx hE hR hF
        have e33 : ax.eval (.tmp 33) = _ := hF 19 (det 33 _) (by decide) (.tail _ (.tail _ (.tail _ (.tail _ (.head _)))))
        exact e33
      refine Build.skipu 39 (by rfl) (by rw [k.size]; rfl) rfl rfl ?_ ?_
      · intro ax wx hE hR hF
        have e33 : ax.eval (.tmp 33) = _ := hF 19 (det 33 _) (by decide) (.tail _ (.tail _ (.tail _ (.tail _ (.tail _ (.head _))))))
        exact e33
      refine Build.skipu 40 (by rfl) (by rw [k.size]; rfl) rfl rfl ?_ ?_
      · intro ax wx hE hR hF
        have e33 : ax.eval (.tmp 33) = _ := hF 19 (det 33 _) (by decide) (.tail _ (.tail _ (.tail _ (.tail _ (.tail _ (.tail _ (.head _)))))))
        exact e33
      refine Build.skipu 41 (by rfl) (by rw [k.size]; rfl) rfl rfl ?_ ?_
      · intro ax wx hE hR hF
        have e33 : ax.eval (.tmp 33) = _ := hF 19 (det 33 _) (by decide) (.tail _ (.tail _ (.tail _ (.tail _ (.tail _ (.tail _ (.tail _ (.head _))))))))
        exact e33
      refine Build.skipu 42 (by rfl) (by rw [k.size]; rfl) rfl rfl ?_ ?_
      · intro ax wx hE hR hF
        have e33 : ax.eval (.tmp 33) = _ := hF 19 (det 33 _) (by decide) (.tail _ (.tail _ (.tail _ (.tail _ (.tail _ (.tail _ (.tail _ (.tail _ (.head _)))))))))
        exact e33
      refine Build.skip 43 (by rfl) (by rw [k.size]; rfl) rfl rfl ?_ ?_
      · intro ax wx hE hR hF
        have e30 : ax.eval (.tmp 30) = _ := hF 16 (det 30 _) (by decide) (.tail _ (.tail _ (.tail _ (.tail _ (.tail _ (.tail _ (.tail _ (.tail _ (.tail _ (.tail _ (.tail _ (.tail _ (.head _)))))))))))))
        exact e30
      apply Build.det 44 Ext.refl (by rfl) (by rw [k.size]; rfl) rfl
      case h =>
        intro ax wx hE hR hF
        have e30 : ax.eval (.tmp 30) = _ := hF 16 (det 30 _) (by decide) (.tail _ (.tail _ (.tail _ (.tail _ (.tail _ (.tail _ (.tail _ (.tail _ (.tail _ (.tail _ (.tail _ (.tail _ (.tail _ (.head _))))))))))))))
        have e43 : ax.eval (.tmp 43) = _ := hF 29 (det 43 _) (by decide) (.head _)
        exact x_pick_t rfl e30 rfl
      apply Build.stop
      refine ⟨by kernel_rfl, .inl ⟨rfl, ?_⟩⟩
      intro a16 w17 hE R hF
      have e44 : a16.eval (.tmp 44) = _ := hF 30 (det 44 _) (.head _)
      clear hF
      replace O := OwnT.ext O R
      clear R
      replace e0 := hE.eval 0 (by rfl) e0
      replace e1 := hE.eval 1 (by rfl) e1
      replace e7 := hE.eval 7 (by rfl) e7
      replace e8 := hE.eval 8 (by rfl) e8
      replace e9 := hE.eval 9 (by rfl) e9
      replace k := k.env hE
      clear hE e5 e6
      refine then_n ?_
      refine cond_t e44 rfl ?_
      refine wp_seq ?_
      refine wp_region_lit ?_
      have hE := Env.refl a16 [4]
      apply sq_det 4 hE k rfl (by rfl) (by rfl) rfl
      case h =>
        exact x_assign rfl rfl
      intro a18 hE e4 kp
      refine wpList_nil ?_
      replace k := k.env hE
      clear hE e0 e1 e7 e8 e9 e44
      refine then_n ?_
      refine wp_ret ?_
      refine block_r ?_
      refine then_r ?_
      refine then_r ?_
      refine block_r ?_
      refine then_r ?_
      refine ret_F1 rfl k e4 ?_
      exact ⟨by rw [show goodE size es = false from decide_eq_false (fun h => by have h0 := h i (by omega); unfold OkE at h0; rw [hx, hc] at h0; exact h1 h0.1)]; rfl, O.tail.below⟩
    by_cases h2 : x < size
    rotate_left
    · skip
      refine wp_seq ?_
      refine wp_typed (R := Ext) (w0 := w15) [[], [0], [0, 1], [0, 1, 2], [0, 1, 2, 3], [0, 1, 2, 3, 4], [0, 1, 2, 3, 4, 5], [0, 1, 2, 3, 4], [0, 1, 2, 3, 4, 5, 6, 7], [0, 1, 2, 3, 4, 5, 6, 7, 8], [0, 1, 2, 3, 4, 5, 6, 7, 8, 9], [0, 1, 2, 3, 4, 5, 6, 7, 8, 9, 10], [0, 1, 2, 3, 4, 5, 6, 7, 8, 9, 10, 11], [0, 1, 2, 3, 4, 5, 6, 7, 8, 9, 10, 11, 12], [0, 1, 2, 3, 4, 5, 6, 7, 8, 9, 10, 11, 12, 13], [0, 1, 2, 3, 4, 5, 6, 7, 8, 9, 10, 11, 12, 13, 14], [0, 1, 2, 3, 4, 5, 6, 7, 8, 9, 10, 11, 12, 13, 14, 15], [0, 1, 2, 3, 4, 5, 6, 7, 8, 9, 10, 11, 12, 13, 14, 15, 16], [0, 1, 2, 3, 4, 5, 6, 7, 8, 9, 10, 11, 12, 13, 14, 15, 16, 17], [0, 1, 2, 3, 4, 5, 6, 7, 8, 9, 10, 11, 12, 13, 14, 15, 16, 17, 18], [0, 1, 2, 3, 4, 5, 6, 7, 8, 9, 10, 11, 12, 13, 14, 15, 16, 17, 18, 19], [0, 1, 2, 3, 4, 5, 6, 7, 8, 9, 10, 11, 12, 13, 14, 15, 16, 17, 18, 19], [0, 1, 2, 3, 4, 5, 6, 7, 8, 9, 10, 11, 12, 13, 14, 15, 16, 17, 18, 19, 21], [0, 1, 2, 3, 4, 5, 6, 7, 8, 9, 10, 11, 12, 13, 14, 15, 16, 17, 18, 19, 20, 21, 22], [0, 1, 2, 3, 4, 5, 6, 7, 8, 9, 10, 11, 12, 13, 14, 15, 16, 17, 18, 19, 20, 21, 22, 23], [0, 1, 2, 3, 4, 5, 6, 7, 8, 9, 10, 11, 12, 13, 14, 15, 16, 17, 18, 19, 20, 21, 22, 23, 24], [0, 1, 2, 3, 4, 5, 6, 7, 8, 9, 10, 11, 12, 13, 14, 15, 16, 17, 18, 19], [0, 1, 2, 3, 4, 5, 6, 7, 8, 9, 10, 11, 12, 13, 14, 15, 16, 17, 18, 19, 26], [0, 1, 2, 3, 4, 5, 6, 7, 8, 9, 10, 11, 12, 13, 14, 15, 16, 17, 18, 19, 20, 21, 22, 23, 24, 25, 26, 27], [0, 1, 2, 3, 4, 5, 6, 7, 8, 9, 10, 11, 12, 13, 14, 15, 16, 17, 18, 19, 20, 21, 22, 23, 24, 25, 26, 27, 28], [0, 1, 2, 3, 4, 5, 6, 7, 8, 9, 10, 11, 12, 13, 14, 15, 16, 17, 18, 19, 20, 21, 22, 23, 24, 25, 26, 27, 28, 29]] [14, 15, 16, 17, 18, 19, 20, 21, 22, 23, 24, 25, 26, 27, 28, 29, 30, 31, 32, 33, 34, 35, 36, 37, 38, 39, 40, 41, 42, 43, 44] Ext.refl (fun _ _ _ => Ext.trans) (Ext.drew _) (by kernel_rfl) ?_
      apply Build.det 14 Ext.refl (by rfl) (by rw [k.size]; rfl) rfl
      case h =>
        intro ax wx hE hR hF
        simp [go_sem, ↓IntWalk.iteOmega, ev (hE.eval 6 (by rfl) e6)]
        with_reducible rfl
      apply Build.det 15 Ext.refl (by rfl) (by rw [k.size]; rfl) rfl
      case h =>
        intro ax wx hE hR hF
        have e14 : ax.eval (.tmp 14) = _ := hF 0 (det 14 _) (by decide) (.head _)
        have q0 : wx.cell? ⟨eb, 0, none⟩ = some (.int .i64 x) := (OwnT.blk (OwnT.ext O hR) 0 rfl).cell 0
        simp [go_sem, ↓IntWalk.iteOmega, ev e14, q0]
        with_reducible rfl
      apply Build.call 16 Ext.refl (by rfl) (by rw [k.size]; rfl) rfl
      case h =>
        intro ax wx hE hR hF
        have e15 : ax.eval (.tmp 15) = _ := hF 1 (det 15 _) (by decide) (.head _)
        simp [go_sem, ↓IntWalk.iteOmega, ev e15]
        with_reducible exact ⟨rfl, rfl⟩
      case hc => intro wx hR; exact isPlace_is (show decide (0 ≤ x ∧ x < 64) = true from decide_eq_true h1) wx
      apply Build.det 17 Ext.refl (by rfl) (by rw [k.size]; rfl) rfl
      case h =>
        intro ax wx hE hR hF
        have e16 : ax.eval (.tmp 16) = _ := hF 2 (det 16 _) (by decide) (.head _)
        exact x_not rfl e16
      apply Build.det 18 Ext.refl (by rfl) (by rw [k.size]; rfl) rfl
      case h =>
        intro ax wx hE hR hF
        have e17 : ax.eval (.tmp 17) = _ := hF 3 (det 17 _) (by decide) (.head _)
        exact x_move rfl e17
      apply Build.detg 19 Ext.refl (by rfl) (by rw [k.size]; rfl) rfl rfl
      case h =>
        intro ax wx hE hR hF
        have e18 : ax.eval (.tmp 18) = _ := hF 4 (det 18 _) (by decide) (.head _)
        refine ⟨e18, ?_⟩
        simp [go_sem, ↓IntWalk.iteOmega, ev (hE.eval 6 (by rfl) e6)]
        with_reducible rfl
      apply Build.detg 20 Ext.refl (by rfl) (by rw [k.size]; rfl) rfl rfl
      case h =>
        intro ax wx hE hR hF
        have e19 : ax.eval (.tmp 19) = _ := hF 5 (det 19 _) (by decide) (.head _)
        have e18 : ax.eval (.tmp 18) = _ := hF 4 (det 18 _) (by decide) (.tail _ (.head _))
        refine ⟨e18, ?_⟩
        have q0 : wx.cell? ⟨eb, 0, none⟩ = some (.int .i64 x) := (OwnT.blk (OwnT.ext O hR) 0 rfl).cell 0
        simp [go_sem, ↓IntWalk.iteOmega, ev e19, q0]
        with_reducible rfl
      apply Build.detg 21 Ext.refl (by rfl) (by rw [k.size]; rfl) rfl rfl
      case h =>
        intro ax wx hE hR hF
        have e18 : ax.eval (.tmp 18) = _ := hF 4 (det 18 _) (by decide) (.tail _ (.tail _ (.head _)))
        refine ⟨e18, ?_⟩
        exact x_move rfl (hE.eval 1 (by rfl) e1)
      apply Build.detg 22 Ext.refl (by rfl) (by rw [k.size]; rfl) rfl rfl
      case h =>
        intro ax wx hE hR hF
        have e20 : ax.eval (.tmp 20) = _ := hF 6 (det 20 _) (by decide) (.tail _ (.head _))
        have e21 : ax.eval (.tmp 21) = _ := hF 7 (det 21 _) (by decide) (.head _)
        have e18 : ax.eval (.tmp 18) = _ := hF 4 (det 18 _) (by decide) (.tail _ (.tail _ (.tail _ (.head _))))
        refine ⟨e18, ?_⟩
        exact x_dec (x_geq rfl e20 e21) (decide_eq_true (by omega))
      apply Build.det 23 Ext.refl (by rfl) (by rw [k.size]; rfl) rfl
      case h =>
        intro ax wx hE hR hF
        have e18 : ax.eval (.tmp 18) = _ := hF 4 (det 18 _) (by decide) (.tail _ (.tail _ (.tail _ (.tail _ (.head _)))))
        have e22 : ax.eval (.tmp 22) = _ := hF 8 (det 22 _) (by decide) (.head _)
        exact x_pick_f rfl e18 e22
      apply Build.det 24 Ext.refl (by rfl) (by rw [k.size]; rfl) rfl
      case h =>
        intro ax wx hE hR hF
        have e23 : ax.eval (.tmp 23) = _ := hF 9 (det 23 _) (by decide) (.head _)
        exact x_move rfl e23
      refine Build.skip 25 (by rfl) (by rw [k.size]; rfl) rfl rfl ?_ ?_
      · intro ax wx hE hR hF
        have e24 : ax.eval (.tmp 24) = _ := hF 10 (det 24 _) (by decide) (.head _)
        exact e24
      refine Build.skip 26 (by rfl) (by rw [k.size]; rfl) rfl rfl ?_ ?_
      · intro ax wx hE hR hF
        have e24 : ax.eval (.tmp 24) = _ := hF 10 (det 24 _) (by decide) (.tail _ (.head _))
        exact e24
      refine Build.skip 27 (by rfl) (by rw [k.size]; rfl) rfl rfl ?_ ?_
      · intro ax wx hE hR hF
        have e24 : ax.eval (.tmp 24) = _ := hF 10 (det 24 _) (by decide) (.tail _ (.tail _ (.head _)))
        exact e24
      refine Build.skip 28 (by rfl) (by rw [k.size]; rfl) rfl rfl ?_ ?_
      · intro ax wx hE hR hF
        have e24 : ax.eval (.tmp 24) = _ := hF 10 (det 24 _) (by decide) (.tail _ (.tail _ (.tail _ (.head _))))
        exact e24
      apply Build.det 29 Ext.refl (by rfl) (by rw [k.size]; rfl) rfl
      case h =>
        intro ax wx hE hR hF
        have e24 : ax.eval (.tmp 24) = _ := hF 10 (det 24 _) (by decide) (.tail _ (.tail _ (.tail _ (.tail _ (.head _)))))
        have e28 : ax.eval (.tmp 28) = _ := hF 14 (det 28 _) (by decide) (.head _)
        exact x_pick_t rfl e24 rfl
      apply Build.det 30 Ext.refl (by rfl) (by rw [k.size]; rfl) rfl
      case h =>
        intro ax wx hE hR hF
        have e29 : ax.eval (.tmp 29) = _ := hF 15 (det 29 _) (by decide) (.head _)
        exact x_move rfl e29
      refine Build.skip 31 (by rfl) (by rw [k.size]; rfl) rfl rfl ?_ ?_
      · intro ax wx hE hR hF
        have e30 : ax.eval (.tmp 30) = _ := hF 16 (det 30 _) (by decide) (.head _)
        exact e30
      refine Build.skip 32 (by rfl) (by rw [k.size]; rfl) rfl rfl ?_ ?_
      · intro ax wx hE hR hF
        have e30 : ax.eval (.tmp 30) = _ := hF 16 (det 30 _) (by decide) (.tail _ (.head _))
        exact e30
      refine Build.skip 33 (by rfl) (by rw [k.size]; rfl) rfl rfl ?_ ?_
      · intro ax wx hE hR hF
        have e30 : ax.eval (.tmp 30) = _ := hF 16 (det 30 _) (by decide) (.tail _ (.tail _ (.head _)))
        exact e30
      refine Build.skipu 34 (by rfl) (by rw [k.size]; rfl) rfl rfl ?_ ?_
      · intro ax wx hE hR hF
        have e33 : ax.eval (.tmp 33) = _ := hF 19 (det 33 _) (by decide) (.head _)
        exact e33
      refine Build.skipu 35 (by rfl) (by rw [k.size]; rfl) rfl rfl ?_ ?_
      · intro ax wx hE hR hF
        have e33 : ax.eval (.tmp 33) = _ := hF 19 (det 33 _) (by decide) (.tail _ (.head _))
        exact e33
      refine Build.skipu 36 (by rfl) (by rw [k.size]; rfl) rfl rfl ?_ ?_
      · intro ax wx hE hR hF
        have e33 : ax.eval (.tmp 33) = _ := hF 19 (det 33 _) (by decide) (.tail _ (.tail _ (.head _)))
        exact e33
      refine Build.skipu 37 (by rfl) (by rw [k.size]; rfl) rfl rfl ?_ ?_
      · intro ax wx hE hR hF
        have e33 : ax.eval (.tmp 33) = _ := hF 19 (det 33 _) (by decide) (.tail _ (.tail _ (.tail _ (.head _))))
        exact e33
      refine Build.skipu 38 (by rfl) (by rw [k.size]; rfl) rfl rfl ?_ ?_
      · intro ax wx hE hR hF
        have e33 : ax.eval (.tmp 33) = _ := hF 19 (det 33 _) (by decide) (.tail _ (.tail _ (.tail _ (.tail _ (.head _)))))
        exact e33
      refine Build.skipu 39 (by rfl) (by rw [k.size]; rfl) rfl rfl ?_ ?_
      · intro ax wx hE hR hF
        have e33 : ax.eval (.tmp 33) = _ := hF 19 (det 33 _) (by decide) (.tail _ (.tail _ (.tail _ (.tail _ (.tail _ (.head _))))))
        exact e33
      refine Build.skipu 40 (by rfl) (by rw [k.size]; rfl) rfl rfl ?_ ?_
      · intro ax wx hE hR hF
        have e33 : ax.eval (.tmp 33) = _ := hF 19 (det 33 _) (by decide) (.tail _ (.tail _ (.tail _ (.tail _ (.tail _ (.tail _ (.head _)))))))
        exact e33
      refine Build.skipu 41 (by rfl) (by rw [k.size]; rfl) rfl rfl ?_ ?_
      · intro ax wx hE hR hF
        have e33 : ax.eval (.tmp 33) = _ := hF 19 (det 33 _) (by decide) (.tail _ (.tail _ (.tail _ (.tail _ (.tail _ (.tail _ (.tail _ (.head _))))))))
        exact e33
      refine Build.skipu 42 (by rfl) (by rw [k.size]; rfl) rfl rfl ?_ ?_
      · intro ax wx hE hR hF
        have e33 : ax.eval (.tmp 33) = _ := hF 19 (det 33 _) (by decide) (.tail _ (.tail _ (.tail _ (.tail _ (.tail _ (.tail _ (.tail _ (.tail _ (.head _)))))))))
        exact e33
      refine Build.skip 43 (by rfl) (by rw [k.size]; rfl) rfl rfl ?_ ?_
      · intro ax wx hE hR hF
        have e30 : ax.eval (.tmp 30) = _ := hF 16 (det 30 _) (by decide) (.tail _ (.tail _ (.tail _ (.tail _ (.tail _ (.tail _ (.tail _ (.tail _ (.tail _ (.tail _ (.tail _ (.tail _ (.head _)))))))))))))
        exact e30
      apply Build.det 44 Ext.refl (by rfl) (by rw [k.size]; rfl) rfl
      case h =>
        intro ax wx hE hR hF
        have e30 : ax.eval (.tmp 30) = _ := hF 16 (det 30 _) (by decide) (.tail _ (.tail _ (.tail _ (.tail _ (.tail _ (.tail _ (.tail _ (.tail _ (.tail _ (.tail _ (.tail _ (.tail _ (.tail _ (.head _))))))))))))))
        have e43 : ax.eval (.tmp 43) = _ := hF 29 (det 43 _) (by decide) (.head _)
        exact x_pick_t rfl e30 rfl
      apply Build.stop
      refine ⟨by kernel_rfl, .inl ⟨rfl, ?_⟩⟩
      intro a19 w20 hE R hF
      have e44 : a19.eval (.tmp 44) = _ := hF 30 (det 44 _) (.head _)
      clear hF
      replace O := OwnT.ext O R
      clear R
      replace e0 := hE.eval 0 (by rfl) e0
      replace e1 := hE.eval 1 (by rfl) e1
      replace e7 := hE.eval 7 (by rfl) e7
      replace e8 := hE.eval 8 (by rfl) e8
      replace e9 := hE.eval 9 (by rfl) e9
      replace k := k.env hE
      clear hE e5 e6
      refine then_n ?_
      refine cond_t e44 rfl ?_
      refine wp_seq ?_
      refine wp_region_lit ?_
      have hE := Env.refl a19 [4]
      apply sq_det 4 hE k rfl (by rfl) (by rfl) rfl
      case h =>
        exact x_assign rfl rfl
      intro a21 hE e4 kp
      refine wpList_nil ?_
      replace k := k.env hE
      clear hE e0 e1 e7 e8 e9 e44
      refine then_n ?_
      refine wp_ret ?_
      refine block_r ?_
      refine then_r ?_
      refine then_r ?_
      refine block_r ?_
      refine then_r ?_
      refine ret_F1 rfl k e4 ?_
      exact ⟨by rw [show goodE size es = false from decide_eq_false (fun h => by have h0 := h i (by omega); unfold OkE at h0; rw [hx, hc] at h0; exact h2 h0.2.1)]; rfl, O.tail.below⟩
    by_cases h3 : 1 ≤ c ∧ c ≤ 1023
    rotate_left
    · skip
      refine wp_seq ?_
      refine wp_typed (R := Ext) (w0 := w15) [[], [0], [0, 1], [0, 1, 2], [0, 1, 2, 3], [0, 1, 2, 3, 4], [0, 1, 2, 3, 4, 5], [0, 1, 2, 3, 4], [0, 1, 2, 3, 4, 5, 6, 7], [0, 1, 2, 3, 4, 5, 6, 7, 8], [0, 1, 2, 3, 4, 5, 6, 7, 8, 9], [0, 1, 2, 3, 4, 5, 6, 7, 8, 9, 10], [0, 1, 2, 3, 4, 5, 6, 7, 8, 9, 10, 11], [0, 1, 2, 3, 4, 5, 6, 7, 8, 9, 10, 11, 12], [0, 1, 2, 3, 4, 5, 6, 7, 8, 9, 10, 11, 12, 13], [0, 1, 2, 3, 4, 5, 6, 7, 8, 9, 10, 11, 12, 13, 14], [0, 1, 2, 3, 4, 5, 6, 7, 8, 9, 10, 11, 12, 13, 14, 15], [0, 1, 2, 3, 4, 5, 6, 7, 8, 9, 10, 11, 12, 13, 14, 15, 16], [0, 1, 2, 3, 4, 5, 6, 7, 8, 9, 10, 11, 12, 13, 14, 15, 16, 17], [0, 1, 2, 3, 4, 5, 6, 7, 8, 9, 10, 11, 12, 13, 14, 15, 16, 17, 18], [0, 1, 2, 3, 4, 5, 6, 7, 8, 9, 10, 11, 12, 13, 14, 15, 16, 17, 18, 19], [0, 1, 2, 3, 4, 5, 6, 7, 8, 9, 10, 11, 12, 13, 14, 15, 16, 17, 18, 19], [0, 1, 2, 3, 4, 5, 6, 7, 8, 9, 10, 11, 12, 13, 14, 15, 16, 17, 18, 19, 21], [0, 1, 2, 3, 4, 5, 6, 7, 8, 9, 10, 11, 12, 13, 14, 15, 16, 17, 18, 19, 20, 21, 22], [0, 1, 2, 3, 4, 5, 6, 7, 8, 9, 10, 11, 12, 13, 14, 15, 16, 17, 18, 19, 20, 21, 22, 23], [0, 1, 2, 3, 4, 5, 6, 7, 8, 9, 10, 11, 12, 13, 14, 15, 16, 17, 18, 19, 20, 21, 22, 23, 24], [0, 1, 2, 3, 4, 5, 6, 7, 8, 9, 10, 11, 12, 13, 14, 15, 16, 17, 18, 19], [0, 1, 2, 3, 4, 5, 6, 7, 8, 9, 10, 11, 12, 13, 14, 15, 16, 17, 18, 19, 26], [0, 1, 2, 3, 4, 5, 6, 7, 8, 9, 10, 11, 12, 13, 14, 15, 16, 17, 18, 19, 20, 21, 22, 23, 24, 25, 26, 27], [0, 1, 2, 3, 4, 5, 6, 7, 8, 9, 10, 11, 12, 13, 14, 15, 16, 17, 18, 19, 20, 21, 22, 23, 24, 25, 26, 27, 28], [0, 1, 2, 3, 4, 5, 6, 7, 8, 9, 10, 11, 12, 13, 14, 15, 16, 17, 18, 19, 20, 21, 22, 23, 24, 25, 26, 27, 28, 29]] [14, 15, 16, 17, 18, 19, 20, 21, 22, 23, 24, 25, 26, 27, 28, 29, 30, 31, 32, 33, 34, 35, 36, 37, 38, 39, 40, 41, 42, 43, 44] Ext.refl (fun _ _ _ => Ext.trans) (Ext.drew _) (by kernel_rfl) ?_
      apply Build.det 14 Ext.refl (by rfl) (by rw [k.size]; rfl) rfl
      case h =>
        intro ax wx hE hR hF
        simp [go_sem, ↓IntWalk.iteOmega, ev (hE.eval 6 (by rfl) e6)]
        with_reducible rfl
      apply Build.det 15 Ext.refl (by rfl) (by rw [k.size]; rfl) rfl
      case h =>
        intro ax wx hE hR hF
        have e14 : ax.eval (.tmp 14) = _ := hF 0 (det 14 _) (by decide) (.head _)
        have q0 : wx.cell? ⟨eb, 0, none⟩ = some (.int .i64 x) := (OwnT.blk (OwnT.ext O hR) 0 rfl).cell 0
        simp [go_sem, ↓IntWalk.iteOmega, ev e14, q0]
        with_reducible rfl
      apply Build.call 16 Ext.refl (by rfl) (by rw [k.size]; rfl) rfl
      case h =>
        intro ax wx hE hR hF
        have e15 : ax.eval (.tmp 15) = _ := hF 1 (det 15 _) (by decide) (.head _)
        simp [go_sem, ↓IntWalk.iteOmega, ev e15]
        with_reducible exact ⟨rfl, rfl⟩
      case hc => intro wx hR; exact isPlace_is (show decide (0 ≤ x ∧ x < 64) = true from decide_eq_true h1) wx
      apply Build.det 17 Ext.refl (by rfl) (by rw [k.size]; rfl) rfl
      case h =>
        intro ax wx hE hR hF
        have e16 : ax.eval (.tmp 16) = _ := hF 2 (det 16 _) (by decide) (.head _)
        exact x_not rfl e16
      apply Build.det 18 Ext.refl (by rfl) (by rw [k.size]; rfl) rfl
      case h =>
        intro ax wx hE hR hF
        have e17 : ax.eval (.tmp 17) = _ := hF 3 (det 17 _) (by decide) (.head _)
        exact x_move rfl e17
      apply Build.detg 19 Ext.refl (by rfl) (by rw [k.size]; rfl) rfl rfl
      case h =>
        intro ax wx hE hR hF
        have e18 : ax.eval (.tmp 18) = _ := hF 4 (det 18 _) (by decide) (.head _)
        refine ⟨e18, ?_⟩
        simp [go_sem, ↓IntWalk.iteOmega, ev (hE.eval 6 (by rfl) e6)]
        with_reducible rfl
      apply Build.detg 20 Ext.refl (by rfl) (by rw [k.size]; rfl) rfl rfl
      case h =>
        intro ax wx hE hR hF
        have e19 : ax.eval (.tmp 19) = _ := hF 5 (det 19 _) (by decide) (.head _)
        have e18 : ax.eval (.tmp 18) = _ := hF 4 (det 18 _) (by decide) (.tail _ (.head _))
        refine ⟨e18, ?_⟩
        have q0 : wx.cell? ⟨eb, 0, none⟩ = some (.int .i64 x) := (OwnT.blk (OwnT.ext O hR) 0 rfl).cell 0
        simp [go_sem, ↓IntWalk.iteOmega, ev e19, q0]
        with_reducible rfl
      apply Build.detg 21 Ext.refl (by rfl) (by rw [k.size]; rfl) rfl rfl
      case h =>
        intro ax wx hE hR hF
        have e18 : ax.eval (.tmp 18) = _ := hF 4 (det 18 _) (by decide) (.tail _ (.tail _ (.head _)))
        refine ⟨e18, ?_⟩
        exact x_move rfl (hE.eval 1 (by rfl) e1)
      apply Build.detg 22 Ext.refl (by rfl) (by rw [k.size]; rfl) rfl rfl
      case h =>
        intro ax wx hE hR hF
        have e20 : ax.eval (.tmp 20) = _ := hF 6 (det 20 _) (by decide) (.tail _ (.head _))
        have e21 : ax.eval (.tmp 21) = _ := hF 7 (det 21 _) (by decide) (.head _)
        have e18 : ax.eval (.tmp 18) = _ := hF 4 (det 18 _) (by decide) (.tail _ (.tail _ (.tail _ (.head _))))
        refine ⟨e18, ?_⟩
        exact x_dec (x_geq rfl e20 e21) (decide_eq_false (by omega))
      apply Build.det 23 Ext.refl (by rfl) (by rw [k.size]; rfl) rfl
      case h =>
        intro ax wx hE hR hF
        have e18 : ax.eval (.tmp 18) = _ := hF 4 (det 18 _) (by decide) (.tail _ (.tail _ (.tail _ (.tail _ (.head _)))))
        have e22 : ax.eval (.tmp 22) = _ := hF 8 (det 22 _) (by decide) (.head _)
        exact x_pick_f rfl e18 e22
      apply Build.det 24 Ext.refl (by rfl) (by rw [k.size]; rfl) rfl
      case h =>
        intro ax wx hE hR hF
        have e23 : ax.eval (.tmp 23) = _ := hF 9 (det 23 _) (by decide) (.head _)
        exact x_move rfl e23
      apply Build.detg 25 Ext.refl (by rfl) (by rw [k.size]; rfl) rfl rfl
      case h =>
        intro ax wx hE hR hF
        have e24 : ax.eval (.tmp 24) = _ := hF 10 (det 24 _) (by decide) (.head _)
        refine ⟨e24, ?_⟩
        simp [go_sem, ↓IntWalk.iteOmega, ev (hE.eval 6 (by rfl) e6)]
        with_reducible rfl
      apply Build.detg 26 Ext.refl (by rfl) (by rw [k.size]; rfl) rfl rfl
      case h =>
        intro ax wx hE hR hF
        have e25 : ax.eval (.tmp 25) = _ := hF 11 (det 25 _) (by decide) (.head _)
        have e24 : ax.eval (.tmp 24) = _ := hF 10 (det 24 _) (by decide) (.tail _ (.head _))
        refine ⟨e24, ?_⟩
        have q0 : wx.cell? ⟨eb, 1, none⟩ = some (.int .i64 c) := (OwnT.blk (OwnT.ext O hR) 0 rfl).cell 1
        simp [go_sem, ↓IntWalk.iteOmega, ev e25, q0]
        with_reducible rfl
      apply Build.callg 27 Ext.refl (by rfl) (by rw [k.size]; rfl) rfl rfl
      case h =>
        intro ax wx hE hR hF
        have e26 : ax.eval (.tmp 26) = _ := hF 12 (det 26 _) (by decide) (.head _)
        have e24 : ax.eval (.tmp 24) = _ := hF 10 (det 24 _) (by decide) (.tail _ (.tail _ (.head _)))
        refine ⟨e24, ?_⟩
        simp [go_sem, ↓IntWalk.iteOmega, ev e26]
        with_reducible exact ⟨rfl, rfl⟩
      case hc => intro wx hR; exact isChunk_is (show decide (1 ≤ c ∧ c ≤ 1023) = false from decide_eq_false h3) wx
      apply Build.detg 28 Ext.refl (by rfl) (by rw [k.size]; rfl) rfl rfl
      case h =>
        intro ax wx hE hR hF
        have e27 : ax.eval (.tmp 27) = _ := hF 13 (det 27 _) (by decide) (.head _)
        have e24 : ax.eval (.tmp 24) = _ := hF 10 (det 24 _) (by decide) (.tail _ (.tail _ (.tail _ (.head _))))
        refine ⟨e24, ?_⟩
        exact x_not rfl e27
      apply Build.det 29 Ext.refl (by rfl) (by rw [k.size]; rfl) rfl
      case h =>
        intro ax wx hE hR hF
        have e24 : ax.eval (.tmp 24) = _ := hF 10 (det 24 _) (by decide) (.tail _ (.tail _ (.tail _ (.tail _ (.head _)))))
        have e28 : ax.eval (.tmp 28) = _ := hF 14 (det 28 _) (by decide) (.head _)
        exact x_pick_f rfl e24 e28
      apply Build.det 30 Ext.refl (by rfl) (by rw [k.size]; rfl) rfl
      case h =>
        intro ax wx hE hR hF
        have e29 : ax.eval (.tmp 29) = _ := hF 15 (det 29 _) (by decide) (.head _)
        exact x_move rfl e29
      refine Build.skip 31 (by rfl) (by rw [k.size]; rfl) rfl rfl ?_ ?_
      · intro ax wx hE hR hF
        have e30 : ax.eval (.tmp 30) = _ := hF 16 (det 30 _) (by decide) (.head _)
        exact e30
      refine Build.skip 32 (by rfl) (by rw [k.size]; rfl) rfl rfl ?_ ?_
      · intro ax wx hE hR hF
        have e30 : ax.eval (.tmp 30) = _ := hF 16 (det 30 _) (by decide) (.tail _ (.head _))
        exact e30
      refine Build.skip 33 (by rfl) (by rw [k.size]; rfl) rfl rfl ?_ ?_
      · intro ax wx hE hR hF
        have e30 : ax.eval (.tmp 30) = _ := hF 16 (det 30 _) (by decide) (.tail _ (.tail _ (.head _)))
        exact e30
      refine Build.skipu 34 (by rfl) (by rw [k.size]; rfl) rfl rfl ?_ ?_
      · intro ax wx hE hR hF
        have e33 : ax.eval (.tmp 33) = _ := hF 19 (det 33 _) (by decide) (.head _)
        exact e33
      refine Build.skipu 35 (by rfl) (by rw [k.size]; rfl) rfl rfl ?_ ?_
      · intro ax wx hE hR hF
        have e33 : ax.eval (.tmp 33) = _ := hF 19 (det 33 _) (by decide) (.tail _ (.head _))
        exact e33
      refine Build.skipu 36 (by rfl) (by rw [k.size]; rfl) rfl rfl ?_ ?_
      · intro ax wx hE hR hF
        have e33 : ax.eval (.tmp 33) = _ := hF 19 (det 33 _) (by decide) (.tail _ (.tail _ (.head _)))
        exact e33
      refine Build.skipu 37 (by rfl) (by rw [k.size]; rfl) rfl rfl ?_ ?_
      · intro ax wx hE hR hF
        have e33 : ax.eval (.tmp 33) = _ := hF 19 (det 33 _) (by decide) (.tail _ (.tail _ (.tail _ (.head _))))
        exact e33
      refine Build.skipu 38 (by rfl) (by rw [k.size]; rfl) rfl rfl ?_ ?_
      · intro ax wx hE hR hF
        have e33 : ax.eval (.tmp 33) = _ := hF 19 (det 33 _) (by decide) (.tail _ (.tail _ (.tail _ (.tail _ (.head _)))))
        exact e33
      refine Build.skipu 39 (by rfl) (by rw [k.size]; rfl) rfl rfl ?_ ?_
      · intro ax wx hE hR hF
        have e33 : ax.eval (.tmp 33) = _ := hF 19 (det 33 _) (by decide) (.tail _ (.tail _ (.tail _ (.tail _ (.tail _ (.head _))))))
        exact e33
      refine Build.skipu 40 (by rfl) (by rw [k.size]; rfl) rfl rfl ?_ ?_
      · intro ax wx hE hR hF
        have e33 : ax.eval (.tmp 33) = _ := hF 19 (det 33 _) (by decide) (.tail _ (.tail _ (.tail _ (.tail _ (.tail _ (.tail _ (.head _)))))))
        exact e33
      refine Build.skipu 41 (by rfl) (by rw [k.size]; rfl) rfl rfl ?_ ?_
      · intro ax wx hE hR hF
        have e33 : ax.eval (.tmp 33) = _ := hF 19 (det 33 _) (by decide) (.tail _ (.tail _ (.tail _ (.tail _ (.tail _ (.tail _ (.tail _ (.head _))))))))
        exact e33
      refine Build.skipu 42 (by rfl) (by rw [k.size]; rfl) rfl rfl ?_ ?_
      · intro ax wx hE hR hF
        have e33 : ax.eval (.tmp 33) = _ := hF 19 (det 33 _) (by decide) (.tail _ (.tail _ (.tail _ (.tail _ (.tail _ (.tail _ (.tail _ (.tail _ (.head _)))))))))
        exact e33
      refine Build.skip 43 (by rfl) (by rw [k.size]; rfl) rfl rfl ?_ ?_
      · intro ax wx hE hR hF
        have e30 : ax.eval (.tmp 30) = _ := hF 16 (det 30 _) (by decide) (.tail _ (.tail _ (.tail _ (.tail _ (.tail _ (.tail _ (.tail _ (.tail _ (.tail _ (.tail _ (.tail _ (.tail _ (.head _)))))))))))))
        exact e30
      apply Build.det 44 Ext.refl (by rfl) (by rw [k.size]; rfl) rfl
      case h =>
        intro ax wx hE hR hF
        have e30 : ax.eval (.tmp 30) = _ := hF 16 (det 30 _) (by decide) (.tail _ (.tail _ (.tail _ (.tail _ (.tail _ (.tail _ (.tail _ (.tail _ (.tail _ (.tail _ (.tail _ (.tail _ (.tail _ (.head _))))))))))))))
        have e43 : ax.eval (.tmp 43) = _ := hF 29 (det 43 _) (by decide) (.head _)
        exact x_pick_t rfl e30 rfl
      apply Build.stop
      refine ⟨by kernel_rfl, .inl ⟨rfl, ?_⟩⟩
      intro a22 w23 hE R hF
      have e44 : a22.eval (.tmp 44) = _ := hF 30 (det 44 _) (.head _)
      clear hF
      replace O := OwnT.ext O R
      clear R
      replace e0 := hE.eval 0 (by rfl) e0
      replace e1 := hE.eval 1 (by rfl) e1
      replace e7 := hE.eval 7 (by rfl) e7
      replace e8 := hE.eval 8 (by rfl) e8
      replace e9 := hE.eval 9 (by rfl) e9
      replace k := k.env hE
      clear hE e5 e6
      refine then_n ?_
      refine cond_t e44 rfl ?_
      refine wp_seq ?_
      refine wp_region_lit ?_
      have hE := Env.refl a22 [4]
      apply sq_det 4 hE k rfl (by rfl) (by rfl) rfl
      case h =>
        exact x_assign rfl rfl
      intro a24 hE e4 kp
      refine wpList_nil ?_
      replace k := k.env hE
      clear hE e0 e1 e7 e8 e9 e44
      refine then_n ?_
      refine wp_ret ?_
      refine block_r ?_
      refine then_r ?_
      refine then_r ?_
      refine block_r ?_
      refine then_r ?_
      refine ret_F1 rfl k e4 ?_
      exact ⟨by rw [show goodE size es = false from decide_eq_false (fun h => by have h0 := h i (by omega); unfold OkE at h0; rw [hx, hc] at h0; exact h3 h0.2.2.1)]; rfl, O.tail.below⟩
    rcases Nat.eq_zero_or_pos i with hi0 | hi0
    · skip
      refine wp_seq ?_
      refine wp_typed (R := Ext) (w0 := w15) [[], [0], [0, 1], [0, 1, 2], [0, 1, 2, 3], [0, 1, 2, 3, 4], [0, 1, 2, 3, 4, 5], [0, 1, 2, 3, 4], [0, 1, 2, 3, 4, 5, 6, 7], [0, 1, 2, 3, 4, 5, 6, 7, 8], [0, 1, 2, 3, 4, 5, 6, 7, 8, 9], [0, 1, 2, 3, 4, 5, 6, 7, 8, 9, 10], [0, 1, 2, 3, 4, 5, 6, 7, 8, 9, 10, 11], [0, 1, 2, 3, 4, 5, 6, 7, 8, 9, 10, 11, 12], [0, 1, 2, 3, 4, 5, 6, 7, 8, 9, 10, 11, 12, 13], [0, 1, 2, 3, 4, 5, 6, 7, 8, 9, 10, 11, 12, 13, 14], [0, 1, 2, 3, 4, 5, 6, 7, 8, 9, 10, 11, 12, 13, 14, 15], [0, 1, 2, 3, 4, 5, 6, 7, 8, 9, 10, 11, 12, 13, 14, 15, 16], [0, 1, 2, 3, 4, 5, 6, 7, 8, 9, 10, 11, 12, 13, 14, 15, 16, 17], [0, 1, 2, 3, 4, 5, 6, 7, 8, 9, 10, 11, 12, 13, 14, 15, 16, 17, 18], [0, 1, 2, 3, 4, 5, 6, 7, 8, 9, 10, 11, 12, 13, 14, 15, 16, 17, 18, 19], [0, 1, 2, 3, 4, 5, 6, 7, 8, 9, 10, 11, 12, 13, 14, 15, 16, 17, 18, 19], [0, 1, 2, 3, 4, 5, 6, 7, 8, 9, 10, 11, 12, 13, 14, 15, 16, 17, 18, 19, 21], [0, 1, 2, 3, 4, 5, 6, 7, 8, 9, 10, 11, 12, 13, 14, 15, 16, 17, 18, 19, 20, 21, 22], [0, 1, 2, 3, 4, 5, 6, 7, 8, 9, 10, 11, 12, 13, 14, 15, 16, 17, 18, 19, 20, 21, 22, 23], [0, 1, 2, 3, 4, 5, 6, 7, 8, 9, 10, 11, 12, 13, 14, 15, 16, 17, 18, 19, 20, 21, 22, 23, 24], [0, 1, 2, 3, 4, 5, 6, 7, 8, 9, 10, 11, 12, 13, 14, 15, 16, 17, 18, 19], [0, 1, 2, 3, 4, 5, 6, 7, 8, 9, 10, 11, 12, 13, 14, 15, 16, 17, 18, 19, 26], [0, 1, 2, 3, 4, 5, 6, 7, 8, 9, 10, 11, 12, 13, 14, 15, 16, 17, 18, 19, 20, 21, 22, 23, 24, 25, 26, 27], [0, 1, 2, 3, 4, 5, 6, 7, 8, 9, 10, 11, 12, 13, 14, 15, 16, 17, 18, 19, 20, 21, 22, 23, 24, 25, 26, 27, 28], [0, 1, 2, 3, 4, 5, 6, 7, 8, 9, 10, 11, 12, 13, 14, 15, 16, 17, 18, 19, 20, 21, 22, 23, 24, 25, 26, 27, 28, 29]] [14, 15, 16, 17, 18, 19, 20, 21, 22, 23, 24, 25, 26, 27, 28, 29, 30, 31, 32, 33, 34, 35, 36, 37, 38, 39, 40, 41, 42, 43, 44] Ext.refl (fun _ _ _ => Ext.trans) (Ext.drew _) (by kernel_rfl) ?_
      apply Build.det 14 Ext.refl (by rfl) (by rw [k.size]; rfl) rfl
      case h =>
        intro ax wx hE hR hF
        simp [go_sem, ↓IntWalk.iteOmega, ev (hE.eval 6 (by rfl) e6)]
        with_reducible rfl
      apply Build.det 15 Ext.refl (by rfl) (by rw [k.size]; rfl) rfl
      case h =>
        intro ax wx hE hR hF
        have e14 : ax.eval (.tmp 14) = _ := hF 0 (det 14 _) (by decide) (.head _)
        have q0 : wx.cell? ⟨eb, 0, none⟩ = some (.int .i64 x) := (OwnT.blk (OwnT.ext O hR) 0 rfl).cell 0
        simp [go_sem, ↓IntWalk.iteOmega, ev e14, q0]
        with_reducible rfl
      apply Build.call 16 Ext.refl (by rfl) (by rw [k.size]; rfl) rfl
      case h =>
        intro ax wx hE hR hF
        have e15 : ax.eval (.tmp 15) = _ := hF 1 (det 15 _) (by decide) (.head _)
        simp [go_sem, ↓IntWalk.iteOmega, ev e15]
        with_reducible exact ⟨rfl, rfl⟩
      case hc => intro wx hR; exact isPlace_is (show decide (0 ≤ x ∧ x < 64) = true from decide_eq_true h1) wx
      apply Build.det 17 Ext.refl (by rfl) (by rw [k.size]; rfl) rfl
      case h =>
        intro ax wx hE hR hF
        have e16 : ax.eval (.tmp 16) = _ := hF 2 (det 16 _) (by decide) (.head _)
        exact x_not rfl e16
      apply Build.det 18 Ext.refl (by rfl) (by rw [k.size]; rfl) rfl
      case h =>
        intro ax wx hE hR hF
        have e17 : ax.eval (.tmp 17) = _ := hF 3 (det 17 _) (by decide) (.head _)
        exact x_move rfl e17
      apply Build.detg 19 Ext.refl (by rfl) (by rw [k.size]; rfl) rfl rfl
      case h =>
        intro ax wx hE hR hF
        have e18 : ax.eval (.tmp 18) = _ := hF 4 (det 18 _) (by decide) (.head _)
        refine ⟨e18, ?_⟩
        simp [go_sem, ↓IntWalk.iteOmega, ev (hE.eval 6 (by rfl) e6)]
        with_reducible rfl
      apply Build.detg 20 Ext.refl (by rfl) (by rw [k.size]; rfl) rfl rfl
      case h =>
        intro ax wx hE hR hF
        have e19 : ax.eval (.tmp 19) = _ := hF 5 (det 19 _) (by decide) (.head _)
        have e18 : ax.eval (.tmp 18) = _ := hF 4 (det 18 _) (by decide) (.tail _ (.head _))
        refine ⟨e18, ?_⟩
        have q0 : wx.cell? ⟨eb, 0, none⟩ = some (.int .i64 x) := (OwnT.blk (OwnT.ext O hR) 0 rfl).cell 0
        simp [go_sem, ↓IntWalk.iteOmega, ev e19, q0]
        with_reducible rfl
      apply Build.detg 21 Ext.refl (by rfl) (by rw [k.size]; rfl) rfl rfl
      case h =>
        intro ax wx hE hR hF
        have e18 : ax.eval (.tmp 18) = _ := hF 4 (det 18 _) (by decide) (.tail _ (.tail _ (.head _)))
        refine ⟨e18, ?_⟩
        exact x_move rfl (hE.eval 1 (by rfl) e1)
      apply Build.detg 22 Ext.refl (by rfl) (by rw [k.size]; rfl) rfl rfl
      case h =>
        intro ax wx hE hR hF
        have e20 : ax.eval (.tmp 20) = _ := hF 6 (det 20 _) (by decide) (.tail _ (.head _))
        have e21 : ax.eval (.tmp 21) = _ := hF 7 (det 21 _) (by decide) (.head _)
        have e18 : ax.eval (.tmp 18) = _ := hF 4 (det 18 _) (by decide) (.tail _ (.tail _ (.tail _ (.head _))))
        refine ⟨e18, ?_⟩
        exact x_dec (x_geq rfl e20 e21) (decide_eq_false (by omega))
      apply Build.det 23 Ext.refl (by rfl) (by rw [k.size]; rfl) rfl
      case h =>
        intro ax wx hE hR hF
        have e18 : ax.eval (.tmp 18) = _ := hF 4 (det 18 _) (by decide) (.tail _ (.tail _ (.tail _ (.tail _ (.head _)))))
        have e22 : ax.eval (.tmp 22) = _ := hF 8 (det 22 _) (by decide) (.head _)
        exact x_pick_f rfl e18 e22
      apply Build.det 24 Ext.refl (by rfl) (by rw [k.size]; rfl) rfl
      case h =>
        intro ax wx hE hR hF
        have e23 : ax.eval (.tmp 23) = _ := hF 9 (det 23 _) (by decide) (.head _)
        exact x_move rfl e23
      apply Build.detg 25 Ext.refl (by rfl) (by rw [k.size]; rfl) rfl rfl
      case h =>
        intro ax wx hE hR hF
        have e24 : ax.eval (.tmp 24) = _ := hF 10 (det 24 _) (by decide) (.head _)
        refine ⟨e24, ?_⟩
        simp [go_sem, ↓IntWalk.iteOmega, ev (hE.eval 6 (by rfl) e6)]
        with_reducible rfl
      apply Build.detg 26 Ext.refl (by rfl) (by rw [k.size]; rfl) rfl rfl
      case h =>
        intro ax wx hE hR hF
        have e25 : ax.eval (.tmp 25) = _ := hF 11 (det 25 _) (by decide) (.head _)
        have e24 : ax.eval (.tmp 24) = _ := hF 10 (det 24 _) (by decide) (.tail _ (.head _))
        refine ⟨e24, ?_⟩
        have q0 : wx.cell? ⟨eb, 1, none⟩ = some (.int .i64 c) := (OwnT.blk (OwnT.ext O hR) 0 rfl).cell 1
        simp [go_sem, ↓IntWalk.iteOmega, ev e25, q0]
        with_reducible rfl
      apply Build.callg 27 Ext.refl (by rfl) (by rw [k.size]; rfl) rfl rfl
      case h =>
        intro ax wx hE hR hF
        have e26 : ax.eval (.tmp 26) = _ := hF 12 (det 26 _) (by decide) (.head _)
        have e24 : ax.eval (.tmp 24) = _ := hF 10 (det 24 _) (by decide) (.tail _ (.tail _ (.head _)))
        refine ⟨e24, ?_⟩
        simp [go_sem, ↓IntWalk.iteOmega, ev e26]
        with_reducible exact ⟨rfl, rfl⟩
      case hc => intro wx hR; exact isChunk_is (show decide (1 ≤ c ∧ c ≤ 1023) = true from decide_eq_true h3) wx
      apply Build.detg 28 Ext.refl (by rfl) (by rw [k.size]; rfl) rfl rfl
      case h =>
        intro ax wx hE hR hF
        have e27 : ax.eval (.tmp 27) = _ := hF 13 (det 27 _) (by decide) (.head _)
        have e24 : ax.eval (.tmp 24) = _ := hF 10 (det 24 _) (by decide) (.tail _ (.tail _ (.tail _ (.head _))))
        refine ⟨e24, ?_⟩
        exact x_not rfl e27
      apply Build.det 29 Ext.refl (by rfl) (by rw [k.size]; rfl) rfl
      case h =>
        intro ax wx hE hR hF
        have e24 : ax.eval (.tmp 24) = _ := hF 10 (det 24 _) (by decide) (.tail _ (.tail _ (.tail _ (.tail _ (.head _)))))
        have e28 : ax.eval (.tmp 28) = _ := hF 14 (det 28 _) (by decide) (.head _)
        exact x_pick_f rfl e24 e28
      apply Build.det 30 Ext.refl (by rfl) (by rw [k.size]; rfl) rfl
      case h =>
        intro ax wx hE hR hF
        have e29 : ax.eval (.tmp 29) = _ := hF 15 (det 29 _) (by decide) (.head _)
        exact x_move rfl e29
      apply Build.detg 31 Ext.refl (by rfl) (by rw [k.size]; rfl) rfl rfl
      case h =>
        intro ax wx hE hR hF
        have e30 : ax.eval (.tmp 30) = _ := hF 16 (det 30 _) (by decide) (.head _)
        refine ⟨e30, ?_⟩
        exact x_move rfl (hE.eval 5 (by rfl) e5)
      apply Build.detg 32 Ext.refl (by rfl) (by rw [k.size]; rfl) rfl rfl
      case h =>
        intro ax wx hE hR hF
        have e31 : ax.eval (.tmp 31) = _ := hF 17 (det 31 _) (by decide) (.head _)
        have e30 : ax.eval (.tmp 30) = _ := hF 16 (det 30 _) (by decide) (.tail _ (.head _))
        refine ⟨e30, ?_⟩
        exact x_dec (x_gtr rfl e31 rfl) (decide_eq_false (by omega))
      apply Build.detg 33 Ext.refl (by rfl) (by rw [k.size]; rfl) rfl rfl
      case h =>
        intro ax wx hE hR hF
        have e32 : ax.eval (.tmp 32) = _ := hF 18 (det 32 _) (by decide) (.head _)
        have e30 : ax.eval (.tmp 30) = _ := hF 16 (det 30 _) (by decide) (.tail _ (.tail _ (.head _)))
        refine ⟨e30, ?_⟩
        exact x_move rfl e32
      refine Build.skip 34 (by rfl) (by rw [k.size]; rfl) rfl rfl ?_ ?_
      · intro ax wx hE hR hF
        have e33 : ax.eval (.tmp 33) = _ := hF 19 (det 33 _) (by decide) (.head _)
        exact e33
      refine Build.skip 35 (by rfl) (by rw [k.size]; rfl) rfl rfl ?_ ?_
      · intro ax wx hE hR hF
        have e33 : ax.eval (.tmp 33) = _ := hF 19 (det 33 _) (by decide) (.tail _ (.head _))
        exact e33
      refine Build.skip 36 (by rfl) (by rw [k.size]; rfl) rfl rfl ?_ ?_
      · intro ax wx hE hR hF
        have e33 : ax.eval (.tmp 33) = _ := hF 19 (det 33 _) (by decide) (.tail _ (.tail _ (.head _)))
        exact e33
      refine Build.skip 37 (by rfl) (by rw [k.size]; rfl) rfl rfl ?_ ?_
      · intro ax wx hE hR hF
        have e33 : ax.eval (.tmp 33) = _ := hF 19 (det 33 _) (by decide) (.tail _ (.tail _ (.tail _ (.head _))))
        exact e33
      refine Build.skip 38 (by rfl) (by rw [k.size]; rfl) rfl rfl ?_ ?_
      · intro ax wx hE hR hF
        have e33 : ax.eval (.tmp 33) = _ := hF 19 (det 33 _) (by decide) (.tail _ (.tail _ (.tail _ (.tail _ (.head _)))))
        exact e33
      refine Build.skip 39 (by rfl) (by rw [k.size]; rfl) rfl rfl ?_ ?_
      · intro ax wx hE hR hF
        have e33 : ax.eval (.tmp 33) = _ := hF 19 (det 33 _) (by decide) (.tail _ (.tail _ (.tail _ (.tail _ (.tail _ (.head _))))))
        exact e33
      refine Build.skip 40 (by rfl) (by rw [k.size]; rfl) rfl rfl ?_ ?_
      · intro ax wx hE hR hF
        have e33 : ax.eval (.tmp 33) = _ := hF 19 (det 33 _) (by decide) (.tail _ (.tail _ (.tail _ (.tail _ (.tail _ (.tail _ (.head _)))))))
        exact e33
      refine Build.skip 41 (by rfl) (by rw [k.size]; rfl) rfl rfl ?_ ?_
      · intro ax wx hE hR hF
        have e33 : ax.eval (.tmp 33) = _ := hF 19 (det 33 _) (by decide) (.tail _ (.tail _ (.tail _ (.tail _ (.tail _ (.tail _ (.tail _ (.head _))))))))
        exact e33
      refine Build.skip 42 (by rfl) (by rw [k.size]; rfl) rfl rfl ?_ ?_
      · intro ax wx hE hR hF
        have e33 : ax.eval (.tmp 33) = _ := hF 19 (det 33 _) (by decide) (.tail _ (.tail _ (.tail _ (.tail _ (.tail _ (.tail _ (.tail _ (.tail _ (.head _)))))))))
        exact e33
      apply Build.detg 43 Ext.refl (by rfl) (by rw [k.size]; rfl) rfl rfl
      case h =>
        intro ax wx hE hR hF
        have e33 : ax.eval (.tmp 33) = _ := hF 19 (det 33 _) (by decide) (.tail _ (.tail _ (.tail _ (.tail _ (.tail _ (.tail _ (.tail _ (.tail _ (.tail _ (.head _))))))))))
        have e42 : ax.eval (.tmp 42) = _ := hF 28 (det 42 _) (by decide) (.head _)
        have e30 : ax.eval (.tmp 30) = _ := hF 16 (det 30 _) (by decide) (.tail _ (.tail _ (.tail _ (.tail _ (.tail _ (.tail _ (.tail _ (.tail _ (.tail _ (.tail _ (.tail _ (.tail _ (.head _)))))))))))))
        refine ⟨e30, ?_⟩
        exact x_pick_f rfl e33 rfl
      apply Build.det 44 Ext.refl (by rfl) (by rw [k.size]; rfl) rfl
      case h =>
        intro ax wx hE hR hF
        have e30 : ax.eval (.tmp 30) = _ := hF 16 (det 30 _) (by decide) (.tail _ (.tail _ (.tail _ (.tail _ (.tail _ (.tail _ (.tail _ (.tail _ (.tail _ (.tail _ (.tail _ (.tail _ (.tail _ (.head _))))))))))))))
        have e43 : ax.eval (.tmp 43) = _ := hF 29 (det 43 _) (by decide) (.head _)
        exact x_pick_f rfl e30 e43
      apply Build.stop
      refine ⟨by kernel_rfl, .inl ⟨rfl, ?_⟩⟩
      intro a25 w26 hE R hF
      have e44 : a25.eval (.tmp 44) = _ := hF 30 (det 44 _) (.head _)
      clear hF
      replace O := OwnT.ext O R
      clear R
      replace e0 := hE.eval 0 (by rfl) e0
      replace e1 := hE.eval 1 (by rfl) e1
      replace e7 := hE.eval 7 (by rfl) e7
      replace e8 := hE.eval 8 (by rfl) e8
      replace e9 := hE.eval 9 (by rfl) e9
      replace k := k.env hE
      clear hE e5 e6
      refine then_n ?_
      refine cond_f e44 rfl ?_
      refine wp_skip ?_
      refine block_n ?_
      refine then_n ?_
      refine wp_region_lit ?_
      have hE := Env.refl a25 [45, 9]
      apply sq_det 45 hE k rfl (by rfl) (by rfl) rfl
      case h =>
        exact x_add rfl e9 rfl (by omega)
      intro a27 hE e45 kp
      replace e9 := (kp 9 rfl).trans e9
      apply sq_det 9 hE k rfl (by rfl) (by rfl) rfl
      case h =>
        exact x_move rfl e45
      intro a28 hE e9 kp
      refine wpList_nil ?_
      replace e0 := hE.eval 0 (by rfl) e0
      replace e1 := hE.eval 1 (by rfl) e1
      replace e7 := hE.eval 7 (by rfl) e7
      replace e8 := hE.eval 8 (by rfl) e8
      replace k := k.env hE
      clear hE e44
      refine then_n ?_
      replace O : OwnT _ _ ([]) w26 := OwnT.pick O [] (by decide)
      refine ⟨⟨k, e0, e1, e7, e8, i + 1, e9, by omega, fun j hj => ?_, O⟩, ?_⟩
      · by_cases e : j = i
        · rw [e]; unfold OkE; rw [hx, hc]; exact ⟨h1, h2, h3, fun h => absurd h (by omega)⟩
        · exact hall j (by omega)
      · rw [e9, mi]; simp only [intOf]; omega
    · obtain ⟨p, hp⟩ : ∃ p, i - 1 = p := ⟨_, rfl⟩
      obtain ⟨y, hy⟩ : ∃ y, atE es p = y := ⟨_, rfl⟩
      have hpI : (p : Int) < (n : Int) := by omega
      by_cases h4 : y < x
      · skip
        refine wp_seq ?_
        refine wp_typed (R := Ext) (w0 := w15) [[], [0], [0, 1], [0, 1, 2], [0, 1, 2, 3], [0, 1, 2, 3, 4], [0, 1, 2, 3, 4, 5], [0, 1, 2, 3, 4], [0, 1, 2, 3, 4, 5, 6, 7], [0, 1, 2, 3, 4, 5, 6, 7, 8], [0, 1, 2, 3, 4, 5, 6, 7, 8, 9], [0, 1, 2, 3, 4, 5, 6, 7, 8, 9, 10], [0, 1, 2, 3, 4, 5, 6, 7, 8, 9, 10, 11], [0, 1, 2, 3, 4, 5, 6, 7, 8, 9, 10, 11, 12], [0, 1, 2, 3, 4, 5, 6, 7, 8, 9, 10, 11, 12, 13], [0, 1, 2, 3, 4, 5, 6, 7, 8, 9, 10, 11, 12, 13, 14], [0, 1, 2, 3, 4, 5, 6, 7, 8, 9, 10, 11, 12, 13, 14, 15], [0, 1, 2, 3, 4, 5, 6, 7, 8, 9, 10, 11, 12, 13, 14, 15, 16], [0, 1, 2, 3, 4, 5, 6, 7, 8, 9, 10, 11, 12, 13, 14, 15, 16, 17], [0, 1, 2, 3, 4, 5, 6, 7, 8, 9, 10, 11, 12, 13, 14, 15, 16, 17, 18], [0, 1, 2, 3, 4, 5, 6, 7, 8, 9, 10, 11, 12, 13, 14, 15, 16, 17, 18, 19], [0, 1, 2, 3, 4, 5, 6, 7, 8, 9, 10, 11, 12, 13, 14, 15, 16, 17, 18, 19], [0, 1, 2, 3, 4, 5, 6, 7, 8, 9, 10, 11, 12, 13, 14, 15, 16, 17, 18, 19, 21], [0, 1, 2, 3, 4, 5, 6, 7, 8, 9, 10, 11, 12, 13, 14, 15, 16, 17, 18, 19, 20, 21, 22], [0, 1, 2, 3, 4, 5, 6, 7, 8, 9, 10, 11, 12, 13, 14, 15, 16, 17, 18, 19, 20, 21, 22, 23], [0, 1, 2, 3, 4, 5, 6, 7, 8, 9, 10, 11, 12, 13, 14, 15, 16, 17, 18, 19, 20, 21, 22, 23, 24], [0, 1, 2, 3, 4, 5, 6, 7, 8, 9, 10, 11, 12, 13, 14, 15, 16, 17, 18, 19], [0, 1, 2, 3, 4, 5, 6, 7, 8, 9, 10, 11, 12, 13, 14, 15, 16, 17, 18, 19, 26], [0, 1, 2, 3, 4, 5, 6, 7, 8, 9, 10, 11, 12, 13, 14, 15, 16, 17, 18, 19, 20, 21, 22, 23, 24, 25, 26, 27], [0, 1, 2, 3, 4, 5, 6, 7, 8, 9, 10, 11, 12, 13, 14, 15, 16, 17, 18, 19, 20, 21, 22, 23, 24, 25, 26, 27, 28], [0, 1, 2, 3, 4, 5, 6, 7, 8, 9, 10, 11, 12, 13, 14, 15, 16, 17, 18, 19, 20, 21, 22, 23, 24, 25, 26, 27, 28, 29]] [14, 15, 16, 17, 18, 19, 20, 21, 22, 23, 24, 25, 26, 27, 28, 29, 30, 31, 32, 33, 34, 35, 36, 37, 38, 39, 40, 41, 42, 43, 44] Ext.refl (fun _ _ _ => Ext.trans) (Ext.drew _) (by kernel_rfl) ?_
        apply Build.det 14 Ext.refl (by rfl) (by rw [k.size]; rfl) rfl
        case h =>
          intro ax wx hE hR hF
          simp [go_sem, ↓IntWalk.iteOmega, ev (hE.eval 6 (by rfl) e6)]
          with_reducible rfl
        apply Build.det 15 Ext.refl (by rfl) (by rw [k.size]; rfl) rfl
        case h =>
          intro ax wx hE hR hF
          have e14 : ax.eval (.tmp 14) = _ := hF 0 (det 14 _) (by decide) (.head _)
          have q0 : wx.cell? ⟨eb, 0, none⟩ = some (.int .i64 x) := (OwnT.blk (OwnT.ext O hR) 0 rfl).cell 0
          simp [go_sem, ↓IntWalk.iteOmega, ev e14, q0]
          with_reducible rfl
        apply Build.call 16 Ext.refl (by rfl) (by rw [k.size]; rfl) rfl
        case h =>
          intro ax wx hE hR hF
          have e15 : ax.eval (.tmp 15) = _ := hF 1 (det 15 _) (by decide) (.head _)
          simp [go_sem, ↓IntWalk.iteOmega, ev e15]
          with_reducible exact ⟨rfl, rfl⟩
        case hc => intro wx hR; exact isPlace_is (show decide (0 ≤ x ∧ x < 64) = true from decide_eq_true h1) wx
        apply Build.det 17 Ext.refl (by rfl) (by rw [k.size]; rfl) rfl
        case h =>
          intro ax wx hE hR hF
          have e16 : ax.eval (.tmp 16) = _ := hF 2 (det 16 _) (by decide) (.head _)
          exact x_not rfl e16
        apply Build.det 18 Ext.refl (by rfl) (by rw [k.size]; rfl) rfl
        case h =>
          intro ax wx hE hR hF
          have e17 : ax.eval (.tmp 17) = _ := hF 3 (det 17 _) (by decide) (.head _)
          exact x_move rfl e17
        apply Build.detg 19 Ext.refl (by rfl) (by rw [k.size]; rfl) rfl rfl
        case h =>
          intro ax wx hE hR hF
          have e18 : ax.eval (.tmp 18) = _ := hF 4 (det 18 _) (by decide) (.head _)
          refine ⟨e18, ?_⟩
          simp [go_sem, ↓IntWalk.iteOmega, ev (hE.eval 6 (by rfl) e6)]
          with_reducible rfl
        apply Build.detg 20 Ext.refl (by rfl) (by rw [k.size]; rfl) rfl rfl
        case h =>
          intro ax wx hE hR hF
          have e19 : ax.eval (.tmp 19) = _ := hF 5 (det 19 _) (by decide) (.head _)
          have e18 : ax.eval (.tmp 18) = _ := hF 4 (det 18 _) (by decide) (.tail _ (.head _))
          refine ⟨e18, ?_⟩
          have q0 : wx.cell? ⟨eb, 0, none⟩ = some (.int .i64 x) := (OwnT.blk (OwnT.ext O hR) 0 rfl).cell 0
          simp [go_sem, ↓IntWalk.iteOmega, ev e19, q0]
          with_reducible rfl
        apply Build.detg 21 Ext.refl (by rfl) (by rw [k.size]; rfl) rfl rfl
        case h =>
          intro ax wx hE hR hF
          have e18 : ax.eval (.tmp 18) = _ := hF 4 (det 18 _) (by decide) (.tail _ (.tail _ (.head _)))
          refine ⟨e18, ?_⟩
          exact x_move rfl (hE.eval 1 (by rfl) e1)
        apply Build.detg 22 Ext.refl (by rfl) (by rw [k.size]; rfl) rfl rfl
        case h =>
          intro ax wx hE hR hF
          have e20 : ax.eval (.tmp 20) = _ := hF 6 (det 20 _) (by decide) (.tail _ (.head _))
          have e21 : ax.eval (.tmp 21) = _ := hF 7 (det 21 _) (by decide) (.head _)
          have e18 : ax.eval (.tmp 18) = _ := hF 4 (det 18 _) (by decide) (.tail _ (.tail _ (.tail _ (.head _))))
          refine ⟨e18, ?_⟩
          exact x_dec (x_geq rfl e20 e21) (decide_eq_false (by omega))
        apply Build.det 23 Ext.refl (by rfl) (by rw [k.size]; rfl) rfl
        case h =>
          intro ax wx hE hR hF
          have e18 : ax.eval (.tmp 18) = _ := hF 4 (det 18 _) (by decide) (.tail _ (.tail _ (.tail _ (.tail _ (.head _)))))
          have e22 : ax.eval (.tmp 22) = _ := hF 8 (det 22 _) (by decide) (.head _)
          exact x_pick_f rfl e18 e22
        apply Build.det 24 Ext.refl (by rfl) (by rw [k.size]; rfl) rfl
        case h =>
          intro ax wx hE hR hF
          have e23 : ax.eval (.tmp 23) = _ := hF 9 (det 23 _) (by decide) (.head _)
          exact x_move rfl e23
        apply Build.detg 25 Ext.refl (by rfl) (by rw [k.size]; rfl) rfl rfl
        case h =>
          intro ax wx hE hR hF
          have e24 : ax.eval (.tmp 24) = _ := hF 10 (det 24 _) (by decide) (.head _)
          refine ⟨e24, ?_⟩
          simp [go_sem, ↓IntWalk.iteOmega, ev (hE.eval 6 (by rfl) e6)]
          with_reducible rfl
        apply Build.detg 26 Ext.refl (by rfl) (by rw [k.size]; rfl) rfl rfl
        case h =>
          intro ax wx hE hR hF
          have e25 : ax.eval (.tmp 25) = _ := hF 11 (det 25 _) (by decide) (.head _)
          have e24 : ax.eval (.tmp 24) = _ := hF 10 (det 24 _) (by decide) (.tail _ (.head _))
          refine ⟨e24, ?_⟩
          have q0 : wx.cell? ⟨eb, 1, none⟩ = some (.int .i64 c) := (OwnT.blk (OwnT.ext O hR) 0 rfl).cell 1
          simp [go_sem, ↓IntWalk.iteOmega, ev e25, q0]
          with_reducible rfl
        apply Build.callg 27 Ext.refl (by rfl) (by rw [k.size]; rfl) rfl rfl
        case h =>
          intro ax wx hE hR hF
          have e26 : ax.eval (.tmp 26) = _ := hF 12 (det 26 _) (by decide) (.head _)
          have e24 : ax.eval (.tmp 24) = _ := hF 10 (det 24 _) (by decide) (.tail _ (.tail _ (.head _)))
          refine ⟨e24, ?_⟩
          simp [go_sem, ↓IntWalk.iteOmega, ev e26]
          with_reducible exact ⟨rfl, rfl⟩
        case hc => intro wx hR; exact isChunk_is (show decide (1 ≤ c ∧ c ≤ 1023) = true from decide_eq_true h3) wx
        apply Build.detg 28 Ext.refl (by rfl) (by rw [k.size]; rfl) rfl rfl
        case h =>
          intro ax wx hE hR hF
          have e27 : ax.eval (.tmp 27) = _ := hF 13 (det 27 _) (by decide) (.head _)
          have e24 : ax.eval (.tmp 24) = _ := hF 10 (det 24 _) (by decide) (.tail _ (.tail _ (.tail _ (.head _))))
          refine ⟨e24, ?_⟩
          exact x_not rfl e27
        apply Build.det 29 Ext.refl (by rfl) (by rw [k.size]; rfl) rfl
        case h =>
          intro ax wx hE hR hF
          have e24 : ax.eval (.tmp 24) = _ := hF 10 (det 24 _) (by decide) (.tail _ (.tail _ (.tail _ (.tail _ (.head _)))))
          have e28 : ax.eval (.tmp 28) = _ := hF 14 (det 28 _) (by decide) (.head _)
          exact x_pick_f rfl e24 e28
        apply Build.det 30 Ext.refl (by rfl) (by rw [k.size]; rfl) rfl
        case h =>
          intro ax wx hE hR hF
          have e29 : ax.eval (.tmp 29) = _ := hF 15 (det 29 _) (by decide) (.head _)
          exact x_move rfl e29
        apply Build.detg 31 Ext.refl (by rfl) (by rw [k.size]; rfl) rfl rfl
        case h =>
          intro ax wx hE hR hF
          have e30 : ax.eval (.tmp 30) = _ := hF 16 (det 30 _) (by decide) (.head _)
          refine ⟨e30, ?_⟩
          exact x_move rfl (hE.eval 5 (by rfl) e5)
        apply Build.detg 32 Ext.refl (by rfl) (by rw [k.size]; rfl) rfl rfl
        case h =>
          intro ax wx hE hR hF
          have e31 : ax.eval (.tmp 31) = _ := hF 17 (det 31 _) (by decide) (.head _)
          have e30 : ax.eval (.tmp 30) = _ := hF 16 (det 30 _) (by decide) (.tail _ (.head _))
          refine ⟨e30, ?_⟩
          exact x_dec (x_gtr rfl e31 rfl) (decide_eq_true (by omega))
        apply Build.detg 33 Ext.refl (by rfl) (by rw [k.size]; rfl) rfl rfl
        case h =>
          intro ax wx hE hR hF
          have e32 : ax.eval (.tmp 32) = _ := hF 18 (det 32 _) (by decide) (.head _)
          have e30 : ax.eval (.tmp 30) = _ := hF 16 (det 30 _) (by decide) (.tail _ (.tail _ (.head _)))
          refine ⟨e30, ?_⟩
          exact x_move rfl e32
        apply Build.detg 34 Ext.refl (by rfl) (by rw [k.size]; rfl) rfl rfl
        case h =>
          intro ax wx hE hR hF
          have e33 : ax.eval (.tmp 33) = _ := hF 19 (det 33 _) (by decide) (.head _)
          refine ⟨e33, ?_⟩
          exact x_move rfl (hE.eval 0 (by rfl) e0)
        apply Build.detg 35 Ext.refl (by rfl) (by rw [k.size]; rfl) rfl rfl
        case h =>
          intro ax wx hE hR hF
          have e33 : ax.eval (.tmp 33) = _ := hF 19 (det 33 _) (by decide) (.tail _ (.head _))
          refine ⟨e33, ?_⟩
          exact x_move rfl (hE.eval 5 (by rfl) e5)
        apply Build.detg 36 Ext.refl (by rfl) (by rw [k.size]; rfl) rfl rfl
        case h =>
          intro ax wx hE hR hF
          have e35 : ax.eval (.tmp 35) = _ := hF 21 (det 35 _) (by decide) (.head _)
          have e33 : ax.eval (.tmp 33) = _ := hF 19 (det 33 _) (by decide) (.tail _ (.tail _ (.head _)))
          refine ⟨e33, ?_⟩
          exact x_val (v := .int .i64 (p : Int)) (x_sub rfl e35 rfl (by omega)) (int_eq (by omega))
        apply Build.detg 37 Ext.refl (by rfl) (by rw [k.size]; rfl) rfl rfl
        case h =>
          intro ax wx hE hR hF
          have e34 : ax.eval (.tmp 34) = _ := hF 20 (det 34 _) (by decide) (.tail _ (.tail _ (.head _)))
          have e36 : ax.eval (.tmp 36) = _ := hF 22 (det 36 _) (by decide) (.head _)
          have e33 : ax.eval (.tmp 33) = _ := hF 19 (det 33 _) (by decide) (.tail _ (.tail _ (.tail _ (.head _))))
          refine ⟨e33, ?_⟩
          simp [go_sem, ↓IntWalk.iteOmega, ev e34, ev e36]
          with_reducible rfl
        apply Build.detg 38 Ext.refl (by rfl) (by rw [k.size]; rfl) rfl rfl
        case h =>
          intro ax wx hE hR hF
          have e37 : ax.eval (.tmp 37) = _ := hF 23 (det 37 _) (by decide) (.head _)
          have e33 : ax.eval (.tmp 33) = _ := hF 19 (det 33 _) (by decide) (.tail _ (.tail _ (.tail _ (.tail _ (.head _)))))
          refine ⟨e33, ?_⟩
          simp [go_sem, ↓IntWalk.iteOmega, ev e37]
          with_reducible rfl
        apply Build.detg 39 Ext.refl (by rfl) (by rw [k.size]; rfl) rfl rfl
        case h =>
          intro ax wx hE hR hF
          have e38 : ax.eval (.tmp 38) = _ := hF 24 (det 38 _) (by decide) (.head _)
          have e33 : ax.eval (.tmp 33) = _ := hF 19 (det 33 _) (by decide) (.tail _ (.tail _ (.tail _ (.tail _ (.tail _ (.head _))))))
          refine ⟨e33, ?_⟩
          obtain ⟨d0, -⟩ := hcs wx ((OwnT.ext O hR).tail).below p (by omega); rw [hy] at d0
          simp [go_sem, ↓IntWalk.iteOmega, ev e38, d0]
          with_reducible rfl
        apply Build.detg 40 Ext.refl (by rfl) (by rw [k.size]; rfl) rfl rfl
        case h =>
          intro ax wx hE hR hF
          have e33 : ax.eval (.tmp 33) = _ := hF 19 (det 33 _) (by decide) (.tail _ (.tail _ (.tail _ (.tail _ (.tail _ (.tail _ (.head _)))))))
          refine ⟨e33, ?_⟩
          simp [go_sem, ↓IntWalk.iteOmega, ev (hE.eval 6 (by rfl) e6)]
          with_reducible rfl
        apply Build.detg 41 Ext.refl (by rfl) (by rw [k.size]; rfl) rfl rfl
        case h =>
          intro ax wx hE hR hF
          have e40 : ax.eval (.tmp 40) = _ := hF 26 (det 40 _) (by decide) (.head _)
          have e33 : ax.eval (.tmp 33) = _ := hF 19 (det 33 _) (by decide) (.tail _ (.tail _ (.tail _ (.tail _ (.tail _ (.tail _ (.tail _ (.head _))))))))
          refine ⟨e33, ?_⟩
          have q0 : wx.cell? ⟨eb, 0, none⟩ = some (.int .i64 x) := (OwnT.blk (OwnT.ext O hR) 0 rfl).cell 0
          simp [go_sem, ↓IntWalk.iteOmega, ev e40, q0]
          with_reducible rfl
        apply Build.detg 42 Ext.refl (by rfl) (by rw [k.size]; rfl) rfl rfl
        case h =>
          intro ax wx hE hR hF
          have e39 : ax.eval (.tmp 39) = _ := hF 25 (det 39 _) (by decide) (.tail _ (.tail _ (.head _)))
          have e41 : ax.eval (.tmp 41) = _ := hF 27 (det 41 _) (by decide) (.head _)
          have e33 : ax.eval (.tmp 33) = _ := hF 19 (det 33 _) (by decide) (.tail _ (.tail _ (.tail _ (.tail _ (.tail _ (.tail _ (.tail _ (.tail _ (.head _)))))))))
          refine ⟨e33, ?_⟩
          exact x_dec (x_geq rfl e39 e41) (decide_eq_false (by omega))
        apply Build.detg 43 Ext.refl (by rfl) (by rw [k.size]; rfl) rfl rfl
        case h =>
          intro ax wx hE hR hF
          have e33 : ax.eval (.tmp 33) = _ := hF 19 (det 33 _) (by decide) (.tail _ (.tail _ (.tail _ (.tail _ (.tail _ (.tail _ (.tail _ (.tail _ (.tail _ (.head _))))))))))
          have e42 : ax.eval (.tmp 42) = _ := hF 28 (det 42 _) (by decide) (.head _)
          have e30 : ax.eval (.tmp 30) = _ := hF 16 (det 30 _) (by decide) (.tail _ (.tail _ (.tail _ (.tail _ (.tail _ (.tail _ (.tail _ (.tail _ (.tail _ (.tail _ (.tail _ (.tail _ (.head _)))))))))))))
          refine ⟨e30, ?_⟩
          exact x_pick_t rfl e33 e42
        apply Build.det 44 Ext.refl (by rfl) (by rw [k.size]; rfl) rfl
        case h =>
          intro ax wx hE hR hF
          have e30 : ax.eval (.tmp 30) = _ := hF 16 (det 30 _) (by decide) (.tail _ (.tail _ (.tail _ (.tail _ (.tail _ (.tail _ (.tail _ (.tail _ (.tail _ (.tail _ (.tail _ (.tail _ (.tail _ (.head _))))))))))))))
          have e43 : ax.eval (.tmp 43) = _ := hF 29 (det 43 _) (by decide) (.head _)
          exact x_pick_f rfl e30 e43
        apply Build.stop
        refine ⟨by kernel_rfl, .inl ⟨rfl, ?_⟩⟩
        intro a29 w30 hE R hF
        have e44 : a29.eval (.tmp 44) = _ := hF 30 (det 44 _) (.head _)
        clear hF
        replace O := OwnT.ext O R
        clear R
        replace e0 := hE.eval 0 (by rfl) e0
        replace e1 := hE.eval 1 (by rfl) e1
        replace e7 := hE.eval 7 (by rfl) e7
        replace e8 := hE.eval 8 (by rfl) e8
        replace e9 := hE.eval 9 (by rfl) e9
        replace k := k.env hE
        clear hE e5 e6
        refine then_n ?_
        refine cond_f e44 rfl ?_
        refine wp_skip ?_
        refine block_n ?_
        refine then_n ?_
        refine wp_region_lit ?_
        have hE := Env.refl a29 [45, 9]
        apply sq_det 45 hE k rfl (by rfl) (by rfl) rfl
        case h =>
          exact x_add rfl e9 rfl (by omega)
        intro a31 hE e45 kp
        replace e9 := (kp 9 rfl).trans e9
        apply sq_det 9 hE k rfl (by rfl) (by rfl) rfl
        case h =>
          exact x_move rfl e45
        intro a32 hE e9 kp
        refine wpList_nil ?_
        replace e0 := hE.eval 0 (by rfl) e0
        replace e1 := hE.eval 1 (by rfl) e1
        replace e7 := hE.eval 7 (by rfl) e7
        replace e8 := hE.eval 8 (by rfl) e8
        replace k := k.env hE
        clear hE e44
        refine then_n ?_
        replace O : OwnT _ _ ([]) w30 := OwnT.pick O [] (by decide)
        refine ⟨⟨k, e0, e1, e7, e8, i + 1, e9, by omega, fun j hj => ?_, O⟩, ?_⟩
        · by_cases e : j = i
          · rw [e]; unfold OkE; rw [hx, hc]; exact ⟨h1, h2, h3, fun _ => by rw [hp, hy]; exact h4⟩
          · exact hall j (by omega)
        · rw [e9, mi]; simp only [intOf]; omega
      · skip
        refine wp_seq ?_
        refine wp_typed (R := Ext) (w0 := w15) [[], [0], [0, 1], [0, 1, 2], [0, 1, 2, 3], [0, 1, 2, 3, 4], [0, 1, 2, 3, 4, 5], [0, 1, 2, 3, 4], [0, 1, 2, 3, 4, 5, 6, 7], [0, 1, 2, 3, 4, 5, 6, 7, 8], [0, 1, 2, 3, 4, 5, 6, 7, 8, 9], [0, 1, 2, 3, 4, 5, 6, 7, 8, 9, 10], [0, 1, 2, 3, 4, 5, 6, 7, 8, 9, 10, 11], [0, 1, 2, 3, 4, 5, 6, 7, 8, 9, 10, 11, 12], [0, 1, 2, 3, 4, 5, 6, 7, 8, 9, 10, 11, 12, 13], [0, 1, 2, 3, 4, 5, 6, 7, 8, 9, 10, 11, 12, 13, 14], [0, 1, 2, 3, 4, 5, 6, 7, 8, 9, 10, 11, 12, 13, 14, 15], [0, 1, 2, 3, 4, 5, 6, 7, 8, 9, 10, 11, 12, 13, 14, 15, 16], [0, 1, 2, 3, 4, 5, 6, 7, 8, 9, 10, 11, 12, 13, 14, 15, 16, 17], [0, 1, 2, 3, 4, 5, 6, 7, 8, 9, 10, 11, 12, 13, 14, 15, 16, 17, 18], [0, 1, 2, 3, 4, 5, 6, 7, 8, 9, 10, 11, 12, 13, 14, 15, 16, 17, 18, 19], [0, 1, 2, 3, 4, 5, 6, 7, 8, 9, 10, 11, 12, 13, 14, 15, 16, 17, 18, 19], [0, 1, 2, 3, 4, 5, 6, 7, 8, 9, 10, 11, 12, 13, 14, 15, 16, 17, 18, 19, 21], [0, 1, 2, 3, 4, 5, 6, 7, 8, 9, 10, 11, 12, 13, 14, 15, 16, 17, 18, 19, 20, 21, 22], [0, 1, 2, 3, 4, 5, 6, 7, 8, 9, 10, 11, 12, 13, 14, 15, 16, 17, 18, 19, 20, 21, 22, 23], [0, 1, 2, 3, 4, 5, 6, 7, 8, 9, 10, 11, 12, 13, 14, 15, 16, 17, 18, 19, 20, 21, 22, 23, 24], [0, 1, 2, 3, 4, 5, 6, 7, 8, 9, 10, 11, 12, 13, 14, 15, 16, 17, 18, 19], [0, 1, 2, 3, 4, 5, 6, 7, 8, 9, 10, 11, 12, 13, 14, 15, 16, 17, 18, 19, 26], [0, 1, 2, 3, 4, 5, 6, 7, 8, 9, 10, 11, 12, 13, 14, 15, 16, 17, 18, 19, 20, 21, 22, 23, 24, 25, 26, 27], [0, 1, 2, 3, 4, 5, 6, 7, 8, 9, 10, 11, 12, 13, 14, 15, 16, 17, 18, 19, 20, 21, 22, 23, 24, 25, 26, 27, 28], [0, 1, 2, 3, 4, 5, 6, 7, 8, 9, 10, 11, 12, 13, 14, 15, 16, 17, 18, 19, 20, 21, 22, 23, 24, 25, 26, 27, 28, 29]] [14, 15, 16, 17, 18, 19, 20, 21, 22, 23, 24, 25, 26, 27, 28, 29, 30, 31, 32, 33, 34, 35, 36, 37, 38, 39, 40, 41, 42, 43, 44] Ext.refl (fun _ _ _ => Ext.trans) (Ext.drew _) (by kernel_rfl) ?_
        apply Build.det 14 Ext.refl (by rfl) (by rw [k.size]; rfl) rfl
        case h =>
          intro ax wx hE hR hF
          simp [go_sem, ↓IntWalk.iteOmega, ev (hE.eval 6 (by rfl) e6)]
          with_reducible rfl
        apply Build.det 15 Ext.refl (by rfl) (by rw [k.size]; rfl) rfl
        case h =>
          intro ax wx hE hR hF
          have e14 : ax.eval (.tmp 14) = _ := hF 0 (det 14 _) (by decide) (.head _)
          have q0 : wx.cell? ⟨eb, 0, none⟩ = some (.int .i64 x) := (OwnT.blk (OwnT.ext O hR) 0 rfl).cell 0
          simp [go_sem, ↓IntWalk.iteOmega, ev e14, q0]
          with_reducible rfl
        apply Build.call 16 Ext.refl (by rfl) (by rw [k.size]; rfl) rfl
        case h =>
          intro ax wx hE hR hF
          have e15 : ax.eval (.tmp 15) = _ := hF 1 (det 15 _) (by decide) (.head _)
          simp [go_sem, ↓IntWalk.iteOmega, ev e15]
          with_reducible exact ⟨rfl, rfl⟩
        case hc => intro wx hR; exact isPlace_is (show decide (0 ≤ x ∧ x < 64) = true from decide_eq_true h1) wx
        apply Build.det 17 Ext.refl (by rfl) (by rw [k.size]; rfl) rfl
        case h =>
          intro ax wx hE hR hF
          have e16 : ax.eval (.tmp 16) = _ := hF 2 (det 16 _) (by decide) (.head _)
          exact x_not rfl e16
        apply Build.det 18 Ext.refl (by rfl) (by rw [k.size]; rfl) rfl
        case h =>
          intro ax wx hE hR hF
          have e17 : ax.eval (.tmp 17) = _ := hF 3 (det 17 _) (by decide) (.head _)
          exact x_move rfl e17
        apply Build.detg 19 Ext.refl (by rfl) (by rw [k.size]; rfl) rfl rfl
        case h =>
          intro ax wx hE hR hF
          have e18 : ax.eval (.tmp 18) = _ := hF 4 (det 18 _) (by decide) (.head _)
          refine ⟨e18, ?_⟩
          simp [go_sem, ↓IntWalk.iteOmega, ev (hE.eval 6 (by rfl) e6)]
          with_reducible rfl
        apply Build.detg 20 Ext.refl (by rfl) (by rw [k.size]; rfl) rfl rfl
        case h =>
          intro ax wx hE hR hF
          have e19 : ax.eval (.tmp 19) = _ := hF 5 (det 19 _) (by decide) (.head _)
          have e18 : ax.eval (.tmp 18) = _ := hF 4 (det 18 _) (by decide) (.tail _ (.head _))
          refine ⟨e18, ?_⟩
          have q0 : wx.cell? ⟨eb, 0, none⟩ = some (.int .i64 x) := (OwnT.blk (OwnT.ext O hR) 0 rfl).cell 0
          simp [go_sem, ↓IntWalk.iteOmega, ev e19, q0]
          with_reducible rfl
        apply Build.detg 21 Ext.refl (by rfl) (by rw [k.size]; rfl) rfl rfl
        case h =>
          intro ax wx hE hR hF
          have e18 : ax.eval (.tmp 18) = _ := hF 4 (det 18 _) (by decide) (.tail _ (.tail _ (.head _)))
          refine ⟨e18, ?_⟩
          exact x_move rfl (hE.eval 1 (by rfl) e1)
        apply Build.detg 22 Ext.refl (by rfl) (by rw [k.size]; rfl) rfl rfl
        case h =>
          intro ax wx hE hR hF
          have e20 : ax.eval (.tmp 20) = _ := hF 6 (det 20 _) (by decide) (.tail _ (.head _))
          have e21 : ax.eval (.tmp 21) = _ := hF 7 (det 21 _) (by decide) (.head _)
          have e18 : ax.eval (.tmp 18) = _ := hF 4 (det 18 _) (by decide) (.tail _ (.tail _ (.tail _ (.head _))))
          refine ⟨e18, ?_⟩
          exact x_dec (x_geq rfl e20 e21) (decide_eq_false (by omega))
        apply Build.det 23 Ext.refl (by rfl) (by rw [k.size]; rfl) rfl
        case h =>
          intro ax wx hE hR hF
          have e18 : ax.eval (.tmp 18) = _ := hF 4 (det 18 _) (by decide) (.tail _ (.tail _ (.tail _ (.tail _ (.head _)))))
          have e22 : ax.eval (.tmp 22) = _ := hF 8 (det 22 _) (by decide) (.head _)
          exact x_pick_f rfl e18 e22
        apply Build.det 24 Ext.refl (by rfl) (by rw [k.size]; rfl) rfl
        case h =>
          intro ax wx hE hR hF
          have e23 : ax.eval (.tmp 23) = _ := hF 9 (det 23 _) (by decide) (.head _)
          exact x_move rfl e23
        apply Build.detg 25 Ext.refl (by rfl) (by rw [k.size]; rfl) rfl rfl
        case h =>
          intro ax wx hE hR hF
          have e24 : ax.eval (.tmp 24) = _ := hF 10 (det 24 _) (by decide) (.head _)
          refine ⟨e24, ?_⟩
          simp [go_sem, ↓IntWalk.iteOmega, ev (hE.eval 6 (by rfl) e6)]
          with_reducible rfl
        apply Build.detg 26 Ext.refl (by rfl) (by rw [k.size]; rfl) rfl rfl
        case h =>
          intro ax wx hE hR hF
          have e25 : ax.eval (.tmp 25) = _ := hF 11 (det 25 _) (by decide) (.head _)
          have e24 : ax.eval (.tmp 24) = _ := hF 10 (det 24 _) (by decide) (.tail _ (.head _))
          refine ⟨e24, ?_⟩
          have q0 : wx.cell? ⟨eb, 1, none⟩ = some (.int .i64 c) := (OwnT.blk (OwnT.ext O hR) 0 rfl).cell 1
          simp [go_sem, ↓IntWalk.iteOmega, ev e25, q0]
          with_reducible rfl
        apply Build.callg 27 Ext.refl (by rfl) (by rw [k.size]; rfl) rfl rfl
        case h =>
          intro ax wx hE hR hF
          have e26 : ax.eval (.tmp 26) = _ := hF 12 (det 26 _) (by decide) (.head _)
          have e24 : ax.eval (.tmp 24) = _ := hF 10 (det 24 _) (by decide) (.tail _ (.tail _ (.head _)))
          refine ⟨e24, ?_⟩
          simp [go_sem, ↓IntWalk.iteOmega, ev e26]
          with_reducible exact ⟨rfl, rfl⟩
        case hc => intro wx hR; exact isChunk_is (show decide (1 ≤ c ∧ c ≤ 1023) = true from decide_eq_true h3) wx
        apply Build.detg 28 Ext.refl (by rfl) (by rw [k.size]; rfl) rfl rfl
        case h =>
          intro ax wx hE hR hF
          have e27 : ax.eval (.tmp 27) = _ := hF 13 (det 27 _) (by decide) (.head _)
          have e24 : ax.eval (.tmp 24) = _ := hF 10 (det 24 _) (by decide) (.tail _ (.tail _ (.tail _ (.head _))))
          refine ⟨e24, ?_⟩
          exact x_not rfl e27
        apply Build.det 29 Ext.refl (by rfl) (by rw [k.size]; rfl) rfl
        case h =>
          intro ax wx hE hR hF
          have e24 : ax.eval (.tmp 24) = _ := hF 10 (det 24 _) (by decide) (.tail _ (.tail _ (.tail _ (.tail _ (.head _)))))
          have e28 : ax.eval (.tmp 28) = _ := hF 14 (det 28 _) (by decide) (.head _)
          exact x_pick_f rfl e24 e28
        apply Build.det 30 Ext.refl (by rfl) (by rw [k.size]; rfl) rfl
        case h =>
          intro ax wx hE hR hF
          have e29 : ax.eval (.tmp 29) = _ := hF 15 (det 29 _) (by decide) (.head _)
          exact x_move rfl e29
        apply Build.detg 31 Ext.refl (by rfl) (by rw [k.size]; rfl) rfl rfl
        case h =>
          intro ax wx hE hR hF
          have e30 : ax.eval (.tmp 30) = _ := hF 16 (det 30 _) (by decide) (.head _)
          refine ⟨e30, ?_⟩
          exact x_move rfl (hE.eval 5 (by rfl) e5)
        apply Build.detg 32 Ext.refl (by rfl) (by rw [k.size]; rfl) rfl rfl
        case h =>
          intro ax wx hE hR hF
          have e31 : ax.eval (.tmp 31) = _ := hF 17 (det 31 _) (by decide) (.head _)
          have e30 : ax.eval (.tmp 30) = _ := hF 16 (det 30 _) (by decide) (.tail _ (.head _))
          refine ⟨e30, ?_⟩
          exact x_dec (x_gtr rfl e31 rfl) (decide_eq_true (by omega))
        apply Build.detg 33 Ext.refl (by rfl) (by rw [k.size]; rfl) rfl rfl
        case h =>
          intro ax wx hE hR hF
          have e32 : ax.eval (.tmp 32) = _ := hF 18 (det 32 _) (by decide) (.head _)
          have e30 : ax.eval (.tmp 30) = _ := hF 16 (det 30 _) (by decide) (.tail _ (.tail _ (.head _)))
          refine ⟨e30, ?_⟩
          exact x_move rfl e32
        apply Build.detg 34 Ext.refl (by rfl) (by rw [k.size]; rfl) rfl rfl
        case h =>
          intro ax wx hE hR hF
          have e33 : ax.eval (.tmp 33) = _ := hF 19 (det 33 _) (by decide) (.head _)
          refine ⟨e33, ?_⟩
          exact x_move rfl (hE.eval 0 (by rfl) e0)
        apply Build.detg 35 Ext.refl (by rfl) (by rw [k.size]; rfl) rfl rfl
        case h =>
          intro ax wx hE hR hF
          have e33 : ax.eval (.tmp 33) = _ := hF 19 (det 33 _) (by decide) (.tail _ (.head _))
          refine ⟨e33, ?_⟩
          exact x_move rfl (hE.eval 5 (by rfl) e5)
        apply Build.detg 36 Ext.refl (by rfl) (by rw [k.size]; rfl) rfl rfl
        case h =>
          intro ax wx hE hR hF
          have e35 : ax.eval (.tmp 35) = _ := hF 21 (det 35 _) (by decide) (.head _)
          have e33 : ax.eval (.tmp 33) = _ := hF 19 (det 33 _) (by decide) (.tail _ (.tail _ (.head _)))
          refine ⟨e33, ?_⟩
          exact x_val (v := .int .i64 (p : Int)) (x_sub rfl e35 rfl (by omega)) (int_eq (by omega))
        apply Build.detg 37 Ext.refl (by rfl) (by rw [k.size]; rfl) rfl rfl
        case h =>
          intro ax wx hE hR hF
          have e34 : ax.eval (.tmp 34) = _ := hF 20 (det 34 _) (by decide) (.tail _ (.tail _ (.head _)))
          have e36 : ax.eval (.tmp 36) = _ := hF 22 (det 36 _) (by decide) (.head _)
          have e33 : ax.eval (.tmp 33) = _ := hF 19 (det 33 _) (by decide) (.tail _ (.tail _ (.tail _ (.head _))))
          refine ⟨e33, ?_⟩
          simp [go_sem, ↓IntWalk.iteOmega, ev e34, ev e36]
          with_reducible rfl
        apply Build.detg 38 Ext.refl (by rfl) (by rw [k.size]; rfl) rfl rfl
        case h =>
          intro ax wx hE hR hF
          have e37 : ax.eval (.tmp 37) = _ := hF 23 (det 37 _) (by decide) (.head _)
          have e33 : ax.eval (.tmp 33) = _ := hF 19 (det 33 _) (by decide) (.tail _ (.tail _ (.tail _ (.tail _ (.head _)))))
          refine ⟨e33, ?_⟩
          simp [go_sem, ↓IntWalk.iteOmega, ev e37]
          with_reducible rfl
        apply Build.detg 39 Ext.refl (by rfl) (by rw [k.size]; rfl) rfl rfl
        case h =>
          intro ax wx hE hR hF
          have e38 : ax.eval (.tmp 38) = _ := hF 24 (det 38 _) (by decide) (.head _)
          have e33 : ax.eval (.tmp 33) = _ := hF 19 (det 33 _) (by decide) (.tail _ (.tail _ (.tail _ (.tail _ (.tail _ (.head _))))))
          refine ⟨e33, ?_⟩
          obtain ⟨d0, -⟩ := hcs wx ((OwnT.ext O hR).tail).below p (by omega); rw [hy] at d0
          simp [go_sem, ↓IntWalk.iteOmega, ev e38, d0]
          with_reducible rfl
        apply Build.detg 40 Ext.refl (by rfl) (by rw [k.size]; rfl) rfl rfl
        case h =>
          intro ax wx hE hR hF
          have e33 : ax.eval (.tmp 33) = _ := hF 19 (det 33 _) (by decide) (.tail _ (.tail _ (.tail _ (.tail _ (.tail _ (.tail _ (.head _)))))))
          refine ⟨e33, ?_⟩
          simp [go_sem, ↓IntWalk.iteOmega, ev (hE.eval 6 (by rfl) e6)]
          with_reducible rfl
        apply Build.detg 41 Ext.refl (by rfl) (by rw [k.size]; rfl) rfl rfl
        case h =>
          intro ax wx hE hR hF
          have e40 : ax.eval (.tmp 40) = _ := hF 26 (det 40 _) (by decide) (.head _)
          have e33 : ax.eval (.tmp 33) = _ := hF 19 (det 33 _) (by decide) (.tail _ (.tail _ (.tail _ (.tail _ (.tail _ (.tail _ (.tail _ (.head _))))))))
          refine ⟨e33, ?_⟩
          have q0 : wx.cell? ⟨eb, 0, none⟩ = some (.int .i64 x) := (OwnT.blk (OwnT.ext O hR) 0 rfl).cell 0
          simp [go_sem, ↓IntWalk.iteOmega, ev e40, q0]
          with_reducible rfl
        apply Build.detg 42 Ext.refl (by rfl) (by rw [k.size]; rfl) rfl rfl
        case h =>
          intro ax wx hE hR hF
          have e39 : ax.eval (.tmp 39) = _ := hF 25 (det 39 _) (by decide) (.tail _ (.tail _ (.head _)))
          have e41 : ax.eval (.tmp 41) = _ := hF 27 (det 41 _) (by decide) (.head _)
          have e33 : ax.eval (.tmp 33) = _ := hF 19 (det 33 _) (by decide) (.tail _ (.tail _ (.tail _ (.tail _ (.tail _ (.tail _ (.tail _ (.tail _ (.head _)))))))))
          refine ⟨e33, ?_⟩
          exact x_dec (x_geq rfl e39 e41) (decide_eq_true (by omega))
        apply Build.detg 43 Ext.refl (by rfl) (by rw [k.size]; rfl) rfl rfl
        case h =>
          intro ax wx hE hR hF
          have e33 : ax.eval (.tmp 33) = _ := hF 19 (det 33 _) (by decide) (.tail _ (.tail _ (.tail _ (.tail _ (.tail _ (.tail _ (.tail _ (.tail _ (.tail _ (.head _))))))))))
          have e42 : ax.eval (.tmp 42) = _ := hF 28 (det 42 _) (by decide) (.head _)
          have e30 : ax.eval (.tmp 30) = _ := hF 16 (det 30 _) (by decide) (.tail _ (.tail _ (.tail _ (.tail _ (.tail _ (.tail _ (.tail _ (.tail _ (.tail _ (.tail _ (.tail _ (.tail _ (.head _)))))))))))))
          refine ⟨e30, ?_⟩
          exact x_pick_t rfl e33 e42
        apply Build.det 44 Ext.refl (by rfl) (by rw [k.size]; rfl) rfl
        case h =>
          intro ax wx hE hR hF
          have e30 : ax.eval (.tmp 30) = _ := hF 16 (det 30 _) (by decide) (.tail _ (.tail _ (.tail _ (.tail _ (.tail _ (.tail _ (.tail _ (.tail _ (.tail _ (.tail _ (.tail _ (.tail _ (.tail _ (.head _))))))))))))))
          have e43 : ax.eval (.tmp 43) = _ := hF 29 (det 43 _) (by decide) (.head _)
          exact x_pick_f rfl e30 e43
        apply Build.stop
        refine ⟨by kernel_rfl, .inl ⟨rfl, ?_⟩⟩
        intro a33 w34 hE R hF
        have e44 : a33.eval (.tmp 44) = _ := hF 30 (det 44 _) (.head _)
        clear hF
        replace O := OwnT.ext O R
        clear R
        replace e0 := hE.eval 0 (by rfl) e0
        replace e1 := hE.eval 1 (by rfl) e1
        replace e7 := hE.eval 7 (by rfl) e7
        replace e8 := hE.eval 8 (by rfl) e8
        replace e9 := hE.eval 9 (by rfl) e9
        replace k := k.env hE
        clear hE e5 e6
        refine then_n ?_
        refine cond_t e44 rfl ?_
        refine wp_seq ?_
        refine wp_region_lit ?_
        have hE := Env.refl a33 [4]
        apply sq_det 4 hE k rfl (by rfl) (by rfl) rfl
        case h =>
          exact x_assign rfl rfl
        intro a35 hE e4 kp
        refine wpList_nil ?_
        replace k := k.env hE
        clear hE e0 e1 e7 e8 e9 e44
        refine then_n ?_
        refine wp_ret ?_
        refine block_r ?_
        refine then_r ?_
        refine then_r ?_
        refine block_r ?_
        refine then_r ?_
        refine ret_F1 rfl k e4 ?_
        exact ⟨by rw [show goodE size es = false from decide_eq_false (fun h => by have h0 := h i (by omega); unfold OkE at h0; rw [hx, hc] at h0; exact h4 (by have := h0.2.2.2 hi0; rw [hp, hy] at this; exact this))]; rfl, O.tail.below⟩
  · skip
    refine wp_seq ?_
    refine wp_region_lit ?_
    have hE := Env.refl a6 [10]
    apply sq_det 10 hE k rfl (by rfl) (by rfl) rfl
    case h =>
      exact x_dec (x_lss rfl (hE.eval 9 (by rfl) e9) (hE.eval 8 (by rfl) e8)) (decide_eq_false (by omega))
    intro a36 hE e10 kp
    refine wpList_nil ?_
    replace e0 := hE.eval 0 (by rfl) e0
    replace e1 := hE.eval 1 (by rfl) e1
    replace e7 := hE.eval 7 (by rfl) e7
    replace e8 := hE.eval 8 (by rfl) e8
    replace e9 := hE.eval 9 (by rfl) e9
    replace k := k.env hE
    clear hE
    refine then_n ?_
    refine wp_seq ?_
    refine cond_f e10 rfl ?_
    refine wp_exit ?_
    refine then_x ?_
    refine then_x ?_
    refine block_x ?_
    refine then_n ?_
    refine wp_seq ?_
    refine wp_region_lit ?_
    have hE := Env.refl a36 [4]
    apply sq_det 4 hE k rfl (by rfl) (by rfl) rfl
    case h =>
      exact x_assign rfl rfl
    intro a37 hE e4 kp
    refine wpList_nil ?_
    replace k := k.env hE
    clear hE e0 e1 e7 e8 e9 e10
    refine then_n ?_
    refine wp_ret ?_
    refine ret_F1 rfl k e4 ?_
    exact ⟨by rw [show goodE size es = true from decide_eq_true (fun j hj => hall j (by omega))]; rfl, O.below⟩
set_option maxRecDepth 100000 in
set_option maxHeartbeats 4000000 in
theorem awake12 (W0 : World) : Calls Try.prog 28 #[] W0 fun e w' => e = .returned (.bool true) ∧ Ext W0 w' := by
  have O := OwnT.start W0
  refine calls_F Try.func28 rfl 77 rfl (by rfl) ?_
  intro a1 k hargs
  clear hargs
  refine wp_seq ?_
  refine wp_region_lit ?_
  have hE := Env.refl a1 [0]
  apply sq_det 0 hE k rfl (by rfl) (by rfl) rfl
  case h =>
    exact x_assign rfl rfl
  intro a2 hE e0 kp
  refine wpList_nil ?_
  replace k := k.env hE
  clear hE e0
  refine then_n ?_
  refine wp_seq ?_
  refine wp_region_lit ?_
  have hE := Env.refl a2 [10, 11, 1]
  apply sq_det 10 hE k rfl (by rfl) (by rfl) rfl
  case h =>
    simp [go_sem, ↓IntWalk.iteOmega]
    with_reducible rfl
  intro a3 hE e10 kp
  refine sq_new O (cs := #[.slice none 0 0, .int .i64 50]) (t := 28) 11 hE k rfl (by rfl) (by rfl) rfl (by simp [go_sem, ↓IntWalk.iteOmega, ev e10]) ?_
  clear O
  intro sb a4 w5 O hE e11 kp
  apply sq_det 1 hE k rfl (by rfl) (by rfl) rfl
  case h =>
    exact x_assign rfl e11
  intro a6 hE e1 kp
  refine wpList_nil ?_
  replace k := k.env hE
  clear hE
  refine then_n ?_
  replace O := sh_nil O
  refine wp_seq ?_
  refine wp_region_lit ?_
  have hE := Env.refl a6 [13, 14, 15, 12, 16, 17, 2, 3]
  apply sq_det 13 hE k rfl (by rfl) (by rfl) rfl
  case h =>
    exact x_move rfl (hE.eval 1 (by rfl) e1)
  intro a7 hE e13 kp
  apply sq_det 14 hE k rfl (by rfl) (by rfl) rfl
  case h =>
    simp [go_sem, ↓IntWalk.iteOmega, ev e13]
    with_reducible rfl
  intro a8 hE e14 kp
  apply sq_call 15 hE k rfl (by rfl) (by rfl) rfl
  case h =>
    simp [go_sem, ↓IntWalk.iteOmega, ev e14]
    with_reducible exact ⟨rfl, rfl⟩
  case hc => exact mSet _ O (Tre.zero []) (by omega) (by simp) (ky := 5) (ch := 9) (by omega) (by omega)
  clear O
  rintro e w10 ⟨N1, r1, er, B1, cap1, vs1, rfl, O, hP⟩
  refine ⟨_, rfl, ?_⟩
  intro a9 hE e15 kp
  apply sq_det 12 hE k rfl (by rfl) (by rfl) rfl
  case h =>
    exact x_move rfl e15
  intro a11 hE e12 kp
  apply sq_det 16 hE k rfl (by rfl) (by rfl) rfl
  case h =>
    simp [go_sem, ↓IntWalk.iteOmega, ev e12]
    with_reducible rfl
  intro a12 hE e16 kp
  replace e12 := (kp 12 rfl).trans e12
  apply sq_det 17 hE k rfl (by rfl) (by rfl) rfl
  case h =>
    simp [go_sem, ↓IntWalk.iteOmega, ev e12]
    with_reducible rfl
  intro a13 hE e17 kp
  replace e16 := (kp 16 rfl).trans e16
  apply sq_det 2 hE k rfl (by rfl) (by rfl) rfl
  case h =>
    exact x_assign rfl e16
  intro a14 hE e2 kp
  replace e17 := (kp 17 rfl).trans e17
  apply sq_det 3 hE k rfl (by rfl) (by rfl) rfl
  case h =>
    exact x_assign rfl e17
  intro a15 hE e3 kp
  replace e2 := (kp 2 rfl).trans e2
  refine wpList_nil ?_
  replace e1 := hE.eval 1 (by rfl) e1
  replace k := k.env hE
  clear hE
  refine then_n ?_
  obtain ⟨⟨M, hM1, hM2⟩, hP⟩ := hP
  have hN1 : N1.length ≤ 5 := by rw [hM1]; simpa using hM2
  obtain ⟨rfl, r, rfl, hr1, hr2, hT⟩ := hP.resolve_left (fun h => h.2.2 (by simp))
  have hins : insP (5, 9) [] = [(5, 9)] := by decide
  rw [hins] at hT
  replace hT := hT.le (d := 8) (by simp)
  
  refine wp_seq ?_
  refine wp_region_lit ?_
  have hE := Env.refl a15 [19, 20, 21, 22, 18, 23, 24, 4, 5]
  apply sq_det 19 hE k rfl (by rfl) (by rfl) rfl
  case h =>
    exact x_move rfl (hE.eval 1 (by rfl) e1)
  intro a16 hE e19 kp
  apply sq_det 20 hE k rfl (by rfl) (by rfl) rfl
  case h =>
    simp [go_sem, ↓IntWalk.iteOmega, ev e19]
    with_reducible rfl
  intro a17 hE e20 kp
  apply sq_det 21 hE k rfl (by rfl) (by rfl) rfl
  case h =>
    exact x_move rfl (hE.eval 2 (by rfl) e2)
  intro a18 hE e21 kp
  replace e20 := (kp 20 rfl).trans e20
  apply sq_call 22 hE k rfl (by rfl) (by rfl) rfl
  case h =>
    simp [go_sem, ↓IntWalk.iteOmega, ev e20, ev e21]
    with_reducible exact ⟨rfl, rfl⟩
  case hc => exact mGet (ky := 5) _ O hT (by omega) (by omega) (fun x hx => by obtain rfl := List.mem_singleton.1 hx; decide)
  clear O
  rintro e w20 ⟨rfl, O⟩
  refine ⟨_, rfl, ?_⟩
  intro a19 hE e22 kp
  apply sq_det 18 hE k rfl (by rfl) (by rfl) rfl
  case h =>
    exact x_move rfl e22
  intro a21 hE e18 kp
  apply sq_det 23 hE k rfl (by rfl) (by rfl) rfl
  case h =>
    simp [go_sem, ↓IntWalk.iteOmega, ev e18]
    with_reducible rfl
  intro a22 hE e23 kp
  replace e18 := (kp 18 rfl).trans e18
  apply sq_det 24 hE k rfl (by rfl) (by rfl) rfl
  case h =>
    simp [go_sem, ↓IntWalk.iteOmega, ev e18]
    with_reducible rfl
  intro a23 hE e24 kp
  replace e23 := (kp 23 rfl).trans e23
  apply sq_det 4 hE k rfl (by rfl) (by rfl) rfl
  case h =>
    exact x_assign rfl e23
  intro a24 hE e4 kp
  replace e24 := (kp 24 rfl).trans e24
  apply sq_det 5 hE k rfl (by rfl) (by rfl) rfl
  case h =>
    exact x_assign rfl e24
  intro a25 hE e5 kp
  replace e4 := (kp 4 rfl).trans e4
  refine wpList_nil ?_
  replace e1 := hE.eval 1 (by rfl) e1
  replace e2 := hE.eval 2 (by rfl) e2
  replace e3 := hE.eval 3 (by rfl) e3
  replace k := k.env hE
  clear hE
  refine then_n ?_
  refine wp_seq ?_
  refine wp_region_lit ?_
  have hE := Env.refl a25 [26, 27, 28, 29, 25, 30, 31, 6, 7]
  apply sq_det 26 hE k rfl (by rfl) (by rfl) rfl
  case h =>
    exact x_move rfl (hE.eval 1 (by rfl) e1)
  intro a26 hE e26 kp
  apply sq_det 27 hE k rfl (by rfl) (by rfl) rfl
  case h =>
    simp [go_sem, ↓IntWalk.iteOmega, ev e26]
    with_reducible rfl
  intro a27 hE e27 kp
  apply sq_det 28 hE k rfl (by rfl) (by rfl) rfl
  case h =>
    exact x_move rfl (hE.eval 2 (by rfl) e2)
  intro a28 hE e28 kp
  replace e27 := (kp 27 rfl).trans e27
  apply sq_call 29 hE k rfl (by rfl) (by rfl) rfl
  case h =>
    simp [go_sem, ↓IntWalk.iteOmega, ev e27, ev e28]
    with_reducible exact ⟨rfl, rfl⟩
  case hc => exact mList _ O hT (by omega) (by omega)
  rintro e w30 h
  obtain ⟨B2, c2, rfl, O⟩ := (h.resolve_right (fun h => absurd h.1 (by decide))).2
  clear h
  refine ⟨_, rfl, ?_⟩
  intro a29 hE e29 kp
  apply sq_det 25 hE k rfl (by rfl) (by rfl) rfl
  case h =>
    exact x_move rfl e29
  intro a31 hE e25 kp
  apply sq_det 30 hE k rfl (by rfl) (by rfl) rfl
  case h =>
    simp [go_sem, ↓IntWalk.iteOmega, ev e25]
    with_reducible rfl
  intro a32 hE e30 kp
  replace e25 := (kp 25 rfl).trans e25
  apply sq_det 31 hE k rfl (by rfl) (by rfl) rfl
  case h =>
    simp [go_sem, ↓IntWalk.iteOmega, ev e25]
    with_reducible rfl
  intro a33 hE e31 kp
  replace e30 := (kp 30 rfl).trans e30
  apply sq_det 6 hE k rfl (by rfl) (by rfl) rfl
  case h =>
    exact x_assign rfl e30
  intro a34 hE e6 kp
  replace e31 := (kp 31 rfl).trans e31
  apply sq_det 7 hE k rfl (by rfl) (by rfl) rfl
  case h =>
    exact x_assign rfl e31
  intro a35 hE e7 kp
  replace e6 := (kp 6 rfl).trans e6
  refine wpList_nil ?_
  replace e1 := hE.eval 1 (by rfl) e1
  replace e3 := hE.eval 3 (by rfl) e3
  replace e4 := hE.eval 4 (by rfl) e4
  replace e5 := hE.eval 5 (by rfl) e5
  replace k := k.env hE
  clear hE e2
  refine then_n ?_
  obtain ⟨g2, hg2⟩ : ∃ g, B2 = some ⟨g, 0, none⟩ := by
    obtain ⟨g, c', _, e, -⟩ := row_some (OwnT.get O 3 rfl : World.ownsRow _ 0 67 2 _ [((5 : Nat), (9 : Nat))].length _) (by decide)
    injection e with e; exact ⟨g, e⟩
  subst hg2
  refine wp_seq ?_
  refine wp_region_lit ?_
  have hE := Env.refl a35 [33, 34, 35, 32, 36, 37, 8, 9]
  apply sq_det 33 hE k rfl (by rfl) (by rfl) rfl
  case h =>
    exact x_move rfl (hE.eval 1 (by rfl) e1)
  intro a36 hE e33 kp
  apply sq_det 34 hE k rfl (by rfl) (by rfl) rfl
  case h =>
    simp [go_sem, ↓IntWalk.iteOmega, ev e33]
    with_reducible rfl
  intro a37 hE e34 kp
  apply sq_call 35 hE k rfl (by rfl) (by rfl) rfl
  case h =>
    simp [go_sem, ↓IntWalk.iteOmega, ev e34]
    with_reducible exact ⟨rfl, rfl⟩
  case hc => exact mSet_bad (root := 0) 64 9 _ (by omega)
  rintro e w39 ⟨rfl, R⟩
  replace O := OwnT.ext O R
  refine ⟨_, rfl, ?_⟩
  intro a38 hE e35 kp
  apply sq_det 32 hE k rfl (by rfl) (by rfl) rfl
  case h =>
    exact x_move rfl e35
  intro a40 hE e32 kp
  apply sq_det 36 hE k rfl (by rfl) (by rfl) rfl
  case h =>
    simp [go_sem, ↓IntWalk.iteOmega, ev e32]
    with_reducible rfl
  intro a41 hE e36 kp
  replace e32 := (kp 32 rfl).trans e32
  apply sq_det 37 hE k rfl (by rfl) (by rfl) rfl
  case h =>
    simp [go_sem, ↓IntWalk.iteOmega, ev e32]
    with_reducible rfl
  intro a42 hE e37 kp
  replace e36 := (kp 36 rfl).trans e36
  apply sq_det 8 hE k rfl (by rfl) (by rfl) rfl
  case h =>
    exact x_assign rfl e36
  intro a43 hE e8 kp
  replace e37 := (kp 37 rfl).trans e37
  apply sq_det 9 hE k rfl (by rfl) (by rfl) rfl
  case h =>
    exact x_assign rfl e37
  intro a44 hE e9 kp
  refine wpList_nil ?_
  replace e3 := hE.eval 3 (by rfl) e3
  replace e4 := hE.eval 4 (by rfl) e4
  replace e5 := hE.eval 5 (by rfl) e5
  replace e6 := hE.eval 6 (by rfl) e6
  replace e7 := hE.eval 7 (by rfl) e7
  replace k := k.env hE
  clear hE e1
  refine then_n ?_
  have hrow := es_row (OwnT.get O 3 rfl : (tEs (.slice (some ⟨g2, 0, none⟩) 1 c2) [(5, 9)]).holds _)
  have hrowI := rowI_of hrow
  have cc : ∀ W, Ext w39 W → W.cell? ⟨g2, 0, none⟩ = some (.int .i64 5) ∧ W.cell? ⟨g2, 1, none⟩ = some (.int .i64 9) := fun W hW => by
    obtain ⟨b, o, e, _, h⟩ := hrow.below hW 0 (5, 9) rfl; injection e with e; injection e with e e'; subst e e'; exact ⟨h 0 _ rfl, h 1 _ rfl⟩
  refine wp_seq ?_
  refine wp_region_lit ?_
  have hE := Env.refl a44 [38, 39, 40, 41, 42, 43, 44, 45, 46, 47, 48, 49, 50, 51, 52, 53, 54, 55, 56, 57, 58, 59, 60, 61, 62, 63, 64, 65, 66, 67, 68, 69, 70, 71, 72, 73, 74, 75, 76, 0]
  apply sq_det 38 hE k rfl (by rfl) (by rfl) rfl
  case h =>
    exact x_move rfl (hE.eval 3 (by rfl) e3)
  intro a45 hE e38 kp
  apply sq_det 39 hE k rfl (by rfl) (by rfl) rfl
  case h =>
    exact x_eql rfl e38 rfl
  intro a46 hE e39 kp
  apply sq_det 40 hE k rfl (by rfl) (by rfl) rfl
  case h =>
    exact x_move rfl e39
  intro a47 hE e40 kp
  apply sq_detg 41 hE k rfl (by rfl) (by rfl) rfl rfl e40
  case h =>
    exact x_move rfl (hE.eval 4 (by rfl) e4)
  intro a48 hE e41 kp
  replace e40 := (kp 40 rfl).trans e40
  apply sq_detg 42 hE k rfl (by rfl) (by rfl) rfl rfl e40
  case h =>
    exact x_eql rfl e41 rfl
  intro a49 hE e42 kp
  replace e40 := (kp 40 rfl).trans e40
  apply sq_det 43 hE k rfl (by rfl) (by rfl) rfl
  case h =>
    exact x_pick_t rfl e40 e42
  intro a50 hE e43 kp
  apply sq_det 44 hE k rfl (by rfl) (by rfl) rfl
  case h =>
    exact x_move rfl e43
  intro a51 hE e44 kp
  apply sq_detg 45 hE k rfl (by rfl) (by rfl) rfl rfl e44
  case h =>
    exact x_move rfl (hE.eval 5 (by rfl) e5)
  intro a52 hE e45 kp
  replace e44 := (kp 44 rfl).trans e44
  apply sq_detg 46 hE k rfl (by rfl) (by rfl) rfl rfl e44
  case h =>
    exact x_eql rfl e45 rfl
  intro a53 hE e46 kp
  replace e44 := (kp 44 rfl).trans e44
  apply sq_det 47 hE k rfl (by rfl) (by rfl) rfl
  case h =>
    exact x_pick_t rfl e44 e46
  intro a54 hE e47 kp
  apply sq_det 48 hE k rfl (by rfl) (by rfl) rfl
  case h =>
    exact x_move rfl e47
  intro a55 hE e48 kp
  apply sq_detg 49 hE k rfl (by rfl) (by rfl) rfl rfl e48
  case h =>
    exact x_move rfl (hE.eval 7 (by rfl) e7)
  intro a56 hE e49 kp
  replace e48 := (kp 48 rfl).trans e48
  apply sq_detg 50 hE k rfl (by rfl) (by rfl) rfl rfl e48
  case h =>
    exact x_eql rfl e49 rfl
  intro a57 hE e50 kp
  replace e48 := (kp 48 rfl).trans e48
  apply sq_det 51 hE k rfl (by rfl) (by rfl) rfl
  case h =>
    exact x_pick_t rfl e48 e50
  intro a58 hE e51 kp
  apply sq_det 52 hE k rfl (by rfl) (by rfl) rfl
  case h =>
    exact x_move rfl e51
  intro a59 hE e52 kp
  apply sq_detg 53 hE k rfl (by rfl) (by rfl) rfl rfl e52
  case h =>
    exact x_move rfl (hE.eval 6 (by rfl) e6)
  intro a60 hE e53 kp
  replace e52 := (kp 52 rfl).trans e52
  apply sq_detg 54 hE k rfl (by rfl) (by rfl) rfl rfl e52
  case h =>
    exact x_len Try.underlying65 rfl e53
  intro a61 hE e54 kp
  replace e52 := (kp 52 rfl).trans e52
  apply sq_detg 55 hE k rfl (by rfl) (by rfl) rfl rfl e52
  case h =>
    exact x_eql rfl e54 rfl
  intro a62 hE e55 kp
  replace e52 := (kp 52 rfl).trans e52
  apply sq_det 56 hE k rfl (by rfl) (by rfl) rfl
  case h =>
    exact x_pick_t rfl e52 e55
  intro a63 hE e56 kp
  apply sq_det 57 hE k rfl (by rfl) (by rfl) rfl
  case h =>
    exact x_move rfl e56
  intro a64 hE e57 kp
  apply sq_detg 58 hE k rfl (by rfl) (by rfl) rfl rfl e57
  case h =>
    exact x_move rfl (hE.eval 6 (by rfl) e6)
  intro a65 hE e58 kp
  replace e57 := (kp 57 rfl).trans e57
  apply sq_detg 59 hE k rfl (by rfl) (by rfl) rfl rfl e57
  case h =>
    simp [go_sem, ↓IntWalk.iteOmega, ev e58]
    with_reducible rfl
  intro a66 hE e59 kp
  replace e57 := (kp 57 rfl).trans e57
  apply sq_detg 60 hE k rfl (by rfl) (by rfl) rfl rfl e57
  case h =>
    obtain ⟨c0, c1⟩ := cc _ (Ext.refl _)
    simp [go_sem, ↓IntWalk.iteOmega, ev e59, c0, c1]
    with_reducible rfl
  intro a67 hE e60 kp
  replace e57 := (kp 57 rfl).trans e57
  apply sq_detg 61 hE k rfl (by rfl) (by rfl) rfl rfl e57
  case h =>
    simp [go_sem, ↓IntWalk.iteOmega]
    with_reducible rfl
  intro a68 hE e61 kp
  replace e57 := (kp 57 rfl).trans e57
  replace e60 := (kp 60 rfl).trans e60
  apply sq_detg 62 hE k rfl (by rfl) (by rfl) rfl rfl e57
  case h =>
    exact x_dec (c := true) (x_eqEn rfl e60 e61) (by decide)
  intro a69 hE e62 kp
  replace e57 := (kp 57 rfl).trans e57
  apply sq_det 63 hE k rfl (by rfl) (by rfl) rfl
  case h =>
    exact x_pick_t rfl e57 e62
  intro a70 hE e63 kp
  apply sq_det 64 hE k rfl (by rfl) (by rfl) rfl
  case h =>
    exact x_move rfl e63
  intro a71 hE e64 kp
  apply sq_detg 65 hE k rfl (by rfl) (by rfl) rfl rfl e64
  case h =>
    exact x_move rfl (hE.eval 9 (by rfl) e9)
  intro a72 hE e65 kp
  replace e64 := (kp 64 rfl).trans e64
  apply sq_detg 66 hE k rfl (by rfl) (by rfl) rfl rfl e64
  case h =>
    exact x_eql rfl e65 rfl
  intro a73 hE e66 kp
  replace e64 := (kp 64 rfl).trans e64
  apply sq_det 67 hE k rfl (by rfl) (by rfl) rfl
  case h =>
    exact x_pick_t rfl e64 e66
  intro a74 hE e67 kp
  apply sq_det 68 hE k rfl (by rfl) (by rfl) rfl
  case h =>
    exact x_move rfl e67
  intro a75 hE e68 kp
  apply sq_detg 69 hE k rfl (by rfl) (by rfl) rfl rfl e68
  case h =>
    exact x_move rfl (hE.eval 6 (by rfl) e6)
  intro a76 hE e69 kp
  replace e68 := (kp 68 rfl).trans e68
  apply sq_callg 70 hE k rfl (by rfl) (by rfl) rfl rfl e68
  case h =>
    simp [go_sem, ↓IntWalk.iteOmega, ev e69]
    with_reducible exact ⟨rfl, rfl⟩
  case hc => exact mgood_any 6 [(5, 9)] _ rfl hrowI (by decide)
  rintro e w78 ⟨rfl, RE⟩
  replace hrowI := hrowI.below RE
  replace O := OwnT.ext O RE
  refine ⟨_, congrArg (fun b => Ending.returned (.bool b)) (show goodE 6 [(5, 9)] = true by decide), ?_⟩
  intro a77 hE e70 kp
  replace e68 := (kp 68 rfl).trans e68
  apply sq_det 71 hE k rfl (by rfl) (by rfl) rfl
  case h =>
    exact x_pick_t rfl e68 e70
  intro a79 hE e71 kp
  apply sq_det 72 hE k rfl (by rfl) (by rfl) rfl
  case h =>
    exact x_move rfl e71
  intro a80 hE e72 kp
  apply sq_detg 73 hE k rfl (by rfl) (by rfl) rfl rfl e72
  case h =>
    exact x_move rfl (hE.eval 6 (by rfl) e6)
  intro a81 hE e73 kp
  replace e72 := (kp 72 rfl).trans e72
  apply sq_callg 74 hE k rfl (by rfl) (by rfl) rfl rfl e72
  case h =>
    simp [go_sem, ↓IntWalk.iteOmega, ev e73]
    with_reducible exact ⟨rfl, rfl⟩
  case hc => exact mgood_any 5 [(5, 9)] _ rfl hrowI (by decide)
  rintro e w83 ⟨rfl, RE⟩
  replace O := OwnT.ext O RE
  refine ⟨_, congrArg (fun b => Ending.returned (.bool b)) (show goodE 5 [(5, 9)] = false by decide), ?_⟩
  intro a82 hE e74 kp
  replace e72 := (kp 72 rfl).trans e72
  apply sq_detg 75 hE k rfl (by rfl) (by rfl) rfl rfl e72
  case h =>
    exact x_not rfl e74
  intro a84 hE e75 kp
  replace e72 := (kp 72 rfl).trans e72
  apply sq_det 76 hE k rfl (by rfl) (by rfl) rfl
  case h =>
    exact x_pick_t rfl e72 e75
  intro a85 hE e76 kp
  apply sq_det 0 hE k rfl (by rfl) (by rfl) rfl
  case h =>
    exact x_assign rfl e76
  intro a86 hE e0 kp
  refine wpList_nil ?_
  replace k := k.env hE
  clear hE e3 e4 e5 e6 e7 e9
  refine then_n ?_
  refine wp_ret ?_
  refine ret_F1 rfl k e0 ?_
  exact ⟨rfl, O.below⟩
end Go.Proofs.Ytngehbhhpkkijaa
