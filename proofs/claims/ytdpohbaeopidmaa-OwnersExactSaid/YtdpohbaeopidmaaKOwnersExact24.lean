/- owners' law: OwnersExact: its end, and the whole (printed by XOwnEd.gen.py). -/
import Derived.Test.YtdpohbaeopidmaaKOwnersExact23
namespace Go.Proofs.Ytdpohbaeopidmaa
set_option linter.unusedVariables false
set_option linter.unusedSimpArgs false
open Go.RowKit Go.Maps Go.ChangeShapes Go.WideShapes Go.ChangeAt

theorem heads_app : ∀ (X Y : List QD) (p : Option Int), heads p (X ++ Y) = heads p X ++ heads ((X.getLast?.map (·.1)).or p) Y
  | [], Y, p => by simp [heads]
  | [x], Y, p => by
    rw [List.cons_append, List.nil_append]
    by_cases e : p = some x.1
    · rw [heads, heads, if_pos e, if_pos e]
      simp [heads, e]
    · rw [heads, heads, if_neg e, if_neg e]
      simp [heads]
  | x :: y :: X, Y, p => by
    have ih := heads_app (y :: X) Y
    have hl : ∀ q : Option Int, (((y :: X).getLast?.map (·.1)).or q) = (((x :: y :: X).getLast?.map (·.1)).or p) := fun q => by
      rw [List.getLast?_cons_cons]
      cases h : (y :: X).getLast? with
      | none => simp at h
      | some z => rfl
    rw [List.cons_append, heads, heads]
    by_cases e : p = some x.1
    · rw [if_pos e, if_pos e, ih, hl]
    · rw [if_neg e, if_neg e, ih, hl, List.cons_append]
def cntH (U : List QD) (i : Nat) : Nat := (heads none (U.take i)).length
theorem take_last {U : List QD} {j : Nat} {y : QD} (hy : U[j]? = some y) : (U.take (j + 1)).getLast? = some y := by
  rw [List.take_succ_eq_append_getElem (List.getElem?_eq_some_iff.1 hy).1, List.getLast?_concat]
  rw [(List.getElem?_eq_some_iff.1 hy).2]
theorem cntH_same {U : List QD} {j : Nat} {x y : QD} (hy : U[j]? = some y) (hx : U[j + 1]? = some x) (e : y.1 = x.1) : cntH U (j + 2) = cntH U (j + 1) := by
  unfold cntH
  rw [List.take_succ_eq_append_getElem (List.getElem?_eq_some_iff.1 hx).1, (List.getElem?_eq_some_iff.1 hx).2, heads_app, take_last hy]
  simp [heads, e]
theorem cntH_next {U : List QD} {i : Nat} {x : QD} (hx : U[i]? = some x) (hp : ∀ j y, i = j + 1 → U[j]? = some y → y.1 ≠ x.1) : cntH U (i + 1) = cntH U i + 1 ∧ (heads none U)[cntH U i]? = some x.1 := by
  have hone : heads (((U.take i).getLast?.map (·.1)).or none) [x] = [x.1] := by
    cases i with
    | zero => simp [heads]
    | succ j =>
      have hj : j < U.length := by have := (List.getElem?_eq_some_iff.1 hx).1; omega
      have hy := List.getElem?_eq_getElem hj
      rw [take_last hy]
      have := hp j _ rfl hy
      simp [heads, this]
  have h1 : heads none (U.take (i + 1)) = heads none (U.take i) ++ [x.1] := by
    rw [List.take_succ_eq_append_getElem (List.getElem?_eq_some_iff.1 hx).1, (List.getElem?_eq_some_iff.1 hx).2, heads_app, hone]
  refine ⟨by unfold cntH; rw [h1]; simp, ?_⟩
  have h2 : heads none U = heads none (U.take (i + 1)) ++ heads (((U.take (i + 1)).getLast?.map (·.1)).or none) (U.drop (i + 1)) := by
    rw [← heads_app, List.take_append_drop]
  rw [h2, h1, List.append_assoc]
  unfold cntH
  rw [List.getElem?_append_right (Nat.le_refl _), Nat.sub_self]
  rfl
theorem cntH_le (U : List QD) (i : Nat) : cntH U i ≤ i := by
  have key : ∀ (X : List QD) p, (heads p X).length ≤ X.length := fun X => by
    induction X with
    | nil => intro p; simp [heads]
    | cons x r ih => intro p; unfold heads; split <;> simp <;> (have := ih p; have := ih (some x.1); omega)
  have := key (U.take i) none
  have : (U.take i).length ≤ i := List.length_take_le _ _
  unfold cntH
  omega
theorem cntH_all (U : List QD) : cntH U U.length = (heads none U).length := by unfold cntH; rw [List.take_length]
theorem row_i {w wx : World} {b o : Nat} {X : List Int} (h : Row w (some ⟨b, o, none⟩) 1 (fun x : Int => [Value.int .i64 x]) X) (hR : Ext w wx) {k : Nat} {x : Int} (hx : X[k]? = some x) :
    wx.cell? ⟨b, o + k, none⟩ = some (.int .i64 x) := by
  obtain ⟨b', o', e, -, hc⟩ := (h.below hR) k _ hx
  injection e with e
  injection e with e1 e2
  subst e1 e2
  have := hc 0 _ rfl
  rwa [Nat.mul_one, Nat.add_zero] at this

set_option maxRecDepth 100000 in
set_option maxHeartbeats 4000000 in
theorem ownE_end {H : Nat} {A0 : World} {pb ub : Nat} {F : List Nat} {v1 v2 : Value} {U V : List QD} {m : Nat} {Q : Exit → Act → World → Prop} (a : Act) (w : World) (k : Fr 273 a)
    (e3 : a.eval (.tmp 3) = .pointer (some ⟨pb, 0, none⟩)) (e4 : a.eval (.tmp 4) = .pointer (some ⟨ub, 0, none⟩))
    (O : OwnT H A0 [tOB pb F (ofQ U) (ofQ V), tBlk ub 29 #[v1, v2], tRow 35 4 (v1) U.length (U.flatMap qC), tRow 35 4 (v2) V.length (V.flatMap qC)] w) (hG : ExG U V m) (hm : m ≤ 1000)
    (hQ : ∀ a w, Fr 273 a → a.eval (.tmp 2) = .bool true → Below H A0 w → Q .ret a w) :
    Code.wp Try.prog (codeAt [1, 1, 1, 1, 1] (Try.f3.body.getD .skip)) Q a w := by
  conv => arg 2; whnf
  have hlU : U.length ≤ 1000000 := by have := hG.lu; omega
  obtain ⟨HU, hHU⟩ : ∃ HU, heads none U = HU := ⟨_, rfl⟩
  
  refine wp_seq ?_
  refine wp_region_lit ?_   -- region 41
  have hE := Env.refl a [215, 216, 15]
  apply sq_det 215 hE k rfl (by rfl) (by rfl) rfl
  case h =>   -- 0: t215 := Op.move (tmp 3)
    exact x_move rfl (hE.eval 3 (by rfl) e3)
  intro a1 hE e215 kp
  apply sq_call 216 hE k rfl (by rfl) (by rfl) rfl
  case h =>   -- (*tierce/owners.Book).Chunks
    simp [go_sem, BigFrame.eval_const, BigFrame.eval_global, BigFrame.eval_func, ↓IntWalk.iteOmega, ev e215]
    with_reducible exact ⟨rfl, rfl⟩
  case hc => exact chunks_any pb F (ofQ U) (ofQ V) _ O
  clear O
  rintro e w3 ⟨vl, rfl, O, R⟩
  rw [heads_rise hG.su hG.ru, hHU] at O
  obtain ⟨BL, capL, rfl, hk1, hm1, -, RL⟩ := ownsRow_Row (k := 1) (enc := fun x : Int => [Value.int .i64 x]) (fun _ => rfl) Nat.one_pos (OwnT.get O 0 rfl : World.ownsRow _ 0 3 1 vl HU.length (HU.flatMap fun x => [Value.int .i64 x]))
  refine ⟨_, rfl, ?_⟩
  intro a2 hE e216 kp
  apply sq_det 15 hE k rfl (by rfl) (by rfl) rfl
  case h =>   -- 2: t15 := Op.assign (tmp 216)
    exact x_assign rfl e216
  intro a4 hE e15 kp
  refine wpList_nil ?_
  replace e4 := hE.eval 4 (by rfl) e4
  replace k := k.env hE
  clear hE e3
  refine then_n ?_
  clear R
  obtain ⟨B1, cap1, rfl, hk2, hm2, -, RU⟩ := ownsRow_Row qC_len (by decide) (OwnT.get O 3 rfl : World.ownsRow _ 0 35 4 v1 U.length (U.flatMap qC))
  
  refine wp_seq ?_
  refine wp_region_lit ?_   -- region 42
  have hE := Env.refl a4 [16]
  apply sq_det 16 hE k rfl (by rfl) (by rfl) rfl
  case h =>   -- 0: t16 := Op.assign (const (Value.int IntKind.i64 0))
    exact x_assign rfl rfl
  intro a5 hE e16 kp
  refine wpList_nil ?_
  replace e4 := hE.eval 4 (by rfl) e4
  replace e15 := hE.eval 15 (by rfl) e15
  replace k := k.env hE
  clear hE
  refine then_n ?_
  refine wp_seq ?_
  refine wp_seq ?_
  refine wp_region_lit ?_   -- region 43
  have hE := Env.refl a5 [17]
  apply sq_det 17 hE k rfl (by rfl) (by rfl) rfl
  case h =>   -- 0: t17 := Op.assign (const (Value.int IntKind.i64 0))
    exact x_assign rfl rfl
  intro a6 hE e17 kp
  refine wpList_nil ?_
  replace e4 := hE.eval 4 (by rfl) e4
  replace e15 := hE.eval 15 (by rfl) e15
  replace e16 := hE.eval 16 (by rfl) e16
  replace k := k.env hE
  clear hE
  refine then_n ?_
  refine wp_block ?_
  refine wp_loop (fun a w => Fr 273 a ∧ a.eval (.tmp 4) = .pointer (some ⟨ub, 0, none⟩) ∧ a.eval (.tmp 15) = .slice BL HU.length capL ∧ ∃ i : Nat, a.eval (.tmp 16) = .int .i64 (↑(cntH U i)) ∧ a.eval (.tmp 17) = .int .i64 ↑i ∧ i ≤ U.length ∧ OwnT H A0 [tRow 3 1 (.slice BL HU.length capL) HU.length (HU.flatMap fun x => [Value.int .i64 x]), tOB pb F (ofQ U) (ofQ V), tBlk ub 29 #[.slice B1 U.length cap1, v2], tRow 35 4 (.slice B1 U.length cap1) U.length (U.flatMap qC), tRow 35 4 (v2) V.length (V.flatMap qC)] w ∧ Row w BL 1 (fun x : Int => [Value.int .i64 x]) HU ∧ Row w B1 4 qC U) (fun a w => U.length - (intOf (a.eval (.tmp 17))).toNat) ?_ ?_
  · exact ⟨k, e4, e15, 0, e16, e17, Nat.zero_le _, O, RL, RU⟩
  intro a7 w8 hI
  clear k e4 e15
  obtain ⟨k, e4, e15, h_⟩ := hI
  clear O RL RU e16 e17
  obtain ⟨i, e16, e17, hi, O, RL, RU⟩ := h_
  have m17 := e17
  have hcl := cntH_le U i
  
  refine wp_seq ?_
  refine wp_seq ?_
  refine wp_region_lit ?_   -- region 44
  have hE := Env.refl a7 [217, 218, 219, 220, 221, 222, 223]
  apply sq_det 217 hE k rfl (by rfl) (by rfl) rfl
  case h =>   -- 0: t217 := Op.move (tmp 17)
    exact x_move rfl (hE.eval 17 (by rfl) e17)
  intro a9 hE e217 kp
  apply sq_det 218 hE k rfl (by rfl) (by rfl) rfl
  case h =>   -- 1: t218 := Op.move (tmp 4)
    exact x_move rfl (hE.eval 4 (by rfl) e4)
  intro a10 hE e218 kp
  replace e217 := (kp 217 rfl).trans e217
  apply sq_det 219 hE k rfl (by rfl) (by rfl) rfl
  case h =>   -- 2: t219 := Op.nilCheck (tmp 218)
    exact x_nil rfl e218
  intro a11 hE e219 kp
  replace e217 := (kp 217 rfl).trans e217
  apply sq_det 220 hE k rfl (by rfl) (by rfl) rfl
  case h =>   -- 3: t220 := Op.fieldAddr 29 (tmp 219) 0
    simp [go_sem, BigFrame.eval_const, BigFrame.eval_global, BigFrame.eval_func, ↓IntWalk.iteOmega, ev e219]
    with_reducible rfl
  intro a12 hE e220 kp
  replace e217 := (kp 217 rfl).trans e217
  apply sq_det 221 hE k rfl (by rfl) (by rfl) rfl
  case h =>   -- 4: t221 := Op.load 27 (tmp 220)
    have q0 : w8.cell? ⟨ub, 0, none⟩ = some (.slice B1 U.length cap1) := (OwnT.blk O 2 rfl).cell 0
    simp [go_sem, BigFrame.eval_const, BigFrame.eval_global, BigFrame.eval_func, ↓IntWalk.iteOmega, ev e220, q0]
    with_reducible rfl
  intro a13 hE e221 kp
  replace e217 := (kp 217 rfl).trans e217
  apply sq_det 222 hE k rfl (by rfl) (by rfl) rfl
  case h =>   -- 5: t222 := Op.call {callee := Callee.builtin Builtin.len, args := #[tmp 221], arg
    exact x_len Try.underlying27 rfl e221
  intro a14 hE e222 kp
  replace e217 := (kp 217 rfl).trans e217
  apply sq_det 223 hE k rfl (by rfl) (by rfl) rfl
  case h =>   -- 6: t223 := Op.binOp BinOp.lss 3 (tmp 217) (tmp 222) 3
    exact x_lss rfl e217 e222
  intro a15 hE e223 kp
  refine wpList_nil ?_
  replace e4 := hE.eval 4 (by rfl) e4
  replace e15 := hE.eval 15 (by rfl) e15
  replace e16 := hE.eval 16 (by rfl) e16
  replace e17 := hE.eval 17 (by rfl) e17
  replace k := k.env hE
  clear hE
  refine then_n ?_
  by_cases hlt : i < U.length
  · have hltI : (i : Int) < (U.length : Int) := by omega
    refine cond_t e223 (congrArg Value.bool (decide_eq_true (by omega))) ?_
    clear e223
    obtain ⟨x0, x1, x2, x3, hx⟩ : ∃ x0 x1 x2 x3, U[i]? = some (x0, x1, x2, x3) := ⟨_, _, _, _, List.getElem?_eq_getElem hlt⟩
    obtain ⟨b1, o1, rfl, -, -⟩ := RU i _ hx
    have hdec : (∃ j y, i = j + 1 ∧ U[j]? = some y ∧ y.1 = x0) ∨ ∀ j y, i = j + 1 → U[j]? = some y → y.1 ≠ x0 := by
      by_cases h : ∃ j y, i = j + 1 ∧ U[j]? = some y ∧ y.1 = x0
      · exact .inl h
      · exact .inr fun j y h1 h2 h3 => h ⟨j, y, h1, h2, h3⟩
    
    rcases hdec with ⟨j, ⟨y0, y1, y2, y3⟩, rfl, hy, hyx⟩ | hno
    · simp only at hyx
      subst hyx
      have hjI : (j : Int) < (U.length : Int) := by omega
      refine wp_skip ?_
      refine then_n ?_
      refine wp_seq ?_
      refine wp_block ?_
      refine wp_seq ?_
      refine wp_seq ?_
      refine wp_typed (R := Ext) (w0 := w8) [[], [0], [0, 1], [0, 1, 2], [0, 1, 2, 3], [0, 1, 2, 3, 4], [0, 1, 2, 3, 4, 5], [0, 1, 2], [0, 1, 2, 7], [0, 1, 2, 3, 4, 5, 6, 7, 8], [0, 1, 2, 3, 4, 5, 6, 7, 8, 9], [0, 1, 2, 3, 4, 5, 6, 7, 8, 9, 10], [0, 1, 2], [0, 1, 2, 12], [0, 1, 2, 12, 13], [0, 1, 2, 12, 13, 14], [0, 1, 2], [0, 1, 2, 12, 13, 14, 15, 16], [0, 1, 2, 12, 13, 14, 15, 16, 17], [0, 1, 2, 12, 13, 14, 15, 16, 17, 18], [0, 1, 2, 3, 4, 5, 6, 7, 8, 9, 10, 11, 12, 13, 14, 15, 16, 17, 18, 19], [0, 1, 2, 3, 4, 5, 6, 7, 8, 9, 10, 11, 12, 13, 14, 15, 16, 17, 18, 19, 20]] [226, 227, 228, 229, 230, 231, 232, 233, 234, 235, 236, 237, 238, 239, 240, 241, 242, 243, 244, 245, 246, 247] Ext.refl (fun _ _ _ => Ext.trans) (Ext.drew _) (by kernel_rfl) ?_   -- region 46
      apply Build.det 226 Ext.refl (by rfl) (by rw [k.size]; rfl) rfl
      case h =>   -- 0: t226 := Op.move (tmp 17)
        intro ax wx hE hR hF
        exact x_move rfl (hE.eval 17 (by rfl) e17)
      apply Build.det 227 Ext.refl (by rfl) (by rw [k.size]; rfl) rfl
      case h =>   -- 1: t227 := Op.binOp BinOp.gtr 3 (tmp 226) (const (Value.int IntKind.i64 0)) 3
        intro ax wx hE hR hF
        have e226 : ax.eval (.tmp 226) = _ := hF 0 (det 226 _) (by decide) (.head _)
        exact x_dec (x_gtr rfl e226 rfl) (decide_eq_true (by omega))
      apply Build.det 228 Ext.refl (by rfl) (by rw [k.size]; rfl) rfl
      case h =>   -- 2: t228 := Op.move (tmp 227)
        intro ax wx hE hR hF
        have e227 : ax.eval (.tmp 227) = _ := hF 1 (det 227 _) (by decide) (.head _)
        exact x_move rfl e227
      apply Build.detg 229 Ext.refl (by rfl) (by rw [k.size]; rfl) rfl rfl
      case h =>   -- 3: t229 := Op.move (tmp 4)
        intro ax wx hE hR hF
        have e228 : ax.eval (.tmp 228) = _ := hF 2 (det 228 _) (by decide) (.head _)
        refine ⟨e228, ?_⟩
        exact x_move rfl (hE.eval 4 (by rfl) e4)
      apply Build.detg 230 Ext.refl (by rfl) (by rw [k.size]; rfl) rfl rfl
      case h =>   -- 4: t230 := Op.nilCheck (tmp 229)
        intro ax wx hE hR hF
        have e229 : ax.eval (.tmp 229) = _ := hF 3 (det 229 _) (by decide) (.head _)
        have e228 : ax.eval (.tmp 228) = _ := hF 2 (det 228 _) (by decide) (.tail _ (.head _))
        refine ⟨e228, ?_⟩
        exact x_nil rfl e229
      apply Build.detg 231 Ext.refl (by rfl) (by rw [k.size]; rfl) rfl rfl
      case h =>   -- 5: t231 := Op.fieldAddr 29 (tmp 230) 0
        intro ax wx hE hR hF
        have e230 : ax.eval (.tmp 230) = _ := hF 4 (det 230 _) (by decide) (.head _)
        have e228 : ax.eval (.tmp 228) = _ := hF 2 (det 228 _) (by decide) (.tail _ (.tail _ (.head _)))
        refine ⟨e228, ?_⟩
        simp [go_sem, BigFrame.eval_const, BigFrame.eval_global, BigFrame.eval_func, ↓IntWalk.iteOmega, ev e230]
        with_reducible rfl
      apply Build.detg 232 Ext.refl (by rfl) (by rw [k.size]; rfl) rfl rfl
      case h =>   -- 6: t232 := Op.load 27 (tmp 231)
        intro ax wx hE hR hF
        have e231 : ax.eval (.tmp 231) = _ := hF 5 (det 231 _) (by decide) (.head _)
        have e228 : ax.eval (.tmp 228) = _ := hF 2 (det 228 _) (by decide) (.tail _ (.tail _ (.tail _ (.head _))))
        refine ⟨e228, ?_⟩
        have q0 : wx.cell? ⟨ub, 0, none⟩ = some (.slice (some ⟨b1, o1, none⟩) U.length cap1) := (OwnT.blk (OwnT.ext O hR) 2 rfl).cell 0
        simp [go_sem, BigFrame.eval_const, BigFrame.eval_global, BigFrame.eval_func, ↓IntWalk.iteOmega, ev e231, q0]
        with_reducible rfl
      apply Build.detg 233 Ext.refl (by rfl) (by rw [k.size]; rfl) rfl rfl
      case h =>   -- 7: t233 := Op.move (tmp 17)
        intro ax wx hE hR hF
        have e228 : ax.eval (.tmp 228) = _ := hF 2 (det 228 _) (by decide) (.tail _ (.tail _ (.tail _ (.tail _ (.head _)))))
        refine ⟨e228, ?_⟩
        exact x_move rfl (hE.eval 17 (by rfl) e17)
      apply Build.detg 234 Ext.refl (by rfl) (by rw [k.size]; rfl) rfl rfl
      case h =>   -- 8: t234 := Op.binOp BinOp.sub 3 (tmp 233) (const (Value.int IntKind.i64 1)) 3
        intro ax wx hE hR hF
        have e233 : ax.eval (.tmp 233) = _ := hF 7 (det 233 _) (by decide) (.head _)
        have e228 : ax.eval (.tmp 228) = _ := hF 2 (det 228 _) (by decide) (.tail _ (.tail _ (.tail _ (.tail _ (.tail _ (.head _))))))
        refine ⟨e228, ?_⟩
        exact x_val (x_sub rfl e233 rfl (by omega)) (int_eq (show ((j + 1 : Nat) : Int) - 1 = (j : Int) by omega))
      apply Build.detg 235 Ext.refl (by rfl) (by rw [k.size]; rfl) rfl rfl
      case h =>   -- 9: t235 := Op.indexAddr 27 (tmp 232) (tmp 234)
        intro ax wx hE hR hF
        have e232 : ax.eval (.tmp 232) = _ := hF 6 (det 232 _) (by decide) (.tail _ (.tail _ (.head _)))
        have e234 : ax.eval (.tmp 234) = _ := hF 8 (det 234 _) (by decide) (.head _)
        have e228 : ax.eval (.tmp 228) = _ := hF 2 (det 228 _) (by decide) (.tail _ (.tail _ (.tail _ (.tail _ (.tail _ (.tail _ (.head _)))))))
        refine ⟨e228, ?_⟩
        simp [go_sem, BigFrame.eval_const, BigFrame.eval_global, BigFrame.eval_func, ↓IntWalk.iteOmega, ev e232, ev e234]
        with_reducible rfl
      apply Build.detg 236 Ext.refl (by rfl) (by rw [k.size]; rfl) rfl rfl
      case h =>   -- 10: t236 := Op.fieldAddr 35 (tmp 235) 0
        intro ax wx hE hR hF
        have e235 : ax.eval (.tmp 235) = _ := hF 9 (det 235 _) (by decide) (.head _)
        have e228 : ax.eval (.tmp 228) = _ := hF 2 (det 228 _) (by decide) (.tail _ (.tail _ (.tail _ (.tail _ (.tail _ (.tail _ (.tail _ (.head _))))))))
        refine ⟨e228, ?_⟩
        simp [go_sem, BigFrame.eval_const, BigFrame.eval_global, BigFrame.eval_func, ↓IntWalk.iteOmega, ev e235]
        with_reducible rfl
      apply Build.detg 237 Ext.refl (by rfl) (by rw [k.size]; rfl) rfl rfl
      case h =>   -- 11: t237 := Op.load 3 (tmp 236)
        intro ax wx hE hR hF
        have e236 : ax.eval (.tmp 236) = _ := hF 10 (det 236 _) (by decide) (.head _)
        have e228 : ax.eval (.tmp 228) = _ := hF 2 (det 228 _) (by decide) (.tail _ (.tail _ (.tail _ (.tail _ (.tail _ (.tail _ (.tail _ (.tail _ (.head _)))))))))
        refine ⟨e228, ?_⟩
        have c0 := row_q RU hR hy
        simp [go_sem, BigFrame.eval_const, BigFrame.eval_global, BigFrame.eval_func, ↓IntWalk.iteOmega, ev e236, c0]
        with_reducible rfl
      apply Build.detg 238 Ext.refl (by rfl) (by rw [k.size]; rfl) rfl rfl
      case h =>   -- 12: t238 := Op.move (tmp 4)
        intro ax wx hE hR hF
        have e228 : ax.eval (.tmp 228) = _ := hF 2 (det 228 _) (by decide) (.tail _ (.tail _ (.tail _ (.tail _ (.tail _ (.tail _ (.tail _ (.tail _ (.tail _ (.head _))))))))))
        refine ⟨e228, ?_⟩
        exact x_move rfl (hE.eval 4 (by rfl) e4)
      apply Build.detg 239 Ext.refl (by rfl) (by rw [k.size]; rfl) rfl rfl
      case h =>   -- 13: t239 := Op.nilCheck (tmp 238)
        intro ax wx hE hR hF
        have e238 : ax.eval (.tmp 238) = _ := hF 12 (det 238 _) (by decide) (.head _)
        have e228 : ax.eval (.tmp 228) = _ := hF 2 (det 228 _) (by decide) (.tail _ (.tail _ (.tail _ (.tail _ (.tail _ (.tail _ (.tail _ (.tail _ (.tail _ (.tail _ (.head _)))))))))))
        refine ⟨e228, ?_⟩
        exact x_nil rfl e238
      apply Build.detg 240 Ext.refl (by rfl) (by rw [k.size]; rfl) rfl rfl
      case h =>   -- 14: t240 := Op.fieldAddr 29 (tmp 239) 0
        intro ax wx hE hR hF
        have e239 : ax.eval (.tmp 239) = _ := hF 13 (det 239 _) (by decide) (.head _)
        have e228 : ax.eval (.tmp 228) = _ := hF 2 (det 228 _) (by decide) (.tail _ (.tail _ (.tail _ (.tail _ (.tail _ (.tail _ (.tail _ (.tail _ (.tail _ (.tail _ (.tail _ (.head _))))))))))))
        refine ⟨e228, ?_⟩
        simp [go_sem, BigFrame.eval_const, BigFrame.eval_global, BigFrame.eval_func, ↓IntWalk.iteOmega, ev e239]
        with_reducible rfl
      apply Build.detg 241 Ext.refl (by rfl) (by rw [k.size]; rfl) rfl rfl
      case h =>   -- 15: t241 := Op.load 27 (tmp 240)
        intro ax wx hE hR hF
        have e240 : ax.eval (.tmp 240) = _ := hF 14 (det 240 _) (by decide) (.head _)
        have e228 : ax.eval (.tmp 228) = _ := hF 2 (det 228 _) (by decide) (.tail _ (.tail _ (.tail _ (.tail _ (.tail _ (.tail _ (.tail _ (.tail _ (.tail _ (.tail _ (.tail _ (.tail _ (.head _)))))))))))))
        refine ⟨e228, ?_⟩
        have q0 : wx.cell? ⟨ub, 0, none⟩ = some (.slice (some ⟨b1, o1, none⟩) U.length cap1) := (OwnT.blk (OwnT.ext O hR) 2 rfl).cell 0
        simp [go_sem, BigFrame.eval_const, BigFrame.eval_global, BigFrame.eval_func, ↓IntWalk.iteOmega, ev e240, q0]
        with_reducible rfl
      apply Build.detg 242 Ext.refl (by rfl) (by rw [k.size]; rfl) rfl rfl
      case h =>   -- 16: t242 := Op.move (tmp 17)
        intro ax wx hE hR hF
        have e228 : ax.eval (.tmp 228) = _ := hF 2 (det 228 _) (by decide) (.tail _ (.tail _ (.tail _ (.tail _ (.tail _ (.tail _ (.tail _ (.tail _ (.tail _ (.tail _ (.tail _ (.tail _ (.tail _ (.head _))))))))))))))
        refine ⟨e228, ?_⟩
        exact x_move rfl (hE.eval 17 (by rfl) e17)
      apply Build.detg 243 Ext.refl (by rfl) (by rw [k.size]; rfl) rfl rfl
      case h =>   -- 17: t243 := Op.indexAddr 27 (tmp 241) (tmp 242)
        intro ax wx hE hR hF
        have e241 : ax.eval (.tmp 241) = _ := hF 15 (det 241 _) (by decide) (.tail _ (.head _))
        have e242 : ax.eval (.tmp 242) = _ := hF 16 (det 242 _) (by decide) (.head _)
        have e228 : ax.eval (.tmp 228) = _ := hF 2 (det 228 _) (by decide) (.tail _ (.tail _ (.tail _ (.tail _ (.tail _ (.tail _ (.tail _ (.tail _ (.tail _ (.tail _ (.tail _ (.tail _ (.tail _ (.tail _ (.head _)))))))))))))))
        refine ⟨e228, ?_⟩
        simp [go_sem, BigFrame.eval_const, BigFrame.eval_global, BigFrame.eval_func, ↓IntWalk.iteOmega, ev e241, ev e242]
        with_reducible rfl
      apply Build.detg 244 Ext.refl (by rfl) (by rw [k.size]; rfl) rfl rfl
      case h =>   -- 18: t244 := Op.fieldAddr 35 (tmp 243) 0
        intro ax wx hE hR hF
        have e243 : ax.eval (.tmp 243) = _ := hF 17 (det 243 _) (by decide) (.head _)
        have e228 : ax.eval (.tmp 228) = _ := hF 2 (det 228 _) (by decide) (.tail _ (.tail _ (.tail _ (.tail _ (.tail _ (.tail _ (.tail _ (.tail _ (.tail _ (.tail _ (.tail _ (.tail _ (.tail _ (.tail _ (.tail _ (.head _))))))))))))))))
        refine ⟨e228, ?_⟩
        simp [go_sem, BigFrame.eval_const, BigFrame.eval_global, BigFrame.eval_func, ↓IntWalk.iteOmega, ev e243]
        with_reducible rfl
      apply Build.detg 245 Ext.refl (by rfl) (by rw [k.size]; rfl) rfl rfl
      case h =>   -- 19: t245 := Op.load 3 (tmp 244)
        intro ax wx hE hR hF
        have e244 : ax.eval (.tmp 244) = _ := hF 18 (det 244 _) (by decide) (.head _)
        have e228 : ax.eval (.tmp 228) = _ := hF 2 (det 228 _) (by decide) (.tail _ (.tail _ (.tail _ (.tail _ (.tail _ (.tail _ (.tail _ (.tail _ (.tail _ (.tail _ (.tail _ (.tail _ (.tail _ (.tail _ (.tail _ (.tail _ (.head _)))))))))))))))))
        refine ⟨e228, ?_⟩
        have c0 := row_q RU hR hx
        simp [go_sem, BigFrame.eval_const, BigFrame.eval_global, BigFrame.eval_func, ↓IntWalk.iteOmega, ev e244, c0]
        with_reducible rfl
      apply Build.detg 246 Ext.refl (by rfl) (by rw [k.size]; rfl) rfl rfl
      case h =>   -- 20: t246 := Op.binOp BinOp.eql 3 (tmp 237) (tmp 245) 3
        intro ax wx hE hR hF
        have e237 : ax.eval (.tmp 237) = _ := hF 11 (det 237 _) (by decide) (.tail _ (.tail _ (.tail _ (.tail _ (.tail _ (.tail _ (.tail _ (.tail _ (.head _)))))))))
        have e245 : ax.eval (.tmp 245) = _ := hF 19 (det 245 _) (by decide) (.head _)
        have e228 : ax.eval (.tmp 228) = _ := hF 2 (det 228 _) (by decide) (.tail _ (.tail _ (.tail _ (.tail _ (.tail _ (.tail _ (.tail _ (.tail _ (.tail _ (.tail _ (.tail _ (.tail _ (.tail _ (.tail _ (.tail _ (.tail _ (.tail _ (.head _))))))))))))))))))
        refine ⟨e228, ?_⟩
        exact x_dec (x_eql rfl e237 e245) (decide_eq_true rfl)
      apply Build.det 247 Ext.refl (by rfl) (by rw [k.size]; rfl) rfl
      case h =>   -- 21: t247 := Op.pick (tmp 228) (tmp 246) (const (Value.bool false))
        intro ax wx hE hR hF
        have e228 : ax.eval (.tmp 228) = _ := hF 2 (det 228 _) (by decide) (.tail _ (.tail _ (.tail _ (.tail _ (.tail _ (.tail _ (.tail _ (.tail _ (.tail _ (.tail _ (.tail _ (.tail _ (.tail _ (.tail _ (.tail _ (.tail _ (.tail _ (.tail _ (.head _)))))))))))))))))))
        have e246 : ax.eval (.tmp 246) = _ := hF 20 (det 246 _) (by decide) (.head _)
        exact x_pick_t rfl e228 e246
      apply Build.stop
      refine ⟨by kernel_rfl, .inl ⟨rfl, ?_⟩⟩
      intro a16 w17 hE R hF
      have e247 : a16.eval (.tmp 247) = _ := hF 21 (det 247 _) (.head _)
      clear hF
      replace O := OwnT.ext O R
      replace RL := Row.below RL R
      replace RU := Row.below RU R
      clear R
      replace e4 := hE.eval 4 (by rfl) e4
      replace e15 := hE.eval 15 (by rfl) e15
      replace e16 := hE.eval 16 (by rfl) e16
      replace e17 := hE.eval 17 (by rfl) e17
      replace k := k.env hE
      clear hE
      refine then_n ?_
      refine cond_t e247 rfl ?_
      refine wp_exit ?_
      refine then_x ?_
      refine block_x ?_
      refine then_n ?_
      refine wp_region_lit ?_   -- region 45
      have hE := Env.refl a16 [224, 225, 17]
      apply sq_det 224 hE k rfl (by rfl) (by rfl) rfl
      case h =>   -- 0: t224 := Op.move (tmp 17)
        exact x_move rfl e17
      intro a18 hE e224 kp
      replace e17 := (kp 17 rfl).trans e17
      apply sq_det 225 hE k rfl (by rfl) (by rfl) rfl
      case h =>   -- 1: t225 := Op.binOp BinOp.add 3 (tmp 224) (const (Value.int IntKind.i64 1)) 3
        exact x_add rfl e224 rfl (by omega)
      intro a19 hE e225 kp
      replace e17 := (kp 17 rfl).trans e17
      apply sq_det 17 hE k rfl (by rfl) (by rfl) rfl
      case h =>   -- 2: t17 := Op.assign (tmp 225)
        exact x_assign rfl e225
      intro a20 hE e17 kp
      refine wpList_nil ?_
      replace e4 := hE.eval 4 (by rfl) e4
      replace e15 := hE.eval 15 (by rfl) e15
      replace e16 := hE.eval 16 (by rfl) e16
      replace k := k.env hE
      clear hE e247
      refine then_n ?_
      rw [← cntH_same hy hx rfl] at e16
      refine ⟨⟨k, e4, e15, j + 2, e16, e17, by omega, O, RL, RU⟩, ?_⟩
      rw [e17, m17]; simp [intOf]; omega
    · have hnx := cntH_next hx hno
      rw [hHU] at hnx
      obtain ⟨hc1, hl⟩ := hnx
      have hlc : cntH U i < HU.length := (List.getElem?_eq_some_iff.1 hl).1
      have hlcI : (cntH U i : Int) < (HU.length : Int) := by omega
      obtain ⟨bl, ol, rfl, -, -⟩ := RL _ _ hl
      by_cases hi0 : i = 0
      · have hiI : ¬ (0 : Int) < (i : Int) := by omega
        refine wp_skip ?_
        refine then_n ?_
        refine wp_seq ?_
        refine wp_block ?_
        refine wp_seq ?_
        refine wp_seq ?_
        refine wp_typed (R := Ext) (w0 := w8) [[], [0], [0, 1], [0, 1, 2], [0, 1, 2, 3], [0, 1, 2, 3, 4], [0, 1, 2, 3, 4, 5], [0, 1, 2], [0, 1, 2, 7], [0, 1, 2, 3, 4, 5, 6, 7, 8], [0, 1, 2, 3, 4, 5, 6, 7, 8, 9], [0, 1, 2, 3, 4, 5, 6, 7, 8, 9, 10], [0, 1, 2], [0, 1, 2, 12], [0, 1, 2, 12, 13], [0, 1, 2, 12, 13, 14], [0, 1, 2], [0, 1, 2, 12, 13, 14, 15, 16], [0, 1, 2, 12, 13, 14, 15, 16, 17], [0, 1, 2, 12, 13, 14, 15, 16, 17, 18], [0, 1, 2, 3, 4, 5, 6, 7, 8, 9, 10, 11, 12, 13, 14, 15, 16, 17, 18, 19], [0, 1, 2, 3, 4, 5, 6, 7, 8, 9, 10, 11, 12, 13, 14, 15, 16, 17, 18, 19, 20]] [226, 227, 228, 229, 230, 231, 232, 233, 234, 235, 236, 237, 238, 239, 240, 241, 242, 243, 244, 245, 246, 247] Ext.refl (fun _ _ _ => Ext.trans) (Ext.drew _) (by kernel_rfl) ?_   -- region 46
        apply Build.det 226 Ext.refl (by rfl) (by rw [k.size]; rfl) rfl
        case h =>   -- 0: t226 := Op.move (tmp 17)
          intro ax wx hE hR hF
          exact x_move rfl (hE.eval 17 (by rfl) e17)
        apply Build.det 227 Ext.refl (by rfl) (by rw [k.size]; rfl) rfl
        case h =>   -- 1: t227 := Op.binOp BinOp.gtr 3 (tmp 226) (const (Value.int IntKind.i64 0)) 3
          intro ax wx hE hR hF
          have e226 : ax.eval (.tmp 226) = _ := hF 0 (det 226 _) (by decide) (.head _)
          exact x_dec (x_gtr rfl e226 rfl) (decide_eq_false (by omega))
        apply Build.det 228 Ext.refl (by rfl) (by rw [k.size]; rfl) rfl
        case h =>   -- 2: t228 := Op.move (tmp 227)
          intro ax wx hE hR hF
          have e227 : ax.eval (.tmp 227) = _ := hF 1 (det 227 _) (by decide) (.head _)
          exact x_move rfl e227
        refine Build.skip 229 (by rfl) (by rw [k.size]; rfl) rfl rfl ?_ ?_
        · intro ax wx hE hR hF
          have e228 : ax.eval (.tmp 228) = _ := hF 2 (det 228 _) (by decide) (.head _)
          exact e228
        refine Build.skip 230 (by rfl) (by rw [k.size]; rfl) rfl rfl ?_ ?_
        · intro ax wx hE hR hF
          have e228 : ax.eval (.tmp 228) = _ := hF 2 (det 228 _) (by decide) (.tail _ (.head _))
          exact e228
        refine Build.skip 231 (by rfl) (by rw [k.size]; rfl) rfl rfl ?_ ?_
        · intro ax wx hE hR hF
          have e228 : ax.eval (.tmp 228) = _ := hF 2 (det 228 _) (by decide) (.tail _ (.tail _ (.head _)))
          exact e228
        refine Build.skip 232 (by rfl) (by rw [k.size]; rfl) rfl rfl ?_ ?_
        · intro ax wx hE hR hF
          have e228 : ax.eval (.tmp 228) = _ := hF 2 (det 228 _) (by decide) (.tail _ (.tail _ (.tail _ (.head _))))
          exact e228
        refine Build.skip 233 (by rfl) (by rw [k.size]; rfl) rfl rfl ?_ ?_
        · intro ax wx hE hR hF
          have e228 : ax.eval (.tmp 228) = _ := hF 2 (det 228 _) (by decide) (.tail _ (.tail _ (.tail _ (.tail _ (.head _)))))
          exact e228
        refine Build.skip 234 (by rfl) (by rw [k.size]; rfl) rfl rfl ?_ ?_
        · intro ax wx hE hR hF
          have e228 : ax.eval (.tmp 228) = _ := hF 2 (det 228 _) (by decide) (.tail _ (.tail _ (.tail _ (.tail _ (.tail _ (.head _))))))
          exact e228
        refine Build.skip 235 (by rfl) (by rw [k.size]; rfl) rfl rfl ?_ ?_
        · intro ax wx hE hR hF
          have e228 : ax.eval (.tmp 228) = _ := hF 2 (det 228 _) (by decide) (.tail _ (.tail _ (.tail _ (.tail _ (.tail _ (.tail _ (.head _)))))))
          exact e228
        refine Build.skip 236 (by rfl) (by rw [k.size]; rfl) rfl rfl ?_ ?_
        · intro ax wx hE hR hF
          have e228 : ax.eval (.tmp 228) = _ := hF 2 (det 228 _) (by decide) (.tail _ (.tail _ (.tail _ (.tail _ (.tail _ (.tail _ (.tail _ (.head _))))))))
          exact e228
        refine Build.skip 237 (by rfl) (by rw [k.size]; rfl) rfl rfl ?_ ?_
        · intro ax wx hE hR hF
          have e228 : ax.eval (.tmp 228) = _ := hF 2 (det 228 _) (by decide) (.tail _ (.tail _ (.tail _ (.tail _ (.tail _ (.tail _ (.tail _ (.tail _ (.head _)))))))))
          exact e228
        refine Build.skip 238 (by rfl) (by rw [k.size]; rfl) rfl rfl ?_ ?_
        · intro ax wx hE hR hF
          have e228 : ax.eval (.tmp 228) = _ := hF 2 (det 228 _) (by decide) (.tail _ (.tail _ (.tail _ (.tail _ (.tail _ (.tail _ (.tail _ (.tail _ (.tail _ (.head _))))))))))
          exact e228
        refine Build.skip 239 (by rfl) (by rw [k.size]; rfl) rfl rfl ?_ ?_
        · intro ax wx hE hR hF
          have e228 : ax.eval (.tmp 228) = _ := hF 2 (det 228 _) (by decide) (.tail _ (.tail _ (.tail _ (.tail _ (.tail _ (.tail _ (.tail _ (.tail _ (.tail _ (.tail _ (.head _)))))))))))
          exact e228
        refine Build.skip 240 (by rfl) (by rw [k.size]; rfl) rfl rfl ?_ ?_
        · intro ax wx hE hR hF
          have e228 : ax.eval (.tmp 228) = _ := hF 2 (det 228 _) (by decide) (.tail _ (.tail _ (.tail _ (.tail _ (.tail _ (.tail _ (.tail _ (.tail _ (.tail _ (.tail _ (.tail _ (.head _))))))))))))
          exact e228
        refine Build.skip 241 (by rfl) (by rw [k.size]; rfl) rfl rfl ?_ ?_
        · intro ax wx hE hR hF
          have e228 : ax.eval (.tmp 228) = _ := hF 2 (det 228 _) (by decide) (.tail _ (.tail _ (.tail _ (.tail _ (.tail _ (.tail _ (.tail _ (.tail _ (.tail _ (.tail _ (.tail _ (.tail _ (.head _)))))))))))))
          exact e228
        refine Build.skip 242 (by rfl) (by rw [k.size]; rfl) rfl rfl ?_ ?_
        · intro ax wx hE hR hF
          have e228 : ax.eval (.tmp 228) = _ := hF 2 (det 228 _) (by decide) (.tail _ (.tail _ (.tail _ (.tail _ (.tail _ (.tail _ (.tail _ (.tail _ (.tail _ (.tail _ (.tail _ (.tail _ (.tail _ (.head _))))))))))))))
          exact e228
        refine Build.skip 243 (by rfl) (by rw [k.size]; rfl) rfl rfl ?_ ?_
        · intro ax wx hE hR hF
          have e228 : ax.eval (.tmp 228) = _ := hF 2 (det 228 _) (by decide) (.tail _ (.tail _ (.tail _ (.tail _ (.tail _ (.tail _ (.tail _ (.tail _ (.tail _ (.tail _ (.tail _ (.tail _ (.tail _ (.tail _ (.head _)))))))))))))))
          exact e228
        refine Build.skip 244 (by rfl) (by rw [k.size]; rfl) rfl rfl ?_ ?_
        · intro ax wx hE hR hF
          have e228 : ax.eval (.tmp 228) = _ := hF 2 (det 228 _) (by decide) (.tail _ (.tail _ (.tail _ (.tail _ (.tail _ (.tail _ (.tail _ (.tail _ (.tail _ (.tail _ (.tail _ (.tail _ (.tail _ (.tail _ (.tail _ (.head _))))))))))))))))
          exact e228
        refine Build.skip 245 (by rfl) (by rw [k.size]; rfl) rfl rfl ?_ ?_
        · intro ax wx hE hR hF
          have e228 : ax.eval (.tmp 228) = _ := hF 2 (det 228 _) (by decide) (.tail _ (.tail _ (.tail _ (.tail _ (.tail _ (.tail _ (.tail _ (.tail _ (.tail _ (.tail _ (.tail _ (.tail _ (.tail _ (.tail _ (.tail _ (.tail _ (.head _)))))))))))))))))
          exact e228
        refine Build.skip 246 (by rfl) (by rw [k.size]; rfl) rfl rfl ?_ ?_
        · intro ax wx hE hR hF
          have e228 : ax.eval (.tmp 228) = _ := hF 2 (det 228 _) (by decide) (.tail _ (.tail _ (.tail _ (.tail _ (.tail _ (.tail _ (.tail _ (.tail _ (.tail _ (.tail _ (.tail _ (.tail _ (.tail _ (.tail _ (.tail _ (.tail _ (.tail _ (.head _))))))))))))))))))
          exact e228
        apply Build.det 247 Ext.refl (by rfl) (by rw [k.size]; rfl) rfl
        case h =>   -- 21: t247 := Op.pick (tmp 228) (tmp 246) (const (Value.bool false))
          intro ax wx hE hR hF
          have e228 : ax.eval (.tmp 228) = _ := hF 2 (det 228 _) (by decide) (.tail _ (.tail _ (.tail _ (.tail _ (.tail _ (.tail _ (.tail _ (.tail _ (.tail _ (.tail _ (.tail _ (.tail _ (.tail _ (.tail _ (.tail _ (.tail _ (.tail _ (.tail _ (.head _)))))))))))))))))))
          have e246 : ax.eval (.tmp 246) = _ := hF 20 (det 246 _) (by decide) (.head _)
          exact x_pick_f rfl e228 rfl
        apply Build.stop
        refine ⟨by kernel_rfl, .inl ⟨rfl, ?_⟩⟩
        intro a21 w22 hE R hF
        have e247 : a21.eval (.tmp 247) = _ := hF 21 (det 247 _) (.head _)
        clear hF
        replace O := OwnT.ext O R
        replace RL := Row.below RL R
        replace RU := Row.below RU R
        clear R
        replace e4 := hE.eval 4 (by rfl) e4
        replace e15 := hE.eval 15 (by rfl) e15
        replace e16 := hE.eval 16 (by rfl) e16
        replace e17 := hE.eval 17 (by rfl) e17
        replace k := k.env hE
        clear hE
        refine then_n ?_
        refine cond_f e247 rfl ?_
        refine wp_skip ?_
        refine then_n ?_
        refine wp_seq ?_
        refine wp_seq ?_
        refine wp_typed (R := Ext) (w0 := w22) [[], [], [1], [0, 1, 2], [0, 1, 2, 3], [0, 1, 2, 3, 4], [0, 1, 2, 3, 4], [0, 1, 2, 3, 4, 5, 6], [0, 1, 2, 3, 4, 5, 6, 7], [0, 1, 2, 3, 4], [0, 1, 2, 3, 4, 9], [0, 1, 2, 3, 4, 9, 10], [0, 1, 2, 3, 4, 9, 10, 11], [0, 1, 2, 3, 4], [0, 1, 2, 3, 4, 9, 10, 11, 12, 13], [0, 1, 2, 3, 4, 9, 10, 11, 12, 13, 14], [0, 1, 2, 3, 4, 9, 10, 11, 12, 13, 14, 15], [0, 1, 2, 3, 4, 5, 6, 7, 8, 9, 10, 11, 12, 13, 14, 15, 16], [0, 1, 2, 3, 4, 5, 6, 7, 8, 9, 10, 11, 12, 13, 14, 15, 16, 17]] [248, 249, 250, 251, 252, 253, 254, 255, 256, 257, 258, 259, 260, 261, 262, 263, 264, 265, 266] Ext.refl (fun _ _ _ => Ext.trans) (Ext.drew _) (by kernel_rfl) ?_   -- region 47
        apply Build.det 248 Ext.refl (by rfl) (by rw [k.size]; rfl) rfl
        case h =>   -- 0: t248 := Op.move (tmp 16)
          intro ax wx hE hR hF
          exact x_move rfl (hE.eval 16 (by rfl) e16)
        apply Build.det 249 Ext.refl (by rfl) (by rw [k.size]; rfl) rfl
        case h =>   -- 1: t249 := Op.move (tmp 15)
          intro ax wx hE hR hF
          exact x_move rfl (hE.eval 15 (by rfl) e15)
        apply Build.det 250 Ext.refl (by rfl) (by rw [k.size]; rfl) rfl
        case h =>   -- 2: t250 := Op.call {callee := Callee.builtin Builtin.len, args := #[tmp 249], arg
          intro ax wx hE hR hF
          have e249 : ax.eval (.tmp 249) = _ := hF 1 (det 249 _) (by decide) (.head _)
          exact x_len Try.underlying49 rfl e249
        apply Build.det 251 Ext.refl (by rfl) (by rw [k.size]; rfl) rfl
        case h =>   -- 3: t251 := Op.binOp BinOp.geq 3 (tmp 248) (tmp 250) 3
          intro ax wx hE hR hF
          have e248 : ax.eval (.tmp 248) = _ := hF 0 (det 248 _) (by decide) (.tail _ (.tail _ (.head _)))
          have e250 : ax.eval (.tmp 250) = _ := hF 2 (det 250 _) (by decide) (.head _)
          exact x_dec (x_geq rfl e248 e250) (decide_eq_false (by omega))
        apply Build.det 252 Ext.refl (by rfl) (by rw [k.size]; rfl) rfl
        case h =>   -- 4: t252 := Op.move (tmp 251)
          intro ax wx hE hR hF
          have e251 : ax.eval (.tmp 251) = _ := hF 3 (det 251 _) (by decide) (.head _)
          exact x_move rfl e251
        apply Build.detg 253 Ext.refl (by rfl) (by rw [k.size]; rfl) rfl rfl
        case h =>   -- 5: t253 := Op.move (tmp 15)
          intro ax wx hE hR hF
          have e252 : ax.eval (.tmp 252) = _ := hF 4 (det 252 _) (by decide) (.head _)
          refine ⟨e252, ?_⟩
          exact x_move rfl (hE.eval 15 (by rfl) e15)
        apply Build.detg 254 Ext.refl (by rfl) (by rw [k.size]; rfl) rfl rfl
        case h =>   -- 6: t254 := Op.move (tmp 16)
          intro ax wx hE hR hF
          have e252 : ax.eval (.tmp 252) = _ := hF 4 (det 252 _) (by decide) (.tail _ (.head _))
          refine ⟨e252, ?_⟩
          exact x_move rfl (hE.eval 16 (by rfl) e16)
        apply Build.detg 255 Ext.refl (by rfl) (by rw [k.size]; rfl) rfl rfl
        case h =>   -- 7: t255 := Op.indexAddr 49 (tmp 253) (tmp 254)
          intro ax wx hE hR hF
          have e253 : ax.eval (.tmp 253) = _ := hF 5 (det 253 _) (by decide) (.tail _ (.head _))
          have e254 : ax.eval (.tmp 254) = _ := hF 6 (det 254 _) (by decide) (.head _)
          have e252 : ax.eval (.tmp 252) = _ := hF 4 (det 252 _) (by decide) (.tail _ (.tail _ (.head _)))
          refine ⟨e252, ?_⟩
          simp [go_sem, BigFrame.eval_const, BigFrame.eval_global, BigFrame.eval_func, ↓IntWalk.iteOmega, ev e253, ev e254]
          with_reducible rfl
        apply Build.detg 256 Ext.refl (by rfl) (by rw [k.size]; rfl) rfl rfl
        case h =>   -- 8: t256 := Op.load 3 (tmp 255)
          intro ax wx hE hR hF
          have e255 : ax.eval (.tmp 255) = _ := hF 7 (det 255 _) (by decide) (.head _)
          have e252 : ax.eval (.tmp 252) = _ := hF 4 (det 252 _) (by decide) (.tail _ (.tail _ (.tail _ (.head _))))
          refine ⟨e252, ?_⟩
          have c0 := row_i RL hR hl
          simp [go_sem, BigFrame.eval_const, BigFrame.eval_global, BigFrame.eval_func, ↓IntWalk.iteOmega, ev e255, c0]
          with_reducible rfl
        apply Build.detg 257 Ext.refl (by rfl) (by rw [k.size]; rfl) rfl rfl
        case h =>   -- 9: t257 := Op.move (tmp 4)
          intro ax wx hE hR hF
          have e252 : ax.eval (.tmp 252) = _ := hF 4 (det 252 _) (by decide) (.tail _ (.tail _ (.tail _ (.tail _ (.head _)))))
          refine ⟨e252, ?_⟩
          exact x_move rfl (hE.eval 4 (by rfl) e4)
        apply Build.detg 258 Ext.refl (by rfl) (by rw [k.size]; rfl) rfl rfl
        case h =>   -- 10: t258 := Op.nilCheck (tmp 257)
          intro ax wx hE hR hF
          have e257 : ax.eval (.tmp 257) = _ := hF 9 (det 257 _) (by decide) (.head _)
          have e252 : ax.eval (.tmp 252) = _ := hF 4 (det 252 _) (by decide) (.tail _ (.tail _ (.tail _ (.tail _ (.tail _ (.head _))))))
          refine ⟨e252, ?_⟩
          exact x_nil rfl e257
        apply Build.detg 259 Ext.refl (by rfl) (by rw [k.size]; rfl) rfl rfl
        case h =>   -- 11: t259 := Op.fieldAddr 29 (tmp 258) 0
          intro ax wx hE hR hF
          have e258 : ax.eval (.tmp 258) = _ := hF 10 (det 258 _) (by decide) (.head _)
          have e252 : ax.eval (.tmp 252) = _ := hF 4 (det 252 _) (by decide) (.tail _ (.tail _ (.tail _ (.tail _ (.tail _ (.tail _ (.head _)))))))
          refine ⟨e252, ?_⟩
          simp [go_sem, BigFrame.eval_const, BigFrame.eval_global, BigFrame.eval_func, ↓IntWalk.iteOmega, ev e258]
          with_reducible rfl
        apply Build.detg 260 Ext.refl (by rfl) (by rw [k.size]; rfl) rfl rfl
        case h =>   -- 12: t260 := Op.load 27 (tmp 259)
          intro ax wx hE hR hF
          have e259 : ax.eval (.tmp 259) = _ := hF 11 (det 259 _) (by decide) (.head _)
          have e252 : ax.eval (.tmp 252) = _ := hF 4 (det 252 _) (by decide) (.tail _ (.tail _ (.tail _ (.tail _ (.tail _ (.tail _ (.tail _ (.head _))))))))
          refine ⟨e252, ?_⟩
          have q0 : wx.cell? ⟨ub, 0, none⟩ = some (.slice (some ⟨b1, o1, none⟩) U.length cap1) := (OwnT.blk (OwnT.ext O hR) 2 rfl).cell 0
          simp [go_sem, BigFrame.eval_const, BigFrame.eval_global, BigFrame.eval_func, ↓IntWalk.iteOmega, ev e259, q0]
          with_reducible rfl
        apply Build.detg 261 Ext.refl (by rfl) (by rw [k.size]; rfl) rfl rfl
        case h =>   -- 13: t261 := Op.move (tmp 17)
          intro ax wx hE hR hF
          have e252 : ax.eval (.tmp 252) = _ := hF 4 (det 252 _) (by decide) (.tail _ (.tail _ (.tail _ (.tail _ (.tail _ (.tail _ (.tail _ (.tail _ (.head _)))))))))
          refine ⟨e252, ?_⟩
          exact x_move rfl (hE.eval 17 (by rfl) e17)
        apply Build.detg 262 Ext.refl (by rfl) (by rw [k.size]; rfl) rfl rfl
        case h =>   -- 14: t262 := Op.indexAddr 27 (tmp 260) (tmp 261)
          intro ax wx hE hR hF
          have e260 : ax.eval (.tmp 260) = _ := hF 12 (det 260 _) (by decide) (.tail _ (.head _))
          have e261 : ax.eval (.tmp 261) = _ := hF 13 (det 261 _) (by decide) (.head _)
          have e252 : ax.eval (.tmp 252) = _ := hF 4 (det 252 _) (by decide) (.tail _ (.tail _ (.tail _ (.tail _ (.tail _ (.tail _ (.tail _ (.tail _ (.tail _ (.head _))))))))))
          refine ⟨e252, ?_⟩
          simp [go_sem, BigFrame.eval_const, BigFrame.eval_global, BigFrame.eval_func, ↓IntWalk.iteOmega, ev e260, ev e261]
          with_reducible rfl
        apply Build.detg 263 Ext.refl (by rfl) (by rw [k.size]; rfl) rfl rfl
        case h =>   -- 15: t263 := Op.fieldAddr 35 (tmp 262) 0
          intro ax wx hE hR hF
          have e262 : ax.eval (.tmp 262) = _ := hF 14 (det 262 _) (by decide) (.head _)
          have e252 : ax.eval (.tmp 252) = _ := hF 4 (det 252 _) (by decide) (.tail _ (.tail _ (.tail _ (.tail _ (.tail _ (.tail _ (.tail _ (.tail _ (.tail _ (.tail _ (.head _)))))))))))
          refine ⟨e252, ?_⟩
          simp [go_sem, BigFrame.eval_const, BigFrame.eval_global, BigFrame.eval_func, ↓IntWalk.iteOmega, ev e262]
          with_reducible rfl
        apply Build.detg 264 Ext.refl (by rfl) (by rw [k.size]; rfl) rfl rfl
        case h =>   -- 16: t264 := Op.load 3 (tmp 263)
          intro ax wx hE hR hF
          have e263 : ax.eval (.tmp 263) = _ := hF 15 (det 263 _) (by decide) (.head _)
          have e252 : ax.eval (.tmp 252) = _ := hF 4 (det 252 _) (by decide) (.tail _ (.tail _ (.tail _ (.tail _ (.tail _ (.tail _ (.tail _ (.tail _ (.tail _ (.tail _ (.tail _ (.head _))))))))))))
          refine ⟨e252, ?_⟩
          have c0 := row_q RU hR hx
          simp [go_sem, BigFrame.eval_const, BigFrame.eval_global, BigFrame.eval_func, ↓IntWalk.iteOmega, ev e263, c0]
          with_reducible rfl
        apply Build.detg 265 Ext.refl (by rfl) (by rw [k.size]; rfl) rfl rfl
        case h =>   -- 17: t265 := Op.binOp BinOp.neq 3 (tmp 256) (tmp 264) 3
          intro ax wx hE hR hF
          have e256 : ax.eval (.tmp 256) = _ := hF 8 (det 256 _) (by decide) (.tail _ (.tail _ (.tail _ (.tail _ (.tail _ (.tail _ (.tail _ (.tail _ (.head _)))))))))
          have e264 : ax.eval (.tmp 264) = _ := hF 16 (det 264 _) (by decide) (.head _)
          have e252 : ax.eval (.tmp 252) = _ := hF 4 (det 252 _) (by decide) (.tail _ (.tail _ (.tail _ (.tail _ (.tail _ (.tail _ (.tail _ (.tail _ (.tail _ (.tail _ (.tail _ (.tail _ (.head _)))))))))))))
          refine ⟨e252, ?_⟩
          exact x_dec (x_neq rfl e256 e264) (decide_eq_false (fun h => h rfl))
        apply Build.det 266 Ext.refl (by rfl) (by rw [k.size]; rfl) rfl
        case h =>   -- 18: t266 := Op.pick (tmp 252) (const (Value.bool true)) (tmp 265)
          intro ax wx hE hR hF
          have e252 : ax.eval (.tmp 252) = _ := hF 4 (det 252 _) (by decide) (.tail _ (.tail _ (.tail _ (.tail _ (.tail _ (.tail _ (.tail _ (.tail _ (.tail _ (.tail _ (.tail _ (.tail _ (.tail _ (.head _))))))))))))))
          have e265 : ax.eval (.tmp 265) = _ := hF 17 (det 265 _) (by decide) (.head _)
          exact x_pick_f rfl e252 e265
        apply Build.stop
        refine ⟨by kernel_rfl, .inl ⟨rfl, ?_⟩⟩
        intro a23 w24 hE R hF
        have e266 : a23.eval (.tmp 266) = _ := hF 18 (det 266 _) (.head _)
        clear hF
        replace O := OwnT.ext O R
        replace RL := Row.below RL R
        replace RU := Row.below RU R
        clear R
        replace e4 := hE.eval 4 (by rfl) e4
        replace e15 := hE.eval 15 (by rfl) e15
        replace e16 := hE.eval 16 (by rfl) e16
        replace e17 := hE.eval 17 (by rfl) e17
        replace k := k.env hE
        clear hE e247
        refine then_n ?_
        refine cond_f e266 rfl ?_
        refine wp_skip ?_
        refine then_n ?_
        refine wp_region_lit ?_   -- region 49
        have hE := Env.refl a23 [267, 268, 16]
        apply sq_det 267 hE k rfl (by rfl) (by rfl) rfl
        case h =>   -- 0: t267 := Op.move (tmp 16)
          exact x_move rfl e16
        intro a25 hE e267 kp
        replace e16 := (kp 16 rfl).trans e16
        apply sq_det 268 hE k rfl (by rfl) (by rfl) rfl
        case h =>   -- 1: t268 := Op.binOp BinOp.add 3 (tmp 267) (const (Value.int IntKind.i64 1)) 3
          exact x_add rfl e267 rfl (by omega)
        intro a26 hE e268 kp
        replace e16 := (kp 16 rfl).trans e16
        apply sq_det 16 hE k rfl (by rfl) (by rfl) rfl
        case h =>   -- 2: t16 := Op.assign (tmp 268)
          exact x_assign rfl e268
        intro a27 hE e16 kp
        refine wpList_nil ?_
        replace e4 := hE.eval 4 (by rfl) e4
        replace e15 := hE.eval 15 (by rfl) e15
        replace e17 := hE.eval 17 (by rfl) e17
        replace k := k.env hE
        clear hE e266
        refine block_n ?_
        refine then_n ?_
        refine wp_region_lit ?_   -- region 45
        have hE := Env.refl a27 [224, 225, 17]
        apply sq_det 224 hE k rfl (by rfl) (by rfl) rfl
        case h =>   -- 0: t224 := Op.move (tmp 17)
          exact x_move rfl e17
        intro a28 hE e224 kp
        replace e17 := (kp 17 rfl).trans e17
        apply sq_det 225 hE k rfl (by rfl) (by rfl) rfl
        case h =>   -- 1: t225 := Op.binOp BinOp.add 3 (tmp 224) (const (Value.int IntKind.i64 1)) 3
          exact x_add rfl e224 rfl (by omega)
        intro a29 hE e225 kp
        replace e17 := (kp 17 rfl).trans e17
        apply sq_det 17 hE k rfl (by rfl) (by rfl) rfl
        case h =>   -- 2: t17 := Op.assign (tmp 225)
          exact x_assign rfl e225
        intro a30 hE e17 kp
        refine wpList_nil ?_
        replace e4 := hE.eval 4 (by rfl) e4
        replace e15 := hE.eval 15 (by rfl) e15
        replace e16 := hE.eval 16 (by rfl) e16
        replace k := k.env hE
        clear hE
        refine then_n ?_
        replace e16 := e16.trans (int_eq (show (cntH U i : Int) + 1 = (cntH U (i + 1) : Nat) by rw [hc1]; rfl))
        refine ⟨⟨k, e4, e15, i + 1, e16, e17, by omega, O, RL, RU⟩, ?_⟩
        rw [e17, m17]; simp [intOf]; omega
      · obtain ⟨j, rfl⟩ : ∃ j, i = j + 1 := ⟨i - 1, by omega⟩
        have hjI : (j : Int) < (U.length : Int) := by omega
        obtain ⟨y0, y1, y2, y3, hy⟩ : ∃ y0 y1 y2 y3, U[j]? = some (y0, y1, y2, y3) := ⟨_, _, _, _, List.getElem?_eq_getElem (by omega)⟩
        have hne : y0 ≠ x0 := hno j _ rfl hy
        
        refine wp_skip ?_
        refine then_n ?_
        refine wp_seq ?_
        refine wp_block ?_
        refine wp_seq ?_
        refine wp_seq ?_
        refine wp_typed (R := Ext) (w0 := w8) [[], [0], [0, 1], [0, 1, 2], [0, 1, 2, 3], [0, 1, 2, 3, 4], [0, 1, 2, 3, 4, 5], [0, 1, 2], [0, 1, 2, 7], [0, 1, 2, 3, 4, 5, 6, 7, 8], [0, 1, 2, 3, 4, 5, 6, 7, 8, 9], [0, 1, 2, 3, 4, 5, 6, 7, 8, 9, 10], [0, 1, 2], [0, 1, 2, 12], [0, 1, 2, 12, 13], [0, 1, 2, 12, 13, 14], [0, 1, 2], [0, 1, 2, 12, 13, 14, 15, 16], [0, 1, 2, 12, 13, 14, 15, 16, 17], [0, 1, 2, 12, 13, 14, 15, 16, 17, 18], [0, 1, 2, 3, 4, 5, 6, 7, 8, 9, 10, 11, 12, 13, 14, 15, 16, 17, 18, 19], [0, 1, 2, 3, 4, 5, 6, 7, 8, 9, 10, 11, 12, 13, 14, 15, 16, 17, 18, 19, 20]] [226, 227, 228, 229, 230, 231, 232, 233, 234, 235, 236, 237, 238, 239, 240, 241, 242, 243, 244, 245, 246, 247] Ext.refl (fun _ _ _ => Ext.trans) (Ext.drew _) (by kernel_rfl) ?_   -- region 46
        apply Build.det 226 Ext.refl (by rfl) (by rw [k.size]; rfl) rfl
        case h =>   -- 0: t226 := Op.move (tmp 17)
          intro ax wx hE hR hF
          exact x_move rfl (hE.eval 17 (by rfl) e17)
        apply Build.det 227 Ext.refl (by rfl) (by rw [k.size]; rfl) rfl
        case h =>   -- 1: t227 := Op.binOp BinOp.gtr 3 (tmp 226) (const (Value.int IntKind.i64 0)) 3
          intro ax wx hE hR hF
          have e226 : ax.eval (.tmp 226) = _ := hF 0 (det 226 _) (by decide) (.head _)
          exact x_dec (x_gtr rfl e226 rfl) (decide_eq_true (by omega))
        apply Build.det 228 Ext.refl (by rfl) (by rw [k.size]; rfl) rfl
        case h =>   -- 2: t228 := Op.move (tmp 227)
          intro ax wx hE hR hF
          have e227 : ax.eval (.tmp 227) = _ := hF 1 (det 227 _) (by decide) (.head _)
          exact x_move rfl e227
        apply Build.detg 229 Ext.refl (by rfl) (by rw [k.size]; rfl) rfl rfl
        case h =>   -- 3: t229 := Op.move (tmp 4)
          intro ax wx hE hR hF
          have e228 : ax.eval (.tmp 228) = _ := hF 2 (det 228 _) (by decide) (.head _)
          refine ⟨e228, ?_⟩
          exact x_move rfl (hE.eval 4 (by rfl) e4)
        apply Build.detg 230 Ext.refl (by rfl) (by rw [k.size]; rfl) rfl rfl
        case h =>   -- 4: t230 := Op.nilCheck (tmp 229)
          intro ax wx hE hR hF
          have e229 : ax.eval (.tmp 229) = _ := hF 3 (det 229 _) (by decide) (.head _)
          have e228 : ax.eval (.tmp 228) = _ := hF 2 (det 228 _) (by decide) (.tail _ (.head _))
          refine ⟨e228, ?_⟩
          exact x_nil rfl e229
        apply Build.detg 231 Ext.refl (by rfl) (by rw [k.size]; rfl) rfl rfl
        case h =>   -- 5: t231 := Op.fieldAddr 29 (tmp 230) 0
          intro ax wx hE hR hF
          have e230 : ax.eval (.tmp 230) = _ := hF 4 (det 230 _) (by decide) (.head _)
          have e228 : ax.eval (.tmp 228) = _ := hF 2 (det 228 _) (by decide) (.tail _ (.tail _ (.head _)))
          refine ⟨e228, ?_⟩
          simp [go_sem, BigFrame.eval_const, BigFrame.eval_global, BigFrame.eval_func, ↓IntWalk.iteOmega, ev e230]
          with_reducible rfl
        apply Build.detg 232 Ext.refl (by rfl) (by rw [k.size]; rfl) rfl rfl
        case h =>   -- 6: t232 := Op.load 27 (tmp 231)
          intro ax wx hE hR hF
          have e231 : ax.eval (.tmp 231) = _ := hF 5 (det 231 _) (by decide) (.head _)
          have e228 : ax.eval (.tmp 228) = _ := hF 2 (det 228 _) (by decide) (.tail _ (.tail _ (.tail _ (.head _))))
          refine ⟨e228, ?_⟩
          have q0 : wx.cell? ⟨ub, 0, none⟩ = some (.slice (some ⟨b1, o1, none⟩) U.length cap1) := (OwnT.blk (OwnT.ext O hR) 2 rfl).cell 0
          simp [go_sem, BigFrame.eval_const, BigFrame.eval_global, BigFrame.eval_func, ↓IntWalk.iteOmega, ev e231, q0]
          with_reducible rfl
        apply Build.detg 233 Ext.refl (by rfl) (by rw [k.size]; rfl) rfl rfl
        case h =>   -- 7: t233 := Op.move (tmp 17)
          intro ax wx hE hR hF
          have e228 : ax.eval (.tmp 228) = _ := hF 2 (det 228 _) (by decide) (.tail _ (.tail _ (.tail _ (.tail _ (.head _)))))
          refine ⟨e228, ?_⟩
          exact x_move rfl (hE.eval 17 (by rfl) e17)
        apply Build.detg 234 Ext.refl (by rfl) (by rw [k.size]; rfl) rfl rfl
        case h =>   -- 8: t234 := Op.binOp BinOp.sub 3 (tmp 233) (const (Value.int IntKind.i64 1)) 3
          intro ax wx hE hR hF
          have e233 : ax.eval (.tmp 233) = _ := hF 7 (det 233 _) (by decide) (.head _)
          have e228 : ax.eval (.tmp 228) = _ := hF 2 (det 228 _) (by decide) (.tail _ (.tail _ (.tail _ (.tail _ (.tail _ (.head _))))))
          refine ⟨e228, ?_⟩
          exact x_val (x_sub rfl e233 rfl (by omega)) (int_eq (show ((j + 1 : Nat) : Int) - 1 = (j : Int) by omega))
        apply Build.detg 235 Ext.refl (by rfl) (by rw [k.size]; rfl) rfl rfl
        case h =>   -- 9: t235 := Op.indexAddr 27 (tmp 232) (tmp 234)
          intro ax wx hE hR hF
          have e232 : ax.eval (.tmp 232) = _ := hF 6 (det 232 _) (by decide) (.tail _ (.tail _ (.head _)))
          have e234 : ax.eval (.tmp 234) = _ := hF 8 (det 234 _) (by decide) (.head _)
          have e228 : ax.eval (.tmp 228) = _ := hF 2 (det 228 _) (by decide) (.tail _ (.tail _ (.tail _ (.tail _ (.tail _ (.tail _ (.head _)))))))
          refine ⟨e228, ?_⟩
          simp [go_sem, BigFrame.eval_const, BigFrame.eval_global, BigFrame.eval_func, ↓IntWalk.iteOmega, ev e232, ev e234]
          with_reducible rfl
        apply Build.detg 236 Ext.refl (by rfl) (by rw [k.size]; rfl) rfl rfl
        case h =>   -- 10: t236 := Op.fieldAddr 35 (tmp 235) 0
          intro ax wx hE hR hF
          have e235 : ax.eval (.tmp 235) = _ := hF 9 (det 235 _) (by decide) (.head _)
          have e228 : ax.eval (.tmp 228) = _ := hF 2 (det 228 _) (by decide) (.tail _ (.tail _ (.tail _ (.tail _ (.tail _ (.tail _ (.tail _ (.head _))))))))
          refine ⟨e228, ?_⟩
          simp [go_sem, BigFrame.eval_const, BigFrame.eval_global, BigFrame.eval_func, ↓IntWalk.iteOmega, ev e235]
          with_reducible rfl
        apply Build.detg 237 Ext.refl (by rfl) (by rw [k.size]; rfl) rfl rfl
        case h =>   -- 11: t237 := Op.load 3 (tmp 236)
          intro ax wx hE hR hF
          have e236 : ax.eval (.tmp 236) = _ := hF 10 (det 236 _) (by decide) (.head _)
          have e228 : ax.eval (.tmp 228) = _ := hF 2 (det 228 _) (by decide) (.tail _ (.tail _ (.tail _ (.tail _ (.tail _ (.tail _ (.tail _ (.tail _ (.head _)))))))))
          refine ⟨e228, ?_⟩
          have c0 := row_q RU hR hy
          simp [go_sem, BigFrame.eval_const, BigFrame.eval_global, BigFrame.eval_func, ↓IntWalk.iteOmega, ev e236, c0]
          with_reducible rfl
        apply Build.detg 238 Ext.refl (by rfl) (by rw [k.size]; rfl) rfl rfl
        case h =>   -- 12: t238 := Op.move (tmp 4)
          intro ax wx hE hR hF
          have e228 : ax.eval (.tmp 228) = _ := hF 2 (det 228 _) (by decide) (.tail _ (.tail _ (.tail _ (.tail _ (.tail _ (.tail _ (.tail _ (.tail _ (.tail _ (.head _))))))))))
          refine ⟨e228, ?_⟩
          exact x_move rfl (hE.eval 4 (by rfl) e4)
        apply Build.detg 239 Ext.refl (by rfl) (by rw [k.size]; rfl) rfl rfl
        case h =>   -- 13: t239 := Op.nilCheck (tmp 238)
          intro ax wx hE hR hF
          have e238 : ax.eval (.tmp 238) = _ := hF 12 (det 238 _) (by decide) (.head _)
          have e228 : ax.eval (.tmp 228) = _ := hF 2 (det 228 _) (by decide) (.tail _ (.tail _ (.tail _ (.tail _ (.tail _ (.tail _ (.tail _ (.tail _ (.tail _ (.tail _ (.head _)))))))))))
          refine ⟨e228, ?_⟩
          exact x_nil rfl e238
        apply Build.detg 240 Ext.refl (by rfl) (by rw [k.size]; rfl) rfl rfl
        case h =>   -- 14: t240 := Op.fieldAddr 29 (tmp 239) 0
          intro ax wx hE hR hF
          have e239 : ax.eval (.tmp 239) = _ := hF 13 (det 239 _) (by decide) (.head _)
          have e228 : ax.eval (.tmp 228) = _ := hF 2 (det 228 _) (by decide) (.tail _ (.tail _ (.tail _ (.tail _ (.tail _ (.tail _ (.tail _ (.tail _ (.tail _ (.tail _ (.tail _ (.head _))))))))))))
          refine ⟨e228, ?_⟩
          simp [go_sem, BigFrame.eval_const, BigFrame.eval_global, BigFrame.eval_func, ↓IntWalk.iteOmega, ev e239]
          with_reducible rfl
        apply Build.detg 241 Ext.refl (by rfl) (by rw [k.size]; rfl) rfl rfl
        case h =>   -- 15: t241 := Op.load 27 (tmp 240)
          intro ax wx hE hR hF
          have e240 : ax.eval (.tmp 240) = _ := hF 14 (det 240 _) (by decide) (.head _)
          have e228 : ax.eval (.tmp 228) = _ := hF 2 (det 228 _) (by decide) (.tail _ (.tail _ (.tail _ (.tail _ (.tail _ (.tail _ (.tail _ (.tail _ (.tail _ (.tail _ (.tail _ (.tail _ (.head _)))))))))))))
          refine ⟨e228, ?_⟩
          have q0 : wx.cell? ⟨ub, 0, none⟩ = some (.slice (some ⟨b1, o1, none⟩) U.length cap1) := (OwnT.blk (OwnT.ext O hR) 2 rfl).cell 0
          simp [go_sem, BigFrame.eval_const, BigFrame.eval_global, BigFrame.eval_func, ↓IntWalk.iteOmega, ev e240, q0]
          with_reducible rfl
        apply Build.detg 242 Ext.refl (by rfl) (by rw [k.size]; rfl) rfl rfl
        case h =>   -- 16: t242 := Op.move (tmp 17)
          intro ax wx hE hR hF
          have e228 : ax.eval (.tmp 228) = _ := hF 2 (det 228 _) (by decide) (.tail _ (.tail _ (.tail _ (.tail _ (.tail _ (.tail _ (.tail _ (.tail _ (.tail _ (.tail _ (.tail _ (.tail _ (.tail _ (.head _))))))))))))))
          refine ⟨e228, ?_⟩
          exact x_move rfl (hE.eval 17 (by rfl) e17)
        apply Build.detg 243 Ext.refl (by rfl) (by rw [k.size]; rfl) rfl rfl
        case h =>   -- 17: t243 := Op.indexAddr 27 (tmp 241) (tmp 242)
          intro ax wx hE hR hF
          have e241 : ax.eval (.tmp 241) = _ := hF 15 (det 241 _) (by decide) (.tail _ (.head _))
          have e242 : ax.eval (.tmp 242) = _ := hF 16 (det 242 _) (by decide) (.head _)
          have e228 : ax.eval (.tmp 228) = _ := hF 2 (det 228 _) (by decide) (.tail _ (.tail _ (.tail _ (.tail _ (.tail _ (.tail _ (.tail _ (.tail _ (.tail _ (.tail _ (.tail _ (.tail _ (.tail _ (.tail _ (.head _)))))))))))))))
          refine ⟨e228, ?_⟩
          simp [go_sem, BigFrame.eval_const, BigFrame.eval_global, BigFrame.eval_func, ↓IntWalk.iteOmega, ev e241, ev e242]
          with_reducible rfl
        apply Build.detg 244 Ext.refl (by rfl) (by rw [k.size]; rfl) rfl rfl
        case h =>   -- 18: t244 := Op.fieldAddr 35 (tmp 243) 0
          intro ax wx hE hR hF
          have e243 : ax.eval (.tmp 243) = _ := hF 17 (det 243 _) (by decide) (.head _)
          have e228 : ax.eval (.tmp 228) = _ := hF 2 (det 228 _) (by decide) (.tail _ (.tail _ (.tail _ (.tail _ (.tail _ (.tail _ (.tail _ (.tail _ (.tail _ (.tail _ (.tail _ (.tail _ (.tail _ (.tail _ (.tail _ (.head _))))))))))))))))
          refine ⟨e228, ?_⟩
          simp [go_sem, BigFrame.eval_const, BigFrame.eval_global, BigFrame.eval_func, ↓IntWalk.iteOmega, ev e243]
          with_reducible rfl
        apply Build.detg 245 Ext.refl (by rfl) (by rw [k.size]; rfl) rfl rfl
        case h =>   -- 19: t245 := Op.load 3 (tmp 244)
          intro ax wx hE hR hF
          have e244 : ax.eval (.tmp 244) = _ := hF 18 (det 244 _) (by decide) (.head _)
          have e228 : ax.eval (.tmp 228) = _ := hF 2 (det 228 _) (by decide) (.tail _ (.tail _ (.tail _ (.tail _ (.tail _ (.tail _ (.tail _ (.tail _ (.tail _ (.tail _ (.tail _ (.tail _ (.tail _ (.tail _ (.tail _ (.tail _ (.head _)))))))))))))))))
          refine ⟨e228, ?_⟩
          have c0 := row_q RU hR hx
          simp [go_sem, BigFrame.eval_const, BigFrame.eval_global, BigFrame.eval_func, ↓IntWalk.iteOmega, ev e244, c0]
          with_reducible rfl
        apply Build.detg 246 Ext.refl (by rfl) (by rw [k.size]; rfl) rfl rfl
        case h =>   -- 20: t246 := Op.binOp BinOp.eql 3 (tmp 237) (tmp 245) 3
          intro ax wx hE hR hF
          have e237 : ax.eval (.tmp 237) = _ := hF 11 (det 237 _) (by decide) (.tail _ (.tail _ (.tail _ (.tail _ (.tail _ (.tail _ (.tail _ (.tail _ (.head _)))))))))
          have e245 : ax.eval (.tmp 245) = _ := hF 19 (det 245 _) (by decide) (.head _)
          have e228 : ax.eval (.tmp 228) = _ := hF 2 (det 228 _) (by decide) (.tail _ (.tail _ (.tail _ (.tail _ (.tail _ (.tail _ (.tail _ (.tail _ (.tail _ (.tail _ (.tail _ (.tail _ (.tail _ (.tail _ (.tail _ (.tail _ (.tail _ (.head _))))))))))))))))))
          refine ⟨e228, ?_⟩
          exact x_dec (x_eql rfl e237 e245) (decide_eq_false hne)
        apply Build.det 247 Ext.refl (by rfl) (by rw [k.size]; rfl) rfl
        case h =>   -- 21: t247 := Op.pick (tmp 228) (tmp 246) (const (Value.bool false))
          intro ax wx hE hR hF
          have e228 : ax.eval (.tmp 228) = _ := hF 2 (det 228 _) (by decide) (.tail _ (.tail _ (.tail _ (.tail _ (.tail _ (.tail _ (.tail _ (.tail _ (.tail _ (.tail _ (.tail _ (.tail _ (.tail _ (.tail _ (.tail _ (.tail _ (.tail _ (.tail _ (.head _)))))))))))))))))))
          have e246 : ax.eval (.tmp 246) = _ := hF 20 (det 246 _) (by decide) (.head _)
          exact x_pick_t rfl e228 e246
        apply Build.stop
        refine ⟨by kernel_rfl, .inl ⟨rfl, ?_⟩⟩
        intro a31 w32 hE R hF
        have e247 : a31.eval (.tmp 247) = _ := hF 21 (det 247 _) (.head _)
        clear hF
        replace O := OwnT.ext O R
        replace RL := Row.below RL R
        replace RU := Row.below RU R
        clear R
        replace e4 := hE.eval 4 (by rfl) e4
        replace e15 := hE.eval 15 (by rfl) e15
        replace e16 := hE.eval 16 (by rfl) e16
        replace e17 := hE.eval 17 (by rfl) e17
        replace k := k.env hE
        clear hE
        refine then_n ?_
        refine cond_f e247 rfl ?_
        refine wp_skip ?_
        refine then_n ?_
        refine wp_seq ?_
        refine wp_seq ?_
        refine wp_typed (R := Ext) (w0 := w32) [[], [], [1], [0, 1, 2], [0, 1, 2, 3], [0, 1, 2, 3, 4], [0, 1, 2, 3, 4], [0, 1, 2, 3, 4, 5, 6], [0, 1, 2, 3, 4, 5, 6, 7], [0, 1, 2, 3, 4], [0, 1, 2, 3, 4, 9], [0, 1, 2, 3, 4, 9, 10], [0, 1, 2, 3, 4, 9, 10, 11], [0, 1, 2, 3, 4], [0, 1, 2, 3, 4, 9, 10, 11, 12, 13], [0, 1, 2, 3, 4, 9, 10, 11, 12, 13, 14], [0, 1, 2, 3, 4, 9, 10, 11, 12, 13, 14, 15], [0, 1, 2, 3, 4, 5, 6, 7, 8, 9, 10, 11, 12, 13, 14, 15, 16], [0, 1, 2, 3, 4, 5, 6, 7, 8, 9, 10, 11, 12, 13, 14, 15, 16, 17]] [248, 249, 250, 251, 252, 253, 254, 255, 256, 257, 258, 259, 260, 261, 262, 263, 264, 265, 266] Ext.refl (fun _ _ _ => Ext.trans) (Ext.drew _) (by kernel_rfl) ?_   -- region 47
        apply Build.det 248 Ext.refl (by rfl) (by rw [k.size]; rfl) rfl
        case h =>   -- 0: t248 := Op.move (tmp 16)
          intro ax wx hE hR hF
          exact x_move rfl (hE.eval 16 (by rfl) e16)
        apply Build.det 249 Ext.refl (by rfl) (by rw [k.size]; rfl) rfl
        case h =>   -- 1: t249 := Op.move (tmp 15)
          intro ax wx hE hR hF
          exact x_move rfl (hE.eval 15 (by rfl) e15)
        apply Build.det 250 Ext.refl (by rfl) (by rw [k.size]; rfl) rfl
        case h =>   -- 2: t250 := Op.call {callee := Callee.builtin Builtin.len, args := #[tmp 249], arg
          intro ax wx hE hR hF
          have e249 : ax.eval (.tmp 249) = _ := hF 1 (det 249 _) (by decide) (.head _)
          exact x_len Try.underlying49 rfl e249
        apply Build.det 251 Ext.refl (by rfl) (by rw [k.size]; rfl) rfl
        case h =>   -- 3: t251 := Op.binOp BinOp.geq 3 (tmp 248) (tmp 250) 3
          intro ax wx hE hR hF
          have e248 : ax.eval (.tmp 248) = _ := hF 0 (det 248 _) (by decide) (.tail _ (.tail _ (.head _)))
          have e250 : ax.eval (.tmp 250) = _ := hF 2 (det 250 _) (by decide) (.head _)
          exact x_dec (x_geq rfl e248 e250) (decide_eq_false (by omega))
        apply Build.det 252 Ext.refl (by rfl) (by rw [k.size]; rfl) rfl
        case h =>   -- 4: t252 := Op.move (tmp 251)
          intro ax wx hE hR hF
          have e251 : ax.eval (.tmp 251) = _ := hF 3 (det 251 _) (by decide) (.head _)
          exact x_move rfl e251
        apply Build.detg 253 Ext.refl (by rfl) (by rw [k.size]; rfl) rfl rfl
        case h =>   -- 5: t253 := Op.move (tmp 15)
          intro ax wx hE hR hF
          have e252 : ax.eval (.tmp 252) = _ := hF 4 (det 252 _) (by decide) (.head _)
          refine ⟨e252, ?_⟩
          exact x_move rfl (hE.eval 15 (by rfl) e15)
        apply Build.detg 254 Ext.refl (by rfl) (by rw [k.size]; rfl) rfl rfl
        case h =>   -- 6: t254 := Op.move (tmp 16)
          intro ax wx hE hR hF
          have e252 : ax.eval (.tmp 252) = _ := hF 4 (det 252 _) (by decide) (.tail _ (.head _))
          refine ⟨e252, ?_⟩
          exact x_move rfl (hE.eval 16 (by rfl) e16)
        apply Build.detg 255 Ext.refl (by rfl) (by rw [k.size]; rfl) rfl rfl
        case h =>   -- 7: t255 := Op.indexAddr 49 (tmp 253) (tmp 254)
          intro ax wx hE hR hF
          have e253 : ax.eval (.tmp 253) = _ := hF 5 (det 253 _) (by decide) (.tail _ (.head _))
          have e254 : ax.eval (.tmp 254) = _ := hF 6 (det 254 _) (by decide) (.head _)
          have e252 : ax.eval (.tmp 252) = _ := hF 4 (det 252 _) (by decide) (.tail _ (.tail _ (.head _)))
          refine ⟨e252, ?_⟩
          simp [go_sem, BigFrame.eval_const, BigFrame.eval_global, BigFrame.eval_func, ↓IntWalk.iteOmega, ev e253, ev e254]
          with_reducible rfl
        apply Build.detg 256 Ext.refl (by rfl) (by rw [k.size]; rfl) rfl rfl
        case h =>   -- 8: t256 := Op.load 3 (tmp 255)
          intro ax wx hE hR hF
          have e255 : ax.eval (.tmp 255) = _ := hF 7 (det 255 _) (by decide) (.head _)
          have e252 : ax.eval (.tmp 252) = _ := hF 4 (det 252 _) (by decide) (.tail _ (.tail _ (.tail _ (.head _))))
          refine ⟨e252, ?_⟩
          have c0 := row_i RL hR hl
          simp [go_sem, BigFrame.eval_const, BigFrame.eval_global, BigFrame.eval_func, ↓IntWalk.iteOmega, ev e255, c0]
          with_reducible rfl
        apply Build.detg 257 Ext.refl (by rfl) (by rw [k.size]; rfl) rfl rfl
        case h =>   -- 9: t257 := Op.move (tmp 4)
          intro ax wx hE hR hF
          have e252 : ax.eval (.tmp 252) = _ := hF 4 (det 252 _) (by decide) (.tail _ (.tail _ (.tail _ (.tail _ (.head _)))))
          refine ⟨e252, ?_⟩
          exact x_move rfl (hE.eval 4 (by rfl) e4)
        apply Build.detg 258 Ext.refl (by rfl) (by rw [k.size]; rfl) rfl rfl
        case h =>   -- 10: t258 := Op.nilCheck (tmp 257)
          intro ax wx hE hR hF
          have e257 : ax.eval (.tmp 257) = _ := hF 9 (det 257 _) (by decide) (.head _)
          have e252 : ax.eval (.tmp 252) = _ := hF 4 (det 252 _) (by decide) (.tail _ (.tail _ (.tail _ (.tail _ (.tail _ (.head _))))))
          refine ⟨e252, ?_⟩
          exact x_nil rfl e257
        apply Build.detg 259 Ext.refl (by rfl) (by rw [k.size]; rfl) rfl rfl
        case h =>   -- 11: t259 := Op.fieldAddr 29 (tmp 258) 0
          intro ax wx hE hR hF
          have e258 : ax.eval (.tmp 258) = _ := hF 10 (det 258 _) (by decide) (.head _)
          have e252 : ax.eval (.tmp 252) = _ := hF 4 (det 252 _) (by decide) (.tail _ (.tail _ (.tail _ (.tail _ (.tail _ (.tail _ (.head _)))))))
          refine ⟨e252, ?_⟩
          simp [go_sem, BigFrame.eval_const, BigFrame.eval_global, BigFrame.eval_func, ↓IntWalk.iteOmega, ev e258]
          with_reducible rfl
        apply Build.detg 260 Ext.refl (by rfl) (by rw [k.size]; rfl) rfl rfl
        case h =>   -- 12: t260 := Op.load 27 (tmp 259)
          intro ax wx hE hR hF
          have e259 : ax.eval (.tmp 259) = _ := hF 11 (det 259 _) (by decide) (.head _)
          have e252 : ax.eval (.tmp 252) = _ := hF 4 (det 252 _) (by decide) (.tail _ (.tail _ (.tail _ (.tail _ (.tail _ (.tail _ (.tail _ (.head _))))))))
          refine ⟨e252, ?_⟩
          have q0 : wx.cell? ⟨ub, 0, none⟩ = some (.slice (some ⟨b1, o1, none⟩) U.length cap1) := (OwnT.blk (OwnT.ext O hR) 2 rfl).cell 0
          simp [go_sem, BigFrame.eval_const, BigFrame.eval_global, BigFrame.eval_func, ↓IntWalk.iteOmega, ev e259, q0]
          with_reducible rfl
        apply Build.detg 261 Ext.refl (by rfl) (by rw [k.size]; rfl) rfl rfl
        case h =>   -- 13: t261 := Op.move (tmp 17)
          intro ax wx hE hR hF
          have e252 : ax.eval (.tmp 252) = _ := hF 4 (det 252 _) (by decide) (.tail _ (.tail _ (.tail _ (.tail _ (.tail _ (.tail _ (.tail _ (.tail _ (.head _)))))))))
          refine ⟨e252, ?_⟩
          exact x_move rfl (hE.eval 17 (by rfl) e17)
        apply Build.detg 262 Ext.refl (by rfl) (by rw [k.size]; rfl) rfl rfl
        case h =>   -- 14: t262 := Op.indexAddr 27 (tmp 260) (tmp 261)
          intro ax wx hE hR hF
          have e260 : ax.eval (.tmp 260) = _ := hF 12 (det 260 _) (by decide) (.tail _ (.head _))
          have e261 : ax.eval (.tmp 261) = _ := hF 13 (det 261 _) (by decide) (.head _)
          have e252 : ax.eval (.tmp 252) = _ := hF 4 (det 252 _) (by decide) (.tail _ (.tail _ (.tail _ (.tail _ (.tail _ (.tail _ (.tail _ (.tail _ (.tail _ (.head _))))))))))
          refine ⟨e252, ?_⟩
          simp [go_sem, BigFrame.eval_const, BigFrame.eval_global, BigFrame.eval_func, ↓IntWalk.iteOmega, ev e260, ev e261]
          with_reducible rfl
        apply Build.detg 263 Ext.refl (by rfl) (by rw [k.size]; rfl) rfl rfl
        case h =>   -- 15: t263 := Op.fieldAddr 35 (tmp 262) 0
          intro ax wx hE hR hF
          have e262 : ax.eval (.tmp 262) = _ := hF 14 (det 262 _) (by decide) (.head _)
          have e252 : ax.eval (.tmp 252) = _ := hF 4 (det 252 _) (by decide) (.tail _ (.tail _ (.tail _ (.tail _ (.tail _ (.tail _ (.tail _ (.tail _ (.tail _ (.tail _ (.head _)))))))))))
          refine ⟨e252, ?_⟩
          simp [go_sem, BigFrame.eval_const, BigFrame.eval_global, BigFrame.eval_func, ↓IntWalk.iteOmega, ev e262]
          with_reducible rfl
        apply Build.detg 264 Ext.refl (by rfl) (by rw [k.size]; rfl) rfl rfl
        case h =>   -- 16: t264 := Op.load 3 (tmp 263)
          intro ax wx hE hR hF
          have e263 : ax.eval (.tmp 263) = _ := hF 15 (det 263 _) (by decide) (.head _)
          have e252 : ax.eval (.tmp 252) = _ := hF 4 (det 252 _) (by decide) (.tail _ (.tail _ (.tail _ (.tail _ (.tail _ (.tail _ (.tail _ (.tail _ (.tail _ (.tail _ (.tail _ (.head _))))))))))))
          refine ⟨e252, ?_⟩
          have c0 := row_q RU hR hx
          simp [go_sem, BigFrame.eval_const, BigFrame.eval_global, BigFrame.eval_func, ↓IntWalk.iteOmega, ev e263, c0]
          with_reducible rfl
        apply Build.detg 265 Ext.refl (by rfl) (by rw [k.size]; rfl) rfl rfl
        case h =>   -- 17: t265 := Op.binOp BinOp.neq 3 (tmp 256) (tmp 264) 3
          intro ax wx hE hR hF
          have e256 : ax.eval (.tmp 256) = _ := hF 8 (det 256 _) (by decide) (.tail _ (.tail _ (.tail _ (.tail _ (.tail _ (.tail _ (.tail _ (.tail _ (.head _)))))))))
          have e264 : ax.eval (.tmp 264) = _ := hF 16 (det 264 _) (by decide) (.head _)
          have e252 : ax.eval (.tmp 252) = _ := hF 4 (det 252 _) (by decide) (.tail _ (.tail _ (.tail _ (.tail _ (.tail _ (.tail _ (.tail _ (.tail _ (.tail _ (.tail _ (.tail _ (.tail _ (.head _)))))))))))))
          refine ⟨e252, ?_⟩
          exact x_dec (x_neq rfl e256 e264) (decide_eq_false (fun h => h rfl))
        apply Build.det 266 Ext.refl (by rfl) (by rw [k.size]; rfl) rfl
        case h =>   -- 18: t266 := Op.pick (tmp 252) (const (Value.bool true)) (tmp 265)
          intro ax wx hE hR hF
          have e252 : ax.eval (.tmp 252) = _ := hF 4 (det 252 _) (by decide) (.tail _ (.tail _ (.tail _ (.tail _ (.tail _ (.tail _ (.tail _ (.tail _ (.tail _ (.tail _ (.tail _ (.tail _ (.tail _ (.head _))))))))))))))
          have e265 : ax.eval (.tmp 265) = _ := hF 17 (det 265 _) (by decide) (.head _)
          exact x_pick_f rfl e252 e265
        apply Build.stop
        refine ⟨by kernel_rfl, .inl ⟨rfl, ?_⟩⟩
        intro a33 w34 hE R hF
        have e266 : a33.eval (.tmp 266) = _ := hF 18 (det 266 _) (.head _)
        clear hF
        replace O := OwnT.ext O R
        replace RL := Row.below RL R
        replace RU := Row.below RU R
        clear R
        replace e4 := hE.eval 4 (by rfl) e4
        replace e15 := hE.eval 15 (by rfl) e15
        replace e16 := hE.eval 16 (by rfl) e16
        replace e17 := hE.eval 17 (by rfl) e17
        replace k := k.env hE
        clear hE e247
        refine then_n ?_
        refine cond_f e266 rfl ?_
        refine wp_skip ?_
        refine then_n ?_
        refine wp_region_lit ?_   -- region 49
        have hE := Env.refl a33 [267, 268, 16]
        apply sq_det 267 hE k rfl (by rfl) (by rfl) rfl
        case h =>   -- 0: t267 := Op.move (tmp 16)
          exact x_move rfl e16
        intro a35 hE e267 kp
        replace e16 := (kp 16 rfl).trans e16
        apply sq_det 268 hE k rfl (by rfl) (by rfl) rfl
        case h =>   -- 1: t268 := Op.binOp BinOp.add 3 (tmp 267) (const (Value.int IntKind.i64 1)) 3
          exact x_add rfl e267 rfl (by omega)
        intro a36 hE e268 kp
        replace e16 := (kp 16 rfl).trans e16
        apply sq_det 16 hE k rfl (by rfl) (by rfl) rfl
        case h =>   -- 2: t16 := Op.assign (tmp 268)
          exact x_assign rfl e268
        intro a37 hE e16 kp
        refine wpList_nil ?_
        replace e4 := hE.eval 4 (by rfl) e4
        replace e15 := hE.eval 15 (by rfl) e15
        replace e17 := hE.eval 17 (by rfl) e17
        replace k := k.env hE
        clear hE e266
        refine block_n ?_
        refine then_n ?_
        refine wp_region_lit ?_   -- region 45
        have hE := Env.refl a37 [224, 225, 17]
        apply sq_det 224 hE k rfl (by rfl) (by rfl) rfl
        case h =>   -- 0: t224 := Op.move (tmp 17)
          exact x_move rfl e17
        intro a38 hE e224 kp
        replace e17 := (kp 17 rfl).trans e17
        apply sq_det 225 hE k rfl (by rfl) (by rfl) rfl
        case h =>   -- 1: t225 := Op.binOp BinOp.add 3 (tmp 224) (const (Value.int IntKind.i64 1)) 3
          exact x_add rfl e224 rfl (by omega)
        intro a39 hE e225 kp
        replace e17 := (kp 17 rfl).trans e17
        apply sq_det 17 hE k rfl (by rfl) (by rfl) rfl
        case h =>   -- 2: t17 := Op.assign (tmp 225)
          exact x_assign rfl e225
        intro a40 hE e17 kp
        refine wpList_nil ?_
        replace e4 := hE.eval 4 (by rfl) e4
        replace e15 := hE.eval 15 (by rfl) e15
        replace e16 := hE.eval 16 (by rfl) e16
        replace k := k.env hE
        clear hE
        refine then_n ?_
        replace e16 := e16.trans (int_eq (show (cntH U (j + 1) : Int) + 1 = (cntH U (j + 1 + 1) : Nat) by rw [hc1]; rfl))
        refine ⟨⟨k, e4, e15, j + 1 + 1, e16, e17, by omega, O, RL, RU⟩, ?_⟩
        rw [e17, m17]; simp [intOf]; omega
  · have hltI : ¬ (i : Int) < (U.length : Int) := by omega
    refine cond_f e223 (congrArg Value.bool (decide_eq_false (by omega))) ?_
    clear e4 e17 e223
    obtain rfl : i = U.length := by omega
    refine wp_exit ?_
    refine then_x ?_
    refine then_x ?_
    refine block_x ?_
    refine then_n ?_
    refine wp_seq ?_
    refine wp_region_lit ?_   -- region 50
    have hE := Env.refl a15 [269, 270, 271, 272, 2]
    apply sq_det 269 hE k rfl (by rfl) (by rfl) rfl
    case h =>   -- 0: t269 := Op.move (tmp 16)
      exact x_move rfl (hE.eval 16 (by rfl) e16)
    intro a41 hE e269 kp
    apply sq_det 270 hE k rfl (by rfl) (by rfl) rfl
    case h =>   -- 1: t270 := Op.move (tmp 15)
      exact x_move rfl (hE.eval 15 (by rfl) e15)
    intro a42 hE e270 kp
    replace e269 := (kp 269 rfl).trans e269
    apply sq_det 271 hE k rfl (by rfl) (by rfl) rfl
    case h =>   -- 2: t271 := Op.call {callee := Callee.builtin Builtin.len, args := #[tmp 270], arg
      exact x_len Try.underlying49 rfl e270
    intro a43 hE e271 kp
    replace e269 := (kp 269 rfl).trans e269
    apply sq_det 272 hE k rfl (by rfl) (by rfl) rfl
    case h =>   -- 3: t272 := Op.binOp BinOp.eql 3 (tmp 269) (tmp 271) 3
      exact x_dec (x_eql rfl e269 e271) (decide_eq_true (by rw [cntH_all, hHU]))
    intro a44 hE e272 kp
    apply sq_det 2 hE k rfl (by rfl) (by rfl) rfl
    case h =>   -- 4: t2 := Op.assign (tmp 272)
      exact x_assign rfl e272
    intro a45 hE e2 kp
    refine wpList_nil ?_
    replace k := k.env hE
    clear hE e15 e16
    refine then_n ?_
    refine wp_ret ?_
    exact hQ _ _ k e2 O.below
theorem ownE_deed {H : Nat} {A0 : World} {pb ub xb qb : Nat} {F : List Nat} {v1 v2 : Value} {U V : List QD} {K c y1 y2 y3 : Int} {m : Nat} {A : Option Addr} {len cap i : Nat} {Q : Exit → Act → World → Prop} (a : Act) (w : World) (k : Fr 273 a)
    (e0 : a.eval (.tmp 0) = .slice A len cap) (e3 : a.eval (.tmp 3) = .pointer (some ⟨pb, 0, none⟩)) (e4 : a.eval (.tmp 4) = .pointer (some ⟨ub, 0, none⟩)) (e5 : a.eval (.tmp 5) = .int .i64 ↑i) (e6 : a.eval (.tmp 6) = .pointer (some ⟨xb, 0, none⟩)) (e7 : a.eval (.tmp 7) = .pointer (some ⟨qb, 0, none⟩)) (e43 : a.eval (.tmp 43) = .int .i64 K)
    (O : OwnT H A0 [tOB pb F (ofQ U) (ofQ V), tBlk ub 29 #[v1, v2], tRow 35 4 (v1) U.length (U.flatMap qC), tRow 35 4 (v2) V.length (V.flatMap qC), tBlk xb 33 #[.int .i64 K, .int .i64 c, .int .i64 y1, .int .i64 y2, .int .i64 y3], tBlk qb 35 #[.int .i64 c, .int .i64 y1, .int .i64 y2, .int .i64 y3]] w) (hG : ExG U V m) (hm : m ≤ 1000) (hwf : wfV c)
    (hQ : ∀ a w F' u1 u2 U' V', Fr 273 a → a.eval (.tmp 0) = .slice A len cap → a.eval (.tmp 3) = .pointer (some ⟨pb, 0, none⟩) → a.eval (.tmp 4) = .pointer (some ⟨ub, 0, none⟩) → a.eval (.tmp 5) = .int .i64 ↑i → a.eval (.tmp 6) = .pointer (some ⟨xb, 0, none⟩) → OwnT H A0 [tOB pb F' (ofQ U') (ofQ V'), tBlk ub 29 #[u1, u2], tRow 35 4 (u1) U'.length (U'.flatMap qC), tRow 35 4 (u2) V'.length (V'.flatMap qC), tBlk xb 33 #[.int .i64 K, .int .i64 c, .int .i64 y1, .int .i64 y2, .int .i64 y3]] w → ExG U' V' (m + 1) → Q .normal a w) :
    Code.wp Try.prog (codeAt [1, 1, 1, 1, 0, 1, 0, 0, 1, 0, 0, 1, 1, 0, 1] (Try.f3.body.getD .skip)) Q a w := by
  by_cases h1 : K = 1
  · subst h1; exact ownE_deed1 a w k e0 e3 e4 e5 e6 e7 e43 O hG hm hwf hQ
  · by_cases h2 : K = 2
    · subst h2; exact ownE_deed2 a w k e0 e3 e4 e5 e6 e7 e43 O hG hm hwf hQ
    · by_cases h3 : K = 3
      · subst h3; exact ownE_deed3 a w k e0 e3 e4 e5 e6 e7 e43 O hG hm hwf hQ
      · exact ownE_deed4 a w k e0 e3 e4 e5 e6 e7 e43 O hG hm hwf h1 h2 h3 hQ
  
set_option maxRecDepth 100000 in
set_option maxHeartbeats 4000000 in
theorem ownersExact_core (A : Option Addr) (len cap : Nat) (xs : List DeedD) (W0 : World) (hlen : xs.length = len) (hrow : Row W0 A 5 deedC xs) (hw : ∀ x ∈ xs, wfD x) (hm : len ≤ maxLen) :
    Calls Try.prog 3 #[.slice A len cap] W0 fun e w' => e = .returned (.bool true) ∧ Below W0.heap.size W0 w' := by
  unfold maxLen at hm
  have O := OwnT.start W0
  refine calls_F Try.func3 rfl 273 rfl (by rfl) ?_
  intro a1 k hargs
  have e0 : a1.eval (.tmp 0) = .slice A len cap := hargs 0 _ rfl
  clear hargs
  refine wp_seq ?_
  refine wp_region_lit ?_   -- region 0
  have hE := Env.refl a1 [2]
  apply sq_det 2 hE k rfl (by rfl) (by rfl) rfl
  case h =>   -- 0: t2 := Op.assign (const (Value.bool false))
    exact x_assign rfl rfl
  intro a2 hE e2 kp
  refine wpList_nil ?_
  replace e0 := hE.eval 0 (by rfl) e0
  replace k := k.env hE
  clear hE e2
  refine then_n ?_
  refine wp_seq ?_
  refine wp_seq ?_
  refine wp_region_lit ?_   -- region 1
  have hE := Env.refl a2 [18, 19]
  apply sq_call 18 hE k rfl (by rfl) (by rfl) rfl
  case h =>   -- tierce/tiercelaw13.awake
    simp [go_sem, BigFrame.eval_const, BigFrame.eval_global, BigFrame.eval_func, ↓IntWalk.iteOmega]
    with_reducible exact ⟨rfl, rfl⟩
  case hc => exact awake13 _
  rintro e w4 ⟨rfl, R⟩
  replace O := OwnT.ext O R
  refine ⟨_, rfl, ?_⟩
  intro a3 hE e18 kp
  apply sq_det 19 hE k rfl (by rfl) (by rfl) rfl
  case h =>   -- 1: t19 := Op.unOp UnOp.not 4 (tmp 18)
    exact x_not rfl e18
  intro a5 hE e19 kp
  refine wpList_nil ?_
  replace e0 := hE.eval 0 (by rfl) e0
  replace k := k.env hE
  clear hE
  refine then_n ?_
  refine cond_f e19 rfl ?_
  refine wp_skip ?_
  refine then_n ?_
  refine wp_seq ?_
  refine wp_region_lit ?_   -- region 3
  have hE := Env.refl a5 [20, 3]
  apply sq_call 20 hE k rfl (by rfl) (by rfl) rfl
  case h =>   -- tierce/owners.New
    simp [go_sem, BigFrame.eval_const, BigFrame.eval_global, BigFrame.eval_func, ↓IntWalk.iteOmega]
    with_reducible exact ⟨rfl, rfl⟩
  case hc => exact newO_any O
  clear O
  rintro e w7 ⟨pb, F, rfl, O, -⟩
  refine ⟨_, rfl, ?_⟩
  intro a6 hE e20 kp
  apply sq_det 3 hE k rfl (by rfl) (by rfl) rfl
  case h =>   -- 1: t3 := Op.assign (tmp 20)
    exact x_assign rfl e20
  intro a8 hE e3 kp
  refine wpList_nil ?_
  replace e0 := hE.eval 0 (by rfl) e0
  replace k := k.env hE
  clear hE e19
  refine then_n ?_
  refine wp_seq ?_
  refine wp_region_lit ?_   -- region 4
  have hE := Env.refl a8 [21, 22, 4]
  apply sq_det 21 hE k rfl (by rfl) (by rfl) rfl
  case h =>   -- 0: t21 := Op.build 29 #[]
    simp [go_sem, BigFrame.eval_const, BigFrame.eval_global, BigFrame.eval_func, ↓IntWalk.iteOmega]
    with_reducible rfl
  intro a9 hE e21 kp
  refine sq_new O (cs := #[.slice none 0 0, .slice none 0 0]) (t := 29) 22 hE k rfl (by rfl) (by rfl) rfl (by simp [go_sem, BigFrame.eval_const, BigFrame.eval_global, BigFrame.eval_func, ↓IntWalk.iteOmega, ev e21]) ?_
  clear O
  intro ub a10 w11 O hE e22 kp
  apply sq_det 4 hE k rfl (by rfl) (by rfl) rfl
  case h =>   -- 2: t4 := Op.assign (tmp 22)
    exact x_assign rfl e22
  intro a12 hE e4 kp
  refine wpList_nil ?_
  replace e0 := hE.eval 0 (by rfl) e0
  replace e3 := hE.eval 3 (by rfl) e3
  replace k := k.env hE
  clear hE
  refine then_n ?_
  replace O := (OwnT.nilRow (OwnT.nilRow O 35 4) 35 4)
  
  replace O : OwnT _ _ ([tOB pb F (fun _ => []) (fun _ => []), tBlk ub 29 #[.slice none 0 0, .slice none 0 0], tRow 35 4 (.slice none 0 0) 0 [], tRow 35 4 (.slice none 0 0) 0 []]) w11 := OwnT.pick O [3, 2, 0, 1] (by decide)
  refine wp_seq ?_
  refine wp_seq ?_
  refine wp_region_lit ?_   -- region 5
  have hE := Env.refl a12 [5]
  apply sq_det 5 hE k rfl (by rfl) (by rfl) rfl
  case h =>   -- 0: t5 := Op.assign (const (Value.int IntKind.i64 0))
    exact x_assign rfl rfl
  intro a13 hE e5 kp
  refine wpList_nil ?_
  replace e0 := hE.eval 0 (by rfl) e0
  replace e3 := hE.eval 3 (by rfl) e3
  replace e4 := hE.eval 4 (by rfl) e4
  replace k := k.env hE
  clear hE
  refine then_n ?_
  refine wp_block ?_
  refine wp_loop (fun a w => Fr 273 a ∧ a.eval (.tmp 0) = .slice A len cap ∧ a.eval (.tmp 3) = .pointer (some ⟨pb, 0, none⟩) ∧ a.eval (.tmp 4) = .pointer (some ⟨ub, 0, none⟩) ∧ ∃ (i : Nat) (F : List Nat) (v1 v2 : Value) (U V : List QD), a.eval (.tmp 5) = .int .i64 ↑i ∧ i ≤ len ∧ i ≤ 80 ∧ OwnT W0.heap.size W0 [tOB pb F (ofQ U) (ofQ V), tBlk ub 29 #[v1, v2], tRow 35 4 (v1) U.length (U.flatMap qC), tRow 35 4 (v2) V.length (V.flatMap qC)] w ∧ ExG U V i) (fun a w => len - (intOf (a.eval (.tmp 5))).toNat) ?_ ?_
  · exact ⟨k, e0, e3, e4, 0, F, _, _, [], [], e5, Nat.zero_le _, Nat.zero_le _, O, ⟨List.Pairwise.nil, List.Pairwise.nil, (fun x hx => by cases hx), Nat.le_refl _, Nat.le_refl _⟩⟩
  intro a14 w15 hI
  clear k e0 e3 e4
  obtain ⟨k, e0, e3, e4, h_⟩ := hI
  clear O e5 F
  obtain ⟨i, F, v1, v2, U, V, e5, hi, hi80, O, hG⟩ := h_
  have m5 := e5
  
  by_cases hlt : i < len
  · by_cases h80 : i < 80
    · obtain ⟨b, off, rfl, -, hc⟩ := hrow.in_ O.below (i := i) (by omega)
      have hwf := hw (xs[i]'(by omega)) (List.getElem_mem _)
      generalize xs[i]'(by omega) = x at hc hwf
      obtain ⟨K, c, y1, y2, y3⟩ := x
      have c0 := hc 0 _ rfl
      have c1 := hc 1 _ rfl
      have c2 := hc 2 _ rfl
      have c3 := hc 3 _ rfl
      have c4 := hc 4 _ rfl
      rw [Nat.add_zero] at c0
      have hiI : (i : Int) < (len : Int) := by omega
      
      refine wp_seq ?_
      refine wp_seq ?_
      refine wp_region_lit ?_   -- region 6
      have hE := Env.refl a14 [23, 24, 25, 26, 27, 28, 29, 30]
      apply sq_det 23 hE k rfl (by rfl) (by rfl) rfl
      case h =>   -- 0: t23 := Op.move (tmp 5)
        exact x_move rfl (hE.eval 5 (by rfl) e5)
      intro a16 hE e23 kp
      apply sq_det 24 hE k rfl (by rfl) (by rfl) rfl
      case h =>   -- 1: t24 := Op.move (tmp 0)
        exact x_move rfl (hE.eval 0 (by rfl) e0)
      intro a17 hE e24 kp
      replace e23 := (kp 23 rfl).trans e23
      apply sq_det 25 hE k rfl (by rfl) (by rfl) rfl
      case h =>   -- 2: t25 := Op.call {callee := Callee.builtin Builtin.len, args := #[tmp 24], argT
        exact x_len Try.underlying22 rfl e24
      intro a18 hE e25 kp
      replace e23 := (kp 23 rfl).trans e23
      apply sq_det 26 hE k rfl (by rfl) (by rfl) rfl
      case h =>   -- 3: t26 := Op.binOp BinOp.lss 3 (tmp 23) (tmp 25) 3
        exact x_dec (x_lss rfl e23 e25) (decide_eq_true (by omega))
      intro a19 hE e26 kp
      apply sq_det 27 hE k rfl (by rfl) (by rfl) rfl
      case h =>   -- 4: t27 := Op.move (tmp 26)
        exact x_move rfl e26
      intro a20 hE e27 kp
      apply sq_detg 28 hE k rfl (by rfl) (by rfl) rfl rfl e27
      case h =>   -- 5: t28 := Op.move (tmp 5)
        exact x_move rfl (hE.eval 5 (by rfl) e5)
      intro a21 hE e28 kp
      replace e27 := (kp 27 rfl).trans e27
      apply sq_detg 29 hE k rfl (by rfl) (by rfl) rfl rfl e27
      case h =>   -- 6: t29 := Op.binOp BinOp.lss 3 (tmp 28) (const (Value.int IntKind.i64 80)) 3
        exact x_dec (x_lss rfl e28 rfl) (decide_eq_true (by omega))
      intro a22 hE e29 kp
      replace e27 := (kp 27 rfl).trans e27
      apply sq_det 30 hE k rfl (by rfl) (by rfl) rfl
      case h =>   -- 7: t30 := Op.pick (tmp 27) (tmp 29) (const (Value.bool false))
        exact x_pick_t rfl e27 e29
      intro a23 hE e30 kp
      refine wpList_nil ?_
      replace e0 := hE.eval 0 (by rfl) e0
      replace e3 := hE.eval 3 (by rfl) e3
      replace e4 := hE.eval 4 (by rfl) e4
      replace e5 := hE.eval 5 (by rfl) e5
      replace k := k.env hE
      clear hE
      refine then_n ?_
      refine cond_t e30 rfl ?_
      refine wp_skip ?_
      refine then_n ?_
      refine wp_seq ?_
      refine wp_block ?_
      refine wp_seq ?_
      refine wp_region_lit ?_   -- region 8
      have hE := Env.refl a23 [33, 34, 35, 36, 6]
      apply sq_det 33 hE k rfl (by rfl) (by rfl) rfl
      case h =>   -- 0: t33 := Op.move (tmp 0)
        exact x_move rfl (hE.eval 0 (by rfl) e0)
      intro a24 hE e33 kp
      apply sq_det 34 hE k rfl (by rfl) (by rfl) rfl
      case h =>   -- 1: t34 := Op.move (tmp 5)
        exact x_move rfl (hE.eval 5 (by rfl) e5)
      intro a25 hE e34 kp
      replace e33 := (kp 33 rfl).trans e33
      apply sq_det 35 hE k rfl (by rfl) (by rfl) rfl
      case h =>   -- 2: t35 := Op.indexAddr 22 (tmp 33) (tmp 34)
        simp [go_sem, BigFrame.eval_const, BigFrame.eval_global, BigFrame.eval_func, ↓IntWalk.iteOmega, ev e33, ev e34]
        with_reducible rfl
      intro a26 hE e35 kp
      apply sq_det 36 hE k rfl (by rfl) (by rfl) rfl
      case h =>   -- 3: t36 := Op.load 33 (tmp 35)
        simp [go_sem, BigFrame.eval_const, BigFrame.eval_global, BigFrame.eval_func, ↓IntWalk.iteOmega, ev e35, c0, c1, c2, c3, c4]
        with_reducible rfl
      intro a27 hE e36 kp
      refine sq_new O (cs := #[.int .i64 0, .int .i64 0, .int .i64 0, .int .i64 0, .int .i64 0]) (t := 33) 6 hE k rfl (by rfl) (by rfl) rfl (by simp [go_sem, BigFrame.eval_const, BigFrame.eval_global, BigFrame.eval_func, ↓IntWalk.iteOmega]) ?_
      clear O
      intro xb a28 w29 O hE e6 kp
      replace e36 := (kp 36 rfl).trans e36
      have q0 : w29.cell? ⟨xb, 0, none⟩ = some (.int .i64 0) := (OwnT.blk O 0 rfl).cell 0
      have z0 : w29.frozen? ⟨xb, 0, none⟩ = false := (OwnT.blk O 0 rfl).frozen 0
      have q1 : w29.cell? ⟨xb, 1, none⟩ = some (.int .i64 0) := (OwnT.blk O 0 rfl).cell 1
      have z1 : w29.frozen? ⟨xb, 1, none⟩ = false := (OwnT.blk O 0 rfl).frozen 1
      have q2 : w29.cell? ⟨xb, 2, none⟩ = some (.int .i64 0) := (OwnT.blk O 0 rfl).cell 2
      have z2 : w29.frozen? ⟨xb, 2, none⟩ = false := (OwnT.blk O 0 rfl).frozen 2
      have q3 : w29.cell? ⟨xb, 3, none⟩ = some (.int .i64 0) := (OwnT.blk O 0 rfl).cell 3
      have z3 : w29.frozen? ⟨xb, 3, none⟩ = false := (OwnT.blk O 0 rfl).frozen 3
      have q4 : w29.cell? ⟨xb, 4, none⟩ = some (.int .i64 0) := (OwnT.blk O 0 rfl).cell 4
      have z4 : w29.frozen? ⟨xb, 4, none⟩ = false := (OwnT.blk O 0 rfl).frozen 4
      refine sq_unit (w' := (((((w29.setCell ⟨xb, 0, none⟩ (.int .i64 K)).setCell ⟨xb, 1, none⟩ (.int .i64 c)).setCell ⟨xb, 2, none⟩ (.int .i64 y1)).setCell ⟨xb, 3, none⟩ (.int .i64 y2)).setCell ⟨xb, 4, none⟩ (.int .i64 y3))) hE rfl rfl (by simp [go_sem, BigFrame.eval_const, BigFrame.eval_global, BigFrame.eval_func, ↓IntWalk.iteOmega, ev e6, ev e36, q0, z0, q1, z1, q2, z2, q3, z3, q4, z4]) ?_
      replace O := OwnT.push 0 rfl ((((((OwnT.pull O 0 rfl).set 0 (.int .i64 K)).set 1 (.int .i64 c)).set 2 (.int .i64 y1)).set 3 (.int .i64 y2)).set 4 (.int .i64 y3))
      clear q0 z0 q1 z1 q2 z2 q3 z3 q4 z4
      generalize (((((w29.setCell ⟨xb, 0, none⟩ (.int .i64 K)).setCell ⟨xb, 1, none⟩ (.int .i64 c)).setCell ⟨xb, 2, none⟩ (.int .i64 y1)).setCell ⟨xb, 3, none⟩ (.int .i64 y2)).setCell ⟨xb, 4, none⟩ (.int .i64 y3)) = w30 at O ⊢
      replace O : OwnT _ _ ([tBlk xb 33 #[.int .i64 K, .int .i64 c, .int .i64 y1, .int .i64 y2, .int .i64 y3], tOB pb F (ofQ U) (ofQ V), tBlk ub 29 #[v1, v2], tRow 35 4 (v1) U.length (U.flatMap qC), tRow 35 4 (v2) V.length (V.flatMap qC)]) w30 := O
      refine wpList_nil ?_
      replace e0 := hE.eval 0 (by rfl) e0
      replace e3 := hE.eval 3 (by rfl) e3
      replace e4 := hE.eval 4 (by rfl) e4
      replace e5 := hE.eval 5 (by rfl) e5
      replace k := k.env hE
      clear hE e30 e36
      refine then_n ?_
      refine wp_seq ?_
      refine wp_region_lit ?_   -- region 9
      have hE := Env.refl a28 [37, 38, 39, 40, 41, 7]
      apply sq_det 37 hE k rfl (by rfl) (by rfl) rfl
      case h =>   -- 0: t37 := Op.fieldAddr 33 (tmp 6) 1
        simp [go_sem, BigFrame.eval_const, BigFrame.eval_global, BigFrame.eval_func, ↓IntWalk.iteOmega, ev (hE.eval 6 (by rfl) e6)]
        with_reducible rfl
      intro a31 hE e37 kp
      apply sq_det 38 hE k rfl (by rfl) (by rfl) rfl
      case h =>   -- 1: t38 := Op.load 3 (tmp 37)
        have q0 : w30.cell? ⟨xb, 1, none⟩ = some (.int .i64 c) := (OwnT.blk O 0 rfl).cell 1
        simp [go_sem, BigFrame.eval_const, BigFrame.eval_global, BigFrame.eval_func, ↓IntWalk.iteOmega, ev e37, q0]
        with_reducible rfl
      intro a32 hE e38 kp
      apply sq_det 39 hE k rfl (by rfl) (by rfl) rfl
      case h =>   -- 2: t39 := Op.fieldAddr 33 (tmp 6) 2
        simp [go_sem, BigFrame.eval_const, BigFrame.eval_global, BigFrame.eval_func, ↓IntWalk.iteOmega, ev (hE.eval 6 (by rfl) e6)]
        with_reducible rfl
      intro a33 hE e39 kp
      replace e38 := (kp 38 rfl).trans e38
      apply sq_det 40 hE k rfl (by rfl) (by rfl) rfl
      case h =>   -- 3: t40 := Op.load 31 (tmp 39)
        have q0 : w30.cell? ⟨xb, 2, none⟩ = some (.int .i64 y1) := (OwnT.blk O 0 rfl).cell 2
        have q1 : w30.cell? ⟨xb, 3, none⟩ = some (.int .i64 y2) := (OwnT.blk O 0 rfl).cell 3
        have q2 : w30.cell? ⟨xb, 4, none⟩ = some (.int .i64 y3) := (OwnT.blk O 0 rfl).cell 4
        simp [go_sem, BigFrame.eval_const, BigFrame.eval_global, BigFrame.eval_func, ↓IntWalk.iteOmega, ev e39, q0, q1, q2]
        with_reducible rfl
      intro a34 hE e40 kp
      replace e38 := (kp 38 rfl).trans e38
      apply sq_det 41 hE k rfl (by rfl) (by rfl) rfl
      case h =>   -- 4: t41 := Op.build 35 #[(0, tmp 38), (1, tmp 40)]
        simp [go_sem, BigFrame.eval_const, BigFrame.eval_global, BigFrame.eval_func, ↓IntWalk.iteOmega, ev e38, ev e40]
        with_reducible rfl
      intro a35 hE e41 kp
      refine sq_new O (cs := #[.int .i64 0, .int .i64 0, .int .i64 0, .int .i64 0]) (t := 35) 7 hE k rfl (by rfl) (by rfl) rfl (by simp [go_sem, BigFrame.eval_const, BigFrame.eval_global, BigFrame.eval_func, ↓IntWalk.iteOmega]) ?_
      clear O
      intro qb a36 w37 O hE e7 kp
      replace e41 := (kp 41 rfl).trans e41
      have q0 : w37.cell? ⟨qb, 0, none⟩ = some (.int .i64 0) := (OwnT.blk O 0 rfl).cell 0
      have z0 : w37.frozen? ⟨qb, 0, none⟩ = false := (OwnT.blk O 0 rfl).frozen 0
      have q1 : w37.cell? ⟨qb, 1, none⟩ = some (.int .i64 0) := (OwnT.blk O 0 rfl).cell 1
      have z1 : w37.frozen? ⟨qb, 1, none⟩ = false := (OwnT.blk O 0 rfl).frozen 1
      have q2 : w37.cell? ⟨qb, 2, none⟩ = some (.int .i64 0) := (OwnT.blk O 0 rfl).cell 2
      have z2 : w37.frozen? ⟨qb, 2, none⟩ = false := (OwnT.blk O 0 rfl).frozen 2
      have q3 : w37.cell? ⟨qb, 3, none⟩ = some (.int .i64 0) := (OwnT.blk O 0 rfl).cell 3
      have z3 : w37.frozen? ⟨qb, 3, none⟩ = false := (OwnT.blk O 0 rfl).frozen 3
      refine sq_unit (w' := ((((w37.setCell ⟨qb, 0, none⟩ (.int .i64 c)).setCell ⟨qb, 1, none⟩ (.int .i64 y1)).setCell ⟨qb, 2, none⟩ (.int .i64 y2)).setCell ⟨qb, 3, none⟩ (.int .i64 y3))) hE rfl rfl (by simp [go_sem, BigFrame.eval_const, BigFrame.eval_global, BigFrame.eval_func, ↓IntWalk.iteOmega, ev e7, ev e41, q0, z0, q1, z1, q2, z2, q3, z3]) ?_
      replace O := OwnT.push 0 rfl (((((OwnT.pull O 0 rfl).set 0 (.int .i64 c)).set 1 (.int .i64 y1)).set 2 (.int .i64 y2)).set 3 (.int .i64 y3))
      clear q0 z0 q1 z1 q2 z2 q3 z3
      generalize ((((w37.setCell ⟨qb, 0, none⟩ (.int .i64 c)).setCell ⟨qb, 1, none⟩ (.int .i64 y1)).setCell ⟨qb, 2, none⟩ (.int .i64 y2)).setCell ⟨qb, 3, none⟩ (.int .i64 y3)) = w38 at O ⊢
      replace O : OwnT _ _ ([tBlk qb 35 #[.int .i64 c, .int .i64 y1, .int .i64 y2, .int .i64 y3], tBlk xb 33 #[.int .i64 K, .int .i64 c, .int .i64 y1, .int .i64 y2, .int .i64 y3], tOB pb F (ofQ U) (ofQ V), tBlk ub 29 #[v1, v2], tRow 35 4 (v1) U.length (U.flatMap qC), tRow 35 4 (v2) V.length (V.flatMap qC)]) w38 := O
      refine wpList_nil ?_
      replace e0 := hE.eval 0 (by rfl) e0
      replace e3 := hE.eval 3 (by rfl) e3
      replace e4 := hE.eval 4 (by rfl) e4
      replace e5 := hE.eval 5 (by rfl) e5
      replace e6 := hE.eval 6 (by rfl) e6
      replace k := k.env hE
      clear hE e41
      refine then_n ?_
      refine wp_seq ?_
      refine wp_seq ?_
      refine wp_region_lit ?_   -- region 10
      have hE := Env.refl a36 [42, 43]
      apply sq_det 42 hE k rfl (by rfl) (by rfl) rfl
      case h =>   -- 0: t42 := Op.fieldAddr 33 (tmp 6) 0
        simp [go_sem, BigFrame.eval_const, BigFrame.eval_global, BigFrame.eval_func, ↓IntWalk.iteOmega, ev (hE.eval 6 (by rfl) e6)]
        with_reducible rfl
      intro a39 hE e42 kp
      apply sq_det 43 hE k rfl (by rfl) (by rfl) rfl
      case h =>   -- 1: t43 := Op.load 3 (tmp 42)
        have q0 : w38.cell? ⟨xb, 0, none⟩ = some (.int .i64 K) := (OwnT.blk O 1 rfl).cell 0
        simp [go_sem, BigFrame.eval_const, BigFrame.eval_global, BigFrame.eval_func, ↓IntWalk.iteOmega, ev e42, q0]
        with_reducible rfl
      intro a40 hE e43 kp
      refine wpList_nil ?_
      replace e0 := hE.eval 0 (by rfl) e0
      replace e3 := hE.eval 3 (by rfl) e3
      replace e4 := hE.eval 4 (by rfl) e4
      replace e5 := hE.eval 5 (by rfl) e5
      replace e6 := hE.eval 6 (by rfl) e6
      replace e7 := hE.eval 7 (by rfl) e7
      replace k := k.env hE
      clear hE
      refine then_n ?_
      replace O : OwnT _ _ ([tOB pb F (ofQ U) (ofQ V), tBlk ub 29 #[v1, v2], tRow 35 4 (v1) U.length (U.flatMap qC), tRow 35 4 (v2) V.length (V.flatMap qC), tBlk xb 33 #[.int .i64 K, .int .i64 c, .int .i64 y1, .int .i64 y2, .int .i64 y3], tBlk qb 35 #[.int .i64 c, .int .i64 y1, .int .i64 y2, .int .i64 y3]]) w38 := OwnT.pick O [2, 3, 4, 5, 1, 0] (by decide)
      refine ownE_deed _ _ k e0 e3 e4 e5 e6 e7 e43 O hG (by omega) hwf.2.1 ?_
      clear O
      intro a41 w42 F' u1 u2 U' V' k e0 e3 e4 e5 e6 O hG'
      refine then_n ?_
      refine ownE_cmp _ _ k e0 e3 e4 e5 e6 O hG' (by omega) hwf.2.1 ?_
      clear O
      intro a43 w44 k e0 e3 e4 e5 O
      refine block_n ?_
      refine then_n ?_
      refine wp_region_lit ?_   -- region 7
      have hE := Env.refl a43 [31, 32, 5]
      apply sq_det 31 hE k rfl (by rfl) (by rfl) rfl
      case h =>   -- 0: t31 := Op.move (tmp 5)
        exact x_move rfl e5
      intro a45 hE e31 kp
      replace e5 := (kp 5 rfl).trans e5
      apply sq_det 32 hE k rfl (by rfl) (by rfl) rfl
      case h =>   -- 1: t32 := Op.binOp BinOp.add 3 (tmp 31) (const (Value.int IntKind.i64 1)) 3
        exact x_add rfl e31 rfl (by omega)
      intro a46 hE e32 kp
      replace e5 := (kp 5 rfl).trans e5
      apply sq_det 5 hE k rfl (by rfl) (by rfl) rfl
      case h =>   -- 2: t5 := Op.assign (tmp 32)
        exact x_assign rfl e32
      intro a47 hE e5 kp
      refine wpList_nil ?_
      replace e0 := hE.eval 0 (by rfl) e0
      replace e3 := hE.eval 3 (by rfl) e3
      replace e4 := hE.eval 4 (by rfl) e4
      replace k := k.env hE
      clear hE
      refine then_n ?_
      refine ⟨⟨k, e0, e3, e4, i + 1, F', u1, u2, U', V', e5, by omega, by omega, O, hG'⟩, ?_⟩
      rw [e5, m5]; simp [intOf]; omega
    · have hltI : (i : Int) < (len : Int) := by omega
      have h8 : ¬ (i : Int) < 80 := by omega
      refine wp_seq ?_
      refine wp_seq ?_
      refine wp_region_lit ?_   -- region 6
      have hE := Env.refl a14 [23, 24, 25, 26, 27, 28, 29, 30]
      apply sq_det 23 hE k rfl (by rfl) (by rfl) rfl
      case h =>   -- 0: t23 := Op.move (tmp 5)
        exact x_move rfl (hE.eval 5 (by rfl) e5)
      intro a48 hE e23 kp
      apply sq_det 24 hE k rfl (by rfl) (by rfl) rfl
      case h =>   -- 1: t24 := Op.move (tmp 0)
        exact x_move rfl (hE.eval 0 (by rfl) e0)
      intro a49 hE e24 kp
      replace e23 := (kp 23 rfl).trans e23
      apply sq_det 25 hE k rfl (by rfl) (by rfl) rfl
      case h =>   -- 2: t25 := Op.call {callee := Callee.builtin Builtin.len, args := #[tmp 24], argT
        exact x_len Try.underlying22 rfl e24
      intro a50 hE e25 kp
      replace e23 := (kp 23 rfl).trans e23
      apply sq_det 26 hE k rfl (by rfl) (by rfl) rfl
      case h =>   -- 3: t26 := Op.binOp BinOp.lss 3 (tmp 23) (tmp 25) 3
        exact x_dec (x_lss rfl e23 e25) (decide_eq_true (by omega))
      intro a51 hE e26 kp
      apply sq_det 27 hE k rfl (by rfl) (by rfl) rfl
      case h =>   -- 4: t27 := Op.move (tmp 26)
        exact x_move rfl e26
      intro a52 hE e27 kp
      apply sq_detg 28 hE k rfl (by rfl) (by rfl) rfl rfl e27
      case h =>   -- 5: t28 := Op.move (tmp 5)
        exact x_move rfl (hE.eval 5 (by rfl) e5)
      intro a53 hE e28 kp
      replace e27 := (kp 27 rfl).trans e27
      apply sq_detg 29 hE k rfl (by rfl) (by rfl) rfl rfl e27
      case h =>   -- 6: t29 := Op.binOp BinOp.lss 3 (tmp 28) (const (Value.int IntKind.i64 80)) 3
        exact x_dec (x_lss rfl e28 rfl) (decide_eq_false (by omega))
      intro a54 hE e29 kp
      replace e27 := (kp 27 rfl).trans e27
      apply sq_det 30 hE k rfl (by rfl) (by rfl) rfl
      case h =>   -- 7: t30 := Op.pick (tmp 27) (tmp 29) (const (Value.bool false))
        exact x_pick_t rfl e27 e29
      intro a55 hE e30 kp
      refine wpList_nil ?_
      replace e0 := hE.eval 0 (by rfl) e0
      replace e3 := hE.eval 3 (by rfl) e3
      replace e4 := hE.eval 4 (by rfl) e4
      replace e5 := hE.eval 5 (by rfl) e5
      replace k := k.env hE
      clear hE
      refine then_n ?_
      refine cond_f e30 rfl ?_
      refine wp_exit ?_
      refine then_x ?_
      refine then_x ?_
      refine block_x ?_
      refine then_n ?_
      refine ownE_end _ _ k e3 e4 O hG (by omega) ?_
      intro a9 w9 k e2 hb
      refine ret_F1 rfl k e2 ?_
      exact ⟨rfl, hb⟩
  · have hltI : ¬ (i : Int) < (len : Int) := by omega
    refine wp_seq ?_
    refine wp_seq ?_
    refine wp_region_lit ?_   -- region 6
    have hE := Env.refl a14 [23, 24, 25, 26, 27, 28, 29, 30]
    apply sq_det 23 hE k rfl (by rfl) (by rfl) rfl
    case h =>   -- 0: t23 := Op.move (tmp 5)
      exact x_move rfl (hE.eval 5 (by rfl) e5)
    intro a56 hE e23 kp
    apply sq_det 24 hE k rfl (by rfl) (by rfl) rfl
    case h =>   -- 1: t24 := Op.move (tmp 0)
      exact x_move rfl (hE.eval 0 (by rfl) e0)
    intro a57 hE e24 kp
    replace e23 := (kp 23 rfl).trans e23
    apply sq_det 25 hE k rfl (by rfl) (by rfl) rfl
    case h =>   -- 2: t25 := Op.call {callee := Callee.builtin Builtin.len, args := #[tmp 24], argT
      exact x_len Try.underlying22 rfl e24
    intro a58 hE e25 kp
    replace e23 := (kp 23 rfl).trans e23
    apply sq_det 26 hE k rfl (by rfl) (by rfl) rfl
    case h =>   -- 3: t26 := Op.binOp BinOp.lss 3 (tmp 23) (tmp 25) 3
      exact x_dec (x_lss rfl e23 e25) (decide_eq_false (by omega))
    intro a59 hE e26 kp
    apply sq_det 27 hE k rfl (by rfl) (by rfl) rfl
    case h =>   -- 4: t27 := Op.move (tmp 26)
      exact x_move rfl e26
    intro a60 hE e27 kp
    refine sq_skipg 28 hE k rfl (by rfl) (by rfl) rfl rfl (.inl e27) ?_
    intro a61 hE e28 kp
    replace e27 := (kp 27 rfl).trans e27
    refine sq_skipg 29 hE k rfl (by rfl) (by rfl) rfl rfl (.inl e27) ?_
    intro a62 hE e29 kp
    replace e27 := (kp 27 rfl).trans e27
    apply sq_det 30 hE k rfl (by rfl) (by rfl) rfl
    case h =>   -- 7: t30 := Op.pick (tmp 27) (tmp 29) (const (Value.bool false))
      exact x_pick_f rfl e27 rfl
    intro a63 hE e30 kp
    refine wpList_nil ?_
    replace e0 := hE.eval 0 (by rfl) e0
    replace e3 := hE.eval 3 (by rfl) e3
    replace e4 := hE.eval 4 (by rfl) e4
    replace e5 := hE.eval 5 (by rfl) e5
    replace k := k.env hE
    clear hE
    refine then_n ?_
    refine cond_f e30 rfl ?_
    refine wp_exit ?_
    refine then_x ?_
    refine then_x ?_
    refine block_x ?_
    refine then_n ?_
    refine ownE_end _ _ k e3 e4 O hG (by omega) ?_
    intro a9 w9 k e2 hb
    refine ret_F1 rfl k e2 ?_
    exact ⟨rfl, hb⟩
theorem ownersExact_walk (w : World) (v0 : Value) (h0 : Arg Try.prog w 22 v0) : Calls Try.prog 3 #[v0] w fun e w' => e = .returned (.bool true) ∧ Below w.heap.size w w' := by
  obtain ⟨A, len, cap, xs, rfl, hl, hc, hlen, hw, hrow⟩ := arg_deeds h0
  exact ownersExact_core A len cap xs w hlen hrow hw (Nat.le_trans hl hc)
  
end Go.Proofs.Ytdpohbaeopidmaa
