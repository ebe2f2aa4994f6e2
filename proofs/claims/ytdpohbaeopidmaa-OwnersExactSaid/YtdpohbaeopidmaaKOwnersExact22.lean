/- owners' law: OwnersExact: the part that compares (printed by XOwnEb.gen.py). -/
import Derived.Test.YtdpohbaeopidmaaKOwnersExact21
namespace Go.Proofs.Ytdpohbaeopidmaa
set_option linter.unusedVariables false
set_option linter.unusedSimpArgs false
open Go.RowKit Go.Maps

set_option maxRecDepth 100000 in
set_option maxHeartbeats 4000000 in
theorem ownE_cmp {H : Nat} {A0 : World} {pb ub xb : Nat} {F : List Nat} {v1 v2 : Value} {U V : List QD} {K c y1 y2 y3 : Int} {m : Nat} {A : Option Addr} {len cap i : Nat} {Q : Exit → Act → World → Prop} (a : Act) (w : World) (k : Fr 273 a)
    (e0 : a.eval (.tmp 0) = .slice A len cap) (e3 : a.eval (.tmp 3) = .pointer (some ⟨pb, 0, none⟩)) (e4 : a.eval (.tmp 4) = .pointer (some ⟨ub, 0, none⟩)) (e5 : a.eval (.tmp 5) = .int .i64 ↑i) (e6 : a.eval (.tmp 6) = .pointer (some ⟨xb, 0, none⟩))
    (O : OwnT H A0 [tOB pb F (ofQ U) (ofQ V), tBlk ub 29 #[v1, v2], tRow 35 4 v1 U.length (U.flatMap qC), tRow 35 4 v2 V.length (V.flatMap qC), tBlk xb 33 #[.int .i64 K, .int .i64 c, .int .i64 y1, .int .i64 y2, .int .i64 y3]] w) (hG : ExG U V m) (hm : m ≤ 1000) (hwf : wfV c)
    (hQ : ∀ a w, Fr 273 a → a.eval (.tmp 0) = .slice A len cap → a.eval (.tmp 3) = .pointer (some ⟨pb, 0, none⟩) → a.eval (.tmp 4) = .pointer (some ⟨ub, 0, none⟩) → a.eval (.tmp 5) = .int .i64 ↑i → OwnT H A0 [tOB pb F (ofQ U) (ofQ V), tBlk ub 29 #[v1, v2], tRow 35 4 v1 U.length (U.flatMap qC), tRow 35 4 v2 V.length (V.flatMap qC)] w → Q .normal a w) :
    Code.wp Try.prog (codeAt [1, 1, 1, 1, 0, 1, 0, 0, 1, 0, 0, 1, 1, 1] (Try.f3.body.getD .skip)) Q a w := by
  conv => arg 2; whnf
  have hlU : U.length ≤ 1000000 := by have := hG.lu; omega
  have hlV : V.length ≤ 1000000 := by have := hG.lv; omega
  have hnU : (ofQ U c).length ≤ 1000000 := Nat.le_trans (ofQ_len U c) hlU
  have hnV : (ofQ V c).length ≤ 1000000 := Nat.le_trans (ofQ_len V c) hlV
  obtain ⟨z, hz⟩ : ∃ z, aloneB (ofQ U) (ofQ V) c (y1, y2, y3) = z := ⟨_, rfl⟩
  obtain ⟨r, hr⟩ := free_ex (ofQ U) (ofQ V)
  
  refine wp_seq ?_
  refine wp_region_lit ?_   -- region 32
  have hE := Env.refl a [137, 138, 139, 140, 12]
  apply sq_det 137 hE k rfl (by rfl) (by rfl) rfl
  case h =>   -- 0: t137 := Op.move (tmp 3)
    exact x_move rfl (hE.eval 3 (by rfl) e3)
  intro a1 hE e137 kp
  apply sq_det 138 hE k rfl (by rfl) (by rfl) rfl
  case h =>   -- 1: t138 := Op.fieldAddr 33 (tmp 6) 1
    simp [go_sem, BigFrame.eval_const, BigFrame.eval_global, BigFrame.eval_func, ↓IntWalk.iteOmega, ev (hE.eval 6 (by rfl) e6)]
    with_reducible rfl
  intro a2 hE e138 kp
  replace e137 := (kp 137 rfl).trans e137
  apply sq_det 139 hE k rfl (by rfl) (by rfl) rfl
  case h =>   -- 2: t139 := Op.load 3 (tmp 138)
    have q0 : w.cell? ⟨xb, 1, none⟩ = some (.int .i64 c) := (OwnT.blk O 4 rfl).cell 1
    simp [go_sem, BigFrame.eval_const, BigFrame.eval_global, BigFrame.eval_func, ↓IntWalk.iteOmega, ev e138, q0]
    with_reducible rfl
  intro a3 hE e139 kp
  replace e137 := (kp 137 rfl).trans e137
  apply sq_call 140 hE k rfl (by rfl) (by rfl) rfl
  case h =>   -- (*tierce/owners.Book).List
    simp [go_sem, BigFrame.eval_const, BigFrame.eval_global, BigFrame.eval_func, ↓IntWalk.iteOmega, ev e137, ev e139]
    with_reducible exact ⟨rfl, rfl⟩
  case hc => exact list_any _ pb F (ofQ U) (ofQ V) c (OwnT.get O 0 rfl) hwf (by omega)
  rintro e w5 ⟨B1, cap1, rfl, hk1, hm1, RL, R⟩
  replace O := OwnT.ext O R
  refine ⟨_, rfl, ?_⟩
  intro a4 hE e140 kp
  apply sq_det 12 hE k rfl (by rfl) (by rfl) rfl
  case h =>   -- 4: t12 := Op.assign (tmp 140)
    exact x_assign rfl e140
  intro a6 hE e12 kp
  refine wpList_nil ?_
  replace e0 := hE.eval 0 (by rfl) e0
  replace e3 := hE.eval 3 (by rfl) e3
  replace e4 := hE.eval 4 (by rfl) e4
  replace e5 := hE.eval 5 (by rfl) e5
  replace e6 := hE.eval 6 (by rfl) e6
  replace k := k.env hE
  clear hE
  refine then_n ?_
  refine wp_seq ?_
  refine wp_typed (R := Ext) (w0 := w5) [[], [0], [0, 1], [0, 1, 2], [], [4], [0, 1, 2, 3, 4, 5], [0, 1, 2, 3, 4, 5, 6]] [141, 142, 143, 144, 145, 146, 147, 13] Ext.refl (fun _ _ _ => Ext.trans) (Ext.drew _) (by kernel_rfl) ?_   -- region 33
  apply Build.det 141 Ext.refl (by rfl) (by rw [k.size]; rfl) rfl
  case h =>   -- 0: t141 := Op.move (tmp 4)
    intro ax wx hE hR hF
    exact x_move rfl (hE.eval 4 (by rfl) e4)
  apply Build.det 142 Ext.refl (by rfl) (by rw [k.size]; rfl) rfl
  case h =>   -- 1: t142 := Op.nilCheck (tmp 141)
    intro ax wx hE hR hF
    have e141 : ax.eval (.tmp 141) = _ := hF 0 (det 141 _) (by decide) (.head _)
    exact x_nil rfl e141
  apply Build.det 143 Ext.refl (by rfl) (by rw [k.size]; rfl) rfl
  case h =>   -- 2: t143 := Op.fieldAddr 29 (tmp 142) 0
    intro ax wx hE hR hF
    have e142 : ax.eval (.tmp 142) = _ := hF 1 (det 142 _) (by decide) (.head _)
    simp [go_sem, BigFrame.eval_const, BigFrame.eval_global, BigFrame.eval_func, ↓IntWalk.iteOmega, ev e142]
    with_reducible rfl
  apply Build.det 144 Ext.refl (by rfl) (by rw [k.size]; rfl) rfl
  case h =>   -- 3: t144 := Op.load 27 (tmp 143)
    intro ax wx hE hR hF
    have e143 : ax.eval (.tmp 143) = _ := hF 2 (det 143 _) (by decide) (.head _)
    have q0 : wx.cell? ⟨ub, 0, none⟩ = some (v1) := (OwnT.blk (OwnT.ext O hR) 1 rfl).cell 0
    simp [go_sem, BigFrame.eval_const, BigFrame.eval_global, BigFrame.eval_func, ↓IntWalk.iteOmega, ev e143, q0]
    with_reducible rfl
  apply Build.det 145 Ext.refl (by rfl) (by rw [k.size]; rfl) rfl
  case h =>   -- 4: t145 := Op.fieldAddr 33 (tmp 6) 1
    intro ax wx hE hR hF
    simp [go_sem, BigFrame.eval_const, BigFrame.eval_global, BigFrame.eval_func, ↓IntWalk.iteOmega, ev (hE.eval 6 (by rfl) e6)]
    with_reducible rfl
  apply Build.det 146 Ext.refl (by rfl) (by rw [k.size]; rfl) rfl
  case h =>   -- 5: t146 := Op.load 3 (tmp 145)
    intro ax wx hE hR hF
    have e145 : ax.eval (.tmp 145) = _ := hF 4 (det 145 _) (by decide) (.head _)
    have q0 : wx.cell? ⟨xb, 1, none⟩ = some (.int .i64 c) := (OwnT.blk (OwnT.ext O hR) 4 rfl).cell 1
    simp [go_sem, BigFrame.eval_const, BigFrame.eval_global, BigFrame.eval_func, ↓IntWalk.iteOmega, ev e145, q0]
    with_reducible rfl
  apply Build.callnew 147 (fun v w => ∃ B cap, v = .slice B (ofQ U c).length cap ∧ Row w B 3 ownC (ofQ U c)) (fun v w w' hR ⟨B, cap, h1, h2⟩ => ⟨B, cap, h1, Row.below h2 hR⟩) Ext.refl (by rfl) (by rw [k.size]; rfl) rfl
  case h =>   -- 6: t147 := tierce/tierceref13.Of
    intro ax wx hE hR hF
    have e144 : ax.eval (.tmp 144) = _ := hF 3 (det 144 _) (by decide) (.tail _ (.tail _ (.head _)))
    have e146 : ax.eval (.tmp 146) = _ := hF 5 (det 146 _) (by decide) (.head _)
    simp [go_sem, BigFrame.eval_const, BigFrame.eval_global, BigFrame.eval_func, ↓IntWalk.iteOmega, ev e144, ev e146]
    with_reducible exact ⟨rfl, rfl⟩
  case hc => exact fun wx hR => (ofU_any c (OwnT.get (OwnT.ext O hR) 2 rfl) (by omega)).mono (fun e w' ⟨B, cap, h1, h2, h3, h4, h5⟩ => ⟨_, h1, h5, B, cap, rfl, h4⟩)
     -- 7: t13 := t147
  refine Build.new 13 (fun v w => ∃ B cap, v = .slice B (ofQ U c).length cap ∧ Row w B 3 ownC (ofQ U c)) (fun v w w' hR ⟨B, cap, h1, h2⟩ => ⟨B, cap, h1, Row.below h2 hR⟩) (by rfl) (by rw [k.size]; rfl) rfl ?_ ?_
  · intro ax wx hE hR hF
    have f147 := hF 6 _ (by decide) (.head _)
    exact ⟨_, wx, x_assign rfl rfl, Ext.refl _, f147⟩
  apply Build.stop
  refine ⟨by kernel_rfl, .inl ⟨rfl, ?_⟩⟩
  intro a7 w8 hE R hF
  have f13 := hF 7 _ (.head _)
  clear hF
  replace O := OwnT.ext O R
  obtain ⟨B2, cap2, e13, RW⟩ := f13
  replace RL := Row.below RL R
  clear R
  replace e0 := hE.eval 0 (by rfl) e0
  replace e3 := hE.eval 3 (by rfl) e3
  replace e4 := hE.eval 4 (by rfl) e4
  replace e5 := hE.eval 5 (by rfl) e5
  replace e6 := hE.eval 6 (by rfl) e6
  replace e12 := hE.eval 12 (by rfl) e12
  replace k := k.env hE
  clear hE
  refine then_n ?_
  have CA : ∀ wx, Ext w8 wx → Calls Try.prog 23 #[.pointer (some ⟨pb, 0, none⟩), .int .i64 c, ownV (y1, y2, y3)] wx fun e w' => e = .returned (.bool z) ∧ Ext wx w' := fun wx hR => hz ▸ alone_any _ pb F (ofQ U) (ofQ V) c (y1, y2, y3) (OwnT.get (OwnT.ext O hR) 0 rfl) hwf (by omega) (by omega)
  have CU : ∀ wx, Ext w8 wx → Calls Try.prog 24 #[.pointer (some ⟨ub, 0, none⟩), .int .i64 c, ownV (y1, y2, y3)] wx fun e w' => e = .returned (.bool z) ∧ Ext wx w' := by
    intro wx hR
    have h := aloneU_any _ ub v1 v2 U V c (y1, y2, y3) ⟨OwnT.blk (OwnT.ext O hR) 1 rfl, OwnT.get (OwnT.ext O hR) 2 rfl, OwnT.get (OwnT.ext O hR) 3 rfl⟩ (by omega) (by omega)
    rw [aloneX_B _ _ hG.sv, hz] at h
    exact h
  unfold ownV at CA CU
  
  refine wp_seq ?_
  refine wp_seq ?_
  refine wp_typed (R := Ext) (w0 := w8) [[], [0], [], [2], [0, 1, 2, 3], [0, 1, 2, 3, 4], [0, 1, 2, 3, 4, 5], [0, 1, 2, 3, 4, 5], [0, 1, 2, 3, 4, 5, 7], [0, 1, 2, 3, 4, 5, 6, 7, 8], [0, 1, 2, 3, 4, 5], [0, 1, 2, 3, 4, 5, 10], [0, 1, 2, 3, 4, 5, 6, 7, 8, 9, 10, 11], [0, 1, 2, 3, 4, 5, 6, 7, 8, 9, 10, 11, 12], [0, 1, 2, 3, 4, 5, 6, 7, 8, 9, 10, 11, 12, 13], [0, 1, 2, 3, 4, 5, 6, 7, 8, 9, 10, 11, 12, 13, 14], [0, 1, 2, 3, 4, 5, 6, 7, 8, 9, 10, 11, 12, 13, 14], [0, 1, 2, 3, 4, 5, 6, 7, 8, 9, 10, 11, 12, 13, 14, 16], [0, 1, 2, 3, 4, 5, 6, 7, 8, 9, 10, 11, 12, 13, 14], [0, 1, 2, 3, 4, 5, 6, 7, 8, 9, 10, 11, 12, 13, 14, 18], [0, 1, 2, 3, 4, 5, 6, 7, 8, 9, 10, 11, 12, 13, 14, 15, 16, 17, 18, 19], [0, 1, 2, 3, 4, 5, 6, 7, 8, 9, 10, 11, 12, 13, 14], [0, 1, 2, 3, 4, 5, 6, 7, 8, 9, 10, 11, 12, 13, 14], [0, 1, 2, 3, 4, 5, 6, 7, 8, 9, 10, 11, 12, 13, 14, 22], [0, 1, 2, 3, 4, 5, 6, 7, 8, 9, 10, 11, 12, 13, 14], [0, 1, 2, 3, 4, 5, 6, 7, 8, 9, 10, 11, 12, 13, 14, 24], [0, 1, 2, 3, 4, 5, 6, 7, 8, 9, 10, 11, 12, 13, 14, 15, 16, 17, 18, 19, 20, 21, 22, 23, 24, 25], [0, 1, 2, 3, 4, 5, 6, 7, 8, 9, 10, 11, 12, 13, 14, 15, 16, 17, 18, 19, 20, 21, 22, 23, 24, 25, 26], [0, 1, 2, 3, 4, 5, 6, 7, 8, 9, 10, 11, 12, 13, 14, 15, 16, 17, 18, 19, 20, 21, 22, 23, 24, 25, 26, 27], [0, 1, 2, 3, 4, 5, 6, 7, 8, 9, 10, 11, 12, 13, 14, 15, 16, 17, 18, 19, 20, 21, 22, 23, 24, 25, 26, 27, 28], [0, 1, 2, 3, 4, 5, 6, 7, 8, 9, 10, 11, 12, 13, 14, 15, 16, 17, 18, 19, 20, 21, 22, 23, 24, 25, 26, 27, 28, 29], [0, 1, 2, 3, 4, 5, 6, 7, 8, 9, 10, 11, 12, 13, 14, 15, 16, 17, 18, 19, 20, 21, 22, 23, 24, 25, 26, 27, 28, 29], [0, 1, 2, 3, 4, 5, 6, 7, 8, 9, 10, 11, 12, 13, 14, 15, 16, 17, 18, 19, 20, 21, 22, 23, 24, 25, 26, 27, 28, 29, 31], [0, 1, 2, 3, 4, 5, 6, 7, 8, 9, 10, 11, 12, 13, 14, 15, 16, 17, 18, 19, 20, 21, 22, 23, 24, 25, 26, 27, 28, 29, 30, 31, 32], [0, 1, 2, 3, 4, 5, 6, 7, 8, 9, 10, 11, 12, 13, 14, 15, 16, 17, 18, 19, 20, 21, 22, 23, 24, 25, 26, 27, 28, 29], [0, 1, 2, 3, 4, 5, 6, 7, 8, 9, 10, 11, 12, 13, 14, 15, 16, 17, 18, 19, 20, 21, 22, 23, 24, 25, 26, 27, 28, 29, 34], [0, 1, 2, 3, 4, 5, 6, 7, 8, 9, 10, 11, 12, 13, 14, 15, 16, 17, 18, 19, 20, 21, 22, 23, 24, 25, 26, 27, 28, 29, 34, 35], [0, 1, 2, 3, 4, 5, 6, 7, 8, 9, 10, 11, 12, 13, 14, 15, 16, 17, 18, 19, 20, 21, 22, 23, 24, 25, 26, 27, 28, 29, 34, 35, 36], [0, 1, 2, 3, 4, 5, 6, 7, 8, 9, 10, 11, 12, 13, 14, 15, 16, 17, 18, 19, 20, 21, 22, 23, 24, 25, 26, 27, 28, 29], [0, 1, 2, 3, 4, 5, 6, 7, 8, 9, 10, 11, 12, 13, 14, 15, 16, 17, 18, 19, 20, 21, 22, 23, 24, 25, 26, 27, 28, 29, 38], [0, 1, 2, 3, 4, 5, 6, 7, 8, 9, 10, 11, 12, 13, 14, 15, 16, 17, 18, 19, 20, 21, 22, 23, 24, 25, 26, 27, 28, 29, 30, 31, 32, 33, 34, 35, 36, 37, 38, 39], [0, 1, 2, 3, 4, 5, 6, 7, 8, 9, 10, 11, 12, 13, 14, 15, 16, 17, 18, 19, 20, 21, 22, 23, 24, 25, 26, 27, 28, 29, 30, 31, 32, 33, 34, 35, 36, 37, 38, 39, 40], [0, 1, 2, 3, 4, 5, 6, 7, 8, 9, 10, 11, 12, 13, 14, 15, 16, 17, 18, 19, 20, 21, 22, 23, 24, 25, 26, 27, 28, 29, 30, 31, 32, 33, 34, 35, 36, 37, 38, 39, 40, 41], [0, 1, 2, 3, 4, 5, 6, 7, 8, 9, 10, 11, 12, 13, 14, 15, 16, 17, 18, 19, 20, 21, 22, 23, 24, 25, 26, 27, 28, 29, 30, 31, 32, 33, 34, 35, 36, 37, 38, 39, 40, 41, 42], [0, 1, 2, 3, 4, 5, 6, 7, 8, 9, 10, 11, 12, 13, 14, 15, 16, 17, 18, 19, 20, 21, 22, 23, 24, 25, 26, 27, 28, 29, 30, 31, 32, 33, 34, 35, 36, 37, 38, 39, 40, 41, 42, 43], [0, 1, 2, 3, 4, 5, 6, 7, 8, 9, 10, 11, 12, 13, 14, 15, 16, 17, 18, 19, 20, 21, 22, 23, 24, 25, 26, 27, 28, 29, 30, 31, 32, 33, 34, 35, 36, 37, 38, 39, 40, 41, 42, 43, 44], [0, 1, 2, 3, 4, 5, 6, 7, 8, 9, 10, 11, 12, 13, 14, 15, 16, 17, 18, 19, 20, 21, 22, 23, 24, 25, 26, 27, 28, 29, 30, 31, 32, 33, 34, 35, 36, 37, 38, 39, 40, 41, 42, 43, 44, 45], [0, 1, 2, 3, 4, 5, 6, 7, 8, 9, 10, 11, 12, 13, 14, 15, 16, 17, 18, 19, 20, 21, 22, 23, 24, 25, 26, 27, 28, 29, 30, 31, 32, 33, 34, 35, 36, 37, 38, 39, 40, 41, 42, 43, 44, 45, 46], [0, 1, 2, 3, 4, 5, 6, 7, 8, 9, 10, 11, 12, 13, 14, 15, 16, 17, 18, 19, 20, 21, 22, 23, 24, 25, 26, 27, 28, 29, 30, 31, 32, 33, 34, 35, 36, 37, 38, 39, 40, 41, 42, 43, 44, 45], [0, 1, 2, 3, 4, 5, 6, 7, 8, 9, 10, 11, 12, 13, 14, 15, 16, 17, 18, 19, 20, 21, 22, 23, 24, 25, 26, 27, 28, 29, 30, 31, 32, 33, 34, 35, 36, 37, 38, 39, 40, 41, 42, 43, 44, 45, 46, 47, 48], [0, 1, 2, 3, 4, 5, 6, 7, 8, 9, 10, 11, 12, 13, 14, 15, 16, 17, 18, 19, 20, 21, 22, 23, 24, 25, 26, 27, 28, 29, 30, 31, 32, 33, 34, 35, 36, 37, 38, 39, 40, 41, 42, 43, 44, 45, 46, 47, 48, 49], [0, 1, 2, 3, 4, 5, 6, 7, 8, 9, 10, 11, 12, 13, 14, 15, 16, 17, 18, 19, 20, 21, 22, 23, 24, 25, 26, 27, 28, 29, 30, 31, 32, 33, 34, 35, 36, 37, 38, 39, 40, 41, 42, 43, 44, 45, 46, 47, 48, 49, 50]] [148, 149, 150, 151, 152, 153, 154, 155, 156, 157, 158, 159, 160, 161, 162, 163, 164, 165, 166, 167, 168, 169, 170, 171, 172, 173, 174, 175, 176, 177, 178, 179, 180, 181, 182, 183, 184, 185, 186, 187, 188, 189, 190, 191, 192, 193, 194, 195, 196, 197, 198, 199] Ext.refl (fun _ _ _ => Ext.trans) (Ext.drew _) (by kernel_rfl) ?_   -- region 34
  apply Build.det 148 Ext.refl (by rfl) (by rw [k.size]; rfl) rfl
  case h =>   -- 0: t148 := Op.move (tmp 12)
    intro ax wx hE hR hF
    exact x_move rfl (hE.eval 12 (by rfl) e12)
  apply Build.det 149 Ext.refl (by rfl) (by rw [k.size]; rfl) rfl
  case h =>   -- 1: t149 := Op.call {callee := Callee.builtin Builtin.len, args := #[tmp 148], arg
    intro ax wx hE hR hF
    have e148 : ax.eval (.tmp 148) = _ := hF 0 (det 148 _) (by decide) (.head _)
    exact x_len Try.underlying42 rfl e148
  apply Build.det 150 Ext.refl (by rfl) (by rw [k.size]; rfl) rfl
  case h =>   -- 2: t150 := Op.move (tmp 13)
    intro ax wx hE hR hF
    exact x_move rfl (hE.eval 13 (by rfl) e13)
  apply Build.det 151 Ext.refl (by rfl) (by rw [k.size]; rfl) rfl
  case h =>   -- 3: t151 := Op.call {callee := Callee.builtin Builtin.len, args := #[tmp 150], arg
    intro ax wx hE hR hF
    have e150 : ax.eval (.tmp 150) = _ := hF 2 (det 150 _) (by decide) (.head _)
    exact x_len Try.underlying42 rfl e150
  apply Build.det 152 Ext.refl (by rfl) (by rw [k.size]; rfl) rfl
  case h =>   -- 4: t152 := Op.binOp BinOp.neq 3 (tmp 149) (tmp 151) 3
    intro ax wx hE hR hF
    have e149 : ax.eval (.tmp 149) = _ := hF 1 (det 149 _) (by decide) (.tail _ (.tail _ (.head _)))
    have e151 : ax.eval (.tmp 151) = _ := hF 3 (det 151 _) (by decide) (.head _)
    exact x_dec (x_neq rfl e149 e151) (decide_eq_false (by omega))
  apply Build.det 153 Ext.refl (by rfl) (by rw [k.size]; rfl) rfl
  case h =>   -- 5: t153 := Op.move (tmp 152)
    intro ax wx hE hR hF
    have e152 : ax.eval (.tmp 152) = _ := hF 4 (det 152 _) (by decide) (.head _)
    exact x_move rfl e152
  apply Build.detg 154 Ext.refl (by rfl) (by rw [k.size]; rfl) rfl rfl
  case h =>   -- 6: t154 := Op.move (tmp 3)
    intro ax wx hE hR hF
    have e153 : ax.eval (.tmp 153) = _ := hF 5 (det 153 _) (by decide) (.head _)
    refine ⟨e153, ?_⟩
    exact x_move rfl (hE.eval 3 (by rfl) e3)
  apply Build.detg 155 Ext.refl (by rfl) (by rw [k.size]; rfl) rfl rfl
  case h =>   -- 7: t155 := Op.fieldAddr 33 (tmp 6) 1
    intro ax wx hE hR hF
    have e153 : ax.eval (.tmp 153) = _ := hF 5 (det 153 _) (by decide) (.tail _ (.head _))
    refine ⟨e153, ?_⟩
    simp [go_sem, BigFrame.eval_const, BigFrame.eval_global, BigFrame.eval_func, ↓IntWalk.iteOmega, ev (hE.eval 6 (by rfl) e6)]
    with_reducible rfl
  apply Build.detg 156 Ext.refl (by rfl) (by rw [k.size]; rfl) rfl rfl
  case h =>   -- 8: t156 := Op.load 3 (tmp 155)
    intro ax wx hE hR hF
    have e155 : ax.eval (.tmp 155) = _ := hF 7 (det 155 _) (by decide) (.head _)
    have e153 : ax.eval (.tmp 153) = _ := hF 5 (det 153 _) (by decide) (.tail _ (.tail _ (.head _)))
    refine ⟨e153, ?_⟩
    have q0 : wx.cell? ⟨xb, 1, none⟩ = some (.int .i64 c) := (OwnT.blk (OwnT.ext O hR) 4 rfl).cell 1
    simp [go_sem, BigFrame.eval_const, BigFrame.eval_global, BigFrame.eval_func, ↓IntWalk.iteOmega, ev e155, q0]
    with_reducible rfl
  apply Build.callg 157 Ext.refl (by rfl) (by rw [k.size]; rfl) rfl rfl
  case h =>   -- 9: t157 := (*tierce/owners.Book).Count
    intro ax wx hE hR hF
    have e154 : ax.eval (.tmp 154) = _ := hF 6 (det 154 _) (by decide) (.tail _ (.tail _ (.head _)))
    have e156 : ax.eval (.tmp 156) = _ := hF 8 (det 156 _) (by decide) (.head _)
    have e153 : ax.eval (.tmp 153) = _ := hF 5 (det 153 _) (by decide) (.tail _ (.tail _ (.tail _ (.head _))))
    refine ⟨e153, ?_⟩
    simp [go_sem, BigFrame.eval_const, BigFrame.eval_global, BigFrame.eval_func, ↓IntWalk.iteOmega, ev e154, ev e156]
    with_reducible exact ⟨rfl, rfl⟩
  case hc => intro wx hR; exact count_any _ pb F (ofQ U) (ofQ V) c (OwnT.get (OwnT.ext O hR) 0 rfl) hwf (by omega)
  apply Build.detg 158 Ext.refl (by rfl) (by rw [k.size]; rfl) rfl rfl
  case h =>   -- 10: t158 := Op.move (tmp 13)
    intro ax wx hE hR hF
    have e153 : ax.eval (.tmp 153) = _ := hF 5 (det 153 _) (by decide) (.tail _ (.tail _ (.tail _ (.tail _ (.head _)))))
    refine ⟨e153, ?_⟩
    exact x_move rfl (hE.eval 13 (by rfl) e13)
  apply Build.detg 159 Ext.refl (by rfl) (by rw [k.size]; rfl) rfl rfl
  case h =>   -- 11: t159 := Op.call {callee := Callee.builtin Builtin.len, args := #[tmp 158], arg
    intro ax wx hE hR hF
    have e158 : ax.eval (.tmp 158) = _ := hF 10 (det 158 _) (by decide) (.head _)
    have e153 : ax.eval (.tmp 153) = _ := hF 5 (det 153 _) (by decide) (.tail _ (.tail _ (.tail _ (.tail _ (.tail _ (.head _))))))
    refine ⟨e153, ?_⟩
    exact x_len Try.underlying42 rfl e158
  apply Build.detg 160 Ext.refl (by rfl) (by rw [k.size]; rfl) rfl rfl
  case h =>   -- 12: t160 := Op.binOp BinOp.neq 3 (tmp 157) (tmp 159) 3
    intro ax wx hE hR hF
    have e157 : ax.eval (.tmp 157) = _ := hF 9 (det 157 _) (by decide) (.tail _ (.tail _ (.head _)))
    have e159 : ax.eval (.tmp 159) = _ := hF 11 (det 159 _) (by decide) (.head _)
    have e153 : ax.eval (.tmp 153) = _ := hF 5 (det 153 _) (by decide) (.tail _ (.tail _ (.tail _ (.tail _ (.tail _ (.tail _ (.head _)))))))
    refine ⟨e153, ?_⟩
    simp [go_sem, BigFrame.eval_const, BigFrame.eval_global, BigFrame.eval_func, ↓IntWalk.iteOmega, ev e157, ev e159]
    with_reducible rfl
  apply Build.det 161 Ext.refl (by rfl) (by rw [k.size]; rfl) rfl
  case h =>   -- 13: t161 := Op.pick (tmp 153) (const (Value.bool true)) (tmp 160)
    intro ax wx hE hR hF
    have e153 : ax.eval (.tmp 153) = _ := hF 5 (det 153 _) (by decide) (.tail _ (.tail _ (.tail _ (.tail _ (.tail _ (.tail _ (.tail _ (.head _))))))))
    have e160 : ax.eval (.tmp 160) = _ := hF 12 (det 160 _) (by decide) (.head _)
    exact x_pick_f rfl e153 e160
  apply Build.det 162 Ext.refl (by rfl) (by rw [k.size]; rfl) rfl
  case h =>   -- 14: t162 := Op.move (tmp 161)
    intro ax wx hE hR hF
    have e161 : ax.eval (.tmp 161) = _ := hF 13 (det 161 _) (by decide) (.head _)
    exact x_move rfl e161
  apply Build.detg 163 Ext.refl (by rfl) (by rw [k.size]; rfl) rfl rfl
  case h =>   -- 15: t163 := Op.move (tmp 3)
    intro ax wx hE hR hF
    have e162 : ax.eval (.tmp 162) = _ := hF 14 (det 162 _) (by decide) (.head _)
    refine ⟨e162, ?_⟩
    exact x_move rfl (hE.eval 3 (by rfl) e3)
  apply Build.detg 164 Ext.refl (by rfl) (by rw [k.size]; rfl) rfl rfl
  case h =>   -- 16: t164 := Op.fieldAddr 33 (tmp 6) 1
    intro ax wx hE hR hF
    have e162 : ax.eval (.tmp 162) = _ := hF 14 (det 162 _) (by decide) (.tail _ (.head _))
    refine ⟨e162, ?_⟩
    simp [go_sem, BigFrame.eval_const, BigFrame.eval_global, BigFrame.eval_func, ↓IntWalk.iteOmega, ev (hE.eval 6 (by rfl) e6)]
    with_reducible rfl
  apply Build.detg 165 Ext.refl (by rfl) (by rw [k.size]; rfl) rfl rfl
  case h =>   -- 17: t165 := Op.load 3 (tmp 164)
    intro ax wx hE hR hF
    have e164 : ax.eval (.tmp 164) = _ := hF 16 (det 164 _) (by decide) (.head _)
    have e162 : ax.eval (.tmp 162) = _ := hF 14 (det 162 _) (by decide) (.tail _ (.tail _ (.head _)))
    refine ⟨e162, ?_⟩
    have q0 : wx.cell? ⟨xb, 1, none⟩ = some (.int .i64 c) := (OwnT.blk (OwnT.ext O hR) 4 rfl).cell 1
    simp [go_sem, BigFrame.eval_const, BigFrame.eval_global, BigFrame.eval_func, ↓IntWalk.iteOmega, ev e164, q0]
    with_reducible rfl
  apply Build.detg 166 Ext.refl (by rfl) (by rw [k.size]; rfl) rfl rfl
  case h =>   -- 18: t166 := Op.fieldAddr 33 (tmp 6) 2
    intro ax wx hE hR hF
    have e162 : ax.eval (.tmp 162) = _ := hF 14 (det 162 _) (by decide) (.tail _ (.tail _ (.tail _ (.head _))))
    refine ⟨e162, ?_⟩
    simp [go_sem, BigFrame.eval_const, BigFrame.eval_global, BigFrame.eval_func, ↓IntWalk.iteOmega, ev (hE.eval 6 (by rfl) e6)]
    with_reducible rfl
  apply Build.detg 167 Ext.refl (by rfl) (by rw [k.size]; rfl) rfl rfl
  case h =>   -- 19: t167 := Op.load 31 (tmp 166)
    intro ax wx hE hR hF
    have e166 : ax.eval (.tmp 166) = _ := hF 18 (det 166 _) (by decide) (.head _)
    have e162 : ax.eval (.tmp 162) = _ := hF 14 (det 162 _) (by decide) (.tail _ (.tail _ (.tail _ (.tail _ (.head _)))))
    refine ⟨e162, ?_⟩
    have q0 : wx.cell? ⟨xb, 2, none⟩ = some (.int .i64 y1) := (OwnT.blk (OwnT.ext O hR) 4 rfl).cell 2
    have q1 : wx.cell? ⟨xb, 3, none⟩ = some (.int .i64 y2) := (OwnT.blk (OwnT.ext O hR) 4 rfl).cell 3
    have q2 : wx.cell? ⟨xb, 4, none⟩ = some (.int .i64 y3) := (OwnT.blk (OwnT.ext O hR) 4 rfl).cell 4
    simp [go_sem, BigFrame.eval_const, BigFrame.eval_global, BigFrame.eval_func, ↓IntWalk.iteOmega, ev e166, q0, q1, q2]
    with_reducible rfl
  apply Build.callg 168 Ext.refl (by rfl) (by rw [k.size]; rfl) rfl rfl
  case h =>   -- 20: t168 := (*tierce/owners.Book).Alone
    intro ax wx hE hR hF
    have e163 : ax.eval (.tmp 163) = _ := hF 15 (det 163 _) (by decide) (.tail _ (.tail _ (.tail _ (.tail _ (.head _)))))
    have e165 : ax.eval (.tmp 165) = _ := hF 17 (det 165 _) (by decide) (.tail _ (.tail _ (.head _)))
    have e167 : ax.eval (.tmp 167) = _ := hF 19 (det 167 _) (by decide) (.head _)
    have e162 : ax.eval (.tmp 162) = _ := hF 14 (det 162 _) (by decide) (.tail _ (.tail _ (.tail _ (.tail _ (.tail _ (.head _))))))
    refine ⟨e162, ?_⟩
    simp [go_sem, BigFrame.eval_const, BigFrame.eval_global, BigFrame.eval_func, ↓IntWalk.iteOmega, ev e163, ev e165, ev e167]
    with_reducible exact ⟨rfl, rfl⟩
  case hc => intro wx hR; exact CA wx hR
  apply Build.detg 169 Ext.refl (by rfl) (by rw [k.size]; rfl) rfl rfl
  case h =>   -- 21: t169 := Op.move (tmp 4)
    intro ax wx hE hR hF
    have e162 : ax.eval (.tmp 162) = _ := hF 14 (det 162 _) (by decide) (.tail _ (.tail _ (.tail _ (.tail _ (.tail _ (.tail _ (.head _)))))))
    refine ⟨e162, ?_⟩
    exact x_move rfl (hE.eval 4 (by rfl) e4)
  apply Build.detg 170 Ext.refl (by rfl) (by rw [k.size]; rfl) rfl rfl
  case h =>   -- 22: t170 := Op.fieldAddr 33 (tmp 6) 1
    intro ax wx hE hR hF
    have e162 : ax.eval (.tmp 162) = _ := hF 14 (det 162 _) (by decide) (.tail _ (.tail _ (.tail _ (.tail _ (.tail _ (.tail _ (.tail _ (.head _))))))))
    refine ⟨e162, ?_⟩
    simp [go_sem, BigFrame.eval_const, BigFrame.eval_global, BigFrame.eval_func, ↓IntWalk.iteOmega, ev (hE.eval 6 (by rfl) e6)]
    with_reducible rfl
  apply Build.detg 171 Ext.refl (by rfl) (by rw [k.size]; rfl) rfl rfl
  case h =>   -- 23: t171 := Op.load 3 (tmp 170)
    intro ax wx hE hR hF
    have e170 : ax.eval (.tmp 170) = _ := hF 22 (det 170 _) (by decide) (.head _)
    have e162 : ax.eval (.tmp 162) = _ := hF 14 (det 162 _) (by decide) (.tail _ (.tail _ (.tail _ (.tail _ (.tail _ (.tail _ (.tail _ (.tail _ (.head _)))))))))
    refine ⟨e162, ?_⟩
    have q0 : wx.cell? ⟨xb, 1, none⟩ = some (.int .i64 c) := (OwnT.blk (OwnT.ext O hR) 4 rfl).cell 1
    simp [go_sem, BigFrame.eval_const, BigFrame.eval_global, BigFrame.eval_func, ↓IntWalk.iteOmega, ev e170, q0]
    with_reducible rfl
  apply Build.detg 172 Ext.refl (by rfl) (by rw [k.size]; rfl) rfl rfl
  case h =>   -- 24: t172 := Op.fieldAddr 33 (tmp 6) 2
    intro ax wx hE hR hF
    have e162 : ax.eval (.tmp 162) = _ := hF 14 (det 162 _) (by decide) (.tail _ (.tail _ (.tail _ (.tail _ (.tail _ (.tail _ (.tail _ (.tail _ (.tail _ (.head _))))))))))
    refine ⟨e162, ?_⟩
    simp [go_sem, BigFrame.eval_const, BigFrame.eval_global, BigFrame.eval_func, ↓IntWalk.iteOmega, ev (hE.eval 6 (by rfl) e6)]
    with_reducible rfl
  apply Build.detg 173 Ext.refl (by rfl) (by rw [k.size]; rfl) rfl rfl
  case h =>   -- 25: t173 := Op.load 31 (tmp 172)
    intro ax wx hE hR hF
    have e172 : ax.eval (.tmp 172) = _ := hF 24 (det 172 _) (by decide) (.head _)
    have e162 : ax.eval (.tmp 162) = _ := hF 14 (det 162 _) (by decide) (.tail _ (.tail _ (.tail _ (.tail _ (.tail _ (.tail _ (.tail _ (.tail _ (.tail _ (.tail _ (.head _)))))))))))
    refine ⟨e162, ?_⟩
    have q0 : wx.cell? ⟨xb, 2, none⟩ = some (.int .i64 y1) := (OwnT.blk (OwnT.ext O hR) 4 rfl).cell 2
    have q1 : wx.cell? ⟨xb, 3, none⟩ = some (.int .i64 y2) := (OwnT.blk (OwnT.ext O hR) 4 rfl).cell 3
    have q2 : wx.cell? ⟨xb, 4, none⟩ = some (.int .i64 y3) := (OwnT.blk (OwnT.ext O hR) 4 rfl).cell 4
    simp [go_sem, BigFrame.eval_const, BigFrame.eval_global, BigFrame.eval_func, ↓IntWalk.iteOmega, ev e172, q0, q1, q2]
    with_reducible rfl
  apply Build.callg 174 Ext.refl (by rfl) (by rw [k.size]; rfl) rfl rfl
  case h =>   -- 26: t174 := (*tierce/tierceref13.Book).Alone
    intro ax wx hE hR hF
    have e169 : ax.eval (.tmp 169) = _ := hF 21 (det 169 _) (by decide) (.tail _ (.tail _ (.tail _ (.tail _ (.head _)))))
    have e171 : ax.eval (.tmp 171) = _ := hF 23 (det 171 _) (by decide) (.tail _ (.tail _ (.head _)))
    have e173 : ax.eval (.tmp 173) = _ := hF 25 (det 173 _) (by decide) (.head _)
    have e162 : ax.eval (.tmp 162) = _ := hF 14 (det 162 _) (by decide) (.tail _ (.tail _ (.tail _ (.tail _ (.tail _ (.tail _ (.tail _ (.tail _ (.tail _ (.tail _ (.tail _ (.head _))))))))))))
    refine ⟨e162, ?_⟩
    simp [go_sem, BigFrame.eval_const, BigFrame.eval_global, BigFrame.eval_func, ↓IntWalk.iteOmega, ev e169, ev e171, ev e173]
    with_reducible exact ⟨rfl, rfl⟩
  case hc => intro wx hR; exact CU wx hR
  apply Build.detg 175 Ext.refl (by rfl) (by rw [k.size]; rfl) rfl rfl
  case h =>   -- 27: t175 := Op.binOp BinOp.neq 4 (tmp 168) (tmp 174) 4
    intro ax wx hE hR hF
    have e168 : ax.eval (.tmp 168) = _ := hF 20 (det 168 _) (by decide) (.tail _ (.tail _ (.tail _ (.tail _ (.tail _ (.tail _ (.head _)))))))
    have e174 : ax.eval (.tmp 174) = _ := hF 26 (det 174 _) (by decide) (.head _)
    have e162 : ax.eval (.tmp 162) = _ := hF 14 (det 162 _) (by decide) (.tail _ (.tail _ (.tail _ (.tail _ (.tail _ (.tail _ (.tail _ (.tail _ (.tail _ (.tail _ (.tail _ (.tail _ (.head _)))))))))))))
    refine ⟨e162, ?_⟩
    simp [go_sem, BigFrame.eval_const, BigFrame.eval_global, BigFrame.eval_func, ↓IntWalk.iteOmega, ev e168, ev e174]
    with_reducible rfl
  apply Build.det 176 Ext.refl (by rfl) (by rw [k.size]; rfl) rfl
  case h =>   -- 28: t176 := Op.pick (tmp 162) (const (Value.bool true)) (tmp 175)
    intro ax wx hE hR hF
    have e162 : ax.eval (.tmp 162) = _ := hF 14 (det 162 _) (by decide) (.tail _ (.tail _ (.tail _ (.tail _ (.tail _ (.tail _ (.tail _ (.tail _ (.tail _ (.tail _ (.tail _ (.tail _ (.tail _ (.head _))))))))))))))
    have e175 : ax.eval (.tmp 175) = _ := hF 27 (det 175 _) (by decide) (.head _)
    exact x_pick_f rfl e162 e175
  apply Build.det 177 Ext.refl (by rfl) (by rw [k.size]; rfl) rfl
  case h =>   -- 29: t177 := Op.move (tmp 176)
    intro ax wx hE hR hF
    have e176 : ax.eval (.tmp 176) = _ := hF 28 (det 176 _) (by decide) (.head _)
    exact x_move rfl e176
  apply Build.detg 178 Ext.refl (by rfl) (by rw [k.size]; rfl) rfl rfl
  case h =>   -- 30: t178 := Op.move (tmp 3)
    intro ax wx hE hR hF
    have e177 : ax.eval (.tmp 177) = _ := hF 29 (det 177 _) (by decide) (.head _)
    refine ⟨e177, ?_⟩
    exact x_move rfl (hE.eval 3 (by rfl) e3)
  apply Build.detg 179 Ext.refl (by rfl) (by rw [k.size]; rfl) rfl rfl
  case h =>   -- 31: t179 := Op.fieldAddr 33 (tmp 6) 1
    intro ax wx hE hR hF
    have e177 : ax.eval (.tmp 177) = _ := hF 29 (det 177 _) (by decide) (.tail _ (.head _))
    refine ⟨e177, ?_⟩
    simp [go_sem, BigFrame.eval_const, BigFrame.eval_global, BigFrame.eval_func, ↓IntWalk.iteOmega, ev (hE.eval 6 (by rfl) e6)]
    with_reducible rfl
  apply Build.detg 180 Ext.refl (by rfl) (by rw [k.size]; rfl) rfl rfl
  case h =>   -- 32: t180 := Op.load 3 (tmp 179)
    intro ax wx hE hR hF
    have e179 : ax.eval (.tmp 179) = _ := hF 31 (det 179 _) (by decide) (.head _)
    have e177 : ax.eval (.tmp 177) = _ := hF 29 (det 177 _) (by decide) (.tail _ (.tail _ (.head _)))
    refine ⟨e177, ?_⟩
    have q0 : wx.cell? ⟨xb, 1, none⟩ = some (.int .i64 c) := (OwnT.blk (OwnT.ext O hR) 4 rfl).cell 1
    simp [go_sem, BigFrame.eval_const, BigFrame.eval_global, BigFrame.eval_func, ↓IntWalk.iteOmega, ev e179, q0]
    with_reducible rfl
  apply Build.callg 181 Ext.refl (by rfl) (by rw [k.size]; rfl) rfl rfl
  case h =>   -- 33: t181 := (*tierce/owners.Book).Was
    intro ax wx hE hR hF
    have e178 : ax.eval (.tmp 178) = _ := hF 30 (det 178 _) (by decide) (.tail _ (.tail _ (.head _)))
    have e180 : ax.eval (.tmp 180) = _ := hF 32 (det 180 _) (by decide) (.head _)
    have e177 : ax.eval (.tmp 177) = _ := hF 29 (det 177 _) (by decide) (.tail _ (.tail _ (.tail _ (.head _))))
    refine ⟨e177, ?_⟩
    simp [go_sem, BigFrame.eval_const, BigFrame.eval_global, BigFrame.eval_func, ↓IntWalk.iteOmega, ev e178, ev e180]
    with_reducible exact ⟨rfl, rfl⟩
  case hc => intro wx hR; exact (was_any _ pb F (ofQ U) (ofQ V) c (OwnT.get (OwnT.ext O hR) 0 rfl) hwf).mono (fun e w' h => ⟨h.1, ext_of_same h.2⟩)
  apply Build.detg 182 Ext.refl (by rfl) (by rw [k.size]; rfl) rfl rfl
  case h =>   -- 34: t182 := Op.move (tmp 4)
    intro ax wx hE hR hF
    have e177 : ax.eval (.tmp 177) = _ := hF 29 (det 177 _) (by decide) (.tail _ (.tail _ (.tail _ (.tail _ (.head _)))))
    refine ⟨e177, ?_⟩
    exact x_move rfl (hE.eval 4 (by rfl) e4)
  apply Build.detg 183 Ext.refl (by rfl) (by rw [k.size]; rfl) rfl rfl
  case h =>   -- 35: t183 := Op.nilCheck (tmp 182)
    intro ax wx hE hR hF
    have e182 : ax.eval (.tmp 182) = _ := hF 34 (det 182 _) (by decide) (.head _)
    have e177 : ax.eval (.tmp 177) = _ := hF 29 (det 177 _) (by decide) (.tail _ (.tail _ (.tail _ (.tail _ (.tail _ (.head _))))))
    refine ⟨e177, ?_⟩
    exact x_nil rfl e182
  apply Build.detg 184 Ext.refl (by rfl) (by rw [k.size]; rfl) rfl rfl
  case h =>   -- 36: t184 := Op.fieldAddr 29 (tmp 183) 1
    intro ax wx hE hR hF
    have e183 : ax.eval (.tmp 183) = _ := hF 35 (det 183 _) (by decide) (.head _)
    have e177 : ax.eval (.tmp 177) = _ := hF 29 (det 177 _) (by decide) (.tail _ (.tail _ (.tail _ (.tail _ (.tail _ (.tail _ (.head _)))))))
    refine ⟨e177, ?_⟩
    simp [go_sem, BigFrame.eval_const, BigFrame.eval_global, BigFrame.eval_func, ↓IntWalk.iteOmega, ev e183]
    with_reducible rfl
  apply Build.detg 185 Ext.refl (by rfl) (by rw [k.size]; rfl) rfl rfl
  case h =>   -- 37: t185 := Op.load 27 (tmp 184)
    intro ax wx hE hR hF
    have e184 : ax.eval (.tmp 184) = _ := hF 36 (det 184 _) (by decide) (.head _)
    have e177 : ax.eval (.tmp 177) = _ := hF 29 (det 177 _) (by decide) (.tail _ (.tail _ (.tail _ (.tail _ (.tail _ (.tail _ (.tail _ (.head _))))))))
    refine ⟨e177, ?_⟩
    have q0 : wx.cell? ⟨ub, 1, none⟩ = some (v2) := (OwnT.blk (OwnT.ext O hR) 1 rfl).cell 1
    simp [go_sem, BigFrame.eval_const, BigFrame.eval_global, BigFrame.eval_func, ↓IntWalk.iteOmega, ev e184, q0]
    with_reducible rfl
  apply Build.detg 186 Ext.refl (by rfl) (by rw [k.size]; rfl) rfl rfl
  case h =>   -- 38: t186 := Op.fieldAddr 33 (tmp 6) 1
    intro ax wx hE hR hF
    have e177 : ax.eval (.tmp 177) = _ := hF 29 (det 177 _) (by decide) (.tail _ (.tail _ (.tail _ (.tail _ (.tail _ (.tail _ (.tail _ (.tail _ (.head _)))))))))
    refine ⟨e177, ?_⟩
    simp [go_sem, BigFrame.eval_const, BigFrame.eval_global, BigFrame.eval_func, ↓IntWalk.iteOmega, ev (hE.eval 6 (by rfl) e6)]
    with_reducible rfl
  apply Build.detg 187 Ext.refl (by rfl) (by rw [k.size]; rfl) rfl rfl
  case h =>   -- 39: t187 := Op.load 3 (tmp 186)
    intro ax wx hE hR hF
    have e186 : ax.eval (.tmp 186) = _ := hF 38 (det 186 _) (by decide) (.head _)
    have e177 : ax.eval (.tmp 177) = _ := hF 29 (det 177 _) (by decide) (.tail _ (.tail _ (.tail _ (.tail _ (.tail _ (.tail _ (.tail _ (.tail _ (.tail _ (.head _))))))))))
    refine ⟨e177, ?_⟩
    have q0 : wx.cell? ⟨xb, 1, none⟩ = some (.int .i64 c) := (OwnT.blk (OwnT.ext O hR) 4 rfl).cell 1
    simp [go_sem, BigFrame.eval_const, BigFrame.eval_global, BigFrame.eval_func, ↓IntWalk.iteOmega, ev e186, q0]
    with_reducible rfl
  apply Build.callnewg 188 (fun v w => ∃ B cap, v = .slice B (ofQ V c).length cap) (fun v w w' hR h => h) Ext.refl (by rfl) (by rw [k.size]; rfl) rfl rfl
  case h =>   -- 40: t188 := tierce/tierceref13.Of
    intro ax wx hE hR hF
    have e185 : ax.eval (.tmp 185) = _ := hF 37 (det 185 _) (by decide) (.tail _ (.tail _ (.head _)))
    have e187 : ax.eval (.tmp 187) = _ := hF 39 (det 187 _) (by decide) (.head _)
    have e177 : ax.eval (.tmp 177) = _ := hF 29 (det 177 _) (by decide) (.tail _ (.tail _ (.tail _ (.tail _ (.tail _ (.tail _ (.tail _ (.tail _ (.tail _ (.tail _ (.head _)))))))))))
    refine ⟨e177, ?_⟩
    simp [go_sem, BigFrame.eval_const, BigFrame.eval_global, BigFrame.eval_func, ↓IntWalk.iteOmega, ev e185, ev e187]
    with_reducible exact ⟨rfl, rfl⟩
  case hc => exact fun wx hR => (ofU_any c (OwnT.get (OwnT.ext O hR) 3 rfl) (by omega)).mono (fun e w' ⟨B, cap, h1, h2, h3, h4, h5⟩ => ⟨_, h1, h5, B, cap, rfl⟩)
  apply Build.detg 189 Ext.refl (by rfl) (by rw [k.size]; rfl) rfl rfl
  case h =>   -- 41: t189 := Op.call {callee := Callee.builtin Builtin.len, args := #[tmp 188], arg
    intro ax wx hE hR hF
    have f188 := hF 40 _ (by decide) (.head _)
    have e177 : ax.eval (.tmp 177) = _ := hF 29 (det 177 _) (by decide) (.tail _ (.tail _ (.tail _ (.tail _ (.tail _ (.tail _ (.tail _ (.tail _ (.tail _ (.tail _ (.tail _ (.head _))))))))))))
    refine ⟨e177, ?_⟩
    obtain ⟨_, _, e188⟩ := f188
    simp [go_sem, BigFrame.eval_const, BigFrame.eval_global, BigFrame.eval_func, ↓IntWalk.iteOmega, ev e188, ev e188]
    with_reducible rfl
  apply Build.detg 190 Ext.refl (by rfl) (by rw [k.size]; rfl) rfl rfl
  case h =>   -- 42: t190 := Op.binOp BinOp.gtr 3 (tmp 189) (const (Value.int IntKind.i64 0)) 3
    intro ax wx hE hR hF
    have e189 : ax.eval (.tmp 189) = _ := hF 41 (det 189 _) (by decide) (.head _)
    have e177 : ax.eval (.tmp 177) = _ := hF 29 (det 177 _) (by decide) (.tail _ (.tail _ (.tail _ (.tail _ (.tail _ (.tail _ (.tail _ (.tail _ (.tail _ (.tail _ (.tail _ (.tail _ (.head _)))))))))))))
    refine ⟨e177, ?_⟩
    simp [go_sem, BigFrame.eval_const, BigFrame.eval_global, BigFrame.eval_func, ↓IntWalk.iteOmega, ev e189]
    with_reducible rfl
  apply Build.detg 191 Ext.refl (by rfl) (by rw [k.size]; rfl) rfl rfl
  case h =>   -- 43: t191 := Op.binOp BinOp.neq 4 (tmp 181) (tmp 190) 4
    intro ax wx hE hR hF
    have e181 : ax.eval (.tmp 181) = _ := hF 33 (det 181 _) (by decide) (.tail _ (.tail _ (.tail _ (.tail _ (.tail _ (.tail _ (.tail _ (.tail _ (.tail _ (.head _))))))))))
    have e190 : ax.eval (.tmp 190) = _ := hF 42 (det 190 _) (by decide) (.head _)
    have e177 : ax.eval (.tmp 177) = _ := hF 29 (det 177 _) (by decide) (.tail _ (.tail _ (.tail _ (.tail _ (.tail _ (.tail _ (.tail _ (.tail _ (.tail _ (.tail _ (.tail _ (.tail _ (.tail _ (.head _))))))))))))))
    refine ⟨e177, ?_⟩
    simp [go_sem, BigFrame.eval_const, BigFrame.eval_global, BigFrame.eval_func, ↓IntWalk.iteOmega, ev e181, ev e190]
    with_reducible rfl
  apply Build.det 192 Ext.refl (by rfl) (by rw [k.size]; rfl) rfl
  case h =>   -- 44: t192 := Op.pick (tmp 177) (const (Value.bool true)) (tmp 191)
    intro ax wx hE hR hF
    have e177 : ax.eval (.tmp 177) = _ := hF 29 (det 177 _) (by decide) (.tail _ (.tail _ (.tail _ (.tail _ (.tail _ (.tail _ (.tail _ (.tail _ (.tail _ (.tail _ (.tail _ (.tail _ (.tail _ (.tail _ (.head _)))))))))))))))
    have e191 : ax.eval (.tmp 191) = _ := hF 43 (det 191 _) (by decide) (.head _)
    exact x_pick_f rfl e177 e191
  apply Build.det 193 Ext.refl (by rfl) (by rw [k.size]; rfl) rfl
  case h =>   -- 45: t193 := Op.move (tmp 192)
    intro ax wx hE hR hF
    have e192 : ax.eval (.tmp 192) = _ := hF 44 (det 192 _) (by decide) (.head _)
    exact x_move rfl e192
  apply Build.detg 194 Ext.refl (by rfl) (by rw [k.size]; rfl) rfl rfl
  case h =>   -- 46: t194 := Op.move (tmp 3)
    intro ax wx hE hR hF
    have e193 : ax.eval (.tmp 193) = _ := hF 45 (det 193 _) (by decide) (.head _)
    refine ⟨e193, ?_⟩
    exact x_move rfl (hE.eval 3 (by rfl) e3)
  apply Build.callg 195 Ext.refl (by rfl) (by rw [k.size]; rfl) rfl rfl
  case h =>   -- 47: t195 := (*tierce/owners.Book).Free
    intro ax wx hE hR hF
    have e194 : ax.eval (.tmp 194) = _ := hF 46 (det 194 _) (by decide) (.head _)
    have e193 : ax.eval (.tmp 193) = _ := hF 45 (det 193 _) (by decide) (.tail _ (.head _))
    refine ⟨e193, ?_⟩
    simp [go_sem, BigFrame.eval_const, BigFrame.eval_global, BigFrame.eval_func, ↓IntWalk.iteOmega, ev e194]
    with_reducible exact ⟨rfl, rfl⟩
  case hc => intro wx hR; exact free_any _ pb F (ofQ U) (ofQ V) r (OwnT.get (OwnT.ext O hR) 0 rfl) hr (fun c => by have := ofQ_len U c; omega) (fun c => by have := ofQ_len V c; omega)
  apply Build.detg 196 Ext.refl (by rfl) (by rw [k.size]; rfl) rfl rfl
  case h =>   -- 48: t196 := Op.move (tmp 4)
    intro ax wx hE hR hF
    have e193 : ax.eval (.tmp 193) = _ := hF 45 (det 193 _) (by decide) (.tail _ (.tail _ (.head _)))
    refine ⟨e193, ?_⟩
    exact x_move rfl (hE.eval 4 (by rfl) e4)
  apply Build.callg 197 Ext.refl (by rfl) (by rw [k.size]; rfl) rfl rfl
  case h =>   -- 49: t197 := (*tierce/tierceref13.Book).Free
    intro ax wx hE hR hF
    have e196 : ax.eval (.tmp 196) = _ := hF 48 (det 196 _) (by decide) (.head _)
    have e193 : ax.eval (.tmp 193) = _ := hF 45 (det 193 _) (by decide) (.tail _ (.tail _ (.tail _ (.head _))))
    refine ⟨e193, ?_⟩
    simp [go_sem, BigFrame.eval_const, BigFrame.eval_global, BigFrame.eval_func, ↓IntWalk.iteOmega, ev e196]
    with_reducible exact ⟨rfl, rfl⟩
  case hc => intro wx hR; exact freeU_any _ ub v1 v2 U V r ⟨OwnT.blk (OwnT.ext O hR) 1 rfl, OwnT.get (OwnT.ext O hR) 2 rfl, OwnT.get (OwnT.ext O hR) 3 rfl⟩ hr (by omega) (by omega)
  apply Build.detg 198 Ext.refl (by rfl) (by rw [k.size]; rfl) rfl rfl
  case h =>   -- 50: t198 := Op.binOp BinOp.neq 3 (tmp 195) (tmp 197) 3
    intro ax wx hE hR hF
    have e195 : ax.eval (.tmp 195) = _ := hF 47 (det 195 _) (by decide) (.tail _ (.tail _ (.head _)))
    have e197 : ax.eval (.tmp 197) = _ := hF 49 (det 197 _) (by decide) (.head _)
    have e193 : ax.eval (.tmp 193) = _ := hF 45 (det 193 _) (by decide) (.tail _ (.tail _ (.tail _ (.tail _ (.head _)))))
    refine ⟨e193, ?_⟩
    simp [go_sem, BigFrame.eval_const, BigFrame.eval_global, BigFrame.eval_func, ↓IntWalk.iteOmega, ev e195, ev e197]
    with_reducible rfl
  apply Build.det 199 Ext.refl (by rfl) (by rw [k.size]; rfl) rfl
  case h =>   -- 51: t199 := Op.pick (tmp 193) (const (Value.bool true)) (tmp 198)
    intro ax wx hE hR hF
    have e193 : ax.eval (.tmp 193) = _ := hF 45 (det 193 _) (by decide) (.tail _ (.tail _ (.tail _ (.tail _ (.tail _ (.head _))))))
    have e198 : ax.eval (.tmp 198) = _ := hF 50 (det 198 _) (by decide) (.head _)
    exact x_pick_f rfl e193 e198
  apply Build.stop
  refine ⟨by kernel_rfl, .inl ⟨rfl, ?_⟩⟩
  intro a9 w10 hE R hF
  have e199 : a9.eval (.tmp 199) = _ := hF 51 (det 199 _) (.head _)
  clear hF
  replace O := OwnT.ext O R
  replace RL := Row.below RL R
  replace RW := Row.below RW R
  clear R
  replace e0 := hE.eval 0 (by rfl) e0
  replace e3 := hE.eval 3 (by rfl) e3
  replace e4 := hE.eval 4 (by rfl) e4
  replace e5 := hE.eval 5 (by rfl) e5
  replace e12 := hE.eval 12 (by rfl) e12
  replace e13 := hE.eval 13 (by rfl) e13
  replace k := k.env hE
  clear hE e6
  refine then_n ?_
  refine cond_f e199 rfl ?_
  refine wp_skip ?_
  refine then_n ?_
  refine wp_seq ?_
  refine wp_region_lit ?_   -- region 36
  have hE := Env.refl a9 [14]
  apply sq_det 14 hE k rfl (by rfl) (by rfl) rfl
  case h =>   -- 0: t14 := Op.assign (const (Value.int IntKind.i64 0))
    exact x_assign rfl rfl
  intro a11 hE e14 kp
  refine wpList_nil ?_
  replace e0 := hE.eval 0 (by rfl) e0
  replace e3 := hE.eval 3 (by rfl) e3
  replace e4 := hE.eval 4 (by rfl) e4
  replace e5 := hE.eval 5 (by rfl) e5
  replace e12 := hE.eval 12 (by rfl) e12
  replace e13 := hE.eval 13 (by rfl) e13
  replace k := k.env hE
  clear hE e199
  refine then_n ?_
  refine wp_block ?_
  refine wp_loop (fun a w => Fr 273 a ∧ a.eval (.tmp 0) = .slice A len cap ∧ a.eval (.tmp 3) = .pointer (some ⟨pb, 0, none⟩) ∧ a.eval (.tmp 4) = .pointer (some ⟨ub, 0, none⟩) ∧ a.eval (.tmp 5) = .int .i64 ↑i ∧ a.eval (.tmp 12) = .slice B1 ((ofQ U c).length) cap1 ∧ a.eval (.tmp 13) = .slice B2 ((ofQ U c).length) cap2 ∧ ∃ j : Nat, a.eval (.tmp 14) = .int .i64 ↑j ∧ j ≤ (ofQ U c).length ∧ OwnT H A0 [tOB pb F (ofQ U) (ofQ V), tBlk ub 29 #[v1, v2], tRow 35 4 v1 U.length (U.flatMap qC), tRow 35 4 v2 V.length (V.flatMap qC), tBlk xb 33 #[.int .i64 K, .int .i64 c, .int .i64 y1, .int .i64 y2, .int .i64 y3]] w ∧ Row w B1 3 ownC (ofQ U c) ∧ Row w B2 3 ownC (ofQ U c)) (fun a w => (ofQ U c).length - (intOf (a.eval (.tmp 14))).toNat) ?_ ?_
  · exact ⟨k, e0, e3, e4, e5, e12, e13, 0, e14, Nat.zero_le _, O, RL, RW⟩
  intro a12 w13 hI
  clear k e0 e3 e4 e5 e12 e13
  obtain ⟨k, e0, e3, e4, e5, e12, e13, h_⟩ := hI
  clear O RL RW e14
  obtain ⟨j, e14, hj, O, RL, RW⟩ := h_
  have m14 := e14
  
  refine wp_seq ?_
  refine wp_seq ?_
  refine wp_region_lit ?_   -- region 37
  have hE := Env.refl a12 [200, 201, 202, 203]
  apply sq_det 200 hE k rfl (by rfl) (by rfl) rfl
  case h =>   -- 0: t200 := Op.move (tmp 14)
    exact x_move rfl (hE.eval 14 (by rfl) e14)
  intro a14 hE e200 kp
  apply sq_det 201 hE k rfl (by rfl) (by rfl) rfl
  case h =>   -- 1: t201 := Op.move (tmp 12)
    exact x_move rfl (hE.eval 12 (by rfl) e12)
  intro a15 hE e201 kp
  replace e200 := (kp 200 rfl).trans e200
  apply sq_det 202 hE k rfl (by rfl) (by rfl) rfl
  case h =>   -- 2: t202 := Op.call {callee := Callee.builtin Builtin.len, args := #[tmp 201], arg
    exact x_len Try.underlying42 rfl e201
  intro a16 hE e202 kp
  replace e200 := (kp 200 rfl).trans e200
  apply sq_det 203 hE k rfl (by rfl) (by rfl) rfl
  case h =>   -- 3: t203 := Op.binOp BinOp.lss 3 (tmp 200) (tmp 202) 3
    exact x_lss rfl e200 e202
  intro a17 hE e203 kp
  refine wpList_nil ?_
  replace e0 := hE.eval 0 (by rfl) e0
  replace e3 := hE.eval 3 (by rfl) e3
  replace e4 := hE.eval 4 (by rfl) e4
  replace e5 := hE.eval 5 (by rfl) e5
  replace e12 := hE.eval 12 (by rfl) e12
  replace e13 := hE.eval 13 (by rfl) e13
  replace e14 := hE.eval 14 (by rfl) e14
  replace k := k.env hE
  clear hE
  refine then_n ?_
  by_cases hlt : j < (ofQ U c).length
  · have hltI : (j : Int) < ((ofQ U c).length : Int) := by omega
    refine cond_t e203 (congrArg Value.bool (decide_eq_true (by omega))) ?_
    clear e203
    obtain ⟨x1, x2, x3, hx⟩ : ∃ x1 x2 x3, (ofQ U c)[j]? = some (x1, x2, x3) := ⟨_, _, _, List.getElem?_eq_getElem hlt⟩
    obtain ⟨b1, o1, rfl, -, -⟩ := RL j _ hx
    obtain ⟨b2, o2, rfl, -, -⟩ := RW j _ hx
    
    refine wp_skip ?_
    refine then_n ?_
    refine wp_seq ?_
    refine wp_block ?_
    refine wp_seq ?_
    refine wp_typed (R := Ext) (w0 := w13) [[], [], [0, 1], [0, 1, 2], [], [], [4, 5], [4, 5, 6], [0, 1, 2, 3, 4, 5, 6, 7]] [206, 207, 208, 209, 210, 211, 212, 213, 214] Ext.refl (fun _ _ _ => Ext.trans) (Ext.drew _) (by kernel_rfl) ?_   -- region 39
    apply Build.det 206 Ext.refl (by rfl) (by rw [k.size]; rfl) rfl
    case h =>   -- 0: t206 := Op.move (tmp 12)
      intro ax wx hE hR hF
      exact x_move rfl (hE.eval 12 (by rfl) e12)
    apply Build.det 207 Ext.refl (by rfl) (by rw [k.size]; rfl) rfl
    case h =>   -- 1: t207 := Op.move (tmp 14)
      intro ax wx hE hR hF
      exact x_move rfl (hE.eval 14 (by rfl) e14)
    apply Build.det 208 Ext.refl (by rfl) (by rw [k.size]; rfl) rfl
    case h =>   -- 2: t208 := Op.indexAddr 42 (tmp 206) (tmp 207)
      intro ax wx hE hR hF
      have e206 : ax.eval (.tmp 206) = _ := hF 0 (det 206 _) (by decide) (.tail _ (.head _))
      have e207 : ax.eval (.tmp 207) = _ := hF 1 (det 207 _) (by decide) (.head _)
      simp [go_sem, BigFrame.eval_const, BigFrame.eval_global, BigFrame.eval_func, ↓IntWalk.iteOmega, ev e206, ev e207]
      with_reducible rfl
    apply Build.det 209 Ext.refl (by rfl) (by rw [k.size]; rfl) rfl
    case h =>   -- 3: t209 := Op.load 31 (tmp 208)
      intro ax wx hE hR hF
      have e208 : ax.eval (.tmp 208) = _ := hF 2 (det 208 _) (by decide) (.head _)
      obtain ⟨c0, c1, c2⟩ := row_own RL hR hx
      simp [go_sem, BigFrame.eval_const, BigFrame.eval_global, BigFrame.eval_func, ↓IntWalk.iteOmega, ev e208, c0, c1, c2]
      with_reducible rfl
    apply Build.det 210 Ext.refl (by rfl) (by rw [k.size]; rfl) rfl
    case h =>   -- 4: t210 := Op.move (tmp 13)
      intro ax wx hE hR hF
      exact x_move rfl (hE.eval 13 (by rfl) e13)
    apply Build.det 211 Ext.refl (by rfl) (by rw [k.size]; rfl) rfl
    case h =>   -- 5: t211 := Op.move (tmp 14)
      intro ax wx hE hR hF
      exact x_move rfl (hE.eval 14 (by rfl) e14)
    apply Build.det 212 Ext.refl (by rfl) (by rw [k.size]; rfl) rfl
    case h =>   -- 6: t212 := Op.indexAddr 42 (tmp 210) (tmp 211)
      intro ax wx hE hR hF
      have e210 : ax.eval (.tmp 210) = _ := hF 4 (det 210 _) (by decide) (.tail _ (.head _))
      have e211 : ax.eval (.tmp 211) = _ := hF 5 (det 211 _) (by decide) (.head _)
      simp [go_sem, BigFrame.eval_const, BigFrame.eval_global, BigFrame.eval_func, ↓IntWalk.iteOmega, ev e210, ev e211]
      with_reducible rfl
    apply Build.det 213 Ext.refl (by rfl) (by rw [k.size]; rfl) rfl
    case h =>   -- 7: t213 := Op.load 31 (tmp 212)
      intro ax wx hE hR hF
      have e212 : ax.eval (.tmp 212) = _ := hF 6 (det 212 _) (by decide) (.head _)
      obtain ⟨c0, c1, c2⟩ := row_own RW hR hx
      simp [go_sem, BigFrame.eval_const, BigFrame.eval_global, BigFrame.eval_func, ↓IntWalk.iteOmega, ev e212, c0, c1, c2]
      with_reducible rfl
    apply Build.det 214 Ext.refl (by rfl) (by rw [k.size]; rfl) rfl
    case h =>   -- 8: t214 := Op.binOp BinOp.neq 31 (tmp 209) (tmp 213) 31
      intro ax wx hE hR hF
      have e209 : ax.eval (.tmp 209) = _ := hF 3 (det 209 _) (by decide) (.tail _ (.tail _ (.tail _ (.tail _ (.head _)))))
      have e213 : ax.eval (.tmp 213) = _ := hF 7 (det 213 _) (by decide) (.head _)
      simp [go_sem, BigFrame.eval_const, BigFrame.eval_global, BigFrame.eval_func, ↓IntWalk.iteOmega, ev e209, ev e213]
      with_reducible rfl
    apply Build.stop
    refine ⟨by kernel_rfl, .inl ⟨rfl, ?_⟩⟩
    intro a18 w19 hE R hF
    have e214 : a18.eval (.tmp 214) = _ := hF 8 (det 214 _) (.head _)
    clear hF
    replace O := OwnT.ext O R
    replace RL := Row.below RL R
    replace RW := Row.below RW R
    clear R
    replace e0 := hE.eval 0 (by rfl) e0
    replace e3 := hE.eval 3 (by rfl) e3
    replace e4 := hE.eval 4 (by rfl) e4
    replace e5 := hE.eval 5 (by rfl) e5
    replace e12 := hE.eval 12 (by rfl) e12
    replace e13 := hE.eval 13 (by rfl) e13
    replace e14 := hE.eval 14 (by rfl) e14
    replace k := k.env hE
    clear hE
    refine then_n ?_
    refine cond_f e214 rfl ?_
    refine wp_skip ?_
    refine block_n ?_
    refine then_n ?_
    refine wp_region_lit ?_   -- region 38
    have hE := Env.refl a18 [204, 205, 14]
    apply sq_det 204 hE k rfl (by rfl) (by rfl) rfl
    case h =>   -- 0: t204 := Op.move (tmp 14)
      exact x_move rfl e14
    intro a20 hE e204 kp
    replace e14 := (kp 14 rfl).trans e14
    apply sq_det 205 hE k rfl (by rfl) (by rfl) rfl
    case h =>   -- 1: t205 := Op.binOp BinOp.add 3 (tmp 204) (const (Value.int IntKind.i64 1)) 3
      exact x_add rfl e204 rfl (by omega)
    intro a21 hE e205 kp
    replace e14 := (kp 14 rfl).trans e14
    apply sq_det 14 hE k rfl (by rfl) (by rfl) rfl
    case h =>   -- 2: t14 := Op.assign (tmp 205)
      exact x_assign rfl e205
    intro a22 hE e14 kp
    refine wpList_nil ?_
    replace e0 := hE.eval 0 (by rfl) e0
    replace e3 := hE.eval 3 (by rfl) e3
    replace e4 := hE.eval 4 (by rfl) e4
    replace e5 := hE.eval 5 (by rfl) e5
    replace e12 := hE.eval 12 (by rfl) e12
    replace e13 := hE.eval 13 (by rfl) e13
    replace k := k.env hE
    clear hE e214
    refine then_n ?_
    refine ⟨⟨k, e0, e3, e4, e5, e12, e13, j + 1, e14, by omega, O, RL, RW⟩, ?_⟩
    rw [e14, m14]; simp [intOf]; omega
  · have hltI : ¬ (j : Int) < ((ofQ U c).length : Int) := by omega
    refine cond_f e203 (congrArg Value.bool (decide_eq_false (by omega))) ?_
    clear e12 e13 e14 e203
    refine wp_exit ?_
    refine then_x ?_
    refine then_x ?_
    refine block_x ?_
--END None ('fn', 'normal')
    exact hQ _ _ k e0 e3 e4 e5 (O.sub (List.sublist_append_left [_, _, _, _] [_]))
end Go.Proofs.Ytdpohbaeopidmaa
