/- The reference of owners: rows of chunk and owner; less, equality, Has. -/
import Derived.Test.YtdpohbaeopidmaaKOwnersExact07
namespace Go.Proofs.Ytdpohbaeopidmaa
set_option linter.unusedVariables false
set_option linter.unusedSimpArgs false
open Go.RowKit

abbrev QD := Int × OwD
def qC (x : QD) : List Value := .int .i64 x.1 :: ownC x.2
def qV (x : QD) : Value := .agg #[.int .i64 x.1, .int .i64 x.2.1, .int .i64 x.2.2.1, .int .i64 x.2.2.2]
theorem qC_len (x : QD) : (qC x).length = 4 := rfl
theorem qC_one (x : QD) : ∀ u ∈ qC x, u.oneCell' = true := by
  intro u hu
  rcases List.mem_cons.1 hu with rfl | hu
  · rfl
  · exact ownC_one _ u hu
theorem flatQ_one (X : List QD) : ∀ u ∈ X.flatMap qC, u.oneCell' = true := by
  intro u hu
  obtain ⟨x, _, hx⟩ := List.mem_flatMap.1 hu
  exact qC_one x u hx
theorem flatQ_len (X : List QD) : (X.flatMap qC).length = X.length * 4 := by
  induction X with
  | nil => rfl
  | cons x X ih => rw [List.flatMap_cons, List.length_append, ih, qC_len, List.length_cons]; omega
def ltQ (a b : QD) : Prop := a.1 < b.1 ∨ (a.1 = b.1 ∧ ltO a.2 b.2)
instance (a b : QD) : Decidable (ltQ a b) := by unfold ltQ ltO; infer_instance
def atQ (X : List QD) (i : Nat) : QD := X.getD i (0, 0, 0, 0)
theorem atQ_eq {X : List QD} {i : Nat} (h : i < X.length) : X[i] = atQ X i := by simp [atQ, List.getD, h]
theorem Row.q_in {w w' : World} {A : Option Addr} {X : List QD} (h : Row w A 4 qC X) (hb : Below w.heap.size w w') {i : Nat} (hi : i < X.length) :
    ∃ b off, A = some ⟨b, off, none⟩ ∧ b < w.heap.size ∧ w'.cell? ⟨b, off + i * 4, none⟩ = some (.int .i64 (atQ X i).1) ∧ w'.cell? ⟨b, off + i * 4 + 1, none⟩ = some (.int .i64 (atQ X i).2.1) ∧ w'.cell? ⟨b, off + i * 4 + 2, none⟩ = some (.int .i64 (atQ X i).2.2.1) ∧ w'.cell? ⟨b, off + i * 4 + 3, none⟩ = some (.int .i64 (atQ X i).2.2.2) := by
  obtain ⟨b, off, hA, hlt, hc⟩ := h.in_ hb hi
  rw [atQ_eq hi] at hc
  exact ⟨b, off, hA, hlt, hc 0 _ rfl, hc 1 _ rfl, hc 2 _ rfl, hc 3 _ rfl⟩

theorem q_fields : Try.prog.underlying 35 = some (.struct (Try.prog.fieldsOf 35)) := by kernel_rfl
theorem q_held : Try.prog.stoodInHeld 35 = false := by kernel_rfl
theorem part_q0 (w : World) (x y z u : Value) : (part 3 #[x, y, z, u] 0).run Try.prog w = .ok x w := by kernel_rfl
theorem part_q1 (w : World) (x y z u : Value) : (part 31 #[x, y, z, u] 1).run Try.prog w = .ok (.agg #[y, z, u]) w := by kernel_rfl
theorem eq_q (d : Nat) (a b1 b2 b3 a' c1 c2 c3 : Int) (w : World) : (Op.equalIn (d + 4) 35 (.agg #[.int .i64 a, .int .i64 b1, .int .i64 b2, .int .i64 b3]) (.agg #[.int .i64 a', .int .i64 c1, .int .i64 c2, .int .i64 c3])).run Try.prog w = .ok (decide ((a, b1, b2, b3) = (a', c1, c2, c3))) w := by
  have h0 := fun W x y => run_equalIn_int (P := Try.prog) W (d + 2) 3 .i64 .i64 x y Try.underlying3
  have h1 := fun W => eq_own (d + 1) b1 b2 b3 c1 c2 c3 W
  rw [run_equalIn_struct w (d + 3) _ _ _ q_fields q_held]
  have hf : (Try.prog.fieldsOf 35).toList.map (fun f => (f.name, f.type, f.offset)) = [("Chunk", 3, 0), ("Owner", 31, 1)] := by kernel_rfl
  generalize (Try.prog.fieldsOf 35).toList = L at hf ⊢
  obtain ⟨f, g, rfl⟩ : ∃ f g, L = [f, g] := by
    have hl : L.length = 2 := by have := congrArg List.length hf; simpa using this
    match L, hl with
    | [f, g], _ => exact ⟨f, g, rfl⟩
  simp only [List.map_cons, List.map_nil, List.cons.injEq, Prod.mk.injEq, and_true] at hf
  obtain ⟨⟨n1, t1, o1⟩, n2, t2, o2⟩ := hf
  by_cases ha : a = a' <;> by_cases hb : (b1, b2, b3) = (c1, c2, c3) <;> simp [Op.eqFields, n1, n2, t1, t2, o1, o2, Sem.run_bind, Sem.run_ite, part_q0, part_q1, h0, h1, ha, hb]
set_option maxRecDepth 100000 in
set_option maxHeartbeats 4000000 in
theorem less_any (x y : QD) (w : World) : Calls Try.prog 69 #[qV x, qV y] w fun e w' => e = .returned (.bool (decide (ltQ x y))) ∧ Ext w w' := by
  obtain ⟨c, x1, x2, x3⟩ := x
  obtain ⟨d, y1, y2, y3⟩ := y
  unfold qV
  obtain ⟨z, hz⟩ : ∃ z, decide (ltQ (c, x1, x2, x3) (d, y1, y2, y3)) = z := ⟨_, rfl⟩
  have HZ := Lib.hid (show decide (c < d ∨ c = d ∧ (x1 < y1 ∨ x1 = y1 ∧ (x2 < y2 ∨ x2 = y2 ∧ x3 < y3))) = z from hz)
  rw [hz]
  clear hz
  have O1 := ((OwnT.start w).new 35 #[.int .i64 c, .int .i64 x1, .int .i64 x2, .int .i64 x3]).new 35 #[.int .i64 d, .int .i64 y1, .int .i64 y2, .int .i64 y3]
  simp only [World.size_alloc] at O1
  go_enter Try.func69, Try.ntmps69
  go_upto_region 1 with fail
  obtain ⟨g, hg⟩ : ∃ g, w.heap.size = g := ⟨_, rfl⟩
  rw [hg] at O1 ⊢
  generalize ((w.alloc (.cells #[.int .i64 c, .int .i64 x1, .int .i64 x2, .int .i64 x3] 35)).alloc (.cells #[.int .i64 d, .int .i64 y1, .int .i64 y2, .int .i64 y3] 35)) = w1 at O1 ⊢
  have a0 := O1.b0.cell 0
  have a1 := O1.b0.cell 1
  have a2 := O1.b0.cell 2
  have a3 := O1.b0.cell 3
  have b0 := O1.b1.cell 0
  have b1 := O1.b1.cell 1
  have b2 := O1.b1.cell 2
  have b3 := O1.b1.cell 3
  simp at a0 a1 a2 a3 b0 b1 b2 b3
  have HE := Lib.hid (show Ext w w1 from by have := O1.below; rw [← hg] at this; exact this)
  clear O1
  by_cases h1 : c = d
  · subst h1
    by_cases h2 : x1 = y1
    · subst h2
      by_cases h3 : x2 = y2
      · subst h3
        go_wp2_with fail
        go_ret
        exact ⟨by rw [← HZ.out]; simp, HE.out⟩
      · go_wp2_with fail
        go_ret
        exact ⟨by rw [← HZ.out]; simp [h3], HE.out⟩
    · go_wp2_with fail
      go_ret
      exact ⟨by rw [← HZ.out]; simp [h2], HE.out⟩
  · go_wp2_with fail
    go_ret
    exact ⟨by rw [← HZ.out]; simp [h1], HE.out⟩
set_option maxRecDepth 100000 in
set_option maxHeartbeats 4000000 in
theorem has_any (A : Option Addr) (len cap : Nat) (X : List QD) (x : QD) (w : World) (hlen : X.length = len) (hm : len ≤ 1000000000000) (hrow : Row w A 4 qC X) :
    Calls Try.prog 15 #[.slice A len cap, qV x] w fun e w' => e = .returned (.bool (decide (x ∈ X))) ∧ Ext w w' := by
  obtain ⟨zz, hzz⟩ : ∃ z, decide (x ∈ X) = z := ⟨_, rfl⟩
  have HI := Lib.hid hzz
  rw [hzz]
  clear hzz
  have HL := Lib.hid hlen
  have HR := Lib.hid hrow
  clear hlen hrow
  obtain ⟨x1, x2, x3, x4⟩ := x
  unfold qV
  go_enter Try.func15, Try.ntmps15
  go_wp2_with fail
  have O1 := (Own.start w).new 35 #[.int .i64 x1, .int .i64 x2, .int .i64 x3, .int .i64 x4]
  generalize w.alloc (.cells #[.int .i64 x1, .int .i64 x2, .int .i64 x3, .int .i64 x4] 35) = w1 at O1 ⊢
  obtain ⟨g, hg⟩ : ∃ g, w.heap.size = g := ⟨_, rfl⟩
  have O1 : Own w.heap.size w [(g, 35, #[.int .i64 x1, .int .i64 x2, .int .i64 x3, .int .i64 x4])] w1 := hg ▸ O1
  rw [hg]
  clear hg
  go_loopw [5] (fun i wr => ∃ k : Nat, i = .int .i64 k ∧ k ≤ len ∧ Hid (∀ j, j < k → atQ X j ≠ (x1, x2, x3, x4)) ∧ Own w.heap.size w [(g, 35, #[.int .i64 x1, .int .i64 x2, .int .i64 x3, .int .i64 x4])] wr) (fun i _ => len - (intOf i).toNat)
  case atStart => exact ⟨0, rfl, by omega, fun j hj => by omega, O1⟩
  case round =>
    obtain ⟨k, rfl, hk, HB, hO⟩ := hrel
    clear O1
    have HO := Lib.hid hO
    clear hO
    by_cases hlt : k < len
    · obtain ⟨b, off, rfl, hbl, -, -, -, -⟩ := HR.out.q_in HO.out.below (i := k) (by rw [HL.out]; omega)
      have HQ := Lib.hid (fun (wx : World) (hR : Ext wr wx) => HR.out.q_in (HO.out.ext hR).below (i := k) (by rw [HL.out]; omega))
      obtain ⟨z, hz⟩ : ∃ z : Bool, decide (((atQ X k).1, (atQ X k).2.1, (atQ X k).2.2.1, (atQ X k).2.2.2) = (x1, x2, x3, x4)) = z := ⟨_, rfl⟩
      have HEQ := Lib.hid (fun W => hz ▸ eq_q 9996 (atQ X k).1 (atQ X k).2.1 (atQ X k).2.2.1 (atQ X k).2.2.2 x1 x2 x3 x4 W)
      have HZ := Lib.hid (show z = true ↔ atQ X k = (x1, x2, x3, x4) by
        rw [← hz, decide_eq_true_iff])
      obtain ⟨y1, hy1⟩ : ∃ y, (atQ X k).1 = y := ⟨_, rfl⟩
      obtain ⟨y2, hy2⟩ : ∃ y, (atQ X k).2.1 = y := ⟨_, rfl⟩
      obtain ⟨y3, hy3⟩ : ∃ y, (atQ X k).2.2.1 = y := ⟨_, rfl⟩
      obtain ⟨y4, hy4⟩ : ∃ y, (atQ X k).2.2.2 = y := ⟨_, rfl⟩
      simp only [hy1, hy2, hy3, hy4] at HEQ HQ
      clear hz hy1 hy2 hy3 hy4
      go_upto_region 4 with fail
      refine wp_typed (R := Ext) (w0 := wr) [[], [], [0, 1], [0, 1, 2], [], [0, 1, 2, 3, 4]] [12, 13, 14, 15, 16, 17] Ext.refl (fun _ _ _ => Ext.trans) (Ext.drew _) (by kernel_rfl) ?_
      apply Build.det 12 Ext.refl (by rfl) (by rfl) rfl
      case h =>   -- 0: t12 := Op.move (tmp 0)
        intro ax wx hE hR hF
        have e0 : ax.eval (.tmp 0) = .slice (some ⟨b, off, none⟩) len cap := hE.eval 0 (by rfl) rfl
        simp [go_sem, BigFrame.eval_const, BigFrame.eval_global, BigFrame.eval_func, ↓IntWalk.iteOmega, ev e0]
        with_reducible rfl
      apply Build.det 13 Ext.refl (by rfl) (by rfl) rfl
      case h =>   -- 1: t13 := Op.move (tmp 5)
        intro ax wx hE hR hF
        have e5 : ax.eval (.tmp 5) = .int .i64 k := hE.eval 5 (by rfl) rfl
        simp [go_sem, BigFrame.eval_const, BigFrame.eval_global, BigFrame.eval_func, ↓IntWalk.iteOmega, ev e5]
        with_reducible rfl
      apply Build.det 14 Ext.refl (by rfl) (by rfl) rfl
      case h =>   -- 2: t14 := Op.indexAddr 27 (tmp 12) (tmp 13)
        intro ax wx hE hR hF
        have e12 : ax.eval (.tmp 12) = _ := hF 0 (det 12 _) (by decide) (.tail _ (.head _))
        have e13 : ax.eval (.tmp 13) = _ := hF 1 (det 13 _) (by decide) (.head _)
        simp [go_sem, BigFrame.eval_const, BigFrame.eval_global, BigFrame.eval_func, ↓IntWalk.iteOmega, ev e12, ev e13]
        with_reducible rfl
      apply Build.det 15 Ext.refl (by rfl) (by rfl) rfl
      case h =>   -- 3: t15 := Op.load 35 (tmp 14)
        intro ax wx hE hR hF
        have e14 : ax.eval (.tmp 14) = _ := hF 2 (det 14 _) (by decide) (.head _)
        obtain ⟨_, _, hA2, _, q0, q1, q2, q3⟩ := HQ.out wx hR; cases hA2; have hB := (HO.out.ext hR).all.1; have a0 := hB.cell 0; have a1 := hB.cell 1; have a2 := hB.cell 2; have a3 := hB.cell 3; simp at a0 a1 a2 a3
        simp [go_sem, BigFrame.eval_const, BigFrame.eval_global, BigFrame.eval_func, ↓IntWalk.iteOmega, ev e14, q0, q1, q2, q3, a0, a1, a2, a3]
        with_reducible rfl
      apply Build.det 16 Ext.refl (by rfl) (by rfl) rfl
      case h =>   -- 4: t16 := Op.load 35 (tmp 3)
        intro ax wx hE hR hF
        have e3 : ax.eval (.tmp 3) = .pointer (some ⟨g, 0, none⟩) := hE.eval 3 (by rfl) rfl
        obtain ⟨_, _, hA2, _, q0, q1, q2, q3⟩ := HQ.out wx hR; cases hA2; have hB := (HO.out.ext hR).all.1; have a0 := hB.cell 0; have a1 := hB.cell 1; have a2 := hB.cell 2; have a3 := hB.cell 3; simp at a0 a1 a2 a3
        simp [go_sem, BigFrame.eval_const, BigFrame.eval_global, BigFrame.eval_func, ↓IntWalk.iteOmega, ev e3, q0, q1, q2, q3, a0, a1, a2, a3]
        with_reducible rfl
      apply Build.det 17 Ext.refl (by rfl) (by rfl) rfl
      case h =>   -- 5: t17 := Op.binOp BinOp.eql 35 (tmp 15) (tmp 16) 35
        intro ax wx hE hR hF
        have e15 : ax.eval (.tmp 15) = _ := hF 3 (det 15 _) (by decide) (.tail _ (.head _))
        have e16 : ax.eval (.tmp 16) = _ := hF 4 (det 16 _) (by decide) (.head _)
        simp [go_sem, BigFrame.eval_const, BigFrame.eval_global, BigFrame.eval_func, ↓IntWalk.iteOmega, ev e15, ev e16, HEQ.out]
        with_reducible rfl
      apply Build.stop
      refine ⟨by kernel_rfl, .inl ⟨rfl, ?_⟩⟩
      intro ax w3 hE R3 hF
      have e12 : ax.eval (.tmp 12) = _ := hF 0 (det 12 _) (.tail _ (.tail _ (.tail _ (.tail _ (.tail _ (.head _))))))
      have e13 : ax.eval (.tmp 13) = _ := hF 1 (det 13 _) (.tail _ (.tail _ (.tail _ (.tail _ (.head _)))))
      have e14 : ax.eval (.tmp 14) = _ := hF 2 (det 14 _) (.tail _ (.tail _ (.tail _ (.head _))))
      have e15 : ax.eval (.tmp 15) = _ := hF 3 (det 15 _) (.tail _ (.tail _ (.head _)))
      have e16 : ax.eval (.tmp 16) = _ := hF 4 (det 16 _) (.tail _ (.head _))
      have e17 : ax.eval (.tmp 17) = _ := hF 5 (det 17 _) (.head _)
      rw [AllEq.frame (D := [12, 13, 14, 15, 16, 17]) (AllEq.cons e12 (AllEq.cons e13 (AllEq.cons e14 (AllEq.cons e15 (AllEq.cons e16 (AllEq.cons e17 (AllEq.nil))))))) hE rfl]
      clear hF hE e12 e13 e14 e15 e16 e17
      simp only [List.foldl_cons, List.foldl_nil, Act.put, List.setIfInBounds_toArray, List.set_cons_succ, List.set_cons_zero]
      have HO3 := Lib.hid (HO.out.ext R3)
      clear R3 HEQ HQ
      cases z
      · have hne : atQ X k ≠ (x1, x2, x3, x4) := fun h => by have := HZ.out.2 h; cases this
        have HB2 : Hid (∀ j, j < k + 1 → atQ X j ≠ (x1, x2, x3, x4)) := Lib.hid (fun j hj => by
          by_cases e : j = k
          · subst e; exact hne
          · exact HB.out j (by omega))
        clear hne
        go_wp2_with fail
        go_roundw
        case rel => exact ⟨k + 1, by go_num, by omega, HB2, HO3.out⟩
        case measure => simp [intOf]; omega
      · have hrk : zz = true := by
          rw [← HI.out, decide_eq_true_iff, ← HZ.out.1 rfl, ← atQ_eq (by rw [HL.out]; exact hlt)]
          exact List.getElem_mem _
        have HRK := Lib.hid hrk
        have HE := Lib.hid HO3.out.below
        clear hrk
        go_wp2_with fail
        go_ret
        exact ⟨by rw [HRK.out]; rfl, HE.out⟩
    · have hrk : zz = false := by
        rw [← HI.out, decide_eq_false_iff_not]
        intro h
        obtain ⟨j, hj, e⟩ := List.getElem_of_mem h
        rw [atQ_eq hj] at e
        exact HB.out j (by rw [HL.out] at hj; omega) e
      have HRK := Lib.hid hrk
      have HE := Lib.hid HO.out.below
      clear hrk
      go_wp2_with fail
      go_ret
      exact ⟨by rw [HRK.out]; rfl, HE.out⟩
end Go.Proofs.Ytdpohbaeopidmaa

/- The reference of owners: Of, Remove, Add. -/
namespace Go.Proofs.Ytdpohbaeopidmaa
set_option linter.unusedVariables false
set_option linter.unusedSimpArgs false
open Go.RowKit

abbrev zQ : Value := .agg #[.int .i64 0, .int .i64 0, .int .i64 0, .int .i64 0]
theorem info_q : ∃ i : TypeInfo, Try.prog.info? 35 = some i ∧ i.zero = some zQ ∧ i.size = 4 ∧ i.bytes = 32 := by
  have h : (Try.prog.info? 35).map (fun i => (i.zero, i.size, i.bytes)) = some (some zQ, 4, 32) := by kernel_rfl
  exact info_parts h
section
variable {H : Nat} {A w : World} {R : List Thing} {T : TypeId} {k n : Nat} {v : Value} {xs : List Value}
theorem OwnT.rowBase (h : OwnT H A (tRow T k v n xs :: R) w) : w.ownsRow H T k v n xs := by
  have hr := h.r0
  refine ⟨hr.1, ?_⟩
  rcases hr.2 with hn | ⟨g, cap, cur, rfl, _, rest⟩
  · exact .inl hn
  · exact .inr ⟨g, cap, cur, rfl, h.high (tRow T k (.slice (some ⟨g, 0, none⟩) n cap) n xs) (by simp) g (by simp [tRow, Value.ownBlock]), rest⟩
theorem OwnT.appendOne {P : Program} (h : OwnT H A (tRow T k v n xs :: R) w) (t : TypeId) (i : TypeInfo) (z : Value) (bytes : Nat) (ht : P.underlying t = some (.slice T)) (hi : P.info? T = some i) (hz : i.zero = some z)
    (hsize : i.size = k) (hby : i.bytes = bytes) (hzs : z.cells.size = k) (hk : 0 < k) (g : Nat) (tg : TypeId) (news : List Value) (hb : Blk w g tg news.toArray) (hl : news.length = k) (h1 : ∀ u ∈ news, u.oneCell' = true)
    (h63 : n + 1 ≤ maxLen) (hbytes : (n + 1) * bytes ≤ 140737488355328) :
    ∃ v' w', (∀ ty, (Builtin.append_ #[t, t] ty #[v, .slice (some ⟨g, 0, none⟩) 1 1]).run P w = .ok v' w') ∧ OwnT H A (tRow T k v' (n + 1) (xs ++ news) :: R) w' := by
  obtain ⟨v', w', hrun, h2, h3, h4⟩ := run_append_fresh (P := P) w t t T i z k bytes ht hi hz hsize hby hzs hk v n xs h.r0 ⟨g, 0, none⟩ 1 1 news (by omega) (fun j u hu => by
    have := hb.cell j
    have hadd : (⟨g, 0, none⟩ : Addr).add j = ⟨g, j, none⟩ := by unfold Addr.add; split <;> simp_all
    rw [hadd, this]
    simpa using hu) h1 h63 hbytes
  exact ⟨v', w', fun _ => hrun, h.row h2 h3 h4⟩
theorem OwnT.emptyRow (h : OwnT H A R w) (T : TypeId) (k : Nat) : OwnT H A (tRow T k (.slice (some ⟨w.heap.size, 0, none⟩) 0 0) 0 [] :: R) (w.alloc (.cells #[] T)) :=
  h.cons (Ext.alloc w _) _ (row_of (Blk.new w T #[]) (Nat.le_refl _) (by decide) (by simp) (by simp)) (fun i hi => by simp [tRow, Value.ownBlock] at hi; omega)
end

/-- A chunk's owners, of all. -/
def ofQ (X : List QD) (c : Int) : List OwD := X.filterMap fun y => if y.1 = c then some y.2 else none
theorem ofQ_len (X : List QD) (c : Int) : (ofQ X c).length ≤ X.length := List.length_filterMap_le _ _
theorem drop_atQ {X : List QD} {k : Nat} (h : k < X.length) : X.drop k = atQ X k :: X.drop (k + 1) := by rw [List.drop_eq_getElem_cons h, atQ_eq h]
set_option maxRecDepth 100000 in
set_option maxHeartbeats 4000000 in
theorem of_any (A : Option Addr) (len cap : Nat) (X : List QD) (c : Int) (w : World) (hlen : X.length = len) (hm : len ≤ 1000000000) (hrow : Row w A 4 qC X) :
    Calls Try.prog 19 #[.slice A len cap, .int .i64 c] w fun e w' => ∃ v, e = .returned v ∧ w'.ownsRow w.heap.size 31 3 v (ofQ X c).length ((ofQ X c).flatMap ownC) ∧ Ext w w' := by
  have HL := Lib.hid hlen
  have HR := Lib.hid hrow
  clear hlen hrow
  go_enter Try.func19, Try.ntmps19
  go_wp2_with fail
  have O1 := (OwnT.start w).emptyRow 31 3
  obtain ⟨v0, hv0⟩ : ∃ v, Value.slice (some ⟨w.heap.size, 0, none⟩) 0 0 = v := ⟨_, rfl⟩
  rw [hv0] at O1 ⊢
  generalize w.alloc (.cells #[] 31) = w1 at O1 ⊢
  go_loopw [5, 6] (fun s i wr => ∃ (v : Value) (k : Nat) (Z : List OwD), v = s ∧ i = .int .i64 k ∧ k ≤ len ∧ Hid (Z ++ ofQ (X.drop k) c = ofQ X c) ∧ Hid (OwnT w.heap.size w [tRow 31 3 v Z.length (Z.flatMap ownC)] wr)) (fun _ i _ => len - (intOf i).toNat)
  case atStart => exact ⟨_, 0, [], rfl, rfl, by omega, Lib.hid (by simp), Lib.hid O1⟩
  case round =>
    obtain ⟨v, k, Z, rfl, rfl, hk, HZ, HO⟩ := hrel
    clear O1 hv0
    by_cases hlt : k < len
    · obtain ⟨b, off, rfl, hbl, q0, q1, q2, q3⟩ := HR.out.q_in HO.out.below (i := k) (by rw [HL.out]; omega)
      have hdr := drop_atQ (X := X) (k := k) (by rw [HL.out]; omega)
      have HZl := Lib.hid (show Z.length ≤ len by
        have h1 := congrArg List.length HZ.out
        have h2 := ofQ_len X c
        rw [List.length_append] at h1
        rw [HL.out] at h2
        omega)
      by_cases hc : (atQ X k).1 = c
      · have HZ2 := Lib.hid (show (Z ++ [(atQ X k).2]) ++ ofQ (X.drop (k + 1)) c = ofQ X c by
          rw [← HZ.out, hdr, List.append_assoc]
          unfold ofQ
          rw [List.filterMap_cons, if_pos hc]
          rfl)
        obtain ⟨ti, hi0, hz0, hsz0, hby0⟩ := info_own
        obtain ⟨x2, hx2⟩ : ∃ x, (atQ X k).2 = x := ⟨_, rfl⟩
        rw [hx2] at HZ2
        obtain ⟨y2, y3, y4⟩ := x2
        obtain ⟨y1, hy1⟩ : ∃ y, (atQ X k).1 = y := ⟨_, rfl⟩
        rw [hx2] at q1 q2 q3
        rw [hy1] at q0 hc
        subst hc
        have ho1 := (HO.out.other (.cells #[.int .i64 y2, .int .i64 y3, .int .i64 y4] 31))
        obtain ⟨v', w', hrun, O2⟩ := ho1.appendOne (P := Try.prog) 42 ti zOwn 24 Try.underlying42 hi0 hz0 hsz0 hby0 rfl (by decide) _ 31 (ownC (y2, y3, y4)) (Blk.new wr 31 #[.int .i64 y2, .int .i64 y3, .int .i64 y4]) rfl (ownC_one _) (by have := HZl.out; unfold maxLen; omega) (by have := HZl.out; omega)
        have HAP := Lib.hid hrun
        have HO2 : Hid (OwnT w.heap.size w [tRow 31 3 v' (Z ++ [(y2, y3, y4)]).length ((Z ++ [(y2, y3, y4)]).flatMap ownC)] w') := Lib.hid (by
          rw [List.flatMap_append, List.length_append]
          simpa using O2)
        clear hrun O2 ho1 hdr hx2 HZ
        go_wp2_with ((with_reducible refine wpList_append_run (o := ⟨some 28, _, _, _, _, _⟩) rfl _ _ _ _ rfl _ _ rfl rfl (HAP.out _) ?_))
        go_roundw
        case rel => exact ⟨_, k + 1, _, rfl, by go_num, by omega, HZ2, HO2⟩
        case measure => simp [intOf]; omega
      · have HZ2 := Lib.hid (show Z ++ ofQ (X.drop (k + 1)) c = ofQ X c by
          rw [← HZ.out, hdr]
          unfold ofQ
          rw [List.filterMap_cons, if_neg hc])
        obtain ⟨y1, hy1⟩ : ∃ y, (atQ X k).1 = y := ⟨_, rfl⟩
        rw [hy1] at q0 hc
        clear q1 q2 q3 hdr HZ
        go_wp2_with fail
        go_roundw
        case rel => exact ⟨v, k + 1, Z, rfl, by go_num, by omega, HZ2, HO⟩
        case measure => simp [intOf]; omega
    · go_wp2_with fail
      go_ret
      have hz : Z = ofQ X c := by
        rw [← HZ.out, List.drop_of_length_le (by rw [HL.out]; omega)]
        simp [ofQ]
      rw [← hz]
      exact ⟨v, rfl, HO.out.rowBase, HO.out.below⟩
end Go.Proofs.Ytdpohbaeopidmaa

/- The reference of owners: Remove, Add. -/
namespace Go.Proofs.Ytdpohbaeopidmaa
set_option linter.unusedVariables false
set_option linter.unusedSimpArgs false
open Go.RowKit

def remQ (X : List QD) (x : QD) : List QD := X.filter fun y => !decide (y = x)
def insQ (x : QD) : List QD → List QD
  | [] => [x]
  | y :: r => if ltQ x y then x :: y :: r else y :: insQ x r
theorem insQ_len (x : QD) : ∀ X, (insQ x X).length = X.length + 1
  | [] => rfl
  | y :: r => by
    unfold insQ
    split
    · rfl
    · rw [List.length_cons, insQ_len x r, List.length_cons]
/-- One more at the end. -/
theorem OwnT.appendQ {H : Nat} {A w : World} {R : List Thing} {v : Value} {Z : List QD} (h : OwnT H A (tRow 35 4 v Z.length (Z.flatMap qC) :: R) w) (g : Nat) (x : QD) (hb : Blk w g 35 (qC x).toArray) (hn : Z.length ≤ 1000000000) :
    ∃ v' w', (∀ ty, (Builtin.append_ #[27, 27] ty #[v, .slice (some ⟨g, 0, none⟩) 1 1]).run Try.prog w = .ok v' w') ∧ OwnT H A (tRow 35 4 v' (Z ++ [x]).length ((Z ++ [x]).flatMap qC) :: R) w' := by
  obtain ⟨ti, hi0, hz0, hsz0, hby0⟩ := info_q
  obtain ⟨v', w', hrun, O2⟩ := h.appendOne (P := Try.prog) 27 ti zQ 32 Try.underlying27 hi0 hz0 hsz0 hby0 rfl (by decide) g 35 (qC x) hb (qC_len x) (qC_one _) (by unfold maxLen; omega) (by omega)
  exact ⟨v', w', hrun, by rw [List.flatMap_append, List.length_append]; simpa using O2⟩
set_option maxRecDepth 100000 in
set_option maxHeartbeats 4000000 in
theorem remq_any (A : Option Addr) (len cap : Nat) (X : List QD) (x : QD) (w : World) (hlen : X.length = len) (hm : len ≤ 1000000000) (hrow : Row w A 4 qC X) :
    Calls Try.prog 18 #[.slice A len cap, qV x] w fun e w' => ∃ v, e = .returned v ∧ w'.ownsRow w.heap.size 35 4 v (remQ X x).length ((remQ X x).flatMap qC) ∧ Ext w w' := by
  have HL := Lib.hid hlen
  have HR := Lib.hid hrow
  clear hlen hrow
  obtain ⟨x1, x2, x3, x4⟩ := x
  unfold qV
  go_enter Try.func18, Try.ntmps18
  go_wp2_with fail
  have O1 := ((OwnT.start w).new 35 #[.int .i64 x1, .int .i64 x2, .int .i64 x3, .int .i64 x4]).emptyRow 35 4
  simp only [World.size_alloc] at O1
  obtain ⟨g, hg⟩ : ∃ g, w.heap.size = g := ⟨_, rfl⟩
  obtain ⟨v0, hv0⟩ : ∃ v, Value.slice (some ⟨w.heap.size + 1, 0, none⟩) 0 0 = v := ⟨_, rfl⟩
  rw [hv0] at O1 ⊢
  generalize (w.alloc (.cells #[.int .i64 x1, .int .i64 x2, .int .i64 x3, .int .i64 x4] 35)).alloc (.cells #[] 35) = w1 at O1 ⊢
  have O1 : OwnT w.heap.size w [tRow 35 4 v0 0 [], tBlk g 35 #[.int .i64 x1, .int .i64 x2, .int .i64 x3, .int .i64 x4]] w1 := hg ▸ O1
  rw [hg]
  clear hg hv0
  go_loopw [5, 6] (fun s i wr => ∃ (v : Value) (k : Nat) (Z : List QD), v = s ∧ i = .int .i64 k ∧ k ≤ len ∧ Hid (Z ++ remQ (X.drop k) (x1, x2, x3, x4) = remQ X (x1, x2, x3, x4)) ∧ Hid (OwnT w.heap.size w [tRow 35 4 v Z.length (Z.flatMap qC), tBlk g 35 #[.int .i64 x1, .int .i64 x2, .int .i64 x3, .int .i64 x4]] wr)) (fun _ i _ => len - (intOf i).toNat)
  case atStart => exact ⟨_, 0, [], rfl, rfl, by omega, Lib.hid (by simp), Lib.hid O1⟩
  case round =>
    obtain ⟨v, k, Z, rfl, rfl, hk, HZ, HO⟩ := hrel
    clear O1
    by_cases hlt : k < len
    · have HQ := Lib.hid (fun (wx : World) (hR : Ext wr wx) => HR.out.q_in (HO.out.ext hR).below (i := k) (by rw [HL.out]; omega))
      obtain ⟨b, off, rfl, hbl, -, -, -, -⟩ := HQ.out wr (Ext.refl _)
      have hdr := drop_atQ (X := X) (k := k) (by rw [HL.out]; omega)
      have HZl := Lib.hid (show Z.length ≤ 1000000000 by
        have h1 := congrArg List.length HZ.out
        have h2 : (remQ X (x1, x2, x3, x4)).length ≤ X.length := List.length_filter_le _ _
        rw [List.length_append] at h1
        rw [HL.out] at h2
        omega)
      obtain ⟨xk, hxk⟩ : ∃ x, atQ X k = x := ⟨_, rfl⟩
      rw [hxk] at hdr HQ
      obtain ⟨y1, y2, y3, y4⟩ := xk
      obtain ⟨z, hz⟩ : ∃ z : Bool, decide ((y1, y2, y3, y4) = (x1, x2, x3, x4)) = z := ⟨_, rfl⟩
      have HEQ := Lib.hid (fun W => hz ▸ eq_q 9996 y1 y2 y3 y4 x1 x2 x3 x4 W)
      have HZ2 := Lib.hid (show Z ++ ((if !z then [(y1, y2, y3, y4)] else []) ++ remQ (X.drop (k + 1)) (x1, x2, x3, x4)) = remQ X (x1, x2, x3, x4) by
        rw [← HZ.out, hdr]
        unfold remQ
        rw [List.filter_cons, hz]
        cases z <;> rfl)
      clear hz hxk hdr HZ
      go_upto_region 5 with fail
      refine wp_typed (R := Ext) (w0 := wr) [[], [], [0, 1], [0, 1, 2], [], [0, 1, 2, 3, 4]] [14, 15, 16, 17, 18, 19] Ext.refl (fun _ _ _ => Ext.trans) (Ext.drew _) (by kernel_rfl) ?_
      apply Build.det 14 Ext.refl (by rfl) (by rfl) rfl
      case h =>   -- 0: t14 := Op.move (tmp 0)
        intro ax wx hE hR hF
        have e0 : ax.eval (.tmp 0) = .slice (some ⟨b, off, none⟩) len cap := hE.eval 0 (by rfl) rfl
        simp [go_sem, BigFrame.eval_const, BigFrame.eval_global, BigFrame.eval_func, ↓IntWalk.iteOmega, ev e0]
        with_reducible rfl
      apply Build.det 15 Ext.refl (by rfl) (by rfl) rfl
      case h =>   -- 1: t15 := Op.move (tmp 6)
        intro ax wx hE hR hF
        have e6 : ax.eval (.tmp 6) = .int .i64 k := hE.eval 6 (by rfl) rfl
        simp [go_sem, BigFrame.eval_const, BigFrame.eval_global, BigFrame.eval_func, ↓IntWalk.iteOmega, ev e6]
        with_reducible rfl
      apply Build.det 16 Ext.refl (by rfl) (by rfl) rfl
      case h =>   -- 2: t16 := Op.indexAddr 27 (tmp 14) (tmp 15)
        intro ax wx hE hR hF
        have e14 : ax.eval (.tmp 14) = _ := hF 0 (det 14 _) (by decide) (.tail _ (.head _))
        have e15 : ax.eval (.tmp 15) = _ := hF 1 (det 15 _) (by decide) (.head _)
        simp [go_sem, BigFrame.eval_const, BigFrame.eval_global, BigFrame.eval_func, ↓IntWalk.iteOmega, ev e14, ev e15]
        with_reducible rfl
      apply Build.det 17 Ext.refl (by rfl) (by rfl) rfl
      case h =>   -- 3: t17 := Op.load 35 (tmp 16)
        intro ax wx hE hR hF
        have e16 : ax.eval (.tmp 16) = _ := hF 2 (det 16 _) (by decide) (.head _)
        obtain ⟨_, _, hA2, _, q0, q1, q2, q3⟩ := HQ.out wx hR; cases hA2; have hB := (HO.out.ext hR).b1; have a0 := hB.cell 0; have a1 := hB.cell 1; have a2 := hB.cell 2; have a3 := hB.cell 3; simp at a0 a1 a2 a3 q0 q1 q2 q3
        simp [go_sem, BigFrame.eval_const, BigFrame.eval_global, BigFrame.eval_func, ↓IntWalk.iteOmega, ev e16, q0, q1, q2, q3, a0, a1, a2, a3]
        with_reducible rfl
      apply Build.det 18 Ext.refl (by rfl) (by rfl) rfl
      case h =>   -- 4: t18 := Op.load 35 (tmp 3)
        intro ax wx hE hR hF
        have e3 : ax.eval (.tmp 3) = .pointer (some ⟨g, 0, none⟩) := hE.eval 3 (by rfl) rfl
        obtain ⟨_, _, hA2, _, q0, q1, q2, q3⟩ := HQ.out wx hR; cases hA2; have hB := (HO.out.ext hR).b1; have a0 := hB.cell 0; have a1 := hB.cell 1; have a2 := hB.cell 2; have a3 := hB.cell 3; simp at a0 a1 a2 a3 q0 q1 q2 q3
        simp [go_sem, BigFrame.eval_const, BigFrame.eval_global, BigFrame.eval_func, ↓IntWalk.iteOmega, ev e3, q0, q1, q2, q3, a0, a1, a2, a3]
        with_reducible rfl
      apply Build.det 19 Ext.refl (by rfl) (by rfl) rfl
      case h =>   -- 5: t19 := Op.binOp BinOp.neq 35 (tmp 17) (tmp 18) 35
        intro ax wx hE hR hF
        have e17 : ax.eval (.tmp 17) = _ := hF 3 (det 17 _) (by decide) (.tail _ (.head _))
        have e18 : ax.eval (.tmp 18) = _ := hF 4 (det 18 _) (by decide) (.head _)
        simp [go_sem, BigFrame.eval_const, BigFrame.eval_global, BigFrame.eval_func, ↓IntWalk.iteOmega, ev e17, ev e18, HEQ.out]
        with_reducible rfl
      apply Build.stop
      refine ⟨by kernel_rfl, .inl ⟨rfl, ?_⟩⟩
      intro ax w3 hE R3 hF
      have e14 : ax.eval (.tmp 14) = _ := hF 0 (det 14 _) (.tail _ (.tail _ (.tail _ (.tail _ (.tail _ (.head _))))))
      have e15 : ax.eval (.tmp 15) = _ := hF 1 (det 15 _) (.tail _ (.tail _ (.tail _ (.tail _ (.head _)))))
      have e16 : ax.eval (.tmp 16) = _ := hF 2 (det 16 _) (.tail _ (.tail _ (.tail _ (.head _))))
      have e17 : ax.eval (.tmp 17) = _ := hF 3 (det 17 _) (.tail _ (.tail _ (.head _)))
      have e18 : ax.eval (.tmp 18) = _ := hF 4 (det 18 _) (.tail _ (.head _))
      have e19 : ax.eval (.tmp 19) = _ := hF 5 (det 19 _) (.head _)
      rw [AllEq.frame (D := [14, 15, 16, 17, 18, 19]) (AllEq.cons e14 (AllEq.cons e15 (AllEq.cons e16 (AllEq.cons e17 (AllEq.cons e18 (AllEq.cons e19 (AllEq.nil))))))) hE rfl]
      clear hF hE e14 e15 e16 e17 e18 e19
      simp only [List.foldl_cons, List.foldl_nil, Act.put, List.setIfInBounds_toArray, List.set_cons_succ, List.set_cons_zero]
      have HO3 := Lib.hid (HO.out.ext R3)
      obtain ⟨_, _, hA2, _, q0, q1, q2, q3⟩ := HQ.out w3 R3
      cases hA2
      simp at q0 q1 q2 q3
      clear R3 HEQ HQ HO
      cases z
      · obtain ⟨v', w', hrun, O2⟩ := (HO3.out.other (.cells #[.int .i64 y1, .int .i64 y2, .int .i64 y3, .int .i64 y4] 35)).appendQ w3.heap.size (y1, y2, y3, y4) (Blk.new w3 35 #[.int .i64 y1, .int .i64 y2, .int .i64 y3, .int .i64 y4]) HZl.out
        have HAP := Lib.hid hrun
        have HO2 := Lib.hid O2
        have HZ3 := Lib.hid (show (Z ++ [(y1, y2, y3, y4)]) ++ remQ (X.drop (k + 1)) (x1, x2, x3, x4) = remQ X (x1, x2, x3, x4) by rw [List.append_assoc]; exact HZ2.out)
        clear hrun O2
        go_wp2_with ((with_reducible refine wpList_append_run (o := ⟨some 26, _, _, _, _, _⟩) rfl _ _ _ _ rfl _ _ rfl rfl (HAP.out _) ?_))
        go_roundw
        case rel => exact ⟨_, k + 1, _, rfl, by go_num, by omega, HZ3, HO2⟩
        case measure => simp [intOf]; omega
      · have HZ3 := Lib.hid (show Z ++ remQ (X.drop (k + 1)) (x1, x2, x3, x4) = remQ X (x1, x2, x3, x4) from HZ2.out)
        clear q0 q1 q2 q3
        go_wp2_with fail
        go_roundw
        case rel => exact ⟨v, k + 1, Z, rfl, by go_num, by omega, HZ3, HO3⟩
        case measure => simp [intOf]; omega
    · go_wp2_with fail
      go_ret
      have hz : Z = remQ X (x1, x2, x3, x4) := by
        rw [← HZ.out, List.drop_of_length_le (by rw [HL.out]; omega)]
        simp [remQ]
      rw [← hz]
      exact ⟨v, rfl, HO.out.rowBase, HO.out.below⟩
end Go.Proofs.Ytdpohbaeopidmaa
