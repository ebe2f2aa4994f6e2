/- owners: slices.Index, ContainsFunc of another one, Clone. -/
import Derived.Test.YtdpohbaeopidmaaKOwnersExact05
import Derived.Test.YtdpohbaeopidmaaKOwnersExact06
import Derived.Laws.StructEq
import Derived.Test.YtdpohbaeopidmaaKOwnersExact01
import Derived.Maps.RangeWalk
import Derived.Maps.OwnSet
import Derived.Maps.OwnOps
namespace Go.Proofs.Ytdpohbaeopidmaa
set_option linter.unusedVariables false
set_option linter.unusedSimpArgs false
open Go.RowKit

theorem own_fields : Try.prog.underlying 31 = some (.struct (Try.prog.fieldsOf 31)) := by kernel_rfl
theorem own_held : Try.prog.stoodInHeld 31 = false := by kernel_rfl
theorem part_o0 (w : World) (x y z : Value) : (part 3 #[x, y, z] 0).run Try.prog w = .ok x w := by kernel_rfl
theorem part_o1 (w : World) (x y z : Value) : (part 3 #[x, y, z] 1).run Try.prog w = .ok y w := by kernel_rfl
theorem part_o2 (w : World) (x y z : Value) : (part 3 #[x, y, z] 2).run Try.prog w = .ok z w := by kernel_rfl
theorem eq_own (d : Nat) (a b c a' b' c' : Int) (w : World) : (Op.equalIn (d + 2) 31 (.agg #[.int .i64 a, .int .i64 b, .int .i64 c]) (.agg #[.int .i64 a', .int .i64 b', .int .i64 c'])).run Try.prog w = .ok (decide ((a, b, c) = (a', b', c'))) w := by
  have h0 := fun W x y => run_equalIn_int (P := Try.prog) W d 3 .i64 .i64 x y Try.underlying3
  rw [run_equalIn_struct w (d + 1) _ _ _ own_fields own_held]
  have hf : (Try.prog.fieldsOf 31).toList.map (fun f => (f.name, f.type, f.offset)) = [("Volume", 3, 0), ("Birth", 3, 1), ("At", 3, 2)] := by kernel_rfl
  generalize (Try.prog.fieldsOf 31).toList = L at hf ⊢
  obtain ⟨f, g, k, rfl⟩ : ∃ f g k, L = [f, g, k] := by
    rcases L with _ | ⟨f, _ | ⟨g, _ | ⟨k, _ | ⟨h, L⟩⟩⟩⟩
    · exact absurd (congrArg List.length hf) (by simp)
    · exact absurd (congrArg List.length hf) (by simp)
    · exact absurd (congrArg List.length hf) (by simp)
    · exact ⟨f, g, k, rfl⟩
    · exact absurd (congrArg List.length hf) (by simp)
  simp only [List.map_cons, List.map_nil, List.cons.injEq, Prod.mk.injEq, and_true] at hf
  obtain ⟨⟨n1, t1, o1⟩, ⟨n2, t2, o2⟩, n3, t3, o3⟩ := hf
  by_cases ha : a = a' <;> by_cases hb : b = b' <;> by_cases hc : c = c' <;> simp [Op.eqFields, n1, n2, n3, t1, t2, t3, o1, o2, o3, Sem.run_bind, Sem.run_ite, part_o0, part_o1, part_o2, h0, ha, hb, hc]

/-- r is the first place of x, or -1. -/
def IdxIs (X : List OwD) (x : OwD) (r : Int) : Prop := (∃ i : Nat, i < X.length ∧ r = i ∧ atO X i = x ∧ ∀ j, j < i → atO X j ≠ x) ∨ (r = -1 ∧ ∀ j, j < X.length → atO X j ≠ x)
set_option maxRecDepth 100000 in
set_option maxHeartbeats 4000000 in
theorem indexO_any (A : Option Addr) (len cap : Nat) (X : List OwD) (x : OwD) (w : World) (hlen : X.length = len) (hm : len ≤ 1000000000000) (hrow : Row w A 3 ownC X) (r : Int) (hr : IdxIs X x r) :
    Calls Try.prog 70 #[.slice A len cap, ownV x] w fun e w' => e = .returned (.int .i64 r) ∧ Ext w w' := by
  have HL := Lib.hid hlen
  have HR := Lib.hid hrow
  have HI := Lib.hid hr
  clear hlen hrow hr
  obtain ⟨x1, x2, x3⟩ := x
  unfold ownV
  go_enter Try.func70, Try.ntmps70
  go_wp2_with fail
  have O1 := (Own.start w).new 31 #[.int .i64 x1, .int .i64 x2, .int .i64 x3]
  generalize w.alloc (.cells #[.int .i64 x1, .int .i64 x2, .int .i64 x3] 31) = w1 at O1 ⊢
  obtain ⟨g, hg⟩ : ∃ g, w.heap.size = g := ⟨_, rfl⟩
  have O1 : Own w.heap.size w [(g, 31, #[.int .i64 x1, .int .i64 x2, .int .i64 x3])] w1 := hg ▸ O1
  rw [hg]
  clear hg
  go_loopw [8] (fun i wr => ∃ k : Nat, i = .int .i64 k ∧ k ≤ len ∧ Hid (∀ j, j < k → atO X j ≠ (x1, x2, x3)) ∧ Own w.heap.size w [(g, 31, #[.int .i64 x1, .int .i64 x2, .int .i64 x3])] wr) (fun i _ => len - (intOf i).toNat)
  case atStart => exact ⟨0, rfl, by omega, fun j hj => by omega, O1⟩
  case round =>
    obtain ⟨k, rfl, hk, HB, hO⟩ := hrel
    clear O1
    have HO := Lib.hid hO
    clear hO
    by_cases hlt : k < len
    · obtain ⟨b, off, rfl, hbl, -, -, -⟩ := HR.out.own_in HO.out.below (i := k) (by rw [HL.out]; omega)
      have HQ := Lib.hid (fun (wx : World) (hR : Ext wr wx) => HR.out.own_in (HO.out.ext hR).below (i := k) (by rw [HL.out]; omega))
      obtain ⟨z, hz⟩ : ∃ z : Bool, decide ((x1, x2, x3) = ((atO X k).1, (atO X k).2.1, (atO X k).2.2)) = z := ⟨_, rfl⟩
      have HEQ := Lib.hid (fun W => hz ▸ eq_own 9998 x1 x2 x3 (atO X k).1 (atO X k).2.1 (atO X k).2.2 W)
      have HZ := Lib.hid (show z = true ↔ atO X k = (x1, x2, x3) by
        rw [← hz, decide_eq_true_iff]
        exact ⟨fun h => h.symm, fun h => h.symm⟩)
      obtain ⟨y1, hy1⟩ : ∃ y, (atO X k).1 = y := ⟨_, rfl⟩
      obtain ⟨y2, hy2⟩ : ∃ y, (atO X k).2.1 = y := ⟨_, rfl⟩
      obtain ⟨y3, hy3⟩ : ∃ y, (atO X k).2.2 = y := ⟨_, rfl⟩
      simp only [hy1, hy2, hy3] at HEQ HQ
      clear hz hy1 hy2 hy3
      go_upto_region 4 with fail
      refine wp_typed (R := Ext) (w0 := wr) [[], [], [], [1, 2], [1, 2, 3], [0, 1, 2, 3, 4]] [11, 12, 13, 14, 15, 16] Ext.refl (fun _ _ _ => Ext.trans) (Ext.drew _) (by kernel_rfl) ?_
      apply Build.det 11 Ext.refl (by rfl) (by rfl) rfl
      case h =>   -- 0: t11 := Op.load 31 (tmp 3)
        intro ax wx hE hR hF
        have e3 : ax.eval (.tmp 3) = .pointer (some ⟨g, 0, none⟩) := hE.eval 3 (by rfl) rfl
        obtain ⟨_, _, hA2, _, q0, q1, q2⟩ := HQ.out wx hR; cases hA2; have hB := (HO.out.ext hR).all.1; have a0 := hB.cell 0; have a1 := hB.cell 1; have a2 := hB.cell 2; simp at a0 a1 a2
        simp [go_sem, BigFrame.eval_const, BigFrame.eval_global, BigFrame.eval_func, ↓IntWalk.iteOmega, ev e3, q0, q1, q2, a0, a1, a2]
        with_reducible rfl
      apply Build.det 12 Ext.refl (by rfl) (by rfl) rfl
      case h =>   -- 1: t12 := Op.move (tmp 0)
        intro ax wx hE hR hF
        have e0 : ax.eval (.tmp 0) = .slice (some ⟨b, off, none⟩) len cap := hE.eval 0 (by rfl) rfl
        simp [go_sem, BigFrame.eval_const, BigFrame.eval_global, BigFrame.eval_func, ↓IntWalk.iteOmega, ev e0]
        with_reducible rfl
      apply Build.det 13 Ext.refl (by rfl) (by rfl) rfl
      case h =>   -- 2: t13 := Op.move (tmp 5)
        intro ax wx hE hR hF
        have e5 : ax.eval (.tmp 5) = .int .i64 k := hE.eval 5 (by rfl) rfl
        simp [go_sem, BigFrame.eval_const, BigFrame.eval_global, BigFrame.eval_func, ↓IntWalk.iteOmega, ev e5]
        with_reducible rfl
      apply Build.det 14 Ext.refl (by rfl) (by rfl) rfl
      case h =>   -- 3: t14 := Op.indexAddr 42 (tmp 12) (tmp 13)
        intro ax wx hE hR hF
        have e12 : ax.eval (.tmp 12) = _ := hF 1 (det 12 _) (by decide) (.tail _ (.head _))
        have e13 : ax.eval (.tmp 13) = _ := hF 2 (det 13 _) (by decide) (.head _)
        simp [go_sem, BigFrame.eval_const, BigFrame.eval_global, BigFrame.eval_func, ↓IntWalk.iteOmega, ev e12, ev e13]
        with_reducible rfl
      apply Build.det 15 Ext.refl (by rfl) (by rfl) rfl
      case h =>   -- 4: t15 := Op.load 31 (tmp 14)
        intro ax wx hE hR hF
        have e14 : ax.eval (.tmp 14) = _ := hF 3 (det 14 _) (by decide) (.head _)
        obtain ⟨_, _, hA2, _, q0, q1, q2⟩ := HQ.out wx hR; cases hA2; have hB := (HO.out.ext hR).all.1; have a0 := hB.cell 0; have a1 := hB.cell 1; have a2 := hB.cell 2; simp at a0 a1 a2
        simp [go_sem, BigFrame.eval_const, BigFrame.eval_global, BigFrame.eval_func, ↓IntWalk.iteOmega, ev e14, q0, q1, q2, a0, a1, a2]
        with_reducible rfl
      apply Build.det 16 Ext.refl (by rfl) (by rfl) rfl
      case h =>   -- 5: t16 := Op.binOp BinOp.eql 31 (tmp 11) (tmp 15) 31
        intro ax wx hE hR hF
        have e11 : ax.eval (.tmp 11) = _ := hF 0 (det 11 _) (by decide) (.tail _ (.tail _ (.tail _ (.tail _ (.head _)))))
        have e15 : ax.eval (.tmp 15) = _ := hF 4 (det 15 _) (by decide) (.head _)
        simp [go_sem, BigFrame.eval_const, BigFrame.eval_global, BigFrame.eval_func, ↓IntWalk.iteOmega, ev e11, ev e15, HEQ.out]
        with_reducible rfl
      apply Build.stop
      refine ⟨by kernel_rfl, .inl ⟨rfl, ?_⟩⟩
      intro ax w3 hE R3 hF
      have e11 : ax.eval (.tmp 11) = _ := hF 0 (det 11 _) (.tail _ (.tail _ (.tail _ (.tail _ (.tail _ (.head _))))))
      have e12 : ax.eval (.tmp 12) = _ := hF 1 (det 12 _) (.tail _ (.tail _ (.tail _ (.tail _ (.head _)))))
      have e13 : ax.eval (.tmp 13) = _ := hF 2 (det 13 _) (.tail _ (.tail _ (.tail _ (.head _))))
      have e14 : ax.eval (.tmp 14) = _ := hF 3 (det 14 _) (.tail _ (.tail _ (.head _)))
      have e15 : ax.eval (.tmp 15) = _ := hF 4 (det 15 _) (.tail _ (.head _))
      have e16 : ax.eval (.tmp 16) = _ := hF 5 (det 16 _) (.head _)
      rw [AllEq.frame (D := [11, 12, 13, 14, 15, 16]) (AllEq.cons e11 (AllEq.cons e12 (AllEq.cons e13 (AllEq.cons e14 (AllEq.cons e15 (AllEq.cons e16 (AllEq.nil))))))) hE rfl]
      clear hF hE e11 e12 e13 e14 e15 e16
      simp only [List.foldl_cons, List.foldl_nil, Act.put, List.setIfInBounds_toArray, List.set_cons_succ, List.set_cons_zero]
      have HO3 := Lib.hid (HO.out.ext R3)
      clear R3 HEQ HQ
      cases z
      · have hne : atO X k ≠ (x1, x2, x3) := fun h => by have := HZ.out.2 h; cases this
        have HB2 : Hid (∀ j, j < k + 1 → atO X j ≠ (x1, x2, x3)) := Lib.hid (fun j hj => by
          by_cases e : j = k
          · subst e; exact hne
          · exact HB.out j (by omega))
        clear hne
        go_wp2_with fail
        go_roundw
        case rel => exact ⟨k + 1, by go_num, by omega, HB2, HO3.out⟩
        case measure => simp [intOf]; omega
      · have hrk : r = (k : Int) := by
          have he := HZ.out.1 rfl
          rcases HI.out with ⟨i, hi, rfl, h1, h2⟩ | ⟨_, h2⟩
          · have : i = k := by
              rcases Nat.lt_trichotomy i k with h | h | h
              · exact absurd h1 (HB.out i h)
              · exact h
              · exact absurd he (h2 k h)
            rw [this]
          · exact absurd he (h2 k (by rw [HL.out]; exact hlt))
        have HRK := Lib.hid hrk
        have HE := Lib.hid HO3.out.below
        clear hrk
        go_wp2_with fail
        go_ret
        exact ⟨ret_int HRK.out.symm, HE.out⟩
    · have hrk : r = -1 := by
        rcases HI.out with ⟨i, hi, rfl, h1, h2⟩ | ⟨h, _⟩
        · exact absurd h1 (HB.out i (by rw [HL.out] at hi; omega))
        · exact h
      have HRK := Lib.hid hrk
      have HE := Lib.hid HO.out.below
      clear hrk
      go_wp2_with fail
      go_ret
      exact ⟨ret_int HRK.out.symm, HE.out⟩

theorem other_any (x o : OwD) (g : Nat) (w : World) (hB : Blk w g 31 (ownC o).toArray) : Calls Try.prog 74 #[ownV x, .pointer (some ⟨g, 0, none⟩)] w fun e w' => e = .returned (.bool (!decide (x = o))) ∧ Ext w w' := by
  obtain ⟨x1, x2, x3⟩ := x
  obtain ⟨o1, o2, o3⟩ := o
  unfold ownV
  obtain ⟨z, hz⟩ : ∃ z : Bool, decide ((x1, x2, x3) = (o1, o2, o3)) = z := ⟨_, rfl⟩
  have HEQ := Lib.hid (fun W => hz ▸ eq_own 9998 x1 x2 x3 o1 o2 o3 W)
  rw [hz]
  have a0 := hB.cell 0
  have a1 := hB.cell 1
  have a2 := hB.cell 2
  simp [ownC] at a0 a1 a2
  have hE := Ext.alloc w (.cells #[.int .i64 x1, .int .i64 x2, .int .i64 x3] 31)
  have HE := Lib.hid hE
  have hq := HEQ.out
  have hlt := hB.lt
  clear hE hz hB
  go_enter Try.func74, Try.ntmps74
  go_wp2_with fail
  go_ret
  exact ⟨rfl, HE.out⟩

/-- r is the first place of one other than o, or -1. -/
def OtherIs (X : List OwD) (o : OwD) (r : Int) : Prop := (∃ i : Nat, i < X.length ∧ r = i ∧ atO X i ≠ o ∧ ∀ j, j < i → atO X j = o) ∨ (r = -1 ∧ ∀ j, j < X.length → atO X j = o)
set_option maxRecDepth 100000 in
set_option maxHeartbeats 4000000 in
theorem indexF_any (A : Option Addr) (len cap : Nat) (X : List OwD) (o : OwD) (gb : Nat) (w : World) (hlen : X.length = len) (hm : len ≤ 1000000000000) (hrow : Row w A 3 ownC X) (hB : Blk w gb 31 (ownC o).toArray) (r : Int) (hr : OtherIs X o r) :
    Calls Try.prog 98 #[.slice A len cap, .func (.func 74) #[] #[.pointer (some ⟨gb, 0, none⟩)]] w fun e w' => e = .returned (.int .i64 r) ∧ Ext w w' := by
  have HL := Lib.hid hlen
  have HR := Lib.hid hrow
  have HI := Lib.hid hr
  have HBB := Lib.hid hB
  clear hlen hrow hr hB
  go_enter Try.func98, Try.ntmps98
  go_wp2_with fail
  go_loopw [8] (fun i wr => ∃ k : Nat, i = .int .i64 k ∧ k ≤ len ∧ Hid (∀ j, j < k → atO X j = o) ∧ Ext w wr) (fun i _ => len - (intOf i).toNat)
  case atStart => exact ⟨0, rfl, by omega, fun j hj => by omega, Ext.refl _⟩
  case round =>
    obtain ⟨k, rfl, hk, HB, hO⟩ := hrel
    have HO := Lib.hid hO
    by_cases hlt : k < len
    · obtain ⟨b, off, rfl, hbl, q0, q1, q2⟩ := HR.out.own_in hO (i := k) (by rw [HL.out]; omega)
      obtain ⟨z, hz⟩ : ∃ z : Bool, decide (atO X k = o) = z := ⟨_, rfl⟩
      have HF := Lib.hid (fun W (hW : Ext w W) => hz ▸ other_any (atO X k) o gb W (HBB.out.ext hW))
      have HZ := Lib.hid (show z = true ↔ atO X k = o by rw [← hz, decide_eq_true_iff])
      obtain ⟨y1, hy1⟩ : ∃ y, (atO X k).1 = y := ⟨_, rfl⟩
      obtain ⟨y2, hy2⟩ : ∃ y, (atO X k).2.1 = y := ⟨_, rfl⟩
      obtain ⟨y3, hy3⟩ : ∃ y, (atO X k).2.2 = y := ⟨_, rfl⟩
      unfold ownV at HF
      simp only [hy1, hy2, hy3] at HF q0 q1 q2
      clear hz hy1 hy2 hy3 hO
      go_wp2_with fail
      refine (HF.out _ HO.out).mono ?_
      rintro e w3 ⟨rfl, R3⟩
      have HO3 := Lib.hid (HO.out.trans R3)
      clear R3 HF q0 q1 q2
      cases z
      · have hrk : r = (k : Int) := by
          have he : atO X k ≠ o := fun h => by have := HZ.out.2 h; cases this
          rcases HI.out with ⟨i, hi, rfl, h1, h2⟩ | ⟨_, h2⟩
          · have : i = k := by
              rcases Nat.lt_trichotomy i k with h | h | h
              · exact absurd (HB.out i h) h1
              · exact h
              · exact absurd (h2 k h) he
            rw [this]
          · exact absurd (h2 k (by rw [HL.out]; exact hlt)) he
        have HRK := Lib.hid hrk
        clear hrk
        go_wp2_with fail
        go_ret
        exact ⟨ret_int HRK.out.symm, HO3.out⟩
      · have he := HZ.out.1 rfl
        have HB2 : Hid (∀ j, j < k + 1 → atO X j = o) := Lib.hid (fun j hj => by
          by_cases e : j = k
          · subst e; exact he
          · exact HB.out j (by omega))
        clear he
        go_wp2_with fail
        go_roundw
        case rel => exact ⟨k + 1, by go_num, by omega, HB2, HO3.out⟩
        case measure => simp [intOf]; omega
    · have hrk : r = -1 := by
        rcases HI.out with ⟨i, hi, rfl, h1, h2⟩ | ⟨h, _⟩
        · exact absurd (HB.out i (by rw [HL.out] at hi; omega)) h1
        · exact h
      have HRK := Lib.hid hrk
      clear hrk hO
      go_wp2_with fail
      go_ret
      exact ⟨ret_int HRK.out.symm, HO.out⟩
/-- Whether there is one other than o. -/
def othersB (X : List OwD) (o : OwD) : Bool := X.any fun x => decide (x ≠ o)
theorem other_ex (X : List OwD) (o : OwD) : ∃ r, OtherIs X o r ∧ decide (0 ≤ r) = othersB X o := by
  by_cases h : ∀ j, j < X.length → atO X j = o
  · refine ⟨-1, .inr ⟨rfl, h⟩, ?_⟩
    have : othersB X o = false := by
      unfold othersB
      rw [List.any_eq_false]
      intro x hx
      obtain ⟨j, hj, rfl⟩ := List.getElem_of_mem hx
      rw [atO_eq hj, h j hj]
      simp
    rw [this]; rfl
  · have hex : ∃ i, i < X.length ∧ atO X i ≠ o := by
      refine Classical.byContradiction fun hn => h fun j hj => Classical.byContradiction fun hc => hn ⟨j, hj, hc⟩
    have hmin : ∃ i, (i < X.length ∧ atO X i ≠ o) ∧ ∀ j, j < i → atO X j = o := by
      have key : ∀ n, (∃ i, i ≤ n ∧ (i < X.length ∧ atO X i ≠ o)) → ∃ i, (i < X.length ∧ atO X i ≠ o) ∧ ∀ j, j < i → atO X j = o := by
        intro n
        induction n with
        | zero =>
          rintro ⟨i, hi, hp⟩
          obtain rfl : i = 0 := by omega
          exact ⟨0, hp, fun j hj => by omega⟩
        | succ n ih =>
          rintro ⟨i, hi, hp⟩
          by_cases h1 : ∃ i, i ≤ n ∧ (i < X.length ∧ atO X i ≠ o)
          · exact ih h1
          · have : i = n + 1 := by
              rcases Nat.lt_or_ge n i with h | h
              · omega
              · exact absurd ⟨i, h, hp⟩ h1
            subst this
            exact ⟨n + 1, hp, fun j hj => Classical.byContradiction fun hc => h1 ⟨j, by omega, by omega, hc⟩⟩
      obtain ⟨i, hp⟩ := hex
      exact key i ⟨i, Nat.le_refl _, hp⟩
    obtain ⟨i, ⟨hi, hne⟩, hb⟩ := hmin
    refine ⟨i, .inl ⟨i, hi, rfl, hne, hb⟩, ?_⟩
    have : othersB X o = true := by
      unfold othersB
      rw [List.any_eq_true]
      exact ⟨X[i], List.getElem_mem hi, by rw [atO_eq hi]; simpa using hne⟩
    rw [this]
    simp
theorem containsO_any (A : Option Addr) (len cap : Nat) (X : List OwD) (o : OwD) (gb : Nat) (w : World) (hlen : X.length = len) (hm : len ≤ 1000000000000) (hrow : Row w A 3 ownC X) (hB : Blk w gb 31 (ownC o).toArray) :
    Calls Try.prog 75 #[.slice A len cap, .func (.func 74) #[] #[.pointer (some ⟨gb, 0, none⟩)]] w fun e w' => e = .returned (.bool (othersB X o)) ∧ Ext w w' := by
  obtain ⟨r, hr, hd⟩ := other_ex X o
  obtain ⟨z, hz⟩ : ∃ z, othersB X o = z := ⟨_, rfl⟩
  rw [hz] at hd ⊢
  have HF := Lib.hid (indexF_any A len cap X o gb w hlen hm hrow hB r hr)
  clear hlen hrow hB hr hz
  go_enter Try.func75, Try.ntmps75
  go_wp2_with fail
  refine HF.out.mono ?_
  rintro e w1 ⟨rfl, h1⟩
  have HE := Lib.hid h1
  clear h1
  go_wp2_with fail
  go_ret
  exact ⟨rfl, HE.out⟩

set_option maxRecDepth 100000 in
set_option maxHeartbeats 4000000 in
/-- Clone. -/
theorem clone_raw (v : Value) (n : Nat) (xs : List Value) (w : World) (hr : w.ownsRow 0 31 3 v n xs) (hn : n ≤ 1000000000000) (h1 : ∀ u ∈ xs, u.oneCell' = true) :
    Calls Try.prog 73 #[v] w fun e w' => ∃ v', e = .returned v' ∧ w'.ownsRow w.heap.size 31 3 v' n xs ∧ Ext w w' := by
  have hnil := fun (W : World) (a : Option Addr) (n c n' c' : Nat) => Lib.run_eql_slice_nil (P := Try.prog) W 42 31 a n c n' c' Try.underlying42
  rcases hr.2 with ⟨rfl, rfl⟩ | ⟨g, cap, cur, rfl, _, hg, hnc, hcm, hcur, hx⟩
  · have hx0 : xs = [] := List.eq_nil_of_length_eq_zero (by simpa using hr.1)
    subst hx0
    clear hr h1
    go_enter Try.func73, Try.ntmps73
    go_wp2_with fail
    go_ret
    exact ⟨_, rfl, World.ownsRow_nil _ _ _ _, Ext.refl _⟩
  · obtain ⟨ti, hi0, hz, hsz, hby⟩ := info_own
    have hg' : Blk w g 31 cur := hg
    have hE := Ext.alloc w (.cells #[] 31)
    have hB1 := Blk.new w 31 #[]
    have hrow : (w.alloc (.cells #[] 31)).ownsRow w.heap.size 31 3 (.slice (some ⟨w.heap.size, 0, none⟩) 0 0) 0 [] := World.ownsRow_made w #[] 0 (Nat.le_refl _) (by decide) rfl
    have hcc : ∀ j u, xs[j]? = some u → (w.alloc (.cells #[] 31)).cell? ((⟨g, 0, none⟩ : Addr).add j) = some u := fun j u hj => by
      have hadd : (⟨g, 0, none⟩ : Addr).add j = ⟨g, j, none⟩ := by unfold Addr.add; split <;> simp_all
      rw [hadd, (hg'.ext hE).cell]
      have hjl : j < xs.length := (List.getElem?_eq_some_iff.1 hj).1
      rw [hr.1] at hjl
      rw [← hx, List.getElem?_take_of_lt hjl] at hj
      simpa using hj
    obtain ⟨v', w', hrun, h3, h4, -⟩ := run_append_own (P := Try.prog) (w.alloc (.cells #[] 31)) w.heap.size 42 42 31 ti zOwn 3 24 Try.underlying42 hi0 hz hsz hby rfl (by omega) _ 0 [] hrow ⟨g, 0, none⟩ n cap xs hr.1 hcc h1 (by unfold maxLen; omega) (by omega) (by simp)
    rw [Nat.zero_add, List.nil_append] at h3
    have hE2 : Ext w w' := by
      have k1 : Chg [w.heap.size] (w.alloc (.cells #[] 31)) w' := Chg.of_grown h4
      exact (((Chg.of_ext hE [w.heap.size]).trans k1).mono (G := []) (fun j hj => .inr (by simp at hj; omega))).ext
    have HF := Lib.hid (And.intro h3 hE2)
    have HR := Lib.hid hrun
    clear h3 h4 hE2 hrun hcc hrow hB1 hE hg' hg hr h1 hx hcur
    go_enter Try.func73, Try.ntmps73
    go_wp2_with (at_builtin; go_must (refine wpList_append_run (o := ⟨some 7, _, _, _, _, _⟩) rfl _ _ _ _ rfl _ _ rfl rfl HR.out ?_))
    go_ret
    exact ⟨v', rfl, HF.out⟩
theorem OwnT.newRow {H : Nat} {A w w' : World} {L : List Thing} {T : TypeId} {k n : Nat} {v : Value} {xs : List Value} (h : OwnT H A L w) (hE : Ext w w') (hr : w'.ownsRow w.heap.size T k v n xs) : OwnT H A (tRow T k v n xs :: L) w' := by
  refine h.cons hE (tRow T k v n xs) ⟨hr.1, ?_⟩ (fun i hi => (hr.lt i (by simpa [tRow] using hi)).1)
  rcases hr.2 with hn | ⟨g, cap, cur, h1, _, h2⟩
  · exact .inl hn
  · exact .inr ⟨g, cap, cur, h1, Nat.zero_le _, h2⟩
theorem clone_any {H : Nat} {A : World} {R : List Thing} (v : Value) (n : Nat) (xs : List Value) (w : World) (hO : OwnT H A (tRow 31 3 v n xs :: R) w) (hn : n ≤ 1000000000000) (h1 : ∀ u ∈ xs, u.oneCell' = true) :
    Calls Try.prog 73 #[v] w fun e w' => ∃ v', e = .returned v' ∧ OwnT H A (tRow 31 3 v' n xs :: tRow 31 3 v n xs :: R) w' ∧ Ext w w' := by
  refine (clone_raw v n xs w hO.r0 hn h1).mono ?_
  rintro e w' ⟨v', rfl, h2, h3⟩
  exact ⟨v', rfl, hO.newRow h3 h2, h3⟩
/-- A row of owners as data. -/
theorem row_Row {w : World} {base n : Nat} {v : Value} {X : List OwD} (h : w.ownsRow base 31 3 v n (X.flatMap ownC)) : ∃ B cap, v = .slice B n cap ∧ n ≤ cap ∧ cap ≤ maxLen ∧ X.length = n ∧ Row w B 3 ownC X := by
  have hl : X.length = n := by have := h.1; rw [flat_len] at this; omega
  rcases h.2 with ⟨rfl, rfl⟩ | ⟨g, cap, cur, rfl, hb, hg, hcap, hmax, hcs, ht⟩
  · refine ⟨none, 0, rfl, Nat.le_refl _, by decide, hl, fun i x hx => ?_⟩
    have : X = [] := List.length_eq_zero_iff.1 hl
    subst this
    simp at hx
  · refine ⟨some ⟨g, 0, none⟩, cap, rfl, hcap, hmax, hl, fun i x hx => ⟨g, 0, rfl, (Array.getElem?_eq_some_iff.1 hg).1, fun j u hu => ?_⟩⟩
    have := h.cells (g := g) rfl (i * 3 + j) u (by
      have : ∀ (xs : List OwD) (i : Nat) (x : OwD) (j : Nat) (u : Value), xs[i]? = some x → (ownC x)[j]? = some u → (xs.flatMap ownC)[i * 3 + j]? = some u := by
        intro xs
        induction xs with
        | nil => intro i x j u h; simp at h
        | cons y ys ih =>
          intro i x j u h hu
          cases i with
          | zero =>
            simp at h
            subst h
            have hj : j < (ownC y).length := (List.getElem?_eq_some_iff.1 hu).1
            rw [List.flatMap_cons, Nat.zero_mul, Nat.zero_add, List.getElem?_append_left hj]
            exact hu
          | succ i =>
            have := ih i x j u (by simpa using h) hu
            rw [List.flatMap_cons, List.getElem?_append_right (by rw [ownC_len]; omega), ownC_len]
            rw [show (i + 1) * 3 + j - 3 = i * 3 + j by omega]
            exact this
      exact this X i x j u hx hu)
    have hadd : (⟨g, 0, none⟩ : Addr).add (i * 3 + j) = ⟨g, i * 3 + j, none⟩ := by unfold Addr.add; split <;> simp_all
    rw [hadd] at this
    rw [Nat.zero_add]
    exact this
end Go.Proofs.Ytdpohbaeopidmaa

/- Maps with int keys and whatever elements: what they say of each int. -/
namespace Go.Proofs.Ytdpohbaeopidmaa
set_option linter.unusedVariables false
set_option linter.unusedSimpArgs false
open Go.RowKit Go.Maps

/-- An element reads as itself. -/
def heldE (v : Value) : Option (DataW Value × List MemPlace) := some (.held v, [])
theorem law_intV : Keyed Try.prog 3 := int_keyed Try.underlying3
abbrev wfV (i : Int) : Prop := (Lit.int .i64 i).wf = true
theorem wfV_of {a : Int} (h0 : -9223372036854775808 ≤ a) (h1 : a ≤ 9223372036854775807) : wfV a := WalkArith.wf_i64 (by omega)
theorem intV_key {i : Int} (h : wfV i) : keyOf Try.prog 3 (.int .i64 i) = some (.int .i64 i) := keyOf_int_mk Try.underlying3 h
theorem keyV (i : Int) : WideAt.IsKeyLit (.int .i64 i) := trivial
theorem litV_ne {i c : Int} (h : i ≠ c) : (Lit.int .i64 i) ≠ (Lit.int .i64 c) := fun e => h (by injection e)
def orV (o : Option Value) (z : DataW Value) : DataW Value := match o with | some v => .held v | none => z
def SaysV (D : DataW Value) (m : Int → Option Value) : Prop := ∀ i, wfV i → (∀ z, D.atKey (.int .i64 i) z = orV (m i) z) ∧ Maps.has D (.int .i64 i) = (m i).isSome
/-- Block b is a map of at most n entries that says m. -/
def VM (w : World) (b n : Nat) (m : Int → Option Value) : Prop := ∃ D : DataW Value, w.ownsMap Try.prog 3 heldE b n D ∧ SaysV D m
def putV (m : Int → Option Value) (c : Int) (v : Value) : Int → Option Value := fun i => if i = c then some v else m i
def delV (m : Int → Option Value) (c : Int) : Int → Option Value := fun i => if i = c then none else m i
section
variable {w w' : World} {b n : Nat} {m : Int → Option Value}
theorem VM.made (w : World) : VM (w.alloc (.map #[] 0)) w.heap.size 0 (fun _ => none) :=
  ⟨.map [], World.ownsMap_made _ _ _ _, fun _ _ => ⟨fun _ => rfl, rfl⟩⟩
theorem VM.lt (h : VM w b n m) : b < w.heap.size := by
  obtain ⟨D, h1, h2⟩ := h
  exact h1.lt
theorem VM.same (h : VM w b n m) (hb : w'.heap[b]? = w.heap[b]?) : VM w' b n m := by
  obtain ⟨D, ⟨es, clock, h1, h2⟩, h3⟩ := h
  exact ⟨D, ⟨es, clock, hb.trans h1, h2⟩, h3⟩
theorem VM.ext (h : VM w b n m) (k : Ext w w') : VM w' b n m := h.same (k.block b h.lt)
theorem VM.chg {F : List Nat} (h : VM w b n m) (k : Chg F w w') (hb : b ∉ F) : VM w' b n m := h.same (k.block b h.lt hb)
theorem VM.mono (h : VM w b n m) {k : Nat} (hk : n ≤ k) : VM w b k m := by
  obtain ⟨D, h1, h2⟩ := h
  exact ⟨D, h1.mono hk, h2⟩
theorem VM.congr {m' : Int → Option Value} (h : VM w b n m) (hm : ∀ i, wfV i → m i = m' i) : VM w b n m' := by
  obtain ⟨D, h1, h2⟩ := h
  exact ⟨D, h1, fun i hi => by rw [← hm i hi]; exact h2 i hi⟩
theorem SaysV.put {D : DataW Value} (h : SaysV D m) (hm : IsMap D) (c : Int) (v : Value) : SaysV (D.put (.int .i64 c) (.held v)) (putV m c v) := by
  intro i hi
  unfold putV
  by_cases e : i = c
  · subst e
    rw [if_pos rfl, has_put_same hm (keyV i)]
    exact ⟨fun z => atKey_put_same hm (keyV i) _ _, rfl⟩
  · rw [if_neg e, has_put_other (litV_ne e)]
    exact ⟨fun z => by rw [atKey_put_other (litV_ne e)]; exact (h i hi).1 z, (h i hi).2⟩
theorem SaysV.del {D : DataW Value} (h : SaysV D m) (c : Int) : SaysV (D.del (.int .i64 c)) (delV m c) := by
  intro i hi
  unfold delV
  by_cases e : i = c
  · subst e
    rw [if_pos rfl, has_del_same]
    exact ⟨fun z => atKey_del_same _, rfl⟩
  · rw [if_neg e, has_del_other (litV_ne e)]
    exact ⟨fun z => by rw [atKey_del_other (litV_ne e)]; exact (h i hi).1 z, (h i hi).2⟩
variable {t e : TypeId} {z : Value}
theorem VM.look (h : VM w b n m) (ht : Try.prog.underlying t = some (.map 3 e)) (hz : (zeroValue e).run Try.prog w = .ok z w) {c : Int} (hc : wfV c) :
    (Instr.lookup t (.map (some b)) (.int .i64 c) false).run Try.prog w = .ok ((m c).getD z) w := by
  obtain ⟨D, h1, h2⟩ := h
  obtain ⟨v, ps, hrun, hv⟩ := h1.lookup law_intV ht hz (zd := .held z) (zp := []) rfl (intV_key hc)
  rw [(h2 c hc).1] at hv
  unfold heldE at hv
  rw [hrun]
  cases hm : m c with
  | none => rw [hm] at hv; simp [orV] at hv; rw [hv.1]; rfl
  | some x => rw [hm] at hv; simp [orV] at hv; rw [hv.1]; rfl
theorem VM.look_ok (h : VM w b n m) (ht : Try.prog.underlying t = some (.map 3 e)) (hz : (zeroValue e).run Try.prog w = .ok z w) {c : Int} (hc : wfV c) :
    (Instr.lookup t (.map (some b)) (.int .i64 c) true).run Try.prog w = .ok (.tuple #[(m c).getD z, .bool (m c).isSome]) w := by
  obtain ⟨D, h1, h2⟩ := h
  obtain ⟨v, ps, hrun, hv⟩ := h1.look_ok law_intV ht hz (zd := .held z) (zp := []) rfl (intV_key hc)
  rw [(h2 c hc).1] at hv
  unfold heldE at hv
  rw [hrun, (h2 c hc).2]
  cases hm : m c with
  | none => rw [hm] at hv; simp [orV] at hv; rw [hv.1]; rfl
  | some x => rw [hm] at hv; simp [orV] at hv; rw [hv.1]; rfl
theorem VM.store (h : VM w b n m) (ht : Try.prog.underlying t = some (.map 3 e)) (hn : n < maxLen) {c : Int} (hc : wfV c) (v : Value) :
    ∃ w', (Instr.mapUpdate t (.map (some b)) (.int .i64 c) v).run Try.prog w = .ok () w' ∧ VM w' b (n + 1) (putV m c v) ∧ Chg [b] w w' := by
  obtain ⟨D, h1, h2⟩ := h
  obtain ⟨w', hrun, h3, h4⟩ := h1.update law_intV ht hn (intV_key hc) (d := .held v) (ps := []) rfl
  exact ⟨w', hrun, ⟨_, h3, h2.put h1.isMap c v⟩, Chg.of_grown h4⟩
theorem VM.drop (h : VM w b n m) (ht : Try.prog.underlying t = some (.map 3 e)) {c : Int} (hc : wfV c) (ty : TypeId) :
    ∃ w', (Builtin.delete_ #[t, 3] ty #[.map (some b), .int .i64 c]).run Try.prog w = .ok (.tuple #[]) w' ∧ VM w' b n (delV m c) ∧ Chg [b] w w' := by
  obtain ⟨D, h1, h2⟩ := h
  obtain ⟨w', hrun, h3, h4⟩ := h1.drop law_intV ht (intV_key hc) ty
  exact ⟨w', hrun, ⟨_, h3, h2.del c⟩, Chg.of_grown h4.grown⟩
end
section
variable {ops : Array Oper} {rest : List Oper} {o : Oper} {a : Act} {Q : Exit → Act → World → Prop} {K : Act → World → Prop} {w : World} {b n : Nat} {m : Int → Option Value}
/-- 'm[c]' at the operation. -/
theorem wpList_vm_look (hg : o.guard = none) (mo x : Operand) (t e : TypeId) (hop : o.op = Op.lookup t mo x false) (ht : Try.prog.underlying t = some (.map 3 e)) {z : Value} (hz : (zeroValue e).run Try.prog w = .ok z w)
    (hm : a.eval mo = .map (some b)) (h : VM w b n m) {c : Int} (hx : a.eval x = .int .i64 c) (hc : wfV c)
    (hK : wpList Try.prog ops Q rest (a.put o.dst ((m c).getD z)) w) : wpList Try.prog ops Q (o :: rest) a w := by
  refine wpList_plain hg fun K' hK' => ?_
  unfold Oper.wp
  simp [execOp, hop, hm, hx, h.look ht hz hc, Result.andThen]
  exact hK' _ _ hK
theorem wpList_vm_look_ok (hg : o.guard = none) (mo x : Operand) (t e : TypeId) (hop : o.op = Op.lookup t mo x true) (ht : Try.prog.underlying t = some (.map 3 e)) {z : Value} (hz : (zeroValue e).run Try.prog w = .ok z w)
    (hm : a.eval mo = .map (some b)) (h : VM w b n m) {c : Int} (hx : a.eval x = .int .i64 c) (hc : wfV c)
    (hK : wpList Try.prog ops Q rest (a.put o.dst (.tuple #[(m c).getD z, .bool (m c).isSome])) w) : wpList Try.prog ops Q (o :: rest) a w := by
  refine wpList_plain hg fun K' hK' => ?_
  unfold Oper.wp
  simp [execOp, hop, hm, hx, h.look_ok ht hz hc, Result.andThen]
  exact hK' _ _ hK
/-- 'm[c] = v'. -/
theorem wp_vm_store (mo x v : Operand) (t e : TypeId) (hop : o.op = Op.mapUpdate t mo x v) (ht : Try.prog.underlying t = some (.map 3 e)) (hn : n < maxLen)
    (hm : a.eval mo = .map (some b)) (h : VM w b n m) {c : Int} (hx : a.eval x = .int .i64 c) (hc : wfV c) {u : Value} (hv : a.eval v = u)
    (hK : ∀ w', VM w' b (n + 1) (putV m c u) → Chg [b] w w' → K (a.put o.dst undef) w') : o.wp Try.prog a w K Q := by
  obtain ⟨w', hrun, h1, h2⟩ := h.store ht hn hc u
  unfold Oper.wp
  simp [execOp, hop, hm, hx, hv, hrun, Result.andThen]
  exact hK w' h1 h2
theorem wpList_vm_store (hg : o.guard = none) (mo x v : Operand) (t e : TypeId) (hop : o.op = Op.mapUpdate t mo x v) (ht : Try.prog.underlying t = some (.map 3 e)) (hn : n < maxLen)
    (hm : a.eval mo = .map (some b)) (h : VM w b n m) {c : Int} (hx : a.eval x = .int .i64 c) (hc : wfV c) {u : Value} (hv : a.eval v = u)
    (hK : ∀ w', VM w' b (n + 1) (putV m c u) → Chg [b] w w' → wpList Try.prog ops Q rest (a.put o.dst undef) w') : wpList Try.prog ops Q (o :: rest) a w :=
  wpList_plain hg fun K' hK' => wp_vm_store mo x v t e hop ht hn hm h hx hc hv (fun w' h1 h2 => hK' _ _ (hK w' h1 h2))
/-- 'delete(m, c)'. -/
theorem wpList_vm_delete (hg : o.guard = none) (mo x : Operand) (t e : TypeId) (hop : o.op = Op.call { callee := Callee.builtin Builtin.delete, args := #[mo, x], argTypes := #[t, 3] }) (ht : Try.prog.underlying t = some (.map 3 e))
    (hm : a.eval mo = .map (some b)) (h : VM w b n m) {c : Int} (hx : a.eval x = .int .i64 c) (hc : wfV c)
    (hK : ∀ w', VM w' b n (delV m c) → Chg [b] w w' → wpList Try.prog ops Q rest (a.put o.dst (.tuple #[])) w') : wpList Try.prog ops Q (o :: rest) a w := by
  refine wpList_plain hg fun K' hK' => ?_
  obtain ⟨w', hrun, h1, h2⟩ := h.drop ht hc o.type
  unfold Oper.wp
  simp [execOp, hop, resolve, invoke, builtin, hm, hx, hrun, Result.andThen]
  exact hK' _ _ (hK w' h1 h2)
end
/-- 'for k, v := range m' under way: 'left' are to come. -/
def VR (w : World) (b r n : Nat) (m : Int → Option Value) (left : Int → Bool) (cnt : Nat) : Prop :=
  ∃ (D : DataW Value) (l : Lit → Bool), w.ranges Try.prog 3 heldE b r n D l cnt ∧ SaysV D m ∧ ∀ i, wfV i → l (.int .i64 i) = left i
section
variable {w w' : World} {b r n cnt : Nat} {m : Int → Option Value} {left : Int → Bool}
theorem VR.vm (h : VR w b r n m left cnt) : VM w b n m := by
  obtain ⟨D, l, h1, h2, h3⟩ := h
  exact ⟨D, h1.owns, h2⟩
theorem VR.left_eq (h : VR w b r n m left cnt) : w.rangeLeft b r = cnt := by
  obtain ⟨D, l, h1, h2, h3⟩ := h
  exact h1.left_eq
theorem VR.ne (h : VR w b r n m left cnt) : r ≠ b := by
  obtain ⟨D, l, h1, h2, h3⟩ := h
  exact h1.ne
theorem VR.lt (h : VR w b r n m left cnt) : r < w.heap.size := by
  obtain ⟨D, l, h1, h2, h3⟩ := h
  exact h1.lt
theorem VR.same (h : VR w b r n m left cnt) (hb : w'.heap[b]? = w.heap[b]?) (hr : w'.heap[r]? = w.heap[r]?) : VR w' b r n m left cnt := by
  obtain ⟨D, l, ⟨es, clock, since, seen, c0, h1, h2, h3, h4, h5, h6⟩, h7⟩ := h
  exact ⟨D, l, ⟨es, clock, since, seen, c0, hb.trans h1, h2, h3, h4, hr.trans h5, h6⟩, h7⟩
theorem VR.chg {F : List Nat} (h : VR w b r n m left cnt) (k : Chg F w w') (hb : b ∉ F) (hr : r ∉ F) : VR w' b r n m left cnt := h.same (k.block b h.vm.lt hb) (k.block r h.lt hr)
theorem VR.ext (h : VR w b r n m left cnt) (k : Ext w w') : VR w' b r n m left cnt := h.same (k.block b h.vm.lt) (k.block r h.lt)
variable {ops : Array Oper} {rest : List Oper} {o : Oper} {a : Act} {Q : Exit → Act → World → Prop}
theorem wpList_vr_start (hg : o.guard = none) (mo : Operand) (t e : TypeId) (hop : o.op = Op.range t mo) (ht : Try.prog.underlying t = some (.map 3 e)) (hm : a.eval mo = .map (some b)) (h : VM w b n m)
    (hK : ∀ w' cnt, VR w' b w.heap.size n m (fun i => (m i).isSome) cnt → Ext w w' → w'.heap.size = w.heap.size + 1 → wpList Try.prog ops Q rest (a.put o.dst (.pointer (some ⟨w.heap.size, 0, none⟩))) w') :
    wpList Try.prog ops Q (o :: rest) a w := by
  obtain ⟨D, h1, h2⟩ := h
  refine wpList_range_own w hg mo t hop 3 e law_intV ht heldE b n D hm h1 (fun w' hr hgw hs => hK w' _ ⟨D, _, hr, h2, fun i hi => (h2 i hi).2⟩ ?_ hs)
  exact ⟨hgw.os, hgw.tape, hgw.output, hgw.size, fun i hi => hgw.block i hi (by simp)⟩
theorem wpList_vr_next (hg : o.guard = none) (it : Operand) (hop : o.op = Op.next it false) (hit : a.eval it = .pointer (some ⟨r, 0, none⟩)) (h : VR w b r n m left cnt)
    (hDone : (∀ i, wfV i → left i = false) → wpList Try.prog ops Q rest (a.put o.dst (.tuple #[.bool false])) w)
    (hMore : ∀ (x : Int) (c : Value) (w' : World) (cnt' : Nat), wfV x → left x = true → m x = some c → VR w' b r n m (fun i => left i && !decide (i = x)) cnt' → cnt' < cnt → Chg [r] w w' → w'.heap.size = w.heap.size →
      (Instr.entry (.pointer (some ⟨r, 0, none⟩))).run Try.prog w' = .ok (.tuple #[.int .i64 x, c]) w' → wpList Try.prog ops Q rest (a.put o.dst (.tuple #[.bool true, .int .i64 x, c])) w') :
    wpList Try.prog ops Q (o :: rest) a w := by
  obtain ⟨D, l, h1, h2, h3⟩ := h
  refine wpList_next_ranges w hg it hop 3 law_intV heldE (Value.int .i64) (fun v : Value => v) (fun key kl hkey => by
    obtain ⟨x, rfl, _⟩ := Maps.keyOf_int_inv Try.underlying3 hkey
    exact ⟨x, rfl⟩) (fun v _ _ => ⟨v, rfl⟩) b r n D l cnt hit h1 (fun _ hl => hDone fun i hi => by rw [← h3 i hi]; exact hl _) (fun x c kl y w' cnt' hkey hlk hv hat hrg hlt hgr hsz hen => ?_)
  obtain ⟨x', ex, rfl, hwx⟩ := Maps.keyOf_int_inv Try.underlying3 hkey
  cases ex
  unfold heldE at hv
  injection hv with hv
  subst hv
  refine hMore x c w' cnt' hwx (by rw [← h3 x hwx]; exact hlk) ?_ ⟨D, _, hrg, h2, fun i hi => ?_⟩ hlt (Chg.of_grown hgr) hsz hen
  · have h4 := (h2 x hwx).1
    cases hmx : m x with
    | none =>
      rw [hmx] at h4
      have e1 := (h4 (.lit (.bool true))).symm.trans (hat _)
      simp [orV] at e1
    | some v =>
      rw [hmx] at h4
      have e1 := (h4 (.lit (.bool true))).symm.trans (hat _)
      simp [orV] at e1
      rw [e1]
  · rw [h3 i hi]
    by_cases e : i = x
    · subst e
      rw [WideAt.sameKey_self (keyV i)]
      simp
    · rw [sameKey_ne (litV_ne e)]
      simp [e]
end
/-- A map as a thing. -/
def tMap (b n : Nat) (m : Int → Option Value) : Thing where
  foot := [b]
  holds := fun w => VM w b n m
  keep := fun w w' _ h hb => hb.same (h b (by simp))
  lt := fun w h i hi => by
    simp at hi
    subst hi
    exact h.lt
end Go.Proofs.Ytdpohbaeopidmaa
