/- places' law: PlaceMoves (printed by XPlM.gen.py). -/
import Derived.Test.YtngehbhhpkkijaaKPlaceMoves27
namespace Go.Proofs.Ytngehbhhpkkijaa
attribute [local simp] BigFrame.eval_const BigFrame.eval_global BigFrame.eval_func
set_option linter.unusedVariables false
set_option linter.unusedSimpArgs false
open Go.RowKit Go.Maps


theorem sp_fields : Try.prog.underlying 108 = some (.struct (Try.prog.fieldsOf 108)) := by kernel_rfl
theorem sp_held : Try.prog.stoodInHeld 108 = false := by kernel_rfl
theorem part_s0 (w : World) (x y : Value) : (part 3 #[x, y] 0).run Try.prog w = .ok x w := by kernel_rfl
theorem part_s1 (w : World) (x y : Value) : (part 3 #[x, y] 1).run Try.prog w = .ok y w := by kernel_rfl
theorem eq_sp (d : Nat) (a b a' b' : Int) (w : World) : (Op.equalIn (d + 2) 108 (.agg #[.int .i64 a, .int .i64 b]) (.agg #[.int .i64 a', .int .i64 b'])).run Try.prog w = .ok (decide (a = a' ∧ b = b')) w := by
 have h0 := fun W x y => run_equalIn_int (P := Try.prog) W d 3 .i64 .i64 x y Try.underlying3
 rw [run_equalIn_struct w (d + 1) _ _ _ sp_fields sp_held]
 have hf : (Try.prog.fieldsOf 108).toList.map (fun f => (f.name, f.type, f.offset)) = [("Tier", 3, 0), ("Slot", 3, 1)] := by kernel_rfl
 generalize (Try.prog.fieldsOf 108).toList = L at hf ⊢
 obtain ⟨f, g, rfl⟩ : ∃ f g, L = [f, g] := by
  rcases L with _ | ⟨f, _ | ⟨g, _ | ⟨h, L⟩⟩⟩
  · exact absurd (congrArg List.length hf) (by simp)
  · exact absurd (congrArg List.length hf) (by simp)
  · exact ⟨f, g, rfl⟩
  · exact absurd (congrArg List.length hf) (by simp)
 simp only [List.map_cons, List.map_nil, List.cons.injEq, Prod.mk.injEq, and_true] at hf
 obtain ⟨⟨n1, t1, o1⟩, n2, t2, o2⟩ := hf
 by_cases ha : a = a' <;> by_cases hb : b = b' <;> simp [Op.eqFields, n1, n2, t1, t2, o1, o2, Sem.run_bind, Sem.run_ite, part_s0, part_s1, h0, ha, hb]
theorem pl_fields : Try.prog.underlying 110 = some (.struct (Try.prog.fieldsOf 110)) := by kernel_rfl
theorem pl_held : Try.prog.stoodInHeld 110 = false := by kernel_rfl
theorem part_l0 (w : World) (x y z : Value) : (part 3 #[x, y, z] 0).run Try.prog w = .ok x w := by kernel_rfl
theorem part_l1 (w : World) (x y z : Value) : (part 108 #[x, y, z] 1).run Try.prog w = .ok (.agg #[y, z]) w := by kernel_rfl
theorem eq_pl (d : Nat) (c a b c' a' b' : Int) (w : World) : (Op.equalIn (d + 4) 110 (.agg #[.int .i64 c, .int .i64 a, .int .i64 b]) (.agg #[.int .i64 c', .int .i64 a', .int .i64 b'])).run Try.prog w = .ok (decide (c = c' ∧ a = a' ∧ b = b')) w := by
 have h0 := fun W x y => run_equalIn_int (P := Try.prog) W (d + 2) 3 .i64 .i64 x y Try.underlying3
 have h1 := fun W => eq_sp (d + 1) a b a' b' W
 rw [run_equalIn_struct w (d + 3) _ _ _ pl_fields pl_held]
 have hf : (Try.prog.fieldsOf 110).toList.map (fun f => (f.name, f.type, f.offset)) = [("Chunk", 3, 0), ("Spot", 108, 1)] := by kernel_rfl
 generalize (Try.prog.fieldsOf 110).toList = L at hf ⊢
 obtain ⟨f, g, rfl⟩ : ∃ f g, L = [f, g] := by
  rcases L with _ | ⟨f, _ | ⟨g, _ | ⟨h, L⟩⟩⟩
  · exact absurd (congrArg List.length hf) (by simp)
  · exact absurd (congrArg List.length hf) (by simp)
  · exact ⟨f, g, rfl⟩
  · exact absurd (congrArg List.length hf) (by simp)
 simp only [List.map_cons, List.map_nil, List.cons.injEq, Prod.mk.injEq, and_true] at hf
 obtain ⟨⟨n1, t1, o1⟩, n2, t2, o2⟩ := hf
 rw [Bool.decide_and (c = c')]
 generalize decide (a = a' ∧ b = b') = r at h1 ⊢
 by_cases ha : c = c' <;> cases r <;> simp [Op.eqFields, n1, n2, t1, t2, o1, o2, Sem.run_bind, Sem.run_ite, part_l0, part_l1, h0, h1, ha]
section
variable {w : World} {o : Oper} {ρ : Operand → Value} {u : TypeId} {x y : Operand} {a b c a' b' c' : Int}
theorem x_neSp (ho : o.op = .binOp .neq 108 x y u) (hx : ρ x = .agg #[.int .i64 a, .int .i64 b]) (hy : ρ y = .agg #[.int .i64 a', .int .i64 b']) : (execOp ρ o).run Try.prog w = .ok (.value (.bool (decide (¬ (a = a' ∧ b = b'))))) w := by
 have h := eq_sp 9998 a b a' b' w
 unfold execOp
 simp only [ho, hx, hy]
 by_cases e1 : a = a' <;> by_cases e2 : b = b' <;> simp [go_sem, h, e1, e2]
theorem x_nePl (ho : o.op = .binOp .neq 110 x y u) (hx : ρ x = .agg #[.int .i64 c, .int .i64 a, .int .i64 b]) (hy : ρ y = .agg #[.int .i64 c', .int .i64 a', .int .i64 b']) : (execOp ρ o).run Try.prog w = .ok (.value (.bool (decide (¬ (c = c' ∧ a = a' ∧ b = b'))))) w := by
 have h := eq_pl 9996 c a b c' a' b' w
 unfold execOp
 simp only [ho, hx, hy]
 by_cases e0 : c = c' <;> by_cases e1 : a = a' <;> by_cases e2 : b = b' <;> simp [go_sem, h, e0, e1, e2]
end
theorem uN_nat {m : Nat} (h : m < 9223372036854775808) : uN (m : Int) = m := by
 unfold uN
 show ((m : Int) % 18446744073709551616).toNat = m
 omega
theorem pl_row {w : World} {B : Option Addr} {n c : Nat} {ps : List PlD} (h : (tPls (.slice B n c) ps).holds w) : Row w B 3 plC ps := by
 obtain ⟨B2, c2, e, _, _, _, hr⟩ := ownsRow_Row (enc := plC) (X := ps) (fun _ => rfl) (by decide) h
 injection e with e1
 subst e1
 exact hr
theorem pl_cells {w : World} {B : Option Addr} {n c : Nat} {ps : List PlD} (h : (tPls (.slice B n c) ps).holds w) {i : Nat} {x : PlD} (hi : ps[i]? = some x) : ∃ g, B = some ⟨g, 0, none⟩ ∧ w.cell? ⟨g, i * 3, none⟩ = some (.int .i64 x.1) ∧ w.cell? ⟨g, i * 3 + 1, none⟩ = some (.int .i64 x.2.1) ∧ w.cell? ⟨g, i * 3 + 2, none⟩ = some (.int .i64 x.2.2) := by
 have hl := (List.getElem?_eq_some_iff.1 hi).1
 obtain ⟨g, cap', cur, e, -⟩ := row_some h (by omega)
 injection e with e1 e2 e3
 subst e1
 obtain ⟨b, o, e, _, hc⟩ := pl_row h i x hi
 injection e with e
 injection e with e e'
 subst e e'
 refine ⟨g, rfl, ?_, ?_, ?_⟩
 · have := hc 0 _ rfl; simpa using this
 · have := hc 1 _ rfl; simpa using this
 · have := hc 2 _ rfl; simpa using this
theorem pgood_is {B : Option Addr} {n c : Nat} {L : List PlD} {s0 s1 : Int} {b : Bool} {w : World} (h : (tPls (.slice B n c) L).holds w) (hn : L.length = n) (hm : n ≤ 1000000) (hx : ∀ x ∈ L, wfP x) (hb : goodPls L s0 s1 = b) :
 Calls Try.prog 51 #[.slice B n c, .agg #[.int .i64 s0, .int .i64 s1]] w fun e w' => e = .returned (.bool b) ∧ Ext w w' := hb ▸ pgood_any B n c L s0 s1 w hn hm (pl_row h) hx
/-! The chunks' places. -/
def PM (k : Nat) : List Pr := (List.range k).map fun j => (8589934593 + j, 256 * j)
def LM (k : Nat) : List PlD := (List.range k).map fun (j : Nat) => ((j : Int) + 1, 0, (j : Int))
theorem PM_len (k : Nat) : (PM k).length = k := by simp [PM]
theorem LM_len (k : Nat) : (LM k).length = k := by simp [LM]
theorem PM_at {k j : Nat} (h : j < k) : (PM k)[j]? = some (8589934593 + j, 256 * j) := by simp [PM, h]
theorem LM_at {k j : Nat} (h : j < k) : (LM k)[j]? = some ((j : Int) + 1, 0, (j : Int)) := by simp [LM, h]
theorem PM_lt {k : Nat} : ∀ y ∈ PM k, y.1 < 8589934593 + k := fun y hy => by
 obtain ⟨j, hj, rfl⟩ := List.mem_map.1 hy
 have := List.mem_range.1 hj
 show 8589934593 + j < _
 omega
theorem ins_PM (k : Nat) : insP (8589934593 + k, 256 * k) (PM k) = PM (k + 1) := by
 unfold insP
 rw [filter_all (fun y hy => decide_eq_true (PM_lt y hy)), filter_none (fun y hy => decide_eq_false (by have := PM_lt y hy; simp only; omega))]
 simp [PM, List.range_succ]
theorem ins_last {k : Nat} {P : List Pr} {v : Nat} (h : ∀ y ∈ P, y.1 < 8589934593 + k) : insP (8589934593 + k, v) P = P ++ [(8589934593 + k, v)] := by
 unfold insP
 rw [filter_all (fun y hy => decide_eq_true (h y hy)), filter_none (fun y hy => decide_eq_false (by have := h y hy; simp only; omega))]
theorem PM_up (k : Nat) : Up (PM k) := by
 unfold Up PM
 rw [List.pairwise_map]
 exact List.pairwise_lt_range.imp fun h => by simp only; omega
theorem PM_key {k j : Nat} (h : j < k) : keyAt (PM k) j = 8589934593 + j := by unfold keyAt List.getD; rw [PM_at h]; rfl
theorem ins_mid {k c v : Nat} (h : c < k) : insP (8589934593 + c, v) (PM k) = (PM k).set c (8589934593 + c, v) := by
 refine insP_yes (PM_up k) ⟨by rw [PM_len]; omega, fun i h1 => ?_, fun i h1 h2 => ?_⟩ ⟨by rw [PM_len]; exact h, PM_key h⟩
 · rw [PM_key (by omega)]; simp only; omega
 · rw [PM_len] at h2; rw [PM_key h2]; simp only; omega
theorem cut_in {P : List Pr} {lo hi : Nat} (h : ∀ y ∈ P, lo ≤ y.1 ∧ y.1 ≤ hi) : cutP lo hi P = P := filter_all fun y hy => by
 rw [decide_eq_true (h y hy).1, decide_eq_true (h y hy).2]; rfl
theorem PM_in {k : Nat} (hk : k ≤ 31) : ∀ y ∈ PM k, 8589934592 ≤ y.1 ∧ y.1 ≤ 12884901887 := fun y hy => by
 obtain ⟨j, hj, rfl⟩ := List.mem_map.1 hy
 have := List.mem_range.1 hj
 show 8589934592 ≤ 8589934593 + j ∧ 8589934593 + j ≤ _
 omega
theorem plOk_0 {j : Nat} (h : j ≤ 255) : plOkB (8589934593 + j, 256 * j) = true := decide_eq_true (by
 show PlOk ((8589934593 + j : Nat) : Int) ((256 * j : Nat) : Int)
 unfold PlOk GoodPl
 omega)
theorem plOk_1 {j s : Nat} (h : j ≤ 255) (hs : s ≤ 255) : plOkB (8589934593 + j, 1 + 256 * s) = true := decide_eq_true (by
 show PlOk ((8589934593 + j : Nat) : Int) ((1 + 256 * s : Nat) : Int)
 unfold PlOk GoodPl
 omega)
theorem plOf_0 {j : Nat} (h : j ≤ 255) : plOf (8589934593 + j, 256 * j) = ((j : Int) + 1, 0, (j : Int)) := by
 show (((8589934593 + j : Nat) : Int) % 4294967296, ((256 * j : Nat) : Int) % 256, ((256 * j : Nat) : Int) / 256) = _
 rw [show ((8589934593 + j : Nat) : Int) % 4294967296 = (j : Int) + 1 by omega, show ((256 * j : Nat) : Int) % 256 = 0 by omega, show ((256 * j : Nat) : Int) / 256 = (j : Int) by omega]
theorem plOf_1 {j s : Nat} (h : j ≤ 255) (hs : s ≤ 255) : plOf (8589934593 + j, 1 + 256 * s) = ((j : Int) + 1, 1, (s : Int)) := by
 show (((8589934593 + j : Nat) : Int) % 4294967296, ((1 + 256 * s : Nat) : Int) % 256, ((1 + 256 * s : Nat) : Int) / 256) = _
 rw [show ((8589934593 + j : Nat) : Int) % 4294967296 = (j : Int) + 1 by omega, show ((1 + 256 * s : Nat) : Int) % 256 = 1 by omega, show ((1 + 256 * s : Nat) : Int) / 256 = (s : Int) by omega]
theorem PM_of {k : Nat} (hk : k ≤ 31) : (PM k).map plOf = LM k := by
 unfold PM LM
 rw [List.map_map]
 refine List.map_congr_left fun j hj => ?_
 have := List.mem_range.1 hj
 exact plOf_0 (by omega)
theorem PM_ok {k : Nat} (hk : k ≤ 31) : (PM k).all plOkB = true := List.all_eq_true.2 fun y hy => by
 obtain ⟨j, hj, rfl⟩ := List.mem_map.1 hy
 have := List.mem_range.1 hj
 exact plOk_0 (by omega)
theorem mem_set {α : Type} {l : List α} {i : Nat} {x y : α} (h : y ∈ l.set i x) : y = x ∨ y ∈ l := (List.mem_or_eq_of_mem_set h).symm
theorem seen_no {L : List PlD} {j : Nat} {t s : Int} (h : ∀ i, i < j → i < L.length → ¬ (tAt L i = t ∧ sAt L i = s)) : seenB L j t s = false := by
 unfold seenB
 rw [List.any_eq_false]
 intro x hx
 obtain ⟨i, hi, rfl⟩ := List.mem_iff_getElem.1 hx
 rw [List.length_take] at hi
 have := h i (by omega) (by omega)
 rw [List.getElem_take]
 simpa [tAt, sAt, List.getD, show i < L.length by omega] using this
theorem at_3 {L : List PlD} {i : Nat} {x : PlD} (h : L[i]? = some x) : cAt L i = x.1 ∧ tAt L i = x.2.1 ∧ sAt L i = x.2.2 := by simp [cAt, tAt, sAt, List.getD, h]
theorem LM_good {k : Nat} (hk : k ≤ 31) : goodPls (LM k) (k : Int) 1 = true := goodPls_iff.2 fun i hi => by
 rw [LM_len] at hi
 obtain ⟨h1, h2, h3⟩ := at_3 (LM_at hi)
 unfold okP
 rw [h1, h2, h3]
 refine ⟨⟨by simp only; omega, by simp only; omega, .inl rfl, by simp only; omega, by simp only; omega⟩, by unfold limOf; simp; omega, seen_no fun j hj hjl => ?_, ?_⟩
 · obtain ⟨_, k2, k3⟩ := at_3 (LM_at (show j < k by omega))
   rw [k2, k3]
   simp only
   omega
 · rcases Nat.eq_zero_or_pos i with h0 | h0
   · exact .inl h0
   · right
     obtain ⟨k1, _, _⟩ := at_3 (LM_at (show i - 1 < k by omega))
     rw [k1]
     simp only
     omega
theorem LS_at {k c s j : Nat} (hj : j < k) : ((LM k).set c ((c : Int) + 1, 1, (s : Int)))[j]? = some (if j = c then ((c : Int) + 1, 1, (s : Int)) else ((j : Int) + 1, 0, (j : Int))) := by
 by_cases e : j = c
 · subst e; rw [if_pos rfl, List.getElem?_set_self (by rw [LM_len]; exact hj)]
 · rw [if_neg e, List.getElem?_set_ne (fun h => e h.symm), LM_at hj]
theorem LS_good {k c s : Nat} (hk : k ≤ 31) (hs : s ≤ 255) : goodPls ((LM k).set c ((c : Int) + 1, 1, (s : Int))) (k : Int) 256 = true := goodPls_iff.2 fun i hi => by
 rw [List.length_set, LM_len] at hi
 have hat := fun (j : Nat) (hj : j < k) => at_3 (LS_at (c := c) (s := s) hj)
 obtain ⟨h1, h2, h3⟩ := hat i hi
 unfold okP
 rw [h1, h2, h3]
 by_cases e : i = c
 · simp only [if_pos e]
   refine ⟨by unfold GoodPl; omega, by unfold limOf; simp; omega, seen_no fun j hj hjl => ?_, ?_⟩
   · obtain ⟨_, k2, k3⟩ := hat j (by omega)
     rw [k2, k3]
     rw [if_neg (by omega)]
     simp
   · rcases Nat.eq_zero_or_pos i with h0 | h0
     · exact .inl h0
     · right
       obtain ⟨k1, _, _⟩ := hat (i - 1) (by omega)
       rw [k1, if_neg (by omega)]
       simp only
       omega
 · simp only [if_neg e]
   refine ⟨by unfold GoodPl; omega, by unfold limOf; simp; omega, seen_no fun j hj hjl => ?_, ?_⟩
   · obtain ⟨_, k2, k3⟩ := hat j (by omega)
     rw [k2, k3]
     split
     · simp
     · simp only; omega
   · rcases Nat.eq_zero_or_pos i with h0 | h0
     · exact .inl h0
     · right
       obtain ⟨k1, _, _⟩ := hat (i - 1) (by omega)
       rw [k1]
       split
       · simp only; omega
       · simp only; omega
theorem LT_bad {k c s : Nat} (hc : c < k) : goodPls ((LM k).set c ((c : Int) + 1, 1, (s : Int)) ++ [((k : Int) + 1, 1, (s : Int))]) 256 256 = false := by
 rw [Bool.eq_false_iff]
 intro h
 have h := goodPls_iff.1 h k (by simp [LM_len])
 have hk : ((LM k).set c ((c : Int) + 1, 1, (s : Int)) ++ [((k : Int) + 1, 1, (s : Int))])[k]? = some ((k : Int) + 1, 1, (s : Int)) := by
  rw [List.getElem?_append_right (by simp [LM_len])]
  simp [LM_len]
 unfold okP at h
 obtain ⟨_, k2, k3⟩ := at_3 hk
 rw [k2, k3] at h
 have hs := h.2.2.1
 unfold seenB at hs
 rw [List.any_eq_false] at hs
 refine absurd ?_ (hs ((c : Int) + 1, 1, (s : Int)) ?_)
 · simp
 · rw [List.take_append_of_le_length (by simp [LM_len]), List.take_of_length_le (by simp [LM_len])]
   refine List.mem_iff_getElem?.2 ⟨c, ?_⟩
   rw [List.getElem?_set_self (by rw [LM_len]; exact hc)]
theorem wfP_of {x : PlD} (h : (-9223372036854775808 ≤ x.1 ∧ x.1 ≤ 9223372036854775807) ∧ (-9223372036854775808 ≤ x.2.1 ∧ x.2.1 ≤ 9223372036854775807) ∧ (-9223372036854775808 ≤ x.2.2 ∧ x.2.2 ≤ 9223372036854775807)) : wfP x := ⟨wf_i64_ h.1.1 h.1.2, wf_i64_ h.2.1.1 h.2.1.2, wf_i64_ h.2.2.1 h.2.2.2⟩
theorem LM_wf {k : Nat} (hk : k ≤ 31) : ∀ x ∈ LM k, wfP x := fun x hx => by
 obtain ⟨j, hj, rfl⟩ := List.mem_map.1 hx
 have := List.mem_range.1 hj
 exact wfP_of (by simp only; omega)
theorem LS_wf {k c s : Nat} (hk : k ≤ 31) (hc : c < k) (hs : s ≤ 255) : ∀ x ∈ (LM k).set c ((c : Int) + 1, 1, (s : Int)), wfP x := fun x hx => by
 rcases mem_set hx with rfl | hx
 · exact wfP_of (by simp only; omega)
 · exact LM_wf hk x hx

set_option maxRecDepth 100000 in
set_option maxHeartbeats 4000000 in
theorem placeMoves_core (x0 x1 x2 : Int) (W0 : World) : Calls Try.prog 12 #[.int .i64 x0, .int .i64 x1, .int .i64 x2] W0 fun e w' => e = .returned (.bool true) ∧ Below W0.heap.size W0 w' := by
 have O := OwnT.start W0
 obtain ⟨k0, hk0⟩ : ∃ z, uN x0 % 30 = z := ⟨_, rfl⟩
 obtain ⟨kk, hkk⟩ : ∃ z, 1 + k0 = z := ⟨_, rfl⟩
 have bkk : 0 < kk ∧ kk ≤ 30 := by omega
 obtain ⟨c0, hc0⟩ : ∃ z, uN x1 % kk = z := ⟨_, rfl⟩
 have bc0 : c0 < kk := by rw [← hc0]; exact Nat.mod_lt _ bkk.1
 obtain ⟨sl, hsl⟩ : ∃ z, uN x2 % 256 = z := ⟨_, rfl⟩
 have bsl : sl ≤ 255 := by omega

 refine calls_F Try.func12 rfl 195 rfl (by rfl) ?_
 intro a1 k hargs
 have e0 : a1.eval (.tmp 0) = .int .i64 x0 := hargs 0 _ rfl
 have e1 : a1.eval (.tmp 1) = .int .i64 x1 := hargs 1 _ rfl
 have e2 : a1.eval (.tmp 2) = .int .i64 x2 := hargs 2 _ rfl
 clear hargs
 refine wp_seq ?_
 refine wp_region_lit ?_
 have hE := Env.refl a1 [6]
 refine sd 6 hE k (x_assign rfl rfl) ?_
 intro a2 hE e6 kp
 refine wpList_nil ?_
 replace e0 := hE.g e0
 replace e1 := hE.g e1
 replace e2 := hE.g e2
 replace k := k.env hE
 clear hE e6
 refine then_n ?_
 refine wp_seq ?_
 refine wp_seq ?_
 refine wp_region_lit ?_
 have hE := Env.refl a2 [23, 24]
 apply sq_call 23 hE k rfl (by rfl) (by rfl) rfl
 case h =>
  simp [go_sem, ↓IntWalk.iteOmega]
  with_reducible exact ⟨rfl, rfl⟩
 case hc => exact awake14 _
 rintro e w4 ⟨rfl, R⟩
 replace O := OwnT.ext O R
 refine ⟨_, rfl, ?_⟩
 intro a3 hE e23 kp
 refine sd 24 hE k (x_not rfl e23) ?_
 intro a5 hE e24 kp
 refine wpList_nil ?_
 replace e0 := hE.g e0
 replace e1 := hE.g e1
 replace e2 := hE.g e2
 replace k := k.env hE
 clear hE
 refine then_n ?_
 refine cond_f e24 rfl ?_
 refine wp_skip ?_
 refine then_n ?_
 refine wp_seq ?_
 refine wp_region_lit ?_
 have hE := Env.refl a5 [25, 26, 7]
 apply sq_det 25 hE k rfl (by rfl) (by rfl) rfl
 case h =>
  simp [go_sem, ↓IntWalk.iteOmega]
  with_reducible rfl
 intro a6 hE e25 kp
 refine sq_new O (cs := #[.slice none 0 0, .int .i64 511]) (t := 28) 26 hE k rfl (by rfl) (by rfl) rfl (by simp [go_sem, ↓IntWalk.iteOmega, ev e25]) ?_
 clear O
 intro sb a7 w8 O hE e26 kp
 refine sd 7 hE k (x_assign rfl e26) ?_
 intro a9 hE e7 kp
 refine wpList_nil ?_
 replace e0 := hE.g e0
 replace e1 := hE.g e1
 replace e2 := hE.g e2
 replace k := k.env hE
 clear hE e24
 refine then_n ?_
 refine wp_seq ?_
 refine wp_region_lit ?_
 have hE := Env.refl a9 [8]
 refine sd 8 hE k (x_assign rfl rfl) ?_
 intro a10 hE e8 kp
 refine wpList_nil ?_
 replace e0 := hE.g e0
 replace e1 := hE.g e1
 replace e2 := hE.g e2
 replace e7 := hE.g e7
 replace k := k.env hE
 clear hE
 refine then_n ?_
 refine wp_seq ?_
 refine wp_region_lit ?_
 have hE := Env.refl a10 [27, 28, 29, 30, 31, 9]
 refine sd 27 hE k (x_move rfl (hE.g e0)) ?_
 intro a11 hE e27 kp
 refine sd 28 hE k (x_conv rfl e27 (conv_uint x0 _)) ?_
 intro a12 hE e28 kp
 refine sd 29 hE k (x_remU (m := uN x0) (j := 30) rfl e28 rfl rfl (by decide)) ?_
 intro a13 hE e29 kp
 refine sd 30 hE k (x_conv rfl e29 (conv_int _ _ (by omega))) ?_
 intro a14 hE e30 kp
 replace e30 := e30.trans (int_eq (show ((uN x0 % 30 : Nat) : Int) = (k0 : Int) by rw [hk0]))
 refine sd 31 hE k (x_add rfl rfl e30 (by omega)) ?_
 intro a15 hE e31 kp
 replace e31 := e31.trans (int_eq (show 1 + (k0 : Int) = (kk : Int) by omega))
 refine sd 9 hE k (x_assign rfl e31) ?_
 intro a16 hE e9 kp
 refine wpList_nil ?_
 replace e1 := hE.g e1
 replace e2 := hE.g e2
 replace e7 := hE.g e7
 replace e8 := hE.g e8
 replace k := k.env hE
 clear hE e0
 refine then_n ?_
 replace O := sh_nil O
 refine wp_seq ?_
 refine wp_seq ?_
 refine wp_region_lit ?_
 have hE := Env.refl a16 [10]
 refine sd 10 hE k (x_assign rfl rfl) ?_
 intro a17 hE e10 kp
 refine wpList_nil ?_
 replace e1 := hE.g e1
 replace e2 := hE.g e2
 replace e7 := hE.g e7
 replace e8 := hE.g e8
 replace e9 := hE.g e9
 replace k := k.env hE
 clear hE
 refine then_n ?_
 refine wp_block ?_
 refine wp_loop (fun a w => Fr 195 a ∧ a.eval (.tmp 1) = .int .i64 x1 ∧ a.eval (.tmp 2) = .int .i64 x2 ∧ a.eval (.tmp 7) = .pointer (some ⟨sb, 0, none⟩) ∧ a.eval (.tmp 9) = .int .i64 ↑kk ∧ ∃ (i rt : Nat) (N : List Nd) (B : Option Addr) (cap : Nat) (vs : List Value), a.eval (.tmp 8) = .int .i64 ↑rt ∧ a.eval (.tmp 10) = .int .i64 ↑i ∧ i ≤ kk ∧ N.length ≤ 5 * i ∧ Tre N rt (8 + i) (PM i) ∧ OwnT W0.heap.size W0 ((tBlk sb 28 #[.slice B N.length cap, .int .i64 511]) :: (tRow 125 2 (.slice B N.length cap) N.length (leafV vs N)) :: (tPool vs N) :: []) w) (fun a w => kk - (intOf (a.eval (.tmp 10))).toNat) ?_ ?_
 · exact ⟨k, e1, e2, e7, e9, 0, 0, [], none, 0, [], e8, e10, Nat.zero_le _, Nat.zero_le _, (Tre.zero []).le (by omega), O⟩
 intro a18 w19 hI
 clear k e1 e2 e7 e9
 obtain ⟨k, e1, e2, e7, e9, h_⟩ := hI
 clear O e8 e10
 obtain ⟨i, rt, N, B, cap, vs, e8, e10, hi, hN, hT, O⟩ := h_
 have mi := e10
 by_cases hlt : i < kk
 · have hltI : (i : Int) < (kk : Int) := by omega
   refine wp_seq ?_
   refine wp_seq ?_
   refine wp_region_lit ?_
   have hE := Env.refl a18 [32, 33, 34]
   refine sd 32 hE k (x_move rfl (hE.g e10)) ?_
   intro a20 hE e32 kp
   refine sd 33 hE k (x_move rfl (hE.g e9)) ?_
   intro a21 hE e33 kp
   replace e32 := (kp 32 rfl).trans e32
   refine sd 34 hE k (x_dec (x_lss rfl e32 e33) (decide_eq_true (by omega))) ?_
   intro a22 hE e34 kp
   refine wpList_nil ?_
   replace e1 := hE.g e1
   replace e2 := hE.g e2
   replace e7 := hE.g e7
   replace e8 := hE.g e8
   replace e9 := hE.g e9
   replace e10 := hE.g e10
   replace k := k.env hE
   clear hE
   refine then_n ?_
   refine cond_t e34 rfl ?_
   refine wp_skip ?_
   refine then_n ?_
   refine wp_seq ?_
   refine wp_block ?_
   refine wp_seq ?_
   refine wp_region_lit ?_
   have hE := Env.refl a22 [38, 39, 40, 41, 42, 43, 44, 45, 46, 37, 47, 48, 11, 12]
   refine sd 38 hE k (x_move rfl (hE.g e7)) ?_
   intro a23 hE e38 kp
   apply sq_det 39 hE k rfl (by rfl) (by rfl) rfl
   case h =>
    simp [go_sem, ↓IntWalk.iteOmega, ev e38]
    with_reducible rfl
   intro a24 hE e39 kp
   refine sd 40 hE k (x_move rfl (hE.g e8)) ?_
   intro a25 hE e40 kp
   replace e39 := (kp 39 rfl).trans e39
   refine sd 41 hE k (x_move rfl (hE.g e10)) ?_
   intro a26 hE e41 kp
   replace e39 := (kp 39 rfl).trans e39
   replace e40 := (kp 40 rfl).trans e40
   refine sd 42 hE k (x_add rfl e41 rfl (by omega)) ?_
   intro a27 hE e42 kp
   replace e39 := (kp 39 rfl).trans e39
   replace e40 := (kp 40 rfl).trans e40
   refine sd 43 hE k (x_move rfl (hE.g e10)) ?_
   intro a28 hE e43 kp
   replace e39 := (kp 39 rfl).trans e39
   replace e40 := (kp 40 rfl).trans e40
   replace e42 := (kp 42 rfl).trans e42
   apply sq_det 44 hE k rfl (by rfl) (by rfl) rfl
   case h =>
    simp [go_sem, ↓IntWalk.iteOmega, ev e43]
    with_reducible rfl
   intro a29 hE e44 kp
   replace e39 := (kp 39 rfl).trans e39
   replace e40 := (kp 40 rfl).trans e40
   replace e42 := (kp 42 rfl).trans e42
   apply sq_det 45 hE k rfl (by rfl) (by rfl) rfl
   case h =>
    simp [go_sem, ↓IntWalk.iteOmega, ev e42, ev e44]
    with_reducible rfl
   intro a30 hE e45 kp
   replace e39 := (kp 39 rfl).trans e39
   replace e40 := (kp 40 rfl).trans e40
   apply sq_call 46 hE k rfl (by rfl) (by rfl) rfl
   case h =>
    simp [go_sem, ↓IntWalk.iteOmega, ev e39, ev e40, ev e45]
    with_reducible exact ⟨rfl, rfl⟩
   case hc => exact pPut ((i : Int) + 1) 0 (i : Int) _ O (by unfold GoodPl; omega) hT.norm (by split <;> omega) (by omega)
   clear O
   rintro e w32 ⟨N2, r2, er, B2, cap2, vs2, rfl, O, hPL⟩
   refine ⟨_, rfl, ?_⟩
   intro a31 hE e46 kp
   refine sd 37 hE k (x_move rfl e46) ?_
   intro a33 hE e37 kp
   apply sq_det 47 hE k rfl (by rfl) (by rfl) rfl
   case h =>
    simp [go_sem, ↓IntWalk.iteOmega, ev e37]
    with_reducible rfl
   intro a34 hE e47 kp
   replace e37 := (kp 37 rfl).trans e37
   apply sq_det 48 hE k rfl (by rfl) (by rfl) rfl
   case h =>
    simp [go_sem, ↓IntWalk.iteOmega, ev e37]
    with_reducible rfl
   intro a35 hE e48 kp
   replace e47 := (kp 47 rfl).trans e47
   refine sd 11 hE k (x_assign rfl e47) ?_
   intro a36 hE e11 kp
   replace e48 := (kp 48 rfl).trans e48
   refine sd 12 hE k (x_assign rfl e48) ?_
   intro a37 hE e12 kp
   replace e11 := (kp 11 rfl).trans e11
   refine wpList_nil ?_
   replace e1 := hE.g e1
   replace e2 := hE.g e2
   replace e7 := hE.g e7
   replace e9 := hE.g e9
   replace e10 := hE.g e10
   replace k := k.env hE
   clear hE e8 e34
   refine then_n ?_
   rw [show plKey ((i : Int) + 1) = 8589934593 + i by unfold plKey; omega, show plVal 0 (i : Int) = 256 * i by unfold plVal; omega] at hPL
   obtain ⟨⟨M, rfl, hM⟩, hPL⟩ := hPL
   obtain ⟨rfl, r, rfl, hr1, hr2, hT2⟩ := hPL.resolve_left (fun h => h.2.2 (by omega))
   rw [ins_PM] at hT2

   refine wp_seq ?_
   refine wp_seq ?_
   refine wp_region_lit ?_
   have hE := Env.refl a37 [49, 50]
   refine sd 49 hE k (x_move rfl (hE.g e12)) ?_
   intro a38 hE e49 kp
   refine sd 50 hE k (x_neq rfl e49 rfl) ?_
   intro a39 hE e50 kp
   refine wpList_nil ?_
   replace e1 := hE.g e1
   replace e2 := hE.g e2
   replace e7 := hE.g e7
   replace e9 := hE.g e9
   replace e10 := hE.g e10
   replace e11 := hE.g e11
   replace k := k.env hE
   clear hE e12
   refine then_n ?_
   refine cond_f e50 rfl ?_
   refine wp_skip ?_
   refine then_n ?_
   refine wp_region_lit ?_
   have hE := Env.refl a39 [51, 8]
   refine sd 51 hE k (x_move rfl (hE.g e11)) ?_
   intro a40 hE e51 kp
   refine sd 8 hE k (x_assign rfl e51) ?_
   intro a41 hE e8 kp
   refine wpList_nil ?_
   replace e1 := hE.g e1
   replace e2 := hE.g e2
   replace e7 := hE.g e7
   replace e9 := hE.g e9
   replace e10 := hE.g e10
   replace k := k.env hE
   clear hE e11 e50
   refine block_n ?_
   refine then_n ?_
   refine wp_region_lit ?_
   have hE := Env.refl a41 [35, 36, 10]
   refine sd 35 hE k (x_move rfl e10) ?_
   intro a42 hE e35 kp
   replace e10 := (kp 10 rfl).trans e10
   refine sd 36 hE k (x_add rfl e35 rfl (by omega)) ?_
   intro a43 hE e36 kp
   replace e10 := (kp 10 rfl).trans e10
   refine sd 10 hE k (x_assign rfl e36) ?_
   intro a44 hE e10 kp
   refine wpList_nil ?_
   replace e1 := hE.g e1
   replace e2 := hE.g e2
   replace e7 := hE.g e7
   replace e8 := hE.g e8
   replace e9 := hE.g e9
   replace k := k.env hE
   clear hE
   refine then_n ?_
   refine ⟨⟨k, e1, e2, e7, e9, i + 1, r, N ++ M, B2, cap2, vs2, e8, e10, by omega, by rw [List.length_append]; omega, (hT2.next (by omega)).le (by omega), O⟩, ?_⟩
   rw [e10, mi]; simp only [intOf]; omega
 · skip
   obtain rfl : kk = i := by omega
   clear mi
   have hLl := LM_len kk
   obtain ⟨L1, hL1⟩ : ∃ L, LM kk = L := ⟨_, rfl⟩
   obtain ⟨P2, hP2⟩ : ∃ P, (PM kk).set c0 (8589934593 + c0, 1 + 256 * sl) = P := ⟨_, rfl⟩
   obtain ⟨L2, hL2⟩ : ∃ L, (LM kk).set c0 ((c0 : Int) + 1, 1, (sl : Int)) = L := ⟨_, rfl⟩
   have hL2l : L2.length = kk := by rw [← hL2, List.length_set, hLl]
   have hP2m : ∀ y ∈ P2, (∃ j, j < kk ∧ y = (8589934593 + j, 256 * j)) ∨ y = (8589934593 + c0, 1 + 256 * sl) := fun y hy => by
    rw [← hP2] at hy
    rcases mem_set hy with h | h
    · exact .inr h
    · obtain ⟨j, hj, rfl⟩ := List.mem_map.1 h
      exact .inl ⟨j, List.mem_range.1 hj, rfl⟩
   have hP2of : P2.map plOf = L2 := by rw [← hP2, ← hL2, List.map_set, PM_of (by omega), plOf_1 (by omega) bsl]
   have hP2ok : P2.all plOkB = true := List.all_eq_true.2 fun y hy => by
    rcases hP2m y hy with ⟨j, hj, rfl⟩ | rfl
    · exact plOk_0 (by omega)
    · exact plOk_1 (by omega) bsl
   have hP2in : ∀ y ∈ P2, 8589934592 ≤ y.1 ∧ y.1 < 8589934593 + kk := fun y hy => by
    rcases hP2m y hy with ⟨j, hj, rfl⟩ | rfl
    · simp only; omega
    · simp only; omega
   have hg1 := LM_good (k := kk) (by omega)
   have hw1 := LM_wf (k := kk) (by omega)
   have hg2 := LS_good (k := kk) (c := c0) (by omega) bsl
   have hw2 := LS_wf (k := kk) (by omega) bc0 bsl
   have hg3 := LT_bad (s := sl) bc0
   have hof1 := PM_of (k := kk) (by omega)
   rw [hL1] at hg1 hw1 hLl hof1
   rw [hL2] at hg2 hw2 hg3
   have hw3 : ∀ x ∈ L2 ++ [((kk : Int) + 1, 1, (sl : Int))], wfP x := fun x hx => by
    rcases List.mem_append.1 hx with h | h
    · exact hw2 x h
    · obtain rfl := List.mem_singleton.1 h
      exact wfP_of (by simp only; omega)

   refine wp_seq ?_
   refine wp_seq ?_
   refine wp_region_lit ?_
   have hE := Env.refl a18 [32, 33, 34]
   refine sd 32 hE k (x_move rfl (hE.g e10)) ?_
   intro a45 hE e32 kp
   refine sd 33 hE k (x_move rfl (hE.g e9)) ?_
   intro a46 hE e33 kp
   replace e32 := (kp 32 rfl).trans e32
   refine sd 34 hE k (x_dec (x_lss rfl e32 e33) (decide_eq_false (by omega))) ?_
   intro a47 hE e34 kp
   refine wpList_nil ?_
   replace e1 := hE.g e1
   replace e2 := hE.g e2
   replace e7 := hE.g e7
   replace e8 := hE.g e8
   replace e9 := hE.g e9
   replace e10 := hE.g e10
   replace k := k.env hE
   clear hE
   refine then_n ?_
   refine cond_f e34 rfl ?_
   refine wp_exit ?_
   refine then_x ?_
   refine then_x ?_
   refine block_x ?_
   refine then_n ?_
   refine wp_seq ?_
   refine wp_region_lit ?_
   have hE := Env.refl a47 [53, 54, 55, 56, 52, 57, 58, 13, 14]
   refine sd 53 hE k (x_move rfl (hE.g e7)) ?_
   intro a48 hE e53 kp
   apply sq_det 54 hE k rfl (by rfl) (by rfl) rfl
   case h =>
    simp [go_sem, ↓IntWalk.iteOmega, ev e53]
    with_reducible rfl
   intro a49 hE e54 kp
   refine sd 55 hE k (x_move rfl (hE.g e8)) ?_
   intro a50 hE e55 kp
   replace e54 := (kp 54 rfl).trans e54
   apply sq_call 56 hE k rfl (by rfl) (by rfl) rfl
   case h =>
    simp [go_sem, ↓IntWalk.iteOmega, ev e54, ev e55]
    with_reducible exact ⟨rfl, rfl⟩
   case hc => exact pList (R := []) (cut_in (PM_in (by omega))) _ O hT (by omega) (by omega)
   rintro e w52 hL
   obtain ⟨Bw, cw, rfl, O⟩ := (hL.resolve_right (fun h => absurd ((PM_ok (by omega)).symm.trans h.1) Bool.noConfusion)).2
   clear hL
   rw [hof1, hLl] at O
   refine ⟨.tuple #[.slice Bw kk cw, .int .i64 0], by rw [hof1, hLl], ?_⟩
   intro a51 hE e56 kp
   refine sd 52 hE k (x_move rfl e56) ?_
   intro a53 hE e52 kp
   apply sq_det 57 hE k rfl (by rfl) (by rfl) rfl
   case h =>
    simp [go_sem, ↓IntWalk.iteOmega, ev e52]
    with_reducible rfl
   intro a54 hE e57 kp
   replace e52 := (kp 52 rfl).trans e52
   apply sq_det 58 hE k rfl (by rfl) (by rfl) rfl
   case h =>
    simp [go_sem, ↓IntWalk.iteOmega, ev e52]
    with_reducible rfl
   intro a55 hE e58 kp
   replace e57 := (kp 57 rfl).trans e57
   refine sd 13 hE k (x_assign rfl e57) ?_
   intro a56 hE e13 kp
   replace e58 := (kp 58 rfl).trans e58
   refine sd 14 hE k (x_assign rfl e58) ?_
   intro a57 hE e14 kp
   replace e13 := (kp 13 rfl).trans e13
   refine wpList_nil ?_
   replace e1 := hE.g e1
   replace e2 := hE.g e2
   replace e7 := hE.g e7
   replace e8 := hE.g e8
   replace e9 := hE.g e9
   replace k := k.env hE
   clear hE e10 e34
   refine then_n ?_
   refine wp_seq ?_
   refine wp_region_lit ?_
   have hE := Env.refl a57 [59, 60, 61, 62, 63, 64, 65, 15]
   refine sd 59 hE k (x_move rfl (hE.g e1)) ?_
   intro a58 hE e59 kp
   refine sd 60 hE k (x_conv rfl e59 (conv_uint x1 _)) ?_
   intro a59 hE e60 kp
   refine sd 61 hE k (x_move rfl (hE.g e9)) ?_
   intro a60 hE e61 kp
   replace e60 := (kp 60 rfl).trans e60
   refine sd 62 hE k (x_conv rfl e61 (conv_uint (kk : Int) _)) ?_
   intro a61 hE e62 kp
   replace e60 := (kp 60 rfl).trans e60
   replace e62 := e62.trans (int_eq (show ((uN (kk : Int) : Nat) : Int) = (kk : Int) by rw [uN_nat (by omega)]))
   refine sd 63 hE k (x_remU (m := uN x1) (j := kk) rfl e60 e62 rfl bkk.1) ?_
   intro a62 hE e63 kp
   replace e63 := e63.trans (int_eq (show ((uN x1 % kk : Nat) : Int) = (c0 : Int) by rw [hc0]))
   refine sd 64 hE k (x_conv rfl e63 (conv_int c0 _ (by omega))) ?_
   intro a63 hE e64 kp
   refine sd 65 hE k (x_add rfl rfl e64 (by omega)) ?_
   intro a64 hE e65 kp
   replace e65 := e65.trans (int_eq (show 1 + (c0 : Int) = (c0 : Int) + 1 by omega))
   refine sd 15 hE k (x_assign rfl e65) ?_
   intro a65 hE e15 kp
   refine wpList_nil ?_
   replace e2 := hE.g e2
   replace e7 := hE.g e7
   replace e8 := hE.g e8
   replace e9 := hE.g e9
   replace e13 := hE.g e13
   replace e14 := hE.g e14
   replace k := k.env hE
   clear hE e1
   refine then_n ?_
   refine wp_seq ?_
   refine wp_region_lit ?_
   have hE := Env.refl a65 [66, 67, 68, 69, 70, 16]
   refine sd 66 hE k (x_move rfl (hE.g e2)) ?_
   intro a66 hE e66 kp
   refine sd 67 hE k (x_conv rfl e66 (conv_uint x2 _)) ?_
   intro a67 hE e67 kp
   refine sd 68 hE k (x_remU (m := uN x2) (j := 256) rfl e67 rfl rfl (by decide)) ?_
   intro a68 hE e68 kp
   refine sd 69 hE k (x_conv rfl e68 (conv_int _ _ (by omega))) ?_
   intro a69 hE e69 kp
   replace e69 := e69.trans (int_eq (show ((uN x2 % 256 : Nat) : Int) = (sl : Int) by rw [hsl]))
   apply sq_det 70 hE k rfl (by rfl) (by rfl) rfl
   case h =>
    simp [go_sem, ↓IntWalk.iteOmega, ev e69]
    with_reducible rfl
   intro a70 hE e70 kp
   refine sq_new O (cs := #[.int .i64 0, .int .i64 0]) (t := 108) 16 hE k rfl (by rfl) (by rfl) rfl (by simp [go_sem, ↓IntWalk.iteOmega]) ?_
   clear O
   intro tb a71 w72 O hE e16 kp
   replace e70 := (kp 70 rfl).trans e70
   have q0 : w72.cell? ⟨tb, 0, none⟩ = some (.int .i64 0) := (OwnT.blk O 0 rfl).cell 0
   have z0 : w72.frozen? ⟨tb, 0, none⟩ = false := (OwnT.blk O 0 rfl).frozen 0
   have q1 : w72.cell? ⟨tb, 1, none⟩ = some (.int .i64 0) := (OwnT.blk O 0 rfl).cell 1
   have z1 : w72.frozen? ⟨tb, 1, none⟩ = false := (OwnT.blk O 0 rfl).frozen 1
   refine sq_unit (w' := ((w72.setCell ⟨tb, 0, none⟩ (.int .i64 1)).setCell ⟨tb, 1, none⟩ (.int .i64 ↑sl))) hE rfl rfl (by simp [go_sem, ↓IntWalk.iteOmega, ev e16, ev e70, q0, z0, q1, z1]) ?_
   replace O := OwnT.push 0 rfl (((OwnT.pull O 0 rfl).set 0 (.int .i64 1)).set 1 (.int .i64 ↑sl))
   clear q0 z0 q1 z1
   generalize ((w72.setCell ⟨tb, 0, none⟩ (.int .i64 1)).setCell ⟨tb, 1, none⟩ (.int .i64 ↑sl)) = w73 at O ⊢
   replace O : OwnT _ _ ((tBlk tb 108 #[.int .i64 1, .int .i64 ↑sl]) :: (tBlk sb 28 #[.slice B N.length cap, .int .i64 511]) :: (tRow 125 2 (.slice B N.length cap) N.length (leafV vs N)) :: (tPool vs N) :: (tPls (.slice Bw kk cw) L1) :: []) w73 := O
   refine wpList_nil ?_
   replace e7 := hE.g e7
   replace e8 := hE.g e8
   replace e9 := hE.g e9
   replace e13 := hE.g e13
   replace e14 := hE.g e14
   replace e15 := hE.g e15
   replace k := k.env hE
   clear hE e2 e70
   refine then_n ?_
   replace O : OwnT _ _ ((tBlk sb 28 #[.slice B N.length cap, .int .i64 511]) :: (tRow 125 2 (.slice B N.length cap) N.length (leafV vs N)) :: (tPool vs N) :: (tPls (.slice Bw kk cw) L1) :: (tBlk tb 108 #[.int .i64 1, .int .i64 ↑sl]) :: []) w73 := OwnT.pickR (L := [_, _, _, _, _]) (R := []) O [1, 2, 3, 4, 0] (by decide)
   refine wp_seq ?_
   refine wp_region_lit ?_
   have hE := Env.refl a71 [72, 73, 74, 75, 76, 77, 78, 71, 79, 80, 17, 18]
   refine sd 72 hE k (x_move rfl (hE.g e7)) ?_
   intro a74 hE e72 kp
   apply sq_det 73 hE k rfl (by rfl) (by rfl) rfl
   case h =>
    simp [go_sem, ↓IntWalk.iteOmega, ev e72]
    with_reducible rfl
   intro a75 hE e73 kp
   refine sd 74 hE k (x_move rfl (hE.g e8)) ?_
   intro a76 hE e74 kp
   replace e73 := (kp 73 rfl).trans e73
   refine sd 75 hE k (x_move rfl (hE.g e15)) ?_
   intro a77 hE e75 kp
   replace e73 := (kp 73 rfl).trans e73
   replace e74 := (kp 74 rfl).trans e74
   apply sq_det 76 hE k rfl (by rfl) (by rfl) rfl
   case h =>
    have q0 : w73.cell? ⟨tb, 0, none⟩ = some (.int .i64 1) := (OwnT.blk O 4 rfl).cell 0
    have q1 : w73.cell? ⟨tb, 1, none⟩ = some (.int .i64 ↑sl) := (OwnT.blk O 4 rfl).cell 1
    simp [go_sem, ↓IntWalk.iteOmega, ev (hE.g e16), q0, q1]
    with_reducible rfl
   intro a78 hE e76 kp
   replace e73 := (kp 73 rfl).trans e73
   replace e74 := (kp 74 rfl).trans e74
   replace e75 := (kp 75 rfl).trans e75
   apply sq_det 77 hE k rfl (by rfl) (by rfl) rfl
   case h =>
    simp [go_sem, ↓IntWalk.iteOmega, ev e75, ev e76]
    with_reducible rfl
   intro a79 hE e77 kp
   replace e73 := (kp 73 rfl).trans e73
   replace e74 := (kp 74 rfl).trans e74
   apply sq_call 78 hE k rfl (by rfl) (by rfl) rfl
   case h =>
    simp [go_sem, ↓IntWalk.iteOmega, ev e73, ev e74, ev e77]
    with_reducible exact ⟨rfl, rfl⟩
   case hc => exact pPut (R := _ :: _ :: []) ((c0 : Int) + 1) 1 (sl : Int) _ O (by unfold GoodPl; omega) hT.norm (by split <;> omega) (by omega)
   clear O
   rintro e w81 ⟨N2, r2, er, B2, cap2, vs2, rfl, O, hPL⟩
   refine ⟨_, rfl, ?_⟩
   intro a80 hE e78 kp
   refine sd 71 hE k (x_move rfl e78) ?_
   intro a82 hE e71 kp
   apply sq_det 79 hE k rfl (by rfl) (by rfl) rfl
   case h =>
    simp [go_sem, ↓IntWalk.iteOmega, ev e71]
    with_reducible rfl
   intro a83 hE e79 kp
   replace e71 := (kp 71 rfl).trans e71
   apply sq_det 80 hE k rfl (by rfl) (by rfl) rfl
   case h =>
    simp [go_sem, ↓IntWalk.iteOmega, ev e71]
    with_reducible rfl
   intro a84 hE e80 kp
   replace e79 := (kp 79 rfl).trans e79
   refine sd 17 hE k (x_assign rfl e79) ?_
   intro a85 hE e17 kp
   replace e80 := (kp 80 rfl).trans e80
   refine sd 18 hE k (x_assign rfl e80) ?_
   intro a86 hE e18 kp
   replace e17 := (kp 17 rfl).trans e17
   refine wpList_nil ?_
   replace e7 := hE.g e7
   replace e9 := hE.g e9
   replace e13 := hE.g e13
   replace e14 := hE.g e14
   replace e15 := hE.g e15
   replace e16 := hE.g e16
   replace k := k.env hE
   clear hE e8
   refine then_n ?_
   rw [show plKey ((c0 : Int) + 1) = 8589934593 + c0 by unfold plKey; omega, show plVal 1 (sl : Int) = 1 + 256 * sl by unfold plVal; omega] at hPL
   obtain ⟨⟨M, rfl, hM⟩, hPL⟩ := hPL
   obtain ⟨rfl, r, rfl, hr1, hr2, hT2⟩ := hPL.resolve_left (fun h => h.2.2 (by omega))
   rw [ins_mid bc0, hP2] at hT2
   replace hT2 := hT2.next (by omega)
   have hN2 : (N ++ M).length ≤ 5 * kk + 5 := by rw [List.length_append]; omega
   obtain ⟨N1, hN1⟩ : ∃ N1, N ++ M = N1 := ⟨_, rfl⟩
   rw [hN1] at hT2 hN2 O
   clear hT hN hN1 hr2

   refine wp_seq ?_
   refine wp_region_lit ?_
   have hE := Env.refl a86 [82, 83, 84, 85, 81, 86, 87, 19, 20]
   refine sd 82 hE k (x_move rfl (hE.g e7)) ?_
   intro a87 hE e82 kp
   apply sq_det 83 hE k rfl (by rfl) (by rfl) rfl
   case h =>
    simp [go_sem, ↓IntWalk.iteOmega, ev e82]
    with_reducible rfl
   intro a88 hE e83 kp
   refine sd 84 hE k (x_move rfl (hE.g e17)) ?_
   intro a89 hE e84 kp
   replace e83 := (kp 83 rfl).trans e83
   apply sq_call 85 hE k rfl (by rfl) (by rfl) rfl
   case h =>
    simp [go_sem, ↓IntWalk.iteOmega, ev e83, ev e84]
    with_reducible exact ⟨rfl, rfl⟩
   case hc => exact pList (R := _ :: _ :: []) (cut_in fun y hy => by have := hP2in y hy; omega) _ O hT2 (by omega) (by omega)
   rintro e w91 hL
   obtain ⟨Bn, cn, rfl, O⟩ := (hL.resolve_right (fun h => absurd (hP2ok.symm.trans h.1) Bool.noConfusion)).2
   clear hL
   rw [hP2of, hL2l] at O
   refine ⟨.tuple #[.slice Bn kk cn, .int .i64 0], by rw [hP2of, hL2l], ?_⟩
   intro a90 hE e85 kp
   refine sd 81 hE k (x_move rfl e85) ?_
   intro a92 hE e81 kp
   apply sq_det 86 hE k rfl (by rfl) (by rfl) rfl
   case h =>
    simp [go_sem, ↓IntWalk.iteOmega, ev e81]
    with_reducible rfl
   intro a93 hE e86 kp
   replace e81 := (kp 81 rfl).trans e81
   apply sq_det 87 hE k rfl (by rfl) (by rfl) rfl
   case h =>
    simp [go_sem, ↓IntWalk.iteOmega, ev e81]
    with_reducible rfl
   intro a94 hE e87 kp
   replace e86 := (kp 86 rfl).trans e86
   refine sd 19 hE k (x_assign rfl e86) ?_
   intro a95 hE e19 kp
   replace e87 := (kp 87 rfl).trans e87
   refine sd 20 hE k (x_assign rfl e87) ?_
   intro a96 hE e20 kp
   replace e19 := (kp 19 rfl).trans e19
   refine wpList_nil ?_
   replace e7 := hE.g e7
   replace e9 := hE.g e9
   replace e13 := hE.g e13
   replace e14 := hE.g e14
   replace e15 := hE.g e15
   replace e16 := hE.g e16
   replace e17 := hE.g e17
   replace e18 := hE.g e18
   replace k := k.env hE
   clear hE
   refine then_n ?_
   refine wp_seq ?_
   refine wp_seq ?_
   refine wp_region_lit ?_
   have hE := Env.refl a96 [88, 89, 90, 91, 92, 93, 94, 95, 96, 97, 98, 99, 100, 101, 102, 103, 104, 105, 106, 107, 108, 109, 110, 111, 112, 113, 114, 115, 116, 117, 118, 119, 120, 121, 122, 123]
   refine sd 88 hE k (x_move rfl (hE.g e14)) ?_
   intro a97 hE e88 kp
   refine sd 89 hE k (x_neq rfl e88 rfl) ?_
   intro a98 hE e89 kp
   refine sd 90 hE k (x_move rfl e89) ?_
   intro a99 hE e90 kp
   apply sq_detg 91 hE k rfl (by rfl) (by rfl) rfl rfl e90
   case h =>
    exact x_move rfl (hE.g e18)
   intro a100 hE e91 kp
   replace e90 := (kp 90 rfl).trans e90
   apply sq_detg 92 hE k rfl (by rfl) (by rfl) rfl rfl e90
   case h =>
    exact x_neq rfl e91 rfl
   intro a101 hE e92 kp
   replace e90 := (kp 90 rfl).trans e90
   refine sd 93 hE k (x_pick_f rfl e90 e92) ?_
   intro a102 hE e93 kp
   refine sd 94 hE k (x_move rfl e93) ?_
   intro a103 hE e94 kp
   apply sq_detg 95 hE k rfl (by rfl) (by rfl) rfl rfl e94
   case h =>
    exact x_move rfl (hE.g e20)
   intro a104 hE e95 kp
   replace e94 := (kp 94 rfl).trans e94
   apply sq_detg 96 hE k rfl (by rfl) (by rfl) rfl rfl e94
   case h =>
    exact x_neq rfl e95 rfl
   intro a105 hE e96 kp
   replace e94 := (kp 94 rfl).trans e94
   refine sd 97 hE k (x_pick_f rfl e94 e96) ?_
   intro a106 hE e97 kp
   refine sd 98 hE k (x_move rfl e97) ?_
   intro a107 hE e98 kp
   apply sq_detg 99 hE k rfl (by rfl) (by rfl) rfl rfl e98
   case h =>
    exact x_move rfl (hE.g e13)
   intro a108 hE e99 kp
   replace e98 := (kp 98 rfl).trans e98
   apply sq_detg 100 hE k rfl (by rfl) (by rfl) rfl rfl e98
   case h =>
    exact x_len Try.underlying111 rfl e99
   intro a109 hE e100 kp
   replace e98 := (kp 98 rfl).trans e98
   apply sq_detg 101 hE k rfl (by rfl) (by rfl) rfl rfl e98
   case h =>
    exact x_move rfl (hE.g e9)
   intro a110 hE e101 kp
   replace e98 := (kp 98 rfl).trans e98
   replace e100 := (kp 100 rfl).trans e100
   apply sq_detg 102 hE k rfl (by rfl) (by rfl) rfl rfl e98
   case h =>
    exact x_dec (x_neq rfl e100 e101) (decide_eq_false (fun h => h rfl))
   intro a111 hE e102 kp
   replace e98 := (kp 98 rfl).trans e98
   refine sd 103 hE k (x_pick_f rfl e98 e102) ?_
   intro a112 hE e103 kp
   refine sd 104 hE k (x_move rfl e103) ?_
   intro a113 hE e104 kp
   apply sq_detg 105 hE k rfl (by rfl) (by rfl) rfl rfl e104
   case h =>
    exact x_move rfl (hE.g e19)
   intro a114 hE e105 kp
   replace e104 := (kp 104 rfl).trans e104
   apply sq_detg 106 hE k rfl (by rfl) (by rfl) rfl rfl e104
   case h =>
    exact x_len Try.underlying111 rfl e105
   intro a115 hE e106 kp
   replace e104 := (kp 104 rfl).trans e104
   apply sq_detg 107 hE k rfl (by rfl) (by rfl) rfl rfl e104
   case h =>
    exact x_move rfl (hE.g e9)
   intro a116 hE e107 kp
   replace e104 := (kp 104 rfl).trans e104
   replace e106 := (kp 106 rfl).trans e106
   apply sq_detg 108 hE k rfl (by rfl) (by rfl) rfl rfl e104
   case h =>
    exact x_dec (x_neq rfl e106 e107) (decide_eq_false (fun h => h rfl))
   intro a117 hE e108 kp
   replace e104 := (kp 104 rfl).trans e104
   refine sd 109 hE k (x_pick_f rfl e104 e108) ?_
   intro a118 hE e109 kp
   refine sd 110 hE k (x_move rfl e109) ?_
   intro a119 hE e110 kp
   apply sq_detg 111 hE k rfl (by rfl) (by rfl) rfl rfl e110
   case h =>
    exact x_move rfl (hE.g e13)
   intro a120 hE e111 kp
   replace e110 := (kp 110 rfl).trans e110
   apply sq_detg 112 hE k rfl (by rfl) (by rfl) rfl rfl e110
   case h =>
    exact x_move rfl (hE.g e9)
   intro a121 hE e112 kp
   replace e110 := (kp 110 rfl).trans e110
   replace e111 := (kp 111 rfl).trans e111
   apply sq_detg 113 hE k rfl (by rfl) (by rfl) rfl rfl e110
   case h =>
    simp [go_sem, ↓IntWalk.iteOmega, ev e112]
    with_reducible rfl
   intro a122 hE e113 kp
   replace e110 := (kp 110 rfl).trans e110
   replace e111 := (kp 111 rfl).trans e111
   apply sq_callg 114 hE k rfl (by rfl) (by rfl) rfl rfl e110
   case h =>
    simp [go_sem, ↓IntWalk.iteOmega, ev e111, ev e113]
    with_reducible exact ⟨rfl, rfl⟩
   case hc => exact pgood_is (OwnT.get O 4 rfl) hLl (by omega) hw1 hg1
   rintro e w124 ⟨rfl, RE⟩
   replace O := OwnT.ext O RE
   refine ⟨_, rfl, ?_⟩
   intro a123 hE e114 kp
   replace e110 := (kp 110 rfl).trans e110
   apply sq_detg 115 hE k rfl (by rfl) (by rfl) rfl rfl e110
   case h =>
    exact x_not rfl e114
   intro a125 hE e115 kp
   replace e110 := (kp 110 rfl).trans e110
   refine sd 116 hE k (x_pick_f rfl e110 e115) ?_
   intro a126 hE e116 kp
   refine sd 117 hE k (x_move rfl e116) ?_
   intro a127 hE e117 kp
   apply sq_detg 118 hE k rfl (by rfl) (by rfl) rfl rfl e117
   case h =>
    exact x_move rfl (hE.g e19)
   intro a128 hE e118 kp
   replace e117 := (kp 117 rfl).trans e117
   apply sq_detg 119 hE k rfl (by rfl) (by rfl) rfl rfl e117
   case h =>
    exact x_move rfl (hE.g e9)
   intro a129 hE e119 kp
   replace e117 := (kp 117 rfl).trans e117
   replace e118 := (kp 118 rfl).trans e118
   apply sq_detg 120 hE k rfl (by rfl) (by rfl) rfl rfl e117
   case h =>
    simp [go_sem, ↓IntWalk.iteOmega, ev e119]
    with_reducible rfl
   intro a130 hE e120 kp
   replace e117 := (kp 117 rfl).trans e117
   replace e118 := (kp 118 rfl).trans e118
   apply sq_callg 121 hE k rfl (by rfl) (by rfl) rfl rfl e117
   case h =>
    simp [go_sem, ↓IntWalk.iteOmega, ev e118, ev e120]
    with_reducible exact ⟨rfl, rfl⟩
   case hc => exact pgood_is (OwnT.get O 3 rfl) hL2l (by omega) hw2 hg2
   rintro e w132 ⟨rfl, RE⟩
   replace O := OwnT.ext O RE
   refine ⟨_, rfl, ?_⟩
   intro a131 hE e121 kp
   replace e117 := (kp 117 rfl).trans e117
   apply sq_detg 122 hE k rfl (by rfl) (by rfl) rfl rfl e117
   case h =>
    exact x_not rfl e121
   intro a133 hE e122 kp
   replace e117 := (kp 117 rfl).trans e117
   refine sd 123 hE k (x_pick_f rfl e117 e122) ?_
   intro a134 hE e123 kp
   refine wpList_nil ?_
   replace e7 := hE.g e7
   replace e9 := hE.g e9
   replace e13 := hE.g e13
   replace e15 := hE.g e15
   replace e16 := hE.g e16
   replace e17 := hE.g e17
   replace e19 := hE.g e19
   replace k := k.env hE
   clear hE e14 e18 e20
   refine then_n ?_
   refine cond_f e123 rfl ?_
   refine wp_skip ?_
   refine then_n ?_
   refine wp_seq ?_
   refine wp_seq ?_
   refine wp_region_lit ?_
   have hE := Env.refl a134 [21]
   refine sd 21 hE k (x_assign rfl rfl) ?_
   intro a135 hE e21 kp
   refine wpList_nil ?_
   replace e7 := hE.g e7
   replace e9 := hE.g e9
   replace e13 := hE.g e13
   replace e15 := hE.g e15
   replace e16 := hE.g e16
   replace e17 := hE.g e17
   replace e19 := hE.g e19
   replace k := k.env hE
   clear hE e123
   refine then_n ?_
   refine wp_block ?_
   refine wp_loop (fun a w => Fr 195 a ∧ a.eval (.tmp 7) = .pointer (some ⟨sb, 0, none⟩) ∧ a.eval (.tmp 9) = .int .i64 ↑kk ∧ a.eval (.tmp 13) = .slice Bw kk cw ∧ a.eval (.tmp 15) = .int .i64 (↑c0 + 1) ∧ a.eval (.tmp 16) = .pointer (some ⟨tb, 0, none⟩) ∧ a.eval (.tmp 17) = .int .i64 ↑r ∧ a.eval (.tmp 19) = .slice Bn kk cn ∧ ∃ (i : Nat), a.eval (.tmp 21) = .int .i64 ↑i ∧ i ≤ kk ∧ OwnT W0.heap.size W0 ((tBlk sb 28 #[.slice B2 N1.length cap2, .int .i64 511]) :: (tRow 125 2 (.slice B2 N1.length cap2) N1.length (leafV vs2 N1)) :: (tPool vs2 N1) :: (tPls (.slice Bn kk cn) L2) :: (tPls (.slice Bw kk cw) L1) :: (tBlk tb 108 #[.int .i64 1, .int .i64 ↑sl]) :: []) w) (fun a w => kk - (intOf (a.eval (.tmp 21))).toNat) ?_ ?_
   · exact ⟨k, e7, e9, e13, e15, e16, e17, e19, 0, e21, Nat.zero_le _, O⟩
   intro a136 w137 hI
   clear k e7 e9 e13 e15 e16 e17 e19
   obtain ⟨k, e7, e9, e13, e15, e16, e17, e19, h_⟩ := hI
   clear O e21
   obtain ⟨i, e21, hi, O⟩ := h_
   have mi := e21
   by_cases hlt : i < kk
   · have hltI : (i : Int) < (kk : Int) := by omega
     have hx1 : L1[i]? = some ((i : Int) + 1, 0, (i : Int)) := by rw [← hL1]; exact LM_at hlt
     have hx2 : L2[i]? = some (if i = c0 then ((c0 : Int) + 1, 1, (sl : Int)) else ((i : Int) + 1, 0, (i : Int))) := by rw [← hL2]; exact LS_at hlt
     obtain ⟨gn, rfl, -⟩ := pl_cells (OwnT.get O 3 rfl) hx2
     obtain ⟨gw, rfl, -⟩ := pl_cells (OwnT.get O 4 rfl) hx1
     by_cases hic : i = c0
     · rw [if_pos hic] at hx2
       have hcI : (i : Int) = (c0 : Int) := by omega
       refine wp_seq ?_
       refine wp_seq ?_
       refine wp_region_lit ?_
       have hE := Env.refl a136 [124, 125, 126]
       refine sd 124 hE k (x_move rfl (hE.g e21)) ?_
       intro a138 hE e124 kp
       refine sd 125 hE k (x_move rfl (hE.g e9)) ?_
       intro a139 hE e125 kp
       replace e124 := (kp 124 rfl).trans e124
       refine sd 126 hE k (x_dec (x_lss rfl e124 e125) (decide_eq_true (by omega))) ?_
       intro a140 hE e126 kp
       refine wpList_nil ?_
       replace e7 := hE.g e7
       replace e9 := hE.g e9
       replace e13 := hE.g e13
       replace e15 := hE.g e15
       replace e16 := hE.g e16
       replace e17 := hE.g e17
       replace e19 := hE.g e19
       replace e21 := hE.g e21
       replace k := k.env hE
       clear hE
       refine then_n ?_
       refine cond_t e126 rfl ?_
       refine wp_skip ?_
       refine then_n ?_
       refine wp_seq ?_
       refine wp_block ?_
       refine wp_seq ?_
       refine wp_typed (R := Ext) (w0 := w137) [[], [], [0, 1], [0, 1, 2], [0, 1, 2, 3], [], [0, 1, 2, 3, 4, 5], [0, 1, 2, 3, 4, 5, 6], [0, 1, 2, 3, 4, 5, 6, 7], [0, 1, 2, 3, 4, 5, 6, 7], [0, 1, 2, 3, 4, 5, 6, 7, 8, 9], [0, 1, 2, 3, 4, 5, 6, 7, 8, 9, 10], [0, 1, 2, 3, 4, 5, 6, 7], [0, 1, 2, 3, 4, 5, 6, 7], [0, 1, 2, 3, 4, 5, 6, 7, 12, 13], [0, 1, 2, 3, 4, 5, 6, 7, 12, 13, 14], [0, 1, 2, 3, 4, 5, 6, 7, 8, 9, 10, 11, 12, 13, 14, 15], [0, 1, 2, 3, 4, 5, 6, 7, 8, 9, 10, 11, 12, 13, 14, 15, 16], [0, 1, 2, 3, 4, 5, 6, 7, 8, 9, 10, 11, 12, 13, 14, 15, 16, 17], [0, 1, 2, 3, 4, 5, 6, 7, 8, 9, 10, 11, 12, 13, 14, 15, 16, 17, 18], [0, 1, 2, 3, 4, 5, 6, 7, 8, 9, 10, 11, 12, 13, 14, 15, 16, 17, 18], [0, 1, 2, 3, 4, 5, 6, 7, 8, 9, 10, 11, 12, 13, 14, 15, 16, 17, 18, 19, 20], [0, 1, 2, 3, 4, 5, 6, 7, 8, 9, 10, 11, 12, 13, 14, 15, 16, 17, 18, 19, 20, 21], [0, 1, 2, 3, 4, 5, 6, 7, 8, 9, 10, 11, 12, 13, 14, 15, 16, 17, 18, 19, 20, 21, 22], [0, 1, 2, 3, 4, 5, 6, 7, 8, 9, 10, 11, 12, 13, 14, 15, 16, 17, 18], [0, 1, 2, 3, 4, 5, 6, 7, 8, 9, 10, 11, 12, 13, 14, 15, 16, 17, 18, 19, 20, 21, 22, 23, 24], [0, 1, 2, 3, 4, 5, 6, 7, 8, 9, 10, 11, 12, 13, 14, 15, 16, 17, 18, 19, 20, 21, 22, 23, 24, 25], [0, 1, 2, 3, 4, 5, 6, 7, 8, 9, 10, 11, 12, 13, 14, 15, 16, 17, 18, 19, 20, 21, 22, 23, 24, 25, 26], [0, 1, 2, 3, 4, 5, 6, 7, 8, 9, 10, 11, 12, 13, 14, 15, 16, 17, 18, 19, 20, 21, 22, 23, 24, 25, 26], [0, 1, 2, 3, 4, 5, 6, 7, 8, 9, 10, 11, 12, 13, 14, 15, 16, 17, 18, 19, 20, 21, 22, 23, 24, 25, 26, 27, 28], [0, 1, 2, 3, 4, 5, 6, 7, 8, 9, 10, 11, 12, 13, 14, 15, 16, 17, 18, 19, 20, 21, 22, 23, 24, 25, 26, 27, 28, 29], [0, 1, 2, 3, 4, 5, 6, 7, 8, 9, 10, 11, 12, 13, 14, 15, 16, 17, 18, 19, 20, 21, 22, 23, 24, 25, 26, 27, 28, 29, 30], [0, 1, 2, 3, 4, 5, 6, 7, 8, 9, 10, 11, 12, 13, 14, 15, 16, 17, 18, 19, 20, 21, 22, 23, 24, 25, 26], [0, 1, 2, 3, 4, 5, 6, 7, 8, 9, 10, 11, 12, 13, 14, 15, 16, 17, 18, 19, 20, 21, 22, 23, 24, 25, 26, 27, 28, 29, 30, 31, 32], [0, 1, 2, 3, 4, 5, 6, 7, 8, 9, 10, 11, 12, 13, 14, 15, 16, 17, 18, 19, 20, 21, 22, 23, 24, 25, 26, 27, 28, 29, 30, 31, 32, 33], [0, 1, 2, 3, 4, 5, 6, 7, 8, 9, 10, 11, 12, 13, 14, 15, 16, 17, 18, 19, 20, 21, 22, 23, 24, 25, 26, 27, 28, 29, 30, 31, 32, 33, 34]] [129, 130, 131, 132, 133, 134, 135, 136, 137, 138, 139, 140, 141, 142, 143, 144, 145, 146, 147, 148, 149, 150, 151, 152, 153, 154, 155, 156, 157, 158, 159, 160, 161, 162, 163, 164] Ext.refl (fun _ _ _ => Ext.trans) (Ext.drew _) (by kernel_rfl) ?_
       apply Build.det 129 Ext.refl (by rfl) (by rw [k.size]; rfl) rfl
       case h =>
        intro ax wx hE hR hF
        exact x_move rfl (hE.g e19)
       apply Build.det 130 Ext.refl (by rfl) (by rw [k.size]; rfl) rfl
       case h =>
        intro ax wx hE hR hF
        exact x_move rfl (hE.g e21)
       apply Build.det 131 Ext.refl (by rfl) (by rw [k.size]; rfl) rfl
       case h =>
        intro ax wx hE hR hF
        have e129 := hF 0 (det 129 _) (by decide) (.tail _ (.head _))
        have e130 := hF 1 (det 130 _) (by decide) (.head _)
        simp [go_sem, ↓IntWalk.iteOmega, ev e129, ev e130]
        with_reducible rfl
       apply Build.det 132 Ext.refl (by rfl) (by rw [k.size]; rfl) rfl
       case h =>
        intro ax wx hE hR hF
        have e131 := hF 2 (det 131 _) (by decide) (.head _)
        simp [go_sem, ↓IntWalk.iteOmega, ev e131]
        with_reducible rfl
       apply Build.det 133 Ext.refl (by rfl) (by rw [k.size]; rfl) rfl
       case h =>
        intro ax wx hE hR hF
        have e132 := hF 3 (det 132 _) (by decide) (.head _)
        obtain ⟨_, e, n0, n1, n2⟩ := pl_cells (OwnT.get (OwnT.ext O hR) 3 rfl : (tPls (.slice (some ⟨gn, 0, none⟩) kk cn) L2).holds _) hx2; injection e with e; injection e with e; subst e
        simp [go_sem, ↓IntWalk.iteOmega, ev e132, n0]
        with_reducible rfl
       apply Build.det 134 Ext.refl (by rfl) (by rw [k.size]; rfl) rfl
       case h =>
        intro ax wx hE hR hF
        exact x_move rfl (hE.g e15)
       apply Build.det 135 Ext.refl (by rfl) (by rw [k.size]; rfl) rfl
       case h =>
        intro ax wx hE hR hF
        have e133 := hF 4 (det 133 _) (by decide) (.tail _ (.head _))
        have e134 := hF 5 (det 134 _) (by decide) (.head _)
        exact x_dec (x_neq rfl e133 e134) (decide_eq_false (fun h => h rfl))
       apply Build.det 136 Ext.refl (by rfl) (by rw [k.size]; rfl) rfl
       case h =>
        intro ax wx hE hR hF
        have e135 := hF 6 (det 135 _) (by decide) (.head _)
        exact x_move rfl e135
       refine Build.skip 137 (by rfl) (by rw [k.size]; rfl) rfl rfl ?_ ?_
       · intro ax wx hE hR hF
         have e136 := hF 7 (det 136 _) (by decide) (.head _)
         exact e136
       refine Build.skip 138 (by rfl) (by rw [k.size]; rfl) rfl rfl ?_ ?_
       · intro ax wx hE hR hF
         have e136 := hF 7 (det 136 _) (by decide) (.tail _ (.head _))
         exact e136
       refine Build.skip 139 (by rfl) (by rw [k.size]; rfl) rfl rfl ?_ ?_
       · intro ax wx hE hR hF
         have e136 := hF 7 (det 136 _) (by decide) (.tail _ (.tail _ (.head _)))
         exact e136
       refine Build.skip 140 (by rfl) (by rw [k.size]; rfl) rfl rfl ?_ ?_
       · intro ax wx hE hR hF
         have e136 := hF 7 (det 136 _) (by decide) (.tail _ (.tail _ (.tail _ (.head _))))
         exact e136
       refine Build.skip 141 (by rfl) (by rw [k.size]; rfl) rfl rfl ?_ ?_
       · intro ax wx hE hR hF
         have e136 := hF 7 (det 136 _) (by decide) (.tail _ (.tail _ (.tail _ (.tail _ (.head _)))))
         exact e136
       refine Build.skip 142 (by rfl) (by rw [k.size]; rfl) rfl rfl ?_ ?_
       · intro ax wx hE hR hF
         have e136 := hF 7 (det 136 _) (by decide) (.tail _ (.tail _ (.tail _ (.tail _ (.tail _ (.head _))))))
         exact e136
       refine Build.skip 143 (by rfl) (by rw [k.size]; rfl) rfl rfl ?_ ?_
       · intro ax wx hE hR hF
         have e136 := hF 7 (det 136 _) (by decide) (.tail _ (.tail _ (.tail _ (.tail _ (.tail _ (.tail _ (.head _)))))))
         exact e136
       refine Build.skip 144 (by rfl) (by rw [k.size]; rfl) rfl rfl ?_ ?_
       · intro ax wx hE hR hF
         have e136 := hF 7 (det 136 _) (by decide) (.tail _ (.tail _ (.tail _ (.tail _ (.tail _ (.tail _ (.tail _ (.head _))))))))
         exact e136
       refine Build.skip 145 (by rfl) (by rw [k.size]; rfl) rfl rfl ?_ ?_
       · intro ax wx hE hR hF
         have e136 := hF 7 (det 136 _) (by decide) (.tail _ (.tail _ (.tail _ (.tail _ (.tail _ (.tail _ (.tail _ (.tail _ (.head _)))))))))
         exact e136
       apply Build.det 146 Ext.refl (by rfl) (by rw [k.size]; rfl) rfl
       case h =>
        intro ax wx hE hR hF
        have e136 := hF 7 (det 136 _) (by decide) (.tail _ (.tail _ (.tail _ (.tail _ (.tail _ (.tail _ (.tail _ (.tail _ (.tail _ (.head _))))))))))
        have e145 := hF 16 (det 145 _) (by decide) (.head _)
        exact x_pick_f rfl e136 rfl
       apply Build.det 147 Ext.refl (by rfl) (by rw [k.size]; rfl) rfl
       case h =>
        intro ax wx hE hR hF
        have e146 := hF 17 (det 146 _) (by decide) (.head _)
        exact x_move rfl e146
       apply Build.detg 148 Ext.refl (by rfl) (by rw [k.size]; rfl) rfl rfl
       case h =>
        intro ax wx hE hR hF
        have e147 := hF 18 (det 147 _) (by decide) (.head _)
        refine ⟨e147, ?_⟩
        exact x_move rfl (hE.g e19)
       apply Build.detg 149 Ext.refl (by rfl) (by rw [k.size]; rfl) rfl rfl
       case h =>
        intro ax wx hE hR hF
        have e147 := hF 18 (det 147 _) (by decide) (.tail _ (.head _))
        refine ⟨e147, ?_⟩
        exact x_move rfl (hE.g e21)
       apply Build.detg 150 Ext.refl (by rfl) (by rw [k.size]; rfl) rfl rfl
       case h =>
        intro ax wx hE hR hF
        have e148 := hF 19 (det 148 _) (by decide) (.tail _ (.head _))
        have e149 := hF 20 (det 149 _) (by decide) (.head _)
        have e147 := hF 18 (det 147 _) (by decide) (.tail _ (.tail _ (.head _)))
        refine ⟨e147, ?_⟩
        simp [go_sem, ↓IntWalk.iteOmega, ev e148, ev e149]
        with_reducible rfl
       apply Build.detg 151 Ext.refl (by rfl) (by rw [k.size]; rfl) rfl rfl
       case h =>
        intro ax wx hE hR hF
        have e150 := hF 21 (det 150 _) (by decide) (.head _)
        have e147 := hF 18 (det 147 _) (by decide) (.tail _ (.tail _ (.tail _ (.head _))))
        refine ⟨e147, ?_⟩
        simp [go_sem, ↓IntWalk.iteOmega, ev e150]
        with_reducible rfl
       apply Build.detg 152 Ext.refl (by rfl) (by rw [k.size]; rfl) rfl rfl
       case h =>
        intro ax wx hE hR hF
        have e151 := hF 22 (det 151 _) (by decide) (.head _)
        have e147 := hF 18 (det 147 _) (by decide) (.tail _ (.tail _ (.tail _ (.tail _ (.head _)))))
        refine ⟨e147, ?_⟩
        obtain ⟨_, e, n0, n1, n2⟩ := pl_cells (OwnT.get (OwnT.ext O hR) 3 rfl : (tPls (.slice (some ⟨gn, 0, none⟩) kk cn) L2).holds _) hx2; injection e with e; injection e with e; subst e
        simp [go_sem, ↓IntWalk.iteOmega, ev e151, n0]
        with_reducible rfl
       apply Build.detg 153 Ext.refl (by rfl) (by rw [k.size]; rfl) rfl rfl
       case h =>
        intro ax wx hE hR hF
        have e147 := hF 18 (det 147 _) (by decide) (.tail _ (.tail _ (.tail _ (.tail _ (.tail _ (.head _))))))
        refine ⟨e147, ?_⟩
        exact x_move rfl (hE.g e15)
       apply Build.detg 154 Ext.refl (by rfl) (by rw [k.size]; rfl) rfl rfl
       case h =>
        intro ax wx hE hR hF
        have e152 := hF 23 (det 152 _) (by decide) (.tail _ (.head _))
        have e153 := hF 24 (det 153 _) (by decide) (.head _)
        have e147 := hF 18 (det 147 _) (by decide) (.tail _ (.tail _ (.tail _ (.tail _ (.tail _ (.tail _ (.head _)))))))
        refine ⟨e147, ?_⟩
        exact x_dec (x_eql rfl e152 e153) (decide_eq_true rfl)
       apply Build.detg 155 Ext.refl (by rfl) (by rw [k.size]; rfl) rfl rfl
       case h =>
        intro ax wx hE hR hF
        have e154 := hF 25 (det 154 _) (by decide) (.head _)
        have e147 := hF 18 (det 147 _) (by decide) (.tail _ (.tail _ (.tail _ (.tail _ (.tail _ (.tail _ (.tail _ (.head _))))))))
        refine ⟨e147, ?_⟩
        exact x_move rfl e154
       apply Build.detg 156 Ext.refl (by rfl) (by rw [k.size]; rfl) rfl rfl
       case h =>
        intro ax wx hE hR hF
        have e155 := hF 26 (det 155 _) (by decide) (.head _)
        refine ⟨e155, ?_⟩
        exact x_move rfl (hE.g e19)
       apply Build.detg 157 Ext.refl (by rfl) (by rw [k.size]; rfl) rfl rfl
       case h =>
        intro ax wx hE hR hF
        have e155 := hF 26 (det 155 _) (by decide) (.tail _ (.head _))
        refine ⟨e155, ?_⟩
        exact x_move rfl (hE.g e21)
       apply Build.detg 158 Ext.refl (by rfl) (by rw [k.size]; rfl) rfl rfl
       case h =>
        intro ax wx hE hR hF
        have e156 := hF 27 (det 156 _) (by decide) (.tail _ (.head _))
        have e157 := hF 28 (det 157 _) (by decide) (.head _)
        have e155 := hF 26 (det 155 _) (by decide) (.tail _ (.tail _ (.head _)))
        refine ⟨e155, ?_⟩
        simp [go_sem, ↓IntWalk.iteOmega, ev e156, ev e157]
        with_reducible rfl
       apply Build.detg 159 Ext.refl (by rfl) (by rw [k.size]; rfl) rfl rfl
       case h =>
        intro ax wx hE hR hF
        have e158 := hF 29 (det 158 _) (by decide) (.head _)
        have e155 := hF 26 (det 155 _) (by decide) (.tail _ (.tail _ (.tail _ (.head _))))
        refine ⟨e155, ?_⟩
        simp [go_sem, ↓IntWalk.iteOmega, ev e158]
        with_reducible rfl
       apply Build.detg 160 Ext.refl (by rfl) (by rw [k.size]; rfl) rfl rfl
       case h =>
        intro ax wx hE hR hF
        have e159 := hF 30 (det 159 _) (by decide) (.head _)
        have e155 := hF 26 (det 155 _) (by decide) (.tail _ (.tail _ (.tail _ (.tail _ (.head _)))))
        refine ⟨e155, ?_⟩
        obtain ⟨_, e, n0, n1, n2⟩ := pl_cells (OwnT.get (OwnT.ext O hR) 3 rfl : (tPls (.slice (some ⟨gn, 0, none⟩) kk cn) L2).holds _) hx2; injection e with e; injection e with e; subst e
        simp [go_sem, ↓IntWalk.iteOmega, ev e159, n1, n2]
        with_reducible rfl
       apply Build.detg 161 Ext.refl (by rfl) (by rw [k.size]; rfl) rfl rfl
       case h =>
        intro ax wx hE hR hF
        have e155 := hF 26 (det 155 _) (by decide) (.tail _ (.tail _ (.tail _ (.tail _ (.tail _ (.head _))))))
        refine ⟨e155, ?_⟩
        have q0 : wx.cell? ⟨tb, 0, none⟩ = some (.int .i64 1) := (OwnT.blk (OwnT.ext O hR) 5 rfl).cell 0
        have q1 : wx.cell? ⟨tb, 1, none⟩ = some (.int .i64 ↑sl) := (OwnT.blk (OwnT.ext O hR) 5 rfl).cell 1
        simp [go_sem, ↓IntWalk.iteOmega, ev (hE.g e16), q0, q1]
        with_reducible rfl
       apply Build.detg 162 Ext.refl (by rfl) (by rw [k.size]; rfl) rfl rfl
       case h =>
        intro ax wx hE hR hF
        have e160 := hF 31 (det 160 _) (by decide) (.tail _ (.head _))
        have e161 := hF 32 (det 161 _) (by decide) (.head _)
        have e155 := hF 26 (det 155 _) (by decide) (.tail _ (.tail _ (.tail _ (.tail _ (.tail _ (.tail _ (.head _)))))))
        refine ⟨e155, ?_⟩
        exact x_dec (c := false) (x_neSp rfl e160 e161) (decide_eq_false (fun h => h ⟨rfl, rfl⟩))
       apply Build.detg 163 Ext.refl (by rfl) (by rw [k.size]; rfl) rfl rfl
       case h =>
        intro ax wx hE hR hF
        have e155 := hF 26 (det 155 _) (by decide) (.tail _ (.tail _ (.tail _ (.tail _ (.tail _ (.tail _ (.tail _ (.head _))))))))
        have e162 := hF 33 (det 162 _) (by decide) (.head _)
        have e147 := hF 18 (det 147 _) (by decide) (.tail _ (.tail _ (.tail _ (.tail _ (.tail _ (.tail _ (.tail _ (.tail _ (.tail _ (.tail _ (.tail _ (.tail _ (.tail _ (.tail _ (.tail _ (.head _))))))))))))))))
        refine ⟨e147, ?_⟩
        exact x_pick_t rfl e155 e162
       apply Build.det 164 Ext.refl (by rfl) (by rw [k.size]; rfl) rfl
       case h =>
        intro ax wx hE hR hF
        have e147 := hF 18 (det 147 _) (by decide) (.tail _ (.tail _ (.tail _ (.tail _ (.tail _ (.tail _ (.tail _ (.tail _ (.tail _ (.tail _ (.tail _ (.tail _ (.tail _ (.tail _ (.tail _ (.tail _ (.head _)))))))))))))))))
        have e163 := hF 34 (det 163 _) (by decide) (.head _)
        exact x_pick_f rfl e147 e163
       apply Build.stop
       refine ⟨by kernel_rfl, .inl ⟨rfl, ?_⟩⟩
       intro a141 w142 hE R hF
       have e164 : a141.eval (.tmp 164) = _ := hF 35 (det 164 _) (.head _)
       clear hF
       replace O := OwnT.ext O R
       clear R
       replace e7 := hE.g e7
       replace e9 := hE.g e9
       replace e13 := hE.g e13
       replace e15 := hE.g e15
       replace e16 := hE.g e16
       replace e17 := hE.g e17
       replace e19 := hE.g e19
       replace e21 := hE.g e21
       replace k := k.env hE
       clear hE e126
       refine then_n ?_
       refine cond_f e164 rfl ?_
       refine wp_skip ?_
       refine block_n ?_
       refine then_n ?_
       refine wp_region_lit ?_
       have hE := Env.refl a141 [127, 128, 21]
       refine sd 127 hE k (x_move rfl e21) ?_
       intro a143 hE e127 kp
       replace e21 := (kp 21 rfl).trans e21
       refine sd 128 hE k (x_add rfl e127 rfl (by omega)) ?_
       intro a144 hE e128 kp
       replace e21 := (kp 21 rfl).trans e21
       refine sd 21 hE k (x_assign rfl e128) ?_
       intro a145 hE e21 kp
       refine wpList_nil ?_
       replace e7 := hE.g e7
       replace e9 := hE.g e9
       replace e13 := hE.g e13
       replace e15 := hE.g e15
       replace e16 := hE.g e16
       replace e17 := hE.g e17
       replace e19 := hE.g e19
       replace k := k.env hE
       clear hE e164
       refine then_n ?_
       refine ⟨⟨k, e7, e9, e13, e15, e16, e17, e19, i + 1, e21, by omega, O⟩, ?_⟩
       rw [e21, mi]; simp only [intOf]; omega
     · rw [if_neg hic] at hx2
       refine wp_seq ?_
       refine wp_seq ?_
       refine wp_region_lit ?_
       have hE := Env.refl a136 [124, 125, 126]
       refine sd 124 hE k (x_move rfl (hE.g e21)) ?_
       intro a146 hE e124 kp
       refine sd 125 hE k (x_move rfl (hE.g e9)) ?_
       intro a147 hE e125 kp
       replace e124 := (kp 124 rfl).trans e124
       refine sd 126 hE k (x_dec (x_lss rfl e124 e125) (decide_eq_true (by omega))) ?_
       intro a148 hE e126 kp
       refine wpList_nil ?_
       replace e7 := hE.g e7
       replace e9 := hE.g e9
       replace e13 := hE.g e13
       replace e15 := hE.g e15
       replace e16 := hE.g e16
       replace e17 := hE.g e17
       replace e19 := hE.g e19
       replace e21 := hE.g e21
       replace k := k.env hE
       clear hE
       refine then_n ?_
       refine cond_t e126 rfl ?_
       refine wp_skip ?_
       refine then_n ?_
       refine wp_seq ?_
       refine wp_block ?_
       refine wp_seq ?_
       refine wp_typed (R := Ext) (w0 := w137) [[], [], [0, 1], [0, 1, 2], [0, 1, 2, 3], [], [0, 1, 2, 3, 4, 5], [0, 1, 2, 3, 4, 5, 6], [0, 1, 2, 3, 4, 5, 6, 7], [0, 1, 2, 3, 4, 5, 6, 7], [0, 1, 2, 3, 4, 5, 6, 7, 8, 9], [0, 1, 2, 3, 4, 5, 6, 7, 8, 9, 10], [0, 1, 2, 3, 4, 5, 6, 7], [0, 1, 2, 3, 4, 5, 6, 7], [0, 1, 2, 3, 4, 5, 6, 7, 12, 13], [0, 1, 2, 3, 4, 5, 6, 7, 12, 13, 14], [0, 1, 2, 3, 4, 5, 6, 7, 8, 9, 10, 11, 12, 13, 14, 15], [0, 1, 2, 3, 4, 5, 6, 7, 8, 9, 10, 11, 12, 13, 14, 15, 16], [0, 1, 2, 3, 4, 5, 6, 7, 8, 9, 10, 11, 12, 13, 14, 15, 16, 17], [0, 1, 2, 3, 4, 5, 6, 7, 8, 9, 10, 11, 12, 13, 14, 15, 16, 17, 18], [0, 1, 2, 3, 4, 5, 6, 7, 8, 9, 10, 11, 12, 13, 14, 15, 16, 17, 18], [0, 1, 2, 3, 4, 5, 6, 7, 8, 9, 10, 11, 12, 13, 14, 15, 16, 17, 18, 19, 20], [0, 1, 2, 3, 4, 5, 6, 7, 8, 9, 10, 11, 12, 13, 14, 15, 16, 17, 18, 19, 20, 21], [0, 1, 2, 3, 4, 5, 6, 7, 8, 9, 10, 11, 12, 13, 14, 15, 16, 17, 18, 19, 20, 21, 22], [0, 1, 2, 3, 4, 5, 6, 7, 8, 9, 10, 11, 12, 13, 14, 15, 16, 17, 18], [0, 1, 2, 3, 4, 5, 6, 7, 8, 9, 10, 11, 12, 13, 14, 15, 16, 17, 18, 19, 20, 21, 22, 23, 24], [0, 1, 2, 3, 4, 5, 6, 7, 8, 9, 10, 11, 12, 13, 14, 15, 16, 17, 18, 19, 20, 21, 22, 23, 24, 25], [0, 1, 2, 3, 4, 5, 6, 7, 8, 9, 10, 11, 12, 13, 14, 15, 16, 17, 18, 19, 20, 21, 22, 23, 24, 25, 26], [0, 1, 2, 3, 4, 5, 6, 7, 8, 9, 10, 11, 12, 13, 14, 15, 16, 17, 18, 19, 20, 21, 22, 23, 24, 25, 26], [0, 1, 2, 3, 4, 5, 6, 7, 8, 9, 10, 11, 12, 13, 14, 15, 16, 17, 18, 19, 20, 21, 22, 23, 24, 25, 26, 27, 28], [0, 1, 2, 3, 4, 5, 6, 7, 8, 9, 10, 11, 12, 13, 14, 15, 16, 17, 18, 19, 20, 21, 22, 23, 24, 25, 26, 27, 28, 29], [0, 1, 2, 3, 4, 5, 6, 7, 8, 9, 10, 11, 12, 13, 14, 15, 16, 17, 18, 19, 20, 21, 22, 23, 24, 25, 26, 27, 28, 29, 30], [0, 1, 2, 3, 4, 5, 6, 7, 8, 9, 10, 11, 12, 13, 14, 15, 16, 17, 18, 19, 20, 21, 22, 23, 24, 25, 26], [0, 1, 2, 3, 4, 5, 6, 7, 8, 9, 10, 11, 12, 13, 14, 15, 16, 17, 18, 19, 20, 21, 22, 23, 24, 25, 26, 27, 28, 29, 30, 31, 32], [0, 1, 2, 3, 4, 5, 6, 7, 8, 9, 10, 11, 12, 13, 14, 15, 16, 17, 18, 19, 20, 21, 22, 23, 24, 25, 26, 27, 28, 29, 30, 31, 32, 33], [0, 1, 2, 3, 4, 5, 6, 7, 8, 9, 10, 11, 12, 13, 14, 15, 16, 17, 18, 19, 20, 21, 22, 23, 24, 25, 26, 27, 28, 29, 30, 31, 32, 33, 34]] [129, 130, 131, 132, 133, 134, 135, 136, 137, 138, 139, 140, 141, 142, 143, 144, 145, 146, 147, 148, 149, 150, 151, 152, 153, 154, 155, 156, 157, 158, 159, 160, 161, 162, 163, 164] Ext.refl (fun _ _ _ => Ext.trans) (Ext.drew _) (by kernel_rfl) ?_
       apply Build.det 129 Ext.refl (by rfl) (by rw [k.size]; rfl) rfl
       case h =>
        intro ax wx hE hR hF
        exact x_move rfl (hE.g e19)
       apply Build.det 130 Ext.refl (by rfl) (by rw [k.size]; rfl) rfl
       case h =>
        intro ax wx hE hR hF
        exact x_move rfl (hE.g e21)
       apply Build.det 131 Ext.refl (by rfl) (by rw [k.size]; rfl) rfl
       case h =>
        intro ax wx hE hR hF
        have e129 := hF 0 (det 129 _) (by decide) (.tail _ (.head _))
        have e130 := hF 1 (det 130 _) (by decide) (.head _)
        simp [go_sem, ↓IntWalk.iteOmega, ev e129, ev e130]
        with_reducible rfl
       apply Build.det 132 Ext.refl (by rfl) (by rw [k.size]; rfl) rfl
       case h =>
        intro ax wx hE hR hF
        have e131 := hF 2 (det 131 _) (by decide) (.head _)
        simp [go_sem, ↓IntWalk.iteOmega, ev e131]
        with_reducible rfl
       apply Build.det 133 Ext.refl (by rfl) (by rw [k.size]; rfl) rfl
       case h =>
        intro ax wx hE hR hF
        have e132 := hF 3 (det 132 _) (by decide) (.head _)
        obtain ⟨_, e, n0, n1, n2⟩ := pl_cells (OwnT.get (OwnT.ext O hR) 3 rfl : (tPls (.slice (some ⟨gn, 0, none⟩) kk cn) L2).holds _) hx2; injection e with e; injection e with e; subst e
        simp [go_sem, ↓IntWalk.iteOmega, ev e132, n0]
        with_reducible rfl
       apply Build.det 134 Ext.refl (by rfl) (by rw [k.size]; rfl) rfl
       case h =>
        intro ax wx hE hR hF
        exact x_move rfl (hE.g e15)
       apply Build.det 135 Ext.refl (by rfl) (by rw [k.size]; rfl) rfl
       case h =>
        intro ax wx hE hR hF
        have e133 := hF 4 (det 133 _) (by decide) (.tail _ (.head _))
        have e134 := hF 5 (det 134 _) (by decide) (.head _)
        exact x_dec (x_neq rfl e133 e134) (decide_eq_true (by omega))
       apply Build.det 136 Ext.refl (by rfl) (by rw [k.size]; rfl) rfl
       case h =>
        intro ax wx hE hR hF
        have e135 := hF 6 (det 135 _) (by decide) (.head _)
        exact x_move rfl e135
       apply Build.detg 137 Ext.refl (by rfl) (by rw [k.size]; rfl) rfl rfl
       case h =>
        intro ax wx hE hR hF
        have e136 := hF 7 (det 136 _) (by decide) (.head _)
        refine ⟨e136, ?_⟩
        exact x_move rfl (hE.g e19)
       apply Build.detg 138 Ext.refl (by rfl) (by rw [k.size]; rfl) rfl rfl
       case h =>
        intro ax wx hE hR hF
        have e136 := hF 7 (det 136 _) (by decide) (.tail _ (.head _))
        refine ⟨e136, ?_⟩
        exact x_move rfl (hE.g e21)
       apply Build.detg 139 Ext.refl (by rfl) (by rw [k.size]; rfl) rfl rfl
       case h =>
        intro ax wx hE hR hF
        have e137 := hF 8 (det 137 _) (by decide) (.tail _ (.head _))
        have e138 := hF 9 (det 138 _) (by decide) (.head _)
        have e136 := hF 7 (det 136 _) (by decide) (.tail _ (.tail _ (.head _)))
        refine ⟨e136, ?_⟩
        simp [go_sem, ↓IntWalk.iteOmega, ev e137, ev e138]
        with_reducible rfl
       apply Build.detg 140 Ext.refl (by rfl) (by rw [k.size]; rfl) rfl rfl
       case h =>
        intro ax wx hE hR hF
        have e139 := hF 10 (det 139 _) (by decide) (.head _)
        have e136 := hF 7 (det 136 _) (by decide) (.tail _ (.tail _ (.tail _ (.head _))))
        refine ⟨e136, ?_⟩
        obtain ⟨_, e, n0, n1, n2⟩ := pl_cells (OwnT.get (OwnT.ext O hR) 3 rfl : (tPls (.slice (some ⟨gn, 0, none⟩) kk cn) L2).holds _) hx2; injection e with e; injection e with e; subst e
        simp [go_sem, ↓IntWalk.iteOmega, ev e139, n0, n1, n2]
        with_reducible rfl
       apply Build.detg 141 Ext.refl (by rfl) (by rw [k.size]; rfl) rfl rfl
       case h =>
        intro ax wx hE hR hF
        have e136 := hF 7 (det 136 _) (by decide) (.tail _ (.tail _ (.tail _ (.tail _ (.head _)))))
        refine ⟨e136, ?_⟩
        exact x_move rfl (hE.g e13)
       apply Build.detg 142 Ext.refl (by rfl) (by rw [k.size]; rfl) rfl rfl
       case h =>
        intro ax wx hE hR hF
        have e136 := hF 7 (det 136 _) (by decide) (.tail _ (.tail _ (.tail _ (.tail _ (.tail _ (.head _))))))
        refine ⟨e136, ?_⟩
        exact x_move rfl (hE.g e21)
       apply Build.detg 143 Ext.refl (by rfl) (by rw [k.size]; rfl) rfl rfl
       case h =>
        intro ax wx hE hR hF
        have e141 := hF 12 (det 141 _) (by decide) (.tail _ (.head _))
        have e142 := hF 13 (det 142 _) (by decide) (.head _)
        have e136 := hF 7 (det 136 _) (by decide) (.tail _ (.tail _ (.tail _ (.tail _ (.tail _ (.tail _ (.head _)))))))
        refine ⟨e136, ?_⟩
        simp [go_sem, ↓IntWalk.iteOmega, ev e141, ev e142]
        with_reducible rfl
       apply Build.detg 144 Ext.refl (by rfl) (by rw [k.size]; rfl) rfl rfl
       case h =>
        intro ax wx hE hR hF
        have e143 := hF 14 (det 143 _) (by decide) (.head _)
        have e136 := hF 7 (det 136 _) (by decide) (.tail _ (.tail _ (.tail _ (.tail _ (.tail _ (.tail _ (.tail _ (.head _))))))))
        refine ⟨e136, ?_⟩
        obtain ⟨_, e, n0, n1, n2⟩ := pl_cells (OwnT.get (OwnT.ext O hR) 4 rfl : (tPls (.slice (some ⟨gw, 0, none⟩) kk cw) L1).holds _) hx1; injection e with e; injection e with e; subst e
        simp [go_sem, ↓IntWalk.iteOmega, ev e143, n0, n1, n2]
        with_reducible rfl
       apply Build.detg 145 Ext.refl (by rfl) (by rw [k.size]; rfl) rfl rfl
       case h =>
        intro ax wx hE hR hF
        have e140 := hF 11 (det 140 _) (by decide) (.tail _ (.tail _ (.tail _ (.tail _ (.head _)))))
        have e144 := hF 15 (det 144 _) (by decide) (.head _)
        have e136 := hF 7 (det 136 _) (by decide) (.tail _ (.tail _ (.tail _ (.tail _ (.tail _ (.tail _ (.tail _ (.tail _ (.head _)))))))))
        refine ⟨e136, ?_⟩
        exact x_dec (c := false) (x_nePl rfl e140 e144) (decide_eq_false (fun h => h ⟨rfl, rfl, rfl⟩))
       apply Build.det 146 Ext.refl (by rfl) (by rw [k.size]; rfl) rfl
       case h =>
        intro ax wx hE hR hF
        have e136 := hF 7 (det 136 _) (by decide) (.tail _ (.tail _ (.tail _ (.tail _ (.tail _ (.tail _ (.tail _ (.tail _ (.tail _ (.head _))))))))))
        have e145 := hF 16 (det 145 _) (by decide) (.head _)
        exact x_pick_t rfl e136 e145
       apply Build.det 147 Ext.refl (by rfl) (by rw [k.size]; rfl) rfl
       case h =>
        intro ax wx hE hR hF
        have e146 := hF 17 (det 146 _) (by decide) (.head _)
        exact x_move rfl e146
       apply Build.detg 148 Ext.refl (by rfl) (by rw [k.size]; rfl) rfl rfl
       case h =>
        intro ax wx hE hR hF
        have e147 := hF 18 (det 147 _) (by decide) (.head _)
        refine ⟨e147, ?_⟩
        exact x_move rfl (hE.g e19)
       apply Build.detg 149 Ext.refl (by rfl) (by rw [k.size]; rfl) rfl rfl
       case h =>
        intro ax wx hE hR hF
        have e147 := hF 18 (det 147 _) (by decide) (.tail _ (.head _))
        refine ⟨e147, ?_⟩
        exact x_move rfl (hE.g e21)
       apply Build.detg 150 Ext.refl (by rfl) (by rw [k.size]; rfl) rfl rfl
       case h =>
        intro ax wx hE hR hF
        have e148 := hF 19 (det 148 _) (by decide) (.tail _ (.head _))
        have e149 := hF 20 (det 149 _) (by decide) (.head _)
        have e147 := hF 18 (det 147 _) (by decide) (.tail _ (.tail _ (.head _)))
        refine ⟨e147, ?_⟩
        simp [go_sem, ↓IntWalk.iteOmega, ev e148, ev e149]
        with_reducible rfl
       apply Build.detg 151 Ext.refl (by rfl) (by rw [k.size]; rfl) rfl rfl
       case h =>
        intro ax wx hE hR hF
        have e150 := hF 21 (det 150 _) (by decide) (.head _)
        have e147 := hF 18 (det 147 _) (by decide) (.tail _ (.tail _ (.tail _ (.head _))))
        refine ⟨e147, ?_⟩
        simp [go_sem, ↓IntWalk.iteOmega, ev e150]
        with_reducible rfl
       apply Build.detg 152 Ext.refl (by rfl) (by rw [k.size]; rfl) rfl rfl
       case h =>
        intro ax wx hE hR hF
        have e151 := hF 22 (det 151 _) (by decide) (.head _)
        have e147 := hF 18 (det 147 _) (by decide) (.tail _ (.tail _ (.tail _ (.tail _ (.head _)))))
        refine ⟨e147, ?_⟩
        obtain ⟨_, e, n0, n1, n2⟩ := pl_cells (OwnT.get (OwnT.ext O hR) 3 rfl : (tPls (.slice (some ⟨gn, 0, none⟩) kk cn) L2).holds _) hx2; injection e with e; injection e with e; subst e
        simp [go_sem, ↓IntWalk.iteOmega, ev e151, n0]
        with_reducible rfl
       apply Build.detg 153 Ext.refl (by rfl) (by rw [k.size]; rfl) rfl rfl
       case h =>
        intro ax wx hE hR hF
        have e147 := hF 18 (det 147 _) (by decide) (.tail _ (.tail _ (.tail _ (.tail _ (.tail _ (.head _))))))
        refine ⟨e147, ?_⟩
        exact x_move rfl (hE.g e15)
       apply Build.detg 154 Ext.refl (by rfl) (by rw [k.size]; rfl) rfl rfl
       case h =>
        intro ax wx hE hR hF
        have e152 := hF 23 (det 152 _) (by decide) (.tail _ (.head _))
        have e153 := hF 24 (det 153 _) (by decide) (.head _)
        have e147 := hF 18 (det 147 _) (by decide) (.tail _ (.tail _ (.tail _ (.tail _ (.tail _ (.tail _ (.head _)))))))
        refine ⟨e147, ?_⟩
        exact x_dec (x_eql rfl e152 e153) (decide_eq_false (by omega))
       apply Build.detg 155 Ext.refl (by rfl) (by rw [k.size]; rfl) rfl rfl
       case h =>
        intro ax wx hE hR hF
        have e154 := hF 25 (det 154 _) (by decide) (.head _)
        have e147 := hF 18 (det 147 _) (by decide) (.tail _ (.tail _ (.tail _ (.tail _ (.tail _ (.tail _ (.tail _ (.head _))))))))
        refine ⟨e147, ?_⟩
        exact x_move rfl e154
       refine Build.skip 156 (by rfl) (by rw [k.size]; rfl) rfl rfl ?_ ?_
       · intro ax wx hE hR hF
         have e155 := hF 26 (det 155 _) (by decide) (.head _)
         exact e155
       refine Build.skip 157 (by rfl) (by rw [k.size]; rfl) rfl rfl ?_ ?_
       · intro ax wx hE hR hF
         have e155 := hF 26 (det 155 _) (by decide) (.tail _ (.head _))
         exact e155
       refine Build.skip 158 (by rfl) (by rw [k.size]; rfl) rfl rfl ?_ ?_
       · intro ax wx hE hR hF
         have e155 := hF 26 (det 155 _) (by decide) (.tail _ (.tail _ (.head _)))
         exact e155
       refine Build.skip 159 (by rfl) (by rw [k.size]; rfl) rfl rfl ?_ ?_
       · intro ax wx hE hR hF
         have e155 := hF 26 (det 155 _) (by decide) (.tail _ (.tail _ (.tail _ (.head _))))
         exact e155
       refine Build.skip 160 (by rfl) (by rw [k.size]; rfl) rfl rfl ?_ ?_
       · intro ax wx hE hR hF
         have e155 := hF 26 (det 155 _) (by decide) (.tail _ (.tail _ (.tail _ (.tail _ (.head _)))))
         exact e155
       refine Build.skip 161 (by rfl) (by rw [k.size]; rfl) rfl rfl ?_ ?_
       · intro ax wx hE hR hF
         have e155 := hF 26 (det 155 _) (by decide) (.tail _ (.tail _ (.tail _ (.tail _ (.tail _ (.head _))))))
         exact e155
       refine Build.skip 162 (by rfl) (by rw [k.size]; rfl) rfl rfl ?_ ?_
       · intro ax wx hE hR hF
         have e155 := hF 26 (det 155 _) (by decide) (.tail _ (.tail _ (.tail _ (.tail _ (.tail _ (.tail _ (.head _)))))))
         exact e155
       apply Build.detg 163 Ext.refl (by rfl) (by rw [k.size]; rfl) rfl rfl
       case h =>
        intro ax wx hE hR hF
        have e155 := hF 26 (det 155 _) (by decide) (.tail _ (.tail _ (.tail _ (.tail _ (.tail _ (.tail _ (.tail _ (.head _))))))))
        have e162 := hF 33 (det 162 _) (by decide) (.head _)
        have e147 := hF 18 (det 147 _) (by decide) (.tail _ (.tail _ (.tail _ (.tail _ (.tail _ (.tail _ (.tail _ (.tail _ (.tail _ (.tail _ (.tail _ (.tail _ (.tail _ (.tail _ (.tail _ (.head _))))))))))))))))
        refine ⟨e147, ?_⟩
        exact x_pick_f rfl e155 rfl
       apply Build.det 164 Ext.refl (by rfl) (by rw [k.size]; rfl) rfl
       case h =>
        intro ax wx hE hR hF
        have e147 := hF 18 (det 147 _) (by decide) (.tail _ (.tail _ (.tail _ (.tail _ (.tail _ (.tail _ (.tail _ (.tail _ (.tail _ (.tail _ (.tail _ (.tail _ (.tail _ (.tail _ (.tail _ (.tail _ (.head _)))))))))))))))))
        have e163 := hF 34 (det 163 _) (by decide) (.head _)
        exact x_pick_f rfl e147 e163
       apply Build.stop
       refine ⟨by kernel_rfl, .inl ⟨rfl, ?_⟩⟩
       intro a149 w150 hE R hF
       have e164 : a149.eval (.tmp 164) = _ := hF 35 (det 164 _) (.head _)
       clear hF
       replace O := OwnT.ext O R
       clear R
       replace e7 := hE.g e7
       replace e9 := hE.g e9
       replace e13 := hE.g e13
       replace e15 := hE.g e15
       replace e16 := hE.g e16
       replace e17 := hE.g e17
       replace e19 := hE.g e19
       replace e21 := hE.g e21
       replace k := k.env hE
       clear hE e126
       refine then_n ?_
       refine cond_f e164 rfl ?_
       refine wp_skip ?_
       refine block_n ?_
       refine then_n ?_
       refine wp_region_lit ?_
       have hE := Env.refl a149 [127, 128, 21]
       refine sd 127 hE k (x_move rfl e21) ?_
       intro a151 hE e127 kp
       replace e21 := (kp 21 rfl).trans e21
       refine sd 128 hE k (x_add rfl e127 rfl (by omega)) ?_
       intro a152 hE e128 kp
       replace e21 := (kp 21 rfl).trans e21
       refine sd 21 hE k (x_assign rfl e128) ?_
       intro a153 hE e21 kp
       refine wpList_nil ?_
       replace e7 := hE.g e7
       replace e9 := hE.g e9
       replace e13 := hE.g e13
       replace e15 := hE.g e15
       replace e16 := hE.g e16
       replace e17 := hE.g e17
       replace e19 := hE.g e19
       replace k := k.env hE
       clear hE e164
       refine then_n ?_
       refine ⟨⟨k, e7, e9, e13, e15, e16, e17, e19, i + 1, e21, by omega, O⟩, ?_⟩
       rw [e21, mi]; simp only [intOf]; omega
   · skip
     refine wp_seq ?_
     refine wp_seq ?_
     refine wp_region_lit ?_
     have hE := Env.refl a136 [124, 125, 126]
     refine sd 124 hE k (x_move rfl (hE.g e21)) ?_
     intro a154 hE e124 kp
     refine sd 125 hE k (x_move rfl (hE.g e9)) ?_
     intro a155 hE e125 kp
     replace e124 := (kp 124 rfl).trans e124
     refine sd 126 hE k (x_dec (x_lss rfl e124 e125) (decide_eq_false (by omega))) ?_
     intro a156 hE e126 kp
     refine wpList_nil ?_
     replace e7 := hE.g e7
     replace e9 := hE.g e9
     replace e13 := hE.g e13
     replace e15 := hE.g e15
     replace e16 := hE.g e16
     replace e17 := hE.g e17
     replace e19 := hE.g e19
     replace e21 := hE.g e21
     replace k := k.env hE
     clear hE
     refine then_n ?_
     refine cond_f e126 rfl ?_
     refine wp_exit ?_
     refine then_x ?_
     refine then_x ?_
     refine block_x ?_
     refine then_n ?_
     refine wp_seq ?_
     refine wp_region_lit ?_
     have hE := Env.refl a156 [166, 167, 168, 169, 170, 171, 172, 173, 165, 174, 175, 17, 18]
     refine sd 166 hE k (x_move rfl (hE.g e7)) ?_
     intro a157 hE e166 kp
     replace e17 := (kp 17 rfl).trans e17
     apply sq_det 167 hE k rfl (by rfl) (by rfl) rfl
     case h =>
      simp [go_sem, ↓IntWalk.iteOmega, ev e166]
      with_reducible rfl
     intro a158 hE e167 kp
     replace e17 := (kp 17 rfl).trans e17
     refine sd 168 hE k (x_move rfl e17) ?_
     intro a159 hE e168 kp
     replace e17 := (kp 17 rfl).trans e17
     replace e167 := (kp 167 rfl).trans e167
     refine sd 169 hE k (x_move rfl (hE.g e9)) ?_
     intro a160 hE e169 kp
     replace e17 := (kp 17 rfl).trans e17
     replace e167 := (kp 167 rfl).trans e167
     replace e168 := (kp 168 rfl).trans e168
     refine sd 170 hE k (x_add rfl e169 rfl (by omega)) ?_
     intro a161 hE e170 kp
     replace e17 := (kp 17 rfl).trans e17
     replace e167 := (kp 167 rfl).trans e167
     replace e168 := (kp 168 rfl).trans e168
     apply sq_det 171 hE k rfl (by rfl) (by rfl) rfl
     case h =>
      have q0 : w137.cell? ⟨tb, 0, none⟩ = some (.int .i64 1) := (OwnT.blk O 5 rfl).cell 0
      have q1 : w137.cell? ⟨tb, 1, none⟩ = some (.int .i64 ↑sl) := (OwnT.blk O 5 rfl).cell 1
      simp [go_sem, ↓IntWalk.iteOmega, ev (hE.g e16), q0, q1]
      with_reducible rfl
     intro a162 hE e171 kp
     replace e17 := (kp 17 rfl).trans e17
     replace e167 := (kp 167 rfl).trans e167
     replace e168 := (kp 168 rfl).trans e168
     replace e170 := (kp 170 rfl).trans e170
     apply sq_det 172 hE k rfl (by rfl) (by rfl) rfl
     case h =>
      simp [go_sem, ↓IntWalk.iteOmega, ev e170, ev e171]
      with_reducible rfl
     intro a163 hE e172 kp
     replace e17 := (kp 17 rfl).trans e17
     replace e167 := (kp 167 rfl).trans e167
     replace e168 := (kp 168 rfl).trans e168
     apply sq_call 173 hE k rfl (by rfl) (by rfl) rfl
     case h =>
      simp [go_sem, ↓IntWalk.iteOmega, ev e167, ev e168, ev e172]
      with_reducible exact ⟨rfl, rfl⟩
     case hc => exact pPut (R := _ :: _ :: _ :: []) ((kk : Int) + 1) 1 (sl : Int) _ O (by unfold GoodPl; omega) hT2.norm (by split <;> omega) (by omega)
     clear O
     rintro e w165 ⟨N3, r3, er, B3, cap3, vs3, rfl, O, hPL⟩
     refine ⟨_, rfl, ?_⟩
     intro a164 hE e173 kp
     replace e17 := (kp 17 rfl).trans e17
     refine sd 165 hE k (x_move rfl e173) ?_
     intro a166 hE e165 kp
     replace e17 := (kp 17 rfl).trans e17
     apply sq_det 174 hE k rfl (by rfl) (by rfl) rfl
     case h =>
      simp [go_sem, ↓IntWalk.iteOmega, ev e165]
      with_reducible rfl
     intro a167 hE e174 kp
     replace e17 := (kp 17 rfl).trans e17
     replace e165 := (kp 165 rfl).trans e165
     apply sq_det 175 hE k rfl (by rfl) (by rfl) rfl
     case h =>
      simp [go_sem, ↓IntWalk.iteOmega, ev e165]
      with_reducible rfl
     intro a168 hE e175 kp
     replace e17 := (kp 17 rfl).trans e17
     replace e174 := (kp 174 rfl).trans e174
     refine sd 17 hE k (x_assign rfl e174) ?_
     intro a169 hE e17 kp
     replace e175 := (kp 175 rfl).trans e175
     refine sd 18 hE k (x_assign rfl e175) ?_
     intro a170 hE e18 kp
     replace e17 := (kp 17 rfl).trans e17
     refine wpList_nil ?_
     replace e7 := hE.g e7
     replace k := k.env hE
     clear hE e9 e13 e15 e16 e19 e21 e126
     refine then_n ?_
     rw [show plKey ((kk : Int) + 1) = 8589934593 + kk by unfold plKey; omega, show plVal 1 (sl : Int) = 1 + 256 * sl by unfold plVal; omega] at hPL
     obtain ⟨⟨M3, rfl, hM3⟩, hPL⟩ := hPL
     obtain ⟨rfl, r3, rfl, hr31, hr32, hT3⟩ := hPL.resolve_left (fun h => h.2.2 (by omega))
     rw [ins_last (fun y hy => (hP2in y hy).2)] at hT3
     replace hT3 := hT3.next (by omega)
     have hok3 : (P2 ++ [(8589934593 + kk, 1 + 256 * sl)]).all plOkB = true := by rw [List.all_append, hP2ok, List.all_cons, plOk_1 (by omega) bsl]; rfl
     have hof3 : (P2 ++ [(8589934593 + kk, 1 + 256 * sl)]).map plOf = L2 ++ [((kk : Int) + 1, 1, (sl : Int))] := by rw [List.map_append, hP2of, List.map_cons, plOf_1 (by omega) bsl]; rfl
     have hin3 : ∀ y ∈ P2 ++ [(8589934593 + kk, 1 + 256 * sl)], 8589934592 ≤ y.1 ∧ y.1 ≤ 12884901887 := fun y hy => by
      rcases List.mem_append.1 hy with h | h
      · have := hP2in y h; omega
      · obtain rfl := List.mem_singleton.1 h
        simp only; omega
     have hl3 : (L2 ++ [((kk : Int) + 1, 1, (sl : Int))]).length = kk + 1 := by rw [List.length_append, hL2l]; rfl

     refine wp_seq ?_
     refine wp_region_lit ?_
     have hE := Env.refl a170 [177, 178, 179, 180, 176, 181, 182, 22, 20]
     refine sd 177 hE k (x_move rfl (hE.g e7)) ?_
     intro a171 hE e177 kp
     apply sq_det 178 hE k rfl (by rfl) (by rfl) rfl
     case h =>
      simp [go_sem, ↓IntWalk.iteOmega, ev e177]
      with_reducible rfl
     intro a172 hE e178 kp
     refine sd 179 hE k (x_move rfl (hE.g e17)) ?_
     intro a173 hE e179 kp
     replace e178 := (kp 178 rfl).trans e178
     apply sq_call 180 hE k rfl (by rfl) (by rfl) rfl
     case h =>
      simp [go_sem, ↓IntWalk.iteOmega, ev e178, ev e179]
      with_reducible exact ⟨rfl, rfl⟩
     case hc => exact pList (R := _ :: _ :: _ :: []) (cut_in hin3) _ O hT3 (by omega) (by rw [List.length_append]; omega)
     rintro e w175 hL
     obtain ⟨Bl, cl, rfl, O⟩ := (hL.resolve_right (fun h => absurd (hok3.symm.trans h.1) Bool.noConfusion)).2
     clear hL
     rw [hof3, hl3] at O
     refine ⟨.tuple #[.slice Bl ((kk + 1)) cl, .int .i64 0], by rw [hof3, hl3], ?_⟩
     intro a174 hE e180 kp
     refine sd 176 hE k (x_move rfl e180) ?_
     intro a176 hE e176 kp
     apply sq_det 181 hE k rfl (by rfl) (by rfl) rfl
     case h =>
      simp [go_sem, ↓IntWalk.iteOmega, ev e176]
      with_reducible rfl
     intro a177 hE e181 kp
     replace e176 := (kp 176 rfl).trans e176
     apply sq_det 182 hE k rfl (by rfl) (by rfl) rfl
     case h =>
      simp [go_sem, ↓IntWalk.iteOmega, ev e176]
      with_reducible rfl
     intro a178 hE e182 kp
     replace e181 := (kp 181 rfl).trans e181
     refine sd 22 hE k (x_assign rfl e181) ?_
     intro a179 hE e22 kp
     replace e182 := (kp 182 rfl).trans e182
     refine sd 20 hE k (x_assign rfl e182) ?_
     intro a180 hE e20 kp
     replace e22 := (kp 22 rfl).trans e22
     refine wpList_nil ?_
     replace e18 := hE.g e18
     replace k := k.env hE
     clear hE e7 e17
     refine then_n ?_
     refine wp_seq ?_
     refine wp_region_lit ?_
     have hE := Env.refl a180 [183, 184, 185, 186, 187, 188, 189, 190, 191, 192, 193, 194, 6]
     refine sd 183 hE k (x_move rfl (hE.g e18)) ?_
     intro a181 hE e183 kp
     refine sd 184 hE k (x_eql rfl e183 rfl) ?_
     intro a182 hE e184 kp
     refine sd 185 hE k (x_move rfl e184) ?_
     intro a183 hE e185 kp
     apply sq_detg 186 hE k rfl (by rfl) (by rfl) rfl rfl e185
     case h =>
      exact x_move rfl (hE.g e20)
     intro a184 hE e186 kp
     replace e185 := (kp 185 rfl).trans e185
     apply sq_detg 187 hE k rfl (by rfl) (by rfl) rfl rfl e185
     case h =>
      exact x_eql rfl e186 rfl
     intro a185 hE e187 kp
     replace e185 := (kp 185 rfl).trans e185
     refine sd 188 hE k (x_pick_t rfl e185 e187) ?_
     intro a186 hE e188 kp
     refine sd 189 hE k (x_move rfl e188) ?_
     intro a187 hE e189 kp
     apply sq_detg 190 hE k rfl (by rfl) (by rfl) rfl rfl e189
     case h =>
      exact x_move rfl (hE.g e22)
     intro a188 hE e190 kp
     replace e189 := (kp 189 rfl).trans e189
     apply sq_detg 191 hE k rfl (by rfl) (by rfl) rfl rfl e189
     case h =>
      simp [go_sem, ↓IntWalk.iteOmega]
      with_reducible rfl
     intro a189 hE e191 kp
     replace e189 := (kp 189 rfl).trans e189
     replace e190 := (kp 190 rfl).trans e190
     apply sq_callg 192 hE k rfl (by rfl) (by rfl) rfl rfl e189
     case h =>
      simp [go_sem, ↓IntWalk.iteOmega, ev e190, ev e191]
      with_reducible exact ⟨rfl, rfl⟩
     case hc => exact pgood_is (OwnT.get O 3 rfl) hl3 (by omega) hw3 hg3
     rintro e w191 ⟨rfl, RE⟩
     replace O := OwnT.ext O RE
     refine ⟨_, rfl, ?_⟩
     intro a190 hE e192 kp
     replace e189 := (kp 189 rfl).trans e189
     apply sq_detg 193 hE k rfl (by rfl) (by rfl) rfl rfl e189
     case h =>
      exact x_not rfl e192
     intro a192 hE e193 kp
     replace e189 := (kp 189 rfl).trans e189
     refine sd 194 hE k (x_pick_t rfl e189 e193) ?_
     intro a193 hE e194 kp
     refine sd 6 hE k (x_assign rfl e194) ?_
     intro a194 hE e6 kp
     refine wpList_nil ?_
     replace k := k.env hE
     clear hE e18 e20 e22
     refine then_n ?_
     refine wp_ret ?_
     refine ret_F1 rfl k e6 ?_
     exact ⟨rfl, O.below⟩
theorem placeMoves_walk (w : World) (v0 v1 v2 : Value) (h0 : Arg Try.prog w 3 v0) (h1 : Arg Try.prog w 3 v1) (h2 : Arg Try.prog w 3 v2) :
 Calls Try.prog 12 #[v0, v1, v2] w fun e w' => e = .returned (.bool true) ∧ Below w.heap.size w w' := by
 obtain ⟨x0, rfl, _⟩ := arg_int Try.underlying3 h0
 obtain ⟨x1, rfl, _⟩ := arg_int Try.underlying3 h1
 obtain ⟨x2, rfl, _⟩ := arg_int Try.underlying3 h2
 exact placeMoves_core x0 x1 x2 w
end Go.Proofs.Ytngehbhhpkkijaa
