/- maps' law: MapsGood (printed by XMgC.gen.py). -/
import Derived.Test.YtngehbhhpkkijaaKMapsGood33
import Derived.Test.YtngehbhhpkkijaaKMapsGood36
import Derived.Laws.Tables
import Derived.Laws.CopyRow
namespace Go.Proofs.Ytngehbhhpkkijaa
attribute [local simp] BigFrame.eval_const BigFrame.eval_global BigFrame.eval_func
set_option linter.unusedVariables false
set_option linter.unusedSimpArgs false
open Go.RowKit Go.Maps


theorem rwA_set (u : Nat → Nat) {k : Nat} (v : Nat) (hk : k < 64) : (rwA u).setIfInBounds k (.int .i64 (v : Nat)) = rwA (fun i => if i = k then v else u i) := by
 apply Array.ext_getElem?
 intro i
 rw [Array.getElem?_setIfInBounds]
 by_cases e : k = i
 · subst e
   rw [if_pos rfl, if_pos (by rw [Z2e]; exact hk), Z3q _ hk, if_pos rfl]
 · rw [if_neg e]
   by_cases hi : i < 64
   · rw [Z3q _ hi, Z3q _ hi, if_neg (fun h => e h.symm)]
   · rw [Array.getElem?_eq_none (by rw [Z2e]; omega), Array.getElem?_eq_none (by rw [Z2e]; omega)]
section
variable {w : World} {o : Oper} {ρ : Operand → Value} {x y : Operand} {u : TypeId}
theorem x_neB12 {a b c : Bool} (ho : o.op = .binOp .neq 4 x y u) (hx : ρ x = .bool a) (hy : ρ y = .bool b) (h : decide (a ≠ b) = c) : (execOp ρ o).run Try.prog w = .ok (.value (.bool c)) w := by
 subst h
 unfold execOp
 simp only [ho, hx, hy]
 cases a <;> cases b <;> kernel_rfl
theorem x_zeroB (ho : o.op = .build 71 #[]) : (execOp ρ o).run Try.prog w = .ok (.value (.agg (rwA fun _ => 0))) w := by
 unfold execOp
 simp only [ho]
 kernel_rfl
theorem Z7s (ho : o.op = .alloc 71) : (execOp ρ o).run Try.prog w = .ok (.value (.pointer (some ⟨w.heap.size, 0, none⟩))) (w.alloc (.cells (rwA fun _ => 0) 71)) := by
 unfold execOp
 simp only [ho]
 kernel_rfl
end
theorem x_loadB {w : World} {o : Oper} {ρ : Operand → Value} {x : Operand} {g : Nat} {v : Nat → Nat} {t : TypeId} (ho : o.op = .load 71 x) (hx : ρ x = .pointer (some ⟨g, 0, none⟩)) (hb : Blk w g t (rwA v)) : (execOp ρ o).run Try.prog w = .ok (.value (.agg (rwA v))) w := by
 unfold execOp
 simp only [ho, hx, Instr.loadAt, Instr.sureAddr, Sem.run_bind, Sem.run_pure, Result.andThen_ok, run_loadVar_row w g t 71 (rwA v) (0, 0) _ hb Try.underlying71 rfl (by rw [Z2e]; kernel_rfl)]
theorem rw_step {A : List Pr} {u : Nat → Nat} {y : Pr} (hA : Rw A u) (hn : ∀ z ∈ A, z.1 < y.1) : Rw (A ++ [y]) (fun i => if i = y.1 then y.2 else u i) := by
 intro i hi
 have h1 := hA i hi
 unfold lookP at h1 ⊢
 rw [List.find?_append]
 show (if i = y.1 then y.2 else u i) = _
 by_cases e : i = y.1
 · subst e
   rw [if_pos rfl, List.find?_eq_none.2 (fun z hz => by have := hn z hz; simp; omega)]
   simp
 · rw [if_neg e, h1]
   cases A.find? fun z => decide (z.1 = i) with
   | none =>
    have e' : ¬ y.1 = i := fun h => e h.symm
    simp [e']
   | some z => rfl
theorem Z7w {ops : Array Oper} {rest : List Oper} {o : Oper} {a : Act} {w : World} {Q : Exit → Act → World → Prop} (hgd : o.guard = none) (hd : o.dst = none) (ty : TypeId) (x y : Operand) (ho : o.op = .store ty x y) {g : Nat} {Z : Array Value} {t : TypeId} (hx : a.eval x = .pointer (some ⟨g, 0, none⟩)) (hy : a.eval y = .agg Z) (hb : Blk w g t Z) (hi : (Try.prog.info? ty).map (·.size) = some Z.size) (h1 : Z.all (·.oneCell') = true) (h : wpList Try.prog ops Q rest a w) : wpList Try.prog ops Q (o :: rest) a w := by
 refine wpList_store_row hgd ty x y ho g Z hx hy t Z hb hi rfl h1 ?_
 rw [setRow_self _ _ _ _ _ hb, hd]
 exact h
/-- The places and the chunks of entries, so far. -/
theorem fa_step {es : List En} {i : Nat} {x : En} (h : es[i]? = some x) : (es.take i).flatMap encA ++ [Value.int .i64 x.1] = (es.take (i + 1)).flatMap encA := by rw [List.take_add_one, h, List.flatMap_append]; rfl
theorem fk_step {es : List En} {i : Nat} {x : En} (h : es[i]? = some x) : (es.take i).flatMap encK ++ [Value.int .i64 x.2] = (es.take (i + 1)).flatMap encK := by rw [List.take_add_one, h, List.flatMap_append]; rfl
theorem Z78 {W0 w : World} {B : Option Addr} {l : List Pr} (h : Row W0 B 2 pairC l) (hb : Below W0.heap.size W0 w) {i : Nat} {y : Pr} (hy : l[i]? = some y) : ∃ b o, B = some ⟨b, o, none⟩ ∧ w.cell? ⟨b, o + i * 2, none⟩ = some (.int .u64 (y.1 : Nat)) ∧ w.cell? ⟨b, o + i * 2 + 1, none⟩ = some (.int .u64 (y.2 : Nat)) := by
 obtain ⟨b, o, e, _, hc⟩ := (h.below hb) i y hy
 refine ⟨b, o, e, ?_, hc 1 _ rfl⟩
 have := hc 0 _ rfl
 simpa using this
theorem Z52 : Try.prog.cellsOf 38 = 2 := by kernel_rfl
theorem Z54 : Try.prog.cellsOf 67 = 2 := by kernel_rfl
theorem Z53 : Try.prog.cellsOf 3 = 1 := by kernel_rfl
theorem Z51 : Try.prog.cellsOf 30 = 1 := by kernel_rfl
theorem arg_ens {w : World} {v : Value} (h : Arg Try.prog w 65 v) :
 ∃ A len cap, ∃ xs : List En, v = .slice A len cap ∧ len ≤ cap ∧ cap ≤ maxLen ∧ xs.length = len ∧ (∀ x ∈ xs, True) ∧ Row w A 2 encI xs :=
 Z7m encI (fun _ => True) Try.underlying65 Z54 (by decide) (fun cs _ hf => by
  obtain ⟨hl, hx⟩ := Z3w 2 Try.underlying67 Z54 hf
  obtain ⟨a, e0, _⟩ := Z36 Try.underlying3 (hx 0 0 3 1 rfl Z53)
  obtain ⟨b, e1, _⟩ := Z36 Try.underlying3 (hx 1 1 3 1 rfl Z53)
  refine ⟨(a, b), ?_, trivial⟩
  match cs, hl with
  | [u0, u1], _ =>
   simp at e0 e1
   subst e0 e1
   rfl) (Z56 Try.underlying65 h)
theorem arg_prs {w : World} {v : Value} (h : Arg Try.prog w 29 v) :
 ∃ A len cap, ∃ xs : List Pr, v = .slice A len cap ∧ len ≤ cap ∧ cap ≤ maxLen ∧ xs.length = len ∧ (∀ x ∈ xs, x.1 < 18446744073709551616 ∧ x.2 < 18446744073709551616) ∧ Row w A 2 pairC xs :=
 Z7m pairC (fun x => x.1 < 18446744073709551616 ∧ x.2 < 18446744073709551616) Try.underlying29 Z52 (by decide) (fun cs _ hf => by
  obtain ⟨hl, hx⟩ := Z3w 2 Try.underlying38 Z52 hf
  obtain ⟨k, e2, w2⟩ := Z36 Try.underlying30 (hx 0 0 30 1 rfl Z51)
  obtain ⟨x, e3, w3⟩ := Z36 Try.underlying30 (hx 1 1 30 1 rfl Z51)
  have b2 := bounds_u64 w2
  have b3 := bounds_u64 w3
  refine ⟨(k.toNat, x.toNat), ?_, by show k.toNat < _; omega, by show x.toNat < _; omega⟩
  match cs, hl with
  | [u0, u1], _ =>
   simp at e2 e3
   subst e2 e3
   show _ = [Value.int .u64 ((k.toNat : Nat) : Int), Value.int .u64 ((x.toNat : Nat) : Int)]
   rw [show ((k.toNat : Nat) : Int) = k by omega, show ((x.toNat : Nat) : Int) = x by omega]) (Z56 Try.underlying29 h)

set_option maxRecDepth 100000 in
set_option maxHeartbeats 4000000 in
theorem Z6i {A1 A2 : Option Addr} {n1 n2 c1 c2 : Nat} (es : List En) (size : Int) (ps : List Pr) (W0 : World) (hl1 : es.length = n1) (hl2 : ps.length = n2) (hr1 : Row W0 A1 2 encI es) (hr2 : Row W0 A2 2 pairC ps) (hwf : ∀ x ∈ ps, x.1 < 18446744073709551616 ∧ x.2 < 18446744073709551616) : Calls Try.prog 7 #[.slice A1 n1 c1, .int .i64 size, .slice A2 n2 c2] W0 fun e w' => e = .returned (.bool true) ∧ Below W0.heap.size W0 w' := by
 have O := OwnT.start W0
 refine Z0c Try.func7 rfl 162 rfl (by rfl) ?_
 intro a1 k hargs
 have e0 : a1.eval (.tmp 0) = .slice A1 n1 c1 := hargs 0 _ rfl
 have e1 : a1.eval (.tmp 1) = .int .i64 size := hargs 1 _ rfl
 have e2 : a1.eval (.tmp 2) = .slice A2 n2 c2 := hargs 2 _ rfl
 clear hargs
 refine wp_seq ?_
 refine wp_region_lit ?_
 have hE := Env.refl a1 [6]
 refine sd 6 hE k (Z00 rfl rfl) ?_
 intro a2 hE e6 kp
 refine wpList_nil ?_
 replace e0 := hE.g e0; replace e1 := hE.g e1; replace e2 := hE.g e2
 replace k := k.env hE
 clear hE e6
 refine Z01 (wp_seq ?_)
 refine wp_seq ?_
 refine wp_region_lit ?_
 have hE := Env.refl a2 [22, 23]
 apply Z0b 22 hE k rfl (by rfl) (by rfl) rfl
 case h =>
  simp [go_sem, ↓IntWalk.iteOmega]
  with_reducible exact ⟨rfl, rfl⟩
 case hc => exact awake12 _
 rintro e w4 ⟨rfl, R⟩
 replace O := OwnT.ext O R
 refine ⟨_, rfl, ?_⟩
 intro a3 hE e22 kp
 refine sd 23 hE k (Z0v rfl e22) ?_
 intro a5 hE e23 kp
 refine wpList_nil ?_
 replace e0 := hE.g e0; replace e1 := hE.g e1; replace e2 := hE.g e2
 replace k := k.env hE
 clear hE
 refine Z01 ?_
 refine Z07 e23 rfl ?_
 refine wp_skip ?_
 refine Z01 ?_
 by_cases h20 : 20 < n1
 · skip
   refine wp_seq ?_
   refine wp_seq ?_
   refine wp_region_lit ?_
   have hE := Env.refl a5 [24, 25, 26, 27, 28, 29, 30, 31]
   refine sm 24 hE k e0 ?_
   intro a6 hE e24 kp
   refine sd 25 hE k (Z0i Try.underlying65 rfl e24) ?_
   intro a7 hE e25 kp
   refine sd 26 hE k (Z06 (Z19 rfl e25 rfl) (decide_eq_true (by omega))) ?_
   intro a8 hE e26 kp
   refine sd 27 hE k (Z02 rfl e26) ?_
   intro a9 hE e27 kp
   refine Z0e 28 hE k rfl (by rfl) (by rfl) rfl rfl (.inl e27) ?_
   intro a10 hE e28 kp
   replace e27 := kt kp e27
   refine Z0e 29 hE k rfl (by rfl) (by rfl) rfl rfl (.inl e27) ?_
   intro a11 hE e29 kp
   replace e27 := kt kp e27
   refine Z0e 30 hE k rfl (by rfl) (by rfl) rfl rfl (.inl e27) ?_
   intro a12 hE e30 kp
   replace e27 := kt kp e27
   refine sd 31 hE k (Z08 rfl e27 rfl) ?_
   intro a13 hE e31 kp
   refine wpList_nil ?_
   replace e0 := hE.g e0; replace e1 := hE.g e1; replace e2 := hE.g e2
   replace k := k.env hE
   clear hE e23
   refine Z01 ?_
   refine Z0f e31 rfl ?_
   refine wp_seq ?_
   refine wp_region_lit ?_
   have hE := Env.refl a13 [6]
   refine sd 6 hE k (Z00 rfl rfl) ?_
   intro a14 hE e6 kp
   refine wpList_nil ?_
   replace k := k.env hE
   clear hE e0 e1 e2 e31
   refine Z01 ?_
   refine wp_ret ?_
   refine Z09 ?_
   refine Z0h rfl k e6 ?_
   exact ⟨rfl, O.below⟩
 · skip
   by_cases h21 : 20 < n2
   · skip
     refine wp_seq ?_
     refine wp_seq ?_
     refine wp_region_lit ?_
     have hE := Env.refl a5 [24, 25, 26, 27, 28, 29, 30, 31]
     refine sm 24 hE k e0 ?_
     intro a15 hE e24 kp
     refine sd 25 hE k (Z0i Try.underlying65 rfl e24) ?_
     intro a16 hE e25 kp
     refine sd 26 hE k (Z06 (Z19 rfl e25 rfl) (decide_eq_false (by omega))) ?_
     intro a17 hE e26 kp
     refine sd 27 hE k (Z02 rfl e26) ?_
     intro a18 hE e27 kp
     apply Z04 28 hE k rfl rfl rfl rfl rfl e27
     case h =>
      exact Z02 rfl (hE.g e2)
     intro a19 hE e28 kp
     replace e27 := kt kp e27
     apply Z04 29 hE k rfl rfl rfl rfl rfl e27
     case h =>
      exact Z0i Try.underlying29 rfl e28
     intro a20 hE e29 kp
     replace e27 := kt kp e27
     apply Z04 30 hE k rfl rfl rfl rfl rfl e27
     case h =>
      exact Z06 (Z19 rfl e29 rfl) (decide_eq_true (by omega))
     intro a21 hE e30 kp
     replace e27 := kt kp e27
     refine sd 31 hE k (Z05 rfl e27 e30) ?_
     intro a22 hE e31 kp
     refine wpList_nil ?_
     replace e0 := hE.g e0; replace e1 := hE.g e1; replace e2 := hE.g e2
     replace k := k.env hE
     clear hE e23
     refine Z01 ?_
     refine Z0f e31 rfl ?_
     refine wp_seq ?_
     refine wp_region_lit ?_
     have hE := Env.refl a22 [6]
     refine sd 6 hE k (Z00 rfl rfl) ?_
     intro a23 hE e6 kp
     refine wpList_nil ?_
     replace k := k.env hE
     clear hE e0 e1 e2 e31
     refine Z01 ?_
     refine wp_ret ?_
     refine Z09 ?_
     refine Z0h rfl k e6 ?_
     exact ⟨rfl, O.below⟩
   · skip
     refine wp_seq ?_
     refine wp_seq ?_
     refine wp_region_lit ?_
     have hE := Env.refl a5 [24, 25, 26, 27, 28, 29, 30, 31]
     refine sm 24 hE k e0 ?_
     intro a24 hE e24 kp
     refine sd 25 hE k (Z0i Try.underlying65 rfl e24) ?_
     intro a25 hE e25 kp
     refine sd 26 hE k (Z06 (Z19 rfl e25 rfl) (decide_eq_false (by omega))) ?_
     intro a26 hE e26 kp
     refine sd 27 hE k (Z02 rfl e26) ?_
     intro a27 hE e27 kp
     apply Z04 28 hE k rfl rfl rfl rfl rfl e27
     case h =>
      exact Z02 rfl (hE.g e2)
     intro a28 hE e28 kp
     replace e27 := kt kp e27
     apply Z04 29 hE k rfl rfl rfl rfl rfl e27
     case h =>
      exact Z0i Try.underlying29 rfl e28
     intro a29 hE e29 kp
     replace e27 := kt kp e27
     apply Z04 30 hE k rfl rfl rfl rfl rfl e27
     case h =>
      exact Z06 (Z19 rfl e29 rfl) (decide_eq_false (by omega))
     intro a30 hE e30 kp
     replace e27 := kt kp e27
     refine sd 31 hE k (Z05 rfl e27 e30) ?_
     intro a31 hE e31 kp
     refine wpList_nil ?_
     replace e0 := hE.g e0; replace e1 := hE.g e1; replace e2 := hE.g e2
     replace k := k.env hE
     clear hE e23
     refine Z01 ?_
     refine Z07 e31 rfl ?_
     refine wp_skip ?_
     refine Z01 (wp_seq ?_)
     refine wp_region_lit ?_
     have hE := Env.refl a31 [32, 7]
     refine Z1o (m := 0) (c := 0) O (cs := #[]) (t := 3) 32 hE k rfl (by rfl) (by rfl) rfl (by simp [go_sem, ↓IntWalk.iteOmega]) ?_
     clear O
     intro ga a32 w33 O hE e32 kp
     refine sd 7 hE k (Z00 rfl e32) ?_
     intro a34 hE e7 kp
     refine wpList_nil ?_
     replace e0 := hE.g e0; replace e1 := hE.g e1; replace e2 := hE.g e2
     replace k := k.env hE
     clear hE e31
     refine Z01 (wp_seq ?_)
     refine wp_region_lit ?_
     have hE := Env.refl a34 [33, 8]
     refine Z1o (m := 0) (c := 0) O (cs := #[]) (t := 3) 33 hE k rfl (by rfl) (by rfl) rfl (by simp [go_sem, ↓IntWalk.iteOmega]) ?_
     clear O
     intro gc a35 w36 O hE e33 kp
     refine sd 8 hE k (Z00 rfl e33) ?_
     intro a37 hE e8 kp
     refine wpList_nil ?_
     replace e0 := hE.g e0; replace e1 := hE.g e1; replace e2 := hE.g e2; replace e7 := hE.g e7
     replace k := k.env hE
     clear hE
     refine Z01 ?_
     replace O := OwnT.asRowE (k := 1) O
     replace O := OwnT.asRowE (k := 1) (OwnT.pick O [1, 0] (by decide))
     refine wp_seq ?_
     refine wp_seq ?_
     refine wp_region_lit ?_
     have hE := Env.refl a37 [9]
     refine sd 9 hE k (Z00 rfl rfl) ?_
     intro a38 hE e9 kp
     refine wpList_nil ?_
     replace e0 := hE.g e0; replace e1 := hE.g e1; replace e2 := hE.g e2; replace e7 := hE.g e7; replace e8 := hE.g e8
     replace k := k.env hE
     clear hE
     refine Z01 ?_
     refine wp_block ?_
     refine wp_loop (fun a w => Fr 162 a ∧ a.eval (.tmp 0) = .slice A1 n1 c1 ∧ a.eval (.tmp 1) = .int .i64 size ∧ a.eval (.tmp 2) = .slice A2 n2 c2 ∧ ∃ (i : Nat) (Ba : Option Addr) (ca : Nat) (Bc : Option Addr) (cc : Nat), a.eval (.tmp 7) = .slice Ba i ca ∧ a.eval (.tmp 8) = .slice Bc i cc ∧ a.eval (.tmp 9) = .int .i64 ↑i ∧ i ≤ n1 ∧ OwnT W0.heap.size W0 ([tRow 3 1 (.slice Ba i ca) i ((es.take i).flatMap encA), tRow 3 1 (.slice Bc i cc) i ((es.take i).flatMap encK)]) w) (fun a w => n1 - (intOf (a.eval (.tmp 9))).toNat) ?_ ?_
     · exact ⟨k, e0, e1, e2, 0, some ⟨ga, 0, none⟩, 0, some ⟨gc, 0, none⟩, 0, e7, e8, e9, Nat.zero_le _, O⟩
     intro a39 w40 hI
     clear k e0 e1 e2
     obtain ⟨k, e0, e1, e2, h_⟩ := hI
     clear O e7 e8 e9
     obtain ⟨i, Ba, ca, Bc, cc, e7, e8, e9, hi, O⟩ := h_
     have mi := e9
     by_cases hlt : i < n1
     · have hltI : (i : Int) < (n1 : Int) := by omega
       obtain ⟨x, hx⟩ : ∃ x, es[i]? = some x := ⟨_, List.getElem?_eq_getElem (by omega)⟩
       obtain ⟨b, o, rfl, _, _⟩ := (hr1.below O.below) i x hx

       obtain ⟨_, _, e, _, hc⟩ := (hr1.below O.below) i x hx; injection e with e; injection e with e e'; subst e e'; have d0 := hc 0 _ rfl; have d1 := hc 1 _ rfl; simp only [Nat.add_zero] at d0; clear hc
       refine wp_seq ?_
       refine wp_seq ?_
       refine wp_region_lit ?_
       have hE := Env.refl a39 [34, 35, 36, 37]
       refine sm 34 hE k e9 ?_
       intro a41 hE e34 kp
       refine sm 35 hE k e0 ?_
       intro a42 hE e35 kp
       replace e34 := kt kp e34
       refine sd 36 hE k (Z0i Try.underlying65 rfl e35) ?_
       intro a43 hE e36 kp
       replace e34 := kt kp e34
       refine sd 37 hE k (Z06 (Z0y rfl e34 e36) (decide_eq_true (by omega))) ?_
       intro a44 hE e37 kp
       refine wpList_nil ?_
       replace e0 := hE.g e0; replace e1 := hE.g e1; replace e2 := hE.g e2; replace e7 := hE.g e7; replace e8 := hE.g e8; replace e9 := hE.g e9
       replace k := k.env hE
       clear hE
       refine Z01 ?_
       refine Z0f e37 rfl ?_
       refine wp_skip ?_
       refine Z01 (wp_seq ?_)
       refine wp_block ?_
       refine wp_seq ?_
       refine wp_region_lit ?_
       have hE := Env.refl a44 [40, 41, 42, 43, 44, 45, 46, 47, 7]
       refine sd 40 hE k (Z02 rfl e7) ?_
       intro a45 hE e40 kp
       replace e7 := kt kp e7
       refine sm 41 hE k e0 ?_
       intro a46 hE e41 kp
       replace e7 := kt kp e7; replace e40 := kt kp e40
       refine sm 42 hE k e9 ?_
       intro a47 hE e42 kp
       replace e7 := kt kp e7; replace e40 := kt kp e40; replace e41 := kt kp e41
       apply Z03 43 hE k rfl rfl rfl rfl
       case h =>
        simp [go_sem, ↓IntWalk.iteOmega, ev e41, ev e42]
        with_reducible rfl
       intro a48 hE e43 kp
       replace e7 := kt kp e7; replace e40 := kt kp e40
       apply Z03 44 hE k rfl rfl rfl rfl
       case h =>
        simp [go_sem, ↓IntWalk.iteOmega, ev e43]
        with_reducible rfl
       intro a49 hE e44 kp
       replace e7 := kt kp e7; replace e40 := kt kp e40
       apply Z03 45 hE k rfl rfl rfl rfl
       case h =>
        simp [go_sem, ↓IntWalk.iteOmega, ev e44, d0]
        with_reducible rfl
       intro a50 hE e45 kp
       replace e7 := kt kp e7; replace e40 := kt kp e40
       refine Z1o (m := 1) (c := 1) O (cs := #[.int .i64 x.1]) (t := 3) 46 hE k rfl (by rfl) (by rfl) rfl (by simp [go_sem, ↓IntWalk.iteOmega, ev e45]) ?_
       clear O
       intro gn a51 w52 O hE e46 kp
       replace e7 := kt kp e7; replace e40 := kt kp e40
       obtain ⟨gr, cr, w53, hrun, O⟩ := Z2l O elemIt (by decide) rfl (by intro u hu; simp at hu; subst hu; rfl) (by unfold maxLen; omega) (by omega)
       apply Z1q 47 hE k rfl (by rfl) (by rfl) rfl
       case h => exact Z1l rfl e40 e46 (hrun _)
       clear hrun
       intro a54 hE e47 kp
       replace e7 := kt kp e7
       refine sd 7 hE k (Z00 rfl e47) ?_
       intro a55 hE e7 kp
       refine wpList_nil ?_
       replace e0 := hE.g e0; replace e1 := hE.g e1; replace e2 := hE.g e2; replace e8 := hE.g e8; replace e9 := hE.g e9
       replace k := k.env hE
       clear hE e37
       refine Z01 ?_
       rw [fa_step hx] at O
       clear d0 d1
       obtain ⟨_, _, e, _, hc⟩ := (hr1.below O.below) i x hx; injection e with e; injection e with e e'; subst e e'; have d0 := hc 0 _ rfl; have d1 := hc 1 _ rfl; simp only [Nat.add_zero] at d0; clear hc
       replace O : OwnT _ _ ([tRow 3 1 (.slice Bc i cc) i ((es.take i).flatMap encK), tRow 3 1 (.slice (some ⟨gr, 0, none⟩) (i + 1) cr) (i + 1) ((es.take (i + 1)).flatMap encA)]) w53 := OwnT.pick O [1, 0] (by decide)
       refine wp_region_lit ?_
       have hE := Env.refl a55 [48, 49, 50, 51, 52, 53, 54, 55, 8]
       refine sd 48 hE k (Z02 rfl e8) ?_
       intro a56 hE e48 kp
       replace e8 := kt kp e8
       refine sm 49 hE k e0 ?_
       intro a57 hE e49 kp
       replace e8 := kt kp e8; replace e48 := kt kp e48
       refine sm 50 hE k e9 ?_
       intro a58 hE e50 kp
       replace e8 := kt kp e8; replace e48 := kt kp e48; replace e49 := kt kp e49
       apply Z03 51 hE k rfl rfl rfl rfl
       case h =>
        simp [go_sem, ↓IntWalk.iteOmega, ev e49, ev e50]
        with_reducible rfl
       intro a59 hE e51 kp
       replace e8 := kt kp e8; replace e48 := kt kp e48
       apply Z03 52 hE k rfl rfl rfl rfl
       case h =>
        simp [go_sem, ↓IntWalk.iteOmega, ev e51]
        with_reducible rfl
       intro a60 hE e52 kp
       replace e8 := kt kp e8; replace e48 := kt kp e48
       apply Z03 53 hE k rfl rfl rfl rfl
       case h =>
        simp [go_sem, ↓IntWalk.iteOmega, ev e52, d1]
        with_reducible rfl
       intro a61 hE e53 kp
       replace e8 := kt kp e8; replace e48 := kt kp e48
       refine Z1o (m := 1) (c := 1) O (cs := #[.int .i64 x.2]) (t := 3) 54 hE k rfl (by rfl) (by rfl) rfl (by simp [go_sem, ↓IntWalk.iteOmega, ev e53]) ?_
       clear O
       intro gm a62 w63 O hE e54 kp
       replace e8 := kt kp e8; replace e48 := kt kp e48
       obtain ⟨gs, cs, w64, hrun, O⟩ := Z2l O elemIt (by decide) rfl (by intro u hu; simp at hu; subst hu; rfl) (by unfold maxLen; omega) (by omega)
       apply Z1q 55 hE k rfl (by rfl) (by rfl) rfl
       case h => exact Z1l rfl e48 e54 (hrun _)
       clear hrun
       intro a65 hE e55 kp
       replace e8 := kt kp e8
       refine sd 8 hE k (Z00 rfl e55) ?_
       intro a66 hE e8 kp
       refine wpList_nil ?_
       replace e0 := hE.g e0; replace e1 := hE.g e1; replace e2 := hE.g e2; replace e7 := hE.g e7; replace e9 := hE.g e9
       replace k := k.env hE
       clear hE
       refine Z0m ?_
       refine Z01 ?_
       refine wp_region_lit ?_
       have hE := Env.refl a66 [38, 39, 9]
       refine sd 38 hE k (Z02 rfl e9) ?_
       intro a67 hE e38 kp
       replace e9 := kt kp e9
       refine sd 39 hE k (Z0x rfl e38 rfl (by omega)) ?_
       intro a68 hE e39 kp
       replace e9 := kt kp e9
       refine sd 9 hE k (Z00 rfl e39) ?_
       intro a69 hE e9 kp
       refine wpList_nil ?_
       replace e0 := hE.g e0; replace e1 := hE.g e1; replace e2 := hE.g e2; replace e7 := hE.g e7; replace e8 := hE.g e8
       replace k := k.env hE
       clear hE
       refine Z01 ?_
       rw [fk_step hx] at O
       refine ⟨⟨k, e0, e1, e2, i + 1, some ⟨gr, 0, none⟩, cr, some ⟨gs, 0, none⟩, cs, e7, e8, e9, by omega, OwnT.pick O [1, 0] (by decide)⟩, ?_⟩
       rw [e9, mi]; simp only [intOf]; omega
     · obtain rfl : i = n1 := by omega
       clear mi
       rw [show es.take i = es by rw [← hl1]; exact List.take_length] at O
       replace O : OwnT _ _ ([tRow 3 1 (.slice Ba i ca) i (es.flatMap encA), tRow 3 1 (.slice Bc i cc) i (es.flatMap encK)]) w40 := O
       refine wp_seq ?_
       refine wp_seq ?_
       refine wp_region_lit ?_
       have hE := Env.refl a39 [34, 35, 36, 37]
       refine sm 34 hE k e9 ?_
       intro a70 hE e34 kp
       refine sm 35 hE k e0 ?_
       intro a71 hE e35 kp
       replace e34 := kt kp e34
       refine sd 36 hE k (Z0i Try.underlying65 rfl e35) ?_
       intro a72 hE e36 kp
       replace e34 := kt kp e34
       refine sd 37 hE k (Z06 (Z0y rfl e34 e36) (decide_eq_false (by omega))) ?_
       intro a73 hE e37 kp
       refine wpList_nil ?_
       replace e0 := hE.g e0; replace e1 := hE.g e1; replace e2 := hE.g e2; replace e7 := hE.g e7; replace e8 := hE.g e8; replace e9 := hE.g e9
       replace k := k.env hE
       clear hE
       refine Z01 ?_
       refine Z07 e37 rfl ?_
       refine wp_exit ?_
       refine Z0z ?_
       refine Z0z ?_
       refine Z1g ?_
       refine Z01 (wp_seq ?_)
       refine wp_seq ?_
       refine wp_region_lit ?_
       have hE := Env.refl a73 [56, 57, 58, 59, 60, 61, 62, 63]
       refine sm 56 hE k e0 ?_
       intro a74 hE e56 kp
       refine sm 57 hE k e1 ?_
       intro a75 hE e57 kp
       replace e56 := kt kp e56
       apply Z0b 58 hE k rfl (by rfl) (by rfl) rfl
       case h =>
        simp [go_sem, ↓IntWalk.iteOmega, ev e56, ev e57]
        with_reducible exact ⟨rfl, rfl⟩
       case hc => exact Z3h size es _ hl1 (hr1.below O.below) (by omega)
       rintro e w77 ⟨rfl, RE⟩
       replace O := OwnT.ext O RE
       refine ⟨_, rfl, ?_⟩
       intro a76 hE e58 kp
       refine sm 59 hE k e7 ?_
       intro a78 hE e59 kp
       replace e58 := kt kp e58
       refine sm 60 hE k e8 ?_
       intro a79 hE e60 kp
       replace e58 := kt kp e58; replace e59 := kt kp e59
       refine sm 61 hE k e1 ?_
       intro a80 hE e61 kp
       replace e58 := kt kp e58; replace e59 := kt kp e59; replace e60 := kt kp e60
       apply Z0b 62 hE k rfl (by rfl) (by rfl) rfl
       case h =>
        simp [go_sem, ↓IntWalk.iteOmega, ev e59, ev e60, ev e61]
        with_reducible exact ⟨rfl, rfl⟩
       case hc => exact Z68 size es _ hl1 (Z48 (enc := encA) (fun _ => rfl) Nat.one_pos (OwnT.get O 0 rfl)) (Z48 (enc := encK) (fun _ => rfl) Nat.one_pos (OwnT.get O 1 rfl)) (by omega)
       rintro e w82 ⟨rfl, RE⟩
       replace O := OwnT.ext O RE
       refine ⟨_, rfl, ?_⟩
       intro a81 hE e62 kp
       replace e58 := kt kp e58
       refine sd 63 hE k (x_neB12 (c := false) rfl e58 e62 (by simp)) ?_
       intro a83 hE e63 kp
       refine wpList_nil ?_
       replace e2 := hE.g e2
       replace k := k.env hE
       clear hE e0 e1 e7 e8 e9 e37
       refine Z01 ?_
       refine Z07 e63 rfl ?_
       refine wp_skip ?_
       refine Z01 ?_
       replace O := OwnT.pick O [] (by decide)
       refine wp_seq ?_
       refine wp_region_lit ?_
       have hE := Env.refl a83 [64, 65, 10]
       apply Z03 64 hE k rfl rfl rfl rfl
       case h =>
        simp [go_sem, ↓IntWalk.iteOmega]
        with_reducible rfl
       intro a84 hE e64 kp
       refine Z0n O (cs := #[.slice none 0 0, .int .i64 200]) (t := 28) 65 hE k rfl (by rfl) (by rfl) rfl (by simp [go_sem, ↓IntWalk.iteOmega, ev e64]) ?_
       clear O
       intro sb a85 w86 O hE e65 kp
       refine sd 10 hE k (Z00 rfl e65) ?_
       intro a87 hE e10 kp
       refine wpList_nil ?_
       replace e2 := hE.g e2
       replace k := k.env hE
       clear hE e63
       refine Z01 ?_
       replace O := sh_nil O
       refine wp_seq ?_
       refine wp_region_lit ?_
       have hE := Env.refl a87 [11]
       refine sd 11 hE k (Z00 rfl rfl) ?_
       intro a88 hE e11 kp
       refine wpList_nil ?_
       replace e2 := hE.g e2; replace e10 := hE.g e10
       replace k := k.env hE
       clear hE
       refine Z01 (wp_seq ?_)
       refine wp_region_lit ?_
       have hE := Env.refl a88 [66, 12]
       refine sd 66 hE k (x_zeroB rfl) ?_
       intro a89 hE e66 kp
       apply Z1q 12 hE k rfl (by rfl) (by rfl) rfl
       case h =>
        exact Z7s rfl
       intro a90 hE e12 kp
       replace e66 := kt kp e66
       obtain ⟨ub, hub⟩ : ∃ b, w86.heap.size = b := ⟨_, rfl⟩
       replace O := OwnT.new O 71 (rwA fun _ => 0)
       rw [hub] at O e12
       clear hub
       generalize w86.alloc (.cells (rwA fun _ => 0) 71) = wz at O ⊢
       refine Z7w rfl rfl _ _ _ rfl e12 e66 (OwnT.b0 O) (by rw [Z2e]; kernel_rfl) (rwA_one _) ?_
       refine wpList_nil ?_
       replace e2 := hE.g e2; replace e10 := hE.g e10; replace e11 := hE.g e11
       replace k := k.env hE
       clear hE
       refine Z01 ?_
       replace O : OwnT _ _ ((tBlk sb 28 #[.slice none (([]).length) 0, .int .i64 200]) :: (tRow 125 2 (.slice none ([]).length 0) ([]).length (leafV ([]) ([]))) :: (tPool ([]) ([])) :: (tBlk ub 71 (rwA fun _ => 0)) :: []) wz := OwnT.pickR (L := [_, _, _, _]) (R := []) O [1, 2, 3, 0] (by decide)
       refine wp_seq ?_
       refine wp_region_lit ?_
       have hE := Env.refl a90 [13]
       refine sd 13 hE k (Z00 rfl rfl) ?_
       intro a92 hE e13 kp
       refine wpList_nil ?_
       replace e2 := hE.g e2; replace e10 := hE.g e10; replace e11 := hE.g e11; replace e12 := hE.g e12
       replace k := k.env hE
       clear hE
       refine Z01 (wp_seq ?_)
       refine wp_seq ?_
       refine wp_region_lit ?_
       have hE := Env.refl a92 [14]
       refine sd 14 hE k (Z00 rfl rfl) ?_
       intro a93 hE e14 kp
       refine wpList_nil ?_
       replace e2 := hE.g e2; replace e10 := hE.g e10; replace e11 := hE.g e11; replace e12 := hE.g e12; replace e13 := hE.g e13
       replace k := k.env hE
       clear hE
       refine Z01 ?_
       refine wp_block ?_
       refine wp_loop (fun a w => Fr 162 a ∧ a.eval (.tmp 2) = .slice A2 n2 c2 ∧ a.eval (.tmp 10) = .pointer (some ⟨sb, 0, none⟩) ∧ a.eval (.tmp 12) = .pointer (some ⟨ub, 0, none⟩) ∧ ∃ (j rt : Nat) (od : Bool) (Q : List Pr) (N : List Nd) (B : Option Addr) (cap : Nat) (vs : List Value), a.eval (.tmp 11) = .int .i64 ↑rt ∧ a.eval (.tmp 13) = .bool od ∧ a.eval (.tmp 14) = .int .i64 ↑j ∧ j ≤ n2 ∧ N.length ≤ 5 * j ∧ Tre N rt (8 + j) Q ∧ (od = true ↔ ∃ y ∈ Q, 63 < y.1) ∧ OwnT W0.heap.size W0 ((tBlk sb 28 #[.slice B N.length cap, .int .i64 200]) :: (tRow 125 2 (.slice B N.length cap) N.length (leafV vs N)) :: (tPool vs N) :: (tBlk ub 71 (rwA fun _ => 0)) :: []) w) (fun a w => n2 - (intOf (a.eval (.tmp 14))).toNat) ?_ ?_
       · exact ⟨k, e2, e10, e12, 0, 0, false, [], [], none, 0, [], e11, e13, e14, Nat.zero_le _, Nat.zero_le _, (Tre.zero []).le (by omega), ⟨fun h => (by cases h), fun ⟨y, h, _⟩ => (by cases h)⟩, O⟩
       intro a94 w95 hI
       clear k e2 e10 e12
       obtain ⟨k, e2, e10, e12, h_⟩ := hI
       clear O e11 e13 e14
       obtain ⟨j, rt, od, Q, N, B, cap, vs, e11, e13, e14, hj, hN, hT, hod, O⟩ := h_
       have mj := e14
       by_cases hlt : j < n2
       · have hltI : (j : Int) < (n2 : Int) := by omega
         obtain ⟨x, hx⟩ : ∃ x, ps[j]? = some x := ⟨_, List.getElem?_eq_getElem (by omega)⟩
         obtain ⟨hx1, hx2⟩ := hwf x (List.mem_of_getElem? hx)
         obtain ⟨b, o, rfl, _, _⟩ := (hr2.below O.below) j x hx

         refine wp_seq ?_
         refine wp_seq ?_
         refine wp_region_lit ?_
         have hE := Env.refl a94 [67, 68, 69, 70]
         refine sm 67 hE k e14 ?_
         intro a96 hE e67 kp
         refine sm 68 hE k e2 ?_
         intro a97 hE e68 kp
         replace e67 := kt kp e67
         refine sd 69 hE k (Z0i Try.underlying29 rfl e68) ?_
         intro a98 hE e69 kp
         replace e67 := kt kp e67
         refine sd 70 hE k (Z06 (Z0y rfl e67 e69) (decide_eq_true (by omega))) ?_
         intro a99 hE e70 kp
         refine wpList_nil ?_
         replace e2 := hE.g e2; replace e10 := hE.g e10; replace e11 := hE.g e11; replace e12 := hE.g e12; replace e13 := hE.g e13; replace e14 := hE.g e14
         replace k := k.env hE
         clear hE
         refine Z01 ?_
         refine Z0f e70 rfl ?_
         refine wp_skip ?_
         refine Z01 (wp_seq ?_)
         refine wp_block ?_
         refine wp_seq ?_
         refine Z39 (w0 := w95) 13 [[], [0], [], [], [], [3, 4], [3, 4, 5], [3, 4, 5, 6], [], [], [8, 9], [8, 9, 10], [8, 9, 10, 11], [0, 1, 2, 3, 4, 5, 6, 7, 8, 9, 10, 11, 12], [0, 1, 2, 3, 4, 5, 6, 7, 8, 9, 10, 11, 12, 13], [0, 1, 2, 3, 4, 5, 6, 7, 8, 9, 10, 11, 12, 13, 14], [0, 1, 2, 3, 4, 5, 6, 7, 8, 9, 10, 11, 12, 13, 14], [0, 1, 2, 3, 4, 5, 6, 7, 8, 9, 10, 11, 12, 13, 14, 15], [0, 1, 2, 3, 4, 5, 6, 7, 8, 9, 10, 11, 12, 13, 14, 15, 16, 17]] [74, 75, 76, 77, 78, 79, 80, 81, 82, 83, 84, 85, 86, 87, 73, 88, 89, 15, 16] (by kernel_rfl) ?_
         apply BuildL.detA 74 (fun _ w_ _ => Ext.refl w_) (fun _ _ h => h.upd (by rfl)) (by rfl) (by rw [k.size]; rfl) rfl
         case h =>
          intro lx ax wx hE hI hl hA hF
          have hR := hI.pre (by rfl) hl
          exact Z02 rfl (hE.g e10)
         apply BuildL.detA 75 (fun _ w_ _ => Ext.refl w_) (fun _ _ h => h.upd (by rfl)) (by rfl) (by rw [k.size]; rfl) rfl
         case h =>
          intro lx ax wx hE hI hl hA hF
          have e74 := hF 0 (detL 0 74 _) (by decide) ml0
          have hR := hI.pre (by rfl) hl
          simp [go_sem, ↓IntWalk.iteOmega, ev e74]
          with_reducible rfl
         apply BuildL.detA 76 (fun _ w_ _ => Ext.refl w_) (fun _ _ h => h.upd (by rfl)) (by rfl) (by rw [k.size]; rfl) rfl
         case h =>
          intro lx ax wx hE hI hl hA hF
          have hR := hI.pre (by rfl) hl
          exact Z02 rfl (hE.g e11)
         apply BuildL.detA 77 (fun _ w_ _ => Ext.refl w_) (fun _ _ h => h.upd (by rfl)) (by rfl) (by rw [k.size]; rfl) rfl
         case h =>
          intro lx ax wx hE hI hl hA hF
          have hR := hI.pre (by rfl) hl
          exact Z02 rfl (hE.g e2)
         apply BuildL.detA 78 (fun _ w_ _ => Ext.refl w_) (fun _ _ h => h.upd (by rfl)) (by rfl) (by rw [k.size]; rfl) rfl
         case h =>
          intro lx ax wx hE hI hl hA hF
          have hR := hI.pre (by rfl) hl
          exact Z02 rfl (hE.g e14)
         apply BuildL.detA 79 (fun _ w_ _ => Ext.refl w_) (fun _ _ h => h.upd (by rfl)) (by rfl) (by rw [k.size]; rfl) rfl
         case h =>
          intro lx ax wx hE hI hl hA hF
          have e77 := hF 3 (detL 3 77 _) (by decide) ml1
          have e78 := hF 4 (detL 4 78 _) (by decide) ml0
          have hR := hI.pre (by rfl) hl
          simp [go_sem, ↓IntWalk.iteOmega, ev e77, ev e78]
          with_reducible rfl
         apply BuildL.detA 80 (fun _ w_ _ => Ext.refl w_) (fun _ _ h => h.upd (by rfl)) (by rfl) (by rw [k.size]; rfl) rfl
         case h =>
          intro lx ax wx hE hI hl hA hF
          have e79 := hF 5 (detL 5 79 _) (by decide) ml0
          have hR := hI.pre (by rfl) hl
          simp [go_sem, ↓IntWalk.iteOmega, ev e79]
          with_reducible rfl
         apply BuildL.detA 81 (fun _ w_ _ => Ext.refl w_) (fun _ _ h => h.upd (by rfl)) (by rfl) (by rw [k.size]; rfl) rfl
         case h =>
          intro lx ax wx hE hI hl hA hF
          have e80 := hF 6 (detL 6 80 _) (by decide) ml0
          have hR := hI.pre (by rfl) hl
          obtain ⟨_, _, e, d0, d1⟩ := Z78 hr2 (OwnT.ext O hR).below hx; injection e with e; injection e with e e'; subst e e'
          simp [go_sem, ↓IntWalk.iteOmega, ev e80, d0]
          with_reducible rfl
         apply BuildL.detA 82 (fun _ w_ _ => Ext.refl w_) (fun _ _ h => h.upd (by rfl)) (by rfl) (by rw [k.size]; rfl) rfl
         case h =>
          intro lx ax wx hE hI hl hA hF
          have hR := hI.pre (by rfl) hl
          exact Z02 rfl (hE.g e2)
         apply BuildL.detA 83 (fun _ w_ _ => Ext.refl w_) (fun _ _ h => h.upd (by rfl)) (by rfl) (by rw [k.size]; rfl) rfl
         case h =>
          intro lx ax wx hE hI hl hA hF
          have hR := hI.pre (by rfl) hl
          exact Z02 rfl (hE.g e14)
         apply BuildL.detA 84 (fun _ w_ _ => Ext.refl w_) (fun _ _ h => h.upd (by rfl)) (by rfl) (by rw [k.size]; rfl) rfl
         case h =>
          intro lx ax wx hE hI hl hA hF
          have e82 := hF 8 (detL 8 82 _) (by decide) ml1
          have e83 := hF 9 (detL 9 83 _) (by decide) ml0
          have hR := hI.pre (by rfl) hl
          simp [go_sem, ↓IntWalk.iteOmega, ev e82, ev e83]
          with_reducible rfl
         apply BuildL.detA 85 (fun _ w_ _ => Ext.refl w_) (fun _ _ h => h.upd (by rfl)) (by rfl) (by rw [k.size]; rfl) rfl
         case h =>
          intro lx ax wx hE hI hl hA hF
          have e84 := hF 10 (detL 10 84 _) (by decide) ml0
          have hR := hI.pre (by rfl) hl
          simp [go_sem, ↓IntWalk.iteOmega, ev e84]
          with_reducible rfl
         apply BuildL.detA 86 (fun _ w_ _ => Ext.refl w_) (fun _ _ h => h.upd (by rfl)) (by rfl) (by rw [k.size]; rfl) rfl
         case h =>
          intro lx ax wx hE hI hl hA hF
          have e85 := hF 11 (detL 11 85 _) (by decide) ml0
          have hR := hI.pre (by rfl) hl
          obtain ⟨_, _, e, d0, d1⟩ := Z78 hr2 (OwnT.ext O hR).below hx; injection e with e; injection e with e e'; subst e e'
          simp [go_sem, ↓IntWalk.iteOmega, ev e85, d1]
          with_reducible rfl
         refine BuildL.callnew 87 (fun v_ w_ => ∃ N2 r2 er B2 cap2 vs2, v_ = .tuple #[.int .i64 r2, .int .i64 er] ∧ OwnT W0.heap.size W0 ((tBlk sb 28 #[.slice B2 N2.length cap2, .int .i64 200]) :: (tRow 125 2 (.slice B2 N2.length cap2) N2.length (leafV vs2 N2)) :: (tPool vs2 N2) :: (tBlk ub 71 (rwA fun _ => 0)) :: []) w_ ∧ PutL N N2 200 rt x.1 x.2 (if rt = 0 then 0 else 8 + j) Q r2 er) (fun l v_ w_ w2_ hl hR h => by obtain ⟨N2, r2, er, B2, cap2, vs2, hv, O, hPL⟩ := h; exact ⟨N2, r2, er, B2, cap2, vs2, hv, OwnT.ext O (hR hl), hPL⟩) (by rfl) (by rw [k.size]; rfl) rfl ?_ ?_
         · intro lx ax wx hE hI hl hA hF
           have e75 := hF 1 (detL 1 75 _) (by decide) ml11
           have e76 := hF 2 (detL 2 76 _) (by decide) ml10
           have e81 := hF 7 (detL 7 81 _) (by decide) ml5
           have e86 := hF 12 (detL 12 86 _) (by decide) ml0
           have hR := hI.1 hl
           refine ⟨_, _, by simp [go_sem, ↓IntWalk.iteOmega, ev e75, ev e76, ev e81, ev e86], (lPut (R := _ :: []) (ky := x.1) (vl := x.2) wx (OwnT.ext O hR) hT.norm (by split <;> omega) (by omega) hx1 hx2).mono ?_⟩
           rintro e w' ⟨N2, r2, er, B2, cap2, vs2, rfl, O, hPL⟩
           exact ⟨_, rfl, fun h => absurd (hl.symm.trans h) Bool.false_ne_true, IM.at_ hA, N2, r2, er, B2, cap2, vs2, rfl, O, hPL⟩
         refine BuildL.rel 73 87 (fun v => v) (by rfl) (fun _ w_ _ => Ext.refl w_) (fun _ _ h => h.upd (by rfl)) (by rfl) (by rw [k.size]; rfl) rfl ?_ ?_
         · intro lx ax wx hE hI hF
           exact Z02 rfl rfl
         refine BuildL.rel 88 87 (fun v => projV v 0) (by rfl) (fun _ w_ _ => Ext.refl w_) (fun _ _ h => h.upd (by rfl)) (by rfl) (by rw [k.size]; rfl) rfl ?_ ?_
         · intro lx ax wx hE hI hF
           have e73 : ax.eval (.tmp 73) = _ := hF 14 (relL 14 73 87 (fun v => v)) (by decide) ml0
           have fic := hF 13 _ (by decide) ml1
           obtain ⟨N2, r2, er, B2, cap2, vs2, hv, O, hPL⟩ := fic
           rw [hv]
           rw [hv] at e73
           simp [go_sem, ↓IntWalk.iteOmega, ev e73, projV]
         refine BuildL.rel 89 87 (fun v => projV v 1) (by rfl) (fun _ w_ _ => Ext.refl w_) (fun _ _ h => h.upd (by rfl)) (by rfl) (by rw [k.size]; rfl) rfl ?_ ?_
         · intro lx ax wx hE hI hF
           have e73 : ax.eval (.tmp 73) = _ := hF 14 (relL 14 73 87 (fun v => v)) (by decide) ml1
           have fic := hF 13 _ (by decide) ml2
           obtain ⟨N2, r2, er, B2, cap2, vs2, hv, O, hPL⟩ := fic
           rw [hv]
           rw [hv] at e73
           simp [go_sem, ↓IntWalk.iteOmega, ev e73, projV]
         refine BuildL.rel 15 87 (fun v => projV v 0) (by rfl) (fun _ w_ _ => Ext.refl w_) (fun _ _ h => h.upd (by rfl)) (by rfl) (by rw [k.size]; rfl) rfl ?_ ?_
         · intro lx ax wx hE hI hF
           have e88 : ax.eval (.tmp 88) = _ := hF 15 (relL 15 88 87 (fun v => projV v 0)) (by decide) ml1
           exact Z00 rfl e88
         refine BuildL.rel 16 87 (fun v => projV v 1) (by rfl) (fun _ w_ _ => Ext.refl w_) (fun _ _ h => h.upd (by rfl)) (by rfl) (by rw [k.size]; rfl) rfl ?_ ?_
         · intro lx ax wx hE hI hF
           have e89 : ax.eval (.tmp 89) = _ := hF 16 (relL 16 89 87 (fun v => projV v 1)) (by decide) ml1
           exact Z00 rfl e89
         apply BuildL.stop
         refine ⟨by kernel_rfl, ?_⟩
         clear O
         intro lx a100 w101 hE hI hL hF
         clear hI hL
         have fic := hF 13 _ ml5
         have e15 : a100.eval (.tmp 15) = _ := hF 17 (relL 17 15 87 (fun v => projV v 0)) ml1
         have e16 : a100.eval (.tmp 16) = _ := hF 18 (relL 18 16 87 (fun v => projV v 1)) ml0
         clear hF
         obtain ⟨N2, r2, er, B2, cap2, vs2, hv, O, hPL⟩ := fic
         rw [hv] at e15
         replace e15 : a100.eval (.tmp 15) = .int .i64 r2 := e15
         rw [hv] at e16
         replace e16 : a100.eval (.tmp 16) = .int .i64 er := e16
         clear hv
         replace e2 := hE.g e2; replace e10 := hE.g e10; replace e12 := hE.g e12; replace e13 := hE.g e13; replace e14 := hE.g e14
         replace k := k.env hE
         clear hE e11 e70
         refine Z01 ?_
         obtain ⟨⟨M, rfl, hM⟩, hPL⟩ := hPL
         obtain ⟨rfl, r, rfl, -, -, hT2⟩ := hPL.resolve_left (fun h => h.2.2 (by omega))

         obtain ⟨_, _, e, d0, d1⟩ := Z78 hr2 O.below hx; injection e with e; injection e with e e'; subst e e'
         refine wp_seq ?_
         refine wp_seq ?_
         refine wp_region_lit ?_
         have hE := Env.refl a100 [90, 91]
         refine sm 90 hE k e16 ?_
         intro a102 hE e90 kp
         refine sd 91 hE k (Z06 (Z1j rfl e90 rfl) (decide_eq_false (by omega))) ?_
         intro a103 hE e91 kp
         refine wpList_nil ?_
         replace e2 := hE.g e2; replace e10 := hE.g e10; replace e12 := hE.g e12; replace e13 := hE.g e13; replace e14 := hE.g e14; replace e15 := hE.g e15
         replace k := k.env hE
         clear hE e16
         refine Z01 ?_
         refine Z07 e91 rfl ?_
         refine wp_skip ?_
         refine Z01 (wp_seq ?_)
         refine wp_region_lit ?_
         have hE := Env.refl a103 [92, 11]
         refine sm 92 hE k e15 ?_
         intro a104 hE e92 kp
         refine sd 11 hE k (Z00 rfl e92) ?_
         intro a105 hE e11 kp
         refine wpList_nil ?_
         replace e2 := hE.g e2; replace e10 := hE.g e10; replace e12 := hE.g e12; replace e13 := hE.g e13; replace e14 := hE.g e14
         replace k := k.env hE
         clear hE e15 e91
         refine Z01 ?_
         by_cases hbig : 63 < x.1
         · skip
           refine wp_seq ?_
           refine wp_region_lit ?_
           have hE := Env.refl a105 [93, 94, 95, 96, 97, 98]
           refine sm 93 hE k e2 ?_
           intro a106 hE e93 kp
           refine sm 94 hE k e14 ?_
           intro a107 hE e94 kp
           replace e93 := kt kp e93
           apply Z03 95 hE k rfl rfl rfl rfl
           case h =>
            simp [go_sem, ↓IntWalk.iteOmega, ev e93, ev e94]
            with_reducible rfl
           intro a108 hE e95 kp
           apply Z03 96 hE k rfl rfl rfl rfl
           case h =>
            simp [go_sem, ↓IntWalk.iteOmega, ev e95]
            with_reducible rfl
           intro a109 hE e96 kp
           apply Z03 97 hE k rfl rfl rfl rfl
           case h =>
            simp [go_sem, ↓IntWalk.iteOmega, ev e96, d0]
            with_reducible rfl
           intro a110 hE e97 kp
           refine sd 98 hE k (Z06 (Z19 rfl e97 rfl) (decide_eq_true (by omega))) ?_
           intro a111 hE e98 kp
           refine wpList_nil ?_
           replace e2 := hE.g e2; replace e10 := hE.g e10; replace e11 := hE.g e11; replace e12 := hE.g e12; replace e13 := hE.g e13; replace e14 := hE.g e14
           replace k := k.env hE
           clear hE
           refine Z01 ?_
           refine Z0f e98 rfl ?_
           refine wp_region_lit ?_
           have hE := Env.refl a111 [13]
           refine sd 13 hE k (Z00 rfl rfl) ?_
           intro a112 hE e13 kp
           refine wpList_nil ?_
           replace e2 := hE.g e2; replace e10 := hE.g e10; replace e11 := hE.g e11; replace e12 := hE.g e12; replace e14 := hE.g e14
           replace k := k.env hE
           clear hE e98
           refine Z0m ?_
           refine Z01 ?_
           refine wp_region_lit ?_
           have hE := Env.refl a112 [71, 72, 14]
           refine sd 71 hE k (Z02 rfl e14) ?_
           intro a113 hE e71 kp
           replace e14 := kt kp e14
           refine sd 72 hE k (Z0x rfl e71 rfl (by omega)) ?_
           intro a114 hE e72 kp
           replace e14 := kt kp e14
           refine sd 14 hE k (Z00 rfl e72) ?_
           intro a115 hE e14 kp
           refine wpList_nil ?_
           replace e2 := hE.g e2; replace e10 := hE.g e10; replace e11 := hE.g e11; replace e12 := hE.g e12; replace e13 := hE.g e13
           replace k := k.env hE
           clear hE
           refine Z01 ?_
           refine ⟨⟨k, e2, e10, e12, j + 1, r, true, insP (x.1, x.2) Q, N ++ M, B2, cap2, vs2, e11, e13, e14, by omega, by rw [List.length_append]; omega, (hT2.next (by omega)).le (by omega), ⟨fun _ => ⟨(x.1, x.2), Z5f.2 (.inl rfl), hbig⟩, fun _ => rfl⟩, O⟩, ?_⟩
           rw [e14, mj]; simp only [intOf]; omega
         · skip
           refine wp_seq ?_
           refine wp_region_lit ?_
           have hE := Env.refl a105 [93, 94, 95, 96, 97, 98]
           refine sm 93 hE k e2 ?_
           intro a116 hE e93 kp
           refine sm 94 hE k e14 ?_
           intro a117 hE e94 kp
           replace e93 := kt kp e93
           apply Z03 95 hE k rfl rfl rfl rfl
           case h =>
            simp [go_sem, ↓IntWalk.iteOmega, ev e93, ev e94]
            with_reducible rfl
           intro a118 hE e95 kp
           apply Z03 96 hE k rfl rfl rfl rfl
           case h =>
            simp [go_sem, ↓IntWalk.iteOmega, ev e95]
            with_reducible rfl
           intro a119 hE e96 kp
           apply Z03 97 hE k rfl rfl rfl rfl
           case h =>
            simp [go_sem, ↓IntWalk.iteOmega, ev e96, d0]
            with_reducible rfl
           intro a120 hE e97 kp
           refine sd 98 hE k (Z06 (Z19 rfl e97 rfl) (decide_eq_false (by omega))) ?_
           intro a121 hE e98 kp
           refine wpList_nil ?_
           replace e2 := hE.g e2; replace e10 := hE.g e10; replace e11 := hE.g e11; replace e12 := hE.g e12; replace e13 := hE.g e13; replace e14 := hE.g e14
           replace k := k.env hE
           clear hE
           refine Z01 ?_
           refine Z07 e98 rfl ?_
           refine wp_skip ?_
           refine Z0m ?_
           refine Z01 ?_
           refine wp_region_lit ?_
           have hE := Env.refl a121 [71, 72, 14]
           refine sd 71 hE k (Z02 rfl e14) ?_
           intro a122 hE e71 kp
           replace e14 := kt kp e14
           refine sd 72 hE k (Z0x rfl e71 rfl (by omega)) ?_
           intro a123 hE e72 kp
           replace e14 := kt kp e14
           refine sd 14 hE k (Z00 rfl e72) ?_
           intro a124 hE e14 kp
           refine wpList_nil ?_
           replace e2 := hE.g e2; replace e10 := hE.g e10; replace e11 := hE.g e11; replace e12 := hE.g e12; replace e13 := hE.g e13
           replace k := k.env hE
           clear hE e98
           refine Z01 ?_
           refine ⟨⟨k, e2, e10, e12, j + 1, r, od, insP (x.1, x.2) Q, N ++ M, B2, cap2, vs2, e11, e13, e14, by omega, by rw [List.length_append]; omega, (hT2.next (by omega)).le (by omega), hod.trans ⟨fun ⟨y, h1, h2⟩ => ⟨y, Z5f.2 (.inr ⟨h1, fun e => hbig (by rw [← show y.1 = x.1 from e]; exact h2)⟩), h2⟩, fun ⟨y, h1, h2⟩ => by rcases Z5f.1 h1 with rfl | ⟨h3, _⟩; exact absurd h2 hbig; exact ⟨y, h3, h2⟩⟩, O⟩, ?_⟩
           rw [e14, mj]; simp only [intOf]; omega
       · skip
         clear mj
         obtain ⟨RL, hRL⟩ : ∃ R, cutP 0 63 Q = R := ⟨_, rfl⟩
         have hQl := hT.len
         have hRl : RL.length ≤ Q.length := by rw [← hRL]; exact List.length_filter_le _ _
         have hRu : Up RL := by rw [← hRL]; exact hT.up.filter _
         have hR6 : ∀ y ∈ RL, y.1 < 64 := fun y hy => by
          rw [← hRL] at hy
          have h := (List.mem_filter.1 hy).2
          simp at h
          omega

         refine wp_seq ?_
         refine wp_seq ?_
         refine wp_region_lit ?_
         have hE := Env.refl a94 [67, 68, 69, 70]
         refine sm 67 hE k e14 ?_
         intro a125 hE e67 kp
         refine sm 68 hE k e2 ?_
         intro a126 hE e68 kp
         replace e67 := kt kp e67
         refine sd 69 hE k (Z0i Try.underlying29 rfl e68) ?_
         intro a127 hE e69 kp
         replace e67 := kt kp e67
         refine sd 70 hE k (Z06 (Z0y rfl e67 e69) (decide_eq_false (by omega))) ?_
         intro a128 hE e70 kp
         refine wpList_nil ?_
         replace e2 := hE.g e2; replace e10 := hE.g e10; replace e11 := hE.g e11; replace e12 := hE.g e12; replace e13 := hE.g e13; replace e14 := hE.g e14
         replace k := k.env hE
         clear hE
         refine Z01 ?_
         refine Z07 e70 rfl ?_
         refine wp_exit ?_
         refine Z0z ?_
         refine Z0z ?_
         refine Z1g ?_
         refine Z01 (wp_seq ?_)
         refine wp_region_lit ?_
         have hE := Env.refl a128 [100, 101, 102, 103, 99, 104, 105, 17, 18]
         refine sm 100 hE k e10 ?_
         intro a129 hE e100 kp
         apply Z03 101 hE k rfl rfl rfl rfl
         case h =>
          simp [go_sem, ↓IntWalk.iteOmega, ev e100]
          with_reducible rfl
         intro a130 hE e101 kp
         refine sm 102 hE k e11 ?_
         intro a131 hE e102 kp
         replace e101 := kt kp e101
         apply Z0b 103 hE k rfl (by rfl) (by rfl) rfl
         case h =>
          simp [go_sem, ↓IntWalk.iteOmega, ev e101, ev e102]
          with_reducible exact ⟨rfl, rfl⟩
         case hc => exact Z7f (R := _ :: []) 0 63 hRL _ O hT (by omega) (by omega)
         clear O
         rintro e w133 ⟨Br, cr, rfl, O⟩
         refine ⟨_, rfl, ?_⟩
         intro a132 hE e103 kp
         refine sd 99 hE k (Z02 rfl e103) ?_
         intro a134 hE e99 kp
         apply Z03 104 hE k rfl rfl rfl rfl
         case h =>
          simp [go_sem, ↓IntWalk.iteOmega, ev e99]
          with_reducible rfl
         intro a135 hE e104 kp
         replace e99 := kt kp e99
         apply Z03 105 hE k rfl rfl rfl rfl
         case h =>
          simp [go_sem, ↓IntWalk.iteOmega, ev e99]
          with_reducible rfl
         intro a136 hE e105 kp
         replace e104 := kt kp e104
         refine sd 17 hE k (Z00 rfl e104) ?_
         intro a137 hE e17 kp
         replace e105 := kt kp e105
         refine sd 18 hE k (Z00 rfl e105) ?_
         intro a138 hE e18 kp
         replace e17 := kt kp e17
         refine wpList_nil ?_
         replace e10 := hE.g e10; replace e11 := hE.g e11; replace e12 := hE.g e12; replace e13 := hE.g e13
         replace k := k.env hE
         clear hE e2 e14 e70
         refine Z01 (wp_seq ?_)
         refine wp_seq ?_
         refine wp_region_lit ?_
         have hE := Env.refl a138 [106, 107]
         refine sm 106 hE k e18 ?_
         intro a139 hE e106 kp
         refine sd 107 hE k (Z06 (Z1j rfl e106 rfl) (decide_eq_false (by omega))) ?_
         intro a140 hE e107 kp
         refine wpList_nil ?_
         replace e10 := hE.g e10; replace e11 := hE.g e11; replace e12 := hE.g e12; replace e13 := hE.g e13; replace e17 := hE.g e17
         replace k := k.env hE
         clear hE e18
         refine Z01 ?_
         refine Z07 e107 rfl ?_
         refine wp_skip ?_
         refine Z01 (wp_seq ?_)
         refine wp_seq ?_
         refine wp_region_lit ?_
         have hE := Env.refl a140 [19]
         refine sd 19 hE k (Z00 rfl rfl) ?_
         intro a141 hE e19 kp
         refine wpList_nil ?_
         replace e10 := hE.g e10; replace e11 := hE.g e11; replace e12 := hE.g e12; replace e13 := hE.g e13; replace e17 := hE.g e17
         replace k := k.env hE
         clear hE e107
         refine Z01 ?_
         refine wp_block ?_
         refine wp_loop (fun a w => Fr 162 a ∧ a.eval (.tmp 10) = .pointer (some ⟨sb, 0, none⟩) ∧ a.eval (.tmp 11) = .int .i64 ↑rt ∧ a.eval (.tmp 12) = .pointer (some ⟨ub, 0, none⟩) ∧ a.eval (.tmp 17) = .slice Br RL.length cr ∧ ∃ (q : Nat) (o2 : Bool) (u : Nat → Nat), a.eval (.tmp 13) = .bool o2 ∧ a.eval (.tmp 19) = .int .i64 ↑q ∧ q ≤ RL.length ∧ (o2 = false → od = false ∧ (∀ y ∈ RL.take q, enOk y = true) ∧ Rw (RL.take q) u) ∧ (o2 = true → od = true ∨ ∃ y ∈ RL, enOk y = false) ∧ OwnT W0.heap.size W0 ((tBlk sb 28 #[.slice B N.length cap, .int .i64 200]) :: (tRow 125 2 (.slice B N.length cap) N.length (leafV vs N)) :: (tPool vs N) :: (tPs (.slice Br RL.length cr) RL) :: (tBlk ub 71 (rwA u)) :: []) w) (fun a w => RL.length - (intOf (a.eval (.tmp 19))).toNat) ?_ ?_
         · exact ⟨k, e10, e11, e12, e17, 0, od, fun _ => 0, e13, e19, Nat.zero_le _, (fun h => ⟨h, fun y hy => (by simp at hy), fun i _ => rfl⟩), (fun h => .inl h), O⟩
         intro a142 w143 hI
         clear k e10 e11 e12 e17
         obtain ⟨k, e10, e11, e12, e17, h_⟩ := hI
         clear O e13 e19
         obtain ⟨q, o2, u, e13, e19, hq, ho1, ho2, O⟩ := h_
         have mq := e19
         by_cases hlt : q < RL.length
         · have hltI : (q : Int) < (RL.length : Int) := by omega
           obtain ⟨y, hy⟩ : ∃ y, RL[q]? = some y := ⟨_, List.getElem?_eq_getElem hlt⟩
           have hym := List.mem_of_getElem? hy
           have hy64 := hR6 y hym
           have htk : RL.take (q + 1) = RL.take q ++ [y] := by rw [List.take_add_one, hy]; rfl
           obtain ⟨-, gp, rfl, d0, d1⟩ := Z32 (OwnT.get O 3 rfl) hy
           have hyI : (y.1 : Int) < 64 := by omega

           refine wp_seq ?_
           refine wp_seq ?_
           refine wp_region_lit ?_
           have hE := Env.refl a142 [108, 109, 110, 111]
           refine sm 108 hE k e19 ?_
           intro a144 hE e108 kp
           refine sm 109 hE k e17 ?_
           intro a145 hE e109 kp
           replace e108 := kt kp e108
           refine sd 110 hE k (Z0i Try.underlying29 rfl e109) ?_
           intro a146 hE e110 kp
           replace e108 := kt kp e108
           refine sd 111 hE k (Z06 (Z0y rfl e108 e110) (decide_eq_true (by omega))) ?_
           intro a147 hE e111 kp
           refine wpList_nil ?_
           replace e10 := hE.g e10; replace e11 := hE.g e11; replace e12 := hE.g e12; replace e13 := hE.g e13; replace e17 := hE.g e17; replace e19 := hE.g e19
           replace k := k.env hE
           clear hE
           refine Z01 ?_
           refine Z0f e111 rfl ?_
           refine wp_skip ?_
           refine Z01 (wp_seq ?_)
           refine wp_block ?_
           by_cases hv1 : y.2 < 1
           · skip
             refine wp_seq ?_
             refine wp_region_lit ?_
             have hE := Env.refl a147 [114, 115, 116, 117, 118, 119, 120, 121, 122, 123, 124, 125, 126, 127]
             refine sm 114 hE k e17 ?_
             intro a148 hE e114 kp
             refine sm 115 hE k e19 ?_
             intro a149 hE e115 kp
             replace e114 := kt kp e114
             apply Z03 116 hE k rfl rfl rfl rfl
             case h =>
              simp [go_sem, ↓IntWalk.iteOmega, ev e114, ev e115]
              with_reducible rfl
             intro a150 hE e116 kp
             apply Z03 117 hE k rfl rfl rfl rfl
             case h =>
              simp [go_sem, ↓IntWalk.iteOmega, ev e116]
              with_reducible rfl
             intro a151 hE e117 kp
             apply Z03 118 hE k rfl rfl rfl rfl
             case h =>
              simp [go_sem, ↓IntWalk.iteOmega, ev e117, d1]
              with_reducible rfl
             intro a152 hE e118 kp
             refine sd 119 hE k (Z06 (Z0y rfl e118 rfl) (decide_eq_true (by omega))) ?_
             intro a153 hE e119 kp
             refine sd 120 hE k (Z02 rfl e119) ?_
             intro a154 hE e120 kp
             refine Z0e 121 hE k rfl (by rfl) (by rfl) rfl rfl (.inl e120) ?_
             intro a155 hE e121 kp
             replace e120 := kt kp e120
             refine Z0e 122 hE k rfl (by rfl) (by rfl) rfl rfl (.inl e120) ?_
             intro a156 hE e122 kp
             replace e120 := kt kp e120; replace e121 := kt kp e121
             refine Z0e 123 hE k rfl (by rfl) (by rfl) rfl rfl (.inl e120) ?_
             intro a157 hE e123 kp
             replace e120 := kt kp e120
             refine Z0e 124 hE k rfl (by rfl) (by rfl) rfl rfl (.inl e120) ?_
             intro a158 hE e124 kp
             replace e120 := kt kp e120
             refine Z0e 125 hE k rfl (by rfl) (by rfl) rfl rfl (.inl e120) ?_
             intro a159 hE e125 kp
             replace e120 := kt kp e120
             refine Z0e 126 hE k rfl (by rfl) (by rfl) rfl rfl (.inl e120) ?_
             intro a160 hE e126 kp
             replace e120 := kt kp e120
             refine sd 127 hE k (Z08 rfl e120 rfl) ?_
             intro a161 hE e127 kp
             refine wpList_nil ?_
             replace e10 := hE.g e10; replace e11 := hE.g e11; replace e12 := hE.g e12; replace e13 := hE.g e13; replace e17 := hE.g e17; replace e19 := hE.g e19
             replace k := k.env hE
             clear hE e111
             refine Z01 ?_
             refine Z0f e127 rfl ?_
             refine wp_region_lit ?_
             have hE := Env.refl a161 [13]
             refine sd 13 hE k (Z00 rfl rfl) ?_
             intro a162 hE e13 kp
             refine wpList_nil ?_
             replace e10 := hE.g e10; replace e11 := hE.g e11; replace e12 := hE.g e12; replace e17 := hE.g e17; replace e19 := hE.g e19
             replace k := k.env hE
             clear hE e127
             refine Z0m ?_
             refine Z01 ?_
             refine wp_region_lit ?_
             have hE := Env.refl a162 [112, 113, 19]
             refine sd 112 hE k (Z02 rfl e19) ?_
             intro a163 hE e112 kp
             replace e19 := kt kp e19
             refine sd 113 hE k (Z0x rfl e112 rfl (by omega)) ?_
             intro a164 hE e113 kp
             replace e19 := kt kp e19
             refine sd 19 hE k (Z00 rfl e113) ?_
             intro a165 hE e19 kp
             refine wpList_nil ?_
             replace e10 := hE.g e10; replace e11 := hE.g e11; replace e12 := hE.g e12; replace e13 := hE.g e13; replace e17 := hE.g e17
             replace k := k.env hE
             clear hE
             refine Z01 ?_
             refine ⟨⟨k, e10, e11, e12, e17, q + 1, true, u, e13, e19, by omega, (fun h => by cases h), (fun _ => .inr ⟨y, hym, decide_eq_false (fun h => by have h : y.1 < 64 ∧ 1 ≤ y.2 ∧ y.2 ≤ 1023 := h; omega)⟩), O⟩, ?_⟩
             rw [e19, mq]; simp only [intOf]; omega
           · skip
             by_cases hv2 : 1023 < y.2
             · skip
               refine wp_seq ?_
               refine wp_region_lit ?_
               have hE := Env.refl a147 [114, 115, 116, 117, 118, 119, 120, 121, 122, 123, 124, 125, 126, 127]
               refine sm 114 hE k e17 ?_
               intro a166 hE e114 kp
               refine sm 115 hE k e19 ?_
               intro a167 hE e115 kp
               replace e114 := kt kp e114
               apply Z03 116 hE k rfl rfl rfl rfl
               case h =>
                simp [go_sem, ↓IntWalk.iteOmega, ev e114, ev e115]
                with_reducible rfl
               intro a168 hE e116 kp
               apply Z03 117 hE k rfl rfl rfl rfl
               case h =>
                simp [go_sem, ↓IntWalk.iteOmega, ev e116]
                with_reducible rfl
               intro a169 hE e117 kp
               apply Z03 118 hE k rfl rfl rfl rfl
               case h =>
                simp [go_sem, ↓IntWalk.iteOmega, ev e117, d1]
                with_reducible rfl
               intro a170 hE e118 kp
               refine sd 119 hE k (Z06 (Z0y rfl e118 rfl) (decide_eq_false (by omega))) ?_
               intro a171 hE e119 kp
               refine sd 120 hE k (Z02 rfl e119) ?_
               intro a172 hE e120 kp
               apply Z04 121 hE k rfl rfl rfl rfl rfl e120
               case h =>
                exact Z02 rfl (hE.g e17)
               intro a173 hE e121 kp
               replace e120 := kt kp e120
               apply Z04 122 hE k rfl rfl rfl rfl rfl e120
               case h =>
                exact Z02 rfl (hE.g e19)
               intro a174 hE e122 kp
               replace e120 := kt kp e120; replace e121 := kt kp e121
               apply Z04 123 hE k rfl rfl rfl rfl rfl e120
               case h =>
                simp [go_sem, ↓IntWalk.iteOmega, ev e121, ev e122]
                with_reducible rfl
               intro a175 hE e123 kp
               replace e120 := kt kp e120
               apply Z04 124 hE k rfl rfl rfl rfl rfl e120
               case h =>
                simp [go_sem, ↓IntWalk.iteOmega, ev e123]
                with_reducible rfl
               intro a176 hE e124 kp
               replace e120 := kt kp e120
               apply Z04 125 hE k rfl rfl rfl rfl rfl e120
               case h =>
                simp [go_sem, ↓IntWalk.iteOmega, ev e124, d1]
                with_reducible rfl
               intro a177 hE e125 kp
               replace e120 := kt kp e120
               apply Z04 126 hE k rfl rfl rfl rfl rfl e120
               case h =>
                exact Z06 (Z19 rfl e125 rfl) (decide_eq_true (by omega))
               intro a178 hE e126 kp
               replace e120 := kt kp e120
               refine sd 127 hE k (Z05 rfl e120 e126) ?_
               intro a179 hE e127 kp
               refine wpList_nil ?_
               replace e10 := hE.g e10; replace e11 := hE.g e11; replace e12 := hE.g e12; replace e13 := hE.g e13; replace e17 := hE.g e17; replace e19 := hE.g e19
               replace k := k.env hE
               clear hE e111
               refine Z01 ?_
               refine Z0f e127 rfl ?_
               refine wp_region_lit ?_
               have hE := Env.refl a179 [13]
               refine sd 13 hE k (Z00 rfl rfl) ?_
               intro a180 hE e13 kp
               refine wpList_nil ?_
               replace e10 := hE.g e10; replace e11 := hE.g e11; replace e12 := hE.g e12; replace e17 := hE.g e17; replace e19 := hE.g e19
               replace k := k.env hE
               clear hE e127
               refine Z0m ?_
               refine Z01 ?_
               refine wp_region_lit ?_
               have hE := Env.refl a180 [112, 113, 19]
               refine sd 112 hE k (Z02 rfl e19) ?_
               intro a181 hE e112 kp
               replace e19 := kt kp e19
               refine sd 113 hE k (Z0x rfl e112 rfl (by omega)) ?_
               intro a182 hE e113 kp
               replace e19 := kt kp e19
               refine sd 19 hE k (Z00 rfl e113) ?_
               intro a183 hE e19 kp
               refine wpList_nil ?_
               replace e10 := hE.g e10; replace e11 := hE.g e11; replace e12 := hE.g e12; replace e13 := hE.g e13; replace e17 := hE.g e17
               replace k := k.env hE
               clear hE
               refine Z01 ?_
               refine ⟨⟨k, e10, e11, e12, e17, q + 1, true, u, e13, e19, by omega, (fun h => by cases h), (fun _ => .inr ⟨y, hym, decide_eq_false (fun h => by have h : y.1 < 64 ∧ 1 ≤ y.2 ∧ y.2 ≤ 1023 := h; omega)⟩), O⟩, ?_⟩
               rw [e19, mq]; simp only [intOf]; omega
             · skip
               refine wp_seq ?_
               refine wp_region_lit ?_
               have hE := Env.refl a147 [114, 115, 116, 117, 118, 119, 120, 121, 122, 123, 124, 125, 126, 127]
               refine sm 114 hE k e17 ?_
               intro a184 hE e114 kp
               refine sm 115 hE k e19 ?_
               intro a185 hE e115 kp
               replace e114 := kt kp e114
               apply Z03 116 hE k rfl rfl rfl rfl
               case h =>
                simp [go_sem, ↓IntWalk.iteOmega, ev e114, ev e115]
                with_reducible rfl
               intro a186 hE e116 kp
               apply Z03 117 hE k rfl rfl rfl rfl
               case h =>
                simp [go_sem, ↓IntWalk.iteOmega, ev e116]
                with_reducible rfl
               intro a187 hE e117 kp
               apply Z03 118 hE k rfl rfl rfl rfl
               case h =>
                simp [go_sem, ↓IntWalk.iteOmega, ev e117, d1]
                with_reducible rfl
               intro a188 hE e118 kp
               refine sd 119 hE k (Z06 (Z0y rfl e118 rfl) (decide_eq_false (by omega))) ?_
               intro a189 hE e119 kp
               refine sd 120 hE k (Z02 rfl e119) ?_
               intro a190 hE e120 kp
               apply Z04 121 hE k rfl rfl rfl rfl rfl e120
               case h =>
                exact Z02 rfl (hE.g e17)
               intro a191 hE e121 kp
               replace e120 := kt kp e120
               apply Z04 122 hE k rfl rfl rfl rfl rfl e120
               case h =>
                exact Z02 rfl (hE.g e19)
               intro a192 hE e122 kp
               replace e120 := kt kp e120; replace e121 := kt kp e121
               apply Z04 123 hE k rfl rfl rfl rfl rfl e120
               case h =>
                simp [go_sem, ↓IntWalk.iteOmega, ev e121, ev e122]
                with_reducible rfl
               intro a193 hE e123 kp
               replace e120 := kt kp e120
               apply Z04 124 hE k rfl rfl rfl rfl rfl e120
               case h =>
                simp [go_sem, ↓IntWalk.iteOmega, ev e123]
                with_reducible rfl
               intro a194 hE e124 kp
               replace e120 := kt kp e120
               apply Z04 125 hE k rfl rfl rfl rfl rfl e120
               case h =>
                simp [go_sem, ↓IntWalk.iteOmega, ev e124, d1]
                with_reducible rfl
               intro a195 hE e125 kp
               replace e120 := kt kp e120
               apply Z04 126 hE k rfl rfl rfl rfl rfl e120
               case h =>
                exact Z06 (Z19 rfl e125 rfl) (decide_eq_false (by omega))
               intro a196 hE e126 kp
               replace e120 := kt kp e120
               refine sd 127 hE k (Z05 rfl e120 e126) ?_
               intro a197 hE e127 kp
               refine wpList_nil ?_
               replace e10 := hE.g e10; replace e11 := hE.g e11; replace e12 := hE.g e12; replace e13 := hE.g e13; replace e17 := hE.g e17; replace e19 := hE.g e19
               replace k := k.env hE
               clear hE e111
               refine Z01 ?_
               refine Z07 e127 rfl ?_
               clear d0 d1
               refine Z0a (R := Ext) (w0 := w143) [[], [], [0, 1], [0, 1, 2], [0, 1, 2, 3], [], [], [5, 6], [5, 6, 7], [5, 6, 7, 8], [5, 6, 7, 8, 9], [0, 1, 2, 3, 4, 5, 6, 7, 8, 9, 10], [0, 1, 2, 3, 4, 5, 6, 7, 8, 9, 10, 11]] [128, 129, 130, 131, 132, 133, 134, 135, 136, 137, 138, 139] Ext.refl (fun _ _ _ => Ext.trans) (Ext.drew _) (by kernel_rfl) ?_
               apply bd 128 k rfl rfl rfl
               case h =>
                intro ax wx hE hR hF
                exact Z02 rfl (hE.g e17)
               apply bd 129 k rfl rfl rfl
               case h =>
                intro ax wx hE hR hF
                exact Z02 rfl (hE.g e19)
               apply bd 130 k rfl rfl rfl
               case h =>
                intro ax wx hE hR hF
                have e128 := zhF hF 0 128 ml1
                have e129 := zhF hF 1 129 ml0
                simp [go_sem, ↓IntWalk.iteOmega, ev e128, ev e129]
                with_reducible rfl
               apply bd 131 k rfl rfl rfl
               case h =>
                intro ax wx hE hR hF
                have e130 := zhF hF 2 130 ml0
                simp [go_sem, ↓IntWalk.iteOmega, ev e130]
                with_reducible rfl
               apply bd 132 k rfl rfl rfl
               case h =>
                intro ax wx hE hR hF
                have e131 := zhF hF 3 131 ml0
                obtain ⟨-, gp', e, d0, d1⟩ := Z32 (OwnT.get (OwnT.ext O hR) 3 rfl) hy; injection e with e; injection e with e; subst e
                simp [go_sem, ↓IntWalk.iteOmega, ev e131, d0]
                with_reducible rfl
               apply bd 133 k rfl rfl rfl
               case h =>
                intro ax wx hE hR hF
                exact Z02 rfl (hE.g e17)
               apply bd 134 k rfl rfl rfl
               case h =>
                intro ax wx hE hR hF
                exact Z02 rfl (hE.g e19)
               apply bd 135 k rfl rfl rfl
               case h =>
                intro ax wx hE hR hF
                have e133 := zhF hF 5 133 ml1
                have e134 := zhF hF 6 134 ml0
                simp [go_sem, ↓IntWalk.iteOmega, ev e133, ev e134]
                with_reducible rfl
               apply bd 136 k rfl rfl rfl
               case h =>
                intro ax wx hE hR hF
                have e135 := zhF hF 7 135 ml0
                simp [go_sem, ↓IntWalk.iteOmega, ev e135]
                with_reducible rfl
               apply bd 137 k rfl rfl rfl
               case h =>
                intro ax wx hE hR hF
                have e136 := zhF hF 8 136 ml0
                obtain ⟨-, gp', e, d0, d1⟩ := Z32 (OwnT.get (OwnT.ext O hR) 3 rfl) hy; injection e with e; injection e with e; subst e
                simp [go_sem, ↓IntWalk.iteOmega, ev e136, d1]
                with_reducible rfl
               apply bd 138 k rfl rfl rfl
               case h =>
                intro ax wx hE hR hF
                have e137 := zhF hF 9 137 ml0
                exact Z1w rfl e137 (Z1i y.2 _ (by omega))
               apply bd 139 k rfl rfl rfl
               case h =>
                intro ax wx hE hR hF
                have e132 := zhF hF 4 132 ml6
                simp [go_sem, ↓IntWalk.iteOmega, ev (hE.g e12), ev e132]
                with_reducible rfl
               apply Build.stop
               refine ⟨by kernel_rfl, .inr ⟨by kernel_rfl, _, rfl, rfl, ?_⟩⟩
               intro a198 w199 hE R hF
               have e138 : a198.eval (.tmp 138) = _ := hF 10 (det 138 _) ml1
               have e139 : a198.eval (.tmp 139) = _ := hF 11 (det 139 _) ml0
               clear hF
               replace O := OwnT.ext O R
               clear R
               have hc : w199.cell? ⟨ub, y.1, none⟩ = some (.int .i64 (u y.1 : Nat)) := by rw [(OwnT.blk O 4 rfl).cell, Z3q u hy64]
               have hfz : w199.frozen? ⟨ub, y.1, none⟩ = false := (OwnT.blk O 4 rfl).frozen y.1
               refine Z7e (w' := w199.setCell ⟨ub, y.1, none⟩ (.int .i64 (y.2 : Int))) rfl (by simp [go_sem, ↓IntWalk.iteOmega, ev e139, ev e138, hc, hfz]) ?_
               replace O := OwnT.push (L := [_, _, _, _, _]) 4 rfl ((OwnT.pull O 4 rfl).set y.1 (.int .i64 (y.2 : Int)))
               clear hc hfz
               rw [rwA_set u y.2 hy64] at O
               generalize (w199.setCell ⟨ub, y.1, none⟩ (.int .i64 (y.2 : Int))) = w200 at O ⊢
               replace e10 := hE.g e10; replace e11 := hE.g e11; replace e12 := hE.g e12; replace e13 := hE.g e13; replace e17 := hE.g e17; replace e19 := hE.g e19
               replace k := k.env hE
               clear hE e127 e138 e139
               refine Z0m ?_
               refine Z01 ?_
               refine wp_region_lit ?_
               have hE := Env.refl a198 [112, 113, 19]
               refine sd 112 hE k (Z02 rfl e19) ?_
               intro a201 hE e112 kp
               replace e19 := kt kp e19
               refine sd 113 hE k (Z0x rfl e112 rfl (by omega)) ?_
               intro a202 hE e113 kp
               replace e19 := kt kp e19
               refine sd 19 hE k (Z00 rfl e113) ?_
               intro a203 hE e19 kp
               refine wpList_nil ?_
               replace e10 := hE.g e10; replace e11 := hE.g e11; replace e12 := hE.g e12; replace e13 := hE.g e13; replace e17 := hE.g e17
               replace k := k.env hE
               clear hE
               refine Z01 ?_
               refine ⟨⟨k, e10, e11, e12, e17, q + 1, o2, fun i => if i = y.1 then y.2 else u i, e13, e19, by omega, (fun h => ⟨(ho1 h).1, fun z hz => by rw [htk] at hz; rcases List.mem_append.1 hz with hz | hz; exact (ho1 h).2.1 z hz; (obtain rfl := List.mem_singleton.1 hz; exact decide_eq_true ⟨hy64, by omega, by omega⟩), by rw [htk]; exact rw_step (ho1 h).2.2 (fun z hz => by obtain ⟨j', hj', rfl⟩ := List.mem_iff_getElem.1 hz; rw [List.length_take] at hj'; rw [List.getElem_take]; exact Z5q hRu (List.getElem?_eq_getElem (by omega)) hy (by omega))⟩), ho2, O⟩, ?_⟩
               rw [e19, mq]; simp only [intOf]; omega
         · skip
           obtain rfl : q = RL.length := by omega
           clear mq
           rw [List.take_length] at ho1

           have hPL : ∀ W, OwnT W0.heap.size W0 ((tBlk sb 28 #[.slice B N.length cap, .int .i64 200]) :: (tRow 125 2 (.slice B N.length cap) N.length (leafV vs N)) :: (tPool vs N) :: (tPs (.slice Br RL.length cr) RL) :: (tBlk ub 71 (rwA u)) :: []) W → Calls Try.prog 31 #[.iface 24 (.pointer (some ⟨sb, 0, none⟩)), .int .i64 rt] W fun e w' => ∃ (lv : Value) (gv : Int), e = .returned (.tuple #[lv, .int .i64 gv]) ∧ ((Q.all enOk = true ∧ gv = 0 ∧ ∃ B' c', lv = .slice B' Q.length c' ∧ OwnT W0.heap.size W0 (shT sb 200 B cap vs N (tEs (.slice B' Q.length c') Q :: tPs (.slice Br RL.length cr) RL :: (tBlk ub 71 (rwA u)) :: [])) w') ∨ (Q.all enOk = false ∧ gv = 3 ∧ lv = .slice none 0 0 ∧ OwnT W0.heap.size W0 ((tBlk sb 28 #[.slice B N.length cap, .int .i64 200]) :: (tRow 125 2 (.slice B N.length cap) N.length (leafV vs N)) :: (tPool vs N) :: (tPs (.slice Br RL.length cr) RL) :: (tBlk ub 71 (rwA u)) :: []) w')) := fun W O => by
            refine (mList (R := _ :: _ :: []) W O hT (by omega) (by omega)).mono ?_
            rintro e w' (⟨h1, B', c', rfl, h2⟩ | ⟨h1, rfl, h2⟩)
            · exact ⟨_, _, rfl, .inl ⟨h1, rfl, B', c', rfl, h2⟩⟩
            · exact ⟨_, _, rfl, .inr ⟨h1, rfl, rfl, h2⟩⟩
           refine wp_seq ?_
           refine wp_seq ?_
           refine wp_region_lit ?_
           have hE := Env.refl a142 [108, 109, 110, 111]
           refine sm 108 hE k e19 ?_
           intro a204 hE e108 kp
           refine sm 109 hE k e17 ?_
           intro a205 hE e109 kp
           replace e108 := kt kp e108
           refine sd 110 hE k (Z0i Try.underlying29 rfl e109) ?_
           intro a206 hE e110 kp
           replace e108 := kt kp e108
           refine sd 111 hE k (Z06 (Z0y rfl e108 e110) (decide_eq_false (by omega))) ?_
           intro a207 hE e111 kp
           refine wpList_nil ?_
           replace e10 := hE.g e10; replace e11 := hE.g e11; replace e12 := hE.g e12; replace e13 := hE.g e13; replace e17 := hE.g e17; replace e19 := hE.g e19
           replace k := k.env hE
           clear hE
           refine Z01 ?_
           refine Z07 e111 rfl ?_
           refine wp_exit ?_
           refine Z0z ?_
           refine Z0z ?_
           refine Z1g ?_
           refine Z01 (wp_seq ?_)
           refine wp_region_lit ?_
           have hE := Env.refl a207 [141, 142, 143, 144, 140, 145, 146, 20, 21]
           refine sm 141 hE k e10 ?_
           intro a208 hE e141 kp
           apply Z03 142 hE k rfl rfl rfl rfl
           case h =>
            simp [go_sem, ↓IntWalk.iteOmega, ev e141]
            with_reducible rfl
           intro a209 hE e142 kp
           refine sm 143 hE k e11 ?_
           intro a210 hE e143 kp
           replace e142 := kt kp e142
           apply Z0b 144 hE k rfl (by rfl) (by rfl) rfl
           case h =>
            simp [go_sem, ↓IntWalk.iteOmega, ev e142, ev e143]
            with_reducible exact ⟨rfl, rfl⟩
           case hc => exact hPL _ O
           rintro e w212 ⟨lv, gv, rfl, hLv⟩
           refine ⟨_, rfl, ?_⟩
           intro a211 hE e144 kp
           refine sd 140 hE k (Z02 rfl e144) ?_
           intro a213 hE e140 kp
           apply Z03 145 hE k rfl rfl rfl rfl
           case h =>
            simp [go_sem, ↓IntWalk.iteOmega, ev e140]
            with_reducible rfl
           intro a214 hE e145 kp
           replace e140 := kt kp e140
           apply Z03 146 hE k rfl rfl rfl rfl
           case h =>
            simp [go_sem, ↓IntWalk.iteOmega, ev e140]
            with_reducible rfl
           intro a215 hE e146 kp
           replace e145 := kt kp e145
           refine sd 20 hE k (Z00 rfl e145) ?_
           intro a216 hE e20 kp
           replace e146 := kt kp e146
           refine sd 21 hE k (Z00 rfl e146) ?_
           intro a217 hE e21 kp
           replace e20 := kt kp e20
           refine wpList_nil ?_
           replace e12 := hE.g e12; replace e13 := hE.g e13
           replace k := k.env hE
           clear hE e10 e11 e17 e19 e111
           refine Z01 ?_
           have hkey : Q.all enOk = true → RL = Q := fun h => by
            rw [← hRL]
            exact Z2h fun y hy => by
             have h3 : y.1 < 64 ∧ 1 ≤ y.2 ∧ y.2 ≤ 1023 := of_decide_eq_true (List.all_eq_true.1 h y hy)
             rw [decide_eq_true (Nat.zero_le _), decide_eq_true (by omega : y.1 ≤ 63)]; rfl

           rcases hLv with ⟨hall, rfl, Bl, cl, rfl, O⟩ | ⟨hall, rfl, rfl, O⟩
           · skip
             have hRQ := hkey hall
             have hodf : od = false := by
              cases od with
              | false => rfl
              | true =>
               obtain ⟨y, h1, h2⟩ := hod.1 rfl
               have h3 : y.1 < 64 ∧ 1 ≤ y.2 ∧ y.2 ≤ 1023 := of_decide_eq_true (List.all_eq_true.1 hall y h1)
               omega
             have ho2f : o2 = false := by
              cases o2 with
              | false => rfl
              | true =>
               rcases ho2 rfl with h | ⟨y, h1, h2⟩
               · rw [hodf] at h; cases h
               · rw [hRQ] at h1; rw [List.all_eq_true.1 hall y h1] at h2; cases h2
             subst ho2f
             have hrw : Rw Q u := by have h := (ho1 rfl).2.2; rw [hRQ] at h; exact h

             refine wp_seq ?_
             refine wp_seq ?_
             refine wp_region_lit ?_
             have hE := Env.refl a217 [147]
             refine sm 147 hE k e13 ?_
             intro a218 hE e147 kp
             refine wpList_nil ?_
             replace e12 := hE.g e12; replace e20 := hE.g e20; replace e21 := hE.g e21
             replace k := k.env hE
             clear hE e13
             refine Z01 ?_
             refine Z07 e147 rfl ?_
             refine wp_skip ?_
             refine Z01 (wp_seq ?_)
             refine wp_region_lit ?_
             have hE := Env.refl a218 [155, 156, 157, 158, 159, 160, 161, 6]
             refine sm 155 hE k e21 ?_
             intro a219 hE e155 kp
             refine sd 156 hE k (Z06 (Z12 rfl e155 rfl) (decide_eq_true (by omega))) ?_
             intro a220 hE e156 kp
             refine sd 157 hE k (Z02 rfl e156) ?_
             intro a221 hE e157 kp
             apply Z04 158 hE k rfl rfl rfl rfl rfl e157
             case h =>
              exact Z02 rfl (hE.g e20)
             intro a222 hE e158 kp
             replace e157 := kt kp e157
             apply Z04 159 hE k rfl rfl rfl rfl rfl e157
             case h =>
              exact x_loadB rfl (hE.g e12) (OwnT.blk O 5 rfl)
             intro a223 hE e159 kp
             replace e157 := kt kp e157; replace e158 := kt kp e158
             apply Z1r 160 hE k rfl (by rfl) (by rfl) rfl rfl e157
             case h =>
              simp [go_sem, ↓IntWalk.iteOmega, ev e158, ev e159]
              with_reducible exact ⟨rfl, rfl⟩
             case hc => exact msame Q u _ rfl (es_row (OwnT.get O 3 rfl)) hT.up hall hrw (by omega)
             rintro e w225 ⟨rfl, RE⟩
             replace O := OwnT.ext O RE
             refine ⟨_, rfl, ?_⟩
             intro a224 hE e160 kp
             replace e157 := kt kp e157
             refine sd 161 hE k (Z08 rfl e157 e160) ?_
             intro a226 hE e161 kp
             refine sd 6 hE k (Z00 rfl e161) ?_
             intro a227 hE e6 kp
             refine wpList_nil ?_
             replace k := k.env hE
             clear hE e12 e20 e21 e147
             refine Z01 ?_
             refine wp_ret ?_
             refine Z0h rfl k e6 ?_
             exact ⟨rfl, O.below⟩
           · skip
             have ho2t : o2 = true := by
              cases o2 with
              | true => rfl
              | false =>
               exfalso
               obtain ⟨h1, h2, -⟩ := ho1 rfl
               rw [Bool.eq_false_iff] at hall
               refine hall (List.all_eq_true.2 fun y hy => ?_)
               by_cases h63 : 63 < y.1
               · have := hod.2 ⟨y, hy, h63⟩
                 rw [h1] at this
                 cases this
               · exact h2 y (by rw [← hRL]; exact List.mem_filter.2 ⟨hy, by rw [decide_eq_true (Nat.zero_le _), decide_eq_true (by omega : y.1 ≤ 63)]; rfl⟩)
             subst ho2t

             refine wp_seq ?_
             refine wp_seq ?_
             refine wp_region_lit ?_
             have hE := Env.refl a217 [147]
             refine sm 147 hE k e13 ?_
             intro a228 hE e147 kp
             refine wpList_nil ?_
             replace e12 := hE.g e12; replace e20 := hE.g e20; replace e21 := hE.g e21
             replace k := k.env hE
             clear hE e13
             refine Z01 ?_
             refine Z0f e147 rfl ?_
             refine wp_seq ?_
             refine wp_region_lit ?_
             have hE := Env.refl a228 [148, 149, 150, 151, 152, 153, 154, 6]
             refine sm 148 hE k e21 ?_
             intro a229 hE e148 kp
             refine sd 149 hE k (Z06 (Z12 rfl e148 rfl) (decide_eq_true (by omega))) ?_
             intro a230 hE e149 kp
             refine sd 150 hE k (Z02 rfl e149) ?_
             intro a231 hE e150 kp
             apply Z04 151 hE k rfl rfl rfl rfl rfl e150
             case h =>
              exact Z02 rfl (hE.g e20)
             intro a232 hE e151 kp
             replace e150 := kt kp e150
             apply Z04 152 hE k rfl rfl rfl rfl rfl e150
             case h =>
              exact Z0i Try.underlying65 rfl e151
             intro a233 hE e152 kp
             replace e150 := kt kp e150
             apply Z04 153 hE k rfl rfl rfl rfl rfl e150
             case h =>
              exact Z06 (Z12 rfl e152 rfl) (decide_eq_true (by omega))
             intro a234 hE e153 kp
             replace e150 := kt kp e150
             refine sd 154 hE k (Z08 rfl e150 e153) ?_
             intro a235 hE e154 kp
             refine sd 6 hE k (Z00 rfl e154) ?_
             intro a236 hE e6 kp
             refine wpList_nil ?_
             replace k := k.env hE
             clear hE e12 e20 e21 e147
             refine Z01 ?_
             refine wp_ret ?_
             refine Z09 ?_
             refine Z0h rfl k e6 ?_
             exact ⟨rfl, O.below⟩
theorem mapsGood_walk (w : World) (v0 v1 v2 : Value) (h0 : Arg Try.prog w 65 v0) (h1 : Arg Try.prog w 3 v1) (h2 : Arg Try.prog w 29 v2) :
 Calls Try.prog 7 #[v0, v1, v2] w fun e w' => e = .returned (.bool true) ∧ Below w.heap.size w w' := by
 obtain ⟨A1, n1, c1, es, rfl, _, _, a3, -, a5⟩ := arg_ens h0
 obtain ⟨size, rfl, _⟩ := arg_int Try.underlying3 h1
 obtain ⟨A2, n2, c2, ps, rfl, _, _, b3, b4, b5⟩ := arg_prs h2
 exact Z6i es size ps w a3 b3 a5 b5 b4
section
open Go.ChangeShapes Go.WideShapes Go.ChangeAt
theorem Arg.mk_ {P : Program} {w : World} {t : TypeId} {v : Value} {H : Type} {enc : TypeId × Value → H} {d : DataW H} {p : List MemPlace} {r : Reach} {base : Nat} (h : DataW.Trod enc P w 0 (fun _ => true) true t v d p) (hv : Value.okWide P w r base t v) : Arg P w t v := by
  obtain ⟨fuel, hf⟩ := h
  exact ⟨⟨H, enc, fuel, _, hf⟩, r, base, hv⟩
end
end Go.Proofs.Ytngehbhhpkkijaa
