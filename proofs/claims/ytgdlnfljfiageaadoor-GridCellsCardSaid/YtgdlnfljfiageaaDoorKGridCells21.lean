/- grids: the reference's runes (printed by XGrR.gen.py). -/
import Derived.Test.YtgdlnfljfiageaaDoorKGridCells20
namespace Go.Proofs.YtgdlnfljfiageaaDoor
attribute [local simp] BigFrame.eval_const BigFrame.eval_global BigFrame.eval_func
set_option linter.unusedVariables false
set_option linter.unusedSimpArgs false
open Go.RowKit

section
variable {w : World} {o : Oper} {ρ : Operand → Value} {t u : TypeId} {x y : Operand}
theorem x_addR {m n : Int} (ho : o.op = .binOp .add t x y u) (hx : ρ x = .int .i32 m) (hy : ρ y = .int .i32 n) (h : -2147483648 ≤ m + n ∧ m + n ≤ 2147483647) : (execOp ρ o).run Tryd.prog w = .ok (.value (.int .i32 (m + n))) w :=
 Z2u ho hx hy (by simp [binOp, Op.intArith, IntWalk.i32_in _ h])
theorem x_mulR {m n : Int} (ho : o.op = .binOp .mul t x y u) (hx : ρ x = .int .i32 m) (hy : ρ y = .int .i32 n) (h : -2147483648 ≤ m * n ∧ m * n ≤ 2147483647) : (execOp ρ o).run Tryd.prog w = .ok (.value (.int .i32 (m * n))) w :=
 Z2u ho hx hy (by simp [binOp, Op.intArith, IntWalk.i32_in _ h])
theorem Z4c {a c : Int} (ho : o.op = .binOp .and t x y u) (hx : ρ x = .int .u8 a) (hy : ρ y = .int .u8 c) : (execOp ρ o).run Tryd.prog w = .ok (.value (.int .u8 (IntKind.u8.wrap ((BitVec.ofInt 8 a &&& BitVec.ofInt 8 c).toNat : Nat)))) w := by
 unfold execOp
 simp only [ho, hx, hy]
 have h0 : ¬ (IntKind.u8 ≠ IntKind.u8) := fun h => h rfl
 simp only [eqGuard, binOp, Op.intBits, if_neg h0, Sem.run_bind, Sem.run_pure, Result.andThen_ok]
 rfl
end
set_option maxRecDepth 100000 in
theorem and31 : ∀ b : _root_.Fin 256, IntKind.u8.wrap ((BitVec.ofInt 8 ((b.val : Nat) : Int) &&& BitVec.ofInt 8 31).toNat : Nat) = ((b.val % 32 : Nat) : Int) := by decide
set_option maxRecDepth 100000 in
theorem and15 : ∀ b : _root_.Fin 256, IntKind.u8.wrap ((BitVec.ofInt 8 ((b.val : Nat) : Int) &&& BitVec.ofInt 8 15).toNat : Nat) = ((b.val % 16 : Nat) : Int) := by decide
set_option maxRecDepth 100000 in
theorem and7G : ∀ b : _root_.Fin 256, IntKind.u8.wrap ((BitVec.ofInt 8 ((b.val : Nat) : Int) &&& BitVec.ofInt 8 7).toNat : Nat) = ((b.val % 8 : Nat) : Int) := by decide
set_option maxRecDepth 100000 in
theorem and63 : ∀ b : _root_.Fin 256, IntKind.u8.wrap ((BitVec.ofInt 8 ((b.val : Nat) : Int) &&& BitVec.ofInt 8 63).toNat : Nat) = ((b.val % 64 : Nat) : Int) := by decide
theorem Z2r (m : Nat) (w : World) (h : m ≤ 255) : (convert 5 21 (.int .u8 ((m : Nat) : Int))).run Tryd.prog w = .ok (.int .i32 ((m : Nat) : Int)) w := by
 simp [convert, run_underlying Tryd.underlying5, run_underlying Tryd.underlying21, Conv.intToInt, IntWalk.i32_in _ (show -2147483648 ≤ (m : Int) ∧ (m : Int) ≤ 2147483647 by omega)]
/-- What a lead byte says: how many bytes, its bits, the least rune. -/
def Lead (B n r0 low : Nat) : Prop := (n = 2 ∧ (194 ≤ B ∧ B < 224) ∧ r0 = B % 32 ∧ low = 128) ∨ (n = 3 ∧ (224 ≤ B ∧ B < 240) ∧ r0 = B % 16 ∧ low = 2048) ∨ (n = 4 ∧ (240 ≤ B ∧ B < 245) ∧ r0 = B % 8 ∧ low = 65536) ∨ (n = 0 ∧ (128 ≤ B ∧ B < 194 ∨ 245 ≤ B ∧ B < 256) ∧ r0 = 0 ∧ low = 0)
def racc (l : List UInt8) (r0 : Nat) : Nat → Nat
 | 0 => r0
 | k + 1 => racc l r0 k * 64 + (l.getD (k + 1) 0).toNat % 64
theorem racc_lt {l : List UInt8} {r0 : Nat} (h : r0 < 32) : ∀ k, k ≤ 3 → racc l r0 k < 8388608
 | 0, _ => by unfold racc; omega
 | 1, _ => by unfold racc racc; omega
 | 2, _ => by unfold racc racc racc; omega
 | 3, _ => by unfold racc racc racc racc; omega
 | k + 4, h => by omega
theorem lead_lt {B n r0 low : Nat} (h : Lead B n r0 low) : r0 < 32 ∧ n ≤ 4 := by unfold Lead at h; omega
section
variable {l : List UInt8} {B n r0 low : Nat}
theorem Z64 (h : Lead B n r0 low) (hB : (l.getD 0 0).toNat = B) (hn : n = 0) : dec l = (65533, 1) := by
 unfold dec
 rw [hB]
 exact Lib.decodeN_bad _ _ _ _ _ (by unfold Lead at h; omega)
set_option maxHeartbeats 4000000 in
theorem Z54 (h : Lead B n r0 low) (hB : (l.getD 0 0).toNat = B) (hn : l.length < n) : dec l = (65533, 1) := by
 unfold dec
 rw [hB]
 unfold Lead at h
 unfold Lib.decodeN
 repeat' split
 all_goals first | rfl | (exfalso; omega)
set_option maxHeartbeats 4000000 in
theorem Z4o (h : Lead B n r0 low) (hB : (l.getD 0 0).toNat = B) {z : Nat} (hz : 1 ≤ z ∧ z < n) (hb : (l.getD z 0).toNat < 128 ∨ 191 < (l.getD z 0).toNat) : dec l = (65533, 1) := by
 unfold dec
 rw [hB]
 unfold Lead at h
 have hz4 : z = 1 ∨ z = 2 ∨ z = 3 := by omega
 unfold Lib.decodeN
 rcases hz4 with rfl | rfl | rfl
 all_goals (repeat' split)
 all_goals first | rfl | (exfalso; omega)
set_option maxHeartbeats 4000000 in
theorem Z78 (h : Lead B n r0 low) (hB : (l.getD 0 0).toNat = B) (hn : n ≠ 0) (hlen : n ≤ l.length) (hc : ∀ z, 1 ≤ z → z < n → ¬ ((l.getD z 0).toNat < 128 ∨ 191 < (l.getD z 0).toNat)) :
 dec l = if racc l r0 (n - 1) < low ∨ 1114111 < racc l r0 (n - 1) ∨ (55296 ≤ racc l r0 (n - 1) ∧ racc l r0 (n - 1) ≤ 57343) then (65533, 1) else (racc l r0 (n - 1), n) := by
 have c1 := hc 1
 have c2 := hc 2
 have c3 := hc 3
 clear hc
 unfold Lead at h
 unfold dec
 rw [hB]
 rcases h with ⟨rfl, h1, rfl, rfl⟩ | ⟨rfl, h1, rfl, rfl⟩ | ⟨rfl, h1, rfl, rfl⟩ | ⟨rfl, _⟩
 · simp only [Nat.reduceSub, racc, Nat.zero_add]
   unfold Lib.decodeN
   repeat' split
   all_goals first | rfl | (exfalso; omega) | (apply Prod.ext <;> simp only <;> omega)
 · simp only [Nat.reduceSub, racc, Nat.zero_add, Nat.reduceAdd]
   unfold Lib.decodeN
   repeat' split
   all_goals first | rfl | (exfalso; omega) | (apply Prod.ext <;> simp only <;> omega)
 · simp only [Nat.reduceSub, racc, Nat.zero_add, Nat.reduceAdd]
   unfold Lib.decodeN
   repeat' split
   all_goals first | rfl | (exfalso; omega) | (apply Prod.ext <;> simp only <;> omega)
 · exact absurd rfl hn
end
theorem elemR32 : ElemI Tryd.prog 54 21 1 4 := ⟨Tryd.underlying54, by
 have h : (Tryd.prog.info? 21).map (fun i => (i.zero, i.size, i.bytes)) = some (some (.int .i32 0), 1, 4) := by kernel_rfl
 obtain ⟨i, h1, h2, h3, h4⟩ := info_parts h
 exact ⟨i, _, h1, h2, h3, h4, rfl⟩⟩
theorem elemIG : ElemI Tryd.prog 33 3 1 8 := ⟨Tryd.underlying33, by
 have h : (Tryd.prog.info? 3).map (fun i => (i.zero, i.size, i.bytes)) = some (some (.int .i64 0), 1, 8) := by kernel_rfl
 obtain ⟨i, h1, h2, h3, h4⟩ := info_parts h
 exact ⟨i, _, h1, h2, h3, h4, rfl⟩⟩
theorem OwnT.asRowG {g k : Nat} {T : TypeId} {H : Nat} {A w : World} {L : List Thing} (h : OwnT H A (tBlk g T #[] :: L) w) : OwnT H A (tRow T k (.slice (some ⟨g, 0, none⟩) 0 0) 0 [] :: L) w :=
 h.call (F := []) (Chg.refl [] w) (by simp) (tRow T k (.slice (some ⟨g, 0, none⟩) 0 0) 0 []) (row_of h.b0 (Nat.le_refl _) (by decide) (by simp) (by simp)) (fun i hi => .inl (by simpa [tRow, tBlk, Value.ownBlock] using hi))
def strLen : Value → Nat
 | .string s => s.size
 | _ => 0
def ruE (x : Nat × Nat) : Value := .int .i32 ((x.1 : Nat) : Int)
def szE (x : Nat × Nat) : Value := .int .i64 ((x.2 : Nat) : Int)
theorem ru_app (D : List (Nat × Nat)) (r d : Nat) : D.map ruE ++ [Value.int .i32 (r : Int)] = (D ++ [(r, d)]).map ruE := by simp [ruE]
theorem sz_app (D : List (Nat × Nat)) (r d : Nat) : D.map szE ++ [Value.int .i64 (d : Int)] = (D ++ [(r, d)]).map szE := by simp [szE]
theorem Z46 (D : List (Nat × Nat)) (r d : Nat) : D.length + 1 = (D ++ [(r, d)]).length := by simp
theorem Z1e {E : Type} {f : E → Value} {w0 : World} {A : Option Addr} {X : List E} (h : Row1 w0 A f X) {i : Nat} {x : E} (hx : X[i]? = some x) : ∃ b o, A = some ⟨b, o, none⟩ ∧ ∀ w', Below w0.heap.size w0 w' → ∀ j x, X[j]? = some x → w'.cell? ⟨b, o + j, none⟩ = some (f x) := by
 obtain ⟨b, o, e, _, _⟩ := h i x hx
 refine ⟨b, o, e, fun w' hb j x hx => ?_⟩
 obtain ⟨b', o', e', hlt, hc⟩ := h j x hx
 rw [e] at e'
 injection e' with e'
 injection e' with e1 e2
 subst e1 e2
 exact (hb.cell (p := ⟨b, _, none⟩) hlt).trans hc
theorem Z1r : ∀ (n : Nat) (l : List UInt8), l.length ≤ n → (runesL l).length ≤ l.length
 | 0, l, h => by
  obtain rfl : l = [] := List.eq_nil_of_length_eq_zero (by omega)
  exact Nat.le_refl _
 | n + 1, l, h => by
  by_cases e : l = []
  · subst e; exact Nat.le_refl _
  · have h1 := Z1k e
    have h2 := Z1r n (l.drop (dec l).2) (by rw [List.length_drop]; omega)
    rw [List.length_drop] at h2
    rw [Z18 e, List.length_cons]
    omega
theorem Z3e : ∀ (n : Nat) (l : List UInt8), l.length ≤ n → ∀ x ∈ runesL l, x.1 ≤ 1114111 ∧ 1 ≤ x.2 ∧ x.2 ≤ 4
 | 0, l, h, x, hx => by
  obtain rfl : l = [] := List.eq_nil_of_length_eq_zero (by omega)
  cases hx
 | n + 1, l, h, x, hx => by
  by_cases e : l = []
  · subst e; cases hx
  · have h1 := Z1k e
    have h2 := Z4t l
    rw [Z18 e] at hx
    rcases List.mem_cons.1 hx with rfl | hx
    · exact ⟨by omega, h1.1, h1.2.2⟩
    · exact Z3e n (l.drop (dec l).2) (by rw [List.length_drop]; omega) x hx

set_option maxRecDepth 100000 in
set_option maxHeartbeats 4000000 in
theorem Z51 (l : Tx) (W0 : World) (hne : l ≠ []) (hl : l.length ≤ 1000000) : Calls Tryd.prog 39 #[.string (sB l)] W0 fun e w' => e = .returned (.tuple #[.int .i32 ((dec l).1 : Nat), .int .i64 ((dec l).2 : Nat)]) ∧ Ext W0 w' := by
 have O := OwnT.start W0
 have hlen := List.length_pos_iff.2 hne
 obtain ⟨B, hB⟩ : ∃ z, (l.getD 0 0).toNat = z := ⟨_, rfl⟩
 have hB2 : B < 256 := by rw [← hB]; exact (l.getD 0 0).toNat_lt

 refine Z0m Tryd.func39 rfl 90 rfl (by rfl) ?_
 intro a1 k hargs
 have e0 : a1.eval (.tmp 0) = .string (sB l) := hargs 0 _ rfl
 clear hargs
 refine wp_seq ?_
 refine wp_region_lit ?_
 have hE := Env.refl a1 [2, 3]
 refine sd 2 hE k (Z03 rfl rfl) ?_
 intro a2 hE e2 kp
 refine sd 3 hE k (Z03 rfl rfl) ?_
 intro a3 hE e3 kp
 refine wpList_nil ?_
 replace e0 := hE.g e0
 replace k := k.env hE
 clear hE e3
 refine Z01 (wp_seq ?_)
 refine wp_region_lit ?_
 have hE := Env.refl a3 [9, 10, 4]
 refine zm 9 hE k e0 ?_
 intro a4 hE e9 kp
 refine sd 10 hE k (Z0x (l := l) (j := 0) Tryd.underlying9 rfl e9 rfl hlen) ?_
 intro a5 hE e10 kp
 replace e10 := e10.trans (Z0q (show ((l.getD 0 0).toNat : Int) = (B : Int) by rw [hB]))
 refine sd 4 hE k (Z03 rfl e10) ?_
 intro a6 hE e4 kp
 refine wpList_nil ?_
 replace e0 := hE.g e0
 replace k := k.env hE
 clear hE
 refine Z01 ?_
 by_cases hlow : B < 128
 · have hd : dec l = (B, 1) := by rw [← hB]; exact Z6g (by rw [hB]; exact hlow)
   refine wp_seq ?_
   refine wp_seq ?_
   refine wp_region_lit ?_
   have hE := Env.refl a6 [11, 12]
   refine zm 11 hE k e4 ?_
   intro a7 hE e11 kp
   refine sd 12 hE k (Z05 (Z0c rfl e11 rfl) (decide_eq_true (by omega))) ?_
   intro a8 hE e12 kp
   refine wpList_nil ?_
   replace e0 := hE.g e0; replace e4 := hE.g e4
   replace k := k.env hE
   clear hE
   refine Z01 ?_
   refine Z09 e12 rfl ?_
   refine wp_seq ?_
   refine wp_region_lit ?_
   have hE := Env.refl a8 [13, 14, 2, 3]
   refine zm 13 hE k e4 ?_
   intro a9 hE e13 kp
   refine sd 14 hE k (Z1m rfl e13 (Z2r B _ (by omega))) ?_
   intro a10 hE e14 kp
   refine sd 2 hE k (Z03 rfl e14) ?_
   intro a11 hE e2 kp
   refine sd 3 hE k (Z03 rfl rfl) ?_
   intro a12 hE e3 kp
   replace e2 := kt kp e2
   refine wpList_nil ?_
   replace k := k.env hE
   clear hE e0 e4 e12
   refine Z01 ?_
   refine wp_ret ?_
   refine Z0a ?_
   refine Z0t rfl k e2 e3 ?_
   exact ⟨by rw [hd]; rfl, O.below⟩
 · skip
   refine wp_seq ?_
   refine wp_seq ?_
   refine wp_region_lit ?_
   have hE := Env.refl a6 [11, 12]
   refine zm 11 hE k e4 ?_
   intro a13 hE e11 kp
   refine sd 12 hE k (Z05 (Z0c rfl e11 rfl) (decide_eq_false (by omega))) ?_
   intro a14 hE e12 kp
   refine wpList_nil ?_
   replace e0 := hE.g e0; replace e4 := hE.g e4
   replace k := k.env hE
   clear hE
   refine Z01 ?_
   refine Z0b e12 rfl ?_
   refine wp_skip ?_
   refine Z01 (wp_seq ?_)
   refine wp_region_lit ?_
   have hE := Env.refl a14 [5]
   refine sd 5 hE k (Z03 rfl rfl) ?_
   intro a15 hE e5 kp
   refine wpList_nil ?_
   replace e0 := hE.g e0; replace e4 := hE.g e4
   replace k := k.env hE
   clear hE e12
   refine Z01 (wp_seq ?_)
   refine wp_region_lit ?_
   have hE := Env.refl a15 [6]
   refine sd 6 hE k (Z03 rfl rfl) ?_
   intro a16 hE e6 kp
   refine wpList_nil ?_
   replace e0 := hE.g e0; replace e4 := hE.g e4; replace e5 := hE.g e5
   replace k := k.env hE
   clear hE
   refine Z01 (wp_seq ?_)
   refine wp_region_lit ?_
   have hE := Env.refl a16 [7]
   refine sd 7 hE k (Z03 rfl rfl) ?_
   intro a17 hE e7 kp
   refine wpList_nil ?_
   replace e0 := hE.g e0; replace e4 := hE.g e4; replace e5 := hE.g e5; replace e6 := hE.g e6
   replace k := k.env hE
   clear hE
   refine Z01 ?_
   refine Z5e (fun a w => Fr 90 a ∧ a.eval (.tmp 0) = .string (sB l) ∧ ∃ (n r0 low : Nat), a.eval (.tmp 5) = .int .i64 ↑n ∧ a.eval (.tmp 6) = .int .i32 ↑r0 ∧ a.eval (.tmp 7) = .int .i32 ↑low ∧ Lead B n r0 low ∧ OwnT W0.heap.size W0 [] w) ?_ ?_
   · skip
     by_cases g2 : 194 ≤ B ∧ B < 224
     · skip
       refine wp_seq ?_
       refine wp_region_lit ?_
       have hE := Env.refl a17 [15, 16, 17, 18, 19, 20]
       refine zm 15 hE k e4 ?_
       intro a18 hE e15 kp
       refine sd 16 hE k (Z05 (Z0j rfl e15 rfl) (decide_eq_true (by omega))) ?_
       intro a19 hE e16 kp
       refine sd 17 hE k (Z02 rfl e16) ?_
       intro a20 hE e17 kp
       apply Z00 18 hE k rfl rfl rfl rfl rfl e17
       case h =>
        exact Z02 rfl (hE.g e4)
       intro a21 hE e18 kp
       replace e17 := kt kp e17
       apply Z00 19 hE k rfl rfl rfl rfl rfl e17
       case h =>
        exact Z05 (Z0c rfl e18 rfl) (decide_eq_true (by omega))
       intro a22 hE e19 kp
       replace e17 := kt kp e17
       refine sd 20 hE k (Z07 rfl e17 e19) ?_
       intro a23 hE e20 kp
       refine wpList_nil ?_
       replace e0 := hE.g e0; replace e4 := hE.g e4; replace e5 := hE.g e5; replace e6 := hE.g e6; replace e7 := hE.g e7
       replace k := k.env hE
       clear hE
       refine Z01 ?_
       refine Z09 e20 rfl ?_
       refine wp_seq ?_
       refine wp_region_lit ?_
       have hE := Env.refl a23 [5]
       refine sd 5 hE k (Z03 rfl rfl) ?_
       intro a24 hE e5 kp
       refine wpList_nil ?_
       replace e0 := hE.g e0; replace e4 := hE.g e4
       replace k := k.env hE
       clear hE e6 e7 e20
       refine Z01 (wp_seq ?_)
       refine wp_region_lit ?_
       have hE := Env.refl a24 [21, 22, 23, 6]
       refine zm 21 hE k e4 ?_
       intro a25 hE e21 kp
       refine sd 22 hE k (Z23 (v := .int .u8 ↑(B % 32)) (Z4c rfl e21 rfl) (congrArg (Value.int .u8) (and31 ⟨B, hB2⟩))) ?_
       intro a26 hE e22 kp
       refine sd 23 hE k (Z1m rfl e22 (Z2r (B % 32) _ (by omega))) ?_
       intro a27 hE e23 kp
       refine sd 6 hE k (Z03 rfl e23) ?_
       intro a28 hE e6 kp
       refine wpList_nil ?_
       replace e0 := hE.g e0; replace e5 := hE.g e5
       replace k := k.env hE
       clear hE e4
       refine Z01 ?_
       refine wp_region_lit ?_
       have hE := Env.refl a28 [7]
       refine sd 7 hE k (Z03 rfl rfl) ?_
       intro a29 hE e7 kp
       refine wpList_nil ?_
       replace e0 := hE.g e0; replace e5 := hE.g e5; replace e6 := hE.g e6
       replace k := k.env hE
       clear hE
       refine Z01 ?_
       have hle : Lead B 2 (B % 32) 128 := by unfold Lead; omega
       exact ⟨k, e0, 2, (B % 32), 128, e5, e6, e7, hle, O⟩
     · by_cases g3 : 224 ≤ B ∧ B < 240
       · skip
         refine wp_seq ?_
         refine wp_region_lit ?_
         have hE := Env.refl a17 [15, 16, 17, 18, 19, 20]
         refine zm 15 hE k e4 ?_
         intro a30 hE e15 kp
         refine sd 16 hE k (Z05 (Z0j rfl e15 rfl) (decide_eq_true (by omega))) ?_
         intro a31 hE e16 kp
         refine sd 17 hE k (Z02 rfl e16) ?_
         intro a32 hE e17 kp
         apply Z00 18 hE k rfl rfl rfl rfl rfl e17
         case h =>
          exact Z02 rfl (hE.g e4)
         intro a33 hE e18 kp
         replace e17 := kt kp e17
         apply Z00 19 hE k rfl rfl rfl rfl rfl e17
         case h =>
          exact Z05 (Z0c rfl e18 rfl) (decide_eq_false (by omega))
         intro a34 hE e19 kp
         replace e17 := kt kp e17
         refine sd 20 hE k (Z07 rfl e17 e19) ?_
         intro a35 hE e20 kp
         refine wpList_nil ?_
         replace e0 := hE.g e0; replace e4 := hE.g e4; replace e5 := hE.g e5; replace e6 := hE.g e6; replace e7 := hE.g e7
         replace k := k.env hE
         clear hE
         refine Z01 ?_
         refine Z0b e20 rfl ?_
         refine wp_seq ?_
         refine wp_region_lit ?_
         have hE := Env.refl a35 [24, 25, 26, 27, 28, 29]
         refine zm 24 hE k e4 ?_
         intro a36 hE e24 kp
         refine sd 25 hE k (Z05 (Z0j rfl e24 rfl) (decide_eq_true (by omega))) ?_
         intro a37 hE e25 kp
         refine sd 26 hE k (Z02 rfl e25) ?_
         intro a38 hE e26 kp
         apply Z00 27 hE k rfl rfl rfl rfl rfl e26
         case h =>
          exact Z02 rfl (hE.g e4)
         intro a39 hE e27 kp
         replace e26 := kt kp e26
         apply Z00 28 hE k rfl rfl rfl rfl rfl e26
         case h =>
          exact Z05 (Z0c rfl e27 rfl) (decide_eq_true (by omega))
         intro a40 hE e28 kp
         replace e26 := kt kp e26
         refine sd 29 hE k (Z07 rfl e26 e28) ?_
         intro a41 hE e29 kp
         refine wpList_nil ?_
         replace e0 := hE.g e0; replace e4 := hE.g e4; replace e5 := hE.g e5; replace e6 := hE.g e6; replace e7 := hE.g e7
         replace k := k.env hE
         clear hE e20
         refine Z01 ?_
         refine Z09 e29 rfl ?_
         refine wp_seq ?_
         refine wp_region_lit ?_
         have hE := Env.refl a41 [5]
         refine sd 5 hE k (Z03 rfl rfl) ?_
         intro a42 hE e5 kp
         refine wpList_nil ?_
         replace e0 := hE.g e0; replace e4 := hE.g e4
         replace k := k.env hE
         clear hE e6 e7 e29
         refine Z01 (wp_seq ?_)
         refine wp_region_lit ?_
         have hE := Env.refl a42 [30, 31, 32, 6]
         refine zm 30 hE k e4 ?_
         intro a43 hE e30 kp
         refine sd 31 hE k (Z23 (v := .int .u8 ↑(B % 16)) (Z4c rfl e30 rfl) (congrArg (Value.int .u8) (and15 ⟨B, hB2⟩))) ?_
         intro a44 hE e31 kp
         refine sd 32 hE k (Z1m rfl e31 (Z2r (B % 16) _ (by omega))) ?_
         intro a45 hE e32 kp
         refine sd 6 hE k (Z03 rfl e32) ?_
         intro a46 hE e6 kp
         refine wpList_nil ?_
         replace e0 := hE.g e0; replace e5 := hE.g e5
         replace k := k.env hE
         clear hE e4
         refine Z01 ?_
         refine wp_region_lit ?_
         have hE := Env.refl a46 [7]
         refine sd 7 hE k (Z03 rfl rfl) ?_
         intro a47 hE e7 kp
         refine wpList_nil ?_
         replace e0 := hE.g e0; replace e5 := hE.g e5; replace e6 := hE.g e6
         replace k := k.env hE
         clear hE
         refine Z01 ?_
         have hle : Lead B 3 (B % 16) 2048 := by unfold Lead; omega
         exact ⟨k, e0, 3, (B % 16), 2048, e5, e6, e7, hle, O⟩
       · by_cases g4 : 240 ≤ B ∧ B < 245
         · skip
           refine wp_seq ?_
           refine wp_region_lit ?_
           have hE := Env.refl a17 [15, 16, 17, 18, 19, 20]
           refine zm 15 hE k e4 ?_
           intro a48 hE e15 kp
           refine sd 16 hE k (Z05 (Z0j rfl e15 rfl) (decide_eq_true (by omega))) ?_
           intro a49 hE e16 kp
           refine sd 17 hE k (Z02 rfl e16) ?_
           intro a50 hE e17 kp
           apply Z00 18 hE k rfl rfl rfl rfl rfl e17
           case h =>
            exact Z02 rfl (hE.g e4)
           intro a51 hE e18 kp
           replace e17 := kt kp e17
           apply Z00 19 hE k rfl rfl rfl rfl rfl e17
           case h =>
            exact Z05 (Z0c rfl e18 rfl) (decide_eq_false (by omega))
           intro a52 hE e19 kp
           replace e17 := kt kp e17
           refine sd 20 hE k (Z07 rfl e17 e19) ?_
           intro a53 hE e20 kp
           refine wpList_nil ?_
           replace e0 := hE.g e0; replace e4 := hE.g e4; replace e5 := hE.g e5; replace e6 := hE.g e6; replace e7 := hE.g e7
           replace k := k.env hE
           clear hE
           refine Z01 ?_
           refine Z0b e20 rfl ?_
           refine wp_seq ?_
           refine wp_region_lit ?_
           have hE := Env.refl a53 [24, 25, 26, 27, 28, 29]
           refine zm 24 hE k e4 ?_
           intro a54 hE e24 kp
           refine sd 25 hE k (Z05 (Z0j rfl e24 rfl) (decide_eq_true (by omega))) ?_
           intro a55 hE e25 kp
           refine sd 26 hE k (Z02 rfl e25) ?_
           intro a56 hE e26 kp
           apply Z00 27 hE k rfl rfl rfl rfl rfl e26
           case h =>
            exact Z02 rfl (hE.g e4)
           intro a57 hE e27 kp
           replace e26 := kt kp e26
           apply Z00 28 hE k rfl rfl rfl rfl rfl e26
           case h =>
            exact Z05 (Z0c rfl e27 rfl) (decide_eq_false (by omega))
           intro a58 hE e28 kp
           replace e26 := kt kp e26
           refine sd 29 hE k (Z07 rfl e26 e28) ?_
           intro a59 hE e29 kp
           refine wpList_nil ?_
           replace e0 := hE.g e0; replace e4 := hE.g e4; replace e5 := hE.g e5; replace e6 := hE.g e6; replace e7 := hE.g e7
           replace k := k.env hE
           clear hE e20
           refine Z01 ?_
           refine Z0b e29 rfl ?_
           refine wp_seq ?_
           refine wp_region_lit ?_
           have hE := Env.refl a59 [33, 34, 35, 36, 37, 38]
           refine zm 33 hE k e4 ?_
           intro a60 hE e33 kp
           refine sd 34 hE k (Z05 (Z0j rfl e33 rfl) (decide_eq_true (by omega))) ?_
           intro a61 hE e34 kp
           refine sd 35 hE k (Z02 rfl e34) ?_
           intro a62 hE e35 kp
           apply Z00 36 hE k rfl rfl rfl rfl rfl e35
           case h =>
            exact Z02 rfl (hE.g e4)
           intro a63 hE e36 kp
           replace e35 := kt kp e35
           apply Z00 37 hE k rfl rfl rfl rfl rfl e35
           case h =>
            exact Z05 (Z0c rfl e36 rfl) (decide_eq_true (by omega))
           intro a64 hE e37 kp
           replace e35 := kt kp e35
           refine sd 38 hE k (Z07 rfl e35 e37) ?_
           intro a65 hE e38 kp
           refine wpList_nil ?_
           replace e0 := hE.g e0; replace e4 := hE.g e4; replace e5 := hE.g e5; replace e6 := hE.g e6; replace e7 := hE.g e7
           replace k := k.env hE
           clear hE e29
           refine Z01 ?_
           refine Z09 e38 rfl ?_
           refine wp_seq ?_
           refine wp_region_lit ?_
           have hE := Env.refl a65 [5]
           refine sd 5 hE k (Z03 rfl rfl) ?_
           intro a66 hE e5 kp
           refine wpList_nil ?_
           replace e0 := hE.g e0; replace e4 := hE.g e4
           replace k := k.env hE
           clear hE e6 e7 e38
           refine Z01 (wp_seq ?_)
           refine wp_region_lit ?_
           have hE := Env.refl a66 [39, 40, 41, 6]
           refine zm 39 hE k e4 ?_
           intro a67 hE e39 kp
           refine sd 40 hE k (Z23 (v := .int .u8 ↑(B % 8)) (Z4c rfl e39 rfl) (congrArg (Value.int .u8) (and7G ⟨B, hB2⟩))) ?_
           intro a68 hE e40 kp
           refine sd 41 hE k (Z1m rfl e40 (Z2r (B % 8) _ (by omega))) ?_
           intro a69 hE e41 kp
           refine sd 6 hE k (Z03 rfl e41) ?_
           intro a70 hE e6 kp
           refine wpList_nil ?_
           replace e0 := hE.g e0; replace e5 := hE.g e5
           replace k := k.env hE
           clear hE e4
           refine Z01 ?_
           refine wp_region_lit ?_
           have hE := Env.refl a70 [7]
           refine sd 7 hE k (Z03 rfl rfl) ?_
           intro a71 hE e7 kp
           refine wpList_nil ?_
           replace e0 := hE.g e0; replace e5 := hE.g e5; replace e6 := hE.g e6
           replace k := k.env hE
           clear hE
           refine Z01 ?_
           have hle : Lead B 4 (B % 8) 65536 := by unfold Lead; omega
           exact ⟨k, e0, 4, (B % 8), 65536, e5, e6, e7, hle, O⟩
         · by_cases g5 : B < 194
           · skip
             refine wp_seq ?_
             refine wp_region_lit ?_
             have hE := Env.refl a17 [15, 16, 17, 18, 19, 20]
             refine zm 15 hE k e4 ?_
             intro a72 hE e15 kp
             refine sd 16 hE k (Z05 (Z0j rfl e15 rfl) (decide_eq_false (by omega))) ?_
             intro a73 hE e16 kp
             refine sd 17 hE k (Z02 rfl e16) ?_
             intro a74 hE e17 kp
             refine Z04 18 hE k rfl (by rfl) (by rfl) rfl rfl (.inl e17) ?_
             intro a75 hE e18 kp
             replace e17 := kt kp e17
             refine Z04 19 hE k rfl (by rfl) (by rfl) rfl rfl (.inl e17) ?_
             intro a76 hE e19 kp
             replace e17 := kt kp e17
             refine sd 20 hE k (Z06 rfl e17 rfl) ?_
             intro a77 hE e20 kp
             refine wpList_nil ?_
             replace e0 := hE.g e0; replace e4 := hE.g e4; replace e5 := hE.g e5; replace e6 := hE.g e6; replace e7 := hE.g e7
             replace k := k.env hE
             clear hE
             refine Z01 ?_
             refine Z0b e20 rfl ?_
             refine wp_seq ?_
             refine wp_region_lit ?_
             have hE := Env.refl a77 [24, 25, 26, 27, 28, 29]
             refine zm 24 hE k e4 ?_
             intro a78 hE e24 kp
             refine sd 25 hE k (Z05 (Z0j rfl e24 rfl) (decide_eq_false (by omega))) ?_
             intro a79 hE e25 kp
             refine sd 26 hE k (Z02 rfl e25) ?_
             intro a80 hE e26 kp
             refine Z04 27 hE k rfl (by rfl) (by rfl) rfl rfl (.inl e26) ?_
             intro a81 hE e27 kp
             replace e26 := kt kp e26
             refine Z04 28 hE k rfl (by rfl) (by rfl) rfl rfl (.inl e26) ?_
             intro a82 hE e28 kp
             replace e26 := kt kp e26
             refine sd 29 hE k (Z06 rfl e26 rfl) ?_
             intro a83 hE e29 kp
             refine wpList_nil ?_
             replace e0 := hE.g e0; replace e4 := hE.g e4; replace e5 := hE.g e5; replace e6 := hE.g e6; replace e7 := hE.g e7
             replace k := k.env hE
             clear hE e20
             refine Z01 ?_
             refine Z0b e29 rfl ?_
             refine wp_seq ?_
             refine wp_region_lit ?_
             have hE := Env.refl a83 [33, 34, 35, 36, 37, 38]
             refine zm 33 hE k e4 ?_
             intro a84 hE e33 kp
             refine sd 34 hE k (Z05 (Z0j rfl e33 rfl) (decide_eq_false (by omega))) ?_
             intro a85 hE e34 kp
             refine sd 35 hE k (Z02 rfl e34) ?_
             intro a86 hE e35 kp
             refine Z04 36 hE k rfl (by rfl) (by rfl) rfl rfl (.inl e35) ?_
             intro a87 hE e36 kp
             replace e35 := kt kp e35
             refine Z04 37 hE k rfl (by rfl) (by rfl) rfl rfl (.inl e35) ?_
             intro a88 hE e37 kp
             replace e35 := kt kp e35
             refine sd 38 hE k (Z06 rfl e35 rfl) ?_
             intro a89 hE e38 kp
             refine wpList_nil ?_
             replace e0 := hE.g e0; replace e4 := hE.g e4; replace e5 := hE.g e5; replace e6 := hE.g e6; replace e7 := hE.g e7
             replace k := k.env hE
             clear hE e29
             refine Z01 ?_
             refine Z0b e38 rfl ?_
             refine wp_skip ?_
             refine Z01 ?_
             have hle : Lead B 0 0 0 := by unfold Lead; omega
             exact ⟨k, e0, 0, 0, 0, e5, e6, e7, hle, O⟩
           · skip
             refine wp_seq ?_
             refine wp_region_lit ?_
             have hE := Env.refl a17 [15, 16, 17, 18, 19, 20]
             refine zm 15 hE k e4 ?_
             intro a90 hE e15 kp
             refine sd 16 hE k (Z05 (Z0j rfl e15 rfl) (decide_eq_true (by omega))) ?_
             intro a91 hE e16 kp
             refine sd 17 hE k (Z02 rfl e16) ?_
             intro a92 hE e17 kp
             apply Z00 18 hE k rfl rfl rfl rfl rfl e17
             case h =>
              exact Z02 rfl (hE.g e4)
             intro a93 hE e18 kp
             replace e17 := kt kp e17
             apply Z00 19 hE k rfl rfl rfl rfl rfl e17
             case h =>
              exact Z05 (Z0c rfl e18 rfl) (decide_eq_false (by omega))
             intro a94 hE e19 kp
             replace e17 := kt kp e17
             refine sd 20 hE k (Z07 rfl e17 e19) ?_
             intro a95 hE e20 kp
             refine wpList_nil ?_
             replace e0 := hE.g e0; replace e4 := hE.g e4; replace e5 := hE.g e5; replace e6 := hE.g e6; replace e7 := hE.g e7
             replace k := k.env hE
             clear hE
             refine Z01 ?_
             refine Z0b e20 rfl ?_
             refine wp_seq ?_
             refine wp_region_lit ?_
             have hE := Env.refl a95 [24, 25, 26, 27, 28, 29]
             refine zm 24 hE k e4 ?_
             intro a96 hE e24 kp
             refine sd 25 hE k (Z05 (Z0j rfl e24 rfl) (decide_eq_true (by omega))) ?_
             intro a97 hE e25 kp
             refine sd 26 hE k (Z02 rfl e25) ?_
             intro a98 hE e26 kp
             apply Z00 27 hE k rfl rfl rfl rfl rfl e26
             case h =>
              exact Z02 rfl (hE.g e4)
             intro a99 hE e27 kp
             replace e26 := kt kp e26
             apply Z00 28 hE k rfl rfl rfl rfl rfl e26
             case h =>
              exact Z05 (Z0c rfl e27 rfl) (decide_eq_false (by omega))
             intro a100 hE e28 kp
             replace e26 := kt kp e26
             refine sd 29 hE k (Z07 rfl e26 e28) ?_
             intro a101 hE e29 kp
             refine wpList_nil ?_
             replace e0 := hE.g e0; replace e4 := hE.g e4; replace e5 := hE.g e5; replace e6 := hE.g e6; replace e7 := hE.g e7
             replace k := k.env hE
             clear hE e20
             refine Z01 ?_
             refine Z0b e29 rfl ?_
             refine wp_seq ?_
             refine wp_region_lit ?_
             have hE := Env.refl a101 [33, 34, 35, 36, 37, 38]
             refine zm 33 hE k e4 ?_
             intro a102 hE e33 kp
             refine sd 34 hE k (Z05 (Z0j rfl e33 rfl) (decide_eq_true (by omega))) ?_
             intro a103 hE e34 kp
             refine sd 35 hE k (Z02 rfl e34) ?_
             intro a104 hE e35 kp
             apply Z00 36 hE k rfl rfl rfl rfl rfl e35
             case h =>
              exact Z02 rfl (hE.g e4)
             intro a105 hE e36 kp
             replace e35 := kt kp e35
             apply Z00 37 hE k rfl rfl rfl rfl rfl e35
             case h =>
              exact Z05 (Z0c rfl e36 rfl) (decide_eq_false (by omega))
             intro a106 hE e37 kp
             replace e35 := kt kp e35
             refine sd 38 hE k (Z07 rfl e35 e37) ?_
             intro a107 hE e38 kp
             refine wpList_nil ?_
             replace e0 := hE.g e0; replace e4 := hE.g e4; replace e5 := hE.g e5; replace e6 := hE.g e6; replace e7 := hE.g e7
             replace k := k.env hE
             clear hE e29
             refine Z01 ?_
             refine Z0b e38 rfl ?_
             refine wp_skip ?_
             refine Z01 ?_
             have hle : Lead B 0 0 0 := by unfold Lead; omega
             exact ⟨k, e0, 0, 0, 0, e5, e6, e7, hle, O⟩
   · clear k e0 e4 e5 e6 e7 O
     intro a108 w109 h_
     obtain ⟨k, e0, n, r0, low, e5, e6, e7, hle, O⟩ := h_
     obtain ⟨hr0, hn4⟩ := lead_lt hle
     by_cases hn0 : n = 0
     · skip
       refine wp_seq ?_
       refine wp_seq ?_
       refine wp_region_lit ?_
       have hE := Env.refl a108 [42, 43, 44, 45, 46, 47, 48, 49]
       refine zm 42 hE k e5 ?_
       intro a110 hE e42 kp
       refine sd 43 hE k (Z05 (Z0k rfl e42 rfl) (decide_eq_true (by omega))) ?_
       intro a111 hE e43 kp
       refine sd 44 hE k (Z02 rfl e43) ?_
       intro a112 hE e44 kp
       refine Z04 45 hE k rfl (by rfl) (by rfl) rfl rfl (.inl e44) ?_
       intro a113 hE e45 kp
       replace e44 := kt kp e44
       refine Z04 46 hE k rfl (by rfl) (by rfl) rfl rfl (.inl e44) ?_
       intro a114 hE e46 kp
       replace e44 := kt kp e44
       refine Z04 47 hE k rfl (by rfl) (by rfl) rfl rfl (.inl e44) ?_
       intro a115 hE e47 kp
       replace e44 := kt kp e44; replace e46 := kt kp e46
       refine Z04 48 hE k rfl (by rfl) (by rfl) rfl rfl (.inl e44) ?_
       intro a116 hE e48 kp
       replace e44 := kt kp e44
       refine sd 49 hE k (Z07 rfl e44 rfl) ?_
       intro a117 hE e49 kp
       refine wpList_nil ?_
       replace e0 := hE.g e0; replace e5 := hE.g e5; replace e6 := hE.g e6; replace e7 := hE.g e7
       replace k := k.env hE
       clear hE
       refine Z01 ?_
       refine Z09 e49 rfl ?_
       refine wp_seq ?_
       refine wp_region_lit ?_
       have hE := Env.refl a117 [2, 3]
       refine sd 2 hE k (Z03 rfl rfl) ?_
       intro a118 hE e2 kp
       refine sd 3 hE k (Z03 rfl rfl) ?_
       intro a119 hE e3 kp
       replace e2 := kt kp e2
       refine wpList_nil ?_
       replace k := k.env hE
       clear hE e0 e5 e6 e7 e49
       refine Z01 ?_
       refine wp_ret ?_
       refine Z0a ?_
       refine Z0t rfl k e2 e3 ?_
       exact ⟨by rw [Z64 hle hB hn0]; rfl, O.below⟩
     · by_cases hsh : l.length < n
       · skip
         refine wp_seq ?_
         refine wp_seq ?_
         refine wp_region_lit ?_
         have hE := Env.refl a108 [42, 43, 44, 45, 46, 47, 48, 49]
         refine zm 42 hE k e5 ?_
         intro a120 hE e42 kp
         refine sd 43 hE k (Z05 (Z0k rfl e42 rfl) (decide_eq_false (by omega))) ?_
         intro a121 hE e43 kp
         refine sd 44 hE k (Z02 rfl e43) ?_
         intro a122 hE e44 kp
         apply Z00 45 hE k rfl rfl rfl rfl rfl e44
         case h =>
          exact Z02 rfl (hE.g e0)
         intro a123 hE e45 kp
         replace e44 := kt kp e44
         apply Z00 46 hE k rfl rfl rfl rfl rfl e44
         case h =>
          exact Z0s Tryd.underlying9 rfl e45
         intro a124 hE e46 kp
         replace e44 := kt kp e44
         apply Z00 47 hE k rfl rfl rfl rfl rfl e44
         case h =>
          exact Z02 rfl (hE.g e5)
         intro a125 hE e47 kp
         replace e44 := kt kp e44; replace e46 := kt kp e46
         apply Z00 48 hE k rfl rfl rfl rfl rfl e44
         case h =>
          exact Z05 (Z0c rfl e46 e47) (decide_eq_true (by omega))
         intro a126 hE e48 kp
         replace e44 := kt kp e44
         refine sd 49 hE k (Z06 rfl e44 e48) ?_
         intro a127 hE e49 kp
         refine wpList_nil ?_
         replace e0 := hE.g e0; replace e5 := hE.g e5; replace e6 := hE.g e6; replace e7 := hE.g e7
         replace k := k.env hE
         clear hE
         refine Z01 ?_
         refine Z09 e49 rfl ?_
         refine wp_seq ?_
         refine wp_region_lit ?_
         have hE := Env.refl a127 [2, 3]
         refine sd 2 hE k (Z03 rfl rfl) ?_
         intro a128 hE e2 kp
         refine sd 3 hE k (Z03 rfl rfl) ?_
         intro a129 hE e3 kp
         replace e2 := kt kp e2
         refine wpList_nil ?_
         replace k := k.env hE
         clear hE e0 e5 e6 e7 e49
         refine Z01 ?_
         refine wp_ret ?_
         refine Z0a ?_
         refine Z0t rfl k e2 e3 ?_
         exact ⟨by rw [Z54 hle hB hsh]; rfl, O.below⟩
       · skip
         refine wp_seq ?_
         refine wp_seq ?_
         refine wp_region_lit ?_
         have hE := Env.refl a108 [42, 43, 44, 45, 46, 47, 48, 49]
         refine zm 42 hE k e5 ?_
         intro a130 hE e42 kp
         refine sd 43 hE k (Z05 (Z0k rfl e42 rfl) (decide_eq_false (by omega))) ?_
         intro a131 hE e43 kp
         refine sd 44 hE k (Z02 rfl e43) ?_
         intro a132 hE e44 kp
         apply Z00 45 hE k rfl rfl rfl rfl rfl e44
         case h =>
          exact Z02 rfl (hE.g e0)
         intro a133 hE e45 kp
         replace e44 := kt kp e44
         apply Z00 46 hE k rfl rfl rfl rfl rfl e44
         case h =>
          exact Z0s Tryd.underlying9 rfl e45
         intro a134 hE e46 kp
         replace e44 := kt kp e44
         apply Z00 47 hE k rfl rfl rfl rfl rfl e44
         case h =>
          exact Z02 rfl (hE.g e5)
         intro a135 hE e47 kp
         replace e44 := kt kp e44; replace e46 := kt kp e46
         apply Z00 48 hE k rfl rfl rfl rfl rfl e44
         case h =>
          exact Z05 (Z0c rfl e46 e47) (decide_eq_false (by omega))
         intro a136 hE e48 kp
         replace e44 := kt kp e44
         refine sd 49 hE k (Z06 rfl e44 e48) ?_
         intro a137 hE e49 kp
         refine wpList_nil ?_
         replace e0 := hE.g e0; replace e5 := hE.g e5; replace e6 := hE.g e6; replace e7 := hE.g e7
         replace k := k.env hE
         clear hE
         refine Z01 ?_
         refine Z0b e49 rfl ?_
         refine wp_skip ?_
         refine Z01 (wp_seq ?_)
         refine wp_seq ?_
         refine wp_region_lit ?_
         have hE := Env.refl a137 [8]
         refine sd 8 hE k (Z03 rfl rfl) ?_
         intro a138 hE e8 kp
         refine wpList_nil ?_
         replace e0 := hE.g e0; replace e5 := hE.g e5; replace e6 := hE.g e6; replace e7 := hE.g e7
         replace k := k.env hE
         clear hE e49
         refine Z01 ?_
         refine wp_block ?_
         refine wp_loop (fun a w => Fr 90 a ∧ a.eval (.tmp 0) = .string (sB l) ∧ a.eval (.tmp 5) = .int .i64 ↑n ∧ a.eval (.tmp 7) = .int .i32 ↑low ∧ ∃ (q : Nat), a.eval (.tmp 6) = .int .i32 (↑(racc l r0 q)) ∧ a.eval (.tmp 8) = .int .i64 (↑(q + 1)) ∧ q + 1 ≤ n ∧ (∀ z, 1 ≤ z → z < q + 1 → ¬ ((l.getD z 0).toNat < 128 ∨ 191 < (l.getD z 0).toNat)) ∧ OwnT W0.heap.size W0 [] w) (fun a w => n - (intOf (a.eval (.tmp 8))).toNat) ?_ ?_
         · exact ⟨k, e0, e5, e7, 0, e6, e8, by omega, (fun z h1 h2 => by omega), O⟩
         intro a139 w140 hI
         clear k e0 e5 e7
         obtain ⟨k, e0, e5, e7, h_⟩ := hI
         clear O e6 e8
         obtain ⟨q, e6, e8, hq, hcz, O⟩ := h_
         have mi := e8
         have hrq := racc_lt (l := l) hr0 q (by omega)

         by_cases hlt : q + 1 < n
         · have hql : q + 1 < l.length := by omega
           refine wp_seq ?_
           refine wp_seq ?_
           refine wp_region_lit ?_
           have hE := Env.refl a139 [50, 51, 52]
           refine zm 50 hE k e8 ?_
           intro a141 hE e50 kp
           refine zm 51 hE k e5 ?_
           intro a142 hE e51 kp
           replace e50 := kt kp e50
           refine sd 52 hE k (Z05 (Z0c rfl e50 e51) (decide_eq_true (by omega))) ?_
           intro a143 hE e52 kp
           refine wpList_nil ?_
           replace e0 := hE.g e0; replace e5 := hE.g e5; replace e6 := hE.g e6; replace e7 := hE.g e7; replace e8 := hE.g e8
           replace k := k.env hE
           clear hE
           refine Z01 ?_
           refine Z09 e52 rfl ?_
           refine wp_skip ?_
           refine Z01 (wp_seq ?_)
           refine wp_block ?_
           obtain ⟨Z, hZ⟩ : ∃ z, (l.getD (q + 1) 0).toNat = z := ⟨_, rfl⟩
           have hZ2 : Z < 256 := by rw [← hZ]; exact (l.getD (q + 1) 0).toNat_lt
           by_cases z1 : Z < 128
           · skip
             refine wp_seq ?_
             refine wp_seq ?_
             refine wp_region_lit ?_
             have hE := Env.refl a143 [55, 56, 57, 58, 59, 60, 61, 62, 63, 64]
             refine zm 55 hE k e0 ?_
             intro a144 hE e55 kp
             refine zm 56 hE k e8 ?_
             intro a145 hE e56 kp
             replace e55 := kt kp e55
             refine sd 57 hE k (Z0x (l := l) (j := q + 1) Tryd.underlying9 rfl e55 e56 hql) ?_
             intro a146 hE e57 kp
             replace e57 := e57.trans (Z0q (show ((l.getD (q + 1) 0).toNat : Int) = (Z : Int) by rw [hZ]))
             refine sd 58 hE k (Z05 (Z0c rfl e57 rfl) (decide_eq_true (by omega))) ?_
             intro a147 hE e58 kp
             refine sd 59 hE k (Z02 rfl e58) ?_
             intro a148 hE e59 kp
             refine Z04 60 hE k rfl (by rfl) (by rfl) rfl rfl (.inl e59) ?_
             intro a149 hE e60 kp
             replace e59 := kt kp e59
             refine Z04 61 hE k rfl (by rfl) (by rfl) rfl rfl (.inl e59) ?_
             intro a150 hE e61 kp
             replace e59 := kt kp e59; replace e60 := kt kp e60
             refine Z04 62 hE k rfl (by rfl) (by rfl) rfl rfl (.inl e59) ?_
             intro a151 hE e62 kp
             replace e59 := kt kp e59
             refine Z04 63 hE k rfl (by rfl) (by rfl) rfl rfl (.inl e59) ?_
             intro a152 hE e63 kp
             replace e59 := kt kp e59
             refine sd 64 hE k (Z07 rfl e59 rfl) ?_
             intro a153 hE e64 kp
             refine wpList_nil ?_
             replace e0 := hE.g e0; replace e5 := hE.g e5; replace e6 := hE.g e6; replace e7 := hE.g e7; replace e8 := hE.g e8
             replace k := k.env hE
             clear hE e52
             refine Z01 ?_
             refine Z09 e64 rfl ?_
             refine wp_seq ?_
             refine wp_region_lit ?_
             have hE := Env.refl a153 [2, 3]
             refine sd 2 hE k (Z03 rfl rfl) ?_
             intro a154 hE e2 kp
             refine sd 3 hE k (Z03 rfl rfl) ?_
             intro a155 hE e3 kp
             replace e2 := kt kp e2
             refine wpList_nil ?_
             replace k := k.env hE
             clear hE e0 e5 e6 e7 e8 e64
             refine Z01 ?_
             refine wp_ret ?_
             refine Z0a ?_
             refine Z0h ?_
             refine Z0a ?_
             refine Z0a ?_
             refine Z0h ?_
             refine Z0a ?_
             refine Z0t rfl k e2 e3 ?_
             exact ⟨by rw [Z4o hle hB (z := q + 1) (by omega) (by rw [hZ]; exact .inl z1)]; rfl, O.below⟩
           · by_cases z2 : 191 < Z
             · skip
               refine wp_seq ?_
               refine wp_seq ?_
               refine wp_region_lit ?_
               have hE := Env.refl a143 [55, 56, 57, 58, 59, 60, 61, 62, 63, 64]
               refine zm 55 hE k e0 ?_
               intro a156 hE e55 kp
               refine zm 56 hE k e8 ?_
               intro a157 hE e56 kp
               replace e55 := kt kp e55
               refine sd 57 hE k (Z0x (l := l) (j := q + 1) Tryd.underlying9 rfl e55 e56 hql) ?_
               intro a158 hE e57 kp
               replace e57 := e57.trans (Z0q (show ((l.getD (q + 1) 0).toNat : Int) = (Z : Int) by rw [hZ]))
               refine sd 58 hE k (Z05 (Z0c rfl e57 rfl) (decide_eq_false (by omega))) ?_
               intro a159 hE e58 kp
               refine sd 59 hE k (Z02 rfl e58) ?_
               intro a160 hE e59 kp
               apply Z00 60 hE k rfl rfl rfl rfl rfl e59
               case h =>
                exact Z02 rfl (hE.g e0)
               intro a161 hE e60 kp
               replace e59 := kt kp e59
               apply Z00 61 hE k rfl rfl rfl rfl rfl e59
               case h =>
                exact Z02 rfl (hE.g e8)
               intro a162 hE e61 kp
               replace e59 := kt kp e59; replace e60 := kt kp e60
               apply Z00 62 hE k rfl rfl rfl rfl rfl e59
               case h =>
                exact Z0x (l := l) (j := q + 1) Tryd.underlying9 rfl e60 e61 hql
               intro a163 hE e62 kp
               replace e59 := kt kp e59
               replace e62 := e62.trans (Z0q (show ((l.getD (q + 1) 0).toNat : Int) = (Z : Int) by rw [hZ]))
               apply Z00 63 hE k rfl rfl rfl rfl rfl e59
               case h =>
                exact Z05 (Z0w rfl e62 rfl) (decide_eq_true (by omega))
               intro a164 hE e63 kp
               replace e59 := kt kp e59
               refine sd 64 hE k (Z06 rfl e59 e63) ?_
               intro a165 hE e64 kp
               refine wpList_nil ?_
               replace e0 := hE.g e0; replace e5 := hE.g e5; replace e6 := hE.g e6; replace e7 := hE.g e7; replace e8 := hE.g e8
               replace k := k.env hE
               clear hE e52
               refine Z01 ?_
               refine Z09 e64 rfl ?_
               refine wp_seq ?_
               refine wp_region_lit ?_
               have hE := Env.refl a165 [2, 3]
               refine sd 2 hE k (Z03 rfl rfl) ?_
               intro a166 hE e2 kp
               refine sd 3 hE k (Z03 rfl rfl) ?_
               intro a167 hE e3 kp
               replace e2 := kt kp e2
               refine wpList_nil ?_
               replace k := k.env hE
               clear hE e0 e5 e6 e7 e8 e64
               refine Z01 ?_
               refine wp_ret ?_
               refine Z0a ?_
               refine Z0h ?_
               refine Z0a ?_
               refine Z0a ?_
               refine Z0h ?_
               refine Z0a ?_
               refine Z0t rfl k e2 e3 ?_
               exact ⟨by rw [Z4o hle hB (z := q + 1) (by omega) (by rw [hZ]; exact .inr z2)]; rfl, O.below⟩
             · skip
               refine wp_seq ?_
               refine wp_seq ?_
               refine wp_region_lit ?_
               have hE := Env.refl a143 [55, 56, 57, 58, 59, 60, 61, 62, 63, 64]
               refine zm 55 hE k e0 ?_
               intro a168 hE e55 kp
               refine zm 56 hE k e8 ?_
               intro a169 hE e56 kp
               replace e55 := kt kp e55
               refine sd 57 hE k (Z0x (l := l) (j := q + 1) Tryd.underlying9 rfl e55 e56 hql) ?_
               intro a170 hE e57 kp
               replace e57 := e57.trans (Z0q (show ((l.getD (q + 1) 0).toNat : Int) = (Z : Int) by rw [hZ]))
               refine sd 58 hE k (Z05 (Z0c rfl e57 rfl) (decide_eq_false (by omega))) ?_
               intro a171 hE e58 kp
               refine sd 59 hE k (Z02 rfl e58) ?_
               intro a172 hE e59 kp
               apply Z00 60 hE k rfl rfl rfl rfl rfl e59
               case h =>
                exact Z02 rfl (hE.g e0)
               intro a173 hE e60 kp
               replace e59 := kt kp e59
               apply Z00 61 hE k rfl rfl rfl rfl rfl e59
               case h =>
                exact Z02 rfl (hE.g e8)
               intro a174 hE e61 kp
               replace e59 := kt kp e59; replace e60 := kt kp e60
               apply Z00 62 hE k rfl rfl rfl rfl rfl e59
               case h =>
                exact Z0x (l := l) (j := q + 1) Tryd.underlying9 rfl e60 e61 hql
               intro a175 hE e62 kp
               replace e59 := kt kp e59
               replace e62 := e62.trans (Z0q (show ((l.getD (q + 1) 0).toNat : Int) = (Z : Int) by rw [hZ]))
               apply Z00 63 hE k rfl rfl rfl rfl rfl e59
               case h =>
                exact Z05 (Z0w rfl e62 rfl) (decide_eq_false (by omega))
               intro a176 hE e63 kp
               replace e59 := kt kp e59
               refine sd 64 hE k (Z06 rfl e59 e63) ?_
               intro a177 hE e64 kp
               refine wpList_nil ?_
               replace e0 := hE.g e0; replace e5 := hE.g e5; replace e6 := hE.g e6; replace e7 := hE.g e7; replace e8 := hE.g e8
               replace k := k.env hE
               clear hE e52
               refine Z01 ?_
               refine Z0b e64 rfl ?_
               refine wp_skip ?_
               refine Z01 ?_
               refine wp_region_lit ?_
               have hE := Env.refl a177 [65, 66, 67, 68, 69, 70, 71, 72, 6]
               refine sd 65 hE k (Z02 rfl e6) ?_
               intro a178 hE e65 kp
               replace e6 := kt kp e6
               refine sd 66 hE k (x_mulR rfl e65 rfl (by omega)) ?_
               intro a179 hE e66 kp
               replace e6 := kt kp e6
               refine zm 67 hE k e0 ?_
               intro a180 hE e67 kp
               replace e6 := kt kp e6; replace e66 := kt kp e66
               refine zm 68 hE k e8 ?_
               intro a181 hE e68 kp
               replace e6 := kt kp e6; replace e66 := kt kp e66; replace e67 := kt kp e67
               refine sd 69 hE k (Z0x (l := l) (j := q + 1) Tryd.underlying9 rfl e67 e68 hql) ?_
               intro a182 hE e69 kp
               replace e6 := kt kp e6; replace e66 := kt kp e66
               replace e69 := e69.trans (Z0q (show ((l.getD (q + 1) 0).toNat : Int) = (Z : Int) by rw [hZ]))
               refine sd 70 hE k (Z23 (v := .int .u8 ↑(Z % 64)) (Z4c rfl e69 rfl) (congrArg (Value.int .u8) (and63 ⟨Z, hZ2⟩))) ?_
               intro a183 hE e70 kp
               replace e6 := kt kp e6; replace e66 := kt kp e66
               refine sd 71 hE k (Z1m rfl e70 (Z2r (Z % 64) _ (by omega))) ?_
               intro a184 hE e71 kp
               replace e6 := kt kp e6; replace e66 := kt kp e66
               refine sd 72 hE k (x_addR rfl e66 e71 (by omega)) ?_
               intro a185 hE e72 kp
               replace e6 := kt kp e6
               replace e72 := e72.trans (Z0q (show (racc l r0 q : Int) * 64 + ((Z % 64 : Nat) : Int) = ((racc l r0 (q + 1) : Nat) : Int) by rw [← hZ]; simp only [racc]; omega))
               refine sd 6 hE k (Z03 rfl e72) ?_
               intro a186 hE e6 kp
               refine wpList_nil ?_
               replace e0 := hE.g e0; replace e5 := hE.g e5; replace e7 := hE.g e7; replace e8 := hE.g e8
               replace k := k.env hE
               clear hE e64
               refine Z0i ?_
               refine Z01 ?_
               refine wp_region_lit ?_
               have hE := Env.refl a186 [53, 54, 8]
               refine sd 53 hE k (Z02 rfl e8) ?_
               intro a187 hE e53 kp
               replace e8 := kt kp e8
               refine sd 54 hE k (Z0z rfl e53 rfl (by omega)) ?_
               intro a188 hE e54 kp
               replace e8 := kt kp e8
               replace e54 := e54.trans (Z0q (show ((q + 1 : Nat) : Int) + 1 = ((q + 1 + 1 : Nat) : Int) by omega))
               refine sd 8 hE k (Z03 rfl e54) ?_
               intro a189 hE e8 kp
               refine wpList_nil ?_
               replace e0 := hE.g e0; replace e5 := hE.g e5; replace e6 := hE.g e6; replace e7 := hE.g e7
               replace k := k.env hE
               clear hE
               refine Z01 ?_
               refine ⟨⟨k, e0, e5, e7, q + 1, e6, e8, by omega, (fun z h1 h2 => ?_), O⟩, ?_⟩
               · rcases Nat.lt_or_ge z (q + 1) with h | h
                 · exact hcz z h1 h
                 · obtain rfl : z = q + 1 := by omega
                   rw [hZ]; omega
               · rw [e8, mi]; simp only [intOf]; omega
         · have hqn : q = n - 1 := by omega
           have hend := Z78 hle hB hn0 (by omega) (fun z h1 h2 => hcz z h1 (by omega))
           rw [← hqn] at hend
           obtain ⟨r, hr⟩ : ∃ r, racc l r0 q = r := ⟨_, rfl⟩
           rw [hr] at hend e6 hrq
           refine wp_seq ?_
           refine wp_seq ?_
           refine wp_region_lit ?_
           have hE := Env.refl a139 [50, 51, 52]
           refine zm 50 hE k e8 ?_
           intro a190 hE e50 kp
           refine zm 51 hE k e5 ?_
           intro a191 hE e51 kp
           replace e50 := kt kp e50
           refine sd 52 hE k (Z05 (Z0c rfl e50 e51) (decide_eq_false (by omega))) ?_
           intro a192 hE e52 kp
           refine wpList_nil ?_
           replace e0 := hE.g e0; replace e5 := hE.g e5; replace e6 := hE.g e6; replace e7 := hE.g e7; replace e8 := hE.g e8
           replace k := k.env hE
           clear hE
           refine Z01 ?_
           refine Z0b e52 rfl ?_
           refine wp_exit ?_
           refine Z0f ?_
           refine Z0f ?_
           refine Z0l ?_
           refine Z01 ?_
           by_cases c1 : r < low
           · skip
             refine wp_seq ?_
             refine wp_seq ?_
             refine wp_region_lit ?_
             have hE := Env.refl a192 [73, 74, 75, 76, 77, 78, 79, 80, 81, 82, 83, 84, 85, 86, 87]
             refine zm 73 hE k e6 ?_
             intro a193 hE e73 kp
             refine zm 74 hE k e7 ?_
             intro a194 hE e74 kp
             replace e73 := kt kp e73
             refine sd 75 hE k (Z05 (Z0c rfl e73 e74) (decide_eq_true (by omega))) ?_
             intro a195 hE e75 kp
             refine sd 76 hE k (Z02 rfl e75) ?_
             intro a196 hE e76 kp
             refine Z04 77 hE k rfl (by rfl) (by rfl) rfl rfl (.inl e76) ?_
             intro a197 hE e77 kp
             replace e76 := kt kp e76
             refine Z04 78 hE k rfl (by rfl) (by rfl) rfl rfl (.inl e76) ?_
             intro a198 hE e78 kp
             replace e76 := kt kp e76
             refine sd 79 hE k (Z07 rfl e76 rfl) ?_
             intro a199 hE e79 kp
             refine sd 80 hE k (Z02 rfl e79) ?_
             intro a200 hE e80 kp
             refine Z04 81 hE k rfl (by rfl) (by rfl) rfl rfl (.inl e80) ?_
             intro a201 hE e81 kp
             replace e80 := kt kp e80
             refine Z04 82 hE k rfl (by rfl) (by rfl) rfl rfl (.inl e80) ?_
             intro a202 hE e82 kp
             replace e80 := kt kp e80
             refine Z04 83 hE k rfl (by rfl) (by rfl) rfl rfl (.inl e80) ?_
             intro a203 hE e83 kp
             replace e80 := kt kp e80
             refine Z04 84 hE k rfl (by rfl) (by rfl) rfl rfl (.inr e83) ?_
             intro a204 hE e84 kp
             replace e80 := kt kp e80; replace e83 := kt kp e83
             refine Z04 85 hE k rfl (by rfl) (by rfl) rfl rfl (.inr e83) ?_
             intro a205 hE e85 kp
             replace e80 := kt kp e80; replace e83 := kt kp e83
             refine Z04 86 hE k rfl (by rfl) (by rfl) rfl rfl (.inl e80) ?_
             intro a206 hE e86 kp
             replace e80 := kt kp e80
             refine sd 87 hE k (Z07 rfl e80 rfl) ?_
             intro a207 hE e87 kp
             refine wpList_nil ?_
             replace e5 := hE.g e5; replace e6 := hE.g e6
             replace k := k.env hE
             clear hE e0 e7 e8 e52
             refine Z01 ?_
             refine Z09 e87 rfl ?_
             refine wp_seq ?_
             refine wp_region_lit ?_
             have hE := Env.refl a207 [2, 3]
             refine sd 2 hE k (Z03 rfl rfl) ?_
             intro a208 hE e2 kp
             refine sd 3 hE k (Z03 rfl rfl) ?_
             intro a209 hE e3 kp
             replace e2 := kt kp e2
             refine wpList_nil ?_
             replace k := k.env hE
             clear hE e5 e6 e87
             refine Z01 ?_
             refine wp_ret ?_
             refine Z0a ?_
             refine Z0t rfl k e2 e3 ?_
             exact ⟨by rw [hend, if_pos (.inl c1)]; rfl, O.below⟩
           · by_cases c2 : 1114111 < r
             · skip
               refine wp_seq ?_
               refine wp_seq ?_
               refine wp_region_lit ?_
               have hE := Env.refl a192 [73, 74, 75, 76, 77, 78, 79, 80, 81, 82, 83, 84, 85, 86, 87]
               refine zm 73 hE k e6 ?_
               intro a210 hE e73 kp
               refine zm 74 hE k e7 ?_
               intro a211 hE e74 kp
               replace e73 := kt kp e73
               refine sd 75 hE k (Z05 (Z0c rfl e73 e74) (decide_eq_false (by omega))) ?_
               intro a212 hE e75 kp
               refine sd 76 hE k (Z02 rfl e75) ?_
               intro a213 hE e76 kp
               apply Z00 77 hE k rfl rfl rfl rfl rfl e76
               case h =>
                exact Z02 rfl (hE.g e6)
               intro a214 hE e77 kp
               replace e76 := kt kp e76
               apply Z00 78 hE k rfl rfl rfl rfl rfl e76
               case h =>
                exact Z05 (Z0w rfl e77 rfl) (decide_eq_true (by omega))
               intro a215 hE e78 kp
               replace e76 := kt kp e76
               refine sd 79 hE k (Z06 rfl e76 e78) ?_
               intro a216 hE e79 kp
               refine sd 80 hE k (Z02 rfl e79) ?_
               intro a217 hE e80 kp
               refine Z04 81 hE k rfl (by rfl) (by rfl) rfl rfl (.inl e80) ?_
               intro a218 hE e81 kp
               replace e80 := kt kp e80
               refine Z04 82 hE k rfl (by rfl) (by rfl) rfl rfl (.inl e80) ?_
               intro a219 hE e82 kp
               replace e80 := kt kp e80
               refine Z04 83 hE k rfl (by rfl) (by rfl) rfl rfl (.inl e80) ?_
               intro a220 hE e83 kp
               replace e80 := kt kp e80
               refine Z04 84 hE k rfl (by rfl) (by rfl) rfl rfl (.inr e83) ?_
               intro a221 hE e84 kp
               replace e80 := kt kp e80; replace e83 := kt kp e83
               refine Z04 85 hE k rfl (by rfl) (by rfl) rfl rfl (.inr e83) ?_
               intro a222 hE e85 kp
               replace e80 := kt kp e80; replace e83 := kt kp e83
               refine Z04 86 hE k rfl (by rfl) (by rfl) rfl rfl (.inl e80) ?_
               intro a223 hE e86 kp
               replace e80 := kt kp e80
               refine sd 87 hE k (Z07 rfl e80 rfl) ?_
               intro a224 hE e87 kp
               refine wpList_nil ?_
               replace e5 := hE.g e5; replace e6 := hE.g e6
               replace k := k.env hE
               clear hE e0 e7 e8 e52
               refine Z01 ?_
               refine Z09 e87 rfl ?_
               refine wp_seq ?_
               refine wp_region_lit ?_
               have hE := Env.refl a224 [2, 3]
               refine sd 2 hE k (Z03 rfl rfl) ?_
               intro a225 hE e2 kp
               refine sd 3 hE k (Z03 rfl rfl) ?_
               intro a226 hE e3 kp
               replace e2 := kt kp e2
               refine wpList_nil ?_
               replace k := k.env hE
               clear hE e5 e6 e87
               refine Z01 ?_
               refine wp_ret ?_
               refine Z0a ?_
               refine Z0t rfl k e2 e3 ?_
               exact ⟨by rw [hend, if_pos (.inr (.inl c2))]; rfl, O.below⟩
             · by_cases c3 : 55296 ≤ r
               · by_cases c4 : r ≤ 57343
                 · skip
                   refine wp_seq ?_
                   refine wp_seq ?_
                   refine wp_region_lit ?_
                   have hE := Env.refl a192 [73, 74, 75, 76, 77, 78, 79, 80, 81, 82, 83, 84, 85, 86, 87]
                   refine zm 73 hE k e6 ?_
                   intro a227 hE e73 kp
                   refine zm 74 hE k e7 ?_
                   intro a228 hE e74 kp
                   replace e73 := kt kp e73
                   refine sd 75 hE k (Z05 (Z0c rfl e73 e74) (decide_eq_false (by omega))) ?_
                   intro a229 hE e75 kp
                   refine sd 76 hE k (Z02 rfl e75) ?_
                   intro a230 hE e76 kp
                   apply Z00 77 hE k rfl rfl rfl rfl rfl e76
                   case h =>
                    exact Z02 rfl (hE.g e6)
                   intro a231 hE e77 kp
                   replace e76 := kt kp e76
                   apply Z00 78 hE k rfl rfl rfl rfl rfl e76
                   case h =>
                    exact Z05 (Z0w rfl e77 rfl) (decide_eq_false (by omega))
                   intro a232 hE e78 kp
                   replace e76 := kt kp e76
                   refine sd 79 hE k (Z06 rfl e76 e78) ?_
                   intro a233 hE e79 kp
                   refine sd 80 hE k (Z02 rfl e79) ?_
                   intro a234 hE e80 kp
                   apply Z00 81 hE k rfl rfl rfl rfl rfl e80
                   case h =>
                    exact Z02 rfl (hE.g e6)
                   intro a235 hE e81 kp
                   replace e80 := kt kp e80
                   apply Z00 82 hE k rfl rfl rfl rfl rfl e80
                   case h =>
                    exact Z05 (Z0j rfl e81 rfl) (decide_eq_true (by omega))
                   intro a236 hE e82 kp
                   replace e80 := kt kp e80
                   apply Z00 83 hE k rfl rfl rfl rfl rfl e80
                   case h =>
                    exact Z02 rfl e82
                   intro a237 hE e83 kp
                   replace e80 := kt kp e80
                   apply Z00 84 hE k rfl rfl rfl rfl rfl e83
                   case h =>
                    exact Z02 rfl (hE.g e6)
                   intro a238 hE e84 kp
                   replace e80 := kt kp e80; replace e83 := kt kp e83
                   apply Z00 85 hE k rfl rfl rfl rfl rfl e83
                   case h =>
                    exact Z05 (Z0y rfl e84 rfl) (decide_eq_true (by omega))
                   intro a239 hE e85 kp
                   replace e80 := kt kp e80; replace e83 := kt kp e83
                   apply Z00 86 hE k rfl rfl rfl rfl rfl e80
                   case h =>
                    exact Z07 rfl e83 e85
                   intro a240 hE e86 kp
                   replace e80 := kt kp e80
                   refine sd 87 hE k (Z06 rfl e80 e86) ?_
                   intro a241 hE e87 kp
                   refine wpList_nil ?_
                   replace e5 := hE.g e5; replace e6 := hE.g e6
                   replace k := k.env hE
                   clear hE e0 e7 e8 e52
                   refine Z01 ?_
                   refine Z09 e87 rfl ?_
                   refine wp_seq ?_
                   refine wp_region_lit ?_
                   have hE := Env.refl a241 [2, 3]
                   refine sd 2 hE k (Z03 rfl rfl) ?_
                   intro a242 hE e2 kp
                   refine sd 3 hE k (Z03 rfl rfl) ?_
                   intro a243 hE e3 kp
                   replace e2 := kt kp e2
                   refine wpList_nil ?_
                   replace k := k.env hE
                   clear hE e5 e6 e87
                   refine Z01 ?_
                   refine wp_ret ?_
                   refine Z0a ?_
                   refine Z0t rfl k e2 e3 ?_
                   exact ⟨by rw [hend, if_pos (.inr (.inr ⟨c3, c4⟩))]; rfl, O.below⟩
                 · skip
                   refine wp_seq ?_
                   refine wp_seq ?_
                   refine wp_region_lit ?_
                   have hE := Env.refl a192 [73, 74, 75, 76, 77, 78, 79, 80, 81, 82, 83, 84, 85, 86, 87]
                   refine zm 73 hE k e6 ?_
                   intro a244 hE e73 kp
                   refine zm 74 hE k e7 ?_
                   intro a245 hE e74 kp
                   replace e73 := kt kp e73
                   refine sd 75 hE k (Z05 (Z0c rfl e73 e74) (decide_eq_false (by omega))) ?_
                   intro a246 hE e75 kp
                   refine sd 76 hE k (Z02 rfl e75) ?_
                   intro a247 hE e76 kp
                   apply Z00 77 hE k rfl rfl rfl rfl rfl e76
                   case h =>
                    exact Z02 rfl (hE.g e6)
                   intro a248 hE e77 kp
                   replace e76 := kt kp e76
                   apply Z00 78 hE k rfl rfl rfl rfl rfl e76
                   case h =>
                    exact Z05 (Z0w rfl e77 rfl) (decide_eq_false (by omega))
                   intro a249 hE e78 kp
                   replace e76 := kt kp e76
                   refine sd 79 hE k (Z06 rfl e76 e78) ?_
                   intro a250 hE e79 kp
                   refine sd 80 hE k (Z02 rfl e79) ?_
                   intro a251 hE e80 kp
                   apply Z00 81 hE k rfl rfl rfl rfl rfl e80
                   case h =>
                    exact Z02 rfl (hE.g e6)
                   intro a252 hE e81 kp
                   replace e80 := kt kp e80
                   apply Z00 82 hE k rfl rfl rfl rfl rfl e80
                   case h =>
                    exact Z05 (Z0j rfl e81 rfl) (decide_eq_true (by omega))
                   intro a253 hE e82 kp
                   replace e80 := kt kp e80
                   apply Z00 83 hE k rfl rfl rfl rfl rfl e80
                   case h =>
                    exact Z02 rfl e82
                   intro a254 hE e83 kp
                   replace e80 := kt kp e80
                   apply Z00 84 hE k rfl rfl rfl rfl rfl e83
                   case h =>
                    exact Z02 rfl (hE.g e6)
                   intro a255 hE e84 kp
                   replace e80 := kt kp e80; replace e83 := kt kp e83
                   apply Z00 85 hE k rfl rfl rfl rfl rfl e83
                   case h =>
                    exact Z05 (Z0y rfl e84 rfl) (decide_eq_false (by omega))
                   intro a256 hE e85 kp
                   replace e80 := kt kp e80; replace e83 := kt kp e83
                   apply Z00 86 hE k rfl rfl rfl rfl rfl e80
                   case h =>
                    exact Z07 rfl e83 e85
                   intro a257 hE e86 kp
                   replace e80 := kt kp e80
                   refine sd 87 hE k (Z06 rfl e80 e86) ?_
                   intro a258 hE e87 kp
                   refine wpList_nil ?_
                   replace e5 := hE.g e5; replace e6 := hE.g e6
                   replace k := k.env hE
                   clear hE e0 e7 e8 e52
                   refine Z01 ?_
                   refine Z0b e87 rfl ?_
                   refine wp_skip ?_
                   refine Z01 (wp_seq ?_)
                   refine wp_region_lit ?_
                   have hE := Env.refl a258 [88, 89, 2, 3]
                   refine zm 88 hE k e6 ?_
                   intro a259 hE e88 kp
                   refine zm 89 hE k e5 ?_
                   intro a260 hE e89 kp
                   replace e88 := kt kp e88
                   refine sd 2 hE k (Z03 rfl e88) ?_
                   intro a261 hE e2 kp
                   replace e89 := kt kp e89
                   refine sd 3 hE k (Z03 rfl e89) ?_
                   intro a262 hE e3 kp
                   replace e2 := kt kp e2
                   refine wpList_nil ?_
                   replace k := k.env hE
                   clear hE e5 e6 e87
                   refine Z01 ?_
                   refine wp_ret ?_
                   refine Z0t rfl k e2 e3 ?_
                   exact ⟨by rw [hend, if_neg (by omega)], O.below⟩
               · skip
                 refine wp_seq ?_
                 refine wp_seq ?_
                 refine wp_region_lit ?_
                 have hE := Env.refl a192 [73, 74, 75, 76, 77, 78, 79, 80, 81, 82, 83, 84, 85, 86, 87]
                 refine zm 73 hE k e6 ?_
                 intro a263 hE e73 kp
                 refine zm 74 hE k e7 ?_
                 intro a264 hE e74 kp
                 replace e73 := kt kp e73
                 refine sd 75 hE k (Z05 (Z0c rfl e73 e74) (decide_eq_false (by omega))) ?_
                 intro a265 hE e75 kp
                 refine sd 76 hE k (Z02 rfl e75) ?_
                 intro a266 hE e76 kp
                 apply Z00 77 hE k rfl rfl rfl rfl rfl e76
                 case h =>
                  exact Z02 rfl (hE.g e6)
                 intro a267 hE e77 kp
                 replace e76 := kt kp e76
                 apply Z00 78 hE k rfl rfl rfl rfl rfl e76
                 case h =>
                  exact Z05 (Z0w rfl e77 rfl) (decide_eq_false (by omega))
                 intro a268 hE e78 kp
                 replace e76 := kt kp e76
                 refine sd 79 hE k (Z06 rfl e76 e78) ?_
                 intro a269 hE e79 kp
                 refine sd 80 hE k (Z02 rfl e79) ?_
                 intro a270 hE e80 kp
                 apply Z00 81 hE k rfl rfl rfl rfl rfl e80
                 case h =>
                  exact Z02 rfl (hE.g e6)
                 intro a271 hE e81 kp
                 replace e80 := kt kp e80
                 apply Z00 82 hE k rfl rfl rfl rfl rfl e80
                 case h =>
                  exact Z05 (Z0j rfl e81 rfl) (decide_eq_false (by omega))
                 intro a272 hE e82 kp
                 replace e80 := kt kp e80
                 apply Z00 83 hE k rfl rfl rfl rfl rfl e80
                 case h =>
                  exact Z02 rfl e82
                 intro a273 hE e83 kp
                 replace e80 := kt kp e80
                 refine Z04 84 hE k rfl (by rfl) (by rfl) rfl rfl (.inl e83) ?_
                 intro a274 hE e84 kp
                 replace e80 := kt kp e80; replace e83 := kt kp e83
                 refine Z04 85 hE k rfl (by rfl) (by rfl) rfl rfl (.inl e83) ?_
                 intro a275 hE e85 kp
                 replace e80 := kt kp e80; replace e83 := kt kp e83
                 apply Z00 86 hE k rfl rfl rfl rfl rfl e80
                 case h =>
                  exact Z06 rfl e83 rfl
                 intro a276 hE e86 kp
                 replace e80 := kt kp e80
                 refine sd 87 hE k (Z06 rfl e80 e86) ?_
                 intro a277 hE e87 kp
                 refine wpList_nil ?_
                 replace e5 := hE.g e5; replace e6 := hE.g e6
                 replace k := k.env hE
                 clear hE e0 e7 e8 e52
                 refine Z01 ?_
                 refine Z0b e87 rfl ?_
                 refine wp_skip ?_
                 refine Z01 (wp_seq ?_)
                 refine wp_region_lit ?_
                 have hE := Env.refl a277 [88, 89, 2, 3]
                 refine zm 88 hE k e6 ?_
                 intro a278 hE e88 kp
                 refine zm 89 hE k e5 ?_
                 intro a279 hE e89 kp
                 replace e88 := kt kp e88
                 refine sd 2 hE k (Z03 rfl e88) ?_
                 intro a280 hE e2 kp
                 replace e89 := kt kp e89
                 refine sd 3 hE k (Z03 rfl e89) ?_
                 intro a281 hE e3 kp
                 replace e2 := kt kp e2
                 refine wpList_nil ?_
                 replace k := k.env hE
                 clear hE e5 e6 e87
                 refine Z01 ?_
                 refine wp_ret ?_
                 refine Z0t rfl k e2 e3 ?_
                 exact ⟨by rw [hend, if_neg (by omega)], O.below⟩
set_option maxRecDepth 100000 in
set_option maxHeartbeats 4000000 in
theorem Z32 (l : Tx) (W0 : World) (hl : l.length ≤ 100000) : Calls Tryd.prog 23 #[.string (sB l)] W0 fun e w' => ∃ B1 c1 B2 c2, e = .returned (.tuple #[.slice B1 (runesL l).length c1, .slice B2 (runesL l).length c2]) ∧ Row1 w' B1 ruE (runesL l) ∧ Row1 w' B2 szE (runesL l) ∧ Ext W0 w' := by
 have O := OwnT.start W0
 have hrl := Z1r l.length l (Nat.le_refl _)
 refine Z0m Tryd.func23 rfl 31 rfl (by rfl) ?_
 intro a1 k hargs
 have e0 : a1.eval (.tmp 0) = .string (sB l) := hargs 0 _ rfl
 clear hargs
 refine wp_seq ?_
 refine wp_region_lit ?_
 have hE := Env.refl a1 [2, 3]
 refine sd 2 hE k (Z03 rfl rfl) ?_
 intro a2 hE e2 kp
 refine sd 3 hE k (Z03 rfl rfl) ?_
 intro a3 hE e3 kp
 refine wpList_nil ?_
 replace e0 := hE.g e0
 replace k := k.env hE
 clear hE e3
 refine Z01 (wp_seq ?_)
 refine wp_region_lit ?_
 have hE := Env.refl a3 [8, 4]
 refine Z1a (m := 0) (c := 0) O (cs := #[]) (t := 21) 8 hE k rfl (by rfl) (by rfl) rfl (by simp [go_sem, ↓IntWalk.iteOmega]) ?_
 clear O
 intro g1 a4 w5 O hE e8 kp
 refine sd 4 hE k (Z03 rfl e8) ?_
 intro a6 hE e4 kp
 refine wpList_nil ?_
 replace e0 := hE.g e0
 replace k := k.env hE
 clear hE
 refine Z01 ?_
 replace O := OwnT.asRowG (k := 1) O
 replace O : OwnT _ _ ([tRow 21 1 (.slice (some ⟨g1, 0, none⟩) (([] : List (Nat × Nat))).length 0) (([] : List (Nat × Nat))).length ((([] : List (Nat × Nat))).map ruE)]) w5 := O
 refine wp_seq ?_
 refine wp_region_lit ?_
 have hE := Env.refl a6 [9, 5]
 refine Z1a (m := 0) (c := 0) O (cs := #[]) (t := 3) 9 hE k rfl (by rfl) (by rfl) rfl (by simp [go_sem, ↓IntWalk.iteOmega]) ?_
 clear O
 intro g2 a7 w8 O hE e9 kp
 refine sd 5 hE k (Z03 rfl e9) ?_
 intro a9 hE e5 kp
 refine wpList_nil ?_
 replace e0 := hE.g e0; replace e4 := hE.g e4
 replace k := k.env hE
 clear hE
 refine Z01 (wp_seq ?_)
 refine wp_block ?_
 replace O := OwnT.asRowG (k := 1) O
 replace O : OwnT _ _ ([tRow 3 1 (.slice (some ⟨g2, 0, none⟩) (([] : List (Nat × Nat))).length 0) (([] : List (Nat × Nat))).length ((([] : List (Nat × Nat))).map szE), tRow 21 1 (.slice (some ⟨g1, 0, none⟩) (([] : List (Nat × Nat))).length 0) (([] : List (Nat × Nat))).length ((([] : List (Nat × Nat))).map ruE)]) w8 := O
 replace O : OwnT _ _ ([tRow 21 1 (.slice (some ⟨g1, 0, none⟩) (([] : List (Nat × Nat))).length 0) (([] : List (Nat × Nat))).length ((([] : List (Nat × Nat))).map ruE), tRow 3 1 (.slice (some ⟨g2, 0, none⟩) (([] : List (Nat × Nat))).length 0) (([] : List (Nat × Nat))).length ((([] : List (Nat × Nat))).map szE)]) w8 := OwnT.pick O [1, 0] (by decide)
 refine wp_loop (fun a w => Fr 31 a ∧ ∃ (pos : Nat) (D : List (Nat × Nat)) (B1 : Option Addr) (c1 : Nat) (B2 : Option Addr) (c2 : Nat), a.eval (.tmp 0) = .string (sB (l.drop pos)) ∧ a.eval (.tmp 4) = .slice B1 D.length c1 ∧ a.eval (.tmp 5) = .slice B2 D.length c2 ∧ runesL l = D ++ runesL (l.drop pos) ∧ pos ≤ l.length ∧ OwnT W0.heap.size W0 [tRow 21 1 (.slice B1 D.length c1) D.length (D.map ruE), tRow 3 1 (.slice B2 D.length c2) D.length (D.map szE)] w) (fun a w => strLen (a.eval (.tmp 0))) ?_ ?_
 · exact ⟨k, 0, [], some ⟨g1, 0, none⟩, 0, some ⟨g2, 0, none⟩, 0, e0, e4, e5, rfl, Nat.zero_le _, O⟩
 intro a10 w11 hI
 clear k 
 obtain ⟨k, h_⟩ := hI
 clear O e0 e4 e5
 obtain ⟨pos, D, B1, c1, B2, c2, e0, e4, e5, hD, hpos, O⟩ := h_
 have mi := e0
 have hDl := congrArg List.length hD
 rw [List.length_append] at hDl
 have hdl : (l.drop pos).length = l.length - pos := List.length_drop

 by_cases hlt : pos < l.length
 · have hne : l.drop pos ≠ [] := by rw [Ne, List.drop_eq_nil_iff]; omega
   obtain ⟨r, d, hd⟩ : ∃ r d, dec (l.drop pos) = (r, d) := ⟨_, _, rfl⟩
   obtain ⟨hd1, hd2, hr⟩ := Z6f hlt hd
   have hra := Z3f hlt hd

   refine wp_seq ?_
   refine wp_seq ?_
   refine wp_region_lit ?_
   have hE := Env.refl a10 [10, 11, 12]
   refine zm 10 hE k e0 ?_
   intro a12 hE e10 kp
   refine sd 11 hE k (Z0s Tryd.underlying9 rfl e10) ?_
   intro a13 hE e11 kp
   refine sd 12 hE k (Z05 (Z0w rfl e11 rfl) (decide_eq_true (by omega))) ?_
   intro a14 hE e12 kp
   refine wpList_nil ?_
   replace e0 := hE.g e0; replace e4 := hE.g e4; replace e5 := hE.g e5
   replace k := k.env hE
   clear hE
   refine Z01 ?_
   refine Z09 e12 rfl ?_
   refine wp_skip ?_
   refine Z01 ?_
   refine wp_block ?_
   refine wp_seq ?_
   refine wp_region_lit ?_
   have hE := Env.refl a14 [14, 15, 13, 16, 17, 6, 7]
   refine zm 14 hE k e0 ?_
   intro a15 hE e14 kp
   apply Z0d 15 hE k rfl (by rfl) (by rfl) rfl
   case h =>
    simp [go_sem, ↓IntWalk.iteOmega, ev e14]
    with_reducible exact ⟨rfl, rfl⟩
   case hc => exact Z51 (l.drop pos) _ hne (by omega)
   rintro e w17 ⟨he, RE⟩
   replace O := OwnT.ext O RE
   refine ⟨_, he.trans (by rw [hd]), ?_⟩
   intro a16 hE e15 kp
   refine sd 13 hE k (Z02 rfl e15) ?_
   intro a18 hE e13 kp
   apply Z08 16 hE k rfl rfl rfl rfl
   case h =>
    simp [go_sem, ↓IntWalk.iteOmega, ev e13]
    with_reducible rfl
   intro a19 hE e16 kp
   replace e13 := kt kp e13
   apply Z08 17 hE k rfl rfl rfl rfl
   case h =>
    simp [go_sem, ↓IntWalk.iteOmega, ev e13]
    with_reducible rfl
   intro a20 hE e17 kp
   replace e16 := kt kp e16
   refine sd 6 hE k (Z03 rfl e16) ?_
   intro a21 hE e6 kp
   replace e17 := kt kp e17
   refine sd 7 hE k (Z03 rfl e17) ?_
   intro a22 hE e7 kp
   replace e6 := kt kp e6
   refine wpList_nil ?_
   replace e0 := hE.g e0; replace e4 := hE.g e4; replace e5 := hE.g e5
   replace k := k.env hE
   clear hE e12
   refine Z01 (wp_seq ?_)
   refine wp_region_lit ?_
   have hE := Env.refl a22 [18, 19, 20, 21, 4]
   refine sd 18 hE k (Z02 rfl e4) ?_
   intro a23 hE e18 kp
   replace e4 := kt kp e4
   refine zm 19 hE k e6 ?_
   intro a24 hE e19 kp
   replace e4 := kt kp e4; replace e18 := kt kp e18
   refine Z1a (m := 1) (c := 1) O (cs := #[.int .i32 ↑r]) (t := 21) 20 hE k rfl (by rfl) (by rfl) rfl (by simp [go_sem, ↓IntWalk.iteOmega, ev e19]) ?_
   clear O
   intro gn a25 w26 O hE e20 kp
   replace e4 := kt kp e4; replace e18 := kt kp e18
   obtain ⟨h1, k1, w27, hrun, O⟩ := Z2t O elemR32 (by decide) rfl (by intro u hu; simp at hu; subst hu; rfl) (by unfold maxLen; omega) (by omega)
   apply Z19 21 hE k rfl (by rfl) (by rfl) rfl
   case h => exact Z1p rfl e18 e20 (hrun _)
   clear hrun
   intro a28 hE e21 kp
   replace e4 := kt kp e4
   refine sd 4 hE k (Z03 rfl e21) ?_
   intro a29 hE e4 kp
   refine wpList_nil ?_
   replace e0 := hE.g e0; replace e5 := hE.g e5; replace e7 := hE.g e7
   replace k := k.env hE
   clear hE e6
   refine Z01 ?_
   replace O : OwnT W0.heap.size W0 [tRow 21 1 (.slice (some ⟨h1, 0, none⟩) (D ++ [(r, d)]).length k1) (D ++ [(r, d)]).length ((D ++ [(r, d)]).map ruE), tRow 3 1 (.slice B2 D.length c2) D.length (D.map szE)] w27 := by rw [← ru_app, ← Z46]; exact O
   replace O : OwnT _ _ ([tRow 3 1 (.slice B2 D.length c2) D.length (D.map szE), tRow 21 1 (.slice (some ⟨h1, 0, none⟩) (D ++ [(r, d)]).length k1) (D ++ [(r, d)]).length ((D ++ [(r, d)]).map ruE)]) w27 := OwnT.pick O [1, 0] (by decide)
   refine wp_seq ?_
   refine wp_region_lit ?_
   have hE := Env.refl a29 [22, 23, 24, 25, 5]
   refine sd 22 hE k (Z02 rfl e5) ?_
   intro a30 hE e22 kp
   replace e5 := kt kp e5
   refine zm 23 hE k e7 ?_
   intro a31 hE e23 kp
   replace e5 := kt kp e5; replace e22 := kt kp e22
   refine Z1a (m := 1) (c := 1) O (cs := #[.int .i64 ↑d]) (t := 3) 24 hE k rfl (by rfl) (by rfl) rfl (by simp [go_sem, ↓IntWalk.iteOmega, ev e23]) ?_
   clear O
   intro gm a32 w33 O hE e24 kp
   replace e5 := kt kp e5; replace e22 := kt kp e22
   obtain ⟨h2, k2, w34, hrun, O⟩ := Z2t O elemIG (by decide) rfl (by intro u hu; simp at hu; subst hu; rfl) (by unfold maxLen; omega) (by omega)
   apply Z19 25 hE k rfl (by rfl) (by rfl) rfl
   case h => exact Z1p rfl e22 e24 (hrun _)
   clear hrun
   intro a35 hE e25 kp
   replace e5 := kt kp e5
   refine sd 5 hE k (Z03 rfl e25) ?_
   intro a36 hE e5 kp
   refine wpList_nil ?_
   replace e0 := hE.g e0; replace e4 := hE.g e4; replace e7 := hE.g e7
   replace k := k.env hE
   clear hE
   refine Z01 ?_
   replace O : OwnT W0.heap.size W0 [tRow 3 1 (.slice (some ⟨h2, 0, none⟩) (D ++ [(r, d)]).length k2) (D ++ [(r, d)]).length ((D ++ [(r, d)]).map szE), tRow 21 1 (.slice (some ⟨h1, 0, none⟩) (D ++ [(r, d)]).length k1) (D ++ [(r, d)]).length ((D ++ [(r, d)]).map ruE)] w34 := by rw [← sz_app, ← Z46] ; rw [← Z46] at O; exact O
   replace O : OwnT _ _ ([tRow 21 1 (.slice (some ⟨h1, 0, none⟩) (D ++ [(r, d)]).length k1) (D ++ [(r, d)]).length ((D ++ [(r, d)]).map ruE), tRow 3 1 (.slice (some ⟨h2, 0, none⟩) (D ++ [(r, d)]).length k2) (D ++ [(r, d)]).length ((D ++ [(r, d)]).map szE)]) w34 := OwnT.pick O [1, 0] (by decide)
   have hln : D.length + 1 = (D ++ [(r, d)]).length := by simp
   rw [hln] at e4 e5
   refine wp_region_lit ?_
   have hE := Env.refl a36 [26, 27, 28, 0]
   refine sd 26 hE k (Z02 rfl e0) ?_
   intro a37 hE e26 kp
   replace e0 := kt kp e0
   refine zm 27 hE k e7 ?_
   intro a38 hE e27 kp
   replace e0 := kt kp e0; replace e26 := kt kp e26
   refine sd 28 hE k (Z23 (v := .string (sB (l.drop (pos + d)))) (Z4b (l := l.drop pos) Tryd.underlying9 rfl e26 e27 d rfl (by omega)) (by rw [List.drop_drop])) ?_
   intro a39 hE e28 kp
   replace e0 := kt kp e0
   refine sd 0 hE k (Z03 rfl e28) ?_
   intro a40 hE e0 kp
   refine wpList_nil ?_
   replace e4 := hE.g e4; replace e5 := hE.g e5
   replace k := k.env hE
   clear hE e7
   refine Z0i ?_
   refine Z01 ?_
   refine ⟨⟨k, pos + d, D ++ [(r, d)], some ⟨h1, 0, none⟩, k1, some ⟨h2, 0, none⟩, k2, e0, e4, e5, by rw [hD, hra]; simp, hd2, O⟩, ?_⟩
   rw [e0, mi]; simp only [strLen, Z0p, List.length_drop]; omega
 · have hDD : runesL l = D := by rw [hD, List.drop_eq_nil_of_le (by omega), Z3r, List.append_nil]
   refine wp_seq ?_
   refine wp_seq ?_
   refine wp_region_lit ?_
   have hE := Env.refl a10 [10, 11, 12]
   refine zm 10 hE k e0 ?_
   intro a41 hE e10 kp
   refine sd 11 hE k (Z0s Tryd.underlying9 rfl e10) ?_
   intro a42 hE e11 kp
   refine sd 12 hE k (Z05 (Z0w rfl e11 rfl) (decide_eq_false (by omega))) ?_
   intro a43 hE e12 kp
   refine wpList_nil ?_
   replace e0 := hE.g e0; replace e4 := hE.g e4; replace e5 := hE.g e5
   replace k := k.env hE
   clear hE
   refine Z01 ?_
   refine Z0b e12 rfl ?_
   refine wp_exit ?_
   refine Z0f ?_
   refine Z0f ?_
   refine Z0l ?_
   refine Z01 (wp_seq ?_)
   refine wp_region_lit ?_
   have hE := Env.refl a43 [29, 30, 2, 3]
   refine zm 29 hE k e4 ?_
   intro a44 hE e29 kp
   refine zm 30 hE k e5 ?_
   intro a45 hE e30 kp
   replace e29 := kt kp e29
   refine sd 2 hE k (Z03 rfl e29) ?_
   intro a46 hE e2 kp
   replace e30 := kt kp e30
   refine sd 3 hE k (Z03 rfl e30) ?_
   intro a47 hE e3 kp
   replace e2 := kt kp e2
   refine wpList_nil ?_
   replace k := k.env hE
   clear hE e0 e4 e5 e12
   refine Z01 ?_
   refine wp_ret ?_
   refine Z0t rfl k e2 e3 ?_
   exact ⟨B1, c1, B2, c2, by rw [hDD], by rw [hDD]; exact Z2j ruE (OwnT.get O 0 rfl : World.ownsRow _ _ _ _ _ _ _), by rw [hDD]; exact Z2j szE (OwnT.get O 1 rfl : World.ownsRow _ _ _ _ _ _ _), O.below⟩
set_option maxRecDepth 100000 in
set_option maxHeartbeats 4000000 in
theorem Z5q (r : Nat) (W0 : World) : Calls Tryd.prog 24 #[.int .i32 (r : Nat)] W0 fun e w' => e = .returned (.int .i64 ((wideN r : Nat) : Int)) ∧ W0 = w' := by
 refine Z0m Tryd.func24 rfl 43 rfl (by rfl) ?_
 intro a1 k hargs
 have e0 : a1.eval (.tmp 0) = .int .i32 ↑r := hargs 0 _ rfl
 clear hargs
 by_cases p1 : 768 ≤ r
 · by_cases p2 : r ≤ 879
   · skip
     refine wp_seq ?_
     refine wp_region_lit ?_
     have hE := Env.refl a1 [2]
     refine sd 2 hE k (Z03 rfl rfl) ?_
     intro a2 hE e2 kp
     refine wpList_nil ?_
     replace e0 := hE.g e0
     replace k := k.env hE
     clear hE e2
     refine Z01 (wp_seq ?_)
     refine wp_seq ?_
     refine wp_region_lit ?_
     have hE := Env.refl a2 [3, 4, 5, 6, 7, 8, 9, 10, 11, 12]
     refine zm 3 hE k e0 ?_
     intro a3 hE e3 kp
     refine sd 4 hE k (Z05 (Z0j rfl e3 rfl) (decide_eq_true (by omega))) ?_
     intro a4 hE e4 kp
     refine sd 5 hE k (Z02 rfl e4) ?_
     intro a5 hE e5 kp
     apply Z00 6 hE k rfl rfl rfl rfl rfl e5
     case h =>
      exact Z02 rfl (hE.g e0)
     intro a6 hE e6 kp
     replace e5 := kt kp e5
     apply Z00 7 hE k rfl rfl rfl rfl rfl e5
     case h =>
      exact Z05 (Z0y rfl e6 rfl) (decide_eq_true (by omega))
     intro a7 hE e7 kp
     replace e5 := kt kp e5
     refine sd 8 hE k (Z07 rfl e5 e7) ?_
     intro a8 hE e8 kp
     refine sd 9 hE k (Z02 rfl e8) ?_
     intro a9 hE e9 kp
     refine Z04 10 hE k rfl (by rfl) (by rfl) rfl rfl (.inl e9) ?_
     intro a10 hE e10 kp
     replace e9 := kt kp e9
     refine Z04 11 hE k rfl (by rfl) (by rfl) rfl rfl (.inl e9) ?_
     intro a11 hE e11 kp
     replace e9 := kt kp e9
     refine sd 12 hE k (Z07 rfl e9 rfl) ?_
     intro a12 hE e12 kp
     refine wpList_nil ?_
     replace e0 := hE.g e0
     replace k := k.env hE
     clear hE
     refine Z01 ?_
     refine Z09 e12 rfl ?_
     refine wp_seq ?_
     refine wp_region_lit ?_
     have hE := Env.refl a12 [2]
     refine sd 2 hE k (Z03 rfl rfl) ?_
     intro a13 hE e2 kp
     refine wpList_nil ?_
     replace k := k.env hE
     clear hE e0 e12
     refine Z01 ?_
     refine wp_ret ?_
     refine Z0a ?_
     refine Z0e rfl k e2 ?_
     exact ⟨congrArg (fun z : Nat => Ending.returned (.int .i64 (z : Int))) (show 0 = wideN r by unfold wideN; rw [if_pos (by omega)]), rfl⟩
   · by_cases p3 : r = 8203
     · skip
       refine wp_seq ?_
       refine wp_region_lit ?_
       have hE := Env.refl a1 [2]
       refine sd 2 hE k (Z03 rfl rfl) ?_
       intro a14 hE e2 kp
       refine wpList_nil ?_
       replace e0 := hE.g e0
       replace k := k.env hE
       clear hE e2
       refine Z01 (wp_seq ?_)
       refine wp_seq ?_
       refine wp_region_lit ?_
       have hE := Env.refl a14 [3, 4, 5, 6, 7, 8, 9, 10, 11, 12]
       refine zm 3 hE k e0 ?_
       intro a15 hE e3 kp
       refine sd 4 hE k (Z05 (Z0j rfl e3 rfl) (decide_eq_true (by omega))) ?_
       intro a16 hE e4 kp
       refine sd 5 hE k (Z02 rfl e4) ?_
       intro a17 hE e5 kp
       apply Z00 6 hE k rfl rfl rfl rfl rfl e5
       case h =>
        exact Z02 rfl (hE.g e0)
       intro a18 hE e6 kp
       replace e5 := kt kp e5
       apply Z00 7 hE k rfl rfl rfl rfl rfl e5
       case h =>
        exact Z05 (Z0y rfl e6 rfl) (decide_eq_false (by omega))
       intro a19 hE e7 kp
       replace e5 := kt kp e5
       refine sd 8 hE k (Z07 rfl e5 e7) ?_
       intro a20 hE e8 kp
       refine sd 9 hE k (Z02 rfl e8) ?_
       intro a21 hE e9 kp
       apply Z00 10 hE k rfl rfl rfl rfl rfl e9
       case h =>
        exact Z02 rfl (hE.g e0)
       intro a22 hE e10 kp
       replace e9 := kt kp e9
       apply Z00 11 hE k rfl rfl rfl rfl rfl e9
       case h =>
        exact Z05 (Z0k rfl e10 rfl) (decide_eq_true (by omega))
       intro a23 hE e11 kp
       replace e9 := kt kp e9
       refine sd 12 hE k (Z06 rfl e9 e11) ?_
       intro a24 hE e12 kp
       refine wpList_nil ?_
       replace e0 := hE.g e0
       replace k := k.env hE
       clear hE
       refine Z01 ?_
       refine Z09 e12 rfl ?_
       refine wp_seq ?_
       refine wp_region_lit ?_
       have hE := Env.refl a24 [2]
       refine sd 2 hE k (Z03 rfl rfl) ?_
       intro a25 hE e2 kp
       refine wpList_nil ?_
       replace k := k.env hE
       clear hE e0 e12
       refine Z01 ?_
       refine wp_ret ?_
       refine Z0a ?_
       refine Z0e rfl k e2 ?_
       exact ⟨congrArg (fun z : Nat => Ending.returned (.int .i64 (z : Int))) (show 0 = wideN r by unfold wideN; rw [if_pos (by omega)]), rfl⟩
     · skip
       by_cases u0 : 4352 ≤ r
       · by_cases v0 : r ≤ 4447
         · skip
           refine wp_seq ?_
           refine wp_region_lit ?_
           have hE := Env.refl a1 [2]
           refine sd 2 hE k (Z03 rfl rfl) ?_
           intro a26 hE e2 kp
           refine wpList_nil ?_
           replace e0 := hE.g e0
           replace k := k.env hE
           clear hE e2
           refine Z01 (wp_seq ?_)
           refine wp_seq ?_
           refine wp_region_lit ?_
           have hE := Env.refl a26 [3, 4, 5, 6, 7, 8, 9, 10, 11, 12]
           refine zm 3 hE k e0 ?_
           intro a27 hE e3 kp
           refine sd 4 hE k (Z05 (Z0j rfl e3 rfl) (decide_eq_true (by omega))) ?_
           intro a28 hE e4 kp
           refine sd 5 hE k (Z02 rfl e4) ?_
           intro a29 hE e5 kp
           apply Z00 6 hE k rfl rfl rfl rfl rfl e5
           case h =>
            exact Z02 rfl (hE.g e0)
           intro a30 hE e6 kp
           replace e5 := kt kp e5
           apply Z00 7 hE k rfl rfl rfl rfl rfl e5
           case h =>
            exact Z05 (Z0y rfl e6 rfl) (decide_eq_false (by omega))
           intro a31 hE e7 kp
           replace e5 := kt kp e5
           refine sd 8 hE k (Z07 rfl e5 e7) ?_
           intro a32 hE e8 kp
           refine sd 9 hE k (Z02 rfl e8) ?_
           intro a33 hE e9 kp
           apply Z00 10 hE k rfl rfl rfl rfl rfl e9
           case h =>
            exact Z02 rfl (hE.g e0)
           intro a34 hE e10 kp
           replace e9 := kt kp e9
           apply Z00 11 hE k rfl rfl rfl rfl rfl e9
           case h =>
            exact Z05 (Z0k rfl e10 rfl) (decide_eq_false (by omega))
           intro a35 hE e11 kp
           replace e9 := kt kp e9
           refine sd 12 hE k (Z06 rfl e9 e11) ?_
           intro a36 hE e12 kp
           refine wpList_nil ?_
           replace e0 := hE.g e0
           replace k := k.env hE
           clear hE
           refine Z01 ?_
           refine Z0b e12 rfl ?_
           refine wp_skip ?_
           refine Z01 (wp_seq ?_)
           refine wp_seq ?_
           refine wp_region_lit ?_
           have hE := Env.refl a36 [13, 14, 15, 16, 17, 18, 19, 20, 21, 22, 23, 24, 25, 26, 27, 28, 29, 30, 31, 32, 33, 34, 35, 36, 37, 38, 39, 40, 41, 42]
           refine zm 13 hE k e0 ?_
           intro a37 hE e13 kp
           refine sd 14 hE k (Z05 (Z0j rfl e13 rfl) (decide_eq_true (by omega))) ?_
           intro a38 hE e14 kp
           refine sd 15 hE k (Z02 rfl e14) ?_
           intro a39 hE e15 kp
           apply Z00 16 hE k rfl rfl rfl rfl rfl e15
           case h =>
            exact Z02 rfl (hE.g e0)
           intro a40 hE e16 kp
           replace e15 := kt kp e15
           apply Z00 17 hE k rfl rfl rfl rfl rfl e15
           case h =>
            exact Z05 (Z0y rfl e16 rfl) (decide_eq_true (by omega))
           intro a41 hE e17 kp
           replace e15 := kt kp e15
           refine sd 18 hE k (Z07 rfl e15 e17) ?_
           intro a42 hE e18 kp
           refine sd 19 hE k (Z02 rfl e18) ?_
           intro a43 hE e19 kp
           refine Z04 20 hE k rfl (by rfl) (by rfl) rfl rfl (.inl e19) ?_
           intro a44 hE e20 kp
           replace e19 := kt kp e19
           refine Z04 21 hE k rfl (by rfl) (by rfl) rfl rfl (.inl e19) ?_
           intro a45 hE e21 kp
           replace e19 := kt kp e19
           refine Z04 22 hE k rfl (by rfl) (by rfl) rfl rfl (.inl e19) ?_
           intro a46 hE e22 kp
           replace e19 := kt kp e19
           refine Z04 23 hE k rfl (by rfl) (by rfl) rfl rfl (.inr e22) ?_
           intro a47 hE e23 kp
           replace e19 := kt kp e19; replace e22 := kt kp e22
           refine Z04 24 hE k rfl (by rfl) (by rfl) rfl rfl (.inr e22) ?_
           intro a48 hE e24 kp
           replace e19 := kt kp e19; replace e22 := kt kp e22
           refine Z04 25 hE k rfl (by rfl) (by rfl) rfl rfl (.inl e19) ?_
           intro a49 hE e25 kp
           replace e19 := kt kp e19
           refine sd 26 hE k (Z07 rfl e19 rfl) ?_
           intro a50 hE e26 kp
           refine sd 27 hE k (Z02 rfl e26) ?_
           intro a51 hE e27 kp
           refine Z04 28 hE k rfl (by rfl) (by rfl) rfl rfl (.inl e27) ?_
           intro a52 hE e28 kp
           replace e27 := kt kp e27
           refine Z04 29 hE k rfl (by rfl) (by rfl) rfl rfl (.inl e27) ?_
           intro a53 hE e29 kp
           replace e27 := kt kp e27
           refine Z04 30 hE k rfl (by rfl) (by rfl) rfl rfl (.inl e27) ?_
           intro a54 hE e30 kp
           replace e27 := kt kp e27
           refine Z04 31 hE k rfl (by rfl) (by rfl) rfl rfl (.inr e30) ?_
           intro a55 hE e31 kp
           replace e27 := kt kp e27; replace e30 := kt kp e30
           refine Z04 32 hE k rfl (by rfl) (by rfl) rfl rfl (.inr e30) ?_
           intro a56 hE e32 kp
           replace e27 := kt kp e27; replace e30 := kt kp e30
           refine Z04 33 hE k rfl (by rfl) (by rfl) rfl rfl (.inl e27) ?_
           intro a57 hE e33 kp
           replace e27 := kt kp e27
           refine sd 34 hE k (Z07 rfl e27 rfl) ?_
           intro a58 hE e34 kp
           refine sd 35 hE k (Z02 rfl e34) ?_
           intro a59 hE e35 kp
           refine Z04 36 hE k rfl (by rfl) (by rfl) rfl rfl (.inl e35) ?_
           intro a60 hE e36 kp
           replace e35 := kt kp e35
           refine Z04 37 hE k rfl (by rfl) (by rfl) rfl rfl (.inl e35) ?_
           intro a61 hE e37 kp
           replace e35 := kt kp e35
           refine Z04 38 hE k rfl (by rfl) (by rfl) rfl rfl (.inl e35) ?_
           intro a62 hE e38 kp
           replace e35 := kt kp e35
           refine Z04 39 hE k rfl (by rfl) (by rfl) rfl rfl (.inr e38) ?_
           intro a63 hE e39 kp
           replace e35 := kt kp e35; replace e38 := kt kp e38
           refine Z04 40 hE k rfl (by rfl) (by rfl) rfl rfl (.inr e38) ?_
           intro a64 hE e40 kp
           replace e35 := kt kp e35; replace e38 := kt kp e38
           refine Z04 41 hE k rfl (by rfl) (by rfl) rfl rfl (.inl e35) ?_
           intro a65 hE e41 kp
           replace e35 := kt kp e35
           refine sd 42 hE k (Z07 rfl e35 rfl) ?_
           intro a66 hE e42 kp
           refine wpList_nil ?_
           replace k := k.env hE
           clear hE e0 e12
           refine Z01 ?_
           refine Z09 e42 rfl ?_
           refine wp_seq ?_
           refine wp_region_lit ?_
           have hE := Env.refl a66 [2]
           refine sd 2 hE k (Z03 rfl rfl) ?_
           intro a67 hE e2 kp
           refine wpList_nil ?_
           replace k := k.env hE
           clear hE e42
           refine Z01 ?_
           refine wp_ret ?_
           refine Z0a ?_
           refine Z0e rfl k e2 ?_
           exact ⟨congrArg (fun z : Nat => Ending.returned (.int .i64 (z : Int))) (show 2 = wideN r by unfold wideN; rw [if_neg (by omega), if_pos (by omega)]), rfl⟩
         · skip
           by_cases u1 : 11904 ≤ r
           · by_cases v1 : r ≤ 40959
             · skip
               refine wp_seq ?_
               refine wp_region_lit ?_
               have hE := Env.refl a1 [2]
               refine sd 2 hE k (Z03 rfl rfl) ?_
               intro a68 hE e2 kp
               refine wpList_nil ?_
               replace e0 := hE.g e0
               replace k := k.env hE
               clear hE e2
               refine Z01 (wp_seq ?_)
               refine wp_seq ?_
               refine wp_region_lit ?_
               have hE := Env.refl a68 [3, 4, 5, 6, 7, 8, 9, 10, 11, 12]
               refine zm 3 hE k e0 ?_
               intro a69 hE e3 kp
               refine sd 4 hE k (Z05 (Z0j rfl e3 rfl) (decide_eq_true (by omega))) ?_
               intro a70 hE e4 kp
               refine sd 5 hE k (Z02 rfl e4) ?_
               intro a71 hE e5 kp
               apply Z00 6 hE k rfl rfl rfl rfl rfl e5
               case h =>
                exact Z02 rfl (hE.g e0)
               intro a72 hE e6 kp
               replace e5 := kt kp e5
               apply Z00 7 hE k rfl rfl rfl rfl rfl e5
               case h =>
                exact Z05 (Z0y rfl e6 rfl) (decide_eq_false (by omega))
               intro a73 hE e7 kp
               replace e5 := kt kp e5
               refine sd 8 hE k (Z07 rfl e5 e7) ?_
               intro a74 hE e8 kp
               refine sd 9 hE k (Z02 rfl e8) ?_
               intro a75 hE e9 kp
               apply Z00 10 hE k rfl rfl rfl rfl rfl e9
               case h =>
                exact Z02 rfl (hE.g e0)
               intro a76 hE e10 kp
               replace e9 := kt kp e9
               apply Z00 11 hE k rfl rfl rfl rfl rfl e9
               case h =>
                exact Z05 (Z0k rfl e10 rfl) (decide_eq_false (by omega))
               intro a77 hE e11 kp
               replace e9 := kt kp e9
               refine sd 12 hE k (Z06 rfl e9 e11) ?_
               intro a78 hE e12 kp
               refine wpList_nil ?_
               replace e0 := hE.g e0
               replace k := k.env hE
               clear hE
               refine Z01 ?_
               refine Z0b e12 rfl ?_
               refine wp_skip ?_
               refine Z01 (wp_seq ?_)
               refine wp_seq ?_
               refine wp_region_lit ?_
               have hE := Env.refl a78 [13, 14, 15, 16, 17, 18, 19, 20, 21, 22, 23, 24, 25, 26, 27, 28, 29, 30, 31, 32, 33, 34, 35, 36, 37, 38, 39, 40, 41, 42]
               refine zm 13 hE k e0 ?_
               intro a79 hE e13 kp
               refine sd 14 hE k (Z05 (Z0j rfl e13 rfl) (decide_eq_true (by omega))) ?_
               intro a80 hE e14 kp
               refine sd 15 hE k (Z02 rfl e14) ?_
               intro a81 hE e15 kp
               apply Z00 16 hE k rfl rfl rfl rfl rfl e15
               case h =>
                exact Z02 rfl (hE.g e0)
               intro a82 hE e16 kp
               replace e15 := kt kp e15
               apply Z00 17 hE k rfl rfl rfl rfl rfl e15
               case h =>
                exact Z05 (Z0y rfl e16 rfl) (decide_eq_false (by omega))
               intro a83 hE e17 kp
               replace e15 := kt kp e15
               refine sd 18 hE k (Z07 rfl e15 e17) ?_
               intro a84 hE e18 kp
               refine sd 19 hE k (Z02 rfl e18) ?_
               intro a85 hE e19 kp
               apply Z00 20 hE k rfl rfl rfl rfl rfl e19
               case h =>
                exact Z02 rfl (hE.g e0)
               intro a86 hE e20 kp
               replace e19 := kt kp e19
               apply Z00 21 hE k rfl rfl rfl rfl rfl e19
               case h =>
                exact Z05 (Z0j rfl e20 rfl) (decide_eq_true (by omega))
               intro a87 hE e21 kp
               replace e19 := kt kp e19
               apply Z00 22 hE k rfl rfl rfl rfl rfl e19
               case h =>
                exact Z02 rfl e21
               intro a88 hE e22 kp
               replace e19 := kt kp e19
               apply Z00 23 hE k rfl rfl rfl rfl rfl e22
               case h =>
                exact Z02 rfl (hE.g e0)
               intro a89 hE e23 kp
               replace e19 := kt kp e19; replace e22 := kt kp e22
               apply Z00 24 hE k rfl rfl rfl rfl rfl e22
               case h =>
                exact Z05 (Z0y rfl e23 rfl) (decide_eq_true (by omega))
               intro a90 hE e24 kp
               replace e19 := kt kp e19; replace e22 := kt kp e22
               apply Z00 25 hE k rfl rfl rfl rfl rfl e19
               case h =>
                exact Z07 rfl e22 e24
               intro a91 hE e25 kp
               replace e19 := kt kp e19
               refine sd 26 hE k (Z06 rfl e19 e25) ?_
               intro a92 hE e26 kp
               refine sd 27 hE k (Z02 rfl e26) ?_
               intro a93 hE e27 kp
               refine Z04 28 hE k rfl (by rfl) (by rfl) rfl rfl (.inl e27) ?_
               intro a94 hE e28 kp
               replace e27 := kt kp e27
               refine Z04 29 hE k rfl (by rfl) (by rfl) rfl rfl (.inl e27) ?_
               intro a95 hE e29 kp
               replace e27 := kt kp e27
               refine Z04 30 hE k rfl (by rfl) (by rfl) rfl rfl (.inl e27) ?_
               intro a96 hE e30 kp
               replace e27 := kt kp e27
               refine Z04 31 hE k rfl (by rfl) (by rfl) rfl rfl (.inr e30) ?_
               intro a97 hE e31 kp
               replace e27 := kt kp e27; replace e30 := kt kp e30
               refine Z04 32 hE k rfl (by rfl) (by rfl) rfl rfl (.inr e30) ?_
               intro a98 hE e32 kp
               replace e27 := kt kp e27; replace e30 := kt kp e30
               refine Z04 33 hE k rfl (by rfl) (by rfl) rfl rfl (.inl e27) ?_
               intro a99 hE e33 kp
               replace e27 := kt kp e27
               refine sd 34 hE k (Z07 rfl e27 rfl) ?_
               intro a100 hE e34 kp
               refine sd 35 hE k (Z02 rfl e34) ?_
               intro a101 hE e35 kp
               refine Z04 36 hE k rfl (by rfl) (by rfl) rfl rfl (.inl e35) ?_
               intro a102 hE e36 kp
               replace e35 := kt kp e35
               refine Z04 37 hE k rfl (by rfl) (by rfl) rfl rfl (.inl e35) ?_
               intro a103 hE e37 kp
               replace e35 := kt kp e35
               refine Z04 38 hE k rfl (by rfl) (by rfl) rfl rfl (.inl e35) ?_
               intro a104 hE e38 kp
               replace e35 := kt kp e35
               refine Z04 39 hE k rfl (by rfl) (by rfl) rfl rfl (.inr e38) ?_
               intro a105 hE e39 kp
               replace e35 := kt kp e35; replace e38 := kt kp e38
               refine Z04 40 hE k rfl (by rfl) (by rfl) rfl rfl (.inr e38) ?_
               intro a106 hE e40 kp
               replace e35 := kt kp e35; replace e38 := kt kp e38
               refine Z04 41 hE k rfl (by rfl) (by rfl) rfl rfl (.inl e35) ?_
               intro a107 hE e41 kp
               replace e35 := kt kp e35
               refine sd 42 hE k (Z07 rfl e35 rfl) ?_
               intro a108 hE e42 kp
               refine wpList_nil ?_
               replace k := k.env hE
               clear hE e0 e12
               refine Z01 ?_
               refine Z09 e42 rfl ?_
               refine wp_seq ?_
               refine wp_region_lit ?_
               have hE := Env.refl a108 [2]
               refine sd 2 hE k (Z03 rfl rfl) ?_
               intro a109 hE e2 kp
               refine wpList_nil ?_
               replace k := k.env hE
               clear hE e42
               refine Z01 ?_
               refine wp_ret ?_
               refine Z0a ?_
               refine Z0e rfl k e2 ?_
               exact ⟨congrArg (fun z : Nat => Ending.returned (.int .i64 (z : Int))) (show 2 = wideN r by unfold wideN; rw [if_neg (by omega), if_pos (by omega)]), rfl⟩
             · skip
               by_cases u2 : 44032 ≤ r
               · by_cases v2 : r ≤ 55203
                 · skip
                   refine wp_seq ?_
                   refine wp_region_lit ?_
                   have hE := Env.refl a1 [2]
                   refine sd 2 hE k (Z03 rfl rfl) ?_
                   intro a110 hE e2 kp
                   refine wpList_nil ?_
                   replace e0 := hE.g e0
                   replace k := k.env hE
                   clear hE e2
                   refine Z01 (wp_seq ?_)
                   refine wp_seq ?_
                   refine wp_region_lit ?_
                   have hE := Env.refl a110 [3, 4, 5, 6, 7, 8, 9, 10, 11, 12]
                   refine zm 3 hE k e0 ?_
                   intro a111 hE e3 kp
                   refine sd 4 hE k (Z05 (Z0j rfl e3 rfl) (decide_eq_true (by omega))) ?_
                   intro a112 hE e4 kp
                   refine sd 5 hE k (Z02 rfl e4) ?_
                   intro a113 hE e5 kp
                   apply Z00 6 hE k rfl rfl rfl rfl rfl e5
                   case h =>
                    exact Z02 rfl (hE.g e0)
                   intro a114 hE e6 kp
                   replace e5 := kt kp e5
                   apply Z00 7 hE k rfl rfl rfl rfl rfl e5
                   case h =>
                    exact Z05 (Z0y rfl e6 rfl) (decide_eq_false (by omega))
                   intro a115 hE e7 kp
                   replace e5 := kt kp e5
                   refine sd 8 hE k (Z07 rfl e5 e7) ?_
                   intro a116 hE e8 kp
                   refine sd 9 hE k (Z02 rfl e8) ?_
                   intro a117 hE e9 kp
                   apply Z00 10 hE k rfl rfl rfl rfl rfl e9
                   case h =>
                    exact Z02 rfl (hE.g e0)
                   intro a118 hE e10 kp
                   replace e9 := kt kp e9
                   apply Z00 11 hE k rfl rfl rfl rfl rfl e9
                   case h =>
                    exact Z05 (Z0k rfl e10 rfl) (decide_eq_false (by omega))
                   intro a119 hE e11 kp
                   replace e9 := kt kp e9
                   refine sd 12 hE k (Z06 rfl e9 e11) ?_
                   intro a120 hE e12 kp
                   refine wpList_nil ?_
                   replace e0 := hE.g e0
                   replace k := k.env hE
                   clear hE
                   refine Z01 ?_
                   refine Z0b e12 rfl ?_
                   refine wp_skip ?_
                   refine Z01 (wp_seq ?_)
                   refine wp_seq ?_
                   refine wp_region_lit ?_
                   have hE := Env.refl a120 [13, 14, 15, 16, 17, 18, 19, 20, 21, 22, 23, 24, 25, 26, 27, 28, 29, 30, 31, 32, 33, 34, 35, 36, 37, 38, 39, 40, 41, 42]
                   refine zm 13 hE k e0 ?_
                   intro a121 hE e13 kp
                   refine sd 14 hE k (Z05 (Z0j rfl e13 rfl) (decide_eq_true (by omega))) ?_
                   intro a122 hE e14 kp
                   refine sd 15 hE k (Z02 rfl e14) ?_
                   intro a123 hE e15 kp
                   apply Z00 16 hE k rfl rfl rfl rfl rfl e15
                   case h =>
                    exact Z02 rfl (hE.g e0)
                   intro a124 hE e16 kp
                   replace e15 := kt kp e15
                   apply Z00 17 hE k rfl rfl rfl rfl rfl e15
                   case h =>
                    exact Z05 (Z0y rfl e16 rfl) (decide_eq_false (by omega))
                   intro a125 hE e17 kp
                   replace e15 := kt kp e15
                   refine sd 18 hE k (Z07 rfl e15 e17) ?_
                   intro a126 hE e18 kp
                   refine sd 19 hE k (Z02 rfl e18) ?_
                   intro a127 hE e19 kp
                   apply Z00 20 hE k rfl rfl rfl rfl rfl e19
                   case h =>
                    exact Z02 rfl (hE.g e0)
                   intro a128 hE e20 kp
                   replace e19 := kt kp e19
                   apply Z00 21 hE k rfl rfl rfl rfl rfl e19
                   case h =>
                    exact Z05 (Z0j rfl e20 rfl) (decide_eq_true (by omega))
                   intro a129 hE e21 kp
                   replace e19 := kt kp e19
                   apply Z00 22 hE k rfl rfl rfl rfl rfl e19
                   case h =>
                    exact Z02 rfl e21
                   intro a130 hE e22 kp
                   replace e19 := kt kp e19
                   apply Z00 23 hE k rfl rfl rfl rfl rfl e22
                   case h =>
                    exact Z02 rfl (hE.g e0)
                   intro a131 hE e23 kp
                   replace e19 := kt kp e19; replace e22 := kt kp e22
                   apply Z00 24 hE k rfl rfl rfl rfl rfl e22
                   case h =>
                    exact Z05 (Z0y rfl e23 rfl) (decide_eq_false (by omega))
                   intro a132 hE e24 kp
                   replace e19 := kt kp e19; replace e22 := kt kp e22
                   apply Z00 25 hE k rfl rfl rfl rfl rfl e19
                   case h =>
                    exact Z07 rfl e22 e24
                   intro a133 hE e25 kp
                   replace e19 := kt kp e19
                   refine sd 26 hE k (Z06 rfl e19 e25) ?_
                   intro a134 hE e26 kp
                   refine sd 27 hE k (Z02 rfl e26) ?_
                   intro a135 hE e27 kp
                   apply Z00 28 hE k rfl rfl rfl rfl rfl e27
                   case h =>
                    exact Z02 rfl (hE.g e0)
                   intro a136 hE e28 kp
                   replace e27 := kt kp e27
                   apply Z00 29 hE k rfl rfl rfl rfl rfl e27
                   case h =>
                    exact Z05 (Z0j rfl e28 rfl) (decide_eq_true (by omega))
                   intro a137 hE e29 kp
                   replace e27 := kt kp e27
                   apply Z00 30 hE k rfl rfl rfl rfl rfl e27
                   case h =>
                    exact Z02 rfl e29
                   intro a138 hE e30 kp
                   replace e27 := kt kp e27
                   apply Z00 31 hE k rfl rfl rfl rfl rfl e30
                   case h =>
                    exact Z02 rfl (hE.g e0)
                   intro a139 hE e31 kp
                   replace e27 := kt kp e27; replace e30 := kt kp e30
                   apply Z00 32 hE k rfl rfl rfl rfl rfl e30
                   case h =>
                    exact Z05 (Z0y rfl e31 rfl) (decide_eq_true (by omega))
                   intro a140 hE e32 kp
                   replace e27 := kt kp e27; replace e30 := kt kp e30
                   apply Z00 33 hE k rfl rfl rfl rfl rfl e27
                   case h =>
                    exact Z07 rfl e30 e32
                   intro a141 hE e33 kp
                   replace e27 := kt kp e27
                   refine sd 34 hE k (Z06 rfl e27 e33) ?_
                   intro a142 hE e34 kp
                   refine sd 35 hE k (Z02 rfl e34) ?_
                   intro a143 hE e35 kp
                   refine Z04 36 hE k rfl (by rfl) (by rfl) rfl rfl (.inl e35) ?_
                   intro a144 hE e36 kp
                   replace e35 := kt kp e35
                   refine Z04 37 hE k rfl (by rfl) (by rfl) rfl rfl (.inl e35) ?_
                   intro a145 hE e37 kp
                   replace e35 := kt kp e35
                   refine Z04 38 hE k rfl (by rfl) (by rfl) rfl rfl (.inl e35) ?_
                   intro a146 hE e38 kp
                   replace e35 := kt kp e35
                   refine Z04 39 hE k rfl (by rfl) (by rfl) rfl rfl (.inr e38) ?_
                   intro a147 hE e39 kp
                   replace e35 := kt kp e35; replace e38 := kt kp e38
                   refine Z04 40 hE k rfl (by rfl) (by rfl) rfl rfl (.inr e38) ?_
                   intro a148 hE e40 kp
                   replace e35 := kt kp e35; replace e38 := kt kp e38
                   refine Z04 41 hE k rfl (by rfl) (by rfl) rfl rfl (.inl e35) ?_
                   intro a149 hE e41 kp
                   replace e35 := kt kp e35
                   refine sd 42 hE k (Z07 rfl e35 rfl) ?_
                   intro a150 hE e42 kp
                   refine wpList_nil ?_
                   replace k := k.env hE
                   clear hE e0 e12
                   refine Z01 ?_
                   refine Z09 e42 rfl ?_
                   refine wp_seq ?_
                   refine wp_region_lit ?_
                   have hE := Env.refl a150 [2]
                   refine sd 2 hE k (Z03 rfl rfl) ?_
                   intro a151 hE e2 kp
                   refine wpList_nil ?_
                   replace k := k.env hE
                   clear hE e42
                   refine Z01 ?_
                   refine wp_ret ?_
                   refine Z0a ?_
                   refine Z0e rfl k e2 ?_
                   exact ⟨congrArg (fun z : Nat => Ending.returned (.int .i64 (z : Int))) (show 2 = wideN r by unfold wideN; rw [if_neg (by omega), if_pos (by omega)]), rfl⟩
                 · skip
                   by_cases u3 : 65280 ≤ r
                   · by_cases v3 : r ≤ 65376
                     · skip
                       refine wp_seq ?_
                       refine wp_region_lit ?_
                       have hE := Env.refl a1 [2]
                       refine sd 2 hE k (Z03 rfl rfl) ?_
                       intro a152 hE e2 kp
                       refine wpList_nil ?_
                       replace e0 := hE.g e0
                       replace k := k.env hE
                       clear hE e2
                       refine Z01 (wp_seq ?_)
                       refine wp_seq ?_
                       refine wp_region_lit ?_
                       have hE := Env.refl a152 [3, 4, 5, 6, 7, 8, 9, 10, 11, 12]
                       refine zm 3 hE k e0 ?_
                       intro a153 hE e3 kp
                       refine sd 4 hE k (Z05 (Z0j rfl e3 rfl) (decide_eq_true (by omega))) ?_
                       intro a154 hE e4 kp
                       refine sd 5 hE k (Z02 rfl e4) ?_
                       intro a155 hE e5 kp
                       apply Z00 6 hE k rfl rfl rfl rfl rfl e5
                       case h =>
                        exact Z02 rfl (hE.g e0)
                       intro a156 hE e6 kp
                       replace e5 := kt kp e5
                       apply Z00 7 hE k rfl rfl rfl rfl rfl e5
                       case h =>
                        exact Z05 (Z0y rfl e6 rfl) (decide_eq_false (by omega))
                       intro a157 hE e7 kp
                       replace e5 := kt kp e5
                       refine sd 8 hE k (Z07 rfl e5 e7) ?_
                       intro a158 hE e8 kp
                       refine sd 9 hE k (Z02 rfl e8) ?_
                       intro a159 hE e9 kp
                       apply Z00 10 hE k rfl rfl rfl rfl rfl e9
                       case h =>
                        exact Z02 rfl (hE.g e0)
                       intro a160 hE e10 kp
                       replace e9 := kt kp e9
                       apply Z00 11 hE k rfl rfl rfl rfl rfl e9
                       case h =>
                        exact Z05 (Z0k rfl e10 rfl) (decide_eq_false (by omega))
                       intro a161 hE e11 kp
                       replace e9 := kt kp e9
                       refine sd 12 hE k (Z06 rfl e9 e11) ?_
                       intro a162 hE e12 kp
                       refine wpList_nil ?_
                       replace e0 := hE.g e0
                       replace k := k.env hE
                       clear hE
                       refine Z01 ?_
                       refine Z0b e12 rfl ?_
                       refine wp_skip ?_
                       refine Z01 (wp_seq ?_)
                       refine wp_seq ?_
                       refine wp_region_lit ?_
                       have hE := Env.refl a162 [13, 14, 15, 16, 17, 18, 19, 20, 21, 22, 23, 24, 25, 26, 27, 28, 29, 30, 31, 32, 33, 34, 35, 36, 37, 38, 39, 40, 41, 42]
                       refine zm 13 hE k e0 ?_
                       intro a163 hE e13 kp
                       refine sd 14 hE k (Z05 (Z0j rfl e13 rfl) (decide_eq_true (by omega))) ?_
                       intro a164 hE e14 kp
                       refine sd 15 hE k (Z02 rfl e14) ?_
                       intro a165 hE e15 kp
                       apply Z00 16 hE k rfl rfl rfl rfl rfl e15
                       case h =>
                        exact Z02 rfl (hE.g e0)
                       intro a166 hE e16 kp
                       replace e15 := kt kp e15
                       apply Z00 17 hE k rfl rfl rfl rfl rfl e15
                       case h =>
                        exact Z05 (Z0y rfl e16 rfl) (decide_eq_false (by omega))
                       intro a167 hE e17 kp
                       replace e15 := kt kp e15
                       refine sd 18 hE k (Z07 rfl e15 e17) ?_
                       intro a168 hE e18 kp
                       refine sd 19 hE k (Z02 rfl e18) ?_
                       intro a169 hE e19 kp
                       apply Z00 20 hE k rfl rfl rfl rfl rfl e19
                       case h =>
                        exact Z02 rfl (hE.g e0)
                       intro a170 hE e20 kp
                       replace e19 := kt kp e19
                       apply Z00 21 hE k rfl rfl rfl rfl rfl e19
                       case h =>
                        exact Z05 (Z0j rfl e20 rfl) (decide_eq_true (by omega))
                       intro a171 hE e21 kp
                       replace e19 := kt kp e19
                       apply Z00 22 hE k rfl rfl rfl rfl rfl e19
                       case h =>
                        exact Z02 rfl e21
                       intro a172 hE e22 kp
                       replace e19 := kt kp e19
                       apply Z00 23 hE k rfl rfl rfl rfl rfl e22
                       case h =>
                        exact Z02 rfl (hE.g e0)
                       intro a173 hE e23 kp
                       replace e19 := kt kp e19; replace e22 := kt kp e22
                       apply Z00 24 hE k rfl rfl rfl rfl rfl e22
                       case h =>
                        exact Z05 (Z0y rfl e23 rfl) (decide_eq_false (by omega))
                       intro a174 hE e24 kp
                       replace e19 := kt kp e19; replace e22 := kt kp e22
                       apply Z00 25 hE k rfl rfl rfl rfl rfl e19
                       case h =>
                        exact Z07 rfl e22 e24
                       intro a175 hE e25 kp
                       replace e19 := kt kp e19
                       refine sd 26 hE k (Z06 rfl e19 e25) ?_
                       intro a176 hE e26 kp
                       refine sd 27 hE k (Z02 rfl e26) ?_
                       intro a177 hE e27 kp
                       apply Z00 28 hE k rfl rfl rfl rfl rfl e27
                       case h =>
                        exact Z02 rfl (hE.g e0)
                       intro a178 hE e28 kp
                       replace e27 := kt kp e27
                       apply Z00 29 hE k rfl rfl rfl rfl rfl e27
                       case h =>
                        exact Z05 (Z0j rfl e28 rfl) (decide_eq_true (by omega))
                       intro a179 hE e29 kp
                       replace e27 := kt kp e27
                       apply Z00 30 hE k rfl rfl rfl rfl rfl e27
                       case h =>
                        exact Z02 rfl e29
                       intro a180 hE e30 kp
                       replace e27 := kt kp e27
                       apply Z00 31 hE k rfl rfl rfl rfl rfl e30
                       case h =>
                        exact Z02 rfl (hE.g e0)
                       intro a181 hE e31 kp
                       replace e27 := kt kp e27; replace e30 := kt kp e30
                       apply Z00 32 hE k rfl rfl rfl rfl rfl e30
                       case h =>
                        exact Z05 (Z0y rfl e31 rfl) (decide_eq_false (by omega))
                       intro a182 hE e32 kp
                       replace e27 := kt kp e27; replace e30 := kt kp e30
                       apply Z00 33 hE k rfl rfl rfl rfl rfl e27
                       case h =>
                        exact Z07 rfl e30 e32
                       intro a183 hE e33 kp
                       replace e27 := kt kp e27
                       refine sd 34 hE k (Z06 rfl e27 e33) ?_
                       intro a184 hE e34 kp
                       refine sd 35 hE k (Z02 rfl e34) ?_
                       intro a185 hE e35 kp
                       apply Z00 36 hE k rfl rfl rfl rfl rfl e35
                       case h =>
                        exact Z02 rfl (hE.g e0)
                       intro a186 hE e36 kp
                       replace e35 := kt kp e35
                       apply Z00 37 hE k rfl rfl rfl rfl rfl e35
                       case h =>
                        exact Z05 (Z0j rfl e36 rfl) (decide_eq_true (by omega))
                       intro a187 hE e37 kp
                       replace e35 := kt kp e35
                       apply Z00 38 hE k rfl rfl rfl rfl rfl e35
                       case h =>
                        exact Z02 rfl e37
                       intro a188 hE e38 kp
                       replace e35 := kt kp e35
                       apply Z00 39 hE k rfl rfl rfl rfl rfl e38
                       case h =>
                        exact Z02 rfl (hE.g e0)
                       intro a189 hE e39 kp
                       replace e35 := kt kp e35; replace e38 := kt kp e38
                       apply Z00 40 hE k rfl rfl rfl rfl rfl e38
                       case h =>
                        exact Z05 (Z0y rfl e39 rfl) (decide_eq_true (by omega))
                       intro a190 hE e40 kp
                       replace e35 := kt kp e35; replace e38 := kt kp e38
                       apply Z00 41 hE k rfl rfl rfl rfl rfl e35
                       case h =>
                        exact Z07 rfl e38 e40
                       intro a191 hE e41 kp
                       replace e35 := kt kp e35
                       refine sd 42 hE k (Z06 rfl e35 e41) ?_
                       intro a192 hE e42 kp
                       refine wpList_nil ?_
                       replace k := k.env hE
                       clear hE e0 e12
                       refine Z01 ?_
                       refine Z09 e42 rfl ?_
                       refine wp_seq ?_
                       refine wp_region_lit ?_
                       have hE := Env.refl a192 [2]
                       refine sd 2 hE k (Z03 rfl rfl) ?_
                       intro a193 hE e2 kp
                       refine wpList_nil ?_
                       replace k := k.env hE
                       clear hE e42
                       refine Z01 ?_
                       refine wp_ret ?_
                       refine Z0a ?_
                       refine Z0e rfl k e2 ?_
                       exact ⟨congrArg (fun z : Nat => Ending.returned (.int .i64 (z : Int))) (show 2 = wideN r by unfold wideN; rw [if_neg (by omega), if_pos (by omega)]), rfl⟩
                     · skip
                       refine wp_seq ?_
                       refine wp_region_lit ?_
                       have hE := Env.refl a1 [2]
                       refine sd 2 hE k (Z03 rfl rfl) ?_
                       intro a194 hE e2 kp
                       refine wpList_nil ?_
                       replace e0 := hE.g e0
                       replace k := k.env hE
                       clear hE e2
                       refine Z01 (wp_seq ?_)
                       refine wp_seq ?_
                       refine wp_region_lit ?_
                       have hE := Env.refl a194 [3, 4, 5, 6, 7, 8, 9, 10, 11, 12]
                       refine zm 3 hE k e0 ?_
                       intro a195 hE e3 kp
                       refine sd 4 hE k (Z05 (Z0j rfl e3 rfl) (decide_eq_true (by omega))) ?_
                       intro a196 hE e4 kp
                       refine sd 5 hE k (Z02 rfl e4) ?_
                       intro a197 hE e5 kp
                       apply Z00 6 hE k rfl rfl rfl rfl rfl e5
                       case h =>
                        exact Z02 rfl (hE.g e0)
                       intro a198 hE e6 kp
                       replace e5 := kt kp e5
                       apply Z00 7 hE k rfl rfl rfl rfl rfl e5
                       case h =>
                        exact Z05 (Z0y rfl e6 rfl) (decide_eq_false (by omega))
                       intro a199 hE e7 kp
                       replace e5 := kt kp e5
                       refine sd 8 hE k (Z07 rfl e5 e7) ?_
                       intro a200 hE e8 kp
                       refine sd 9 hE k (Z02 rfl e8) ?_
                       intro a201 hE e9 kp
                       apply Z00 10 hE k rfl rfl rfl rfl rfl e9
                       case h =>
                        exact Z02 rfl (hE.g e0)
                       intro a202 hE e10 kp
                       replace e9 := kt kp e9
                       apply Z00 11 hE k rfl rfl rfl rfl rfl e9
                       case h =>
                        exact Z05 (Z0k rfl e10 rfl) (decide_eq_false (by omega))
                       intro a203 hE e11 kp
                       replace e9 := kt kp e9
                       refine sd 12 hE k (Z06 rfl e9 e11) ?_
                       intro a204 hE e12 kp
                       refine wpList_nil ?_
                       replace e0 := hE.g e0
                       replace k := k.env hE
                       clear hE
                       refine Z01 ?_
                       refine Z0b e12 rfl ?_
                       refine wp_skip ?_
                       refine Z01 (wp_seq ?_)
                       refine wp_seq ?_
                       refine wp_region_lit ?_
                       have hE := Env.refl a204 [13, 14, 15, 16, 17, 18, 19, 20, 21, 22, 23, 24, 25, 26, 27, 28, 29, 30, 31, 32, 33, 34, 35, 36, 37, 38, 39, 40, 41, 42]
                       refine zm 13 hE k e0 ?_
                       intro a205 hE e13 kp
                       refine sd 14 hE k (Z05 (Z0j rfl e13 rfl) (decide_eq_true (by omega))) ?_
                       intro a206 hE e14 kp
                       refine sd 15 hE k (Z02 rfl e14) ?_
                       intro a207 hE e15 kp
                       apply Z00 16 hE k rfl rfl rfl rfl rfl e15
                       case h =>
                        exact Z02 rfl (hE.g e0)
                       intro a208 hE e16 kp
                       replace e15 := kt kp e15
                       apply Z00 17 hE k rfl rfl rfl rfl rfl e15
                       case h =>
                        exact Z05 (Z0y rfl e16 rfl) (decide_eq_false (by omega))
                       intro a209 hE e17 kp
                       replace e15 := kt kp e15
                       refine sd 18 hE k (Z07 rfl e15 e17) ?_
                       intro a210 hE e18 kp
                       refine sd 19 hE k (Z02 rfl e18) ?_
                       intro a211 hE e19 kp
                       apply Z00 20 hE k rfl rfl rfl rfl rfl e19
                       case h =>
                        exact Z02 rfl (hE.g e0)
                       intro a212 hE e20 kp
                       replace e19 := kt kp e19
                       apply Z00 21 hE k rfl rfl rfl rfl rfl e19
                       case h =>
                        exact Z05 (Z0j rfl e20 rfl) (decide_eq_true (by omega))
                       intro a213 hE e21 kp
                       replace e19 := kt kp e19
                       apply Z00 22 hE k rfl rfl rfl rfl rfl e19
                       case h =>
                        exact Z02 rfl e21
                       intro a214 hE e22 kp
                       replace e19 := kt kp e19
                       apply Z00 23 hE k rfl rfl rfl rfl rfl e22
                       case h =>
                        exact Z02 rfl (hE.g e0)
                       intro a215 hE e23 kp
                       replace e19 := kt kp e19; replace e22 := kt kp e22
                       apply Z00 24 hE k rfl rfl rfl rfl rfl e22
                       case h =>
                        exact Z05 (Z0y rfl e23 rfl) (decide_eq_false (by omega))
                       intro a216 hE e24 kp
                       replace e19 := kt kp e19; replace e22 := kt kp e22
                       apply Z00 25 hE k rfl rfl rfl rfl rfl e19
                       case h =>
                        exact Z07 rfl e22 e24
                       intro a217 hE e25 kp
                       replace e19 := kt kp e19
                       refine sd 26 hE k (Z06 rfl e19 e25) ?_
                       intro a218 hE e26 kp
                       refine sd 27 hE k (Z02 rfl e26) ?_
                       intro a219 hE e27 kp
                       apply Z00 28 hE k rfl rfl rfl rfl rfl e27
                       case h =>
                        exact Z02 rfl (hE.g e0)
                       intro a220 hE e28 kp
                       replace e27 := kt kp e27
                       apply Z00 29 hE k rfl rfl rfl rfl rfl e27
                       case h =>
                        exact Z05 (Z0j rfl e28 rfl) (decide_eq_true (by omega))
                       intro a221 hE e29 kp
                       replace e27 := kt kp e27
                       apply Z00 30 hE k rfl rfl rfl rfl rfl e27
                       case h =>
                        exact Z02 rfl e29
                       intro a222 hE e30 kp
                       replace e27 := kt kp e27
                       apply Z00 31 hE k rfl rfl rfl rfl rfl e30
                       case h =>
                        exact Z02 rfl (hE.g e0)
                       intro a223 hE e31 kp
                       replace e27 := kt kp e27; replace e30 := kt kp e30
                       apply Z00 32 hE k rfl rfl rfl rfl rfl e30
                       case h =>
                        exact Z05 (Z0y rfl e31 rfl) (decide_eq_false (by omega))
                       intro a224 hE e32 kp
                       replace e27 := kt kp e27; replace e30 := kt kp e30
                       apply Z00 33 hE k rfl rfl rfl rfl rfl e27
                       case h =>
                        exact Z07 rfl e30 e32
                       intro a225 hE e33 kp
                       replace e27 := kt kp e27
                       refine sd 34 hE k (Z06 rfl e27 e33) ?_
                       intro a226 hE e34 kp
                       refine sd 35 hE k (Z02 rfl e34) ?_
                       intro a227 hE e35 kp
                       apply Z00 36 hE k rfl rfl rfl rfl rfl e35
                       case h =>
                        exact Z02 rfl (hE.g e0)
                       intro a228 hE e36 kp
                       replace e35 := kt kp e35
                       apply Z00 37 hE k rfl rfl rfl rfl rfl e35
                       case h =>
                        exact Z05 (Z0j rfl e36 rfl) (decide_eq_true (by omega))
                       intro a229 hE e37 kp
                       replace e35 := kt kp e35
                       apply Z00 38 hE k rfl rfl rfl rfl rfl e35
                       case h =>
                        exact Z02 rfl e37
                       intro a230 hE e38 kp
                       replace e35 := kt kp e35
                       apply Z00 39 hE k rfl rfl rfl rfl rfl e38
                       case h =>
                        exact Z02 rfl (hE.g e0)
                       intro a231 hE e39 kp
                       replace e35 := kt kp e35; replace e38 := kt kp e38
                       apply Z00 40 hE k rfl rfl rfl rfl rfl e38
                       case h =>
                        exact Z05 (Z0y rfl e39 rfl) (decide_eq_false (by omega))
                       intro a232 hE e40 kp
                       replace e35 := kt kp e35; replace e38 := kt kp e38
                       apply Z00 41 hE k rfl rfl rfl rfl rfl e35
                       case h =>
                        exact Z07 rfl e38 e40
                       intro a233 hE e41 kp
                       replace e35 := kt kp e35
                       refine sd 42 hE k (Z06 rfl e35 e41) ?_
                       intro a234 hE e42 kp
                       refine wpList_nil ?_
                       replace k := k.env hE
                       clear hE e0 e12
                       refine Z01 ?_
                       refine Z0b e42 rfl ?_
                       refine wp_skip ?_
                       refine Z01 (wp_seq ?_)
                       refine wp_region_lit ?_
                       have hE := Env.refl a234 [2]
                       refine sd 2 hE k (Z03 rfl rfl) ?_
                       intro a235 hE e2 kp
                       refine wpList_nil ?_
                       replace k := k.env hE
                       clear hE e42
                       refine Z01 ?_
                       refine wp_ret ?_
                       refine Z0e rfl k e2 ?_
                       exact ⟨congrArg (fun z : Nat => Ending.returned (.int .i64 (z : Int))) (show 1 = wideN r by unfold wideN; rw [if_neg (by omega), if_neg (by omega)]), rfl⟩
                   · skip
                     refine wp_seq ?_
                     refine wp_region_lit ?_
                     have hE := Env.refl a1 [2]
                     refine sd 2 hE k (Z03 rfl rfl) ?_
                     intro a236 hE e2 kp
                     refine wpList_nil ?_
                     replace e0 := hE.g e0
                     replace k := k.env hE
                     clear hE e2
                     refine Z01 (wp_seq ?_)
                     refine wp_seq ?_
                     refine wp_region_lit ?_
                     have hE := Env.refl a236 [3, 4, 5, 6, 7, 8, 9, 10, 11, 12]
                     refine zm 3 hE k e0 ?_
                     intro a237 hE e3 kp
                     refine sd 4 hE k (Z05 (Z0j rfl e3 rfl) (decide_eq_true (by omega))) ?_
                     intro a238 hE e4 kp
                     refine sd 5 hE k (Z02 rfl e4) ?_
                     intro a239 hE e5 kp
                     apply Z00 6 hE k rfl rfl rfl rfl rfl e5
                     case h =>
                      exact Z02 rfl (hE.g e0)
                     intro a240 hE e6 kp
                     replace e5 := kt kp e5
                     apply Z00 7 hE k rfl rfl rfl rfl rfl e5
                     case h =>
                      exact Z05 (Z0y rfl e6 rfl) (decide_eq_false (by omega))
                     intro a241 hE e7 kp
                     replace e5 := kt kp e5
                     refine sd 8 hE k (Z07 rfl e5 e7) ?_
                     intro a242 hE e8 kp
                     refine sd 9 hE k (Z02 rfl e8) ?_
                     intro a243 hE e9 kp
                     apply Z00 10 hE k rfl rfl rfl rfl rfl e9
                     case h =>
                      exact Z02 rfl (hE.g e0)
                     intro a244 hE e10 kp
                     replace e9 := kt kp e9
                     apply Z00 11 hE k rfl rfl rfl rfl rfl e9
                     case h =>
                      exact Z05 (Z0k rfl e10 rfl) (decide_eq_false (by omega))
                     intro a245 hE e11 kp
                     replace e9 := kt kp e9
                     refine sd 12 hE k (Z06 rfl e9 e11) ?_
                     intro a246 hE e12 kp
                     refine wpList_nil ?_
                     replace e0 := hE.g e0
                     replace k := k.env hE
                     clear hE
                     refine Z01 ?_
                     refine Z0b e12 rfl ?_
                     refine wp_skip ?_
                     refine Z01 (wp_seq ?_)
                     refine wp_seq ?_
                     refine wp_region_lit ?_
                     have hE := Env.refl a246 [13, 14, 15, 16, 17, 18, 19, 20, 21, 22, 23, 24, 25, 26, 27, 28, 29, 30, 31, 32, 33, 34, 35, 36, 37, 38, 39, 40, 41, 42]
                     refine zm 13 hE k e0 ?_
                     intro a247 hE e13 kp
                     refine sd 14 hE k (Z05 (Z0j rfl e13 rfl) (decide_eq_true (by omega))) ?_
                     intro a248 hE e14 kp
                     refine sd 15 hE k (Z02 rfl e14) ?_
                     intro a249 hE e15 kp
                     apply Z00 16 hE k rfl rfl rfl rfl rfl e15
                     case h =>
                      exact Z02 rfl (hE.g e0)
                     intro a250 hE e16 kp
                     replace e15 := kt kp e15
                     apply Z00 17 hE k rfl rfl rfl rfl rfl e15
                     case h =>
                      exact Z05 (Z0y rfl e16 rfl) (decide_eq_false (by omega))
                     intro a251 hE e17 kp
                     replace e15 := kt kp e15
                     refine sd 18 hE k (Z07 rfl e15 e17) ?_
                     intro a252 hE e18 kp
                     refine sd 19 hE k (Z02 rfl e18) ?_
                     intro a253 hE e19 kp
                     apply Z00 20 hE k rfl rfl rfl rfl rfl e19
                     case h =>
                      exact Z02 rfl (hE.g e0)
                     intro a254 hE e20 kp
                     replace e19 := kt kp e19
                     apply Z00 21 hE k rfl rfl rfl rfl rfl e19
                     case h =>
                      exact Z05 (Z0j rfl e20 rfl) (decide_eq_true (by omega))
                     intro a255 hE e21 kp
                     replace e19 := kt kp e19
                     apply Z00 22 hE k rfl rfl rfl rfl rfl e19
                     case h =>
                      exact Z02 rfl e21
                     intro a256 hE e22 kp
                     replace e19 := kt kp e19
                     apply Z00 23 hE k rfl rfl rfl rfl rfl e22
                     case h =>
                      exact Z02 rfl (hE.g e0)
                     intro a257 hE e23 kp
                     replace e19 := kt kp e19; replace e22 := kt kp e22
                     apply Z00 24 hE k rfl rfl rfl rfl rfl e22
                     case h =>
                      exact Z05 (Z0y rfl e23 rfl) (decide_eq_false (by omega))
                     intro a258 hE e24 kp
                     replace e19 := kt kp e19; replace e22 := kt kp e22
                     apply Z00 25 hE k rfl rfl rfl rfl rfl e19
                     case h =>
                      exact Z07 rfl e22 e24
                     intro a259 hE e25 kp
                     replace e19 := kt kp e19
                     refine sd 26 hE k (Z06 rfl e19 e25) ?_
                     intro a260 hE e26 kp
                     refine sd 27 hE k (Z02 rfl e26) ?_
                     intro a261 hE e27 kp
                     apply Z00 28 hE k rfl rfl rfl rfl rfl e27
                     case h =>
                      exact Z02 rfl (hE.g e0)
                     intro a262 hE e28 kp
                     replace e27 := kt kp e27
                     apply Z00 29 hE k rfl rfl rfl rfl rfl e27
                     case h =>
                      exact Z05 (Z0j rfl e28 rfl) (decide_eq_true (by omega))
                     intro a263 hE e29 kp
                     replace e27 := kt kp e27
                     apply Z00 30 hE k rfl rfl rfl rfl rfl e27
                     case h =>
                      exact Z02 rfl e29
                     intro a264 hE e30 kp
                     replace e27 := kt kp e27
                     apply Z00 31 hE k rfl rfl rfl rfl rfl e30
                     case h =>
                      exact Z02 rfl (hE.g e0)
                     intro a265 hE e31 kp
                     replace e27 := kt kp e27; replace e30 := kt kp e30
                     apply Z00 32 hE k rfl rfl rfl rfl rfl e30
                     case h =>
                      exact Z05 (Z0y rfl e31 rfl) (decide_eq_false (by omega))
                     intro a266 hE e32 kp
                     replace e27 := kt kp e27; replace e30 := kt kp e30
                     apply Z00 33 hE k rfl rfl rfl rfl rfl e27
                     case h =>
                      exact Z07 rfl e30 e32
                     intro a267 hE e33 kp
                     replace e27 := kt kp e27
                     refine sd 34 hE k (Z06 rfl e27 e33) ?_
                     intro a268 hE e34 kp
                     refine sd 35 hE k (Z02 rfl e34) ?_
                     intro a269 hE e35 kp
                     apply Z00 36 hE k rfl rfl rfl rfl rfl e35
                     case h =>
                      exact Z02 rfl (hE.g e0)
                     intro a270 hE e36 kp
                     replace e35 := kt kp e35
                     apply Z00 37 hE k rfl rfl rfl rfl rfl e35
                     case h =>
                      exact Z05 (Z0j rfl e36 rfl) (decide_eq_false (by omega))
                     intro a271 hE e37 kp
                     replace e35 := kt kp e35
                     apply Z00 38 hE k rfl rfl rfl rfl rfl e35
                     case h =>
                      exact Z02 rfl e37
                     intro a272 hE e38 kp
                     replace e35 := kt kp e35
                     refine Z04 39 hE k rfl (by rfl) (by rfl) rfl rfl (.inl e38) ?_
                     intro a273 hE e39 kp
                     replace e35 := kt kp e35; replace e38 := kt kp e38
                     refine Z04 40 hE k rfl (by rfl) (by rfl) rfl rfl (.inl e38) ?_
                     intro a274 hE e40 kp
                     replace e35 := kt kp e35; replace e38 := kt kp e38
                     apply Z00 41 hE k rfl rfl rfl rfl rfl e35
                     case h =>
                      exact Z06 rfl e38 rfl
                     intro a275 hE e41 kp
                     replace e35 := kt kp e35
                     refine sd 42 hE k (Z06 rfl e35 e41) ?_
                     intro a276 hE e42 kp
                     refine wpList_nil ?_
                     replace k := k.env hE
                     clear hE e0 e12
                     refine Z01 ?_
                     refine Z0b e42 rfl ?_
                     refine wp_skip ?_
                     refine Z01 (wp_seq ?_)
                     refine wp_region_lit ?_
                     have hE := Env.refl a276 [2]
                     refine sd 2 hE k (Z03 rfl rfl) ?_
                     intro a277 hE e2 kp
                     refine wpList_nil ?_
                     replace k := k.env hE
                     clear hE e42
                     refine Z01 ?_
                     refine wp_ret ?_
                     refine Z0e rfl k e2 ?_
                     exact ⟨congrArg (fun z : Nat => Ending.returned (.int .i64 (z : Int))) (show 1 = wideN r by unfold wideN; rw [if_neg (by omega), if_neg (by omega)]), rfl⟩
               · skip
                 refine wp_seq ?_
                 refine wp_region_lit ?_
                 have hE := Env.refl a1 [2]
                 refine sd 2 hE k (Z03 rfl rfl) ?_
                 intro a278 hE e2 kp
                 refine wpList_nil ?_
                 replace e0 := hE.g e0
                 replace k := k.env hE
                 clear hE e2
                 refine Z01 (wp_seq ?_)
                 refine wp_seq ?_
                 refine wp_region_lit ?_
                 have hE := Env.refl a278 [3, 4, 5, 6, 7, 8, 9, 10, 11, 12]
                 refine zm 3 hE k e0 ?_
                 intro a279 hE e3 kp
                 refine sd 4 hE k (Z05 (Z0j rfl e3 rfl) (decide_eq_true (by omega))) ?_
                 intro a280 hE e4 kp
                 refine sd 5 hE k (Z02 rfl e4) ?_
                 intro a281 hE e5 kp
                 apply Z00 6 hE k rfl rfl rfl rfl rfl e5
                 case h =>
                  exact Z02 rfl (hE.g e0)
                 intro a282 hE e6 kp
                 replace e5 := kt kp e5
                 apply Z00 7 hE k rfl rfl rfl rfl rfl e5
                 case h =>
                  exact Z05 (Z0y rfl e6 rfl) (decide_eq_false (by omega))
                 intro a283 hE e7 kp
                 replace e5 := kt kp e5
                 refine sd 8 hE k (Z07 rfl e5 e7) ?_
                 intro a284 hE e8 kp
                 refine sd 9 hE k (Z02 rfl e8) ?_
                 intro a285 hE e9 kp
                 apply Z00 10 hE k rfl rfl rfl rfl rfl e9
                 case h =>
                  exact Z02 rfl (hE.g e0)
                 intro a286 hE e10 kp
                 replace e9 := kt kp e9
                 apply Z00 11 hE k rfl rfl rfl rfl rfl e9
                 case h =>
                  exact Z05 (Z0k rfl e10 rfl) (decide_eq_false (by omega))
                 intro a287 hE e11 kp
                 replace e9 := kt kp e9
                 refine sd 12 hE k (Z06 rfl e9 e11) ?_
                 intro a288 hE e12 kp
                 refine wpList_nil ?_
                 replace e0 := hE.g e0
                 replace k := k.env hE
                 clear hE
                 refine Z01 ?_
                 refine Z0b e12 rfl ?_
                 refine wp_skip ?_
                 refine Z01 (wp_seq ?_)
                 refine wp_seq ?_
                 refine wp_region_lit ?_
                 have hE := Env.refl a288 [13, 14, 15, 16, 17, 18, 19, 20, 21, 22, 23, 24, 25, 26, 27, 28, 29, 30, 31, 32, 33, 34, 35, 36, 37, 38, 39, 40, 41, 42]
                 refine zm 13 hE k e0 ?_
                 intro a289 hE e13 kp
                 refine sd 14 hE k (Z05 (Z0j rfl e13 rfl) (decide_eq_true (by omega))) ?_
                 intro a290 hE e14 kp
                 refine sd 15 hE k (Z02 rfl e14) ?_
                 intro a291 hE e15 kp
                 apply Z00 16 hE k rfl rfl rfl rfl rfl e15
                 case h =>
                  exact Z02 rfl (hE.g e0)
                 intro a292 hE e16 kp
                 replace e15 := kt kp e15
                 apply Z00 17 hE k rfl rfl rfl rfl rfl e15
                 case h =>
                  exact Z05 (Z0y rfl e16 rfl) (decide_eq_false (by omega))
                 intro a293 hE e17 kp
                 replace e15 := kt kp e15
                 refine sd 18 hE k (Z07 rfl e15 e17) ?_
                 intro a294 hE e18 kp
                 refine sd 19 hE k (Z02 rfl e18) ?_
                 intro a295 hE e19 kp
                 apply Z00 20 hE k rfl rfl rfl rfl rfl e19
                 case h =>
                  exact Z02 rfl (hE.g e0)
                 intro a296 hE e20 kp
                 replace e19 := kt kp e19
                 apply Z00 21 hE k rfl rfl rfl rfl rfl e19
                 case h =>
                  exact Z05 (Z0j rfl e20 rfl) (decide_eq_true (by omega))
                 intro a297 hE e21 kp
                 replace e19 := kt kp e19
                 apply Z00 22 hE k rfl rfl rfl rfl rfl e19
                 case h =>
                  exact Z02 rfl e21
                 intro a298 hE e22 kp
                 replace e19 := kt kp e19
                 apply Z00 23 hE k rfl rfl rfl rfl rfl e22
                 case h =>
                  exact Z02 rfl (hE.g e0)
                 intro a299 hE e23 kp
                 replace e19 := kt kp e19; replace e22 := kt kp e22
                 apply Z00 24 hE k rfl rfl rfl rfl rfl e22
                 case h =>
                  exact Z05 (Z0y rfl e23 rfl) (decide_eq_false (by omega))
                 intro a300 hE e24 kp
                 replace e19 := kt kp e19; replace e22 := kt kp e22
                 apply Z00 25 hE k rfl rfl rfl rfl rfl e19
                 case h =>
                  exact Z07 rfl e22 e24
                 intro a301 hE e25 kp
                 replace e19 := kt kp e19
                 refine sd 26 hE k (Z06 rfl e19 e25) ?_
                 intro a302 hE e26 kp
                 refine sd 27 hE k (Z02 rfl e26) ?_
                 intro a303 hE e27 kp
                 apply Z00 28 hE k rfl rfl rfl rfl rfl e27
                 case h =>
                  exact Z02 rfl (hE.g e0)
                 intro a304 hE e28 kp
                 replace e27 := kt kp e27
                 apply Z00 29 hE k rfl rfl rfl rfl rfl e27
                 case h =>
                  exact Z05 (Z0j rfl e28 rfl) (decide_eq_false (by omega))
                 intro a305 hE e29 kp
                 replace e27 := kt kp e27
                 apply Z00 30 hE k rfl rfl rfl rfl rfl e27
                 case h =>
                  exact Z02 rfl e29
                 intro a306 hE e30 kp
                 replace e27 := kt kp e27
                 refine Z04 31 hE k rfl (by rfl) (by rfl) rfl rfl (.inl e30) ?_
                 intro a307 hE e31 kp
                 replace e27 := kt kp e27; replace e30 := kt kp e30
                 refine Z04 32 hE k rfl (by rfl) (by rfl) rfl rfl (.inl e30) ?_
                 intro a308 hE e32 kp
                 replace e27 := kt kp e27; replace e30 := kt kp e30
                 apply Z00 33 hE k rfl rfl rfl rfl rfl e27
                 case h =>
                  exact Z06 rfl e30 rfl
                 intro a309 hE e33 kp
                 replace e27 := kt kp e27
                 refine sd 34 hE k (Z06 rfl e27 e33) ?_
                 intro a310 hE e34 kp
                 refine sd 35 hE k (Z02 rfl e34) ?_
                 intro a311 hE e35 kp
                 apply Z00 36 hE k rfl rfl rfl rfl rfl e35
                 case h =>
                  exact Z02 rfl (hE.g e0)
                 intro a312 hE e36 kp
                 replace e35 := kt kp e35
                 apply Z00 37 hE k rfl rfl rfl rfl rfl e35
                 case h =>
                  exact Z05 (Z0j rfl e36 rfl) (decide_eq_false (by omega))
                 intro a313 hE e37 kp
                 replace e35 := kt kp e35
                 apply Z00 38 hE k rfl rfl rfl rfl rfl e35
                 case h =>
                  exact Z02 rfl e37
                 intro a314 hE e38 kp
                 replace e35 := kt kp e35
                 refine Z04 39 hE k rfl (by rfl) (by rfl) rfl rfl (.inl e38) ?_
                 intro a315 hE e39 kp
                 replace e35 := kt kp e35; replace e38 := kt kp e38
                 refine Z04 40 hE k rfl (by rfl) (by rfl) rfl rfl (.inl e38) ?_
                 intro a316 hE e40 kp
                 replace e35 := kt kp e35; replace e38 := kt kp e38
                 apply Z00 41 hE k rfl rfl rfl rfl rfl e35
                 case h =>
                  exact Z06 rfl e38 rfl
                 intro a317 hE e41 kp
                 replace e35 := kt kp e35
                 refine sd 42 hE k (Z06 rfl e35 e41) ?_
                 intro a318 hE e42 kp
                 refine wpList_nil ?_
                 replace k := k.env hE
                 clear hE e0 e12
                 refine Z01 ?_
                 refine Z0b e42 rfl ?_
                 refine wp_skip ?_
                 refine Z01 (wp_seq ?_)
                 refine wp_region_lit ?_
                 have hE := Env.refl a318 [2]
                 refine sd 2 hE k (Z03 rfl rfl) ?_
                 intro a319 hE e2 kp
                 refine wpList_nil ?_
                 replace k := k.env hE
                 clear hE e42
                 refine Z01 ?_
                 refine wp_ret ?_
                 refine Z0e rfl k e2 ?_
                 exact ⟨congrArg (fun z : Nat => Ending.returned (.int .i64 (z : Int))) (show 1 = wideN r by unfold wideN; rw [if_neg (by omega), if_neg (by omega)]), rfl⟩
           · skip
             refine wp_seq ?_
             refine wp_region_lit ?_
             have hE := Env.refl a1 [2]
             refine sd 2 hE k (Z03 rfl rfl) ?_
             intro a320 hE e2 kp
             refine wpList_nil ?_
             replace e0 := hE.g e0
             replace k := k.env hE
             clear hE e2
             refine Z01 (wp_seq ?_)
             refine wp_seq ?_
             refine wp_region_lit ?_
             have hE := Env.refl a320 [3, 4, 5, 6, 7, 8, 9, 10, 11, 12]
             refine zm 3 hE k e0 ?_
             intro a321 hE e3 kp
             refine sd 4 hE k (Z05 (Z0j rfl e3 rfl) (decide_eq_true (by omega))) ?_
             intro a322 hE e4 kp
             refine sd 5 hE k (Z02 rfl e4) ?_
             intro a323 hE e5 kp
             apply Z00 6 hE k rfl rfl rfl rfl rfl e5
             case h =>
              exact Z02 rfl (hE.g e0)
             intro a324 hE e6 kp
             replace e5 := kt kp e5
             apply Z00 7 hE k rfl rfl rfl rfl rfl e5
             case h =>
              exact Z05 (Z0y rfl e6 rfl) (decide_eq_false (by omega))
             intro a325 hE e7 kp
             replace e5 := kt kp e5
             refine sd 8 hE k (Z07 rfl e5 e7) ?_
             intro a326 hE e8 kp
             refine sd 9 hE k (Z02 rfl e8) ?_
             intro a327 hE e9 kp
             apply Z00 10 hE k rfl rfl rfl rfl rfl e9
             case h =>
              exact Z02 rfl (hE.g e0)
             intro a328 hE e10 kp
             replace e9 := kt kp e9
             apply Z00 11 hE k rfl rfl rfl rfl rfl e9
             case h =>
              exact Z05 (Z0k rfl e10 rfl) (decide_eq_false (by omega))
             intro a329 hE e11 kp
             replace e9 := kt kp e9
             refine sd 12 hE k (Z06 rfl e9 e11) ?_
             intro a330 hE e12 kp
             refine wpList_nil ?_
             replace e0 := hE.g e0
             replace k := k.env hE
             clear hE
             refine Z01 ?_
             refine Z0b e12 rfl ?_
             refine wp_skip ?_
             refine Z01 (wp_seq ?_)
             refine wp_seq ?_
             refine wp_region_lit ?_
             have hE := Env.refl a330 [13, 14, 15, 16, 17, 18, 19, 20, 21, 22, 23, 24, 25, 26, 27, 28, 29, 30, 31, 32, 33, 34, 35, 36, 37, 38, 39, 40, 41, 42]
             refine zm 13 hE k e0 ?_
             intro a331 hE e13 kp
             refine sd 14 hE k (Z05 (Z0j rfl e13 rfl) (decide_eq_true (by omega))) ?_
             intro a332 hE e14 kp
             refine sd 15 hE k (Z02 rfl e14) ?_
             intro a333 hE e15 kp
             apply Z00 16 hE k rfl rfl rfl rfl rfl e15
             case h =>
              exact Z02 rfl (hE.g e0)
             intro a334 hE e16 kp
             replace e15 := kt kp e15
             apply Z00 17 hE k rfl rfl rfl rfl rfl e15
             case h =>
              exact Z05 (Z0y rfl e16 rfl) (decide_eq_false (by omega))
             intro a335 hE e17 kp
             replace e15 := kt kp e15
             refine sd 18 hE k (Z07 rfl e15 e17) ?_
             intro a336 hE e18 kp
             refine sd 19 hE k (Z02 rfl e18) ?_
             intro a337 hE e19 kp
             apply Z00 20 hE k rfl rfl rfl rfl rfl e19
             case h =>
              exact Z02 rfl (hE.g e0)
             intro a338 hE e20 kp
             replace e19 := kt kp e19
             apply Z00 21 hE k rfl rfl rfl rfl rfl e19
             case h =>
              exact Z05 (Z0j rfl e20 rfl) (decide_eq_false (by omega))
             intro a339 hE e21 kp
             replace e19 := kt kp e19
             apply Z00 22 hE k rfl rfl rfl rfl rfl e19
             case h =>
              exact Z02 rfl e21
             intro a340 hE e22 kp
             replace e19 := kt kp e19
             refine Z04 23 hE k rfl (by rfl) (by rfl) rfl rfl (.inl e22) ?_
             intro a341 hE e23 kp
             replace e19 := kt kp e19; replace e22 := kt kp e22
             refine Z04 24 hE k rfl (by rfl) (by rfl) rfl rfl (.inl e22) ?_
             intro a342 hE e24 kp
             replace e19 := kt kp e19; replace e22 := kt kp e22
             apply Z00 25 hE k rfl rfl rfl rfl rfl e19
             case h =>
              exact Z06 rfl e22 rfl
             intro a343 hE e25 kp
             replace e19 := kt kp e19
             refine sd 26 hE k (Z06 rfl e19 e25) ?_
             intro a344 hE e26 kp
             refine sd 27 hE k (Z02 rfl e26) ?_
             intro a345 hE e27 kp
             apply Z00 28 hE k rfl rfl rfl rfl rfl e27
             case h =>
              exact Z02 rfl (hE.g e0)
             intro a346 hE e28 kp
             replace e27 := kt kp e27
             apply Z00 29 hE k rfl rfl rfl rfl rfl e27
             case h =>
              exact Z05 (Z0j rfl e28 rfl) (decide_eq_false (by omega))
             intro a347 hE e29 kp
             replace e27 := kt kp e27
             apply Z00 30 hE k rfl rfl rfl rfl rfl e27
             case h =>
              exact Z02 rfl e29
             intro a348 hE e30 kp
             replace e27 := kt kp e27
             refine Z04 31 hE k rfl (by rfl) (by rfl) rfl rfl (.inl e30) ?_
             intro a349 hE e31 kp
             replace e27 := kt kp e27; replace e30 := kt kp e30
             refine Z04 32 hE k rfl (by rfl) (by rfl) rfl rfl (.inl e30) ?_
             intro a350 hE e32 kp
             replace e27 := kt kp e27; replace e30 := kt kp e30
             apply Z00 33 hE k rfl rfl rfl rfl rfl e27
             case h =>
              exact Z06 rfl e30 rfl
             intro a351 hE e33 kp
             replace e27 := kt kp e27
             refine sd 34 hE k (Z06 rfl e27 e33) ?_
             intro a352 hE e34 kp
             refine sd 35 hE k (Z02 rfl e34) ?_
             intro a353 hE e35 kp
             apply Z00 36 hE k rfl rfl rfl rfl rfl e35
             case h =>
              exact Z02 rfl (hE.g e0)
             intro a354 hE e36 kp
             replace e35 := kt kp e35
             apply Z00 37 hE k rfl rfl rfl rfl rfl e35
             case h =>
              exact Z05 (Z0j rfl e36 rfl) (decide_eq_false (by omega))
             intro a355 hE e37 kp
             replace e35 := kt kp e35
             apply Z00 38 hE k rfl rfl rfl rfl rfl e35
             case h =>
              exact Z02 rfl e37
             intro a356 hE e38 kp
             replace e35 := kt kp e35
             refine Z04 39 hE k rfl (by rfl) (by rfl) rfl rfl (.inl e38) ?_
             intro a357 hE e39 kp
             replace e35 := kt kp e35; replace e38 := kt kp e38
             refine Z04 40 hE k rfl (by rfl) (by rfl) rfl rfl (.inl e38) ?_
             intro a358 hE e40 kp
             replace e35 := kt kp e35; replace e38 := kt kp e38
             apply Z00 41 hE k rfl rfl rfl rfl rfl e35
             case h =>
              exact Z06 rfl e38 rfl
             intro a359 hE e41 kp
             replace e35 := kt kp e35
             refine sd 42 hE k (Z06 rfl e35 e41) ?_
             intro a360 hE e42 kp
             refine wpList_nil ?_
             replace k := k.env hE
             clear hE e0 e12
             refine Z01 ?_
             refine Z0b e42 rfl ?_
             refine wp_skip ?_
             refine Z01 (wp_seq ?_)
             refine wp_region_lit ?_
             have hE := Env.refl a360 [2]
             refine sd 2 hE k (Z03 rfl rfl) ?_
             intro a361 hE e2 kp
             refine wpList_nil ?_
             replace k := k.env hE
             clear hE e42
             refine Z01 ?_
             refine wp_ret ?_
             refine Z0e rfl k e2 ?_
             exact ⟨congrArg (fun z : Nat => Ending.returned (.int .i64 (z : Int))) (show 1 = wideN r by unfold wideN; rw [if_neg (by omega), if_neg (by omega)]), rfl⟩
       · skip
         refine wp_seq ?_
         refine wp_region_lit ?_
         have hE := Env.refl a1 [2]
         refine sd 2 hE k (Z03 rfl rfl) ?_
         intro a362 hE e2 kp
         refine wpList_nil ?_
         replace e0 := hE.g e0
         replace k := k.env hE
         clear hE e2
         refine Z01 (wp_seq ?_)
         refine wp_seq ?_
         refine wp_region_lit ?_
         have hE := Env.refl a362 [3, 4, 5, 6, 7, 8, 9, 10, 11, 12]
         refine zm 3 hE k e0 ?_
         intro a363 hE e3 kp
         refine sd 4 hE k (Z05 (Z0j rfl e3 rfl) (decide_eq_true (by omega))) ?_
         intro a364 hE e4 kp
         refine sd 5 hE k (Z02 rfl e4) ?_
         intro a365 hE e5 kp
         apply Z00 6 hE k rfl rfl rfl rfl rfl e5
         case h =>
          exact Z02 rfl (hE.g e0)
         intro a366 hE e6 kp
         replace e5 := kt kp e5
         apply Z00 7 hE k rfl rfl rfl rfl rfl e5
         case h =>
          exact Z05 (Z0y rfl e6 rfl) (decide_eq_false (by omega))
         intro a367 hE e7 kp
         replace e5 := kt kp e5
         refine sd 8 hE k (Z07 rfl e5 e7) ?_
         intro a368 hE e8 kp
         refine sd 9 hE k (Z02 rfl e8) ?_
         intro a369 hE e9 kp
         apply Z00 10 hE k rfl rfl rfl rfl rfl e9
         case h =>
          exact Z02 rfl (hE.g e0)
         intro a370 hE e10 kp
         replace e9 := kt kp e9
         apply Z00 11 hE k rfl rfl rfl rfl rfl e9
         case h =>
          exact Z05 (Z0k rfl e10 rfl) (decide_eq_false (by omega))
         intro a371 hE e11 kp
         replace e9 := kt kp e9
         refine sd 12 hE k (Z06 rfl e9 e11) ?_
         intro a372 hE e12 kp
         refine wpList_nil ?_
         replace e0 := hE.g e0
         replace k := k.env hE
         clear hE
         refine Z01 ?_
         refine Z0b e12 rfl ?_
         refine wp_skip ?_
         refine Z01 (wp_seq ?_)
         refine wp_seq ?_
         refine wp_region_lit ?_
         have hE := Env.refl a372 [13, 14, 15, 16, 17, 18, 19, 20, 21, 22, 23, 24, 25, 26, 27, 28, 29, 30, 31, 32, 33, 34, 35, 36, 37, 38, 39, 40, 41, 42]
         refine zm 13 hE k e0 ?_
         intro a373 hE e13 kp
         refine sd 14 hE k (Z05 (Z0j rfl e13 rfl) (decide_eq_false (by omega))) ?_
         intro a374 hE e14 kp
         refine sd 15 hE k (Z02 rfl e14) ?_
         intro a375 hE e15 kp
         refine Z04 16 hE k rfl (by rfl) (by rfl) rfl rfl (.inl e15) ?_
         intro a376 hE e16 kp
         replace e15 := kt kp e15
         refine Z04 17 hE k rfl (by rfl) (by rfl) rfl rfl (.inl e15) ?_
         intro a377 hE e17 kp
         replace e15 := kt kp e15
         refine sd 18 hE k (Z06 rfl e15 rfl) ?_
         intro a378 hE e18 kp
         refine sd 19 hE k (Z02 rfl e18) ?_
         intro a379 hE e19 kp
         apply Z00 20 hE k rfl rfl rfl rfl rfl e19
         case h =>
          exact Z02 rfl (hE.g e0)
         intro a380 hE e20 kp
         replace e19 := kt kp e19
         apply Z00 21 hE k rfl rfl rfl rfl rfl e19
         case h =>
          exact Z05 (Z0j rfl e20 rfl) (decide_eq_false (by omega))
         intro a381 hE e21 kp
         replace e19 := kt kp e19
         apply Z00 22 hE k rfl rfl rfl rfl rfl e19
         case h =>
          exact Z02 rfl e21
         intro a382 hE e22 kp
         replace e19 := kt kp e19
         refine Z04 23 hE k rfl (by rfl) (by rfl) rfl rfl (.inl e22) ?_
         intro a383 hE e23 kp
         replace e19 := kt kp e19; replace e22 := kt kp e22
         refine Z04 24 hE k rfl (by rfl) (by rfl) rfl rfl (.inl e22) ?_
         intro a384 hE e24 kp
         replace e19 := kt kp e19; replace e22 := kt kp e22
         apply Z00 25 hE k rfl rfl rfl rfl rfl e19
         case h =>
          exact Z06 rfl e22 rfl
         intro a385 hE e25 kp
         replace e19 := kt kp e19
         refine sd 26 hE k (Z06 rfl e19 e25) ?_
         intro a386 hE e26 kp
         refine sd 27 hE k (Z02 rfl e26) ?_
         intro a387 hE e27 kp
         apply Z00 28 hE k rfl rfl rfl rfl rfl e27
         case h =>
          exact Z02 rfl (hE.g e0)
         intro a388 hE e28 kp
         replace e27 := kt kp e27
         apply Z00 29 hE k rfl rfl rfl rfl rfl e27
         case h =>
          exact Z05 (Z0j rfl e28 rfl) (decide_eq_false (by omega))
         intro a389 hE e29 kp
         replace e27 := kt kp e27
         apply Z00 30 hE k rfl rfl rfl rfl rfl e27
         case h =>
          exact Z02 rfl e29
         intro a390 hE e30 kp
         replace e27 := kt kp e27
         refine Z04 31 hE k rfl (by rfl) (by rfl) rfl rfl (.inl e30) ?_
         intro a391 hE e31 kp
         replace e27 := kt kp e27; replace e30 := kt kp e30
         refine Z04 32 hE k rfl (by rfl) (by rfl) rfl rfl (.inl e30) ?_
         intro a392 hE e32 kp
         replace e27 := kt kp e27; replace e30 := kt kp e30
         apply Z00 33 hE k rfl rfl rfl rfl rfl e27
         case h =>
          exact Z06 rfl e30 rfl
         intro a393 hE e33 kp
         replace e27 := kt kp e27
         refine sd 34 hE k (Z06 rfl e27 e33) ?_
         intro a394 hE e34 kp
         refine sd 35 hE k (Z02 rfl e34) ?_
         intro a395 hE e35 kp
         apply Z00 36 hE k rfl rfl rfl rfl rfl e35
         case h =>
          exact Z02 rfl (hE.g e0)
         intro a396 hE e36 kp
         replace e35 := kt kp e35
         apply Z00 37 hE k rfl rfl rfl rfl rfl e35
         case h =>
          exact Z05 (Z0j rfl e36 rfl) (decide_eq_false (by omega))
         intro a397 hE e37 kp
         replace e35 := kt kp e35
         apply Z00 38 hE k rfl rfl rfl rfl rfl e35
         case h =>
          exact Z02 rfl e37
         intro a398 hE e38 kp
         replace e35 := kt kp e35
         refine Z04 39 hE k rfl (by rfl) (by rfl) rfl rfl (.inl e38) ?_
         intro a399 hE e39 kp
         replace e35 := kt kp e35; replace e38 := kt kp e38
         refine Z04 40 hE k rfl (by rfl) (by rfl) rfl rfl (.inl e38) ?_
         intro a400 hE e40 kp
         replace e35 := kt kp e35; replace e38 := kt kp e38
         apply Z00 41 hE k rfl rfl rfl rfl rfl e35
         case h =>
          exact Z06 rfl e38 rfl
         intro a401 hE e41 kp
         replace e35 := kt kp e35
         refine sd 42 hE k (Z06 rfl e35 e41) ?_
         intro a402 hE e42 kp
         refine wpList_nil ?_
         replace k := k.env hE
         clear hE e0 e12
         refine Z01 ?_
         refine Z0b e42 rfl ?_
         refine wp_skip ?_
         refine Z01 (wp_seq ?_)
         refine wp_region_lit ?_
         have hE := Env.refl a402 [2]
         refine sd 2 hE k (Z03 rfl rfl) ?_
         intro a403 hE e2 kp
         refine wpList_nil ?_
         replace k := k.env hE
         clear hE e42
         refine Z01 ?_
         refine wp_ret ?_
         refine Z0e rfl k e2 ?_
         exact ⟨congrArg (fun z : Nat => Ending.returned (.int .i64 (z : Int))) (show 1 = wideN r by unfold wideN; rw [if_neg (by omega), if_neg (by omega)]), rfl⟩
 · skip
   refine wp_seq ?_
   refine wp_region_lit ?_
   have hE := Env.refl a1 [2]
   refine sd 2 hE k (Z03 rfl rfl) ?_
   intro a404 hE e2 kp
   refine wpList_nil ?_
   replace e0 := hE.g e0
   replace k := k.env hE
   clear hE e2
   refine Z01 (wp_seq ?_)
   refine wp_seq ?_
   refine wp_region_lit ?_
   have hE := Env.refl a404 [3, 4, 5, 6, 7, 8, 9, 10, 11, 12]
   refine zm 3 hE k e0 ?_
   intro a405 hE e3 kp
   refine sd 4 hE k (Z05 (Z0j rfl e3 rfl) (decide_eq_false (by omega))) ?_
   intro a406 hE e4 kp
   refine sd 5 hE k (Z02 rfl e4) ?_
   intro a407 hE e5 kp
   refine Z04 6 hE k rfl (by rfl) (by rfl) rfl rfl (.inl e5) ?_
   intro a408 hE e6 kp
   replace e5 := kt kp e5
   refine Z04 7 hE k rfl (by rfl) (by rfl) rfl rfl (.inl e5) ?_
   intro a409 hE e7 kp
   replace e5 := kt kp e5
   refine sd 8 hE k (Z06 rfl e5 rfl) ?_
   intro a410 hE e8 kp
   refine sd 9 hE k (Z02 rfl e8) ?_
   intro a411 hE e9 kp
   apply Z00 10 hE k rfl rfl rfl rfl rfl e9
   case h =>
    exact Z02 rfl (hE.g e0)
   intro a412 hE e10 kp
   replace e9 := kt kp e9
   apply Z00 11 hE k rfl rfl rfl rfl rfl e9
   case h =>
    exact Z05 (Z0k rfl e10 rfl) (decide_eq_false (by omega))
   intro a413 hE e11 kp
   replace e9 := kt kp e9
   refine sd 12 hE k (Z06 rfl e9 e11) ?_
   intro a414 hE e12 kp
   refine wpList_nil ?_
   replace e0 := hE.g e0
   replace k := k.env hE
   clear hE
   refine Z01 ?_
   refine Z0b e12 rfl ?_
   refine wp_skip ?_
   refine Z01 (wp_seq ?_)
   refine wp_seq ?_
   refine wp_region_lit ?_
   have hE := Env.refl a414 [13, 14, 15, 16, 17, 18, 19, 20, 21, 22, 23, 24, 25, 26, 27, 28, 29, 30, 31, 32, 33, 34, 35, 36, 37, 38, 39, 40, 41, 42]
   refine zm 13 hE k e0 ?_
   intro a415 hE e13 kp
   refine sd 14 hE k (Z05 (Z0j rfl e13 rfl) (decide_eq_false (by omega))) ?_
   intro a416 hE e14 kp
   refine sd 15 hE k (Z02 rfl e14) ?_
   intro a417 hE e15 kp
   refine Z04 16 hE k rfl (by rfl) (by rfl) rfl rfl (.inl e15) ?_
   intro a418 hE e16 kp
   replace e15 := kt kp e15
   refine Z04 17 hE k rfl (by rfl) (by rfl) rfl rfl (.inl e15) ?_
   intro a419 hE e17 kp
   replace e15 := kt kp e15
   refine sd 18 hE k (Z06 rfl e15 rfl) ?_
   intro a420 hE e18 kp
   refine sd 19 hE k (Z02 rfl e18) ?_
   intro a421 hE e19 kp
   apply Z00 20 hE k rfl rfl rfl rfl rfl e19
   case h =>
    exact Z02 rfl (hE.g e0)
   intro a422 hE e20 kp
   replace e19 := kt kp e19
   apply Z00 21 hE k rfl rfl rfl rfl rfl e19
   case h =>
    exact Z05 (Z0j rfl e20 rfl) (decide_eq_false (by omega))
   intro a423 hE e21 kp
   replace e19 := kt kp e19
   apply Z00 22 hE k rfl rfl rfl rfl rfl e19
   case h =>
    exact Z02 rfl e21
   intro a424 hE e22 kp
   replace e19 := kt kp e19
   refine Z04 23 hE k rfl (by rfl) (by rfl) rfl rfl (.inl e22) ?_
   intro a425 hE e23 kp
   replace e19 := kt kp e19; replace e22 := kt kp e22
   refine Z04 24 hE k rfl (by rfl) (by rfl) rfl rfl (.inl e22) ?_
   intro a426 hE e24 kp
   replace e19 := kt kp e19; replace e22 := kt kp e22
   apply Z00 25 hE k rfl rfl rfl rfl rfl e19
   case h =>
    exact Z06 rfl e22 rfl
   intro a427 hE e25 kp
   replace e19 := kt kp e19
   refine sd 26 hE k (Z06 rfl e19 e25) ?_
   intro a428 hE e26 kp
   refine sd 27 hE k (Z02 rfl e26) ?_
   intro a429 hE e27 kp
   apply Z00 28 hE k rfl rfl rfl rfl rfl e27
   case h =>
    exact Z02 rfl (hE.g e0)
   intro a430 hE e28 kp
   replace e27 := kt kp e27
   apply Z00 29 hE k rfl rfl rfl rfl rfl e27
   case h =>
    exact Z05 (Z0j rfl e28 rfl) (decide_eq_false (by omega))
   intro a431 hE e29 kp
   replace e27 := kt kp e27
   apply Z00 30 hE k rfl rfl rfl rfl rfl e27
   case h =>
    exact Z02 rfl e29
   intro a432 hE e30 kp
   replace e27 := kt kp e27
   refine Z04 31 hE k rfl (by rfl) (by rfl) rfl rfl (.inl e30) ?_
   intro a433 hE e31 kp
   replace e27 := kt kp e27; replace e30 := kt kp e30
   refine Z04 32 hE k rfl (by rfl) (by rfl) rfl rfl (.inl e30) ?_
   intro a434 hE e32 kp
   replace e27 := kt kp e27; replace e30 := kt kp e30
   apply Z00 33 hE k rfl rfl rfl rfl rfl e27
   case h =>
    exact Z06 rfl e30 rfl
   intro a435 hE e33 kp
   replace e27 := kt kp e27
   refine sd 34 hE k (Z06 rfl e27 e33) ?_
   intro a436 hE e34 kp
   refine sd 35 hE k (Z02 rfl e34) ?_
   intro a437 hE e35 kp
   apply Z00 36 hE k rfl rfl rfl rfl rfl e35
   case h =>
    exact Z02 rfl (hE.g e0)
   intro a438 hE e36 kp
   replace e35 := kt kp e35
   apply Z00 37 hE k rfl rfl rfl rfl rfl e35
   case h =>
    exact Z05 (Z0j rfl e36 rfl) (decide_eq_false (by omega))
   intro a439 hE e37 kp
   replace e35 := kt kp e35
   apply Z00 38 hE k rfl rfl rfl rfl rfl e35
   case h =>
    exact Z02 rfl e37
   intro a440 hE e38 kp
   replace e35 := kt kp e35
   refine Z04 39 hE k rfl (by rfl) (by rfl) rfl rfl (.inl e38) ?_
   intro a441 hE e39 kp
   replace e35 := kt kp e35; replace e38 := kt kp e38
   refine Z04 40 hE k rfl (by rfl) (by rfl) rfl rfl (.inl e38) ?_
   intro a442 hE e40 kp
   replace e35 := kt kp e35; replace e38 := kt kp e38
   apply Z00 41 hE k rfl rfl rfl rfl rfl e35
   case h =>
    exact Z06 rfl e38 rfl
   intro a443 hE e41 kp
   replace e35 := kt kp e35
   refine sd 42 hE k (Z06 rfl e35 e41) ?_
   intro a444 hE e42 kp
   refine wpList_nil ?_
   replace k := k.env hE
   clear hE e0 e12
   refine Z01 ?_
   refine Z0b e42 rfl ?_
   refine wp_skip ?_
   refine Z01 (wp_seq ?_)
   refine wp_region_lit ?_
   have hE := Env.refl a444 [2]
   refine sd 2 hE k (Z03 rfl rfl) ?_
   intro a445 hE e2 kp
   refine wpList_nil ?_
   replace k := k.env hE
   clear hE e42
   refine Z01 ?_
   refine wp_ret ?_
   refine Z0e rfl k e2 ?_
   exact ⟨congrArg (fun z : Nat => Ending.returned (.int .i64 (z : Int))) (show 1 = wideN r by unfold wideN; rw [if_neg (by omega), if_neg (by omega)]), rfl⟩
set_option maxRecDepth 100000 in
set_option maxHeartbeats 4000000 in
theorem Z2y {R : List (Nat × Nat)} {i : Nat} {x : Nat × Nat} (h : R[i]? = some x) : widthR (R.take (i + 1)) = widthR (R.take i) + wideN x.1 := by
 unfold widthR
 rw [List.take_add_one, h]
 simp
theorem Z2e (R : List (Nat × Nat)) : ∀ i, widthR (R.take i) ≤ 2 * i
 | 0 => by simp [widthR]
 | i + 1 => by
  have ih := Z2e R i
  cases h : R[i]? with
  | none =>
   rw [List.take_add_one, h]
   simp only [Option.toList_none, List.append_nil]
   omega
  | some x =>
   rw [Z2y h]
   have := Z2f x.1
   omega
set_option maxRecDepth 100000 in
set_option maxHeartbeats 4000000 in
theorem Z1x (l : Tx) (W0 : World) (hl : l.length ≤ 100000) : Calls Tryd.prog 12 #[.string (sB l)] W0 fun e w' => e = .returned (.int .i64 ((widthL l : Nat) : Int)) ∧ Ext W0 w' := by
 have O := OwnT.start W0
 have hrl := Z1r l.length l (Nat.le_refl _)
 have hrm := Z3e l.length l (Nat.le_refl _)

 refine Z0m Tryd.func12 rfl 26 rfl (by rfl) ?_
 intro a1 k hargs
 have e0 : a1.eval (.tmp 0) = .string (sB l) := hargs 0 _ rfl
 clear hargs
 refine wp_seq ?_
 refine wp_region_lit ?_
 have hE := Env.refl a1 [2]
 refine sd 2 hE k (Z03 rfl rfl) ?_
 intro a2 hE e2 kp
 refine wpList_nil ?_
 replace e0 := hE.g e0
 replace k := k.env hE
 clear hE e2
 refine Z01 (wp_seq ?_)
 refine wp_region_lit ?_
 have hE := Env.refl a2 [8, 9, 7, 10, 11, 3, 4]
 refine zm 8 hE k e0 ?_
 intro a3 hE e8 kp
 apply Z0d 9 hE k rfl (by rfl) (by rfl) rfl
 case h =>
  simp [go_sem, ↓IntWalk.iteOmega, ev e8]
  with_reducible exact ⟨rfl, rfl⟩
 case hc => exact Z32 l _ hl
 rintro e w5 ⟨B1, c1, B2, c2, rfl, r1, r2, RE⟩
 have hw := Ext.refl w5
 replace O := OwnT.ext O RE
 refine ⟨_, rfl, ?_⟩
 intro a4 hE e9 kp
 refine sd 7 hE k (Z02 rfl e9) ?_
 intro a6 hE e7 kp
 apply Z08 10 hE k rfl rfl rfl rfl
 case h =>
  simp [go_sem, ↓IntWalk.iteOmega, ev e7]
  with_reducible rfl
 intro a7 hE e10 kp
 replace e7 := kt kp e7
 apply Z08 11 hE k rfl rfl rfl rfl
 case h =>
  simp [go_sem, ↓IntWalk.iteOmega, ev e7]
  with_reducible rfl
 intro a8 hE e11 kp
 replace e10 := kt kp e10
 refine sd 3 hE k (Z03 rfl e10) ?_
 intro a9 hE e3 kp
 replace e11 := kt kp e11
 refine sd 4 hE k (Z03 rfl e11) ?_
 intro a10 hE e4 kp
 replace e3 := kt kp e3
 refine wpList_nil ?_
 replace k := k.env hE
 clear hE e0 e4
 refine Z01 ?_
 obtain ⟨R, hR_⟩ : ∃ R, runesL l = R := ⟨_, rfl⟩
 have hwR : widthL l = widthR R := by unfold widthL; rw [hR_]
 rw [hR_] at hrl hrm r1 r2
 rw [hR_] at e3
 refine wp_seq ?_
 refine wp_region_lit ?_
 have hE := Env.refl a10 [5]
 refine sd 5 hE k (Z03 rfl rfl) ?_
 intro a11 hE e5 kp
 refine wpList_nil ?_
 replace e3 := hE.g e3
 replace k := k.env hE
 clear hE
 refine Z01 (wp_seq ?_)
 refine wp_seq ?_
 refine wp_region_lit ?_
 have hE := Env.refl a11 [6]
 refine sd 6 hE k (Z03 rfl rfl) ?_
 intro a12 hE e6 kp
 refine wpList_nil ?_
 replace e3 := hE.g e3; replace e5 := hE.g e5
 replace k := k.env hE
 clear hE
 refine Z01 ?_
 refine wp_block ?_
 refine wp_loop (fun a w => Fr 26 a ∧ a.eval (.tmp 3) = .slice B1 R.length c1 ∧ ∃ (i : Nat), a.eval (.tmp 5) = .int .i64 (↑(widthR (R.take i))) ∧ a.eval (.tmp 6) = .int .i64 ↑i ∧ i ≤ R.length ∧ Ext w5 w ∧ OwnT W0.heap.size W0 [] w) (fun a w => R.length - (intOf (a.eval (.tmp 6))).toNat) ?_ ?_
 · exact ⟨k, e3, 0, e5, e6, Nat.zero_le _, hw, O⟩
 intro a13 w14 hI
 clear k e3
 obtain ⟨k, e3, h_⟩ := hI
 clear O hw e5 e6
 obtain ⟨i, e5, e6, hi, hw, O⟩ := h_
 have mi := e6
 have hwt := Z2e R i

 by_cases hlt : i < R.length
 · have hzI : (i : Int) < (R.length : Int) := by omega
   obtain ⟨x, hx⟩ : ∃ x, R[i]? = some x := ⟨_, List.getElem?_eq_getElem hlt⟩
   obtain ⟨b, o, hA, hc⟩ := Z1e r1 hx
   subst hA
   have hws := Z2y hx
   have hw2 := Z2f x.1

   refine wp_seq ?_
   refine wp_seq ?_
   refine wp_region_lit ?_
   have hE := Env.refl a13 [12, 13, 14, 15]
   refine zm 12 hE k e6 ?_
   intro a15 hE e12 kp
   refine zm 13 hE k e3 ?_
   intro a16 hE e13 kp
   replace e12 := kt kp e12
   refine sd 14 hE k (Z0g Tryd.underlying54 rfl e13) ?_
   intro a17 hE e14 kp
   replace e12 := kt kp e12
   refine sd 15 hE k (Z05 (Z0c rfl e12 e14) (decide_eq_true (by omega))) ?_
   intro a18 hE e15 kp
   refine wpList_nil ?_
   replace e3 := hE.g e3; replace e5 := hE.g e5; replace e6 := hE.g e6
   replace k := k.env hE
   clear hE
   refine Z01 ?_
   refine Z09 e15 rfl ?_
   refine wp_skip ?_
   refine Z01 (wp_seq ?_)
   refine wp_block ?_
   refine wp_region_lit ?_
   have hE := Env.refl a18 [18, 19, 20, 21, 22, 23, 24, 5]
   refine sd 18 hE k (Z02 rfl e5) ?_
   intro a19 hE e18 kp
   replace e5 := kt kp e5
   refine zm 19 hE k e3 ?_
   intro a20 hE e19 kp
   replace e5 := kt kp e5; replace e18 := kt kp e18
   refine zm 20 hE k e6 ?_
   intro a21 hE e20 kp
   replace e5 := kt kp e5; replace e18 := kt kp e18; replace e19 := kt kp e19
   apply Z08 21 hE k rfl rfl rfl rfl
   case h =>
    simp [go_sem, ↓IntWalk.iteOmega, ev e19, ev e20]
    with_reducible rfl
   intro a22 hE e21 kp
   replace e5 := kt kp e5; replace e18 := kt kp e18
   apply Z08 22 hE k rfl rfl rfl rfl
   case h =>
    simp [go_sem, ↓IntWalk.iteOmega, ev e21, hc _ hw i x hx, ruE]
    with_reducible rfl
   intro a23 hE e22 kp
   replace e5 := kt kp e5; replace e18 := kt kp e18
   apply Z0d 23 hE k rfl (by rfl) (by rfl) rfl
   case h =>
    simp [go_sem, ↓IntWalk.iteOmega, ev e22]
    with_reducible exact ⟨rfl, rfl⟩
   case hc => exact Z5q x.1 _
   rintro e _ ⟨rfl, rfl⟩
   refine ⟨_, rfl, ?_⟩
   intro a24 hE e23 kp
   replace e5 := kt kp e5; replace e18 := kt kp e18
   refine sd 24 hE k (Z0z rfl e18 e23 (by omega)) ?_
   intro a25 hE e24 kp
   replace e5 := kt kp e5
   replace e24 := e24.trans (Z0q (show ((widthR (R.take i) : Nat) : Int) + (wideN x.1 : Int) = ((widthR (R.take (i + 1)) : Nat) : Int) by omega))
   refine sd 5 hE k (Z03 rfl e24) ?_
   intro a26 hE e5 kp
   refine wpList_nil ?_
   replace e3 := hE.g e3; replace e6 := hE.g e6
   replace k := k.env hE
   clear hE e15
   refine Z0i ?_
   refine Z01 ?_
   refine wp_region_lit ?_
   have hE := Env.refl a26 [16, 17, 6]
   refine sd 16 hE k (Z02 rfl e6) ?_
   intro a27 hE e16 kp
   replace e6 := kt kp e6
   refine sd 17 hE k (Z0z rfl e16 rfl (by omega)) ?_
   intro a28 hE e17 kp
   replace e6 := kt kp e6
   refine sd 6 hE k (Z03 rfl e17) ?_
   intro a29 hE e6 kp
   refine wpList_nil ?_
   replace e3 := hE.g e3; replace e5 := hE.g e5
   replace k := k.env hE
   clear hE
   refine Z01 ?_
   refine ⟨⟨k, e3, i + 1, e5, e6, by omega, hw, O⟩, ?_⟩
   rw [e6, mi]; simp only [intOf]; omega
 · have hzI : ¬ (i : Int) < (R.length : Int) := by omega
   rw [List.take_of_length_le (by omega)] at e5
   refine wp_seq ?_
   refine wp_seq ?_
   refine wp_region_lit ?_
   have hE := Env.refl a13 [12, 13, 14, 15]
   refine zm 12 hE k e6 ?_
   intro a30 hE e12 kp
   refine zm 13 hE k e3 ?_
   intro a31 hE e13 kp
   replace e12 := kt kp e12
   refine sd 14 hE k (Z0g Tryd.underlying54 rfl e13) ?_
   intro a32 hE e14 kp
   replace e12 := kt kp e12
   refine sd 15 hE k (Z05 (Z0c rfl e12 e14) (decide_eq_false (by omega))) ?_
   intro a33 hE e15 kp
   refine wpList_nil ?_
   replace e3 := hE.g e3; replace e5 := hE.g e5; replace e6 := hE.g e6
   replace k := k.env hE
   clear hE
   refine Z01 ?_
   refine Z0b e15 rfl ?_
   refine wp_exit ?_
   refine Z0f ?_
   refine Z0f ?_
   refine Z0l ?_
   refine Z01 (wp_seq ?_)
   refine wp_region_lit ?_
   have hE := Env.refl a33 [25, 2]
   refine zm 25 hE k e5 ?_
   intro a34 hE e25 kp
   refine sd 2 hE k (Z03 rfl e25) ?_
   intro a35 hE e2 kp
   refine wpList_nil ?_
   replace k := k.env hE
   clear hE e3 e5 e6 e15
   refine Z01 ?_
   refine wp_ret ?_
   refine Z0e rfl k e2 ?_
   exact ⟨by rw [hwR], O.below⟩
end Go.Proofs.YtgdlnfljfiageaaDoor
