/- ship: Look and Take of any bytes (by the machine). -/
import Derived.Test.YtbfgacmfjfbooaaKShipExact10
import Derived.Test.YtbfgacmfjfbooaaKShipExact08
import Derived.Laws.StructEq
import Derived.Test.YtbfgacmfjfbooaaKShipExact05
import Derived.Test.YtbfgacmfjfbooaaKShipExact04
namespace Go.Proofs.Ytbfgacmfjfbooaa
set_option linter.unusedVariables false
set_option linter.unusedSimpArgs false
set_option linter.unusedVariables false
set_option linter.unusedSimpArgs false
open Go.RowKit

theorem Z25 {l : List UInt8} {k n was is : Nat} {L : List (Nat × ByteArray)} (h : rdS l = some (k, n, was, is, L)) : goodS k n was is L = true ∧ k < 256 := by
  unfold rdS at h
  simp only at h
  split at h
  · split at h
    · split at h
      · rename_i hg
        cases h
        exact ⟨hg, UInt8.toNat_lt _⟩
      · cases h
    · cases h
  · cases h
abbrev OSt := Option (Nat × Nat × Nat × Nat × List (Nat × ByteArray))
def lkV : OSt → Value
  | none => .tuple #[zP, .int .i64 3]
  | some (k, n, was, is, _) => .tuple #[streamV k n was is, .int .i64 0]
def tkV (b : List UInt8) : OSt → Value
  | none => .tuple #[.string ⟨#[]⟩, .int .i64 3]
  | some (k, n, was, is, L) => if (takeS k n was is L b).2 = true then .tuple #[.string (sB (takeS k n was is L b).1), .int .i64 0] else .tuple #[.string ⟨#[]⟩, .int .i64 11]
set_option maxRecDepth 10000 in
theorem plookE (l : List UInt8) (w0 : World) (hl : l.length ≤ 10000) :
    Calls Try.prog 9 #[.string (sB l)] w0 fun e w' => e = .returned (lkV (prdS l)) ∧ Ext w0 w' := by
  refine fnG (OwnT.start w0) 15 Try.func9 rfl rfl rfl fun a h => ?_
  refine gX h [] rfl fun a w h => ?_
  refine gW h rfl fun g2 a w E h => ?_
  refine gX h [] rfl fun a w h => ?_
  refine gC h rfl (preadE l w h.O hl) ?_
  intro e w hP
  cases hp : prdS l with
  | none =>
    rw [hp] at hP
    obtain ⟨rfl, O2⟩ := hP
    refine ⟨_, rfl, _, O2, trivial, fun a h => ?_⟩
    refine gX h [] rfl fun a w h => ?_
    refine gW h rfl fun g4 a w E h => ?_
    refine gX h [0, 0, 1] rfl fun a w h => ?_
    exact rtG Z07 h [1] rfl ⟨rfl, trivial⟩ ⟨rfl, h.O.below⟩
  | some x =>
    obtain ⟨k, n, was, is, L⟩ := x
    rw [hp] at hP
    obtain ⟨v, rfl, O2⟩ := hP
    refine ⟨_, rfl, _, O2, trivial, fun a h => ?_⟩
    refine gX h [] rfl fun a w h => ?_
    refine gW h rfl fun g4 a w E h => ?_
    refine gX h [0, 0, 2] rfl fun a w h => ?_
    exact rtG Z07 h [2] rfl ⟨rfl, trivial⟩ ⟨rfl, h.O.below⟩
set_option maxRecDepth 10000 in
theorem ptakeE (b l : List UInt8) (w0 : World) (hb : b.length ≤ 1000000) (hl : l.length ≤ 10000) :
    Calls Try.prog 10 #[.string (sB b), .string (sB l)] w0 fun e w' => e = .returned (tkV b (prdS l)) ∧ Ext w0 w' := by
  refine fnG (OwnT.start w0) 54 Try.func10 rfl rfl rfl fun a h => ?_
  refine gX h [] rfl fun a w h => ?_
  refine gC h rfl (preadE l w h.O hl) ?_
  intro e w hP
  cases hp : prdS l with
  | none =>
    rw [hp] at hP
    obtain ⟨rfl, O2⟩ := hP
    refine ⟨_, rfl, _, O2, trivial, fun a h => ?_⟩
    refine gX h [] rfl fun a w h => ?_
    refine gW h rfl fun g4 a w E h => ?_
    refine gX h [0, .t] rfl fun a w h => ?_
    exact gR h rfl ⟨rfl, h.O.below⟩
  | some x =>
  obtain ⟨k, n, was, is, L⟩ := x
  rw [hp] at hP
  obtain ⟨v, rfl, O2⟩ := hP
  obtain ⟨hg, hk⟩ := Z25 ((Z0d l).symm.trans hp)
  have hG : GoodS k n was is L := by simpa [goodS] using hg
  have hin := Z62 hG.2.2.1 hG.2.2.2.1
  have hle := Z1z hG.2.2.1 hG.2.2.2.1
  have hfi := Z4m hG.2.2.1 hG.2.2.2.1
  have hn := hG.2.1
  have hx : ∀ x ∈ L, x.1 ≤ 1099511627776 ∧ x.2.size ≤ 1099511627776 := fun x hx => by have := hin x hx; omega
  obtain ⟨B, c, hv, -⟩ := Z1d (enc := xC) (k := 2) (X := L) (fun _ => rfl) (by omega) (show World.ownsRow _ 0 _ _ _ _ (L.flatMap xC) from O2.all.1)
  subst hv
  refine ⟨_, rfl, _, O2, trivial, fun a h => ?_⟩
  have hrow : ∀ {w g}, OwnT w0.heap.size w0 [tBlk g 33 ⟨[.int .i64 k, .int .i64 n, .int .u32 was, .int .u32 is]⟩, tPx (.slice B L.length c) L] w → Row w B 2 xC L := fun O => by
    obtain ⟨B', c', hv, -, -, -, hR⟩ := Z1d (enc := xC) (k := 2) (X := L) (fun _ => rfl) (by omega) (show World.ownsRow _ 0 _ _ _ _ (L.flatMap xC) from O.all.2.1)
    injection hv with h1 h2 h3
    subst h1 h3
    exact hR
  have hal : ∀ s : List UInt8, s.length = 16 * n → (applyL s L).length = 16 * n := fun s hs => by rw [Z1b _ _ (by rw [hs]; exact hfi), hs]
  have CS : ∀ (s : List UInt8), s.length ≤ 1000000 → ∀ g w, OwnT w0.heap.size w0 [tBlk g 33 ⟨[.int .i64 k, .int .i64 n, .int .u32 was, .int .u32 is]⟩, tPx (.slice B L.length c) L] w → Calls Try.prog 18 ⟨[.string (sB s)]⟩ w fun e w' => e = .returned (.int .u32 (crcSum s)) ∧ Ext w w' := fun s hs g w O => Z55 s w (by omega)
  have CA := fun (s : List UInt8) (hs : s.length = 16 * n) (g : Nat) (w : World) (O : OwnT w0.heap.size w0 [tBlk g 33 ⟨[.int .i64 k, .int .i64 n, .int .u32 was, .int .u32 is]⟩, tPx (.slice B L.length c) L] w) => Z57 s n B c L w hs (by omega) (by omega) (hrow O) hx hG.2.2.1 hG.2.2.2.1
  refine gX h [] rfl fun a w h => ?_
  refine gW h rfl fun g4 a w E h => ?_
  replace CS := fun s hs => CS s hs g4
  replace CA := fun s hs => CA s hs g4
  unfold tkV takeS
  by_cases h1 : k = 1
  · have hcs : crcSum (applyL (zrs (16 * n)) L) = is := by have := hG.2.2.2.2; omega
    have hal2 := hal (zrs (16 * n)) (by simp)
    have CA2 := CA (zrs (16 * n)) (by simp)
    have CS2 := CS (applyL (zrs (16 * n)) L) (by omega)
    simp only [if_pos h1, if_true]
    generalize applyL (zrs (16 * n)) L = AP at CA2 CS2 hcs ⊢
    refine gX h [0, .f, 0, .t, 0] rfl fun a w h => ?_
    refine gE h rfl (Z4h n w (by omega)) fun a w E h => ?_
    refine gX h [] rfl fun a w h => ?_
    refine gE h rfl (CA2 w h.O) fun a w E h => ?_
    refine gX h [.k [99]] rfl fun a w h => ?_
    refine gDp Z10 Z07 h 9 [.f, .v (.int .u32 (crcSum AP)), 0, .f] rfl (by (try simp only [AllP, inK, and_true, true_and]) <;> (repeat' apply And.intro) <;> first | exact trivial | rfl | assumption | exact CS2 | omega | (simp; done) | (simp; omega)) rfl (by kernel_rfl) (by kernel_rfl) fun a w E h => ?_
    refine gX h [] rfl fun a w h => ?_
    exact gR h rfl ⟨rfl, h.O.below⟩
  · simp only [if_neg h1]
    refine gX h [0, .f, 0, .f, .k [99]] rfl fun a w h => ?_
    by_cases h2 : b.length = 16 * n
    rotate_left
    · simp only [if_neg fun h : b.length = 16 * n ∧ crcSum b = was => h2 h.1, Bool.false_eq_true, if_false]
      refine gDp Z10 Z07 h 13 [vi b.length, 0, vi n, vi (n * 16 : Nat), .t] rfl (by (try simp only [AllP, inK, and_true, true_and]) <;> (repeat' apply And.intro) <;> first | exact trivial | rfl | assumption | omega | (simp; done) | (simp; omega)) rfl (by kernel_rfl) (by kernel_rfl) fun a w E h => ?_
      refine gX h [] rfl fun a w h => ?_
      exact gR h rfl ⟨rfl, h.O.below⟩
    have C5 := CS b hb
    generalize crcSum b = cl at C5 ⊢
    by_cases h3 : cl = was
    rotate_left
    · simp only [if_neg fun h : b.length = 16 * n ∧ cl = was => h3 h.2, Bool.false_eq_true, if_false]
      refine gDp Z10 Z07 h 13 [vi b.length, 0, vi n, vi (n * 16 : Nat), .f, .v (.int .u32 cl), 0, .t] rfl (by (try simp only [AllP, inK, and_true, true_and]) <;> (repeat' apply And.intro) <;> first | exact trivial | rfl | assumption | exact C5 | omega | (simp; done) | (simp; omega)) rfl (by kernel_rfl) (by kernel_rfl) fun a w E h => ?_
      refine gX h [] rfl fun a w h => ?_
      exact gR h rfl ⟨rfl, h.O.below⟩
    simp only [if_pos (⟨h2, h3⟩ : b.length = 16 * n ∧ cl = was)]
    refine gDp Z10 Z07 h 13 [vi b.length, 0, vi n, vi (n * 16 : Nat), .f, .v (.int .u32 cl), 0, .f] rfl (by (try simp only [AllP, inK, and_true, true_and]) <;> (repeat' apply And.intro) <;> first | exact trivial | rfl | assumption | exact C5 | omega | (simp; done) | (simp; omega)) rfl (by kernel_rfl) (by kernel_rfl) fun a w E h => ?_
    have hal2 := hal b h2
    have CA2 := CA b h2
    have CS2 := CS (applyL b L) (by omega)
    generalize applyL b L = AP at CA2 CS2 hal2 ⊢
    refine gX h [] rfl fun a w h => ?_
    refine gE h rfl (CA2 w h.O) fun a w E h => ?_
    refine gX h [.k [99]] rfl fun a w h => ?_
    generalize crcSum AP = ca at CS2 ⊢
    by_cases h4 : ca = is
    · simp only [decide_eq_true h4, if_true]
      refine gDp Z10 Z07 h 9 [.f, .v (.int .u32 ca), 0, .f] rfl (by (try simp only [AllP, inK, and_true, true_and]) <;> (repeat' apply And.intro) <;> first | exact trivial | rfl | assumption | exact CS2 | omega | (simp; done) | (simp; omega)) rfl (by kernel_rfl) (by kernel_rfl) fun a w E h => ?_
      refine gX h [] rfl fun a w h => ?_
      exact gR h rfl ⟨rfl, h.O.below⟩
    · simp only [decide_eq_false h4, Bool.false_eq_true, if_false]
      refine gDp Z10 Z07 h 9 [.f, .v (.int .u32 ca), 0, .t] rfl (by (try simp only [AllP, inK, and_true, true_and]) <;> (repeat' apply And.intro) <;> first | exact trivial | rfl | assumption | exact CS2 | omega | (simp; done) | (simp; omega)) rfl (by kernel_rfl) (by kernel_rfl) fun a w E h => ?_
      refine gX h [] rfl fun a w h => ?_
      exact gR h rfl ⟨rfl, h.O.below⟩

/-- A sector of a byte. -/
def secT (b : UInt8) : ByteArray := ⟨(secL b).toArray⟩
theorem Z3b (b : UInt8) : (secT b).size = 16 := (List.size_toArray).trans (Z4e b)
theorem Z2w (f : Nat → UInt8) (n : Nat) (b : UInt8) (h : f n = b) : txt f n ++ secT b = txt f (n + 1) := by rw [← h]; exact txt_succ f n
theorem Z6k (f : Nat → UInt8) : txt f 0 = ⟨#[]⟩ := rfl
/-- What the calls of diff make of texts of sectors. -/
theorem of_txt (f g : Nat → UInt8) (n : Nat) (hn : n ≤ 1000000) (w : World) :
    Calls Try.prog 20 #[.string (txt f n), .string (txt g n)] w fun e w' => ∃ A cap, e = .returned (.tuple #[.slice A (ofTo (txt f n) (txt g n) n).length cap, .int .i64 0]) ∧ Row w' A 2 xC (ofTo (txt f n) (txt g n) n) ∧ Ext w w' := by
  refine (of_same (txt f n) (txt g n) n w (Z09 f n) (Z09 g n) hn).mono ?_
  rintro e w' ⟨v, rfl, hX, hb⟩
  obtain ⟨A, cap, rfl, -, -, hrow⟩ := hX.rows
  exact ⟨A, cap, rfl, hrow, hb⟩
theorem Z21 (f g h : Nat → UInt8) (n : Nat) (hn : n ≤ 1000000) (q : ByteArray) (hq : txt (fun i => if g i = f i then h i else g i) n = q) (A : Option Addr) (len cap : Nat) (w : World) (hlen : (ofTo (txt f n) (txt g n) n).length = len) (hrow : Row w A 2 xC (ofTo (txt f n) (txt g n) n)) :
    Calls Try.prog 28 #[.string (txt h n), .slice A len cap] w fun e w' => e = .returned (.tuple #[.string q, .int .i64 0]) ∧ Ext w w' := by
  have hl := Z13 (txt f n) (txt g n) n
  have := Z42 (txt h n) n A len cap (ofTo (txt f n) (txt g n) n) w (Z09 h n) hn hlen (by omega) hrow (bd_ofTo _ _ n (Z09 g n) hn) (good_ofTo _ _ n (Z09 g n)) (Z0t _ _ n n (Z09 g n) (Nat.le_refl _)).1
  rw [apply_txt f g h n, hq] at this
  exact this
theorem Z3h : ∀ L : List (Nat × ByteArray), (∀ x ∈ L, x.2.size % 16 = 0) → (extsL L).length = 8 * L.length + 16 * sumX L
  | [], _ => rfl
  | x :: L, h => by
    have := Z3h L (fun y hy => h y (by simp [hy]))
    have hx := h x (by simp)
    simp only [extsL, List.length_append, extL_len, List.length_cons, sumX, this]
    omega
/-- The extents between two texts. -/
noncomputable def exts (f g : Nat → UInt8) (n : Nat) : List (Nat × ByteArray) := ofTo (txt f n) (txt g n) n
theorem Z63 (f g : Nat → UInt8) (n : Nat) : ∀ x ∈ exts f g n, x.1 + x.2.size / 16 ≤ n ∧ x.2.size % 16 = 0 ∧ 0 < x.2.size := (Z0t _ _ n n (Z09 g n) (Nat.le_refl _)).1
theorem Z32 (f g : Nat → UInt8) (n : Nat) : (exts f g n).length ≤ n := Z13 _ _ n
theorem Z2j (f g : Nat → UInt8) (n : Nat) : (extsL (exts f g n)).length = 8 * (exts f g n).length + 16 * diffN f g n := by
  rw [Z3h _ (fun x hx => (Z63 f g n x hx).2.1)]
  unfold exts
  rw [Z4v _ _ n n (Z09 g n) (Nat.le_refl _), Z66 f g n n (Nat.le_refl _)]
def crcX (f : Nat → UInt8) (n : Nat) : Nat := crcSum (txtL f n)
theorem Z2k (f : Nat → UInt8) (n : Nat) : crcX f n < 4294967296 := Z0q _
theorem Z1n (f : Nat → UInt8) (n : Nat) (hn : n ≤ 4096) (q : ByteArray) (hq : txt f n = q) (c : Nat) (hc : crcX f n = c) (w : World) : Calls Try.prog 18 #[.string q] w fun e w' => e = .returned (.int .u32 c) ∧ Ext w w' := by
  have hs := Z09 f n
  rw [← hq, ← hc]
  exact Z2d (txt f n) w (by omega)
/-- The stream of changes, and of all. -/
noncomputable def chgL (f g : Nat → UInt8) (n : Nat) : List UInt8 := sealL (strL 2 n (crcX f n) (crcX g n) (exts f g n))
noncomputable def allL (g : Nat → UInt8) (n : Nat) : List UInt8 := sealL (strL 1 n 0 (crcX g n) (exts zf g n))

theorem Z3p (k n was is : Nat) (f g : Nat → UInt8) (m : Nat) (hm : m ≤ 4096) (hk : k < 256) (hn : n < 4294967296) (hwas : was < 4294967296) (his : is < 4294967296) (A : Option Addr) (cap : Nat) (w : World) (hrow : Row w A 2 xC (exts f g m)) :
    Calls Try.prog 21 #[streamV k n was is, .slice A (exts f g m).length cap] w fun e w' => e = .returned (.string ⟨(sealL (strL k n was is (exts f g m))).toArray⟩) ∧ Ext w w' := by
  have h1 := Z32 f g m
  have h2 := Z2j f g m
  have h3 := Z75 f g m
  exact Z4r k n was is A _ cap (exts f g m) w rfl hk hn hwas his (by omega) hrow (fun x hx => by have := Z63 f g m x hx; omega) (by omega)
set_option maxRecDepth 100000 in
set_option maxHeartbeats 4000000 in
theorem send_chg (f g : Nat → UInt8) (n : Nat) (hn : n ≤ 4096) (S T : ByteArray) (hS : txt f n = S) (hT : txt g n = T) (Q : ByteArray) (hQ : (⟨(chgL f g n).toArray⟩ : ByteArray) = Q) (w : World) :
    Calls Try.prog 6 #[.string S, .string T, .bool false] w fun e w' => e = .returned (.tuple #[.string Q, .int .i64 0]) ∧ Ext w w' := by
  obtain ⟨cf, hcf⟩ : ∃ c, crcX f n = c := ⟨_, rfl⟩
  obtain ⟨cg, hcg⟩ : ∃ c, crcX g n = c := ⟨_, rfl⟩
  have HSF := Lib.hid (Z1n f n hn S hS cf hcf)
  have HSG := Lib.hid (Z1n g n hn T hT cg hcg)
  have o := fun W => of_txt f g n (by omega) W
  have ww := fun W A c => Z3p 2 n cf cg f g n hn (by decide) (by omega) (by rw [← hcf]; exact Z2k f n) (by rw [← hcg]; exact Z2k g n) A c W
  have hQ' : (⟨(sealL (strL 2 n cf cg (exts f g n))).toArray⟩ : ByteArray) = Q := by rw [← hQ, ← hcf, ← hcg]; rfl
  rw [hQ'] at ww
  rw [hS, hT] at o
  have hTs : T.size = 16 * n := by rw [← hT]; exact Z09 g n
  have hdv : (T.size : Int) / 16 = (n : Int) := by omega
  have hm : ((T.size : Int) % 16 != 0) = false := by rw [bne_eq_false_iff_eq]; omega
  have hm2 : ((T.size : Int).tmod 16) = 0 := by rw [Int.tmod_eq_emod_of_nonneg (by omega)]; omega
  have hd : decide ((4096 : Int) < (n : Int)) = false := by rw [decide_eq_false_iff_not]; omega
  have e0 : ofTo S T n = exts f g n := by unfold exts; rw [hS, hT]
  rw [e0] at o
  obtain ⟨len, hlen⟩ : ∃ l, (exts f g n).length = l := ⟨_, rfl⟩
  rw [hlen] at o ww
  have HO := Lib.hid o
  have HW := Lib.hid ww
  clear hcf hcg o ww hQ hQ' e0 hlen hS hT
  go_enter Try.func6, Try.ntmps6
  go_wp2_with fail
  refine (HSG.out _).mono ?_
  rintro e w1 ⟨rfl, R1⟩
  have hX := Blk.new w1 33 #[.int .i64 2, .int .i64 n, .int .u32 0, .int .u32 cg]
  have hb1 := Ext.trans R1 (Ext.alloc w1 (.cells #[.int .i64 2, .int .i64 n, .int .u32 0, .int .u32 cg] 33))
  have hz1 := R1.size
  go_wp2_with fail
  refine (HSF.out _).mono ?_
  rintro e w2 ⟨rfl, R2⟩
  have hX2 := hX.ext R2
  have hb2 := hb1.trans R2
  have q2 := hX2.cell 2
  have f2 := hX2.frozen 2
  have hB : Blk (w2.setCell ⟨w1.heap.size, 2, none⟩ (.int .u32 cf)) w1.heap.size 33 #[.int .i64 2, .int .i64 n, .int .u32 cf, .int .u32 cg] ∧ Below w.heap.size w (w2.setCell ⟨w1.heap.size, 2, none⟩ (.int .u32 cf)) := ⟨by simpa using hX2.set_ 2 (.int .u32 cf), Below.setCell hb2 hz1 _⟩
  clear hX hb1 R1 R2 hX2 hb2
  go_upto_region 7 with fail
  clear q2 f2
  generalize w2.setCell ⟨w1.heap.size, 2, none⟩ (.int .u32 cf) = w3 at hB ⊢
  have HB := Lib.hid hB
  go_wp2_with fail
  refine (HO.out _).mono ?_
  rintro e w4 ⟨A, cap, rfl, hrow, R4⟩
  have hX4 := HB.out.1.ext R4
  have hE4 := HB.out.2.trans (R4.mono (by have := HB.out.2.size; omega))
  have k0 := hX4.cell 0
  have k1 := hX4.cell 1
  have k2 := hX4.cell 2
  have k3 := hX4.cell 3
  clear hX4 hB HB
  go_wp2_with fail
  refine (HW.out _ _ _ hrow).mono ?_
  rintro e w5 ⟨rfl, R5⟩
  go_wp2_with fail
  go_ret2
  exact ⟨rfl, Ext.trans hE4 R5⟩
set_option maxRecDepth 100000 in
set_option maxHeartbeats 4000000 in
theorem send_all (g : Nat → UInt8) (n : Nat) (hn : n ≤ 4096) (S T : ByteArray) (hT : txt g n = T) (Q : ByteArray) (hQ : (⟨(allL g n).toArray⟩ : ByteArray) = Q) (w : World) :
    Calls Try.prog 6 #[.string S, .string T, .bool true] w fun e w' => e = .returned (.tuple #[.string Q, .int .i64 0]) ∧ Ext w w' := by
  obtain ⟨cg, hcg⟩ : ∃ c, crcX g n = c := ⟨_, rfl⟩
  obtain ⟨Z, hZ⟩ : ∃ q, txt zf n = q := ⟨_, rfl⟩
  have HSG := Lib.hid (Z1n g n hn T hT cg hcg)
  have HZ := Lib.hid (Z1l n (by omega) Z hZ)
  have o := fun W => of_txt zf g n (by omega) W
  have ww := fun W A c => Z3p 1 n 0 cg zf g n hn (by decide) (by omega) (by decide) (by rw [← hcg]; exact Z2k g n) A c W
  have hQ' : (⟨(sealL (strL 1 n 0 cg (exts zf g n))).toArray⟩ : ByteArray) = Q := by rw [← hQ, ← hcg]; rfl
  rw [hQ'] at ww
  rw [hZ, hT] at o
  have hTs : T.size = 16 * n := by rw [← hT]; exact Z09 g n
  have hdv : (T.size : Int) / 16 = (n : Int) := by omega
  have hm : ((T.size : Int) % 16 != 0) = false := by rw [bne_eq_false_iff_eq]; omega
  have hm2 : ((T.size : Int).tmod 16) = 0 := by rw [Int.tmod_eq_emod_of_nonneg (by omega)]; omega
  have hd : decide ((4096 : Int) < (n : Int)) = false := by rw [decide_eq_false_iff_not]; omega
  have e0 : ofTo Z T n = exts zf g n := by unfold exts; rw [hZ, hT]
  rw [e0] at o
  obtain ⟨len, hlen⟩ : ∃ l, (exts zf g n).length = l := ⟨_, rfl⟩
  rw [hlen] at o ww
  have HO := Lib.hid o
  have HW := Lib.hid ww
  clear hcg o ww hQ hQ' e0 hlen hZ hT
  go_enter Try.func6, Try.ntmps6
  go_wp2_with fail
  refine (HSG.out _).mono ?_
  rintro e w1 ⟨rfl, R1⟩
  have hX := Blk.new w1 33 #[.int .i64 2, .int .i64 n, .int .u32 0, .int .u32 cg]
  have hb1 := Ext.trans R1 (Ext.alloc w1 (.cells #[.int .i64 2, .int .i64 n, .int .u32 0, .int .u32 cg] 33))
  have hz1 := R1.size
  go_wp2_with fail
  refine (HZ.out _).mono ?_
  rintro e w2 ⟨rfl, R2⟩
  have hX2 := hX.ext R2
  have hb2 := hb1.trans R2
  have q0 := hX2.cell 0
  have f0 := hX2.frozen 0
  have hB : Blk (w2.setCell ⟨w1.heap.size, 0, none⟩ (.int .i64 1)) w1.heap.size 33 #[.int .i64 1, .int .i64 n, .int .u32 0, .int .u32 cg] ∧ Below w.heap.size w (w2.setCell ⟨w1.heap.size, 0, none⟩ (.int .i64 1)) := ⟨by simpa using hX2.set_ 0 (.int .i64 1), Below.setCell hb2 hz1 _⟩
  clear hX hb1 R1 R2 hX2 hb2
  go_upto_region 7 with fail
  clear q0 f0
  generalize w2.setCell ⟨w1.heap.size, 0, none⟩ (.int .i64 1) = w3 at hB ⊢
  have HB := Lib.hid hB
  go_wp2_with fail
  refine (HO.out _).mono ?_
  rintro e w4 ⟨A, cap, rfl, hrow, R4⟩
  have hX4 := HB.out.1.ext R4
  have hE4 := HB.out.2.trans (R4.mono (by have := HB.out.2.size; omega))
  have k0 := hX4.cell 0
  have k1 := hX4.cell 1
  have k2 := hX4.cell 2
  have k3 := hX4.cell 3
  clear hX4 hB HB
  go_wp2_with fail
  refine (HW.out _ _ _ hrow).mono ?_
  rintro e w5 ⟨rfl, R5⟩
  go_wp2_with fail
  go_ret2
  exact ⟨rfl, Ext.trans hE4 R5⟩
/-- Texts that are refused: no whole sectors, or of another size. -/
theorem send_odd (S T : ByteArray) (hT : T.size % 16 ≠ 0) (hl : T.size ≤ 60000) (w : World) :
    Calls Try.prog 6 #[.string S, .string T, .bool false] w fun e w' => e = .returned (.tuple #[.string ⟨#[]⟩, .int .i64 1]) ∧ Ext w w' := by
  obtain ⟨c, hc⟩ : ∃ c, crcSum T.data.toList = c := ⟨_, rfl⟩
  have s := fun W => Z2d T W (by omega)
  rw [hc] at s
  have HS := Lib.hid s
  obtain ⟨n, hn⟩ : ∃ n, T.size / 16 = n := ⟨_, rfl⟩
  have hdv : (T.size : Int) / 16 = (n : Int) := by omega
  have hm : ((T.size : Int) % 16 != 0) = true := by rw [bne_iff_ne]; omega
  have hm3 : ((T.size : Int) % 16 == 0) = false := by rw [beq_eq_false_iff_ne]; omega
  have hd : decide ((4096 : Int) < (n : Int)) = false := by rw [decide_eq_false_iff_not]; omega
  clear s hc hn
  go_enter Try.func6, Try.ntmps6
  go_wp2_with fail
  refine (HS.out _).mono ?_
  rintro e w1 ⟨rfl, R1⟩
  have hEx := Ext.trans R1 (Ext.alloc w1 (.cells #[.int .i64 2, .int .i64 n, .int .u32 0, .int .u32 c] 33))
  go_wp2_with fail
  go_ret2
  exact ⟨rfl, hEx⟩
theorem Z7a (S T : ByteArray) (hT : T.size % 16 = 0) (hl : T.size ≤ 60000) (hs : S.size ≠ T.size) (hsl : S.size ≤ 60000) (w : World) :
    Calls Try.prog 6 #[.string S, .string T, .bool false] w fun e w' => e = .returned (.tuple #[.string ⟨#[]⟩, .int .i64 1]) ∧ Ext w w' := by
  obtain ⟨c, hc⟩ : ∃ c, crcSum T.data.toList = c := ⟨_, rfl⟩
  obtain ⟨d, hdd⟩ : ∃ c, crcSum S.data.toList = c := ⟨_, rfl⟩
  have s := fun W => Z2d T W (by omega)
  have s2 := fun W => Z2d S W (by omega)
  rw [hc] at s
  rw [hdd] at s2
  have HS := Lib.hid s
  have HS2 := Lib.hid s2
  have HO := Lib.hid (fun W => of_bad S T W (.inl hs) (by omega))
  obtain ⟨n, hn⟩ : ∃ n, T.size / 16 = n := ⟨_, rfl⟩
  have hdv : (T.size : Int) / 16 = (n : Int) := by omega
  have hm : ((T.size : Int) % 16 != 0) = false := by rw [bne_eq_false_iff_eq]; omega
  have hm2 : ((T.size : Int).tmod 16) = 0 := by rw [Int.tmod_eq_emod_of_nonneg (by omega)]; omega
  have hd : decide ((4096 : Int) < (n : Int)) = false := by rw [decide_eq_false_iff_not]; omega
  clear s s2 hc hdd hn hs
  go_enter Try.func6, Try.ntmps6
  go_wp2_with fail
  refine (HS.out _).mono ?_
  rintro e w1 ⟨rfl, R1⟩
  have hX := Blk.new w1 33 #[.int .i64 2, .int .i64 n, .int .u32 0, .int .u32 c]
  have hb1 := Ext.trans R1 (Ext.alloc w1 (.cells #[.int .i64 2, .int .i64 n, .int .u32 0, .int .u32 c] 33))
  have hz1 := R1.size
  go_wp2_with fail
  refine (HS2.out _).mono ?_
  rintro e w2 ⟨rfl, R2⟩
  have hX2 := hX.ext R2
  have hb2 := hb1.trans R2
  have q2 := hX2.cell 2
  have f2 := hX2.frozen 2
  have hB : Below w.heap.size w (w2.setCell ⟨w1.heap.size, 2, none⟩ (.int .u32 d)) := Below.setCell hb2 hz1 _
  clear hX hb1 R1 R2 hX2 hb2
  go_upto_region 7 with fail
  clear q2 f2
  generalize w2.setCell ⟨w1.heap.size, 2, none⟩ (.int .u32 d) = w3 at hB ⊢
  go_wp2_with fail
  refine (HO.out _).mono ?_
  rintro e w4 ⟨rfl, R4⟩
  have hE4 := hB.trans (R4.mono (by have := hB.size; omega))
  go_wp2_with fail
  go_ret2
  exact ⟨rfl, hE4⟩

theorem Z7q (a b : ByteArray) (k : Nat) : differN a b k ≤ k := by
  induction k with
  | zero => exact Nat.le_refl _
  | succ k ih => unfold differN; split <;> omega
theorem Z4j (a b : ByteArray) (n : Nat) (hb : b.size = 16 * n) : (extsL (ofTo a b n)).length ≤ 24 * n := by
  rw [Z3h _ (fun x hx => ((Z0t a b n n hb (Nat.le_refl _)).1 x hx).2.1), Z4v a b n n hb (Nat.le_refl _)]
  have := Z7q a b n
  have := Z13 a b n
  omega
theorem pofE {H : Nat} {A : World} {R : List Thing} (a b : ByteArray) (n : Nat) (w : World) (O : OwnT H A R w) (ha : a.size = 16 * n) (hb : b.size = 16 * n) (hn : n ≤ 100000) :
    Calls Try.prog 20 #[.string a, .string b] w fun e w' => ∃ v, e = .returned (.tuple #[v, .int .i64 0]) ∧ OwnT H A (tPx v (ofTo a b n) :: R) w' := by
  refine (of_same a b n w ha hb (by omega)).mono ?_
  rintro e w' ⟨v, rfl, hX, hE⟩
  exact ⟨v, rfl, O.cons hE (tPx v (ofTo a b n)) (show World.ownsRow _ 0 _ _ _ _ _ from Z5z hX (Nat.zero_le _)) fun i hi => (World.ownsRow.lt hX i (by simpa [tRow] using hi)).1⟩
abbrev sdK (full : Bool) : Nat := if full = true then 1 else 2
noncomputable abbrev sdW (a : ByteArray) (full : Bool) : Nat := if full = true then 0 else crcSum a.data.toList
noncomputable abbrev sdL (a b : ByteArray) (n : Nat) (full : Bool) : List (Nat × ByteArray) := ofTo (if full = true then sB (zrs (16 * n)) else a) b n
noncomputable def sdB (a b : ByteArray) (n : Nat) (full : Bool) : ByteArray := sB (sealL (strL (sdK full) n (sdW a full) (crcSum b.data.toList) (sdL a b n full)))
set_option maxRecDepth 10000 in
theorem psendE (a b : ByteArray) (n : Nat) (full : Bool) (w0 : World) (ha : full = false → a.size = 16 * n) (hb : b.size = 16 * n) (hn : n ≤ 4096) :
    Calls Try.prog 6 #[.string a, .string b, .bool full] w0 fun e w' => e = .returned (.tuple #[.string (sdB a b n full), .int .i64 0]) ∧ Ext w0 w' := by
  have lb : b.data.toList.length = 16 * n := by simpa using hb
  have hcb := Z0q b.data.toList
  have CW : ∀ (k was : Nat) (x : ByteArray), k < 256 → was < 4294967296 → ∀ (v : Value) (w : World), (tPx v (ofTo x b n)).holds w → Calls Try.prog 21 ⟨[streamV k n was (crcSum b.data.toList), v]⟩ w fun e w' => e = .returned (.string (sB (sealL (strL k n was (crcSum b.data.toList) (ofTo x b n))))) ∧ Ext w w' := fun k was x hk hwas v w hr => by
    have hl := Z13 x b n
    obtain ⟨B, c, hv, -, -, -, hR⟩ := Z1d (enc := xC) (k := 2) (X := ofTo x b n) (fun _ => rfl) (by omega) (show World.ownsRow _ 0 _ _ _ _ ((ofTo x b n).flatMap xC) from hr)
    subst hv
    have hbd := (Z0t x b n n hb (Nat.le_refl _)).1
    have hby := Z4j x b n hb
    exact Z4r k n was (crcSum b.data.toList) B _ c (ofTo x b n) w rfl hk (by omega) hwas hcb (by omega) hR (fun x hx => by have := hbd x hx; omega) (by omega)
  refine fnG (OwnT.start w0) 46 Try.func6 rfl rfl rfl fun ac h => ?_
  refine gX h [vi (16 * n : Nat), vi n] rfl fun ac w h => ?_
  refine gE h rfl (Z55 b.data.toList w (by omega)) fun ac w E h => ?_
  refine gX h [] rfl fun ac w h => ?_
  refine gW h rfl fun g8 ac w E h => ?_
  cases full with
  | true =>
    refine gX h [0, 0, .f, vi (16 * n : Nat), vi (0 : Nat), .f, 0] rfl fun ac w h => ?_
    refine gE h rfl (Z4h n w (by omega)) fun ac w E h => ?_
    refine gX h [0] rfl fun ac w h => ?_
    refine gC h rfl (pofE (sB (zrs (16 * n))) b n w h.O (by rw [Z00]; simp) hb (by omega)) ?_
    rintro e w ⟨v, rfl, O2⟩
    refine ⟨_, rfl, _, O2, trivial, fun ac h => ?_⟩
    refine gX h [.f, 1] rfl fun ac w h => ?_
    refine gE h rfl (CW 1 0 (sB (zrs (16 * n))) (by omega) (by omega) v w h.O.all.1) fun ac w E h => ?_
    refine gX h [] rfl fun ac w h => ?_
    exact gR h rfl ⟨rfl, h.O.below⟩
  | false =>
    have ha := ha rfl
    have la : a.data.toList.length = 16 * n := by simpa using ha
    refine gX h [0, 0, .f, vi (16 * n : Nat), vi (0 : Nat), .f] rfl fun ac w h => ?_
    refine gE h rfl (Z55 a.data.toList w (by omega)) fun ac w E h => ?_
    refine gX h [0] rfl fun ac w h => ?_
    refine gC h rfl (pofE a b n w h.O ha hb (by omega)) ?_
    rintro e w ⟨v, rfl, O2⟩
    refine ⟨_, rfl, _, O2, trivial, fun ac h => ?_⟩
    refine gX h [.f, 1] rfl fun ac w h => ?_
    refine gE h rfl (CW 2 (crcSum a.data.toList) a (by omega) (Z0q _) v w h.O.all.1) fun ac w E h => ?_
    refine gX h [] rfl fun ac w h => ?_
    exact gR h rfl ⟨rfl, h.O.below⟩
/-- Texts that can't be: no whole sectors, or not as long. -/
theorem Z56 (a b : ByteArray) (full : Bool) (w0 : World) (ha : a.size ≤ 60000) (hb : b.size ≤ 60000) (h : b.size % 16 ≠ 0 ∨ full = false ∧ a.size ≠ b.size) :
    Calls Try.prog 6 #[.string a, .string b, .bool full] w0 fun e w' => e = .returned (.tuple #[.string ⟨#[]⟩, .int .i64 1]) ∧ Ext w0 w' := by
  by_cases h16 : b.size % 16 = 0
  · obtain ⟨rfl, hne⟩ := h.resolve_left (by omega)
    exact Z7a a b h16 hb hne ha w0
  · cases full with
    | false => exact send_odd a b h16 hb w0
    | true =>
      obtain ⟨n, hn⟩ : ∃ n, b.data.toList.length / 16 = n := ⟨_, rfl⟩
      obtain ⟨m, hm⟩ : ∃ m, b.data.toList.length = m := ⟨_, rfl⟩
      have hm2 : b.size = m := by rw [← hm]; simp
      rw [hm] at hn
      obtain ⟨r, hr⟩ : ∃ r, m % 16 = r := ⟨_, rfl⟩
      refine fnG (OwnT.start w0) 46 Try.func6 rfl rfl rfl fun ac h => ?_
      refine gX h [vi m, vi n] rfl fun ac w h => ?_
      refine gE h rfl (Z55 b.data.toList w (by omega)) fun ac w E h => ?_
      refine gX h [] rfl fun ac w h => ?_
      refine gW h rfl fun g8 ac w E h => ?_
      refine gX h [0, 0, .f, vi m, vi r, .t] rfl fun ac w h => ?_
      exact gR h rfl ⟨rfl, h.O.below⟩

theorem flat_in {L : List (Nat × ByteArray)} (j : Nat) (hj : j < L.length) : (atX L j, datX L j) ∈ L := by
  simp only [atX, datX, List.getD, List.getElem?_eq_getElem hj, Option.getD_some]
  exact List.getElem_mem hj
theorem strH_eq (k n was is m : Nat) (kb : UInt8) (h : kb.toNat = k) : strH k n was is m = (83 :: [kb]) ++ le n 4 ++ le was 4 ++ le is 4 ++ le m 4 := by
  have : le k 1 = [kb] := by
    subst h
    simp [le]
  unfold strH
  rw [this]
  rfl
theorem conv_new {o : Oper} {src : Nat} {d : Nat} {b : UInt8} (ho : o.op = .convert 69 9 (.tmp src)) : ∀ (a : Act) (w : World) (g : Nat), a.eval (.tmp src) = bV g 1 → Blk w g 5 ⟨[.int .u8 (b.toNat : Int)]⟩ → (execOp a.eval o).run Try.prog w = .ok (.value (.string (sB [b]))) w := fun a w g h1 h2 => by
  refine Z6h ho h1 (Z1i w g 0 1 [b] 1 rfl fun i hi => ?_)
  obtain rfl : i = 0 := by omega
  exact (h2.cell 0).trans rfl
set_option maxRecDepth 10000 in
theorem rbytes31E {v : Value} (k n was is : Nat) (L : List (Nat × ByteArray)) (w0 : World) (hr : (tXs v L).holds w0) (hl : L.length ≤ 100000) (hk : k < 256) (hn : n < 4294967296) (hwas : was < 4294967296) (his : is < 4294967296) (hx : ∀ x ∈ L, x.1 < 4294967296 ∧ x.2.size < 4294967296) (hs : (extsL L).length ≤ 1000000) :
    Calls Try.prog 7 #[stA k n was is v] w0 fun e w' => e = .returned (.string (sB (sealL (strL k n was is L)))) ∧ Ext w0 w' := by
  obtain ⟨B, c, rfl⟩ := Z05 (show w0.ownsRow 0 _ _ _ _ _ from hr)
  obtain ⟨ce, hc, hce⟩ := rowCe (show w0.ownsRow 0 _ _ _ _ _ from hr)
  refine fnG (all0 w0 ce hc) 69 Try.func7 rfl rfl rfl fun a h => ?_
  refine gX h [] rfl fun a w1 h => ?_
  refine gW h rfl fun g1 a w1 E h => ?_
  refine gX h [.k [99]] rfl fun a w1 h => ?_
  have D : ∀ (z : Nat), z < 18446744073709551616 → ∀ w, Calls Try.prog 22 ⟨[.int .u64 (z : Nat), .int .i64 4]⟩ w fun e w' => e = .returned (.string (sB (le z 4))) ∧ Ext w w' := fun z hz w => rbytes_l z 4 w hz (by omega)
  have D1 := fun w (_ : OwnT 0 w0 [tBlk g1 30 ⟨[.int .i64 k, .int .i64 n, .int .u32 was, .int .u32 is, .slice B L.length c]⟩, tAll w0 ce hc] w) => D n (by omega) w
  have D2 := fun w (_ : OwnT 0 w0 [tBlk g1 30 ⟨[.int .i64 k, .int .i64 n, .int .u32 was, .int .u32 is, .slice B L.length c]⟩, tAll w0 ce hc] w) => D was (by omega) w
  have D3 := fun w (_ : OwnT 0 w0 [tBlk g1 30 ⟨[.int .i64 k, .int .i64 n, .int .u32 was, .int .u32 is, .slice B L.length c]⟩, tAll w0 ce hc] w) => D is (by omega) w
  have D4 := fun w (_ : OwnT 0 w0 [tBlk g1 30 ⟨[.int .i64 k, .int .i64 n, .int .u32 was, .int .u32 is, .slice B L.length c]⟩, tAll w0 ce hc] w) => D L.length (by omega) w
  obtain ⟨kb, hkb⟩ : ∃ b : UInt8, b.toNat = k := ⟨UInt8.ofNat k, by simp; omega⟩
  have e4 : ∀ z, (le z 4).length = 4 := fun z => Z01 z 4
  have f1 := e4 n
  have f2 := e4 was
  have f3 := e4 is
  have f4 := e4 L.length
  refine gDs Z10 Z07 h 27 [0, .v (.int .i64 k), .v (.int .u8 (kb.toNat : Int)), .n 5, .n 1, .n 1, .k [0], .v (.string (sB [kb])), vs (sB (83 :: [kb])), 0, vi n, .v (.int .u64 n), .v (.string (sB (le n 4))), vs (sB ((83 :: [kb]) ++ le n 4)),
    0, .v (.int .u32 was), .v (.int .u64 was), .v (.string (sB (le was 4))), vs (sB ((83 :: [kb]) ++ le n 4 ++ le was 4)), 0, .v (.int .u32 is), .v (.int .u64 is), .v (.string (sB (le is 4))), vs (sB ((83 :: [kb]) ++ le n 4 ++ le was 4 ++ le is 4)),
    0, .v (.slice B L.length c), vi L.length, .v (.int .u64 L.length), .v (.string (sB (le L.length 4))), vs (sB ((83 :: [kb]) ++ le n 4 ++ le was 4 ++ le is 4 ++ le L.length 4))] 8 5 [.int .u8 (kb.toNat : Int)] 1 rfl (by (try simp only [AllP, inK, and_true, true_and]) <;> (repeat' apply And.intro) <;> first | exact trivial | rfl | assumption | exact D1 | exact D2 | exact D3 | exact D4 | exact (conv_new (d := 9) rfl) | exact (congrArg (fun z : Nat => (z : Int)) hkb.symm) | omega | (simp; done) | (simp; omega)) (by repeat first | exact List.Mem.head _ | apply List.Mem.tail) rfl (by kernel_rfl) rfl fun g2 a w2 E h => ?_
  refine gX h [] rfl fun a w3 h => ?_
  rw [← strH_eq k n was is L.length kb hkb] at h
  have hH := Z1w k n was is L.length
  refine lpG (G := Nat) (fun j => [(1, .pointer (some ⟨g1, 0, none⟩)), (3, .string (sB (strH k n was is L.length ++ extsL (L.take j)))), (4, .int .i64 j)])
    (fun _ => [tBlk g2 5 ⟨[.int .u8 (kb.toNat : Int)]⟩, tBlk g1 30 ⟨[.int .i64 k, .int .i64 n, .int .u32 was, .int .u32 is, .slice B L.length c]⟩, tAll w0 ce hc]) (fun j => j ≤ L.length) (fun j => L.length - j) 0 h ⟨rfl, by simp [extsL]; rfl, rfl, trivial⟩ h.O (Nat.zero_le _) fun j hj a w4 h => ?_
  have hle := Z1h L j
  by_cases h1 : j < L.length
  · obtain ⟨b, c', hv, rfl⟩ := hce (by omega)
    obtain ⟨rfl, rfl⟩ : B = some ⟨b, 0, none⟩ ∧ c = c' := by injection hv with h1 h2 h3; exact ⟨h1, h3⟩
    clear hv
    have q0 := flat0 L h1
    have q1 := flat1 L h1
    have hb := hx _ (flat_in j h1)
    have hst := Z41 L j h1
    have hle2 := Z1h L (j + 1)
    generalize datX L j = d at q1 hb hst
    generalize atX L j = t at q0 hb hst
    obtain ⟨z, hz⟩ : ∃ z, d.data.toList.length = z := ⟨_, rfl⟩
    have hsz : d.size = z := by rw [← hz]; simp
    rw [hsz] at hst hb
    simp only at hb
    have hXl : (strH k n was is L.length ++ extsL (L.take j)).length ≤ 1000018 := by simp only [List.length_append]; omega
    have hnx : strH k n was is L.length ++ extsL (L.take (j + 1)) = strH k n was is L.length ++ extsL (L.take j) ++ le t 4 ++ le (z / 16) 4 ++ d.data.toList := by rw [hst]; simp only [List.append_assoc]
    have hzl : z ≤ 1000000 := by
      have := congrArg List.length hst
      simp only [List.length_append, hz] at this
      omega
    generalize strH k n was is L.length ++ extsL (L.take j) = X at h hXl hnx
    have g4 := e4 t
    have g5 := e4 (z / 16)
    have D5 := fun w (_ : OwnT 0 w0 [tBlk g2 5 ⟨[.int .u8 (kb.toNat : Int)]⟩, tBlk g1 30 ⟨[.int .i64 k, .int .i64 n, .int .u32 was, .int .u32 is, .slice (some ⟨b, 0, none⟩) L.length c]⟩, tAll w0 (some (b, flatX L)) hc] w) => D t (by omega) w
    have D6 := fun w (_ : OwnT 0 w0 [tBlk g2 5 ⟨[.int .u8 (kb.toNat : Int)]⟩, tBlk g1 30 ⟨[.int .i64 k, .int .i64 n, .int .u32 was, .int .u32 is, .slice (some ⟨b, 0, none⟩) L.length c]⟩, tAll w0 (some (b, flatX L)) hc] w) => D (z / 16) (by omega) w
    refine gX h [1, .v (.slice (some ⟨b, 0, none⟩) L.length c), vi L.length, .t, .k [99]] rfl fun a w5 h => ?_
    refine gDp Z10 Z07 h 28 [1, .v (.slice (some ⟨b, 0, none⟩) L.length c), pj (2 * j), 2, vi t, .v (.int .u64 t), .v (.string (sB (le t 4))), vs (sB (X ++ le t 4)), 1, .v (.slice (some ⟨b, 0, none⟩) L.length c), pj (2 * j), 2, vs d, vi z, vi (z / 16 : Nat), .v (.int .u64 (z / 16 : Nat)), .v (.string (sB (le (z / 16) 4))), vs (sB (X ++ le t 4 ++ le (z / 16) 4)),
      1, .v (.slice (some ⟨b, 0, none⟩) L.length c), pj (2 * j), 2, vs d, vs (sB (X ++ le t 4 ++ le (z / 16) 4 ++ d.data.toList))] rfl (by (try simp only [AllP, inK, and_true, true_and]) <;> (repeat' apply And.intro) <;> first | exact trivial | rfl | assumption | exact D5 | exact D6 | omega | (simp; done) | (simp; omega)) rfl (by kernel_rfl) (by kernel_rfl) fun a w6 E h => ?_
    refine gX h [] rfl fun a w7 h => ?_
    exact reG (j + 1) h ⟨rfl, by simp only [hnx]; rfl, rfl, trivial⟩ h.O h1 (by omega)
  · obtain rfl : j = L.length := by omega
    refine gX h [1, .v (.slice B L.length c), vi L.length, .f] rfl fun a w5 h => ?_
    rw [List.take_length] at h
    refine gE h rfl (rseal_l _ w5 (by simp only [List.length_append]; omega)) fun a w6 E h => ?_
    refine gX h [] rfl fun a w7 h => ?_
    exact gR h rfl ⟨rfl, allE 2 h.O rfl⟩

/-- The reader's states: what is left, and whether there were too few bytes. -/
structure Rs (A : World) (b : Nat) (st : List UInt8 × Bool) (w : World) : Prop where
  blk : Blk w b 149 (rdr ⟨st.1.toArray⟩ st.2)
  below : Below b A w
theorem Rs.size {A w : World} {b : Nat} {st : List UInt8 × Bool} (h : Rs A b st w) : b < w.heap.size := h.blk.lt
theorem Rs.call {A w w' : World} {b : Nat} {st : List UInt8 × Bool} (h : Rs A b st w) (hb : Below w.heap.size w w') : Rs A b st w' :=
  ⟨h.blk.below hb h.size, h.below.trans (hb.mono (Nat.le_of_lt h.size))⟩
theorem Rs.alloc {A w : World} {b : Nat} {st : List UInt8 × Bool} (h : Rs A b st w) (o : Obj) : Rs A b st (w.alloc o) := ⟨h.blk.alloc o, h.below.alloc (Nat.le_of_lt h.size) o⟩
theorem Rs.set_ {A w : World} {b : Nat} {st : List UInt8 × Bool} (h : Rs A b st w) {p : Addr} (u : Value) (hp : b < p.block) : Rs A b st (w.setCell p u) := ⟨h.blk.far (by omega) u, h.below.setCell (by omega) u⟩
theorem getN_app (X k : Nat) (R : List UInt8) (sh : Bool) (hX : X < 256 ^ k) : getN (le X k ++ R, sh) k = (X, (R, sh)) := by
  unfold getN
  rw [if_pos (by simp [Z01])]
  simp only [List.take_left' (Z01 X k), List.drop_left' (Z01 X k), numL_le X k hX]
theorem Z2g {w : World} {b : Nat} (X k : Nat) (R : List UInt8) (h1 : 1 ≤ k) (h8 : k ≤ 8) (hX : X < 256 ^ k) (hR : R.length ≤ 900000) (h : Blk w b 149 (rdr ⟨(le X k ++ R).toArray⟩ false)) :
    Calls Try.prog 51 #[.pointer (some ⟨b, 0, none⟩), .int .i64 k] w fun e w' => e = .returned (.int .u64 X) ∧ Upd w b 149 (rdr ⟨R.toArray⟩ false) w' := by
  have := get_any b (le X k ++ R, false) k w h1 h8 h (by simp [Z01]; omega)
  rw [getN_app X k R false hX] at this
  exact this
theorem Z5v {w : World} {b : Nat} (T : ByteArray) (R : List UInt8) (hT : T.size ≤ 100000000) (hR : R.length ≤ 900000) (h : Blk w b 149 (rdr ⟨(T.data.toList ++ R).toArray⟩ false)) :
    Calls Try.prog 75 #[.pointer (some ⟨b, 0, none⟩), .int .i64 (T.size : Nat)] w fun e w' => e = .returned (.string T) ∧ Upd w b 149 (rdr ⟨R.toArray⟩ false) w' := by
  have hl : T.data.toList.length = T.size := by simp
  have hsz : (⟨(T.data.toList ++ R).toArray⟩ : ByteArray).size = T.size + R.length := by
    show (T.data.toList ++ R).toArray.size = _
    rw [List.size_toArray, List.length_append, hl]
  have := Z49 b ⟨(T.data.toList ++ R).toArray⟩ false T.size w h (by omega) (by omega)
  have e1 : (⟨(T.data.toList ++ R).toArray⟩ : ByteArray).extract 0 T.size = T := by
    apply Z1o
    rw [Z34 _ _ (by omega)]
    exact List.take_left' hl
  have e2 : (⟨(T.data.toList ++ R).toArray⟩ : ByteArray).extract T.size (⟨(T.data.toList ++ R).toArray⟩ : ByteArray).size = ⟨R.toArray⟩ := by
    apply Z1o
    rw [Lib.extract_data, hsz]
    show ((T.data.toList ++ R).drop T.size).take (T.size + R.length - T.size) = R
    rw [List.drop_left' hl]
    exact List.take_of_length_le (by omega)
  rw [e1, e2] at this
  exact this
/-- Behind deeds on block b and on blocks of one's own. -/
theorem Z5g {a w w' : World} {b : Nat} {row : Option Nat} (h : a.grownBy w (some b)) (k : w.grownBy w' row) (hr : ∀ g, row = some g → a.heap.size ≤ g) : a.grownBy w' (some b) :=
  ⟨k.os.trans h.os, k.tape.trans h.tape, k.output.trans h.output, Nat.le_trans h.size k.size, fun i hi hne => (k.block i (Nat.lt_of_lt_of_le hi h.size) (by
    intro e
    have := hr i e.symm
    omega)).trans (h.block i hi hne)⟩
theorem Row.farx {w : World} {A : Option Addr} {L : List (Nat × ByteArray)} (h : Row w A 2 xC L) {p : Addr} (hp : ∀ a, A = some a → a.block ≠ p.block) (u : Value) : Row (w.setCell p u) A 2 xC L := by
  intro i x hx
  obtain ⟨b, off, hA, hlt, hc⟩ := h i x hx
  refine ⟨b, off, hA, by simpa using hlt, fun j v hv => ?_⟩
  have hne := hp _ hA
  rw [World.cell?_of_block (Below.heap_setCell w p u b hne)]
  exact hc j v hv
theorem Z7n (L : List (Nat × ByteArray)) (j : Nat) (hj : j < L.length) : extsL (L.drop j) = le (atX L j) 4 ++ (le ((datX L j).size / 16) 4 ++ ((datX L j).data.toList ++ extsL (L.drop (j + 1)))) := by
  rw [List.drop_eq_getElem_cons hj]
  simp [extsL, extL, atX, datX, List.getD, hj]
theorem Z28 (L : List (Nat × ByteArray)) (j : Nat) : (extsL (L.drop j)).length ≤ (extsL L).length := by
  have := congrArg List.length (Z1t (L.take j) (L.drop j))
  rw [List.take_append_drop, List.length_append] at this
  omega
theorem Z7l (L : List (Nat × ByteArray)) (j : Nat) (hj : j < L.length) : (L.take (j + 1)).flatMap xC = (L.take j).flatMap xC ++ [.int .i64 (atX L j : Nat), .string (datX L j)] := by
  rw [List.take_add_one, List.getElem?_eq_getElem hj, List.flatMap_append]
  simp [xC, atX, datX, List.getD, hj]
set_option maxRecDepth 100000 in
set_option maxHeartbeats 4000000 in
theorem Z64 (b : Nat) (L : List (Nat × ByteArray)) (len most : Nat) (w : World) (hlen : L.length = len) (hl : len ≤ 100000) (hs : (extsL L).length ≤ 900000) (hx : ∀ x ∈ L, x.1 < 4294967296 ∧ x.2.size % 16 = 0 ∧ 1 ≤ x.2.size / 16 ∧ x.2.size / 16 ≤ most) (hmost : most < 4294967296) (hb : Blk w b 149 (rdr ⟨(extsL L).toArray⟩ false)) :
    Calls Try.prog 52 #[.pointer (some ⟨b, 0, none⟩), .int .i64 len, .int .i64 most] w fun e w' => ∃ A cap, e = .returned (.tuple #[.slice A len cap, .bool true]) ∧ Row w' A 2 xC L ∧ Upd w b 149 (rdr ⟨#[]⟩ false) w' ∧ (∀ a, A = some a → w.heap.size ≤ a.block) := by
  obtain ⟨i0, hi, hz0, hz1, hz2⟩ := info_parts infoX
  have hbl := hb.lt
  go_enter Try.func52, Try.ntmps52
  go_upto_region 3 with fail
  go_loopw [8, 9, 10, 12] (fun v _ _ i wr => ∃ j : Nat, j ≤ len ∧ i = .int .i64 j ∧ Blk wr b 149 (rdr ⟨(extsL (L.drop j)).toArray⟩ false) ∧ w.grownBy wr (some b) ∧ wr.ownsRowF w.heap.size 107 2 v j ((L.take j).flatMap xC)) (fun _ _ _ i _ => len - (intOf i).toNat)
  case atStart => exact ⟨0, by omega, rfl, hb, World.grownBy.refl w _, World.ownsRowF_nil _ _ _ _⟩
  case round =>
    clear hb
    obtain ⟨j, hj, rfl, hB, hg, hown⟩ := hrel
    by_cases hlt : j < len
    · have hjx : j < L.length := by omega
      have hxj := hx _ (List.getElem_mem hjx)
      have e : L[j] = (atX L j, datX L j) := by simp [atX, datX, List.getD, hjx]
      rw [e] at hxj
      simp only at hxj
      have hd := Z7n L j hjx
      have hf := Z7l L j hjx
      have hdl := Z28 L (j + 1)
      have hdl0 := Z28 L j
      rw [hd] at hB hdl0
      generalize atX L j = K at hxj hB hf hdl0
      generalize datX L j = D at hxj hB hf hdl0
      obtain ⟨Z, hZ⟩ : ∃ Z, D.size / 16 = Z := ⟨_, rfl⟩
      rw [hZ] at hB hxj hdl0
      have hDs : D.size = 16 * Z := by omega
      generalize hR : extsL (L.drop (j + 1)) = R at hB hdl hdl0
      have HR := Lib.hid hR
      simp only [List.length_append, Z01] at hdl0
      have hDl : D.data.toList.length = D.size := by simp
      have hwk : IntKind.i64.wrap (K : Int) = (K : Int) := IntWalk.i64_in _ (by omega)
      have hwz : IntKind.i64.wrap (Z : Int) = (Z : Int) := IntWalk.i64_in _ (by omega)
      have hz1' : decide ((Z : Int) < 1) = false := by rw [decide_eq_false_iff_not]; omega
      have hz2' : decide ((most : Int) < (Z : Int)) = false := by rw [decide_eq_false_iff_not]; omega
      have hwm : IntKind.i64.wrap ((Z : Int) * 16) = (D.size : Int) := by rw [IntWalk.i64_in _ (by omega)]; omega
      have hmz : (Z : Int) * 16 = (D.size : Int) := by omega
      have hmz2 : 16 * (Z : Int) = (D.size : Int) := by omega
      clear hDs
      have hgsz := hg.size
      have C1 := Z2g K 4 (le Z 4 ++ (D.data.toList ++ R)) (by decide) (by decide) (by omega) (by simp only [List.length_append, Z01]; omega) hB
      clear hd hR hB e
      go_wp2_with fail
      refine C1.mono ?_
      rintro e w2 ⟨rfl, U2⟩
      have g2 := Z14 hg U2.grown
      have o2 := hown.kept U2.grown (by
        rcases hown.2 with ⟨rfl, _⟩ | ⟨g, cap, cur, fz, rfl, hbg, _⟩
        · exact .inl rfl
        · exact .inr (by simp [Value.ownBlock]; omega))
      have C2 := Z2g Z 4 (D.data.toList ++ R) (by decide) (by decide) (by omega) (by simp only [List.length_append]; omega) U2.blk
      clear C1 U2 hown hg
      go_wp2_with fail
      refine C2.mono ?_
      rintro e w3 ⟨rfl, U3⟩
      have g3 := Z14 g2 U3.grown
      have o3 := o2.kept U3.grown (by
        rcases o2.2 with ⟨rfl, _⟩ | ⟨g, cap, cur, fz, rfl, hbg, _⟩
        · exact .inl rfl
        · exact .inr (by simp [Value.ownBlock]; omega))
      have C3 := Z5v D R (by omega) (by omega) U3.blk
      clear C2 U3 o2 g2
      go_wp2_with fail
      refine C3.mono ?_
      rintro e w4 ⟨rfl, U4⟩
      have g4 := Z14 g3 U4.grown
      have o4 := o3.kept U4.grown (by
        rcases o3.2 with ⟨rfl, _⟩ | ⟨g, cap, cur, fz, rfl, hbg, _⟩
        · exact .inl rfl
        · exact .inr (by simp [Value.ownBlock]; omega))
      have hB4 := U4.blk
      clear C3 U4 o3 g3
      have o5 := o4.kept (Z0u (Ext.alloc w4 (.cells #[.int .i64 K, .string D] 107)) none) (Classical.em _)
      have hB5 := hB4.alloc (.cells #[.int .i64 K, .string D] 107)
      have g5 := Z5g g4 (Z0u (Ext.alloc w4 (.cells #[.int .i64 K, .string D] 107)) none) (fun g e => by cases e)
      have hz5 := g4.size
      clear o4 hB4 g4
      go_wp2_with (at_builtin; refine Z1m _ rfl _ _ 65 rfl w.heap.size 107 i0 _ 2 24 Try.underlying65 hi hz0 hz1 hz2 rfl (by decide) _ _ _ rfl o5 ⟨w4.heap.size, 0, none⟩ 1 1 [.int .i64 K, .string D] rfl rfl (Z3g w4 K D) (Z61 K D) ?c3 ?c4 ?c5 ?_)
      case c3 => unfold maxLen; omega
      case c4 => omega
      case c5 => simp; omega
      intro v' w6 h2 h3 h4
      rw [← hf] at h2
      have hb6 : Blk w6 b 149 (rdr ⟨R.toArray⟩ false) := hB5.grown h3 (by
        intro e
        have := (o5.lt b e.symm).1
        omega)
      have g6 := Z5g g5 h3 (fun g e => (o5.lt g e).1)
      rw [← HR.out] at hb6
      clear o5 hB5 g5 h3 h4
      go_wp2_with fail
      go_roundw
      case rel => exact ⟨j + 1, by omega, by go_num, hb6, g6, h2⟩
      case measure => simp [intOf]; omega
    · obtain rfl : j = len := by omega
      have e1 : L.take j = L := List.take_of_length_le (by omega)
      have e2 : L.drop j = [] := List.drop_eq_nil_of_le (by omega)
      rw [e1] at hown
      rw [e2] at hB
      obtain ⟨A, cap, hv, -, -, hrow⟩ := ORow.rows (L := []) (A := wr) (H := 0) ⟨⟨Below.refl _ _, Nat.zero_le _, trivial, (fun _ h => by cases h), List.Pairwise.nil⟩, Z2i hown (Nat.zero_le _), fun x h => by cases h⟩ (fun _ => rfl) hlen
      subst hv
      have hfr : Hid (∀ a, A = some a → w.heap.size ≤ a.block) := fun a ha => (hown.lt a.block (by subst ha; rfl)).1
      clear hown e1 e2
      go_wp2_with fail
      go_ret2
      exact ⟨_, _, rfl, hrow, ⟨hB, hg⟩, hfr.out⟩
end Go.Proofs.Ytbfgacmfjfbooaa

/- ship: isGood, read. -/
namespace Go.Proofs.Ytbfgacmfjfbooaa
attribute [local simp] BigFrame.eval_const BigFrame.eval_global BigFrame.eval_func
set_option linter.unusedVariables false
set_option linter.unusedSimpArgs false
open Go.RowKit

theorem Z7g (n was is : Nat) (f g : Nat → UInt8) (hn : n ≤ 4096) (w : World) (A : Option Addr) (cap : Nat) (hrow : Row w A 2 xC (exts f g n)) :
    Calls Try.prog 54 #[streamV 2 n was is, .slice A (exts f g n).length cap] w fun e w' => e = .returned (.bool true) ∧ Ext w w' := by
  obtain ⟨Z, hZ⟩ : ∃ q, txt zf n = q := ⟨_, rfl⟩
  have HZ := Lib.hid (Z1l n (by omega) Z hZ)
  obtain ⟨q, hq⟩ : ∃ q, txt (fun i => if g i = f i then zf i else g i) n = q := ⟨_, rfl⟩
  obtain ⟨len, hlen⟩ : ∃ l, (exts f g n).length = l := ⟨_, rfl⟩
  have ap := fun W (h : Ext w W) => Z21 f g zf n (by omega) q hq A len cap W hlen (hrow.extx h)
  rw [hZ] at ap
  have HA := Lib.hid ap
  rw [hlen]
  have hE := Ext.alloc w (.cells #[.int .i64 2, .int .i64 n, .int .u32 was, .int .u32 is] 33)
  have hX := Blk.new w 33 #[.int .i64 2, .int .i64 n, .int .u32 was, .int .u32 is]
  clear hZ hq ap hlen hrow
  have k1 := hX.cell 1
  go_enter Try.func54, Try.ntmps54
  go_wp2_with fail
  refine (HZ.out _).mono ?_
  rintro e w2 ⟨rfl, R2⟩
  have hE2 := hE.trans R2
  have hX2 := hX.ext R2
  clear k1 hE hX R2
  go_wp2_with fail
  refine (HA.out _ hE2).mono ?_
  rintro e w3 ⟨rfl, R3⟩
  have hE3 := hE2.trans R3
  have hX3 := hX2.ext R3
  have k0 := hX3.cell 0
  clear hE2 hX2 R3 hX3
  go_wp2_with fail
  go_ret
  exact ⟨rfl, hE3⟩
theorem Z7h (n : Nat) (g : Nat → UInt8) (hn : n ≤ 4096) (w : World) (A : Option Addr) (cap : Nat) (hrow : Row w A 2 xC (exts zf g n)) :
    Calls Try.prog 54 #[streamV 1 n 0 (crcX g n), .slice A (exts zf g n).length cap] w fun e w' => e = .returned (.bool true) ∧ Ext w w' := by
  obtain ⟨Z, hZ⟩ : ∃ q, txt zf n = q := ⟨_, rfl⟩
  have HZ := Lib.hid (Z1l n (by omega) Z hZ)
  obtain ⟨c, hc⟩ : ∃ c, crcX g n = c := ⟨_, rfl⟩
  have hqq : txt (fun i => if g i = zf i then zf i else g i) n = txt g n := by
    rw [Z7y]; intro i _; split <;> simp_all
  obtain ⟨q, hq⟩ : ∃ q, txt g n = q := ⟨_, rfl⟩
  have HS := Lib.hid (Z1n g n hn q hq c hc)
  obtain ⟨len, hlen⟩ : ∃ l, (exts zf g n).length = l := ⟨_, rfl⟩
  have ap := fun W (h : Ext w W) => Z21 zf g zf n (by omega) q (hqq.trans hq) A len cap W hlen (hrow.extx h)
  rw [hZ] at ap
  have HA := Lib.hid ap
  rw [hlen, hc]
  have hE := Ext.alloc w (.cells #[.int .i64 1, .int .i64 n, .int .u32 0, .int .u32 c] 33)
  have hX := Blk.new w 33 #[.int .i64 1, .int .i64 n, .int .u32 0, .int .u32 c]
  clear hZ hq ap hlen hrow hc hqq
  have k1 := hX.cell 1
  go_enter Try.func54, Try.ntmps54
  go_wp2_with fail
  refine (HZ.out _).mono ?_
  rintro e w2 ⟨rfl, R2⟩
  have hE2 := hE.trans R2
  have hX2 := hX.ext R2
  clear k1 hE hX R2
  go_wp2_with fail
  refine (HA.out _ hE2).mono ?_
  rintro e w3 ⟨rfl, R3⟩
  have hE3 := hE2.trans R3
  have hX3 := hX2.ext R3
  have k0 := hX3.cell 0
  have HX3 := Lib.hid hX3
  clear hE2 hX2 R3 hX3
  go_upto_region 5 with fail
  clear k0
  refine Z06 (R := Ext) (w0 := w3) [[], [0], [0, 1], [0, 1, 2], [0, 1, 2, 3], [0, 1, 2, 3, 4], [0, 1, 2, 3], [0, 1, 2, 3, 6], [0, 1, 2, 3, 4, 5, 6, 7], [0, 1, 2, 3, 4, 5, 6, 7, 8], [0, 1, 2, 3, 4, 5, 6, 7, 8, 9]] [22, 23, 24, 25, 26, 27, 28, 29, 30, 31, 4] Ext.refl (fun _ _ _ => Ext.trans) (Ext.drew _) (by kernel_rfl) ?_
  apply Build.det 22 Ext.refl (by rfl) (by rfl) rfl
  case h =>
    intro ax wx hE hR hF
    have e2 : ax.eval (.tmp 2) = .pointer (some ⟨w.heap.size, 0, none⟩) := hE.eval 2 (by rfl) rfl
    simp [go_sem, ↓IntWalk.iteOmega, ev e2]
    with_reducible rfl
  apply Build.det 23 Ext.refl (by rfl) (by rfl) rfl
  case h =>
    intro ax wx hE hR hF
    have e22 := hF 0 (det 22 _) (by decide) (.head _)
    have hX4 := HX3.out.ext hR; have q2 := hX4.cell 2; have q3 := hX4.cell 3
    simp [go_sem, ↓IntWalk.iteOmega, ev e22, q2, q3]
    with_reducible rfl
  apply Build.det 24 Ext.refl (by rfl) (by rfl) rfl
  case h =>
    intro ax wx hE hR hF
    have e23 := hF 1 (det 23 _) (by decide) (.head _)
    simp [go_sem, ↓IntWalk.iteOmega, ev e23]
    with_reducible rfl
  apply Build.det 25 Ext.refl (by rfl) (by rfl) rfl
  case h =>
    intro ax wx hE hR hF
    have e24 := hF 2 (det 24 _) (by decide) (.head _)
    simp [go_sem, ↓IntWalk.iteOmega, ev e24]
    with_reducible rfl
  apply Build.detg 26 Ext.refl (by rfl) (by rfl) rfl rfl
  case h =>
    intro ax wx hE hR hF
    have e5 : ax.eval (.tmp 5) = .string q := hE.eval 5 (by rfl) rfl
    have e25 := hF 3 (det 25 _) (by decide) (.head _)
    refine ⟨e25, ?_⟩
    simp [go_sem, ↓IntWalk.iteOmega, ev e5, ev e25]
    with_reducible rfl
  apply Build.callg 27 Ext.refl (by rfl) (by rfl) rfl rfl
  case h =>
    intro ax wx hE hR hF
    have e25 := hF 3 (det 25 _) (by decide) (.tail _ (.head _))
    have e26 := hF 4 (det 26 _) (by decide) (.head _)
    refine ⟨e25, ?_⟩
    simp [go_sem, ↓IntWalk.iteOmega, ev e25, ev e26]
    with_reducible exact ⟨rfl, rfl⟩
  case hc => intro wx hR; with_reducible exact HS.out wx
  apply Build.detg 28 Ext.refl (by rfl) (by rfl) rfl rfl
  case h =>
    intro ax wx hE hR hF
    have e2 : ax.eval (.tmp 2) = .pointer (some ⟨w.heap.size, 0, none⟩) := hE.eval 2 (by rfl) rfl
    have e25 := hF 3 (det 25 _) (by decide) (.tail _ (.tail _ (.head _)))
    refine ⟨e25, ?_⟩
    simp [go_sem, ↓IntWalk.iteOmega, ev e2, ev e25]
    with_reducible rfl
  apply Build.detg 29 Ext.refl (by rfl) (by rfl) rfl rfl
  case h =>
    intro ax wx hE hR hF
    have e25 := hF 3 (det 25 _) (by decide) (.tail _ (.tail _ (.tail _ (.head _))))
    have e28 := hF 6 (det 28 _) (by decide) (.head _)
    have hX4 := HX3.out.ext hR; have q2 := hX4.cell 2; have q3 := hX4.cell 3
    refine ⟨e25, ?_⟩
    simp [go_sem, ↓IntWalk.iteOmega, ev e25, ev e28, q2, q3]
    with_reducible rfl
  apply Build.detg 30 Ext.refl (by rfl) (by rfl) rfl rfl
  case h =>
    intro ax wx hE hR hF
    have e25 := hF 3 (det 25 _) (by decide) (mem4 (.head _))
    have e27 := hF 5 (det 27 _) (by decide) (.tail _ (.tail _ (.head _)))
    have e29 := hF 7 (det 29 _) (by decide) (.head _)
    refine ⟨e25, ?_⟩
    simp [go_sem, ↓IntWalk.iteOmega, ev e25, ev e27, ev e29]
    with_reducible rfl
  apply Build.det 31 Ext.refl (by rfl) (by rfl) rfl
  case h =>
    intro ax wx hE hR hF
    have e25 := hF 3 (det 25 _) (by decide) (mem4 (.tail _ (.head _)))
    have e30 := hF 8 (det 30 _) (by decide) (.head _)
    simp [go_sem, ↓IntWalk.iteOmega, ev e25, ev e30]
    with_reducible rfl
  apply Build.det 4 Ext.refl (by rfl) (by rfl) rfl
  case h =>
    intro ax wx hE hR hF
    have e31 := hF 9 (det 31 _) (by decide) (.head _)
    simp [go_sem, ↓IntWalk.iteOmega, ev e31]
    with_reducible rfl
  apply Build.stop
  refine ⟨by kernel_rfl, .inl ⟨rfl, ?_⟩⟩
  intro ax w4 hE R4 hF
  have e22 := hF 0 (det 22 _) (mem4 (mem4 (.tail _ (.tail _ (.head _)))))
  have e23 := hF 1 (det 23 _) (mem4 (mem4 (.tail _ (.head _))))
  have e24 := hF 2 (det 24 _) (mem4 (mem4 (.head _)))
  have e25 := hF 3 (det 25 _) (mem4 (.tail _ (.tail _ (.tail _ (.head _)))))
  have e26 := hF 4 (det 26 _) (mem4 (.tail _ (.tail _ (.head _))))
  have e27 := hF 5 (det 27 _) (mem4 (.tail _ (.head _)))
  have e28 := hF 6 (det 28 _) (mem4 (.head _))
  have e29 := hF 7 (det 29 _) (.tail _ (.tail _ (.tail _ (.head _))))
  have e30 := hF 8 (det 30 _) (.tail _ (.tail _ (.head _)))
  have e31 := hF 9 (det 31 _) (.tail _ (.head _))
  have e4 := hF 10 (det 4 _) (.head _)
  rw [AllEq.frame (D := [22, 23, 24, 25, 26, 27, 28, 29, 30, 31, 4]) (AllEq.cons e22 (AllEq.cons e23 (AllEq.cons e24 (AllEq.cons e25 (AllEq.cons e26 (AllEq.cons e27 (AllEq.cons e28 (AllEq.cons e29 (AllEq.cons e30 (AllEq.cons e31 (AllEq.cons e4 (AllEq.nil)))))))))))) hE rfl]
  clear hF hE e22 e23 e24 e25 e26 e27 e28 e29 e30 e31 e4
  simp only [List.foldl_cons, List.foldl_nil, Act.put, List.setIfInBounds_toArray, List.set_cons_succ, List.set_cons_zero]
  go_wp2_with fail
  go_ret
  exact ⟨rfl, hE3.trans R4⟩

theorem Z60 (Q : List UInt8) (hQ : Q.length ≤ 10000000) (s : ByteArray) (hd : s.data.toList = sealL Q) (T : ByteArray) (hT : (⟨Q.toArray⟩ : ByteArray) = T) (w : World) : Calls Try.prog 49 #[.string s] w fun e w' => e = .returned (.tuple #[.string T, .bool true]) ∧ Ext w w' := by
  have hl : s.data.toList.length = s.size := by simp
  have hl2 := Z2r Q
  have htk : s.data.toList.take (s.size - 4) = Q := by
    rw [hd]
    unfold sealL
    exact List.take_left' (by rw [hd] at hl; omega)
  have := Z6x s w (by rw [hd] at hl; omega) (by rw [hd] at hl; omega) (by rw [htk, hd])
  rw [htk, hT] at this
  exact this
theorem strL_eq (k n was is : Nat) (L : List (Nat × ByteArray)) : strL k n was is L = le 83 1 ++ (le k 1 ++ (le n 4 ++ (le was 4 ++ (le is 4 ++ (le L.length 4 ++ extsL L))))) := by simp [strL, strH]
abbrev rdL (b : Nat) (l : List UInt8) : BlkD := (b, 149, rdr ⟨l.toArray⟩ false)
theorem own_ofL {H : Nat} {A w : World} {L : List BlkD} (h : Own H A L w) (s : ByteArray) (l : List UInt8) (hl : (⟨l.toArray⟩ : ByteArray) = s) :
    Calls Try.prog 50 #[.string s] w fun e w' => e = .returned (.pointer (some ⟨w.heap.size, 0, none⟩)) ∧ Own H A (rdL w.heap.size l :: L) w' := by
  go_enter Try.func50, Try.ntmps50
  go_wp2_with fail
  go_ret
  refine ⟨rfl, ?_⟩
  have := h.new 149 (rdr s false)
  unfold rdL
  rw [hl]
  exact this
theorem Z1y {H : Nat} {A w : World} {L L1 L2 : List BlkD} {b X k : Nat} {R : List UInt8} (h : Own H A L w) (hL : L = L1 ++ rdL b (le X k ++ R) :: L2) (h1 : 1 ≤ k) (h8 : k ≤ 8) (hX : X < 256 ^ k) (hR : R.length ≤ 900000) :
    Calls Try.prog 51 #[.pointer (some ⟨b, 0, none⟩), .int .i64 k] w fun e w' => e = .returned (.int .u64 X) ∧ Own H A (L1 ++ rdL b R :: L2) w' := by
  have hb : Blk w b 149 (rdr ⟨(le X k ++ R).toArray⟩ false) := h.all.mem (x := rdL b (le X k ++ R)) (by rw [hL]; simp)
  refine (Z2g X k R h1 h8 hX hR hb).mono ?_
  rintro e w' ⟨rfl, hU⟩
  exact ⟨rfl, h.put hL _ hU.grown hU.blk⟩
abbrev stB (X : Nat) (k n was is : Nat) : BlkD := (X, 33, #[.int .i64 k, .int .i64 n, .int .u32 was, .int .u32 is])
theorem Z8a {R : Ending → World → Prop} {ac : Act} {w : World} {X k n was is : Nat} {v : Value} {x : Int} (h2 : ac.tmps[2]?.getD undef = .pointer (some ⟨X, 0, none⟩)) (h3 : ac.tmps[3]?.getD undef = v) (h4 : ac.tmps[4]?.getD undef = .int .i64 x) (hd : ac.defers = [])
    (hF : Blk w X 33 #[.int .i64 k, .int .i64 n, .int .u32 was, .int .u32 is]) (hR : R (.returned (.tuple #[streamV k n was is, v, .int .i64 x])) w) : bodyPost Try.prog Try.f27 R .ret ac w := by
  obtain ⟨tm, df⟩ := ac
  simp only at h2 h3 h4 hd
  have p0 := hF.cell 0
  have p1 := hF.cell 1
  have p2 := hF.cell 2
  have p3 := hF.cell 3
  exact bodyPost_ret (v := .tuple #[streamV k n was is, v, .int .i64 x]) (by simp [results, Try.results27, go_sem, h2, h3, h4, p0, p1, p2, p3]) hd hR
end Go.Proofs.Ytbfgacmfjfbooaa

/- ship: read of a stream that was written; Look. -/
namespace Go.Proofs.Ytbfgacmfjfbooaa
set_option linter.unusedVariables false
set_option linter.unusedSimpArgs false
open Go.RowKit

set_option maxRecDepth 100000 in
set_option maxHeartbeats 4000000 in
theorem Z6u (k n was is : Nat) (L : List (Nat × ByteArray)) (len : Nat) (hlen : L.length = len) (s : ByteArray) (hd : s.data.toList = sealL (strL k n was is L)) (hk : k < 256) (hn : n ≤ 4096) (hwas : was < 4294967296) (his : is < 4294967296) (hl : len ≤ n) (hs : (extsL L).length ≤ 800000)
    (hx : ∀ x ∈ L, x.1 < 4294967296 ∧ x.2.size % 16 = 0 ∧ 1 ≤ x.2.size / 16 ∧ x.2.size / 16 ≤ n)
    (hgood : ∀ (W : World) (A : Option Addr) (cap : Nat), Row W A 2 xC L → Calls Try.prog 54 #[streamV k n was is, .slice A len cap] W fun e w' => e = .returned (.bool true) ∧ Ext W w') (wa : World) :
    Calls Try.prog 27 #[.string s] wa fun e w' => ∃ A cap, e = .returned (.tuple #[streamV k n was is, .slice A len cap, .int .i64 0]) ∧ Row w' A 2 xC L ∧ Ext wa w' := by
  obtain ⟨T, hT⟩ : ∃ T : ByteArray, (⟨(strL k n was is L).toArray⟩ : ByteArray) = T := ⟨_, rfl⟩
  have hsl : (strL k n was is L).length ≤ 800100 := by unfold strL; rw [List.length_append, Z1w]; omega
  have HO := Lib.hid (fun W => Z60 (strL k n was is L) (by omega) s hd T hT W)
  have HG := Lib.hid hgood
  have heq := strL_eq k n was is L
  rw [hlen] at heq
  have HT : Hid ((⟨(le 83 1 ++ (le k 1 ++ (le n 4 ++ (le was 4 ++ (le is 4 ++ (le len 4 ++ extsL L)))))).toArray⟩ : ByteArray) = T) := by show _ = T; rw [← heq]; exact hT
  have un : IntKind.i64.wrap (n : Int) = (n : Int) := IntWalk.i64_in _ (by omega)
  have uk : IntKind.i64.wrap (k : Int) = (k : Int) := IntWalk.i64_in _ (by omega)
  have ul : IntKind.i64.wrap (len : Int) = (len : Int) := IntWalk.i64_in _ (by omega)
  have uw : IntKind.u32.wrap (was : Int) = (was : Int) := by simp [IntKind.wrap, IntKind.bits, IntKind.signed]; omega
  have ui : IntKind.u32.wrap (is : Int) = (is : Int) := by simp [IntKind.wrap, IntKind.bits, IntKind.signed]; omega
  have uw2 : (was : Int) % 4294967296 = (was : Int) := by omega
  have ui2 : (is : Int) % 4294967296 = (is : Int) := by omega
  have d1 : decide ((4096 : Int) < (n : Int)) = false := by rw [decide_eq_false_iff_not]; omega
  have d2 : decide ((n : Int) < (len : Int)) = false := by rw [decide_eq_false_iff_not]; omega
  have O0 := (Own.start wa).new 33 #[.int .i64 0, .int .i64 0, .int .u32 0, .int .u32 0]
  clear hd hT hsl hgood heq
  go_enter Try.func27, Try.ntmps27
  go_wp2_with fail
  refine (HO.out _).mono ?_
  rintro e w1 ⟨rfl, R1⟩
  have O1 := O0.ext R1
  clear O0 R1 HO
  go_wp2_with fail
  refine (own_ofL O1 T _ HT.out).mono ?_
  rintro e w2 ⟨rfl, O2⟩
  clear O1 HT
  go_wp2_with fail
  refine (Z1y O2 (L1 := []) (X := 83) (k := 1) rfl (by decide) (by decide) (by decide) (by simp only [List.length_append, Z01]; omega)).mono ?_
  rintro e w3 ⟨rfl, O3⟩
  clear O2
  go_wp2_with fail
  refine (Z1y O3 (L1 := []) (X := k) (k := 1) rfl (by decide) (by decide) (by omega) (by simp only [List.length_append, Z01]; omega)).mono ?_
  rintro e w4 ⟨rfl, O4⟩
  clear O3
  go_wp2_with fail
  refine (Z1y O4 (L1 := []) (X := n) (k := 4) rfl (by decide) (by decide) (by omega) (by simp only [List.length_append, Z01]; omega)).mono ?_
  rintro e w5 ⟨rfl, O5⟩
  clear O4
  have O6 : Own wa.heap.size wa [stB w5.heap.size k n 0 0, rdL w1.heap.size (le was 4 ++ (le is 4 ++ (le len 4 ++ extsL L))), stB wa.heap.size 0 0 0 0] (w5.alloc (.cells #[.int .i64 k, .int .i64 n, .int .u32 0, .int .u32 0] 33)) := O5.new _ _
  clear O5
  go_wp2_with fail
  refine (Z1y O6 (L1 := [stB w5.heap.size k n 0 0]) (X := was) (k := 4) rfl (by decide) (by decide) (by omega) (by simp only [List.length_append, Z01]; omega)).mono ?_
  rintro e w6 ⟨rfl, O7⟩
  clear O6
  have q2 := O7.all.1.cell 2
  have f2 := O7.all.1.frozen 2
  have O8 : Own wa.heap.size wa [stB w5.heap.size k n was 0, rdL w1.heap.size (le is 4 ++ (le len 4 ++ extsL L)), stB wa.heap.size 0 0 0 0] (w6.setCell ⟨w5.heap.size, 2, none⟩ (.int .u32 was)) := O7.set (L1 := []) rfl 2 (.int .u32 was)
  clear O7
  go_wp2_with fail
  clear q2 f2
  generalize w6.setCell ⟨w5.heap.size, 2, none⟩ (.int .u32 was) = w7 at O8 ⊢
  refine (Z1y O8 (L1 := [stB w5.heap.size k n was 0]) (X := is) (k := 4) rfl (by decide) (by decide) (by omega) (by simp only [List.length_append, Z01]; omega)).mono ?_
  rintro e w8 ⟨rfl, O9⟩
  clear O8
  have q3 := O9.all.1.cell 3
  have f3 := O9.all.1.frozen 3
  have O10 : Own wa.heap.size wa [stB w5.heap.size k n was is, rdL w1.heap.size (le len 4 ++ extsL L), stB wa.heap.size 0 0 0 0] (w8.setCell ⟨w5.heap.size, 3, none⟩ (.int .u32 is)) := O9.set (L1 := []) rfl 3 (.int .u32 is)
  clear O9
  go_wp2_with fail
  clear q3 f3
  generalize w8.setCell ⟨w5.heap.size, 3, none⟩ (.int .u32 is) = w9 at O10 ⊢
  refine (Z1y O10 (L1 := [stB w5.heap.size k n was is]) (X := len) (k := 4) rfl (by decide) (by decide) (by omega) (by omega)).mono ?_
  rintro e w10 ⟨rfl, O11⟩
  have O11 : Own wa.heap.size wa [stB w5.heap.size k n was is, rdL w1.heap.size (extsL L), stB wa.heap.size 0 0 0 0] w10 := O11
  clear O10
  have k1 := O11.all.1.cell 1
  have CE := Z64 w1.heap.size L len n w10 hlen (by omega) (by omega) hx (by omega) O11.all.2.1
  have HO11 := Lib.hid O11
  clear O11 uw ui uw2 ui2 uk
  go_wp2_with fail
  refine CE.mono ?_
  rintro e w11 ⟨A, cap, rfl, hrow, hU, hfar⟩
  have hza : wa.heap.size < w10.heap.size := HO11.out.all.2.2.1.lt
  have HFA : Hid (∀ a, A = some a → a.block ≠ wa.heap.size) := fun a ha => by have := hfar a ha; omega
  have O12 : Own wa.heap.size wa [stB w5.heap.size k n was is, rdL w1.heap.size [], stB wa.heap.size 0 0 0 0] w11 := HO11.out.put (L1 := [stB w5.heap.size k n was is]) rfl _ hU.grown hU.blk
  have CD := end_yes w1.heap.size ⟨#[]⟩ w11 O12.all.2.1 rfl
  have HO12 := Lib.hid O12
  have HRW := Lib.hid hrow
  clear CE HO11 hU k1 O12 hrow hfar hza
  go_wp2_with fail
  refine CD.mono ?_
  rintro e w12 ⟨rfl, rfl⟩
  have k0 := HO12.out.all.1.cell 0
  have k1 := HO12.out.all.1.cell 1
  have k2 := HO12.out.all.1.cell 2
  have k3 := HO12.out.all.1.cell 3
  clear CD
  go_wp2_with fail
  refine (HG.out _ _ _ HRW.out).mono ?_
  rintro e w13 ⟨rfl, R13⟩
  have O13 := HO12.out.ext R13
  have hrow13 := HRW.out.extx R13
  clear k0 k1 k2 k3 HG HO12 HRW
  have k0 := O13.all.1.cell 0
  have k1 := O13.all.1.cell 1
  have k2 := O13.all.1.cell 2
  have k3 := O13.all.1.cell 3
  have r0 := O13.all.2.2.1.cell 0
  have r1 := O13.all.2.2.1.cell 1
  have r2 := O13.all.2.2.1.cell 2
  have r3 := O13.all.2.2.1.cell 3
  have g0 := O13.all.2.2.1.frozen 0
  have g1 := O13.all.2.2.1.frozen 1
  have g2 := O13.all.2.2.1.frozen 2
  have g3 := O13.all.2.2.1.frozen 3
  have HR13 := Lib.hid hrow13
  clear hrow13
  go_wp2_with fail
  have O14 := (((O13.set (L1 := [_, _]) rfl 0 (.int .i64 k)).set (L1 := [_, _]) rfl 1 (.int .i64 n)).set (L1 := [_, _]) rfl 2 (.int .u32 was)).set (L1 := [_, _]) rfl 3 (.int .u32 is)
  have hr := (((HR13.out.farx (p := ⟨wa.heap.size, 0, none⟩) HFA.out (.int .i64 k)).farx (p := ⟨wa.heap.size, 1, none⟩) HFA.out (.int .i64 n)).farx (p := ⟨wa.heap.size, 2, none⟩) HFA.out (.int .u32 was)).farx (p := ⟨wa.heap.size, 3, none⟩) HFA.out (.int .u32 is)
  exact Z8a (k := k) (n := n) (was := was) (is := is) (v := .slice A len cap) (x := 0) rfl rfl rfl rfl O14.all.2.2.1 ⟨A, cap, rfl, hr, O14.below⟩
end Go.Proofs.Ytbfgacmfjfbooaa
