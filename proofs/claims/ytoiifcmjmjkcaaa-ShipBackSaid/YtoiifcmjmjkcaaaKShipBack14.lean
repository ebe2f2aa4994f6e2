/- ship: Send. -/
import Derived.Test.YtoiifcmjmjkcaaaKShipBack12
import Derived.Test.YtoiifcmjmjkcaaaKShipBack13
import Derived.Test.YtoiifcmjmjkcaaaKShipBack01
import Derived.Test.YtoiifcmjmjkcaaaKShipBack02
namespace Go.Proofs.Ytoiifcmjmjkcaaa
set_option linter.unusedVariables false
set_option linter.unusedSimpArgs false
open Go.RowKit

theorem extsL_len : ∀ L : List (Nat × ByteArray), (∀ x ∈ L, x.2.size % 16 = 0) → (extsL L).length = 8 * L.length + 16 * sumX L
  | [], _ => rfl
  | x :: L, h => by
    have := extsL_len L (fun y hy => h y (by simp [hy]))
    have hx := h x (by simp)
    simp only [extsL, List.length_append, extL_len, List.length_cons, sumX, this]
    omega
theorem ofTo_len2 (a b : ByteArray) (k : Nat) : (ofTo a b k).length ≤ differN a b k := by
  induction k with
  | zero => exact Nat.le_refl _
  | succ k ih =>
    rw [ofTo, differN]
    split
    · simpa using ih
    · rcases List.eq_nil_or_concat (ofTo a b k) with h | ⟨P, y, h⟩
      · rw [h, laid_nil]; simp
      · rw [List.concat_eq_append] at h
        rw [h] at ih
        rw [h, laid_last]
        split
        · simp at ih ⊢; omega
        · simp at ih ⊢; omega
/-- The extents between two texts. -/
noncomputable def exts (f g : Nat → UInt8) (n : Nat) : List (Nat × ByteArray) := ofTo (txt f n) (txt g n) n
theorem exts_bd (f g : Nat → UInt8) (n : Nat) : ∀ x ∈ exts f g n, x.1 + x.2.size / 16 ≤ n ∧ x.2.size % 16 = 0 ∧ 0 < x.2.size := (ofTo_bd _ _ n n (txt_size g n) (Nat.le_refl _)).1
theorem exts_len (f g : Nat → UInt8) (n : Nat) : (exts f g n).length ≤ n := ofTo_len _ _ n
theorem exts_bytes (f g : Nat → UInt8) (n : Nat) : (extsL (exts f g n)).length = 8 * (exts f g n).length + 16 * diffN f g n := by
  rw [extsL_len _ (fun x hx => (exts_bd f g n x hx).2.1)]
  unfold exts
  rw [sumX_ofTo _ _ n n (txt_size g n) (Nat.le_refl _), differN_txt f g n n (Nat.le_refl _)]
theorem exts_few (f g : Nat → UInt8) (n : Nat) : (exts f g n).length ≤ diffN f g n := by
  have := ofTo_len2 (txt f n) (txt g n) n
  rwa [differN_txt f g n n (Nat.le_refl _)] at this
def crcX (f : Nat → UInt8) (n : Nat) : Nat := crcSum (txtL f n)
theorem crcX_lt (f : Nat → UInt8) (n : Nat) : crcX f n < 4294967296 := crcSum_lt _
theorem sum_txt (f : Nat → UInt8) (n : Nat) (hn : n ≤ 4096) (q : ByteArray) (hq : txt f n = q) (c : Nat) (hc : crcX f n = c) (w : World) : Calls Try.prog 28 #[.string q] w fun e w' => e = .returned (.int .u32 c) ∧ Ext w w' := by
  have hs := txt_size f n
  rw [← hq, ← hc]
  exact sum_any (txt f n) w (by omega)
/-- The stream of changes, and of all. -/
noncomputable def chgL (f g : Nat → UInt8) (n : Nat) : List UInt8 := sealL (strL 2 n (crcX f n) (crcX g n) (exts f g n))
noncomputable def allL (g : Nat → UInt8) (n : Nat) : List UInt8 := sealL (strL 1 n 0 (crcX g n) (exts zf g n))

theorem write_call (k n was is : Nat) (f g : Nat → UInt8) (m : Nat) (hm : m ≤ 4096) (hk : k < 256) (hn : n < 4294967296) (hwas : was < 4294967296) (his : is < 4294967296) (A : Option Addr) (cap : Nat) (w : World) (hrow : Row w A 2 xC (exts f g m)) :
    Calls Try.prog 30 #[streamV k n was is, .slice A (exts f g m).length cap] w fun e w' => e = .returned (.string ⟨(sealL (strL k n was is (exts f g m))).toArray⟩) ∧ Ext w w' := by
  have h1 := exts_len f g m
  have h2 := exts_bytes f g m
  have h3 := diffN_le f g m
  exact write_any k n was is A _ cap (exts f g m) w rfl hk hn hwas his (by omega) hrow (fun x hx => by have := exts_bd f g m x hx; omega) (by omega)
set_option maxRecDepth 100000 in
set_option maxHeartbeats 4000000 in
theorem send_chg (f g : Nat → UInt8) (n : Nat) (hn : n ≤ 4096) (S T : ByteArray) (hS : txt f n = S) (hT : txt g n = T) (Q : ByteArray) (hQ : (⟨(chgL f g n).toArray⟩ : ByteArray) = Q) (w : World) :
    Calls Try.prog 15 #[.string S, .string T, .bool false] w fun e w' => e = .returned (.tuple #[.string Q, .int .i64 0]) ∧ Ext w w' := by
  obtain ⟨cf, hcf⟩ : ∃ c, crcX f n = c := ⟨_, rfl⟩
  obtain ⟨cg, hcg⟩ : ∃ c, crcX g n = c := ⟨_, rfl⟩
  have HSF := Lib.hid (sum_txt f n hn S hS cf hcf)
  have HSG := Lib.hid (sum_txt g n hn T hT cg hcg)
  have o := fun W => of_txt f g n (by omega) W
  have ww := fun W A c => write_call 2 n cf cg f g n hn (by decide) (by omega) (by rw [← hcf]; exact crcX_lt f n) (by rw [← hcg]; exact crcX_lt g n) A c W
  have hQ' : (⟨(sealL (strL 2 n cf cg (exts f g n))).toArray⟩ : ByteArray) = Q := by rw [← hQ, ← hcf, ← hcg]; rfl
  rw [hQ'] at ww
  rw [hS, hT] at o
  have hTs : T.size = 16 * n := by rw [← hT]; exact txt_size g n
  have hdv : (T.size : Int) / 16 = (n : Int) := by omega
  have hm : ((T.size : Int) % 16 != 0) = false := by rw [bne_eq_false_iff_eq]; omega
  have hm2 : ((T.size : Int).tmod 16) = 0 := by rw [Int.tmod_eq_emod_of_nonneg (by omega)]; omega
  have hd : decide ((4096 : Int) < (n : Int)) = false := by rw [decide_eq_false_iff_not]; omega
  have e0 : ofTo S T n = exts f g n := by unfold exts; rw [hS, hT]
  rw [e0] at o
  obtain ⟨len, hlen⟩ : ∃ l, (exts f g n).length = l := ⟨_, rfl⟩
  rw [hlen] at o ww
  have HO := Lib.hid o
  have HW := Lib.hid ww
  clear hcf hcg o ww hQ hQ' e0 hlen hS hT
  go_enter Try.func15, Try.ntmps15
  go_wp2_with fail
  refine (HSG.out _).mono ?_
  rintro e w1 ⟨rfl, R1⟩
  have hX := Blk.new w1 44 #[.int .i64 2, .int .i64 n, .int .u32 0, .int .u32 cg]
  have hb1 := Ext.trans R1 (Ext.alloc w1 (.cells #[.int .i64 2, .int .i64 n, .int .u32 0, .int .u32 cg] 44))
  have hz1 := R1.size
  go_wp2_with fail
  refine (HSF.out _).mono ?_
  rintro e w2 ⟨rfl, R2⟩
  have hX2 := hX.ext R2
  have hb2 := hb1.trans R2
  have q2 := hX2.cell 2
  have f2 := hX2.frozen 2
  have hB : Blk (w2.setCell ⟨w1.heap.size, 2, none⟩ (.int .u32 cf)) w1.heap.size 44 #[.int .i64 2, .int .i64 n, .int .u32 cf, .int .u32 cg] ∧ Below w.heap.size w (w2.setCell ⟨w1.heap.size, 2, none⟩ (.int .u32 cf)) := ⟨by simpa using hX2.set_ 2 (.int .u32 cf), Below.setCell hb2 hz1 _⟩
  clear hX hb1 R1 R2 hX2 hb2
  go_upto_region 7 with fail
  clear q2 f2
  generalize w2.setCell ⟨w1.heap.size, 2, none⟩ (.int .u32 cf) = w3 at hB ⊢
  have HB := Lib.hid hB
  go_wp2_with fail
  refine (HO.out _).mono ?_
  rintro e w4 ⟨A, cap, rfl, hrow, R4⟩
  have hX4 := HB.out.1.ext R4
  have hE4 := HB.out.2.trans (R4.mono (by have := HB.out.2.size; omega))
  have k0 := hX4.cell 0
  have k1 := hX4.cell 1
  have k2 := hX4.cell 2
  have k3 := hX4.cell 3
  clear hX4 hB HB
  go_wp2_with fail
  refine (HW.out _ _ _ hrow).mono ?_
  rintro e w5 ⟨rfl, R5⟩
  go_wp2_with fail
  go_ret2
  exact ⟨rfl, Ext.trans hE4 R5⟩
set_option maxRecDepth 100000 in
set_option maxHeartbeats 4000000 in
theorem send_all (g : Nat → UInt8) (n : Nat) (hn : n ≤ 4096) (S T : ByteArray) (hT : txt g n = T) (Q : ByteArray) (hQ : (⟨(allL g n).toArray⟩ : ByteArray) = Q) (w : World) :
    Calls Try.prog 15 #[.string S, .string T, .bool true] w fun e w' => e = .returned (.tuple #[.string Q, .int .i64 0]) ∧ Ext w w' := by
  obtain ⟨cg, hcg⟩ : ∃ c, crcX g n = c := ⟨_, rfl⟩
  obtain ⟨Z, hZ⟩ : ∃ q, txt zf n = q := ⟨_, rfl⟩
  have HSG := Lib.hid (sum_txt g n hn T hT cg hcg)
  have HZ := Lib.hid (zeros_any n (by omega) Z hZ)
  have o := fun W => of_txt zf g n (by omega) W
  have ww := fun W A c => write_call 1 n 0 cg zf g n hn (by decide) (by omega) (by decide) (by rw [← hcg]; exact crcX_lt g n) A c W
  have hQ' : (⟨(sealL (strL 1 n 0 cg (exts zf g n))).toArray⟩ : ByteArray) = Q := by rw [← hQ, ← hcg]; rfl
  rw [hQ'] at ww
  rw [hZ, hT] at o
  have hTs : T.size = 16 * n := by rw [← hT]; exact txt_size g n
  have hdv : (T.size : Int) / 16 = (n : Int) := by omega
  have hm : ((T.size : Int) % 16 != 0) = false := by rw [bne_eq_false_iff_eq]; omega
  have hm2 : ((T.size : Int).tmod 16) = 0 := by rw [Int.tmod_eq_emod_of_nonneg (by omega)]; omega
  have hd : decide ((4096 : Int) < (n : Int)) = false := by rw [decide_eq_false_iff_not]; omega
  have e0 : ofTo Z T n = exts zf g n := by unfold exts; rw [hZ, hT]
  rw [e0] at o
  obtain ⟨len, hlen⟩ : ∃ l, (exts zf g n).length = l := ⟨_, rfl⟩
  rw [hlen] at o ww
  have HO := Lib.hid o
  have HW := Lib.hid ww
  clear hcg o ww hQ hQ' e0 hlen hZ hT
  go_enter Try.func15, Try.ntmps15
  go_wp2_with fail
  refine (HSG.out _).mono ?_
  rintro e w1 ⟨rfl, R1⟩
  have hX := Blk.new w1 44 #[.int .i64 2, .int .i64 n, .int .u32 0, .int .u32 cg]
  have hb1 := Ext.trans R1 (Ext.alloc w1 (.cells #[.int .i64 2, .int .i64 n, .int .u32 0, .int .u32 cg] 44))
  have hz1 := R1.size
  go_wp2_with fail
  refine (HZ.out _).mono ?_
  rintro e w2 ⟨rfl, R2⟩
  have hX2 := hX.ext R2
  have hb2 := hb1.trans R2
  have q0 := hX2.cell 0
  have f0 := hX2.frozen 0
  have hB : Blk (w2.setCell ⟨w1.heap.size, 0, none⟩ (.int .i64 1)) w1.heap.size 44 #[.int .i64 1, .int .i64 n, .int .u32 0, .int .u32 cg] ∧ Below w.heap.size w (w2.setCell ⟨w1.heap.size, 0, none⟩ (.int .i64 1)) := ⟨by simpa using hX2.set_ 0 (.int .i64 1), Below.setCell hb2 hz1 _⟩
  clear hX hb1 R1 R2 hX2 hb2
  go_upto_region 7 with fail
  clear q0 f0
  generalize w2.setCell ⟨w1.heap.size, 0, none⟩ (.int .i64 1) = w3 at hB ⊢
  have HB := Lib.hid hB
  go_wp2_with fail
  refine (HO.out _).mono ?_
  rintro e w4 ⟨A, cap, rfl, hrow, R4⟩
  have hX4 := HB.out.1.ext R4
  have hE4 := HB.out.2.trans (R4.mono (by have := HB.out.2.size; omega))
  have k0 := hX4.cell 0
  have k1 := hX4.cell 1
  have k2 := hX4.cell 2
  have k3 := hX4.cell 3
  clear hX4 hB HB
  go_wp2_with fail
  refine (HW.out _ _ _ hrow).mono ?_
  rintro e w5 ⟨rfl, R5⟩
  go_wp2_with fail
  go_ret2
  exact ⟨rfl, Ext.trans hE4 R5⟩
/-- Texts that are refused: no whole sectors, or of another size. -/
theorem send_odd (S T : ByteArray) (hT : T.size % 16 ≠ 0) (hl : T.size ≤ 60000) (w : World) :
    Calls Try.prog 15 #[.string S, .string T, .bool false] w fun e w' => e = .returned (.tuple #[.string ⟨#[]⟩, .int .i64 1]) ∧ Ext w w' := by
  obtain ⟨c, hc⟩ : ∃ c, crcSum T.data.toList = c := ⟨_, rfl⟩
  have s := fun W => sum_any T W (by omega)
  rw [hc] at s
  have HS := Lib.hid s
  obtain ⟨n, hn⟩ : ∃ n, T.size / 16 = n := ⟨_, rfl⟩
  have hdv : (T.size : Int) / 16 = (n : Int) := by omega
  have hm : ((T.size : Int) % 16 != 0) = true := by rw [bne_iff_ne]; omega
  have hm3 : ((T.size : Int) % 16 == 0) = false := by rw [beq_eq_false_iff_ne]; omega
  have hd : decide ((4096 : Int) < (n : Int)) = false := by rw [decide_eq_false_iff_not]; omega
  clear s hc hn
  go_enter Try.func15, Try.ntmps15
  go_wp2_with fail
  refine (HS.out _).mono ?_
  rintro e w1 ⟨rfl, R1⟩
  have hEx := Ext.trans R1 (Ext.alloc w1 (.cells #[.int .i64 2, .int .i64 n, .int .u32 0, .int .u32 c] 44))
  go_wp2_with fail
  go_ret2
  exact ⟨rfl, hEx⟩
theorem send_other (S T : ByteArray) (hT : T.size % 16 = 0) (hl : T.size ≤ 60000) (hs : S.size ≠ T.size) (hsl : S.size ≤ 60000) (w : World) :
    Calls Try.prog 15 #[.string S, .string T, .bool false] w fun e w' => e = .returned (.tuple #[.string ⟨#[]⟩, .int .i64 1]) ∧ Ext w w' := by
  obtain ⟨c, hc⟩ : ∃ c, crcSum T.data.toList = c := ⟨_, rfl⟩
  obtain ⟨d, hdd⟩ : ∃ c, crcSum S.data.toList = c := ⟨_, rfl⟩
  have s := fun W => sum_any T W (by omega)
  have s2 := fun W => sum_any S W (by omega)
  rw [hc] at s
  rw [hdd] at s2
  have HS := Lib.hid s
  have HS2 := Lib.hid s2
  have HO := Lib.hid (fun W => of_bad S T W (.inl hs) (by omega))
  obtain ⟨n, hn⟩ : ∃ n, T.size / 16 = n := ⟨_, rfl⟩
  have hdv : (T.size : Int) / 16 = (n : Int) := by omega
  have hm : ((T.size : Int) % 16 != 0) = false := by rw [bne_eq_false_iff_eq]; omega
  have hm2 : ((T.size : Int).tmod 16) = 0 := by rw [Int.tmod_eq_emod_of_nonneg (by omega)]; omega
  have hd : decide ((4096 : Int) < (n : Int)) = false := by rw [decide_eq_false_iff_not]; omega
  clear s s2 hc hdd hn hs
  go_enter Try.func15, Try.ntmps15
  go_wp2_with fail
  refine (HS.out _).mono ?_
  rintro e w1 ⟨rfl, R1⟩
  have hX := Blk.new w1 44 #[.int .i64 2, .int .i64 n, .int .u32 0, .int .u32 c]
  have hb1 := Ext.trans R1 (Ext.alloc w1 (.cells #[.int .i64 2, .int .i64 n, .int .u32 0, .int .u32 c] 44))
  have hz1 := R1.size
  go_wp2_with fail
  refine (HS2.out _).mono ?_
  rintro e w2 ⟨rfl, R2⟩
  have hX2 := hX.ext R2
  have hb2 := hb1.trans R2
  have q2 := hX2.cell 2
  have f2 := hX2.frozen 2
  have hB : Below w.heap.size w (w2.setCell ⟨w1.heap.size, 2, none⟩ (.int .u32 d)) := Below.setCell hb2 hz1 _
  clear hX hb1 R1 R2 hX2 hb2
  go_upto_region 7 with fail
  clear q2 f2
  generalize w2.setCell ⟨w1.heap.size, 2, none⟩ (.int .u32 d) = w3 at hB ⊢
  go_wp2_with fail
  refine (HO.out _).mono ?_
  rintro e w4 ⟨rfl, R4⟩
  have hE4 := hB.trans (R4.mono (by have := hB.size; omega))
  go_wp2_with fail
  go_ret2
  exact ⟨rfl, hE4⟩
end Go.Proofs.Ytoiifcmjmjkcaaa

/- The walks of octet.Reader: Of, Take, Get, End. -/
namespace Go.Proofs.Ytoiifcmjmjkcaaa
set_option linter.unusedVariables false
set_option linter.unusedSimpArgs false
open Go.RowKit

/-- A reader's cells: what is left, and whether there were too few bytes. -/
def rdr (s : ByteArray) (short : Bool) : Array Value := #[.string s, .bool short]

theorem of_any (s : ByteArray) (w : World) : Calls Try.prog 50 #[.string s] w fun e w' => e = .returned (.pointer (some ⟨w.heap.size, 0, none⟩)) ∧ Upd w w.heap.size 109 (rdr s false) w' := by
  go_enter Try.func50, Try.ntmps50
  go_wp2
  go_ret
  exact ⟨rfl, Blk.new _ _ _, only_alloc (World.grownBy.refl w _) _⟩

/-- The next bytes: with enough of them. -/
theorem take_yes (g : Nat) (s : ByteArray) (short : Bool) (n : Nat) (w : World) (h : Blk w g 109 (rdr s short)) (hn : n ≤ s.size) (hs : s.size ≤ 9223372036854775807) :
    Calls Try.prog 65 #[.pointer (some ⟨g, 0, none⟩), .int .i64 n] w fun e w' => e = .returned (.string (s.extract 0 n)) ∧ Upd w g 109 (rdr (s.extract n s.size) short) w' := by
  have c0 : w.cell? ⟨g, 0, none⟩ = some (.string s) := h.cell 0
  have c1 : w.cell? ⟨g, 1, none⟩ = some (.bool short) := h.cell 1
  have f0 : w.frozen? ⟨g, 0, none⟩ = false := h.frozen 0
  have f1 : w.frozen? ⟨g, 1, none⟩ = false := h.frozen 1
  have H := Lib.hid h
  clear h
  go_enter Try.func65, Try.ntmps65
  go_wp2
  go_ret
  exact ⟨rfl, (Upd.refl H.out).set 0 _⟩
theorem take_short (g : Nat) (s : ByteArray) (short : Bool) (n : Nat) (w : World) (h : Blk w g 109 (rdr s short)) (hn : s.size < n) (hn2 : n ≤ 9223372036854775807) :
    Calls Try.prog 65 #[.pointer (some ⟨g, 0, none⟩), .int .i64 n] w fun e w' => e = .returned (.string ⟨#[]⟩) ∧ Upd w g 109 (rdr ⟨#[]⟩ true) w' := by
  have c0 : w.cell? ⟨g, 0, none⟩ = some (.string s) := h.cell 0
  have c1 : w.cell? ⟨g, 1, none⟩ = some (.bool short) := h.cell 1
  have f0 : w.frozen? ⟨g, 0, none⟩ = false := h.frozen 0
  have f1 : w.frozen? ⟨g, 1, none⟩ = false := h.frozen 1
  have H := Lib.hid h
  clear h
  go_enter Try.func65, Try.ntmps65
  go_wp2
  go_ret
  exact ⟨rfl, ((Upd.refl H.out).set 0 _).set 1 _⟩
theorem take_neg (g : Nat) (s : ByteArray) (short : Bool) (n : Int) (w : World) (hn : n < 0) :
    Calls Try.prog 65 #[.pointer (some ⟨g, 0, none⟩), .int .i64 n] w fun e w' => e = .returned (.string ⟨#[]⟩) ∧ w = w' := by
  go_enter Try.func65, Try.ntmps65
  go_wp2
  go_ret
  exact ⟨rfl, rfl⟩
theorem end_yes (g : Nat) (s : ByteArray) (w : World) (h : Blk w g 109 (rdr s false)) (h0 : s.size = 0) :
    Calls Try.prog 53 #[.pointer (some ⟨g, 0, none⟩)] w fun e w' => e = .returned (.int .i64 0) ∧ w = w' := by
  have c0 : w.cell? ⟨g, 0, none⟩ = some (.string s) := h.cell 0
  have c1 : w.cell? ⟨g, 1, none⟩ = some (.bool false) := h.cell 1
  clear h
  have hz : s.toList.isEmpty = true := by rw [ByteArray.toList_eq]; simp; exact Array.eq_empty_of_size_eq_zero h0
  go_enter Try.func53, Try.ntmps53
  go_wp2
  go_ret
  exact ⟨rfl, rfl⟩
theorem end_no (g : Nat) (s : ByteArray) (short : Bool) (w : World) (h : Blk w g 109 (rdr s short)) (h0 : short = false → s.size ≠ 0) :
    Calls Try.prog 53 #[.pointer (some ⟨g, 0, none⟩)] w fun e w' => e = .returned (.int .i64 3) ∧ w = w' := by
  have c0 : w.cell? ⟨g, 0, none⟩ = some (.string s) := h.cell 0
  have c1 : w.cell? ⟨g, 1, none⟩ = some (.bool short) := h.cell 1
  clear h
  cases short
  · have hz : s.toList.isEmpty = false := by rw [ByteArray.toList_eq]; simp; exact fun e => h0 rfl (by rw [ByteArray.size, e]; rfl)
    clear h0
    go_enter Try.func53, Try.ntmps53
    go_wp2
    go_ret
    exact ⟨rfl, rfl⟩
  · clear h0
    go_enter Try.func53, Try.ntmps53
    go_wp2
    go_ret
    exact ⟨rfl, rfl⟩
end Go.Proofs.Ytoiifcmjmjkcaaa

/- The walk of octet.Reader.Get; tierceref01.Number. -/
namespace Go.Proofs.Ytoiifcmjmjkcaaa
set_option linter.unusedVariables false
set_option linter.unusedSimpArgs false
open Go.RowKit

/-- A number of bytes, the lowest first. -/
def numL : List UInt8 → Nat
  | [] => 0
  | b :: l => b.toNat + 256 * numL l
theorem numL_lt (l : List UInt8) : numL l < 256 ^ l.length := by
  induction l with
  | nil => simp [numL]
  | cons b l ih =>
    have := b.toNat_lt
    simp only [numL, List.length_cons, Nat.pow_succ]
    have : 256 ^ l.length * 256 = 256 * 256 ^ l.length := Nat.mul_comm _ _
    omega
theorem numL_snoc (l : List UInt8) (b : UInt8) : numL (l ++ [b]) = numL l + b.toNat * 256 ^ l.length := by
  induction l with
  | nil => simp [numL]
  | cons a l ih =>
    simp only [List.cons_append, numL, ih, List.length_cons, Nat.pow_succ, Nat.mul_add]
    have : 256 * (b.toNat * 256 ^ l.length) = b.toNat * (256 ^ l.length * 256) := by rw [Nat.mul_comm 256, Nat.mul_assoc]
    omega
theorem le_numL (l : List UInt8) : le (numL l) l.length = l := by
  apply List.ext_getElem?
  intro i
  by_cases hi : i < l.length
  · rw [le_get _ _ _ hi]
    induction l generalizing i with
    | nil => simp at hi
    | cons a l ih =>
      cases i with
      | zero =>
        simp only [numL, Nat.pow_zero, Nat.div_one, List.getElem?_cons_zero]
        congr 1
        apply UInt8.toNat.inj
        rw [UInt8.toNat_ofNat']
        have := a.toNat_lt
        omega
      | succ i =>
        simp only [List.length_cons] at hi
        rw [List.getElem?_cons_succ, ← ih i (by omega)]
        congr 2
        simp only [numL, Nat.pow_succ]
        rw [Nat.mul_comm (256 ^ i) 256, ← Nat.div_div_eq_div_mul]
        congr 1
        have := a.toNat_lt
        omega
  · rw [List.getElem?_eq_none (by rw [le_length]; omega), List.getElem?_eq_none (by omega)]
theorem numL_le (n k : Nat) (h : n < 256 ^ k) : numL (le n k) = n := by
  induction k generalizing n with
  | zero => simp at h; subst h; rfl
  | succ k ih =>
    have h1 : le n (k + 1) = le n k ++ [UInt8.ofNat (n / 256 ^ k)] := rfl
    have h2 : le n k = le (n % 256 ^ k) k := by
      apply List.ext_getElem?
      intro i
      by_cases hi : i < k
      · rw [le_get _ _ _ hi, le_get _ _ _ hi]
        congr 1
        apply UInt8.toNat.inj
        rw [UInt8.toNat_ofNat', UInt8.toNat_ofNat']
        have e : 256 ^ k = 256 ^ i * (256 * 256 ^ (k - i - 1)) := by
          rw [← Nat.mul_assoc, ← Nat.pow_succ, ← Nat.pow_add]
          congr 1
          omega
        have : n % 256 ^ k / 256 ^ i = n / 256 ^ i % (256 * 256 ^ (k - i - 1)) := by
          rw [e, Nat.mod_mul_right_div_self]
        rw [this]
        simp only [Nat.reducePow]
        rw [Nat.mod_mul_right_mod]
      · rw [List.getElem?_eq_none (by rw [le_length]; omega), List.getElem?_eq_none (by rw [le_length]; omega)]
    rw [h1, numL_snoc, h2, ih _ (Nat.mod_lt _ (Nat.pow_pos (by decide))), le_length, UInt8.toNat_ofNat']
    have h3 : n / 256 ^ k < 256 := by
      rw [Nat.div_lt_iff_lt_mul (Nat.pow_pos (by decide)), Nat.mul_comm, ← Nat.pow_succ]
      exact h
    simp only [Nat.reducePow]
    rw [Nat.mod_eq_of_lt h3, Nat.mul_comm]
    exact Nat.mod_add_div _ _
theorem numL_take (l : List UInt8) (k : Nat) (h : k < l.length) : numL (l.take (k + 1)) = numL (l.take k) + (l.getD k 0).toNat * 256 ^ k := by
  rw [List.take_succ_eq_append_getElem h, numL_snoc, List.length_take, Nat.min_eq_left (by omega)]
  simp [List.getD, List.getElem?_eq_getElem h]

/-- A place's byte put over the number of those below it. -/
theorem or_place (X b j : Nat) (hX : X < 256 ^ j) (hb : b < 256) (hj : j < 8) :
    bits .or .u64 (X : Int) (IntKind.u64.wrap (IntKind.u64.wrap (b : Int) * 2 ^ (8 * j))) = ((X + b * 256 ^ j : Nat) : Int) := by
  have hwb : IntKind.u64.wrap (b : Int) = b := by simp [IntKind.wrap, IntKind.bits, IntKind.signed]; omega
  rw [hwb]
  have e : (2 : Nat) ^ (8 * j) = 256 ^ j := by rw [Nat.pow_mul]
  have hp : 256 ^ (j + 1) ≤ 256 ^ 8 := Nat.pow_le_pow_right (by decide) (by omega)
  have hp0 : 0 < 256 ^ j := Nat.pow_pos (by decide)
  have hbj : b * 256 ^ j ≤ 255 * 256 ^ j := Nat.mul_le_mul_right _ (by omega)
  have hbound : 255 * 256 ^ j + 256 ^ j = 256 ^ (j + 1) := by rw [Nat.pow_succ]; omega
  simp only [Nat.reducePow] at hp
  have hw : IntKind.u64.wrap ((b : Int) * 2 ^ (8 * j)) = ((b * 256 ^ j : Nat) : Int) := by
    have e2 : ((b : Int) * 2 ^ (8 * j)) = ((b * 256 ^ j : Nat) : Int) := by rw [← e]; simp
    rw [e2]
    generalize b * 256 ^ j = q at hbj
    simp [IntKind.wrap, IntKind.bits, IntKind.signed]
    omega
  rw [hw, u64_or_nat X (b * 256 ^ j) (by omega) (by omega)]
  congr 1
  rw [← e, Nat.or_comm, Nat.mul_comm, ← Nat.two_pow_add_eq_or_of_lt (by rw [e]; exact hX), Nat.add_comm]

/-- What a reader has left, and whether there were too few bytes, after a number of k bytes; the number. -/
def getN (st : List UInt8 × Bool) (k : Nat) : Nat × (List UInt8 × Bool) :=
  if k ≤ st.1.length then (numL (st.1.take k), (st.1.drop k, st.2)) else (0, ([], true))
theorem getN_lt (st : List UInt8 × Bool) (k : Nat) : (getN st k).1 < 256 ^ k := by
  unfold getN
  split
  · rename_i h
    have := numL_lt (st.1.take k)
    rwa [List.length_take, Nat.min_eq_left h] at this
  · exact Nat.pow_pos (by decide)
theorem getN_length (st : List UInt8 × Bool) (k : Nat) : (getN st k).2.1.length ≤ st.1.length := by
  unfold getN
  split <;> simp

set_option maxHeartbeats 1000000 in
theorem take_any (g : Nat) (st : List UInt8 × Bool) (k : Nat) (w : World) (hk : k ≤ 8) (h : Blk w g 109 (rdr ⟨st.1.toArray⟩ st.2)) (hs : st.1.length ≤ 1000000) :
    ∃ (T : List UInt8) , T.length ≤ 8 ∧ numL T = (getN st k).1 ∧ Calls Try.prog 65 #[.pointer (some ⟨g, 0, none⟩), .int .i64 k] w fun e w' => e = .returned (.string ⟨T.toArray⟩) ∧ Upd w g 109 (rdr ⟨(getN st k).2.1.toArray⟩ (getN st k).2.2) w' := by
  have hsz : (⟨st.1.toArray⟩ : ByteArray).size = st.1.length := by show st.1.toArray.size = _; simp
  unfold getN
  by_cases hle : k ≤ st.1.length
  · rw [if_pos hle]
    refine ⟨st.1.take k, by simp; omega, rfl, ?_⟩
    have := take_yes g ⟨st.1.toArray⟩ st.2 k w h (by omega) (by omega)
    rw [cut_eq _ k (by omega)] at this
    have e : (⟨st.1.toArray⟩ : ByteArray).extract k (⟨st.1.toArray⟩ : ByteArray).size = ⟨(st.1.drop k).toArray⟩ := by
      apply str_ext
      rw [Lib.extract_data, hsz]
      exact List.take_of_length_le (by simp)
    rw [e] at this
    exact this
  · rw [if_neg hle]
    refine ⟨[], by simp, rfl, ?_⟩
    exact take_short g ⟨st.1.toArray⟩ st.2 k w h (by omega) (by omega)

theorem getN_clamp (n : Nat) (h1 : 1 ≤ n) (h8 : n ≤ 8) : clampSize n = n := by unfold clampSize; omega

set_option maxRecDepth 10000 in
set_option maxHeartbeats 1000000 in
theorem get_any (g : Nat) (st : List UInt8 × Bool) (k : Nat) (w : World) (h1 : 1 ≤ k) (h8 : k ≤ 8) (h : Blk w g 109 (rdr ⟨st.1.toArray⟩ st.2)) (hs : st.1.length ≤ 1000000) :
    Calls Try.prog 51 #[.pointer (some ⟨g, 0, none⟩), .int .i64 k] w fun e w' => e = .returned (.int .u64 (getN st k).1) ∧ Upd w g 109 (rdr ⟨(getN st k).2.1.toArray⟩ (getN st k).2.2) w' := by
  obtain ⟨T, hT8, hTn, hT⟩ := take_any g st k w h8 h hs
  generalize (getN st k).2 = st2 at hT ⊢
  rw [← hTn]
  have hTT := Lib.hid hT
  clear hT hTn h
  go_enter Try.func51, Try.ntmps51
  go_wp2_with fail
  refine (width_any _ _).mono ?_
  rintro e w1 ⟨rfl, rfl⟩
  rw [getN_clamp k h1 h8]
  go_wp2_with fail
  refine hTT.out.mono ?_
  rintro e w2 ⟨rfl, hU⟩
  have hsz : (⟨T.toArray⟩ : ByteArray).size = T.length := by show T.toArray.size = _; simp
  obtain ⟨c, hc1, hc2, hcv⟩ := conv_row ⟨T.toArray⟩ w2 (by unfold maxLen; omega)
  rw [hsz] at hc1 hcv
  have hB : Bytes (w2.alloc (.cells (rowOf T c) 5 (c, c + 1))) w2.heap.size T c := Bytes.new_
  have hCell := Lib.hid (fun i hi => hB.cell (i := i) hi)
  have hU2 : Upd w g 109 (rdr ⟨st2.1.toArray⟩ st2.2) (w2.drew.alloc (.cells (rowOf T c) 5 (c, c + 1))) := ⟨(hU.blk.drew).alloc _, only_alloc (only_drew hU.grown) _⟩
  have HU := Lib.hid hU2
  clear hB hU hU2 hTT
  go_wp2_with fail
  go_loop [5, 6, 7, 14] (fun x _ _ i => ∃ (j X : Nat), j ≤ T.length ∧ i = .int .i64 j ∧ x = .int .u64 X ∧ Hid (X = numL (T.take j))) (fun _ _ _ i => T.length - (intOf i).toNat)
  case atStart => exact ⟨0, 0, by omega, rfl, rfl, by simp [Hid, numL]⟩
  case round =>
    obtain ⟨j, X, hj, rfl, rfl, HX⟩ := hrel
    clear hcv
    by_cases hlt : j < T.length
    · have hcell := hCell.out j hlt
      have hnx := numL_take T j hlt
      have hXlt := numL_lt (T.take j)
      rw [List.length_take, Nat.min_eq_left (by omega), ← HX.out] at hXlt
      rw [← HX.out] at hnx
      generalize T.getD j 0 = b at hcell hnx
      have hor := or_place X b.toNat j hXlt b.toNat_lt (by omega)
      generalize hY : X + b.toNat * 256 ^ j = Y at hor hnx
      have HY := Lib.hid hnx
      clear hXlt hnx hY
      go_wp2_with fail
      go_round
      case rel => exact ⟨j + 1, Y, by omega, by go_num, rfl, by show Y = _; rw [HY.out]⟩
      case measure => simp [intOf]; omega
    · obtain rfl : j = T.length := by omega
      go_wp2_with fail
      go_ret
      exact ⟨ret_int (by rw [HX.out, List.take_length]), HU.out⟩
end Go.Proofs.Ytoiifcmjmjkcaaa

/- A reader of one's own. -/
namespace Go.Proofs.Ytoiifcmjmjkcaaa
set_option linter.unusedVariables false
set_option linter.unusedSimpArgs false
open Go.RowKit

/-- The reader's states: what is left, and whether there were too few bytes. -/
structure Rs (A : World) (b : Nat) (st : List UInt8 × Bool) (w : World) : Prop where
  blk : Blk w b 109 (rdr ⟨st.1.toArray⟩ st.2)
  below : Below b A w
theorem Rs.size {A w : World} {b : Nat} {st : List UInt8 × Bool} (h : Rs A b st w) : b < w.heap.size := h.blk.lt
theorem Rs.call {A w w' : World} {b : Nat} {st : List UInt8 × Bool} (h : Rs A b st w) (hb : Below w.heap.size w w') : Rs A b st w' :=
  ⟨h.blk.below hb h.size, h.below.trans (hb.mono (Nat.le_of_lt h.size))⟩
theorem Rs.alloc {A w : World} {b : Nat} {st : List UInt8 × Bool} (h : Rs A b st w) (o : Obj) : Rs A b st (w.alloc o) := ⟨h.blk.alloc o, h.below.alloc (Nat.le_of_lt h.size) o⟩
theorem Rs.set_ {A w : World} {b : Nat} {st : List UInt8 × Bool} (h : Rs A b st w) {p : Addr} (u : Value) (hp : b < p.block) : Rs A b st (w.setCell p u) := ⟨h.blk.far (by omega) u, h.below.setCell (by omega) u⟩
theorem rs_of (s : ByteArray) (w : World) : Calls Try.prog 50 #[.string s] w fun e w' => e = .returned (.pointer (some ⟨w.heap.size, 0, none⟩)) ∧ Rs w w.heap.size (s.data.toList, false) w' := by
  refine (of_any s w).mono ?_
  rintro e w' ⟨rfl, hU⟩
  refine ⟨rfl, by simpa using hU.blk, ?_⟩
  have := hU.grown
  exact ⟨this.os, this.tape, this.output, this.size, fun i hi => this.block i hi (by simp; omega)⟩
/-- A number is read; of other blocks none turns. -/
theorem rs_get {A : World} {b : Nat} {st : List UInt8 × Bool} {w : World} (h : Rs A b st w) (k : Nat) (h1 : 1 ≤ k) (h8 : k ≤ 8) (hs : st.1.length ≤ 1000000) :
    Calls Try.prog 51 #[.pointer (some ⟨b, 0, none⟩), .int .i64 k] w fun e w' => e = .returned (.int .u64 (getN st k).1) ∧ Rs A b (getN st k).2 w' ∧ (∀ x t cs, x ≠ b → Blk w x t cs → Blk w' x t cs) ∧ w.heap.size ≤ w'.heap.size := by
  refine (get_any b st k w h1 h8 h.blk hs).mono ?_
  rintro e w' ⟨rfl, hU⟩
  refine ⟨rfl, ⟨hU.blk, ?_⟩, fun x t cs hx hl => hl.grown hU.grown (by simpa using hx), hU.grown.size⟩
  exact h.below.grown hU.grown (Nat.le_of_lt h.size) (fun k e => by injection e with e; omega)
theorem rs_end_yes {A : World} {b : Nat} {w : World} (h : Rs A b ([], false) w) :
    Calls Try.prog 53 #[.pointer (some ⟨b, 0, none⟩)] w fun e w' => e = .returned (.int .i64 0) ∧ w = w' :=
  end_yes b _ w h.blk rfl
theorem rs_end_no {A : World} {b : Nat} {st : List UInt8 × Bool} {w : World} (h : Rs A b st w) (h0 : st ≠ ([], false)) :
    Calls Try.prog 53 #[.pointer (some ⟨b, 0, none⟩)] w fun e w' => e = .returned (.int .i64 3) ∧ w = w' := by
  refine end_no b _ _ w h.blk (fun hs he => h0 ?_)
  have : st.1.toArray.size = 0 := he
  rw [List.size_toArray] at this
  exact Prod.ext (List.eq_nil_of_length_eq_zero this) hs
end Go.Proofs.Ytoiifcmjmjkcaaa

/- ship: extents. -/
namespace Go.Proofs.Ytoiifcmjmjkcaaa
set_option linter.unusedVariables false
set_option linter.unusedSimpArgs false
open Go.RowKit

theorem getN_app (X k : Nat) (R : List UInt8) (sh : Bool) (hX : X < 256 ^ k) : getN (le X k ++ R, sh) k = (X, (R, sh)) := by
  unfold getN
  rw [if_pos (by simp [le_length])]
  simp only [List.take_left' (le_length X k), List.drop_left' (le_length X k), numL_le X k hX]
theorem reader_get {w : World} {b : Nat} (X k : Nat) (R : List UInt8) (h1 : 1 ≤ k) (h8 : k ≤ 8) (hX : X < 256 ^ k) (hR : R.length ≤ 900000) (h : Blk w b 109 (rdr ⟨(le X k ++ R).toArray⟩ false)) :
    Calls Try.prog 51 #[.pointer (some ⟨b, 0, none⟩), .int .i64 k] w fun e w' => e = .returned (.int .u64 X) ∧ Upd w b 109 (rdr ⟨R.toArray⟩ false) w' := by
  have := get_any b (le X k ++ R, false) k w h1 h8 h (by simp [le_length]; omega)
  rw [getN_app X k R false hX] at this
  exact this
theorem reader_take {w : World} {b : Nat} (T : ByteArray) (R : List UInt8) (hT : T.size ≤ 100000000) (hR : R.length ≤ 900000) (h : Blk w b 109 (rdr ⟨(T.data.toList ++ R).toArray⟩ false)) :
    Calls Try.prog 65 #[.pointer (some ⟨b, 0, none⟩), .int .i64 (T.size : Nat)] w fun e w' => e = .returned (.string T) ∧ Upd w b 109 (rdr ⟨R.toArray⟩ false) w' := by
  have hl : T.data.toList.length = T.size := by simp
  have hsz : (⟨(T.data.toList ++ R).toArray⟩ : ByteArray).size = T.size + R.length := by
    show (T.data.toList ++ R).toArray.size = _
    rw [List.size_toArray, List.length_append, hl]
  have := take_yes b ⟨(T.data.toList ++ R).toArray⟩ false T.size w h (by omega) (by omega)
  have e1 : (⟨(T.data.toList ++ R).toArray⟩ : ByteArray).extract 0 T.size = T := by
    apply str_ext
    rw [cut_data _ _ (by omega)]
    exact List.take_left' hl
  have e2 : (⟨(T.data.toList ++ R).toArray⟩ : ByteArray).extract T.size (⟨(T.data.toList ++ R).toArray⟩ : ByteArray).size = ⟨R.toArray⟩ := by
    apply str_ext
    rw [Lib.extract_data, hsz]
    show ((T.data.toList ++ R).drop T.size).take (T.size + R.length - T.size) = R
    rw [List.drop_left' hl]
    exact List.take_of_length_le (by omega)
  rw [e1, e2] at this
  exact this
/-- Behind deeds on block b and on blocks of one's own. -/
theorem grown_own {a w w' : World} {b : Nat} {row : Option Nat} (h : a.grownBy w (some b)) (k : w.grownBy w' row) (hr : ∀ g, row = some g → a.heap.size ≤ g) : a.grownBy w' (some b) :=
  ⟨k.os.trans h.os, k.tape.trans h.tape, k.output.trans h.output, Nat.le_trans h.size k.size, fun i hi hne => (k.block i (Nat.lt_of_lt_of_le hi h.size) (by
    intro e
    have := hr i e.symm
    omega)).trans (h.block i hi hne)⟩
theorem Row.farx {w : World} {A : Option Addr} {L : List (Nat × ByteArray)} (h : Row w A 2 xC L) {p : Addr} (hp : ∀ a, A = some a → a.block ≠ p.block) (u : Value) : Row (w.setCell p u) A 2 xC L := by
  intro i x hx
  obtain ⟨b, off, hA, hlt, hc⟩ := h i x hx
  refine ⟨b, off, hA, by simpa using hlt, fun j v hv => ?_⟩
  have hne := hp _ hA
  rw [World.cell?_of_block (Below.heap_setCell w p u b hne)]
  exact hc j v hv
theorem extsL_drop (L : List (Nat × ByteArray)) (j : Nat) (hj : j < L.length) : extsL (L.drop j) = le (atX L j) 4 ++ (le ((datX L j).size / 16) 4 ++ ((datX L j).data.toList ++ extsL (L.drop (j + 1)))) := by
  rw [List.drop_eq_getElem_cons hj]
  simp [extsL, extL, atX, datX, List.getD, hj]
theorem extsL_drop_le (L : List (Nat × ByteArray)) (j : Nat) : (extsL (L.drop j)).length ≤ (extsL L).length := by
  have := congrArg List.length (extsL_append (L.take j) (L.drop j))
  rw [List.take_append_drop, List.length_append] at this
  omega
theorem flatX_take (L : List (Nat × ByteArray)) (j : Nat) (hj : j < L.length) : (L.take (j + 1)).flatMap xC = (L.take j).flatMap xC ++ [.int .i64 (atX L j : Nat), .string (datX L j)] := by
  rw [List.take_add_one, List.getElem?_eq_getElem hj, List.flatMap_append]
  simp [xC, atX, datX, List.getD, hj]
set_option maxRecDepth 100000 in
set_option maxHeartbeats 4000000 in
theorem extents_any (b : Nat) (L : List (Nat × ByteArray)) (len most : Nat) (w : World) (hlen : L.length = len) (hl : len ≤ 100000) (hs : (extsL L).length ≤ 900000) (hx : ∀ x ∈ L, x.1 < 4294967296 ∧ x.2.size % 16 = 0 ∧ 1 ≤ x.2.size / 16 ∧ x.2.size / 16 ≤ most) (hmost : most < 4294967296) (hb : Blk w b 109 (rdr ⟨(extsL L).toArray⟩ false)) :
    Calls Try.prog 52 #[.pointer (some ⟨b, 0, none⟩), .int .i64 len, .int .i64 most] w fun e w' => ∃ A cap, e = .returned (.tuple #[.slice A len cap, .bool true]) ∧ Row w' A 2 xC L ∧ Upd w b 109 (rdr ⟨#[]⟩ false) w' ∧ (∀ a, A = some a → w.heap.size ≤ a.block) := by
  obtain ⟨i0, hi, hz0, hz1, hz2⟩ := info_parts infoX
  have hbl := hb.lt
  go_enter Try.func52, Try.ntmps52
  go_upto_region 3 with fail
  go_loopw [8, 9, 10, 12] (fun v _ _ i wr => ∃ j : Nat, j ≤ len ∧ i = .int .i64 j ∧ Blk wr b 109 (rdr ⟨(extsL (L.drop j)).toArray⟩ false) ∧ w.grownBy wr (some b) ∧ wr.ownsRowF w.heap.size 57 2 v j ((L.take j).flatMap xC)) (fun _ _ _ i _ => len - (intOf i).toNat)
  case atStart => exact ⟨0, by omega, rfl, hb, World.grownBy.refl w _, World.ownsRowF_nil _ _ _ _⟩
  case round =>
    clear hb
    obtain ⟨j, hj, rfl, hB, hg, hown⟩ := hrel
    by_cases hlt : j < len
    · have hjx : j < L.length := by omega
      have hxj := hx _ (List.getElem_mem hjx)
      have e : L[j] = (atX L j, datX L j) := by simp [atX, datX, List.getD, hjx]
      rw [e] at hxj
      simp only at hxj
      have hd := extsL_drop L j hjx
      have hf := flatX_take L j hjx
      have hdl := extsL_drop_le L (j + 1)
      have hdl0 := extsL_drop_le L j
      rw [hd] at hB hdl0
      generalize atX L j = K at hxj hB hf hdl0
      generalize datX L j = D at hxj hB hf hdl0
      obtain ⟨Z, hZ⟩ : ∃ Z, D.size / 16 = Z := ⟨_, rfl⟩
      rw [hZ] at hB hxj hdl0
      have hDs : D.size = 16 * Z := by omega
      generalize hR : extsL (L.drop (j + 1)) = R at hB hdl hdl0
      have HR := Lib.hid hR
      simp only [List.length_append, le_length] at hdl0
      have hDl : D.data.toList.length = D.size := by simp
      have hwk : IntKind.i64.wrap (K : Int) = (K : Int) := IntWalk.i64_in _ (by omega)
      have hwz : IntKind.i64.wrap (Z : Int) = (Z : Int) := IntWalk.i64_in _ (by omega)
      have hz1' : decide ((Z : Int) < 1) = false := by rw [decide_eq_false_iff_not]; omega
      have hz2' : decide ((most : Int) < (Z : Int)) = false := by rw [decide_eq_false_iff_not]; omega
      have hwm : IntKind.i64.wrap ((Z : Int) * 16) = (D.size : Int) := by rw [IntWalk.i64_in _ (by omega)]; omega
      have hmz : (Z : Int) * 16 = (D.size : Int) := by omega
      have hmz2 : 16 * (Z : Int) = (D.size : Int) := by omega
      clear hDs
      have hgsz := hg.size
      have C1 := reader_get K 4 (le Z 4 ++ (D.data.toList ++ R)) (by decide) (by decide) (by omega) (by simp only [List.length_append, le_length]; omega) hB
      clear hd hR hB e
      go_wp2_with fail
      refine C1.mono ?_
      rintro e w2 ⟨rfl, U2⟩
      have g2 := grown_trans' hg U2.grown
      have o2 := hown.kept U2.grown (by
        rcases hown.2 with ⟨rfl, _⟩ | ⟨g, cap, cur, fz, rfl, hbg, _⟩
        · exact .inl rfl
        · exact .inr (by simp [Value.ownBlock]; omega))
      have C2 := reader_get Z 4 (D.data.toList ++ R) (by decide) (by decide) (by omega) (by simp only [List.length_append]; omega) U2.blk
      clear C1 U2 hown hg
      go_wp2_with fail
      refine C2.mono ?_
      rintro e w3 ⟨rfl, U3⟩
      have g3 := grown_trans' g2 U3.grown
      have o3 := o2.kept U3.grown (by
        rcases o2.2 with ⟨rfl, _⟩ | ⟨g, cap, cur, fz, rfl, hbg, _⟩
        · exact .inl rfl
        · exact .inr (by simp [Value.ownBlock]; omega))
      have C3 := reader_take D R (by omega) (by omega) U3.blk
      clear C2 U3 o2 g2
      go_wp2_with fail
      refine C3.mono ?_
      rintro e w4 ⟨rfl, U4⟩
      have g4 := grown_trans' g3 U4.grown
      have o4 := o3.kept U4.grown (by
        rcases o3.2 with ⟨rfl, _⟩ | ⟨g, cap, cur, fz, rfl, hbg, _⟩
        · exact .inl rfl
        · exact .inr (by simp [Value.ownBlock]; omega))
      have hB4 := U4.blk
      clear C3 U4 o3 g3
      have o5 := o4.kept (only_of_below (Ext.alloc w4 (.cells #[.int .i64 K, .string D] 57)) none) (Classical.em _)
      have hB5 := hB4.alloc (.cells #[.int .i64 K, .string D] 57)
      have g5 := grown_own g4 (only_of_below (Ext.alloc w4 (.cells #[.int .i64 K, .string D] 57)) none) (fun g e => by cases e)
      have hz5 := g4.size
      clear o4 hB4 g4
      go_wp2_with (at_builtin; refine wp_buf_cells _ rfl _ _ 25 rfl w.heap.size 57 i0 _ 2 24 Try.underlying25 hi hz0 hz1 hz2 rfl (by decide) _ _ _ rfl o5 ⟨w4.heap.size, 0, none⟩ 1 1 [.int .i64 K, .string D] rfl rfl (new_cells w4 K D) (new_one K D) ?c3 ?c4 ?c5 ?_)
      case c3 => unfold maxLen; omega
      case c4 => omega
      case c5 => simp; omega
      intro v' w6 h2 h3 h4
      rw [← hf] at h2
      have hb6 : Blk w6 b 109 (rdr ⟨R.toArray⟩ false) := hB5.grown h3 (by
        intro e
        have := (o5.lt b e.symm).1
        omega)
      have g6 := grown_own g5 h3 (fun g e => (o5.lt g e).1)
      rw [← HR.out] at hb6
      clear o5 hB5 g5 h3 h4
      go_wp2_with fail
      go_roundw
      case rel => exact ⟨j + 1, by omega, by go_num, hb6, g6, h2⟩
      case measure => simp [intOf]; omega
    · obtain rfl : j = len := by omega
      have e1 : L.take j = L := List.take_of_length_le (by omega)
      have e2 : L.drop j = [] := List.drop_eq_nil_of_le (by omega)
      rw [e1] at hown
      rw [e2] at hB
      obtain ⟨A, cap, hv, -, -, hrow⟩ := ORow.rows (L := []) (A := wr) (H := 0) ⟨⟨Below.refl _ _, Nat.zero_le _, trivial, (fun _ h => by cases h), List.Pairwise.nil⟩, ownsF_mono hown (Nat.zero_le _), fun x h => by cases h⟩ (fun _ => rfl) hlen
      subst hv
      have hfr : Hid (∀ a, A = some a → w.heap.size ≤ a.block) := fun a ha => (hown.lt a.block (by subst ha; rfl)).1
      clear hown e1 e2
      go_wp2_with fail
      go_ret2
      exact ⟨_, _, rfl, hrow, ⟨hB, hg⟩, hfr.out⟩
end Go.Proofs.Ytoiifcmjmjkcaaa
