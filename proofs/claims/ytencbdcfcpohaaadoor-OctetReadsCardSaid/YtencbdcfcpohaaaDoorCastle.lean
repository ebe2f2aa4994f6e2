/- The walks of package castle: step, Sum, Seal, Open. -/
import Derived.Test.YtencbdcfcpohaaaDoorOctet
import Derived.Test.YtencbdcfcpohaaaDoorBits
import Derived.Lib.Strings
import Derived.Test.YtencbdcfcpohaaaDoorConv
namespace Go.Proofs.YtencbdcfcpohaaaDoor
set_option linter.unusedVariables false
set_option linter.unusedSimpArgs false
open Go.RowKit

theorem and1_u32 (c : Nat) (h : c < 4294967296) : bits .and .u32 (c : Int) 1 = ((c % 2 : Nat) : Int) := by
  have := u32_and_nat c 1 h (by decide)
  rw [Nat.and_one_is_mod] at this
  exact this
theorem xor_u32 (c d : Nat) (h : c < 4294967296) (hd : d < 4294967296) : bits .xor .u32 (c : Int) (d : Int) = ((c ^^^ d : Nat) : Int) := u32_xor_nat c d h hd

set_option maxHeartbeats 1000000 in
theorem step_any (c : Nat) (b : UInt8) (w : World) (hc : c < 4294967296) : Calls Tryd.prog 76 #[.int .u32 c, .int .u8 b.toNat] w fun e w' => e = .returned (.int .u32 (crcStep c b.toNat)) ∧ w = w' := by
  have hb := b.toNat_lt
  have e0 := xor_u32 c b.toNat hc (by omega)
  have hx : c ^^^ b.toNat < 4294967296 := Nat.xor_lt_two_pow (n := 32) hc (by omega)
  go_enter Tryd.func76, Tryd.ntmps76
  go_wp2_with fail
  go_loop [0, 9] (fun x i => ∃ (k X : Nat), k ≤ 8 ∧ i = .int .i64 k ∧ x = .int .u32 X ∧ X < 4294967296 ∧ Hid (X = crcIt k (c ^^^ b.toNat))) (fun _ i => 8 - (intOf i).toNat)
  case atStart => exact ⟨0, _, by omega, rfl, rfl, hx, rfl⟩
  case round =>
    obtain ⟨k, X, hk, rfl, rfl, hX, HX⟩ := hrel
    clear e0 hx
    by_cases hlt : k < 8
    · have e1 : bits .and .u32 (X : Int) 1 = (X : Int) % 2 := (and1_u32 X hX).trans (by omega)
      by_cases hp : X % 2 = 1
      · have e4 : ((X : Int) % 2 == 1) = true := by simp; omega
        obtain ⟨Y, hY⟩ : ∃ Y, Y = (X / 2) ^^^ 2197175160 := ⟨_, rfl⟩
        have hY1 : Y < 4294967296 := by rw [hY]; exact Nat.xor_lt_two_pow (n := 32) (by omega) (by decide)
        have e2 : bits .xor .u32 ((X : Int) / 2) 2197175160 = (Y : Int) := by
          rw [hY, ← xor_u32 (X / 2) 2197175160 (by omega) (by decide), show ((X / 2 : Nat) : Int) = (X : Int) / 2 by omega]
          rfl
        have HY := Lib.hid hY
        clear hY
        go_wp2_with fail
        go_round
        case rel =>
          refine ⟨k + 1, Y, by omega, by go_num, rfl, hY1, ?_⟩
          show Y = crcT (crcIt k (c ^^^ b.toNat))
          rw [← HX.out, crcT, if_pos hp, HY.out]
        case measure => simp [intOf]; omega
      · have e4 : ((X : Int) % 2 == 1) = false := by simp; omega
        go_wp2_with fail
        go_round
        case rel =>
          refine ⟨k + 1, X / 2, by omega, by go_num, by go_num, by omega, ?_⟩
          show X / 2 = crcT (crcIt k (c ^^^ b.toNat))
          rw [← HX.out, crcT, if_neg hp]
        case measure => simp [intOf]; omega
    · obtain rfl : k = 8 := by omega
      go_wp2_with fail
      go_ret
      exact ⟨ret_int (by rw [HX.out]; rfl), rfl⟩

theorem crc_snoc (s : ByteArray) (k : Nat) (h : k < s.size) : crcState 4294967295 (s.data.toList.take (k + 1)) = crcStep (crcState 4294967295 (s.data.toList.take k)) (s.data.toList.getD k 0).toNat := by
  have hl : k < s.data.toList.length := by simpa using h
  rw [List.take_succ_eq_append_getElem hl, crcState_append]
  simp only [crcState, List.foldl_cons, List.foldl_nil, List.getD, List.getElem?_eq_getElem hl, Option.getD_some]

set_option maxRecDepth 10000 in
set_option maxHeartbeats 1000000 in
theorem sum_any (s : ByteArray) (w : World) (hs : s.size ≤ 140737488355328) :
    Calls Tryd.prog 63 #[.string s] w fun e w' => e = .returned (.int .u32 (crcSum s.data.toList)) ∧ Below w.heap.size w w' := by
  obtain ⟨C, c, fz, hcv, hC, hc1, hc2, hc3, hfz⟩ := conv_bytes s w (by unfold maxLen; omega)
  have hCell : ∀ i, i < s.size → (w.alloc (.cells C 5 fz)).cell? ⟨w.heap.size, i, none⟩ = some (.int .u8 ((s.data.toList.getD i 0).toNat : Int)) := by
    intro i hi
    have := (cell_of_row (w.alloc (.cells C 5 fz)) w.heap.size i C 5 fz (heap_alloc_new w _)).trans (hC i)
    rw [this, if_pos hi]
  have HC := Lib.hid hCell
  clear hC hc3 hfz hCell
  go_enter Tryd.func63, Tryd.ntmps63
  go_wp2_with fail
  go_loop [3, 5, 9] (fun x _ i => ∃ (k X : Nat), k ≤ s.size ∧ i = .int .i64 k ∧ x = .int .u32 X ∧ X < 4294967296 ∧ Hid (X = crcState 4294967295 (s.data.toList.take k))) (fun _ _ i => s.size - (intOf i).toNat)
  case atStart => exact ⟨0, 4294967295, by omega, rfl, rfl, by omega, by simp [Hid, crcState]⟩
  case round =>
    obtain ⟨k, X, hk, rfl, rfl, hX, HX⟩ := hrel
    by_cases hlt : k < s.size
    · have hcell := HC.out k hlt
      have HS := Lib.hid (crc_snoc s k hlt)
      generalize s.data.toList.getD k 0 = b at hcell HS
      go_wp2_with fail
      refine (step_any X b _ hX).mono ?_
      rintro e w1 ⟨rfl, rfl⟩
      go_wp2_with fail
      go_round
      case rel => exact ⟨k + 1, crcStep X b.toNat, by omega, by go_num, rfl, crcStep_lt hX b.toNat_lt, by show _ = _; rw [HS.out, HX.out]⟩
      case measure => simp [intOf]; omega
    · obtain rfl : k = s.size := by omega
      have e1 : bits .xor .u32 (X : Int) 4294967295 = ((crcSum s.data.toList : Nat) : Int) := by
        have h1 := xor_u32 X 4294967295 hX (by decide)
        have h2 : X ^^^ 4294967295 = crcSum s.data.toList := by
          rw [HX.out, List.take_of_length_le (by simp)]; rfl
        rw [h2] at h1
        exact h1
      generalize hZ : crcSum s.data.toList = Z at e1 ⊢
      have HZ := Lib.hid hZ
      clear hZ
      go_wp2_with fail
      go_ret
      exact ⟨ret_int (by rw [HZ.out]), by (repeat (first | with_reducible exact Below.refl _ _ | with_reducible assumption | with_reducible apply Below.drew | with_reducible apply below_drewN | (with_reducible refine below_set ?_ ?_; focus ((try simp); (try omega); done)) | (with_reducible refine below_new ?_ ?_; focus ((try simp); (try omega); done))))⟩

def sealL (l : List UInt8) : List UInt8 := l ++ le (crcSum l) 4
theorem sealL_length (l : List UInt8) : (sealL l).length = l.length + 4 := by simp [sealL, le_length]

theorem wr_range {w w' : World} {b : Nat} {g g' : Option Nat} (h : Wrote w b g g' w') (hA : ∀ k, g = some k → b ≤ k) (hb : b ≤ w.heap.size) : ∀ k, g' = some k → b ≤ k := h.own_from hb hA

set_option maxHeartbeats 1000000 in
theorem seal_any (s : ByteArray) (w : World) (hs : s.size ≤ 1099511627776) :
    Calls Tryd.prog 42 #[.string s] w fun e w' => e = .returned (.string ⟨(sealL s.data.toList).toArray⟩) ∧ Below w.heap.size w w' := by
  have hsz : s.data.toList.length = s.size := by simp
  have Hsz := Lib.hid hsz
  clear hsz
  go_enter Tryd.func42, Tryd.ntmps42
  go_wp2_with fail
  have h0 : Wr (w.alloc (.cells #[.pointer none, .slice none 0 0] 30)) w.heap.size none [] := Wr.new_ rfl
  have b0 : Below w.heap.size w (w.alloc (.cells #[.pointer none, .slice none 0 0] 30)) := by (repeat (first | with_reducible exact Below.refl _ _ | with_reducible assumption | with_reducible apply Below.drew | with_reducible apply below_drewN | (with_reducible refine below_set ?_ ?_; focus ((try simp); (try omega); done)) | (with_reducible refine below_new ?_ ?_; focus ((try simp); (try omega); done))))
  refine (text_any w.heap.size none [] s _ h0 (by simp; omega)).mono ?_
  rintro e w1 ⟨rfl, g1, h1, k1⟩
  have r1 := wr_range k1 (fun k e => by cases e) (by simp)
  have b1 := k1.below b0 (by simp) (Nat.le_refl _) (fun k e => by cases e)
  have z1 := b1.size
  clear h0 b0 k1
  go_wp2_with fail
  refine (sum_any s _ (by omega)).mono ?_
  rintro e w2 ⟨rfl, hb2⟩
  have h2 := h1.below hb2
  have b2 : Below w.heap.size w w2 := b1.trans (hb2.mono z1)
  have z2 := b2.size
  clear h1 b1 hb2 z1
  have hlt := crcSum_lt s.data.toList
  generalize hZ : crcSum s.data.toList = Z at hlt ⊢
  have HZ := Lib.hid hZ
  clear hZ
  go_wp2_with fail
  refine (put_any w.heap.size g1 _ Z 4 _ (by omega) h2 (by rw [List.nil_append, Hsz.out]; omega)).mono ?_
  rintro e w3 ⟨rfl, g3, h3, k3⟩
  have r3 := wr_range k3 r1 z2
  have b3 := k3.below b2 z2 (Nat.le_refl _) r1
  have z3 := b3.size
  clear h2 k3 b2 z2
  have hne : [] ++ s.data.toList ++ le Z (clampSize 4) ≠ [] := by
    intro e
    have := congrArg List.length e
    rw [List.length_append, le_length, show clampSize 4 = 4 by decide] at this
    simp at this
  have HN := Lib.hid hne
  clear hne
  go_wp2_with fail
  refine (ostring_some w.heap.size g3 _ _ h3 HN.out).mono ?_
  rintro e w4 ⟨rfl, h4, k4⟩
  have b4 := k4.below b3 z3 (Nat.le_refl _) r3
  clear h3 h4 k4 b3 z3 HN
  go_wp2_with fail
  go_ret
  exact ⟨by rw [← HZ.out]; rfl, b4⟩

/-- The bytes ahead of a sum that is theirs. -/
def openL (l : List UInt8) : Bool := decide (4 ≤ l.length) && decide (sealL (l.take (l.length - 4)) = l)

set_option maxHeartbeats 1000000 in
theorem open_short (s : ByteArray) (w : World) (hs : s.size < 4) :
    Calls Tryd.prog 47 #[.string s] w fun e w' => e = .returned (.tuple #[.string ⟨#[]⟩, .bool false]) ∧ Below w.heap.size w w' := by
  go_enter Tryd.func47, Tryd.ntmps47
  go_wp2_with fail
  go_ret2
  exact ⟨rfl, by (repeat (first | with_reducible exact Below.refl _ _ | with_reducible assumption | with_reducible apply Below.drew | with_reducible apply below_drewN | (with_reducible refine below_set ?_ ?_; focus ((try simp); (try omega); done)) | (with_reducible refine below_new ?_ ?_; focus ((try simp); (try omega); done))))⟩

theorem bytes_eta (s : ByteArray) : (⟨s.data.toList.toArray⟩ : ByteArray) = s := by simp
theorem str_ext {q s : ByteArray} (h : q.data.toList = s.data.toList) : q = s := by rw [← bytes_eta q, h, bytes_eta]
theorem str_ne {q s : ByteArray} (h : ¬ q = s) : (q.toList == s.toList) = false := by
  rw [beq_eq_false_iff_ne, ByteArray.toList_eq, ByteArray.toList_eq]
  exact fun e => h (str_ext e)
theorem cut_data (s : ByteArray) (n : Nat) (h : n ≤ s.size) : (s.extract 0 n).data.toList = s.data.toList.take n := by
  have := Lib.extract_data s 0 n
  rw [this, List.drop_zero, Nat.sub_zero]
theorem cut_eq (s : ByteArray) (n : Nat) (h : n ≤ s.size) : s.extract 0 n = ⟨(s.data.toList.take n).toArray⟩ := by
  rw [← cut_data s n h, bytes_eta]

theorem seal_cut (s q : ByteArray) (w : World) (hs : 4 ≤ s.size) (hs2 : s.size ≤ 1099511627776) (h : (⟨(sealL (s.data.toList.take (s.size - 4))).toArray⟩ : ByteArray) = q) :
    Calls Tryd.prog 42 #[.string (s.extract 0 (s.size - 4))] w fun e w' => e = .returned (.string q) ∧ Below w.heap.size w w' := by
  have := seal_any (s.extract 0 (s.size - 4)) w (by rw [ByteArray.size_extract]; omega)
  rw [cut_data s _ (by omega), h] at this
  exact this

set_option maxHeartbeats 1000000 in
theorem open_yes (s : ByteArray) (w : World) (hs : 4 ≤ s.size) (hs2 : s.size ≤ 1099511627776) (h : sealL (s.data.toList.take (s.size - 4)) = s.data.toList) :
    Calls Tryd.prog 47 #[.string s] w fun e w' => e = .returned (.tuple #[.string ⟨(s.data.toList.take (s.size - 4)).toArray⟩, .bool true]) ∧ Below w.heap.size w w' := by
  have H := Lib.hid (fun W => seal_cut s s W hs hs2 (by rw [h, bytes_eta]))
  clear h
  go_enter Tryd.func47, Tryd.ntmps47
  go_wp2_with fail
  refine (H.out _).mono ?_
  rintro e w1 ⟨rfl, hb⟩
  go_wp2_with fail
  go_ret2
  exact ⟨by rw [← cut_eq s (s.size - 4) (by omega)]; rfl, hb⟩

set_option maxHeartbeats 1000000 in
theorem open_no (s : ByteArray) (w : World) (hs : 4 ≤ s.size) (hs2 : s.size ≤ 1099511627776) (h : ¬ sealL (s.data.toList.take (s.size - 4)) = s.data.toList) :
    Calls Tryd.prog 47 #[.string s] w fun e w' => e = .returned (.tuple #[.string ⟨#[]⟩, .bool false]) ∧ Below w.heap.size w w' := by
  obtain ⟨q, hq⟩ : ∃ q : ByteArray, (⟨(sealL (s.data.toList.take (s.size - 4))).toArray⟩ : ByteArray) = q := ⟨_, rfl⟩
  have hne : (q.toList == s.toList) = false := str_ne (fun e => h (by rw [e] at hq; have := congrArg (fun x : ByteArray => x.data.toList) hq; simpa using this))
  have H := Lib.hid (fun W => seal_cut s q W hs hs2 hq)
  clear h hq
  go_enter Tryd.func47, Tryd.ntmps47
  go_wp2_with fail
  refine (H.out _).mono ?_
  rintro e w1 ⟨rfl, hb⟩
  go_wp2_with fail
  go_ret2
  exact ⟨rfl, hb⟩
end Go.Proofs.YtencbdcfcpohaaaDoor
