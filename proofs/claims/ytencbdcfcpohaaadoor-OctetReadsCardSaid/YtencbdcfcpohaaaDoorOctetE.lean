/- OctetReads: the deeds of a reader and of its reference; receivers that are nil. -/
import Derived.Test.YtencbdcfcpohaaaDoorOctetWrites
import Derived.Test.YtencbdcfcpohaaaDoorPhase
namespace Go.Proofs.YtencbdcfcpohaaaDoor
set_option linter.unusedVariables false
set_option linter.unusedSimpArgs false
open Go.RowKit

set_option maxRecDepth 10000 in
set_option maxHeartbeats 1000000 in
theorem get_gen (p : Value) (size : Int) (k : Nat) (hk : clampSize size = k) (T : List UInt8) (hT8 : T.length ≤ 8) (S : World → Prop) (hS : ∀ w, S w → ∀ o, S (w.drew.alloc o)) (w : World)
    (hT : Calls Tryd.prog 22 #[p, .int .i64 k] w fun e w' => e = .returned (.string ⟨T.toArray⟩) ∧ S w') :
    Calls Tryd.prog 18 #[p, .int .i64 size] w fun e w' => e = .returned (.int .u64 (numL T)) ∧ S w' := by
  have hTT := Lib.hid hT
  have HS := Lib.hid hS
  clear hT hS
  go_enter Tryd.func18, Tryd.ntmps18
  go_wp2_with fail
  refine (width_any _ _).mono ?_
  rintro e w1 ⟨rfl, rfl⟩
  rw [hk]
  go_wp2_with fail
  refine hTT.out.mono ?_
  rintro e w2 ⟨rfl, hU⟩
  have hsz : (⟨T.toArray⟩ : ByteArray).size = T.length := by show T.toArray.size = _; simp
  obtain ⟨c, hc1, hc2, hcv⟩ := conv_row ⟨T.toArray⟩ w2 (by unfold maxLen; omega)
  rw [hsz] at hc1 hcv
  have hB : Bytes (w2.alloc (.cells (rowOf T c) 5 (c, c + 1))) w2.heap.size T c := Bytes.new_
  have hCell := Lib.hid (fun i hi => hB.cell (i := i) hi)
  have HU := Lib.hid (HS.out _ hU (.cells (rowOf T c) 5 (c, c + 1)))
  clear hB hU hTT hk
  go_wp2_with fail
  go_loop [5, 6, 7, 14] (fun x _ _ i => ∃ (j X : Nat), j ≤ T.length ∧ i = .int .i64 j ∧ x = .int .u64 X ∧ Hid (X = numL (T.take j))) (fun _ _ _ i => T.length - (intOf i).toNat)
  case atStart => exact ⟨0, 0, by omega, rfl, rfl, by simp [Hid, numL]⟩
  case round =>
    obtain ⟨j, X, hj, rfl, rfl, HX⟩ := hrel
    clear hcv
    by_cases hlt : j < T.length
    · have hcell := hCell.out j hlt
      have hnx := numL_take T j hlt
      have hXlt := numL_lt (T.take j)
      rw [List.length_take, Nat.min_eq_left (by omega), ← HX.out] at hXlt
      rw [← HX.out] at hnx
      generalize T.getD j 0 = b at hcell hnx
      have hor := or_place X b.toNat j hXlt b.toNat_lt (by omega)
      generalize hY : X + b.toNat * 256 ^ j = Y at hor hnx
      have HY := Lib.hid hnx
      clear hXlt hnx hY
      go_wp2_with fail
      go_round
      case rel => exact ⟨j + 1, Y, by omega, by go_num, rfl, by show Y = _; rw [HY.out]⟩
      case measure => simp [intOf]; omega
    · obtain rfl : j = T.length := by omega
      go_wp2_with fail
      go_ret
      exact ⟨ret_int (by rw [HX.out, List.take_length]), HU.out⟩

theorem take_nil (n : Int) (w : World) : Calls Tryd.prog 22 #[.pointer none, .int .i64 n] w fun e w' => e = .returned (.string ⟨#[]⟩) ∧ w = w' := by
  go_enter Tryd.func22, Tryd.ntmps22
  go_wp2_with fail
  go_ret
  exact ⟨rfl, rfl⟩
theorem get_nil (n : Int) (w : World) : Calls Tryd.prog 18 #[.pointer none, .int .i64 n] w fun e w' => e = .returned (.int .u64 0) ∧ Ext w w' :=
  get_gen (.pointer none) n _ rfl [] (by simp) (Ext w) (fun w' h o => (Below.drew h).alloc h.size o) w ((take_nil _ w).mono fun e w' h => ⟨h.1, ext_of_same h.2⟩)
theorem zeros_nil (w : World) : Calls Tryd.prog 23 #[.pointer none] w fun e w' => e = .returned (.bool false) ∧ w = w' := by
  go_enter Tryd.func23, Tryd.ntmps23
  go_wp2_with fail
  go_ret
  exact ⟨rfl, rfl⟩
theorem end_nil (w : World) : Calls Tryd.prog 24 #[.pointer none] w fun e w' => e = .returned (.int .i64 2) ∧ w = w' := by
  go_enter Tryd.func24, Tryd.ntmps24
  go_wp2_with fail
  go_ret
  exact ⟨rfl, rfl⟩
theorem wstring_nil (w : World) : Calls Tryd.prog 15 #[.pointer none] w fun e w' => e = .returned (.string ⟨#[]⟩) ∧ w = w' := by
  go_enter Tryd.func15, Tryd.ntmps15
  go_wp2_with fail
  go_ret
  exact ⟨rfl, rfl⟩
theorem wlen_nil (w : World) : Calls Tryd.prog 16 #[.pointer none] w fun e w' => e = .returned (.int .i64 0) ∧ w = w' := by
  go_enter Tryd.func16, Tryd.ntmps16
  go_wp2_with fail
  go_ret
  exact ⟨rfl, rfl⟩
theorem put_nil (n z : Int) (w : World) : Calls Tryd.prog 11 #[.pointer none, .int .u64 n, .int .i64 z] w fun e w' => e = .returned (.tuple #[]) ∧ w = w' := by
  go_enter Tryd.func11, Tryd.ntmps11
  go_wp2_with fail
  (try simp only [Exit.inBlock, Exit.then])
  refine bodyPost_ret (results_none rfl _ _ _) rfl ?_
  exact ⟨rfl, rfl⟩
theorem text_nil (s : ByteArray) (w : World) : Calls Tryd.prog 13 #[.pointer none, .string s] w fun e w' => e = .returned (.tuple #[]) ∧ w = w' := by
  go_enter Tryd.func13, Tryd.ntmps13
  go_wp2_with fail
  go_end0
  exact ⟨rfl, rfl⟩
theorem fill_nil (n : Int) (w : World) : Calls Tryd.prog 14 #[.pointer none, .int .i64 n] w fun e w' => e = .returned (.tuple #[]) ∧ w = w' := by
  go_enter Tryd.func14, Tryd.ntmps14
  go_wp2_with fail
  go_end0
  exact ⟨rfl, rfl⟩

/-- The reference's reader. -/
def rdrR (st : List UInt8 × Bool) : Array Value := #[.string ⟨st.1.toArray⟩, .bool st.2]
theorem rtake_any {b : Nat} {st : List UInt8 × Bool} {w : World} (h : Blk w b 45 (rdrR st)) (n : Int) (hn : n ≤ 9223372036854775807) (hs : st.1.length ≤ 1000000) :
    Calls Tryd.prog 20 #[.pointer (some ⟨b, 0, none⟩), .int .i64 n] w fun e w' => e = .returned (.string ⟨(takeN st n).1.toArray⟩) ∧ Upd w b 45 (rdrR (takeN st n).2) w' := by
  obtain ⟨l, sh⟩ := st
  obtain ⟨s, hsl⟩ : ∃ s : ByteArray, (⟨l.toArray⟩ : ByteArray) = s := ⟨_, rfl⟩
  have hsz : s.size = l.length := by rw [← hsl]; exact List.size_toArray
  have h' : Blk w b 45 #[.string s, .bool sh] := by rw [← hsl]; exact h
  simp only at hs
  obtain ⟨c, hc⟩ : ∃ c : Nat, (if n < 0 then 0 else n) = (c : Int) := ⟨(if n < 0 then 0 else n).toNat, by split <;> omega⟩
  have htk : takeN (l, sh) n = takeN (l, sh) c := by
    unfold takeN
    by_cases h0 : n < 0
    · rw [if_pos h0] at hc ⊢
      obtain rfl : c = 0 := by omega
      simp
    · rw [if_neg h0] at hc
      rw [hc]
  rw [htk]
  have c0 : w.cell? ⟨b, 0, none⟩ = some (.string s) := h'.cell 0
  have c1 : w.cell? ⟨b, 1, none⟩ = some (.bool sh) := h'.cell 1
  have f0 : w.frozen? ⟨b, 0, none⟩ = false := h'.frozen 0
  have f1 : w.frozen? ⟨b, 1, none⟩ = false := h'.frozen 1
  have hmax : max n 0 = (c : Int) := by rw [← hc]; split <;> omega
  have H := Lib.hid h'
  by_cases hle : c ≤ l.length
  · have e1 : s.extract 0 c = ⟨(l.take c).toArray⟩ := by rw [cut_eq s c (by omega), ← hsl]
    have e2 : s.extract c s.size = ⟨(l.drop c).toArray⟩ := by
      apply str_ext
      rw [Lib.extract_data, hsz, ← hsl]
      exact List.take_of_length_le (by simp)
    have et : takeN (l, sh) c = (l.take c, (l.drop c, sh)) := by unfold takeN; rw [if_neg (by omega), if_pos (by simpa using hle)]; simp
    have hU : Upd w b 45 (rdrR (l.drop c, sh)) (w.setCell ⟨b, 0, none⟩ (.string (s.extract c s.size))) := by
      have := (Upd.refl H.out).set 0 (.string (s.extract c s.size))
      rw [e2] at this ⊢
      exact this
    have HU := Lib.hid hU
    have E1 := Lib.hid e1
    rw [et]
    have hcs : c ≤ s.size := by omega
    have hss : s.size ≤ 1000000 := by omega
    clear hU e1 e2 et htk hsl h h' hc hsz hle hs
    go_enter Tryd.func20, Tryd.ntmps20
    go_wp2_with fail
    go_ret
    exact ⟨by rw [E1.out]; rfl, HU.out⟩
  · have et : takeN (l, sh) c = ([], ([], true)) := by unfold takeN; rw [if_neg (by omega), if_neg (by simpa using hle)]
    have hU : Upd w b 45 (rdrR ([], true)) ((w.setCell ⟨b, 0, none⟩ (.string ⟨#[]⟩)).setCell ⟨b, 1, none⟩ (.bool true)) := ((Upd.refl H.out).set 0 _).set 1 _
    have HU := Lib.hid hU
    rw [et]
    have hcs : s.size < c := by omega
    have hss : s.size ≤ 1000000 := by omega
    clear hU et htk hsl h h' hc hsz hle hs
    go_enter Tryd.func20, Tryd.ntmps20
    go_wp2_with fail
    go_ret
    exact ⟨rfl, HU.out⟩

theorem takeN_len (st : List UInt8 × Bool) (n : Int) : (takeN st n).2.1.length ≤ st.1.length := by
  unfold takeN
  split
  · exact Nat.le_refl _
  · split <;> simp

/-- A reader and its reference's, beside a third block. -/
structure Duo (A : World) (n b bu kx : Nat) (t : TypeId) (X : Array Value) (st ust : List UInt8 × Bool) (w : World) : Prop where
  r : Blk w b 86 (rdr ⟨st.1.toArray⟩ st.2)
  u : Blk w bu 45 (rdrR ust)
  x : Blk w kx t X
  below : Below n A w
  nb : n ≤ b
  nu : n ≤ bu
  ne : b ≠ bu
  nx : kx ≠ b
  nxu : kx ≠ bu
  nw : n ≤ w.heap.size
section
variable {A w w' : World} {n b bu kx : Nat} {t : TypeId} {X : Array Value} {st ust : List UInt8 × Bool}
theorem Duo.ext (h : Duo A n b bu kx t X st ust w) (k : Ext w w') : Duo A n b bu kx t X st ust w' :=
  ⟨h.r.ext k, h.u.ext k, h.x.ext k, h.below.trans (k.mono h.nw), h.nb, h.nu, h.ne, h.nx, h.nxu, Nat.le_trans h.nw k.size⟩
theorem Duo.updR (h : Duo A n b bu kx t X st ust w) {st' : List UInt8 × Bool} (k : Upd w b 86 (rdr ⟨st'.1.toArray⟩ st'.2) w') : Duo A n b bu kx t X st' ust w' :=
  ⟨k.blk, h.u.grown k.grown (fun e => h.ne (Option.some.inj e).symm), h.x.grown k.grown (fun e => h.nx (Option.some.inj e)), h.below.grown k.grown h.nw (fun k e => by injection e with e; have := h.nb; omega), h.nb, h.nu, h.ne, h.nx, h.nxu, Nat.le_trans h.nw k.grown.size⟩
theorem Duo.updU (h : Duo A n b bu kx t X st ust w) {us' : List UInt8 × Bool} (k : Upd w bu 45 (rdrR us') w') : Duo A n b bu kx t X st us' w' :=
  ⟨h.r.grown k.grown (fun e => h.ne (Option.some.inj e)), k.blk, h.x.grown k.grown (fun e => h.nxu (Option.some.inj e)), h.below.grown k.grown h.nw (fun k e => by injection e with e; have := h.nu; omega), h.nb, h.nu, h.ne, h.nx, h.nxu, Nat.le_trans h.nw k.grown.size⟩
theorem Duo.get (h : Duo A n b bu kx t X st ust w) (size : Int) (k : Nat) (hk : clampSize size = k) (hs : st.1.length ≤ 1000000) :
    Calls Tryd.prog 18 #[.pointer (some ⟨b, 0, none⟩), .int .i64 size] w fun e w' => e = .returned (.int .u64 (numL (takeN st k).1)) ∧ Duo A n b bu kx t X (takeN st k).2 ust w' := by
  have hk8 : k ≤ 8 := by rw [← hk]; unfold clampSize; omega
  refine get_gen _ size k hk (takeN st k).1 ?_ (fun w' => Duo A n b bu kx t X (takeN st k).2 ust w') (fun w' h o => h.ext ((Ext.drew w').trans (Ext.alloc _ o))) w ((u_take h.r k (by omega) hs).mono fun e w' hh => ⟨hh.1, h.updR hh.2⟩)
  unfold takeN
  rw [if_neg (by omega)]
  split
  · simp; omega
  · simp
theorem Duo.take (h : Duo A n b bu kx t X st ust w) (z : Int) (hz : z ≤ 9223372036854775807) (hs : st.1.length ≤ 1000000) :
    Calls Tryd.prog 22 #[.pointer (some ⟨b, 0, none⟩), .int .i64 z] w fun e w' => e = .returned (.string ⟨(takeN st z).1.toArray⟩) ∧ Duo A n b bu kx t X (takeN st z).2 ust w' :=
  (u_take h.r z hz hs).mono fun e w' hh => ⟨hh.1, h.updR hh.2⟩
theorem Duo.utake (h : Duo A n b bu kx t X st ust w) (z : Int) (hz : z ≤ 9223372036854775807) (hs : ust.1.length ≤ 1000000) :
    Calls Tryd.prog 20 #[.pointer (some ⟨bu, 0, none⟩), .int .i64 z] w fun e w' => e = .returned (.string ⟨(takeN ust z).1.toArray⟩) ∧ Duo A n b bu kx t X st (takeN ust z).2 w' :=
  (rtake_any h.u z hz hs).mono fun e w' hh => ⟨hh.1, h.updU hh.2⟩
theorem Duo.zeros (h : Duo A n b bu kx t X st ust w) (hs : st.1.length ≤ 1000000) :
    Calls Tryd.prog 23 #[.pointer (some ⟨b, 0, none⟩)] w fun e w' => e = .returned (.bool (st.1.all (· == 0))) ∧ Duo A n b bu kx t X ([], st.2) ust w' :=
  (u_zeros h.r hs).mono fun e w' hh => ⟨hh.1, h.updR (st' := ([], st.2)) hh.2⟩
theorem Duo.end_ (h : Duo A n b bu kx t X st ust w) :
    Calls Tryd.prog 24 #[.pointer (some ⟨b, 0, none⟩)] w fun e w' => e = .returned (.int .i64 (endE st)) ∧ w = w' := u_end h.r
end
end Go.Proofs.YtencbdcfcpohaaaDoor
