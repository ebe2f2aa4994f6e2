/- OctetWrites: what was written. -/
import Derived.Test.YtencbdcfcpohaaaDoorOctetBack
namespace Go.Proofs.YtencbdcfcpohaaaDoor
set_option linter.unusedVariables false
set_option linter.unusedSimpArgs false
open Go.RowKit

/-- A deed of a writer; another block stays. -/
theorem Ws.deed {A w : World} {b b2 : Nat} {L L1 : List UInt8} {t : TypeId} {cs : Array Value} (h : Ws A b L w) (h2 : Blk w b2 t cs) (ht : t ≠ 5) (hb : b2 ≠ b) {f : FuncId} {args : Array Value} {v : Value}
    (hc : ∀ g, Wr w b g L → Calls Tryd.prog f args w fun e w' => e = .returned v ∧ ∃ g1, Wr w' b g1 L1 ∧ Wrote w b g g1 w') : Calls Tryd.prog f args w fun e w' => e = .returned v ∧ Ws A b L1 w' ∧ Blk w' b2 t cs := by
  obtain ⟨g, hW, hg, hA, hs⟩ := h
  have hne := hW.apart h2 ht
  refine (hc g hW).mono ?_
  rintro e w' ⟨rfl, g', hW', hK⟩
  exact ⟨rfl, ⟨g', hW', hK.own_from hs hg, hK.below hA hs (Nat.le_refl _) hg, Nat.le_trans hs hK.size⟩, (hK.block b2 h2.lt hb (fun e => hne e.symm)).trans h2⟩

structure ActD where
  kind : Int
  n : Nat
  size : Int
  s : ByteArray
def actC (x : ActD) : List Value := [.int .i64 x.kind, .int .u64 x.n, .int .i64 x.size, .string x.s]
theorem cells_act : Tryd.prog.cellsOf 33 = 4 := by kernel_rfl
theorem cells_ai : Tryd.prog.cellsOf 3 = 1 := by kernel_rfl
theorem cells_au : Tryd.prog.cellsOf 31 = 1 := by kernel_rfl
theorem cells_as : Tryd.prog.cellsOf 9 = 1 := by kernel_rfl
def ActD.good (x : ActD) : Prop := x.n < 18446744073709551616 ∧ (-9223372036854775808 ≤ x.size ∧ x.size ≤ 9223372036854775807) ∧ x.s.size ≤ maxLen
theorem fit_act {w : World} {cs : List Value} (hf : Fit Tryd.prog w 33 cs) : ∃ x : ActD, cs = actC x ∧ x.good := by
  obtain ⟨hl, hx⟩ := fit_fields 4 Tryd.underlying33 cells_act hf
  obtain ⟨k, e0, _⟩ := cell_int Tryd.underlying3 (hx 0 0 3 1 rfl cells_ai)
  obtain ⟨n, e1, wn⟩ := cell_int Tryd.underlying31 (hx 1 1 31 1 rfl cells_au)
  obtain ⟨z, e2, wz⟩ := cell_int Tryd.underlying3 (hx 2 2 3 1 rfl cells_ai)
  obtain ⟨s, e3, ws⟩ := cell_string Tryd.underlying9 (hx 3 3 9 1 rfl cells_as)
  have hb := bounds_u64 wn
  have hz := bounds_i64 wz
  obtain ⟨m, rfl⟩ : ∃ m : Nat, n = m := ⟨n.toNat, by omega⟩
  exact ⟨⟨k, m, z, s⟩, list4_of hl e0 e1 e2 e3, by show m < _; omega, hz, ws⟩
theorem arg_acts {w : World} {v : Value} (h : Arg Tryd.prog w 22 v) :
    ∃ A len cap, ∃ xs : List ActD, v = .slice A len cap ∧ len ≤ cap ∧ cap ≤ maxLen ∧ xs.length = len ∧ (∀ x ∈ xs, x.good) ∧ Row w A 4 actC xs :=
  fit_row actC ActD.good Tryd.underlying22 cells_act (by decide) (fun _ _ hf => fit_act hf) (arg_slice Tryd.underlying22 h)
theorem Row.act_in {w w' : World} {A : Option Addr} {xs : List ActD} (h : Row w A 4 actC xs) (hb : Below w.heap.size w w') {j : Nat} (hj : j < xs.length) :
    ∃ b o, A = some ⟨b, o, none⟩ ∧ b < w.heap.size ∧ w'.cell? ⟨b, o + j * 4, none⟩ = some (.int .i64 xs[j].kind) ∧ w'.cell? ⟨b, o + j * 4 + 1, none⟩ = some (.int .u64 xs[j].n) ∧ w'.cell? ⟨b, o + j * 4 + 2, none⟩ = some (.int .i64 xs[j].size) ∧ w'.cell? ⟨b, o + j * 4 + 3, none⟩ = some (.string xs[j].s) := by
  obtain ⟨b, o, hA, hlt, hc⟩ := h.in_ hb hj
  exact ⟨b, o, hA, hlt, hc 0 _ rfl, hc 1 _ rfl, hc 2 _ rfl, hc 3 _ rfl⟩

theorem app_str (L : List UInt8) (S : ByteArray) : (⟨L.toArray⟩ : ByteArray) ++ S = ⟨(L ++ S.data.toList).toArray⟩ := by
  have : S = ⟨S.data.toList.toArray⟩ := by simp
  rw [this, mk_append]
def strOf : Value → Nat
  | .string s => s.size
  | _ => 0
theorem app_zero (L : List UInt8) (m : Nat) : (⟨(L ++ List.replicate m 0).toArray⟩ : ByteArray) ++ ⟨#[0]⟩ = ⟨(L ++ List.replicate (m + 1) 0).toArray⟩ := by
  rw [app_str]
  show (⟨((L ++ List.replicate m 0) ++ [0]).toArray⟩ : ByteArray) = _
  rw [List.append_assoc, ← List.replicate_succ']
theorem size_fill (L : List UInt8) (m : Nat) : (⟨(L ++ List.replicate m 0).toArray⟩ : ByteArray).size = L.length + m := by
  show (L ++ List.replicate m 0).toArray.size = _
  simp
theorem clear_size (L : List UInt8) : (⟨L.toArray⟩ : ByteArray).size = L.length := List.size_toArray
set_option maxHeartbeats 4000000 in
theorem octetWrites_core (A : Option Addr) (len cap : Nat) (xs : List ActD) (w : World) (hlen : xs.length = len) (hm : len ≤ maxLen) (hx : ∀ x ∈ xs, x.good) (hrow : Row w A 4 actC xs) :
    Calls Tryd.prog 3 #[.slice A len cap] w fun e w' => e = .returned (.bool true) ∧ Below w.heap.size w w' := by
  unfold maxLen at hm
  have AW := Lib.hid awake1
  go_enter Tryd.func3, Tryd.ntmps3
  go_wp2_with fail
  refine (AW.out _).mono ?_
  rintro e w1 ⟨rfl, hb1⟩
  have W0 : Ws w1 w1.heap.size [] (w1.alloc (.cells #[.pointer none, .slice none 0 0] 30)) := Ws.new_ rfl
  go_wp2_with fail
  go_loopw [4, 5] (fun s i wr => ∃ (j : Nat) (L : List UInt8) (Q : ByteArray), j ≤ len ∧ j ≤ 60 ∧ i = .int .i64 j ∧ s = .string Q ∧ Hid (Q = ⟨L.toArray⟩) ∧ Ws w1 w1.heap.size L wr ∧ L.length ≤ 4096 + 100 * j) (fun _ i _ => 60 - (intOf i).toNat)
  case atStart => exact ⟨0, [], ⟨#[]⟩, by omega, by omega, rfl, rfl, rfl, W0, by simp⟩
  case round =>
    obtain ⟨j, L, Q, hj, hj2, rfl, rfl, HQ, hW, hL⟩ := hrel
    have hQs : Q.size = L.length := by rw [HQ.out]; exact List.size_toArray
    clear W0
    have hB := below_then hb1 hW.below_
    by_cases hlt : j < len ∧ j < 60
    · obtain ⟨hlt, hlt2⟩ := hlt
      have hjx : j < xs.length := by omega
      obtain ⟨b0, o0, rfl, hlt0, q0, q1, q2, q3⟩ := hrow.act_in hB hjx
      obtain ⟨gn, gz, gs⟩ := hx _ (List.getElem_mem hjx)
      generalize xs[j].kind = k at q0
      generalize xs[j].n = N at q1 gn
      generalize xs[j].size = Z at q2 gz
      generalize xs[j].s = S at q3 gs
      unfold maxLen at gs
      have hX : Blk (wr.alloc (.cells #[.int .i64 k, .int .u64 N, .int .i64 Z, .string S] 33)) wr.heap.size 33 #[.int .i64 k, .int .u64 N, .int .i64 Z, .string S] := Blk.new _ _ _
      have hW := hW.alloc (.cells #[.int .i64 k, .int .u64 N, .int .i64 Z, .string S] 33)
      have hne : wr.heap.size ≠ w1.heap.size := by have := (‹Ws w1 w1.heap.size L wr›).size; omega
      have hclear : True := trivial
      by_cases hS : S.size ≤ 100
      · have hSd : decide ((100 : Int) < S.size) = false := by rw [decide_eq_false_iff_not]; omega
        by_cases hk1 : k = 1
        · subst hk1
          obtain ⟨K, hK⟩ : ∃ K : Nat, clampSize Z = K := ⟨_, rfl⟩
          have hK8 : K ≤ 8 := by rw [← hK]; unfold clampSize; omega
          have hd := hW.deed (L1 := L ++ le N K) hX (by decide) hne (fun g h => hK ▸ put_any _ g L N Z _ gn h (by omega))
          have HD := Lib.hid hd
          have hr : ∀ W : World, Calls Tryd.prog 12 #[.int .u64 N, .int .i64 Z] W fun e w' => e = .returned (.string ⟨(le N K).toArray⟩) ∧ Below W.heap.size W w' := fun W => hK ▸ rbytes_any N Z W gn
          obtain ⟨T, hT⟩ : ∃ T : ByteArray, (⟨(le N K).toArray⟩ : ByteArray) = T := ⟨_, rfl⟩
          rw [hT] at hr
          have HR := Lib.hid hr
          have hTs : T.size = K := by rw [← hT, clear_size, le_length]
          obtain ⟨L', hL'⟩ : ∃ L' : List UInt8, L ++ le N K = L' := ⟨_, rfl⟩
          obtain ⟨Q', hcat⟩ : ∃ Q', Q ++ T = Q' := ⟨_, rfl⟩
          have HQ' : Hid (Q' = ⟨L'.toArray⟩) := by show Q' = _; rw [← hcat, HQ.out, ← hT, mk_append, hL']
          have HL : Hid (L'.length ≤ 4096 + 100 * (j + 1)) := by rw [← hL']; simp [Hid, le_length]; omega
          rw [hL'] at HD
          clear hd hr hX hW hK hL' hT
          go_wp2_with fail
          refine HD.out.mono ?_
          rintro e w2 ⟨rfl, hW, hX⟩
          clear q0 q1 q2 q3
          have q0 := hX.cell 0
          have q1 := hX.cell 1
          have q2 := hX.cell 2
          have q3 := hX.cell 3
          go_wp2_with fail
          refine (HR.out _).mono ?_
          rintro e w3 ⟨rfl, hb⟩
          have hW := hW.call hb
          clear q0 q1 q2 q3 hX hb
          have hLs : (L'.length : Int) = (Q'.size : Int) := by rw [HQ'.out, clear_size]
          have C5 := ws_str hW
          rw [← HQ'.out] at C5
          go_wp2_with fail
          refine C5.mono ?_
          rintro e w5 ⟨rfl, hW⟩
          have C6 := ws_len hW
          rw [hLs] at C6
          clear C5 hLs
          go_wp2_with fail
          refine C6.mono ?_
          rintro e w6 ⟨rfl, rfl⟩
          clear C6
          go_wp2_with fail
          go_roundw
          case rel => exact ⟨j + 1, L', Q', by omega, by omega, by go_num, rfl, HQ', hW, HL.out⟩
          case measure => simp [intOf]; omega
        · by_cases hk2 : k = 2
          · subst hk2
            have hd := hW.deed (L1 := L ++ S.data.toList) hX (by decide) hne (fun g h => text_any _ g L S _ h (by omega))
            have HD := Lib.hid hd
            have hSl : S.data.toList.length = S.size := Array.length_toList
            obtain ⟨L', hL'⟩ : ∃ L' : List UInt8, L ++ S.data.toList = L' := ⟨_, rfl⟩
            obtain ⟨Q', hcat⟩ : ∃ Q', Q ++ S = Q' := ⟨_, rfl⟩
            have HQ' : Hid (Q' = ⟨L'.toArray⟩) := by show Q' = _; rw [← hcat, HQ.out, app_str, hL']
            have HL : Hid (L'.length ≤ 4096 + 100 * (j + 1)) := by rw [← hL']; simp only [Hid, List.length_append]; omega
            rw [hL'] at HD
            clear hd hX hW hL' hSl
            go_wp2_with fail
            refine HD.out.mono ?_
            rintro e w2 ⟨rfl, hW, hX⟩
            clear q0 q1 q2 q3
            have q3 := hX.cell 3
            go_wp2_with fail
            clear q3 hX
            have hLs : (L'.length : Int) = (Q'.size : Int) := by rw [HQ'.out, clear_size]
            have C5 := ws_str hW
            rw [← HQ'.out] at C5
            go_wp2_with fail
            refine C5.mono ?_
            rintro e w5 ⟨rfl, hW⟩
            have C6 := ws_len hW
            rw [hLs] at C6
            clear C5 hLs
            go_wp2_with fail
            refine C6.mono ?_
            rintro e w6 ⟨rfl, rfl⟩
            clear C6
            go_wp2_with fail
            go_roundw
            case rel => exact ⟨j + 1, L', Q', by omega, by omega, by go_num, rfl, HQ', hW, HL.out⟩
            case measure => simp [intOf]; omega
          · have hz1 : (k == 1) = false := by simpa using hk1
            have hz2 : (k == 2) = false := by simpa using hk2
            have hz3 : decide (k = 1) = false := by simpa using hk1
            have hz4 : decide (k = 2) = false := by simpa using hk2
            by_cases hZ : Z ≤ 4096
            · have hd := hW.deed (L1 := fillL L Z) hX (by decide) hne (fun g h => fill_any _ g L Z _ h (by omega) (by omega))
              have HD := Lib.hid hd
              clear hd hX hW
              go_wp2_with fail
              refine HD.out.mono ?_
              rintro e w2 ⟨rfl, hW, hX⟩
              clear q0 q1 q2 q3
              have q2 := hX.cell 2
              go_wp2_with fail
              obtain ⟨L', hL'⟩ : ∃ L' : List UInt8, fillL L Z = L' := ⟨_, rfl⟩
              rw [hL'] at hW
              have HL' := Lib.hid hL'
              clear hL'
              go_loop [4] (fun s => ∃ (m : Nat) (R : ByteArray), s = .string R ∧ Hid (R = ⟨(L ++ List.replicate m 0).toArray⟩) ∧ (m = 0 ∨ (L.length : Int) + m ≤ Z)) (fun s => Z.toNat - strOf s)
              case atStart => exact ⟨0, Q, rfl, by simpa [Hid] using HQ.out, .inl rfl⟩
              case round =>
                obtain ⟨m, R, rfl, HRR, hmz⟩ := hrel
                have hRs : R.size = L.length + m := by rw [HRR.out, size_fill]
                clear hQs HQ
                by_cases hlz : (R.size : Int) < Z
                · have hlzd : decide ((R.size : Int) < Z) = true := by rw [decide_eq_true_iff]; omega
                  obtain ⟨R', hR'⟩ : ∃ R', R ++ (⟨#[0]⟩ : ByteArray) = R' := ⟨_, rfl⟩
                  have HR' : Hid (R' = ⟨(L ++ List.replicate (m + 1) 0).toArray⟩) := by show R' = _; rw [← hR', HRR.out, app_zero]
                  have hs' : R'.size = R.size + 1 := by rw [HR'.out, size_fill, hRs]; omega
                  have HS' := Lib.hid hs'
                  clear hs'
                  go_wp2_with fail
                  go_round
                  case rel => exact ⟨m + 1, R', rfl, HR', .inr (by omega)⟩
                  case measure => have := HS'.out; simp [strOf]; omega
                · have hlzd : decide ((R.size : Int) < Z) = false := by rw [decide_eq_false_iff_not]; omega
                  obtain ⟨Q', rfl⟩ : ∃ Q', Q' = R := ⟨_, rfl⟩
                  have HQ' : Hid (Q' = ⟨L'.toArray⟩) := by
                    show Q' = _
                    rw [HRR.out, ← HL'.out]
                    unfold fillL
                    rw [show (Z - L.length).toNat = m by omega]
                  have HL : Hid (L'.length ≤ 4096 + 100 * (j + 1)) := by
                    show L'.length ≤ _
                    rw [← HL'.out]
                    unfold fillL
                    rw [List.length_append, List.length_replicate]
                    omega
                  have hLs : (L'.length : Int) = (Q'.size : Int) := by rw [HQ'.out, clear_size]
                  have C5 := ws_str hW
                  rw [← HQ'.out] at C5
                  go_wp2_with fail
                  refine C5.mono ?_
                  rintro e w5 ⟨rfl, hW⟩
                  have C6 := ws_len hW
                  rw [hLs] at C6
                  clear C5 hLs
                  go_wp2_with fail
                  refine C6.mono ?_
                  rintro e w6 ⟨rfl, rfl⟩
                  clear C6
                  go_wp2_with fail
                  go_roundw
                  case rel => exact ⟨j + 1, L', Q', by omega, by omega, by go_num, rfl, HQ', hW, HL.out⟩
                  case measure => simp [intOf]; omega
            · have hZd : decide ((4096 : Int) < Z) = true := by rw [decide_eq_true_iff]; omega
              have hf : Below w.heap.size w (wr.alloc (.cells #[.int .i64 k, .int .u64 N, .int .i64 Z, .string S] 33)) := hB.alloc hB.size _
              have HF := Lib.hid hf
              clear hf hX hW
              go_wp2_with fail
              go_ret
              exact ⟨rfl, HF.out⟩
      · have hSd : decide ((100 : Int) < S.size) = true := by rw [decide_eq_true_iff]; omega
        have hf : Below w.heap.size w (wr.alloc (.cells #[.int .i64 k, .int .u64 N, .int .i64 Z, .string S] 33)) := hB.alloc hB.size _
        have HF := Lib.hid hf
        clear hf hX hW
        go_wp2_with fail
        go_ret
        exact ⟨rfl, HF.out⟩
    · have hlt' : len ≤ j ∨ j = 60 := by omega
      rcases hlt' with hlt' | hlt'
      · obtain rfl : len = j := by omega
        go_wp2_with fail
        go_ret
        exact ⟨rfl, hB⟩
      · subst hlt'
        by_cases h6 : 60 < len
        · go_wp2_with fail
          go_ret
          exact ⟨rfl, hB⟩
        · go_wp2_with fail
          go_ret
          exact ⟨rfl, hB⟩
theorem octetWrites_walk (w : World) (v0 : Value) (h0 : Arg Tryd.prog w 22 v0) :
    Calls Tryd.prog 3 #[v0] w fun e w' => e = .returned (.bool true) ∧ Below w.heap.size w w' := by
  obtain ⟨A, len, cap, xs, rfl, hc, hm, h3, h5, h4⟩ := arg_acts h0
  exact octetWrites_core A len cap xs w h3 (by omega) h5 h4
end Go.Proofs.YtencbdcfcpohaaaDoor
