/- owners' law: OwnersFree: its walk (printed by gen_ownersfree.py). -/
import Derived.Test.YtdpohbaeopidmaaKOwnersFree19
import Derived.Test.YtdpohbaeopidmaaKOwnersFree02
namespace Go.Proofs.Ytdpohbaeopidmaa
set_option linter.unusedVariables false
set_option linter.unusedSimpArgs false
open Go.RowKit Go.Maps Go.ChangeShapes Go.WideShapes Go.ChangeAt

abbrev enc1 (x : Int) : List Value := [Value.int .i64 x]
def emptied (N : Int → List OwD) (K : List Int) : Int → List OwD := fun c => if c ∈ K then [] else N c
theorem emptied_nil (N : Int → List OwD) : emptied N [] = N := by
  funext c
  unfold emptied
  rw [if_neg (by simp)]
theorem emptied_one (N : Int → List OwD) (K : List Int) (c : Int) : setL (emptied N K) c [] = emptied N (K ++ [c]) := by
  funext i
  unfold setL emptied
  by_cases e : i = c
  · subst e; simp
  · simp [e]
theorem take_next {L : List Int} {k : Nat} (h : k < L.length) : ∃ c, L[k]? = some c ∧ L.take (k + 1) = L.take k ++ [c] :=
  ⟨L[k], List.getElem?_eq_getElem h, by rw [List.take_add_one, List.getElem?_eq_getElem h]; rfl⟩
theorem nodup_take {L : List Int} {k : Nat} {c : Int} (hn : L.Nodup) (h : L[k]? = some c) : c ∉ L.take k := by
  intro hm
  obtain ⟨i, hi, e⟩ := List.getElem_of_mem hm
  rw [List.getElem_take] at e
  obtain ⟨hk, e2⟩ := List.getElem?_eq_some_iff.1 h
  rw [List.length_take] at hi
  have := List.pairwise_iff_getElem.1 (List.nodup_iff_pairwise_ne.1 hn) i k (by omega) hk (by omega)
  exact this (e.trans e2.symm)
theorem row_int_at {wx : World} {B : Option Addr} {ln cp : Nat} {L : List Int} {k : Nat} {c : Int} (h : wx.ownsRow 0 3 1 (.slice B ln cp) ln (L.flatMap enc1)) (hc : L[k]? = some c) : ∃ b off, B = some ⟨b, off, none⟩ ∧ wx.cell? ⟨b, off + k, none⟩ = some (.int .i64 c) := by
  obtain ⟨B', cp', e, -, -, -, hr⟩ := ownsRow_Row (k := 1) (enc := enc1) (fun _ => rfl) Nat.one_pos h
  cases e
  obtain ⟨b, off, hB, -, hx⟩ := hr k c hc
  have := hx 0 _ rfl
  rw [Nat.mul_one, Nat.add_zero] at this
  exact ⟨b, off, hB, this⟩
theorem OwnT.range {H : Nat} {A w : World} {R : List Thing} {pb : Nat} {F : List Nat} {N W : Int → List OwD} (h : OwnT H A (tOB pb F N W :: R) w) {c : Int} (hc : N c ≠ []) : 1 ≤ c ∧ c ≤ 1023 := by
  obtain ⟨nb, wb, F1, F2, m, m', _, h2, _⟩ := h.bs
  exact h2.range c hc
theorem row_own_at {wx : World} {B : Option Addr} {n cp : Nat} {X : List OwD} {j : Nat} (h : wx.ownsRow 0 31 3 (.slice B n cp) n (X.flatMap ownC)) (hl : X.length = n) (hj : j < n) : ∃ b off, B = some ⟨b, off, none⟩ ∧ wx.cell? ⟨b, off + j * 3, none⟩ = some (.int .i64 (atO X j).1) ∧ wx.cell? ⟨b, off + j * 3 + 1, none⟩ = some (.int .i64 (atO X j).2.1) ∧ wx.cell? ⟨b, off + j * 3 + 2, none⟩ = some (.int .i64 (atO X j).2.2) := by
  obtain ⟨B', cp', e, -, -, -, hr⟩ := ownsRow_Row (k := 3) (enc := ownC) ownC_len (by decide) h
  cases e
  obtain ⟨b, off, hB, -, h0, h1, h2⟩ := hr.own_in (Below.refl _ _) (i := j) (by omega)
  exact ⟨b, off, hB, h0, h1, h2⟩
theorem free_one : FreeIs n0 n0 1 := .inl ⟨by decide, by decide, rfl, rfl, fun j h1 h2 => by omega⟩
theorem chunks_none : (riseL (chunksB n0)).length = 0 := by
  rw [riseL_congr (Q := fun _ => false) (fun i _ _ => by simp [chunksB, n0])]
  decide +kernel
def FI (A0 : World) (pb : Nat) (N1 N2 W : Int → List OwD) (R : List Thing) (b : Bool) (w : World) : Prop := ∃ F, OwnT A0.heap.size A0 (tOB pb F (if b = true then N2 else N1) W :: R) w
theorem fi_rem {A0 w : World} {pb : Nat} {N1 W : Int → List OwD} {R : List Thing} {l : Nat → Bool} {c : Int} {o : OwD} {X Y : List OwD} {z : Bool} (h : FI A0 pb N1 (setL N1 c Y) W R (l 9) w) (hl : l 9 = false) (hc : wfV c) (hX : N1 c = X) (hY : X.erase o = Y) (hz : decide (Y.length = 0) = z) (hin : o ∈ X) (hn : X.length ≤ 1000000000) :
    Calls Try.prog 17 #[.pointer (some ⟨pb, 0, none⟩), .int .i64 c, ownV o] w fun e w' => e = .returned (.tuple #[.bool z, .int .i64 0]) ∧ FI A0 pb N1 (setL N1 c Y) W R (upd l 9 9) w' := by
  obtain ⟨F, hO⟩ := h
  rw [hl, if_neg (by decide)] at hO
  refine (remB pb F N1 W c o X Y z w hO hc hX hY hz hin hn).mono ?_
  rintro e w' ⟨rfl, F', h'⟩
  have e9 : upd l 9 9 = true := rfl
  exact ⟨rfl, F', by rw [e9, if_pos rfl]; exact h'⟩
def FreeI (w : World) (pb : Nat) (R : List Thing) (k : Nat) (wx : World) : Prop := ∃ F N W C, OwnT w.heap.size w (tOB pb F N W :: R) wx ∧ Cover C N W ∧ C.length ≤ k ∧ (∀ c, (N c).length ≤ k) ∧ ∀ c, (W c).length ≤ k
theorem alone_one {N W : Int → List OwD} {c : Int} {o : OwD} (h : N c = [o]) (hw : W c = []) : aloneB N W c o = true := alone_self h (.inl hw)
set_option maxRecDepth 100000 in
set_option maxHeartbeats 4000000 in
theorem ownersFree_core (A : Option Addr) (len cap : Nat) (xs : List DeedD) (o : OwD) (w : World) (hlen : xs.length = len) (hrow : Row w A 5 deedC xs) (hw : ∀ x ∈ xs, wfD x) (hm : len ≤ maxLen) :
    Calls Try.prog 5 #[.slice A len cap, ownV o] w fun e w' => e = .returned (.bool true) ∧ Below w.heap.size w w' := by
  unfold maxLen at hm
  have Hlen := Lib.hid hlen
  have Hrow := Lib.hid hrow
  have Hw := Lib.hid hw
  clear hlen hrow hw
  obtain ⟨o1, o2, o3⟩ := o
  unfold ownV
  have HO := Lib.hid ((OwnT.start w).new 31 #[.int .i64 o1, .int .i64 o2, .int .i64 o3])
  go_enter Try.func5, Try.ntmps5
  go_upto_region 1 with fail
  generalize w.alloc (.cells #[.int .i64 o1, .int .i64 o2, .int .i64 o3] 31) = w1 at HO ⊢
  obtain ⟨ob, hob⟩ : ∃ g, w.heap.size = g := ⟨_, rfl⟩
  have HO : Hid (OwnT w.heap.size w [tBlk ob 31 #[.int .i64 o1, .int .i64 o2, .int .i64 o3]] w1) := hob ▸ HO
  rw [hob]
  clear hob
  go_wp2_with fail
  refine (awake13 _).mono ?_
  rintro e w2 ⟨rfl, hE2⟩
  have HO := Lib.hid (HO.out.ext hE2)
  clear hE2
  go_wp2_with fail
  refine (newO_any HO.out).mono ?_
  rintro e w3 ⟨pb, F, rfl, O3, -⟩
  have hJ : FreeI w pb [tBlk ob 31 #[.int .i64 o1, .int .i64 o2, .int .i64 o3]] 0 w3 := ⟨_, _, _, [], O3, (fun c h => absurd ⟨rfl, rfl⟩ h), Nat.le_refl _, (fun _ => Nat.le_refl _), fun _ => Nat.le_refl _⟩
  clear O3
  go_upto_block 0 with fail
  go_cut [] (fun wx => FreeI w pb [tBlk ob 31 #[.int .i64 o1, .int .i64 o2, .int .i64 o3]] 60 wx)
  case first =>
    go_wp2_with fail
    go_loopw [6] (fun i wr => ∃ k : Nat, i = .int .i64 k ∧ k ≤ len ∧ k ≤ 60 ∧ FreeI w pb [tBlk ob 31 #[.int .i64 o1, .int .i64 o2, .int .i64 o3]] k wr) (fun i _ => len - (intOf i).toNat)
    case atStart => exact ⟨0, rfl, by omega, by omega, hJ⟩
    case round =>
      obtain ⟨k, rfl, hk, hk60, hJ'⟩ := hrel
      clear hJ
      by_cases hlt : k < len ∧ k < 60
      · obtain ⟨hlt, hlt2⟩ := hlt
        obtain ⟨F, N, W, C, O, hC, hCl, hn, hm2⟩ := hJ'
        obtain ⟨b, off, rfl, hbl, hc⟩ := Hrow.out.in_ O.below (i := k) (by have := Hlen.out; omega)
        have hwf := Hw.out (xs[k]'(by have := Hlen.out; omega)) (List.getElem_mem _)
        generalize xs[k]'(by have := Hlen.out; omega) = x at hc hwf
        obtain ⟨K, c, y1, y2, y3⟩ := x
        have HWF := Lib.hid hwf
        have c0 := hc 0 _ rfl
        have c1 := hc 1 _ rfl
        have c2 := hc 2 _ rfl
        have c3 := hc 3 _ rfl
        have c4 := hc 4 _ rfl
        simp at c0 c1 c2 c3 c4
        have HO := Lib.hid O
        have HI := Lib.hid (And.intro hC (And.intro hCl (And.intro hn hm2)))
        clear hc O hwf hC hCl hn hm2
        go_upto_block 2 with fail
        have HO4 := Lib.hid (HO.out.new 33 #[.int .i64 K, .int .i64 c, .int .i64 y1, .int .i64 y2, .int .i64 y3])
        clear HO c0 c1 c2 c3 c4
        generalize wr.alloc (.cells #[.int .i64 K, .int .i64 c, .int .i64 y1, .int .i64 y2, .int .i64 y3] 33) = w6 at HO4 ⊢
        generalize wr.heap.size = xb at HO4 ⊢
        have HO5 := Lib.hid (HO4.out.perm (.swap _ _ _))
        clear HO4
        go_cut [] (fun wx => ∃ F N' W', OwnT w.heap.size w [tOB pb F N' W', tBlk xb 33 #[.int .i64 K, .int .i64 c, .int .i64 y1, .int .i64 y2, .int .i64 y3], tBlk ob 31 #[.int .i64 o1, .int .i64 o2, .int .i64 o3]] wx ∧ Stepped K c (y1, y2, y3) N W N' W')
        case first =>
          have c0 := HO5.out.b1.cell 0
          have c1 := HO5.out.b1.cell 1
          have c2 := HO5.out.b1.cell 2
          have c3 := HO5.out.b1.cell 3
          have c4 := HO5.out.b1.cell 4
          simp at c0 c1 c2 c3 c4
          have HLE := Lib.hid (show ∀ c, (N c).length ≤ 1000000000 from fun c => Nat.le_trans (HI.out.2.2.1 c) (by omega))
          by_cases h1 : K = 1 ∨ K = 2
          · have HST := Lib.hid (stepped_add (c := c) (o := (y1, y2, y3)) (N := N) (W := W) h1)
            rcases h1 with rfl | rfl
            all_goals
              go_wp2_with fail
              refine (add_all pb _ _ _ c (y1, y2, y3) _ HO5.out (HLE.out c)).mono ?_
              rintro e w8 ⟨rfl, F8, O8⟩
              have HO8 := Lib.hid O8
              clear O8 c0 c1 c2 c3 c4
              go_wp2_with fail
              go_meet
              case rel => exact ⟨_, _, _, HO8.out, HST.out⟩
          · by_cases h3 : K = 3
            · subst h3
              go_wp2_with fail
              refine (rem_all pb _ _ _ c (y1, y2, y3) _ HO5.out HWF.out.2.1 (HLE.out c)).mono ?_
              rintro e w8 ⟨rfl, F8, O8⟩
              have HO8 := Lib.hid O8
              clear O8 c0 c1 c2 c3 c4
              go_wp2_with fail
              go_meet
              case rel => exact ⟨_, _, _, HO8.out, stepped_rem⟩
            · have HST := Lib.hid (stepped_com (c := c) (o := (y1, y2, y3)) (N := N) (W := W) h1 h3)
              have e1 : (K == 1) = false := by rw [beq_eq_false_iff_ne]; omega
              have e2 : (K == 2) = false := by rw [beq_eq_false_iff_ne]; omega
              have e3 : (K == 3) = false := by rw [beq_eq_false_iff_ne]; omega
              clear h1 h3
              go_wp2_with fail
              refine (commitB pb _ _ _ _ HO5.out HLE.out).mono ?_
              rintro e w8 ⟨rfl, F8, O8⟩
              have HO8 := Lib.hid O8
              clear O8 c0 c1 c2 c3 c4
              go_wp2_with fail
              go_meet
              case rel => exact ⟨_, _, _, HO8.out, HST.out⟩
        case rest =>
          obtain ⟨F5, N', W', O5, hst⟩ := hcut
          have HO := Lib.hid (O5.sub (M := [tOB pb F5 N' W', tBlk ob 31 #[.int .i64 o1, .int .i64 o2, .int .i64 o3]]) (.cons_cons _ (.cons _ (.refl _))))
          have hcv : Cover (c :: C) N' W' := hst.cover HI.out.1
          have hcl : (c :: C).length ≤ k + 1 := Nat.succ_le_succ HI.out.2.1
          obtain ⟨hn', hm'⟩ := hst.le HI.out.2.2.1 HI.out.2.2.2
          generalize c :: C = C' at hcv hcl
          obtain ⟨n, hn1, hn2, hN, hW, hlow, hfree⟩ := hcv.free (by omega)
          have HJ := Lib.hid (And.intro hcv (And.intro hcl (And.intro hn' hm')))
          have HNW := Lib.hid (And.intro hN (And.intro hW (And.intro hlow hfree)))
          have HLN := Lib.hid (show ∀ c, (N' c).length ≤ 1000000000000 from fun c => Nat.le_trans (hn' c) (by omega))
          have HLW := Lib.hid (show ∀ c, (W' c).length ≤ 1000000000000 from fun c => Nat.le_trans (hm' c) (by omega))
          clear O5 hst HO5 hcv hcl hn' hm' hN hW hlow hfree
          go_wp2_with fail
          refine (free_any _ pb _ _ _ n HO.out.bs HNW.out.2.2.2 HLN.out HLW.out).mono ?_
          rintro e w7 ⟨rfl, hE⟩
          have HO := Lib.hid (HO.out.ext hE)
          clear hE
          go_wp2_with fail
          refine (count_any _ pb _ _ _ n HO.out.bs (wfV_of (by omega) (by omega)) (HLN.out n)).mono ?_
          rintro e w7 ⟨he, hE⟩
          rw [HNW.out.1] at he
          subst he
          have HO := Lib.hid (HO.out.ext hE)
          clear hE
          go_wp2_with fail
          refine (was_any _ pb _ _ _ n HO.out.bs (wfV_of (by omega) (by omega))).mono ?_
          rintro e w8 ⟨he, rfl⟩
          rw [HNW.out.2.1] at he
          subst he
          go_wp2_with fail
          go_loopw [9] (fun i wq => ∃ j : Nat, i = .int .i64 j ∧ 1 ≤ j ∧ j ≤ n ∧ Hid (OwnT w.heap.size w [tOB pb F5 N' W', tBlk ob 31 #[.int .i64 o1, .int .i64 o2, .int .i64 o3]] wq)) (fun i _ => n - (intOf i).toNat)
          case atStart => exact ⟨1, rfl, by omega, by omega, HO⟩
          case round =>
            obtain ⟨j, rfl, hj1, hj2, HO⟩ := hrel
            by_cases hjl : j < n
            · have hwj : wfV (j : Int) := wfV_of (by omega) (by omega)
              have HWJ := Lib.hid hwj
              have hlen := HLN.out j
              have HNJ := Lib.hid (show (N' (j : Int)).length = 0 → 0 < (W' (j : Int)).length from fun h => by
                have h1 := HNW.out.2.2.1 j hj1 hjl
                refine List.length_pos_iff.2 (fun e => h1 ⟨List.eq_nil_of_length_eq_zero h, e⟩))
              clear hwj
              go_wp2_with fail
              refine (count_any _ pb _ _ _ j HO.out.bs HWJ.out (HLN.out j)).mono ?_
              rintro e w8 ⟨rfl, hE⟩
              have HO := Lib.hid (HO.out.ext hE)
              clear hE
              generalize (N' (j : Int)).length = nj at HNJ hlen ⊢
              by_cases hz : nj = 0
              · subst hz
                have hpos := HNJ.out (by first | rfl | trivial)
                have HD := Lib.hid (show decide (0 < (W' (j : Int)).length) = true from decide_eq_true hpos)
                clear hpos
                go_wp2_with fail
                refine (was_any _ pb _ _ _ j HO.out.bs HWJ.out).mono ?_
                rintro e w9 ⟨he, rfl⟩
                rw [HD.out] at he
                subst he
                go_wp2_with fail
                go_roundw
                case rel => exact ⟨j + 1, by go_num, by omega, by omega, HO⟩
                case measure => simp [intOf]; omega
              · have hzb : ((nj : Int) == 0) = false := by rw [beq_eq_false_iff_ne]; omega
                go_wp2_with fail
                go_roundw
                case rel => exact ⟨j + 1, by go_num, by omega, by omega, HO⟩
                case measure => simp [intOf]; omega
            · obtain rfl : j = n := by omega
              have HN1 := Lib.hid (And.intro hn1 hn2)
              have xa := HO.out.b1.cell 0
              have xb := HO.out.b1.cell 1
              have xc := HO.out.b1.cell 2
              simp at xa xb xc
              go_wp2_with fail
              refine (addB pb _ _ _ j (o1, o2, o3) [] [(o1, o2, o3)] _ HO.out (by omega) (by omega) HNW.out.1 rfl (by simp) (by simp)).mono ?_
              rintro e w7 ⟨rfl, F7, O1⟩
              have HO := Lib.hid O1
              clear O1
              clear xa xb xc
              have xa := HO.out.b1.cell 0
              have xb := HO.out.b1.cell 1
              have xc := HO.out.b1.cell 2
              simp at xa xb xc
              go_wp2_with fail
              refine (alone_any _ pb _ _ _ j (o1, o2, o3) HO.out.bs (wfV_of (by omega) (by omega)) (by rw [setL_same]; simp) (by rw [HNW.out.2.1]; simp)).mono ?_
              rintro e w7 ⟨he, hE⟩
              rw [alone_one (setL_same _ _ _) HNW.out.2.1] at he
              subst he
              have HO := Lib.hid (HO.out.ext hE)
              clear hE
              clear xa xb xc
              go_wp2_with fail
              obtain ⟨r2, hr1, hr2, hr3, -, -, hr5⟩ := Cover.free (C := (j : Int) :: C') (N := setL N' j [(o1, o2, o3)]) (W := W') (HJ.out.1.cons j (fun i hi => setL_other hi) (fun _ _ => rfl)) (by have := HJ.out.2.1; simp; omega)
              have hrj : ((r2 : Int) == (j : Int)) = false := by
                rw [beq_eq_false_iff_ne]
                intro e
                rw [e, setL_same] at hr3
                cases hr3
              have HR5 := Lib.hid hr5
              clear hr3 hr5
              refine (free_any _ pb _ _ _ r2 HO.out.bs HR5.out (setL_le HLN.out (by simp)) HLW.out).mono ?_
              rintro e w7 ⟨rfl, hE⟩
              have HO := Lib.hid (HO.out.ext hE)
              clear hE
              have xa := HO.out.b1.cell 0
              have xb := HO.out.b1.cell 1
              have xc := HO.out.b1.cell 2
              simp at xa xb xc
              go_wp2_with fail
              refine (remB pb _ _ _ j (o1, o2, o3) [(o1, o2, o3)] [] true _ HO.out (wfV_of (by omega) (by omega)) (setL_same _ _ _) (by simp) rfl (by simp) (by simp)).mono ?_
              rintro e w7 ⟨rfl, F9, O1⟩
              rw [setL_set, setL_self HNW.out.1] at O1
              have HO := Lib.hid O1
              clear O1
              clear xa xb xc
              go_wp2_with fail
              refine (free_any _ pb _ _ _ j HO.out.bs HNW.out.2.2.2 HLN.out HLW.out).mono ?_
              rintro e w7 ⟨rfl, hE⟩
              have HO := Lib.hid (HO.out.ext hE)
              clear hE
              go_wp2_with fail
              go_roundw
              case rel => exact ⟨k + 1, by go_num, by omega, by omega, _, _, _, _, HO.out, HJ.out.1, HJ.out.2.1, HJ.out.2.2.1, HJ.out.2.2.2⟩
              case measure => simp [intOf]; omega
      · have hJ2 : FreeI w pb [tBlk ob 31 #[.int .i64 o1, .int .i64 o2, .int .i64 o3]] 60 wr := by
          obtain ⟨F, N, W, C, O, hC, hCl, hn, hm2⟩ := hJ'
          exact ⟨F, N, W, C, O, hC, by omega, fun c => Nat.le_trans (hn c) hk60, fun c => Nat.le_trans (hm2 c) hk60⟩
        have HJ2 := Lib.hid hJ2
        clear hJ' hJ2
        by_cases hk1 : k < len
        · obtain rfl : 60 = k := by omega
          clear hlt hk hk60
          go_wp2_with fail
          go_meet
          case rel => exact HJ2.out
        · clear hlt hk
          go_wp2_with fail
          go_meet
          case rel => exact HJ2.out
  case rest =>
    obtain ⟨F, N, W, C, O, hC, hCl, hn, hm2⟩ := hcut
    have HO := Lib.hid O
    have HN := Lib.hid (show ∀ c, (N c).length ≤ 1000000000 from fun c => Nat.le_trans (hn c) (by decide))
    have HE0 := Lib.hid (show ∀ c, N c ≠ [] → 1 ≤ c ∧ c ≤ 1023 from fun c hc => O.range hc)
    clear O hC hCl hn hm2 hJ
    go_wp2_with fail
    refine (chunks_any pb _ _ _ _ HO.out).mono ?_
    rintro e wl ⟨v, rfl, O1, hE⟩
    obtain ⟨B, cp, rfl, hcap, hmax, -, -⟩ := ownsRow_Row (k := 1) (enc := enc1) (fun _ => rfl) Nat.one_pos O1.r0
    have hll := riseL_le (chunksB N)
    have hnd := riseL_nodup (chunksB N)
    have hmem : ∀ c, c ∈ riseL (chunksB N) ↔ N c ≠ [] := fun c => by
      rw [mem_riseL]
      unfold chunksB
      rw [decide_eq_true_iff]
      exact ⟨fun h => h.2, fun h => ⟨HE0.out c h, h⟩⟩
    generalize riseL (chunksB N) = L at O1 hcap hll hnd hmem ⊢
    obtain ⟨ln, hln⟩ : ∃ ln, L.length = ln := ⟨_, rfl⟩
    have O2 := O1.perm (.swap _ _ _)
    rw [hln] at O2 hcap hll ⊢
    have HL := Lib.hid (And.intro hln (And.intro hnd hmem))
    have HO := Lib.hid O2
    clear O1 O2 hE hnd hmem hln
    have hJ2 : ∃ F N', OwnT w.heap.size w [tOB pb F N' W, tRow 3 1 (.slice B ln cp) ln (L.flatMap enc1), tBlk ob 31 #[.int .i64 o1, .int .i64 o2, .int .i64 o3]] wl ∧ Hid (N' = emptied N (L.take 0)) := ⟨_, _, HO.out, Lib.hid (emptied_nil N).symm⟩
    clear HO
    go_wp2_with fail
    go_loopw [13] (fun i wr => ∃ k : Nat, i = .int .i64 k ∧ k ≤ ln ∧ ∃ F N', OwnT w.heap.size w [tOB pb F N' W, tRow 3 1 (.slice B ln cp) ln (L.flatMap enc1), tBlk ob 31 #[.int .i64 o1, .int .i64 o2, .int .i64 o3]] wr ∧ Hid (N' = emptied N (L.take k))) (fun i _ => ln - (intOf i).toNat)
    case atStart => exact ⟨0, rfl, by omega, hJ2⟩
    case round =>
      obtain ⟨k, rfl, hk, F, N', O, HE⟩ := hrel
      clear hJ2
      have HO := Lib.hid O
      clear O
      by_cases hlt : k < ln
      · obtain ⟨c, hcL, hcT⟩ := take_next (L := L) (k := k) (by rw [HL.out.1]; exact hlt)
        obtain ⟨b, off, rfl, q0⟩ := row_int_at HO.out.tail.r0 hcL
        have hcm : c ∈ L := List.mem_of_getElem? hcL
        have hNc := (HL.out.2.2 c).1 hcm
        have hrg := HE0.out c hNc
        have hN'c : N' c = N c := by
          rw [HE.out]
          unfold emptied
          rw [if_neg (nodup_take HL.out.2.1 hcL)]
        have HC := Lib.hid (And.intro hcL (And.intro hcT (And.intro hNc hN'c)))
        have HW := Lib.hid (show wfV c from wfV_of (by omega) (by omega))
        have HB := Lib.hid (show (N' c).length ≤ 1000000000 from hN'c ▸ HN.out c)
        have HQ := Lib.hid (fun (wx : World) (h : wx.ownsRow 0 3 1 (.slice (some ⟨b, off, none⟩) ln cp) ln (L.flatMap enc1)) => row_int_at h hcL)
        clear hcL hcT hcm hNc hN'c
        go_wp2_with fail
        refine (list_own pb _ _ _ c _ HO.out HW.out HB.out).mono ?_
        rintro e w7 ⟨v, rfl, O1⟩
        rw [HC.out.2.2.2] at O1
        obtain ⟨B2, cp2, rfl, hcap2, hmax2, -, -⟩ := ownsRow_Row (k := 3) (enc := ownC) ownC_len (by decide) O1.r0
        obtain ⟨X, hX⟩ : ∃ X, N c = X := ⟨_, rfl⟩
        rw [hX] at O1 hcap2 ⊢
        obtain ⟨n, hn⟩ : ∃ n, X.length = n := ⟨_, rfl⟩
        rw [hn] at O1 hcap2 ⊢
        have hnb : n ≤ 1000000000 := by rw [← hn, ← hX]; exact HN.out c
        have HX := Lib.hid (And.intro hX (And.intro hn hnb))
        have hN0 : setL N' c (X.drop 0) = N' := setL_self (by rw [HC.out.2.2.2, hX]; rfl)
        have hJ3 : ∃ F, OwnT w.heap.size w [tOB pb F (setL N' c (X.drop 0)) W, tRow 31 3 (.slice B2 n cp2) n (X.flatMap ownC), tRow 3 1 (.slice (some ⟨b, off, none⟩) ln cp) ln (L.flatMap enc1), tBlk ob 31 #[.int .i64 o1, .int .i64 o2, .int .i64 o3]] w7 := ⟨_, by rw [hN0]; exact O1.perm (.swap _ _ _)⟩
        clear O1 hX hn hN0 q0
        go_wp2_with fail
        go_loopw [15] (fun i wr => ∃ j : Nat, i = .int .i64 j ∧ j ≤ n ∧ ∃ F, OwnT w.heap.size w [tOB pb F (setL N' c (X.drop j)) W, tRow 31 3 (.slice B2 n cp2) n (X.flatMap ownC), tRow 3 1 (.slice (some ⟨b, off, none⟩) ln cp) ln (L.flatMap enc1), tBlk ob 31 #[.int .i64 o1, .int .i64 o2, .int .i64 o3]] wr) (fun i _ => n - (intOf i).toNat)
        case atStart => exact ⟨0, rfl, by omega, hJ3⟩
        case round =>
          obtain ⟨j, rfl, hj, F, O⟩ := hrel
          clear hJ3
          have HO := Lib.hid O
          clear O
          by_cases hjn : j < n
          · have hdr : X.drop j = atO X j :: X.drop (j + 1) := by rw [List.drop_eq_getElem_cons (by rw [HX.out.2.1]; exact hjn), atO_eq]
            obtain ⟨b2, off2, rfl, -, -, -⟩ := row_own_at HO.out.tail.r0 HX.out.2.1 hjn
            have HQ2 := Lib.hid (fun (wx : World) (h : wx.ownsRow 0 31 3 (.slice (some ⟨b2, off2, none⟩) n cp2) n (X.flatMap ownC)) => row_own_at h HX.out.2.1 hjn)
            obtain ⟨xj, hxj⟩ : ∃ x, atO X j = x := ⟨_, rfl⟩
            rw [hxj] at HQ2 hdr
            obtain ⟨z1, z2, z3⟩ := xj
            have HDR := Lib.hid hdr
            clear hdr hxj
            obtain ⟨z, hz⟩ : ∃ z, decide ((X.drop (j + 1)).length = 0) = z := ⟨_, rfl⟩
            have HZ := Lib.hid hz
            have hzn : z = decide (j + 1 = n) := by
              rw [← hz, List.length_drop, HX.out.2.1]
              by_cases e : j + 1 = n
              · rw [decide_eq_true e, decide_eq_true (by omega)]
              · rw [decide_eq_false e, decide_eq_false (by omega)]
            clear hz
            go_upto_region 36 with fail
            obtain ⟨A0, hA0⟩ : ∃ A0 : World, w = A0 := ⟨_, rfl⟩
            have HF := Lib.hid (show FI A0 pb (setL N' c (X.drop j)) (setL (setL N' c (X.drop j)) c (X.drop (j + 1))) W [tRow 31 3 (.slice (some ⟨b2, off2, none⟩) n cp2) n (X.flatMap ownC), tRow 3 1 (.slice (some ⟨b, off, none⟩) ln cp) ln (L.flatMap enc1), tBlk ob 31 #[.int .i64 o1, .int .i64 o2, .int .i64 o3]] false wr.drew from ⟨F, by rw [← hA0]; exact HO.out.drew⟩)
            have HBD := Lib.hid (show ((z1, z2, z3) :: X.drop (j + 1)).length ≤ 1000000000 by have h1 := HX.out.2.2; have h2 := HX.out.2.1; rw [List.length_cons, List.length_drop]; omega)
            refine wp_phased (fun l w => FI A0 pb (setL N' c (X.drop j)) (setL (setL N' c (X.drop j)) c (X.drop (j + 1))) W [tRow 31 3 (.slice (some ⟨b2, off2, none⟩) n cp2) n (X.flatMap ownC), tRow 3 1 (.slice (some ⟨b, off, none⟩) ln cp) ln (L.flatMap enc1), tBlk ob 31 #[.int .i64 o1, .int .i64 o2, .int .i64 o3]] (l 9) w) [[], [], [], [1, 2], [1, 2, 3], [], [], [5, 6], [5, 6, 7], [0, 1, 2, 3, 4, 5, 6, 7, 8], [0, 1, 2, 3, 4, 5, 6, 7, 8, 9], [0, 1, 2, 3, 4, 5, 6, 7, 8, 9, 10], [0, 1, 2, 3, 4, 5, 6, 7, 8, 9, 10], [0, 1, 2, 3, 4, 5, 6, 7, 8, 9, 10, 11], [0, 1, 2, 3, 4, 5, 6, 7, 8, 9, 10, 11, 12, 13]] [144, 145, 146, 147, 148, 149, 150, 151, 152, 153, 143, 154, 155, 16] (HF.out) (by kernel_rfl) ?_
            apply BuildI.det 144 (fun l w h => h) (by rfl) (by rfl) rfl
            case h =>   -- 0: t144 := Op.move (tmp 5)
              intro lx ax wx hE hR hF
              have e5 : ax.eval (.tmp 5) = .pointer (some ⟨pb, 0, none⟩) := hE.eval 5 (by rfl) rfl
              simp [go_sem, BigFrame.eval_const, BigFrame.eval_global, BigFrame.eval_func, ↓IntWalk.iteOmega, ev e5]
              with_reducible rfl
            apply BuildI.det 145 (fun l w h => h) (by rfl) (by rfl) rfl
            case h =>   -- 1: t145 := Op.move (tmp 12)
              intro lx ax wx hE hR hF
              have e12 : ax.eval (.tmp 12) = .slice (some ⟨b, off, none⟩) ln cp := hE.eval 12 (by rfl) rfl
              simp [go_sem, BigFrame.eval_const, BigFrame.eval_global, BigFrame.eval_func, ↓IntWalk.iteOmega, ev e12]
              with_reducible rfl
            apply BuildI.det 146 (fun l w h => h) (by rfl) (by rfl) rfl
            case h =>   -- 2: t146 := Op.move (tmp 13)
              intro lx ax wx hE hR hF
              have e13 : ax.eval (.tmp 13) = .int .i64 k := hE.eval 13 (by rfl) rfl
              simp [go_sem, BigFrame.eval_const, BigFrame.eval_global, BigFrame.eval_func, ↓IntWalk.iteOmega, ev e13]
              with_reducible rfl
            apply BuildI.det 147 (fun l w h => h) (by rfl) (by rfl) rfl
            case h =>   -- 3: t147 := Op.indexAddr 49 (tmp 145) (tmp 146)
              intro lx ax wx hE hR hF
              have e145 : ax.eval (.tmp 145) = _ := hF 1 (det 145 _) (by decide) (.tail _ (.head _))
              have e146 : ax.eval (.tmp 146) = _ := hF 2 (det 146 _) (by decide) (.head _)
              simp [go_sem, BigFrame.eval_const, BigFrame.eval_global, BigFrame.eval_func, ↓IntWalk.iteOmega, ev e145, ev e146]
              with_reducible rfl
            apply BuildI.det 148 (fun l w h => h) (by rfl) (by rfl) rfl
            case h =>   -- 4: t148 := Op.load 3 (tmp 147)
              intro lx ax wx hE hR hF
              have e147 : ax.eval (.tmp 147) = _ := hF 3 (det 147 _) (by decide) (.head _)
              obtain ⟨_, hOx⟩ := hR; obtain ⟨_, _, hA1, u0⟩ := HQ.out wx hOx.tail.tail.r0; cases hA1; obtain ⟨_, _, hA2, r0, r1, r2⟩ := HQ2.out wx hOx.tail.r0; cases hA2
              simp [go_sem, BigFrame.eval_const, BigFrame.eval_global, BigFrame.eval_func, ↓IntWalk.iteOmega, ev e147, u0, r0, r1, r2]
              with_reducible rfl
            apply BuildI.det 149 (fun l w h => h) (by rfl) (by rfl) rfl
            case h =>   -- 5: t149 := Op.move (tmp 14)
              intro lx ax wx hE hR hF
              have e14 : ax.eval (.tmp 14) = .slice (some ⟨b2, off2, none⟩) n cp2 := hE.eval 14 (by rfl) rfl
              simp [go_sem, BigFrame.eval_const, BigFrame.eval_global, BigFrame.eval_func, ↓IntWalk.iteOmega, ev e14]
              with_reducible rfl
            apply BuildI.det 150 (fun l w h => h) (by rfl) (by rfl) rfl
            case h =>   -- 6: t150 := Op.move (tmp 15)
              intro lx ax wx hE hR hF
              have e15 : ax.eval (.tmp 15) = .int .i64 j := hE.eval 15 (by rfl) rfl
              simp [go_sem, BigFrame.eval_const, BigFrame.eval_global, BigFrame.eval_func, ↓IntWalk.iteOmega, ev e15]
              with_reducible rfl
            apply BuildI.det 151 (fun l w h => h) (by rfl) (by rfl) rfl
            case h =>   -- 7: t151 := Op.indexAddr 42 (tmp 149) (tmp 150)
              intro lx ax wx hE hR hF
              have e149 : ax.eval (.tmp 149) = _ := hF 5 (det 149 _) (by decide) (.tail _ (.head _))
              have e150 : ax.eval (.tmp 150) = _ := hF 6 (det 150 _) (by decide) (.head _)
              simp [go_sem, BigFrame.eval_const, BigFrame.eval_global, BigFrame.eval_func, ↓IntWalk.iteOmega, ev e149, ev e150]
              with_reducible rfl
            apply BuildI.det 152 (fun l w h => h) (by rfl) (by rfl) rfl
            case h =>   -- 8: t152 := Op.load 31 (tmp 151)
              intro lx ax wx hE hR hF
              have e151 : ax.eval (.tmp 151) = _ := hF 7 (det 151 _) (by decide) (.head _)
              obtain ⟨_, hOx⟩ := hR; obtain ⟨_, _, hA1, u0⟩ := HQ.out wx hOx.tail.tail.r0; cases hA1; obtain ⟨_, _, hA2, r0, r1, r2⟩ := HQ2.out wx hOx.tail.r0; cases hA2
              simp [go_sem, BigFrame.eval_const, BigFrame.eval_global, BigFrame.eval_func, ↓IntWalk.iteOmega, ev e151, u0, r0, r1, r2]
              with_reducible rfl
            apply BuildI.call 153 (by rfl) (by rfl) rfl
            case h =>   -- 9: t153 := Op.call {callee := Callee.value (func 17), args := #[tmp 144, tmp 148,
              intro lx ax wx hE hR hF
              have e144 : ax.eval (.tmp 144) = _ := hF 0 (det 144 _) (by decide) (.tail _ (.tail _ (.tail _ (.tail _ (.tail _ (.tail _ (.tail _ (.tail _ (.head _)))))))))
              have e148 : ax.eval (.tmp 148) = _ := hF 4 (det 148 _) (by decide) (.tail _ (.tail _ (.tail _ (.tail _ (.head _)))))
              have e152 : ax.eval (.tmp 152) = _ := hF 8 (det 152 _) (by decide) (.head _)
              simp [go_sem, BigFrame.eval_const, BigFrame.eval_global, BigFrame.eval_func, ↓IntWalk.iteOmega, ev e144, ev e148, ev e152]
              with_reducible exact ⟨rfl, rfl⟩
            case hc => intro lx wx hR hl hA; exact fi_rem (o := (z1, z2, z3)) (z := z) hR hl HW.out ((setL_same _ _ _).trans HDR.out) (List.erase_cons_head ..) HZ.out (by simp) HBD.out
            apply BuildI.det 143 (fun l w h => h) (by rfl) (by rfl) rfl
            case h =>   -- 10: t143 := Op.move (tmp 153)
              intro lx ax wx hE hR hF
              have e153 : ax.eval (.tmp 153) = _ := hF 9 (det 153 _) (by decide) (.head _)
              simp [go_sem, BigFrame.eval_const, BigFrame.eval_global, BigFrame.eval_func, ↓IntWalk.iteOmega, ev e153]
              with_reducible rfl
            apply BuildI.det 154 (fun l w h => h) (by rfl) (by rfl) rfl
            case h =>   -- 11: t154 := Op.extract (tmp 143) 0
              intro lx ax wx hE hR hF
              have e143 : ax.eval (.tmp 143) = _ := hF 10 (det 143 _) (by decide) (.head _)
              simp [go_sem, BigFrame.eval_const, BigFrame.eval_global, BigFrame.eval_func, ↓IntWalk.iteOmega, ev e143]
              with_reducible rfl
            apply BuildI.det 155 (fun l w h => h) (by rfl) (by rfl) rfl
            case h =>   -- 12: t155 := Op.extract (tmp 143) 1
              intro lx ax wx hE hR hF
              have e143 : ax.eval (.tmp 143) = _ := hF 10 (det 143 _) (by decide) (.tail _ (.head _))
              simp [go_sem, BigFrame.eval_const, BigFrame.eval_global, BigFrame.eval_func, ↓IntWalk.iteOmega, ev e143]
              with_reducible rfl
            apply BuildI.det 16 (fun l w h => h) (by rfl) (by rfl) rfl
            case h =>   -- 13: t16 := Op.assign (tmp 154)
              intro lx ax wx hE hR hF
              have e154 : ax.eval (.tmp 154) = _ := hF 11 (det 154 _) (by decide) (.tail _ (.head _))
              simp [go_sem, BigFrame.eval_const, BigFrame.eval_global, BigFrame.eval_func, ↓IntWalk.iteOmega, ev e154]
              with_reducible rfl
            apply BuildI.stop
            refine ⟨by kernel_rfl, .inr ⟨by kernel_rfl, _, rfl, rfl, ?_⟩⟩
            intro lx ax w8 hE R8 hL hF
            have e144 : ax.eval (.tmp 144) = _ := hF 0 (det 144 _) (.tail _ (.tail _ (.tail _ (.tail _ (.tail _ (.tail _ (.tail _ (.tail _ (.tail _ (.tail _ (.tail _ (.tail _ (.tail _ (.head _))))))))))))))
            have e145 : ax.eval (.tmp 145) = _ := hF 1 (det 145 _) (.tail _ (.tail _ (.tail _ (.tail _ (.tail _ (.tail _ (.tail _ (.tail _ (.tail _ (.tail _ (.tail _ (.tail _ (.head _)))))))))))))
            have e146 : ax.eval (.tmp 146) = _ := hF 2 (det 146 _) (.tail _ (.tail _ (.tail _ (.tail _ (.tail _ (.tail _ (.tail _ (.tail _ (.tail _ (.tail _ (.tail _ (.head _))))))))))))
            have e147 : ax.eval (.tmp 147) = _ := hF 3 (det 147 _) (.tail _ (.tail _ (.tail _ (.tail _ (.tail _ (.tail _ (.tail _ (.tail _ (.tail _ (.tail _ (.head _)))))))))))
            have e148 : ax.eval (.tmp 148) = _ := hF 4 (det 148 _) (.tail _ (.tail _ (.tail _ (.tail _ (.tail _ (.tail _ (.tail _ (.tail _ (.tail _ (.head _))))))))))
            have e149 : ax.eval (.tmp 149) = _ := hF 5 (det 149 _) (.tail _ (.tail _ (.tail _ (.tail _ (.tail _ (.tail _ (.tail _ (.tail _ (.head _)))))))))
            have e150 : ax.eval (.tmp 150) = _ := hF 6 (det 150 _) (.tail _ (.tail _ (.tail _ (.tail _ (.tail _ (.tail _ (.tail _ (.head _))))))))
            have e151 : ax.eval (.tmp 151) = _ := hF 7 (det 151 _) (.tail _ (.tail _ (.tail _ (.tail _ (.tail _ (.tail _ (.head _)))))))
            have e152 : ax.eval (.tmp 152) = _ := hF 8 (det 152 _) (.tail _ (.tail _ (.tail _ (.tail _ (.tail _ (.head _))))))
            have e153 : ax.eval (.tmp 153) = _ := hF 9 (det 153 _) (.tail _ (.tail _ (.tail _ (.tail _ (.head _)))))
            have e143 : ax.eval (.tmp 143) = _ := hF 10 (det 143 _) (.tail _ (.tail _ (.tail _ (.head _))))
            have e154 : ax.eval (.tmp 154) = _ := hF 11 (det 154 _) (.tail _ (.tail _ (.head _)))
            have e155 : ax.eval (.tmp 155) = _ := hF 12 (det 155 _) (.tail _ (.head _))
            have e16 : ax.eval (.tmp 16) = _ := hF 13 (det 16 _) (.head _)
            rw [AllEq.frame (D := [144, 145, 146, 147, 148, 149, 150, 151, 152, 153, 143, 154, 155, 16]) (AllEq.cons e144 (AllEq.cons e145 (AllEq.cons e146 (AllEq.cons e147 (AllEq.cons e148 (AllEq.cons e149 (AllEq.cons e150 (AllEq.cons e151 (AllEq.cons e152 (AllEq.cons e153 (AllEq.cons e143 (AllEq.cons e154 (AllEq.cons e155 (AllEq.cons e16 (AllEq.nil))))))))))))))) hE rfl]
            clear hF hE e144 e145 e146 e147 e148 e149 e150 e151 e152 e153 e143 e154 e155 e16
            simp only [List.foldl_cons, List.foldl_nil, Act.put, List.setIfInBounds_toArray, List.set_cons_succ, List.set_cons_zero]
            have HO : Hid (∃ F, OwnT w.heap.size w [tOB pb F (setL N' c (X.drop (j + 1))) W, tRow 31 3 (.slice (some ⟨b2, off2, none⟩) n cp2) n (X.flatMap ownC), tRow 3 1 (.slice (some ⟨b, off, none⟩) ln cp) ln (L.flatMap enc1), tBlk ob 31 #[.int .i64 o1, .int .i64 o2, .int .i64 o3]] w8) := Lib.hid (by
              have h := R8
              rw [hL 9 (by simp)] at h
              obtain ⟨F9, h9⟩ := h
              rw [if_pos rfl, setL_set, ← hA0] at h9
              exact ⟨F9, h9⟩)
            clear R8
            by_cases hlast : j + 1 = n
            · have hcmp : ((j : Int) + 1 == (n : Int)) = true := by rw [beq_iff_eq]; omega
              rw [decide_eq_true hlast] at hzn
              subst hzn
              go_wp2_with fail
              go_roundw
              case rel => exact ⟨j + 1, by go_num, by omega, HO.out⟩
              case measure => simp [intOf]; omega
            · have hcmp : ((j : Int) + 1 == (n : Int)) = false := by rw [beq_eq_false_iff_ne]; omega
              rw [decide_eq_false hlast] at hzn
              subst hzn
              go_wp2_with fail
              go_roundw
              case rel => exact ⟨j + 1, by go_num, by omega, HO.out⟩
              case measure => simp [intOf]; omega
          · obtain rfl : n = j := by omega
            have hN2 : setL N' c (X.drop n) = emptied N (L.take (k + 1)) := by
              rw [List.drop_of_length_le (by rw [HX.out.2.1]; exact Nat.le_refl _), HE.out, HC.out.2.1]
              exact emptied_one N _ c
            have HN2 := Lib.hid hN2
            clear hN2
            go_wp2_with fail
            go_roundw
            case rel => exact ⟨k + 1, by go_num, by omega, _, _, HO.out.sub (.cons_cons _ (.cons _ (.refl _))), HN2⟩
            case measure => simp [intOf]; omega
      · obtain rfl : ln = k := by omega
        have hall : N' = n0 := by
          rw [HE.out, List.take_of_length_le (by rw [HL.out.1]; exact Nat.le_refl _)]
          funext c
          unfold emptied n0
          split
          · rfl
          · rename_i h
            exact Classical.byContradiction fun hc => h ((HL.out.2.2 c).2 hc)
        rw [hall] at HO
        clear hall HE HL
        go_wp2_with fail
        refine (commitB pb _ _ _ _ HO.out (fun _ => by simp [n0])).mono ?_
        rintro e w7 ⟨rfl, F7, O7⟩
        have HO := Lib.hid O7
        clear O7
        go_wp2_with fail
        refine (free_any _ pb _ _ _ 1 HO.out.bs free_one (fun _ => by simp [n0]) (fun _ => by simp [n0])).mono ?_
        rintro e w8 ⟨rfl, hE⟩
        have HO := Lib.hid (HO.out.ext hE)
        clear hE
        go_wp2_with fail
        refine (chunks_any pb _ _ _ _ HO.out).mono ?_
        rintro e w9 ⟨v, rfl, O1, hE⟩
        obtain ⟨B, cap, rfl, hcap, -⟩ := ownsRow_Row (k := 1) (enc := enc1) (fun _ => rfl) Nat.one_pos O1.r0
        rw [chunks_none] at O1 hcap ⊢
        have HE := Lib.hid O1.below
        clear O1 hE
        go_wp2_with fail
        go_ret
        exact ⟨rfl, HE.out⟩
theorem ownersFree_walk (w : World) (v0 v1 : Value) (h0 : Arg Try.prog w 22 v0) (h1 : Arg Try.prog w 31 v1) :
    Calls Try.prog 5 #[v0, v1] w fun e w' => e = .returned (.bool true) ∧ Below w.heap.size w w' := by
  obtain ⟨A, len, cap, xs, rfl, hl1, hl2, hl3, hwf, hrow⟩ := arg_deeds h0
  obtain ⟨o, rfl, _⟩ := arg_owner h1
  exact ownersFree_core A len cap xs o w hl3 hrow hwf (by omega)
end Go.Proofs.Ytdpohbaeopidmaa
