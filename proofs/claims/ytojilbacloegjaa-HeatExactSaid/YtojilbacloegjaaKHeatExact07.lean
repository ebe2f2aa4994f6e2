/- HeatExact: its walk. -/
import Derived.Test.YtojilbacloegjaaKHeatExact06
import Derived.Deep.CutBlock
namespace Go.Proofs.Ytojilbacloegjaa
set_option linter.unusedVariables false
set_option linter.unusedSimpArgs false
open Go.RowKit Go.Maps Go.ChangeShapes Go.WideShapes Go.ChangeAt

abbrev ActD := Int × Int × Int
def actC (x : ActD) : List Value := [.int .i64 x.1, .int .i64 x.2.1, .int .i64 x.2.2]
def wfA (x : ActD) : Prop := wfI x.1 ∧ wfI x.2.1 ∧ wfI x.2.2
theorem cells_int15 : Try.prog.cellsOf 3 = 1 := by kernel_rfl
theorem cells_act15 : Try.prog.cellsOf 60 = 3 := by kernel_rfl
theorem arg_acts {w : World} {v : Value} (h : Arg Try.prog w 55 v) :
    ∃ A len cap, ∃ xs : List ActD, v = .slice A len cap ∧ len ≤ cap ∧ cap ≤ maxLen ∧ xs.length = len ∧ (∀ x ∈ xs, wfA x) ∧ Row w A 3 actC xs :=
  fit_row actC wfA Try.underlying55 cells_act15 (by decide) (fun cs _ hf => by
    obtain ⟨hl, hx⟩ := fit_fields 3 Try.underlying60 cells_act15 hf
    obtain ⟨a, e0, w0⟩ := cell_int Try.underlying3 (hx 0 0 3 1 rfl cells_int15)
    obtain ⟨b, e1, w1⟩ := cell_int Try.underlying3 (hx 1 1 3 1 rfl cells_int15)
    obtain ⟨c, e2, w2⟩ := cell_int Try.underlying3 (hx 2 2 3 1 rfl cells_int15)
    exact ⟨(a, b, c), list3_of hl e0 e1 e2, w0, w1, w2⟩) (arg_slice Try.underlying55 h)

/-- The chunks up to n that aren't cold. -/
def hotTo (u : Int → Int) (n : Nat) : List Int := ((List.range n).map fun (i : Nat) => ((i + 1 : Nat) : Int)).filter fun i => decide (u i ≠ 0)
theorem hotTo_succ (u : Int → Int) (n : Nat) : hotTo u (n + 1) = hotTo u n ++ if u ((n + 1 : Nat) : Int) ≠ 0 then [((n + 1 : Nat) : Int)] else [] := by
  unfold hotTo
  rw [List.range_succ, List.map_append, List.filter_append, List.map_singleton]
  congr 1
  by_cases h : u ((n + 1 : Nat) : Int) ≠ 0
  · rw [if_pos h, List.filter_cons_of_pos (by simpa using h)]
    rfl
  · rw [if_neg h, List.filter_cons_of_neg (by simpa using h)]
    rfl
theorem hotTo_all (u : Int → Int) : hotTo u 1023 = hotL u := rfl
theorem hotTo_pre (u : Int → Int) {n m : Nat} (h : n ≤ m) : hotTo u n <+: hotTo u m := by
  induction m with
  | zero => obtain rfl : n = 0 := by omega
            exact List.prefix_refl _
  | succ m ih =>
    by_cases e : n = m + 1
    · subst e; exact List.prefix_refl _
    · exact (ih (by omega)).trans (by rw [hotTo_succ]; exact List.prefix_append _ _)
theorem hotTo_yes {u : Int → Int} {n : Nat} (hn : n < 1023) (hu : u ((n + 1 : Nat) : Int) ≠ 0) : (hotL u)[(hotTo u n).length]? = some ((n + 1 : Nat) : Int) ∧ (hotTo u (n + 1)).length = (hotTo u n).length + 1 := by
  have e : hotTo u (n + 1) = hotTo u n ++ [((n + 1 : Nat) : Int)] := by rw [hotTo_succ, if_pos hu]
  obtain ⟨r, hr⟩ := hotTo_pre u (show n + 1 ≤ 1023 by omega)
  rw [hotTo_all] at hr
  refine ⟨?_, by rw [e, List.length_append]; rfl⟩
  rw [← hr, e, List.append_assoc, List.getElem?_append_right (Nat.le_refl _), Nat.sub_self]
  rfl
theorem hotTo_no {u : Int → Int} {n : Nat} (hu : u ((n + 1 : Nat) : Int) = 0) : hotTo u (n + 1) = hotTo u n := by
  rw [hotTo_succ, if_neg (by simpa using hu), List.append_nil]
theorem hotTo_len (u : Int → Int) (n : Nat) : (hotTo u n).length ≤ n := by
  have := List.length_filter_le (fun i => decide (u i ≠ 0)) ((List.range n).map fun (i : Nat) => ((i + 1 : Nat) : Int))
  simpa [hotTo] using this

theorem build_ref : ∃ Z : Array Value, (∀ w, (zeroValue 58).run Try.prog w = .ok (.agg Z) w) ∧ Z.size = 1024 ∧ ∀ i : Nat, i < 1024 → Z[i]? = some (.int .i64 0) :=
  ⟨Array.replicate 1024 (.int .i64 0), fun _ => by kernel_rfl, Array.size_replicate, fun i hi => by rw [Array.getElem?_replicate, if_pos hi]⟩


def Both15 (w : World) (pb mb ub k : Nat) (wx : World) : Prop := ∃ (n : Nat) (u : Int → Int), n ≤ k ∧ OwnT w.heap.size w [tRB ub u, tBook pb mb n u] wx ∧ Heats u

set_option maxRecDepth 100000 in
set_option maxHeartbeats 4000000 in
theorem heatExact_core (A : Option Addr) (len cap : Nat) (xs : List ActD) (w : World) (hlen : xs.length = len) (hrow : Row w A 3 actC xs) (hw : ∀ x ∈ xs, wfA x) (hm : len ≤ maxLen) :
    Calls Try.prog 6 #[.slice A len cap] w fun e w' => e = .returned (.bool true) ∧ Below w.heap.size w w' := by
  unfold maxLen at hm
  have Hlen := Lib.hid hlen
  have Hrow := Lib.hid hrow
  have Hw := Lib.hid hw
  clear hlen hrow hw
  obtain ⟨Z, hZ, hZs, hZ0⟩ := build_ref
  have HZ := Lib.hid (And.intro hZs hZ0)
  clear hZs hZ0
  go_enter Try.func6, Try.ntmps6
  go_wp2_with fail
  refine (awake15 _).mono ?_
  rintro e w1 ⟨rfl, hx1⟩
  have O1 := (OwnT.start w).ext hx1
  clear hx1
  go_wp2_with fail
  refine (new_any _).mono ?_
  rintro e w2 ⟨rfl, hx2, hB2⟩
  have O2 := O1.newBook hx2 hB2
  clear hx2 hB2 O1
  generalize w1.heap.size + 1 = pb at O2 ⊢
  generalize w1.heap.size = mb at O2
  go_upto_block 0 with fail
  have O3 : OwnT w.heap.size w [tRB w2.heap.size (fun _ => 0), tBook pb mb 0 (fun _ => 0)] (w2.alloc (.cells Z 58)) :=
    O2.cons (Ext.alloc _ _) (tRB w2.heap.size (fun _ => 0)) ⟨Z, Blk.new _ _ _, HZ.out.1, HZ.out.2⟩ (fun i hi => by simp [tRB] at hi; omega)
  clear O2 hZ HZ
  generalize w2.heap.size = ub at O3 ⊢
  generalize w2.alloc (.cells Z 58) = w3 at O3 ⊢
  have hJ : Both15 w pb mb ub 0 w3 := ⟨0, _, Nat.le_refl _, O3, Heats.zero⟩
  clear O3
  go_cut [] (fun wx => ∃ (n : Nat) (u : Int → Int), n ≤ 100 ∧ OwnT w.heap.size w [tRB ub u, tBook pb mb n u] wx ∧ Heats u)
  case first =>
    go_wp2_with fail
    go_loopw [5] (fun i wr => ∃ k : Nat, k ≤ 100 ∧ i = .int .i64 k ∧ Both15 w pb mb ub k wr) (fun i _ => 100 - (intOf i).toNat)
    case atStart => exact ⟨0, by omega, rfl, hJ⟩
    case round =>
      obtain ⟨k, hk, rfl, hJ'⟩ := hrel
      clear hJ
      by_cases hlt : k < len ∧ k < 100
      · obtain ⟨hlt, hlt2⟩ := hlt
        obtain ⟨n, u, hn, O, hH⟩ := hJ'
        have hsz := O.size
        obtain ⟨b, off, rfl, hbl, hc⟩ := Hrow.out.in_ O.below (i := k) (by have := Hlen.out; omega)
        have hwf := Hw.out (xs[k]'(by have := Hlen.out; omega)) (List.getElem_mem _)
        generalize xs[k]'(by have := Hlen.out; omega) = x at hc hwf
        obtain ⟨K, c, m⟩ := x
        obtain ⟨wfK, wfc, wfm⟩ := hwf
        simp only at wfK wfc wfm
        have c0 := hc 0 _ rfl
        have c1 := hc 1 _ rfl
        have c2 := hc 2 _ rfl
        simp at c0 c1 c2
        have hcb := bounds_i64 wfc
        clear hc
        have HO := Lib.hid O
        clear O
        go_upto_block 2 with fail
        have O4 := HO.out.new 60 #[.int .i64 K, .int .i64 c, .int .i64 m]
        have HO4 := Lib.hid O4
        clear O4 HO c0 c1 c2
        generalize wr.alloc (Obj.cells #[Value.int IntKind.i64 K, Value.int IntKind.i64 c, Value.int IntKind.i64 m] 60) = w4 at HO4 ⊢
        generalize wr.heap.size = xb at HO4 ⊢
        go_cut [] (fun wx => ∃ (n : Nat) (u : Int → Int), n ≤ k + 1 ∧ OwnT w.heap.size w [tBlk xb 60 #[.int .i64 K, .int .i64 c, .int .i64 m], tRB ub u, tBook pb mb n u] wx ∧ Heats u)
        case first =>
          have B1 : Blk w4 xb _ _ := HO4.out.all.1
          have q0 := B1.cell 0
          have q1 := B1.cell 1
          have q2 := B1.cell 2
          simp at q0 q1 q2
          clear B1
          by_cases h1 : K = 1 ∨ K = 2
          · have O5 := HO4.out.front [_, _] rfl
            have HT := fun W hB => touch_any W pb mb n u c m wfm (by omega) hB hH
            have HTR := fun W hB => rtouch_any W ub u c m wfm hB hH
            have HH2 := Lib.hid (hH.touch c m)
            have HT1 := Lib.hid HT
            have HTR1 := Lib.hid HTR
            have HO5 := Lib.hid O5
            clear HT HTR O5 HO4
            rcases h1 with rfl | rfl
            all_goals
              go_wp2_with fail
              refine (HT1.out _ HO5.out.bk).mono ?_
              rintro e w5 ⟨rfl, hB5, hg5⟩
              have HO6 := Lib.hid ((HO5.out.book hB5 hg5).front [_, _] rfl)
              clear hB5 hg5 q0 q1 q2
              have B1 : Blk w5 xb _ _ := HO6.out.all.2.2.1
              have q0 := B1.cell 0
              have q1 := B1.cell 1
              have q2 := B1.cell 2
              simp at q0 q1 q2
              clear B1
              go_wp2_with fail
              refine (HTR1.out _ HO6.out.all.1).mono ?_
              rintro e w6 ⟨rfl, hB6, hg6⟩
              have HO7 := Lib.hid ((HO6.out.call hg6 (fun i hi => hi) (tRB ub (touchU u c m)) hB6 (fun i hi => .inl hi)).front [_, _] rfl)
              clear hB6 hg6 q0 q1 q2
              go_wp2_with fail
              go_meet
              case rel => exact ⟨n + 1, _, by omega, HO7.out, HH2.out⟩
          · by_cases h3 : K = 3
            · subst h3
              have O5 := HO4.out.front [_, _] rfl
              have HH2 := Lib.hid hH.half
              have HHH := Lib.hid hH
              have HO5 := Lib.hid O5
              clear O5 HO4 h1 hH q0 q1 q2
              go_wp2_with fail
              refine (decay_any _ pb mb n u HO5.out.bk HHH.out).mono ?_
              rintro e w5 ⟨rfl, hB5, hg5⟩
              have HO6 := Lib.hid ((HO5.out.book hB5 hg5).front [_, _] rfl)
              clear hB5 hg5
              go_wp2_with fail
              refine (rdecay_any _ ub u HO6.out.all.1 HHH.out).mono ?_
              rintro e w6 ⟨rfl, hB6, hg6⟩
              have HO7 := Lib.hid ((HO6.out.call hg6 (fun i hi => hi) (tRB ub (fun i => u i / 2)) hB6 (fun i hi => .inl hi)).front [_, _] rfl)
              clear hB6 hg6
              go_wp2_with fail
              go_meet
              case rel => exact ⟨n, _, by omega, HO7.out, HH2.out⟩
            · have O5 := HO4.out.front [_, _] rfl
              have HH2 := Lib.hid (hH.forget c)
              have HHH := Lib.hid hH
              have HO5 := Lib.hid O5
              have e1 : (K == 1) = false := by simp; omega
              have e2 : (K == 2) = false := by simp; omega
              have e3 : (K == 3) = false := by simp; omega
              clear O5 HO4 h1 h3 hH
              go_wp2_with fail
              refine (forget_any _ pb mb n u c wfc HO5.out.bk).mono ?_
              rintro e w5 ⟨rfl, hB5, hg5⟩
              have HO6 := Lib.hid ((HO5.out.book hB5 hg5).front [_] rfl)
              clear hB5 hg5 q0 q1 q2
              have B1 : Blk w5 xb _ _ := HO6.out.all.1
              have q1 := B1.cell 1
              simp at q1
              clear B1
              by_cases hcr : 1 ≤ c ∧ c ≤ 1023
              · obtain ⟨hr1, hr2⟩ := hcr
                obtain ⟨j, rfl⟩ := Int.eq_ofNat_of_zero_le (show 0 ≤ c by omega)
                go_upto_region 12 with fail
                refine wp_typed (R := Ext) (w0 := w5) [[], [], [1], [0], [0, 1, 2, 3], [0, 1, 2, 3, 4]] [45, 46, 47, 48, 49] Ext.refl (fun _ _ _ => Ext.trans) (Ext.drew _) (by kernel_rfl) ?_
                apply Build.det 45 Ext.refl (by rfl) (by rfl) rfl
                case h =>   -- 0: t45 := Op.move (tmp 4)
                  intro ax wx hE hR hF
                  have e4 : ax.eval (.tmp 4) = .pointer (some ⟨ub, 0, none⟩) := hE.eval 4 (by rfl) rfl
                  simp [go_sem, BigFrame.eval_const, BigFrame.eval_global, BigFrame.eval_func, ↓IntWalk.iteOmega, ev e4]
                  with_reducible rfl
                apply Build.det 46 Ext.refl (by rfl) (by rfl) rfl
                case h =>   -- 1: t46 := Op.fieldAddr 60 (tmp 6) 1
                  intro ax wx hE hR hF
                  have e6 : ax.eval (.tmp 6) = .pointer (some ⟨xb, 0, none⟩) := hE.eval 6 (by rfl) rfl
                  simp [go_sem, BigFrame.eval_const, BigFrame.eval_global, BigFrame.eval_func, ↓IntWalk.iteOmega, ev e6]
                  with_reducible rfl
                apply Build.det 47 Ext.refl (by rfl) (by rfl) rfl
                case h =>   -- 2: t47 := Op.load 3 (tmp 46)
                  intro ax wx hE hR hF
                  have e46 : ax.eval (.tmp 46) = _ := hF 1 (det 46 _) (by decide) (.head _)
                  have hX := ((HO6.out.ext hR).all.1 : Blk _ _ _ _).cell 1; simp at hX
                  simp [go_sem, BigFrame.eval_const, BigFrame.eval_global, BigFrame.eval_func, ↓IntWalk.iteOmega, ev e46, hX]
                  with_reducible rfl
                apply Build.det 48 Ext.refl (by rfl) (by rfl) rfl
                case h =>   -- 3: t48 := Op.nilCheck (tmp 45)
                  intro ax wx hE hR hF
                  have e45 : ax.eval (.tmp 45) = _ := hF 0 (det 45 _) (by decide) (.tail _ (.tail _ (.head _)))
                  simp [go_sem, BigFrame.eval_const, BigFrame.eval_global, BigFrame.eval_func, ↓IntWalk.iteOmega, ev e45]
                  with_reducible rfl
                apply Build.det 49 Ext.refl (by rfl) (by rfl) rfl
                case h =>   -- 4: t49 := Op.indexAddr 58 (tmp 48) (tmp 47)
                  intro ax wx hE hR hF
                  have e47 : ax.eval (.tmp 47) = _ := hF 2 (det 47 _) (by decide) (.tail _ (.head _))
                  have e48 : ax.eval (.tmp 48) = _ := hF 3 (det 48 _) (by decide) (.head _)
                  simp [go_sem, BigFrame.eval_const, BigFrame.eval_global, BigFrame.eval_func, ↓IntWalk.iteOmega, ev e47, ev e48]
                  with_reducible rfl
                apply Build.stop
                refine ⟨by kernel_rfl, .inr ⟨by kernel_rfl, _, rfl, rfl, ?_⟩⟩
                intro ax w6 hE R6 hF
                have e45 : ax.eval (.tmp 45) = _ := hF 0 (det 45 _) (.tail _ (.tail _ (.tail _ (.tail _ (.head _)))))
                have e46 : ax.eval (.tmp 46) = _ := hF 1 (det 46 _) (.tail _ (.tail _ (.tail _ (.head _))))
                have e47 : ax.eval (.tmp 47) = _ := hF 2 (det 47 _) (.tail _ (.tail _ (.head _)))
                have e48 : ax.eval (.tmp 48) = _ := hF 3 (det 48 _) (.tail _ (.head _))
                have e49 : ax.eval (.tmp 49) = _ := hF 4 (det 49 _) (.head _)
                rw [AllEq.frame (D := [45, 46, 47, 48, 49]) (AllEq.cons e45 (AllEq.cons e46 (AllEq.cons e47 (AllEq.cons e48 (AllEq.cons e49 (AllEq.nil)))))) hE rfl]
                clear hF hE e45 e46 e47 e48 e49
                simp only [List.foldl_cons, List.foldl_nil, Act.put, List.setIfInBounds_toArray, List.set_cons_succ, List.set_cons_zero]
                have HO7 := Lib.hid ((HO6.out.ext R6).front [_, _] rfl)
                clear R6 q1
                have f0 := HO7.out.all.1.frozen j
                have f1 := HO7.out.all.1.cell (k := j) (by omega)
                go_wp2
                go_meet
                case rel =>
                  have O8 := (HO7.out.call (chg_set (k := j) (u := .int .i64 0)) (fun i hi => by simpa [tRB] using hi) (tRB ub (updU u j 0)) (HO7.out.all.1.set (by omega) 0) (fun i hi => .inl hi)).front [_] rfl
                  exact ⟨n, _, by omega, O8, HH2.out⟩
              · have e0 : updU u c 0 = u := by
                  funext i
                  unfold updU
                  by_cases hi : i = c
                  · rw [if_pos hi, hi]
                    have := (HHH.out c).2.2
                    by_cases e : u c = 0
                    · exact e.symm
                    · have := this e; omega
                  · rw [if_neg hi]
                rw [e0] at HO6
                have E0 := Lib.hid e0
                have HO7 := Lib.hid (HO6.out.perm (.cons _ (.swap _ _ _)))
                clear HO6 e0
                by_cases hr : c < 1
                · clear hcr
                  go_wp2_with fail
                  go_meet
                  case rel => exact ⟨n, u, by omega, HO7.out, HHH.out⟩
                · have hr2 : 1023 < c := by omega
                  clear hcr
                  go_wp2_with fail
                  go_meet
                  case rel => exact ⟨n, u, by omega, HO7.out, HHH.out⟩
        case rest =>
          obtain ⟨n', u', hn', O5, hH'⟩ := hcut
          have B1 : Blk wc xb _ _ := O5.all.1
          have q1 := B1.cell 1
          simp at q1
          have HO5 := Lib.hid O5
          have HHH := Lib.hid hH'
          clear O5 hH' HO4 B1 hH
          go_upto_region 20 with fail
          refine wp_typed (R := Ext) (w0 := wc) [[], [], [1], [0, 1, 2], [], [], [5], [0, 1, 2, 3, 4, 5, 6], [0, 1, 2, 3, 4, 5, 6, 7]] [71, 72, 73, 74, 75, 76, 77, 78, 79] Ext.refl (fun _ _ _ => Ext.trans) (Ext.drew _) (by kernel_rfl) ?_
          apply Build.det 71 Ext.refl (by rfl) (by rfl) rfl
          case h =>   -- 0: t71 := Op.move (tmp 3)
            intro ax wx hE hR hF
            have e3 : ax.eval (.tmp 3) = .pointer (some ⟨pb, 0, none⟩) := hE.eval 3 (by rfl) rfl
            simp [go_sem, BigFrame.eval_const, BigFrame.eval_global, BigFrame.eval_func, ↓IntWalk.iteOmega, ev e3]
            with_reducible rfl
          apply Build.det 72 Ext.refl (by rfl) (by rfl) rfl
          case h =>   -- 1: t72 := Op.fieldAddr 60 (tmp 6) 1
            intro ax wx hE hR hF
            have e6 : ax.eval (.tmp 6) = .pointer (some ⟨xb, 0, none⟩) := hE.eval 6 (by rfl) rfl
            simp [go_sem, BigFrame.eval_const, BigFrame.eval_global, BigFrame.eval_func, ↓IntWalk.iteOmega, ev e6]
            with_reducible rfl
          apply Build.det 73 Ext.refl (by rfl) (by rfl) rfl
          case h =>   -- 2: t73 := Op.load 3 (tmp 72)
            intro ax wx hE hR hF
            have e72 : ax.eval (.tmp 72) = _ := hF 1 (det 72 _) (by decide) (.head _)
            have hX := ((HO5.out.ext hR).all.1 : Blk _ _ _ _).cell 1; simp at hX
            simp [go_sem, BigFrame.eval_const, BigFrame.eval_global, BigFrame.eval_func, ↓IntWalk.iteOmega, ev e72, hX]
            with_reducible rfl
          apply Build.call 74 Ext.refl (by rfl) (by rfl) rfl
          case h =>
            intro ax wx hE hR hF
            have e71 : ax.eval (.tmp 71) = _ := hF 0 (det 71 _) (by decide) (.tail _ (.tail _ (.head _)))
            have e73 : ax.eval (.tmp 73) = _ := hF 2 (det 73 _) (by decide) (.head _)
            simp [go_sem, BigFrame.eval_const, BigFrame.eval_global, BigFrame.eval_func, ↓IntWalk.iteOmega, ev e71, ev e73]
            with_reducible exact ⟨rfl, rfl⟩
          case hc => intro wx hR; with_reducible exact (of_any _ pb mb n' u' c (((HO5.out.ext hR).front [_, _] rfl).bk) wfc).mono (fun _ _ ⟨h1, h2⟩ => ⟨h1, ext_of_same h2⟩)
          apply Build.det 75 Ext.refl (by rfl) (by rfl) rfl
          case h =>   -- 4: t75 := Op.move (tmp 4)
            intro ax wx hE hR hF
            have e4 : ax.eval (.tmp 4) = .pointer (some ⟨ub, 0, none⟩) := hE.eval 4 (by rfl) rfl
            simp [go_sem, BigFrame.eval_const, BigFrame.eval_global, BigFrame.eval_func, ↓IntWalk.iteOmega, ev e4]
            with_reducible rfl
          apply Build.det 76 Ext.refl (by rfl) (by rfl) rfl
          case h =>   -- 5: t76 := Op.fieldAddr 60 (tmp 6) 1
            intro ax wx hE hR hF
            have e6 : ax.eval (.tmp 6) = .pointer (some ⟨xb, 0, none⟩) := hE.eval 6 (by rfl) rfl
            simp [go_sem, BigFrame.eval_const, BigFrame.eval_global, BigFrame.eval_func, ↓IntWalk.iteOmega, ev e6]
            with_reducible rfl
          apply Build.det 77 Ext.refl (by rfl) (by rfl) rfl
          case h =>   -- 6: t77 := Op.load 3 (tmp 76)
            intro ax wx hE hR hF
            have e76 : ax.eval (.tmp 76) = _ := hF 5 (det 76 _) (by decide) (.head _)
            have hX := ((HO5.out.ext hR).all.1 : Blk _ _ _ _).cell 1; simp at hX
            simp [go_sem, BigFrame.eval_const, BigFrame.eval_global, BigFrame.eval_func, ↓IntWalk.iteOmega, ev e76, hX]
            with_reducible rfl
          apply Build.call 78 Ext.refl (by rfl) (by rfl) rfl
          case h =>
            intro ax wx hE hR hF
            have e75 : ax.eval (.tmp 75) = _ := hF 4 (det 75 _) (by decide) (.tail _ (.tail _ (.head _)))
            have e77 : ax.eval (.tmp 77) = _ := hF 6 (det 77 _) (by decide) (.head _)
            simp [go_sem, BigFrame.eval_const, BigFrame.eval_global, BigFrame.eval_func, ↓IntWalk.iteOmega, ev e75, ev e77]
            with_reducible exact ⟨rfl, rfl⟩
          case hc => intro wx hR; with_reducible exact (rof_any _ ub u' c (HO5.out.ext hR).tail.rb HHH.out).mono (fun _ _ ⟨h1, h2⟩ => ⟨h1, ext_of_same h2⟩)
          apply Build.det 79 Ext.refl (by rfl) (by rfl) rfl
          case h =>   -- 8: t79 := Op.binOp BinOp.neq 3 (tmp 74) (tmp 78) 3
            intro ax wx hE hR hF
            have e74 : ax.eval (.tmp 74) = _ := hF 3 (det 74 _) (by decide) (.tail _ (.tail _ (.tail _ (.tail _ (.head _)))))
            have e78 : ax.eval (.tmp 78) = _ := hF 7 (det 78 _) (by decide) (.head _)
            simp [go_sem, BigFrame.eval_const, BigFrame.eval_global, BigFrame.eval_func, ↓IntWalk.iteOmega, ev e74, ev e78]
            with_reducible rfl
          apply Build.stop
          refine ⟨by kernel_rfl, .inl ⟨rfl, ?_⟩⟩
          intro ax w6 hE R6 hF
          have e71 : ax.eval (.tmp 71) = _ := hF 0 (det 71 _) (.tail _ (.tail _ (.tail _ (.tail _ (.tail _ (.tail _ (.tail _ (.tail _ (.head _)))))))))
          have e72 : ax.eval (.tmp 72) = _ := hF 1 (det 72 _) (.tail _ (.tail _ (.tail _ (.tail _ (.tail _ (.tail _ (.tail _ (.head _))))))))
          have e73 : ax.eval (.tmp 73) = _ := hF 2 (det 73 _) (.tail _ (.tail _ (.tail _ (.tail _ (.tail _ (.tail _ (.head _)))))))
          have e74 : ax.eval (.tmp 74) = _ := hF 3 (det 74 _) (.tail _ (.tail _ (.tail _ (.tail _ (.tail _ (.head _))))))
          have e75 : ax.eval (.tmp 75) = _ := hF 4 (det 75 _) (.tail _ (.tail _ (.tail _ (.tail _ (.head _)))))
          have e76 : ax.eval (.tmp 76) = _ := hF 5 (det 76 _) (.tail _ (.tail _ (.tail _ (.head _))))
          have e77 : ax.eval (.tmp 77) = _ := hF 6 (det 77 _) (.tail _ (.tail _ (.head _)))
          have e78 : ax.eval (.tmp 78) = _ := hF 7 (det 78 _) (.tail _ (.head _))
          have e79 : ax.eval (.tmp 79) = _ := hF 8 (det 79 _) (.head _)
          rw [AllEq.frame (D := [71, 72, 73, 74, 75, 76, 77, 78, 79]) (AllEq.cons e71 (AllEq.cons e72 (AllEq.cons e73 (AllEq.cons e74 (AllEq.cons e75 (AllEq.cons e76 (AllEq.cons e77 (AllEq.cons e78 (AllEq.cons e79 (AllEq.nil)))))))))) hE rfl]
          clear hF hE e71 e72 e73 e74 e75 e76 e77 e78 e79
          simp only [List.foldl_cons, List.foldl_nil, Act.put, List.setIfInBounds_toArray, List.set_cons_succ, List.set_cons_zero]
          have HO6 := Lib.hid (HO5.out.ext R6).tail
          clear R6 q1
          go_wp2_with fail
          go_roundw
          case rel => exact ⟨k + 1, by omega, by go_num, n', u', hn', HO6.out, HHH.out⟩
          case measure => simp [intOf]; omega
      · obtain ⟨n, u, hn, O, hH⟩ := hJ'
        have HO := Lib.hid O
        have HH := Lib.hid hH
        have hn1 : n ≤ 100 := by omega
        clear O hH
        by_cases hk1 : k < len
        · have hk2 : ¬ k < 100 := fun h => hlt ⟨hk1, h⟩
          obtain rfl : 100 = k := by omega
          clear hlt hk hk2 hn
          go_wp2_with fail
          go_meet
          case rel => exact ⟨n, u, hn1, HO.out, HH.out⟩
        · clear hlt hk hn
          go_wp2_with fail
          go_meet
          case rel => exact ⟨n, u, hn1, HO.out, HH.out⟩
  case rest =>
    obtain ⟨n, u, hn1, O, hH⟩ := hcut
    have HO := Lib.hid O
    have HH := Lib.hid hH
    clear O hH hJ
    go_wp2_with fail
    refine (hot_any _ pb mb n u HO.out.tail.bk HH.out (by omega)).mono ?_
    rintro e wl ⟨B, cp, rfl, hl1, hl2, hrow, hxl⟩
    have Ol := HO.out.ext hxl
    have hll : (hotL u).length ≤ 1023 := hotTo_len u 1023
    have HRow := Lib.hid hrow
    have hJl : ∃ m : Nat, m ≤ 1023 ∧ (Value.int .i64 1 = .int .i64 ((m + 1 : Nat) : Int)) ∧ (Value.int .i64 0 = .int .i64 (hotTo u m).length) ∧ (Value.int .i64 0 = .int .i64 (sumI m u)) ∧ Ext wl wl ∧ OwnT w.heap.size w [tRB ub u, tBook pb mb n u] wl := ⟨0, by omega, rfl, rfl, rfl, Ext.refl _, Ol⟩
    clear hrow hxl Ol HO
    go_wp2_with fail
    go_loopw [8, 9, 10] (fun t s i wr => ∃ m : Nat, m ≤ 1023 ∧ i = .int .i64 ((m + 1 : Nat) : Int) ∧ t = .int .i64 (hotTo u m).length ∧ s = .int .i64 (sumI m u) ∧ Ext wl wr ∧ OwnT w.heap.size w [tRB ub u, tBook pb mb n u] wr) (fun _ _ i _ => 1025 - (intOf i).toNat)
    case atStart => exact hJl
    case round =>
      obtain ⟨m, hm1, rfl, rfl, rfl, hx, O⟩ := hrel
      obtain ⟨q, hq⟩ : ∃ q : Nat, m + 1 = q := ⟨_, rfl⟩
      have hq1 : 1 ≤ q := by omega
      have hq2 : q ≤ 1024 := by omega
      clear hJl
      have hlm := hotTo_len u m
      have hsb := sumI_bound (f := u) (fun i => ⟨(HH.out i).1, (HH.out i).2.1⟩) m
      have hsb1 := sumI_bound (f := u) (fun i => ⟨(HH.out i).1, (HH.out i).2.1⟩) (m + 1)
      have HO := Lib.hid (And.intro hx O)
      clear hx O
      rw [hq]
      by_cases hlt : q < 1024
      · have q0 := HO.out.2.rb.cell hlt
        obtain ⟨v, hv⟩ : ∃ v, u (q : Int) = v := ⟨_, rfl⟩
        have hub := HH.out (q : Int)
        have es : sumI (m + 1) u = sumI m u + u ((m + 1 : Nat) : Int) := rfl
        have hyes0 := hotTo_yes (u := u) (n := m) (by omega)
        have hno0 := hotTo_no (u := u) (n := m)
        rw [hq] at es hsb1 hyes0 hno0
        rw [hv] at q0 hub es hyes0 hno0
        have HV := Lib.hid hv
        have hms : m ≤ 1023 := by omega
        obtain ⟨s0, hs0⟩ : ∃ s0, sumI m u = s0 := ⟨_, rfl⟩
        rw [hs0] at hsb es ⊢
        rw [es] at hsb1
        have HS := Lib.hid es
        obtain ⟨t0, ht0⟩ : ∃ t0, (hotTo u m).length = t0 := ⟨_, rfl⟩
        rw [ht0] at hlm hyes0 ⊢
        have HQ := Lib.hid hq
        have hsw : IntKind.i64.wrap (s0 + v) = s0 + v := IntWalk.i64_in _ (by omega)
        by_cases hpos : 0 < v
        · have hyes := hyes0 (by omega)
          have htl : t0 < (hotL u).length := (List.getElem?_eq_some_iff.1 hyes.1).1
          obtain ⟨b, off, rfl, hb, hc⟩ := HRow.out _ _ hyes.1
          have c0 := hc 0 _ rfl
          simp at c0
          have c1 := (HO.out.1.cell (p := ⟨b, off + t0, none⟩) hb).trans c0
          have HY := Lib.hid hyes.2
          have HC := Lib.hid (And.intro c1 (And.intro q0 hb))
          obtain ⟨len', hlen'⟩ : ∃ len', (hotL u).length = len' := ⟨_, rfl⟩
          rw [hlen'] at htl hl1 hll ⊢
          have HLL := Lib.hid hlen'
          have HOF := Lib.hid (show ∀ wx, Ext wr wx → Calls Try.prog 19 #[.pointer (some ⟨pb, 0, none⟩), .int .i64 (q : Int)] wx fun e w' => e = .returned (.int .i64 v) ∧ Ext wx w' from fun wx hR => (of_any wx pb mb n u (q : Int) (HO.out.2.ext hR).tail.bk (wfI_of (by omega) (by omega))).mono (fun e w' h => ⟨h.1.trans (by rw [HV.out]), ext_of_same h.2⟩))
          have hge : ¬ (len' : Int) ≤ (t0 : Int) := by omega
          clear c0 hc hyes hyes0 hno0 hv es hs0 ht0 hq hlen'
          go_upto_region 29 with fail
          refine wp_typed (R := Ext) (w0 := wr) [[], [], [1], [0, 1, 2], [0, 1, 2, 3], [0, 1, 2, 3, 4], [0, 1, 2, 3, 4], [0, 1, 2, 3, 4, 5, 6], [0, 1, 2, 3, 4, 5, 6, 7], [0, 1, 2, 3, 4], [0, 1, 2, 3, 4, 5, 6, 7, 8, 9], [0, 1, 2, 3, 4, 5, 6, 7, 8, 9, 10], [0, 1, 2, 3, 4, 5, 6, 7, 8, 9, 10, 11], [0, 1, 2, 3, 4, 5, 6, 7, 8, 9, 10, 11, 12], [0, 1, 2, 3, 4, 5, 6, 7, 8, 9, 10, 11, 12], [0, 1, 2, 3, 4, 5, 6, 7, 8, 9, 10, 11, 12, 13, 14], [0, 1, 2, 3, 4, 5, 6, 7, 8, 9, 10, 11, 12], [0, 1, 2, 3, 4, 5, 6, 7, 8, 9, 10, 11, 12], [0, 1, 2, 3, 4, 5, 6, 7, 8, 9, 10, 11, 12, 16], [0, 1, 2, 3, 4, 5, 6, 7, 8, 9, 10, 11, 12, 16, 17, 18], [0, 1, 2, 3, 4, 5, 6, 7, 8, 9, 10, 11, 12, 16, 17, 18, 19], [0, 1, 2, 3, 4, 5, 6, 7, 8, 9, 10, 11, 12, 13, 14, 15, 16, 17, 18, 19, 20], [0, 1, 2, 3, 4, 5, 6, 7, 8, 9, 10, 11, 12, 13, 14, 15, 16, 17, 18, 19, 20, 21]] [92, 93, 94, 95, 96, 97, 98, 99, 100, 101, 102, 103, 104, 105, 106, 107, 108, 109, 110, 111, 112, 113, 114] Ext.refl (fun _ _ _ => Ext.trans) (Ext.drew _) (by kernel_rfl) ?_
          apply Build.det 92 Ext.refl (by rfl) (by rfl) rfl
          case h =>   -- 0: t92 := Op.move (tmp 8)
            intro ax wx hE hR hF
            have e8 : ax.eval (.tmp 8) = .int .i64 t0 := hE.eval 8 (by rfl) rfl
            simp [go_sem, BigFrame.eval_const, BigFrame.eval_global, BigFrame.eval_func, ↓IntWalk.iteOmega, ev e8]
            with_reducible rfl
          apply Build.det 93 Ext.refl (by rfl) (by rfl) rfl
          case h =>   -- 1: t93 := Op.move (tmp 7)
            intro ax wx hE hR hF
            have e7 : ax.eval (.tmp 7) = .slice (some ⟨b, off, none⟩) len' cp := hE.eval 7 (by rfl) rfl
            simp [go_sem, BigFrame.eval_const, BigFrame.eval_global, BigFrame.eval_func, ↓IntWalk.iteOmega, ev e7]
            with_reducible rfl
          apply Build.det 94 Ext.refl (by rfl) (by rfl) rfl
          case h =>   -- 2: t94 := Op.call {callee := Callee.builtin Builtin.len, args := #[tmp 93], argT
            intro ax wx hE hR hF
            have e93 : ax.eval (.tmp 93) = _ := hF 1 (det 93 _) (by decide) (.head _)
            simp [go_sem, BigFrame.eval_const, BigFrame.eval_global, BigFrame.eval_func, ↓IntWalk.iteOmega, ev e93]
            with_reducible rfl
          apply Build.det 95 Ext.refl (by rfl) (by rfl) rfl
          case h =>   -- 3: t95 := Op.binOp BinOp.geq 3 (tmp 92) (tmp 94) 3
            intro ax wx hE hR hF
            have e92 : ax.eval (.tmp 92) = _ := hF 0 (det 92 _) (by decide) (.tail _ (.tail _ (.head _)))
            have e94 : ax.eval (.tmp 94) = _ := hF 2 (det 94 _) (by decide) (.head _)
            simp [go_sem, BigFrame.eval_const, BigFrame.eval_global, BigFrame.eval_func, ↓IntWalk.iteOmega, ev e92, ev e94, hge]
            with_reducible rfl
          apply Build.det 96 Ext.refl (by rfl) (by rfl) rfl
          case h =>   -- 4: t96 := Op.move (tmp 95)
            intro ax wx hE hR hF
            have e95 : ax.eval (.tmp 95) = _ := hF 3 (det 95 _) (by decide) (.head _)
            simp [go_sem, BigFrame.eval_const, BigFrame.eval_global, BigFrame.eval_func, ↓IntWalk.iteOmega, ev e95]
            with_reducible rfl
          apply Build.detg 97 Ext.refl (by rfl) (by rfl) rfl rfl
          case h =>   -- 5: t97 := Op.move (tmp 7)
            intro ax wx hE hR hF
            have e7 : ax.eval (.tmp 7) = .slice (some ⟨b, off, none⟩) len' cp := hE.eval 7 (by rfl) rfl
            have e96 : ax.eval (.tmp 96) = _ := hF 4 (det 96 _) (by decide) (.head _)
            refine ⟨e96, ?_⟩
            simp [go_sem, BigFrame.eval_const, BigFrame.eval_global, BigFrame.eval_func, ↓IntWalk.iteOmega, ev e7, ev e96]
            with_reducible rfl
          apply Build.detg 98 Ext.refl (by rfl) (by rfl) rfl rfl
          case h =>   -- 6: t98 := Op.move (tmp 8)
            intro ax wx hE hR hF
            have e8 : ax.eval (.tmp 8) = .int .i64 t0 := hE.eval 8 (by rfl) rfl
            have e96 : ax.eval (.tmp 96) = _ := hF 4 (det 96 _) (by decide) (.tail _ (.head _))
            refine ⟨e96, ?_⟩
            simp [go_sem, BigFrame.eval_const, BigFrame.eval_global, BigFrame.eval_func, ↓IntWalk.iteOmega, ev e8, ev e96]
            with_reducible rfl
          apply Build.detg 99 Ext.refl (by rfl) (by rfl) rfl rfl
          case h =>   -- 7: t99 := Op.indexAddr 41 (tmp 97) (tmp 98)
            intro ax wx hE hR hF
            have e96 : ax.eval (.tmp 96) = _ := hF 4 (det 96 _) (by decide) (.tail _ (.tail _ (.head _)))
            have e97 : ax.eval (.tmp 97) = _ := hF 5 (det 97 _) (by decide) (.tail _ (.head _))
            have e98 : ax.eval (.tmp 98) = _ := hF 6 (det 98 _) (by decide) (.head _)
            refine ⟨e96, ?_⟩
            simp [go_sem, BigFrame.eval_const, BigFrame.eval_global, BigFrame.eval_func, ↓IntWalk.iteOmega, ev e96, ev e97, ev e98]
            with_reducible rfl
          apply Build.detg 100 Ext.refl (by rfl) (by rfl) rfl rfl
          case h =>   -- 8: t100 := Op.load 3 (tmp 99)
            intro ax wx hE hR hF
            have e96 : ax.eval (.tmp 96) = _ := hF 4 (det 96 _) (by decide) (.tail _ (.tail _ (.tail _ (.head _))))
            have e99 : ax.eval (.tmp 99) = _ := hF 7 (det 99 _) (by decide) (.head _)
            have hX := (hR.cell (p := ⟨b, off + t0, none⟩) (Nat.lt_of_lt_of_le hb HO.out.1.size)).trans HC.out.1; have hY := (HO.out.2.ext hR).rb.cell hlt; rw [HV.out] at hY
            refine ⟨e96, ?_⟩
            simp [go_sem, BigFrame.eval_const, BigFrame.eval_global, BigFrame.eval_func, ↓IntWalk.iteOmega, ev e96, ev e99, hX, hY]
            with_reducible rfl
          apply Build.detg 101 Ext.refl (by rfl) (by rfl) rfl rfl
          case h =>   -- 9: t101 := Op.move (tmp 10)
            intro ax wx hE hR hF
            have e10 : ax.eval (.tmp 10) = .int .i64 q := hE.eval 10 (by rfl) rfl
            have e96 : ax.eval (.tmp 96) = _ := hF 4 (det 96 _) (by decide) (.tail _ (.tail _ (.tail _ (.tail _ (.head _)))))
            refine ⟨e96, ?_⟩
            simp [go_sem, BigFrame.eval_const, BigFrame.eval_global, BigFrame.eval_func, ↓IntWalk.iteOmega, ev e10, ev e96]
            with_reducible rfl
          apply Build.detg 102 Ext.refl (by rfl) (by rfl) rfl rfl
          case h =>   -- 10: t102 := Op.binOp BinOp.neq 3 (tmp 100) (tmp 101) 3
            intro ax wx hE hR hF
            have e96 : ax.eval (.tmp 96) = _ := hF 4 (det 96 _) (by decide) (.tail _ (.tail _ (.tail _ (.tail _ (.tail _ (.head _))))))
            have e100 : ax.eval (.tmp 100) = _ := hF 8 (det 100 _) (by decide) (.tail _ (.head _))
            have e101 : ax.eval (.tmp 101) = _ := hF 9 (det 101 _) (by decide) (.head _)
            refine ⟨e96, ?_⟩
            simp [go_sem, BigFrame.eval_const, BigFrame.eval_global, BigFrame.eval_func, ↓IntWalk.iteOmega, ev e96, ev e100, ev e101]
            with_reducible rfl
          apply Build.det 103 Ext.refl (by rfl) (by rfl) rfl
          case h =>   -- 11: t103 := Op.pick (tmp 96) (const (Value.bool true)) (tmp 102)
            intro ax wx hE hR hF
            have e96 : ax.eval (.tmp 96) = _ := hF 4 (det 96 _) (by decide) (.tail _ (.tail _ (.tail _ (.tail _ (.tail _ (.tail _ (.head _)))))))
            have e102 : ax.eval (.tmp 102) = _ := hF 10 (det 102 _) (by decide) (.head _)
            simp [go_sem, BigFrame.eval_const, BigFrame.eval_global, BigFrame.eval_func, ↓IntWalk.iteOmega, ev e96, ev e102]
            with_reducible rfl
          apply Build.det 104 Ext.refl (by rfl) (by rfl) rfl
          case h =>   -- 12: t104 := Op.move (tmp 103)
            intro ax wx hE hR hF
            have e103 : ax.eval (.tmp 103) = _ := hF 11 (det 103 _) (by decide) (.head _)
            simp [go_sem, BigFrame.eval_const, BigFrame.eval_global, BigFrame.eval_func, ↓IntWalk.iteOmega, ev e103]
            with_reducible rfl
          apply Build.detg 105 Ext.refl (by rfl) (by rfl) rfl rfl
          case h =>   -- 13: t105 := Op.move (tmp 3)
            intro ax wx hE hR hF
            have e3 : ax.eval (.tmp 3) = .pointer (some ⟨pb, 0, none⟩) := hE.eval 3 (by rfl) rfl
            have e104 : ax.eval (.tmp 104) = _ := hF 12 (det 104 _) (by decide) (.head _)
            refine ⟨e104, ?_⟩
            simp [go_sem, BigFrame.eval_const, BigFrame.eval_global, BigFrame.eval_func, ↓IntWalk.iteOmega, ev e3, ev e104]
            with_reducible rfl
          apply Build.detg 106 Ext.refl (by rfl) (by rfl) rfl rfl
          case h =>   -- 14: t106 := Op.move (tmp 10)
            intro ax wx hE hR hF
            have e10 : ax.eval (.tmp 10) = .int .i64 q := hE.eval 10 (by rfl) rfl
            have e104 : ax.eval (.tmp 104) = _ := hF 12 (det 104 _) (by decide) (.tail _ (.head _))
            refine ⟨e104, ?_⟩
            simp [go_sem, BigFrame.eval_const, BigFrame.eval_global, BigFrame.eval_func, ↓IntWalk.iteOmega, ev e10, ev e104]
            with_reducible rfl
          apply Build.callg 107 Ext.refl (by rfl) (by rfl) rfl rfl
          case h =>
            intro ax wx hE hR hF
            have e104 : ax.eval (.tmp 104) = _ := hF 12 (det 104 _) (by decide) (.tail _ (.tail _ (.head _)))
            have e105 : ax.eval (.tmp 105) = _ := hF 13 (det 105 _) (by decide) (.tail _ (.head _))
            have e106 : ax.eval (.tmp 106) = _ := hF 14 (det 106 _) (by decide) (.head _)
            refine ⟨e104, ?_⟩
            simp [go_sem, BigFrame.eval_const, BigFrame.eval_global, BigFrame.eval_func, ↓IntWalk.iteOmega, ev e104, ev e105, ev e106]
            with_reducible exact ⟨rfl, rfl⟩
          case hc => intro wx hR; with_reducible exact HOF.out wx hR
          apply Build.detg 108 Ext.refl (by rfl) (by rfl) rfl rfl
          case h =>   -- 16: t108 := Op.move (tmp 4)
            intro ax wx hE hR hF
            have e4 : ax.eval (.tmp 4) = .pointer (some ⟨ub, 0, none⟩) := hE.eval 4 (by rfl) rfl
            have e104 : ax.eval (.tmp 104) = _ := hF 12 (det 104 _) (by decide) (.tail _ (.tail _ (.tail _ (.head _))))
            refine ⟨e104, ?_⟩
            simp [go_sem, BigFrame.eval_const, BigFrame.eval_global, BigFrame.eval_func, ↓IntWalk.iteOmega, ev e4, ev e104]
            with_reducible rfl
          apply Build.detg 109 Ext.refl (by rfl) (by rfl) rfl rfl
          case h =>   -- 17: t109 := Op.move (tmp 10)
            intro ax wx hE hR hF
            have e10 : ax.eval (.tmp 10) = .int .i64 q := hE.eval 10 (by rfl) rfl
            have e104 : ax.eval (.tmp 104) = _ := hF 12 (det 104 _) (by decide) (.tail _ (.tail _ (.tail _ (.tail _ (.head _)))))
            refine ⟨e104, ?_⟩
            simp [go_sem, BigFrame.eval_const, BigFrame.eval_global, BigFrame.eval_func, ↓IntWalk.iteOmega, ev e10, ev e104]
            with_reducible rfl
          apply Build.detg 110 Ext.refl (by rfl) (by rfl) rfl rfl
          case h =>   -- 18: t110 := Op.nilCheck (tmp 108)
            intro ax wx hE hR hF
            have e104 : ax.eval (.tmp 104) = _ := hF 12 (det 104 _) (by decide) (.tail _ (.tail _ (.tail _ (.tail _ (.tail _ (.head _))))))
            have e108 : ax.eval (.tmp 108) = _ := hF 16 (det 108 _) (by decide) (.tail _ (.head _))
            refine ⟨e104, ?_⟩
            simp [go_sem, BigFrame.eval_const, BigFrame.eval_global, BigFrame.eval_func, ↓IntWalk.iteOmega, ev e104, ev e108]
            with_reducible rfl
          apply Build.detg 111 Ext.refl (by rfl) (by rfl) rfl rfl
          case h =>   -- 19: t111 := Op.indexAddr 58 (tmp 110) (tmp 109)
            intro ax wx hE hR hF
            have e104 : ax.eval (.tmp 104) = _ := hF 12 (det 104 _) (by decide) (.tail _ (.tail _ (.tail _ (.tail _ (.tail _ (.tail _ (.head _)))))))
            have e109 : ax.eval (.tmp 109) = _ := hF 17 (det 109 _) (by decide) (.tail _ (.head _))
            have e110 : ax.eval (.tmp 110) = _ := hF 18 (det 110 _) (by decide) (.head _)
            refine ⟨e104, ?_⟩
            simp [go_sem, BigFrame.eval_const, BigFrame.eval_global, BigFrame.eval_func, ↓IntWalk.iteOmega, ev e104, ev e109, ev e110]
            with_reducible rfl
          apply Build.detg 112 Ext.refl (by rfl) (by rfl) rfl rfl
          case h =>   -- 20: t112 := Op.load 3 (tmp 111)
            intro ax wx hE hR hF
            have e104 : ax.eval (.tmp 104) = _ := hF 12 (det 104 _) (by decide) (.tail _ (.tail _ (.tail _ (.tail _ (.tail _ (.tail _ (.tail _ (.head _))))))))
            have e111 : ax.eval (.tmp 111) = _ := hF 19 (det 111 _) (by decide) (.head _)
            have hX := (hR.cell (p := ⟨b, off + t0, none⟩) (Nat.lt_of_lt_of_le hb HO.out.1.size)).trans HC.out.1; have hY := (HO.out.2.ext hR).rb.cell hlt; rw [HV.out] at hY
            refine ⟨e104, ?_⟩
            simp [go_sem, BigFrame.eval_const, BigFrame.eval_global, BigFrame.eval_func, ↓IntWalk.iteOmega, ev e104, ev e111, hX, hY]
            with_reducible rfl
          apply Build.detg 113 Ext.refl (by rfl) (by rfl) rfl rfl
          case h =>   -- 21: t113 := Op.binOp BinOp.neq 3 (tmp 107) (tmp 112) 3
            intro ax wx hE hR hF
            have e104 : ax.eval (.tmp 104) = _ := hF 12 (det 104 _) (by decide) (.tail _ (.tail _ (.tail _ (.tail _ (.tail _ (.tail _ (.tail _ (.tail _ (.head _)))))))))
            have e107 : ax.eval (.tmp 107) = _ := hF 15 (det 107 _) (by decide) (.tail _ (.tail _ (.tail _ (.tail _ (.tail _ (.head _))))))
            have e112 : ax.eval (.tmp 112) = _ := hF 20 (det 112 _) (by decide) (.head _)
            refine ⟨e104, ?_⟩
            simp [go_sem, BigFrame.eval_const, BigFrame.eval_global, BigFrame.eval_func, ↓IntWalk.iteOmega, ev e104, ev e107, ev e112]
            with_reducible rfl
          apply Build.det 114 Ext.refl (by rfl) (by rfl) rfl
          case h =>   -- 22: t114 := Op.pick (tmp 104) (const (Value.bool true)) (tmp 113)
            intro ax wx hE hR hF
            have e104 : ax.eval (.tmp 104) = _ := hF 12 (det 104 _) (by decide) (.tail _ (.tail _ (.tail _ (.tail _ (.tail _ (.tail _ (.tail _ (.tail _ (.tail _ (.head _))))))))))
            have e113 : ax.eval (.tmp 113) = _ := hF 21 (det 113 _) (by decide) (.head _)
            simp [go_sem, BigFrame.eval_const, BigFrame.eval_global, BigFrame.eval_func, ↓IntWalk.iteOmega, ev e104, ev e113]
            with_reducible rfl
          apply Build.stop
          refine ⟨by kernel_rfl, .inl ⟨rfl, ?_⟩⟩
          intro ax w6 hE R6 hF
          have e92 : ax.eval (.tmp 92) = _ := hF 0 (det 92 _) (.tail _ (.tail _ (.tail _ (.tail _ (.tail _ (.tail _ (.tail _ (.tail _ (.tail _ (.tail _ (.tail _ (.tail _ (.tail _ (.tail _ (.tail _ (.tail _ (.tail _ (.tail _ (.tail _ (.tail _ (.tail _ (.tail _ (.head _)))))))))))))))))))))))
          have e93 : ax.eval (.tmp 93) = _ := hF 1 (det 93 _) (.tail _ (.tail _ (.tail _ (.tail _ (.tail _ (.tail _ (.tail _ (.tail _ (.tail _ (.tail _ (.tail _ (.tail _ (.tail _ (.tail _ (.tail _ (.tail _ (.tail _ (.tail _ (.tail _ (.tail _ (.tail _ (.head _))))))))))))))))))))))
          have e94 : ax.eval (.tmp 94) = _ := hF 2 (det 94 _) (.tail _ (.tail _ (.tail _ (.tail _ (.tail _ (.tail _ (.tail _ (.tail _ (.tail _ (.tail _ (.tail _ (.tail _ (.tail _ (.tail _ (.tail _ (.tail _ (.tail _ (.tail _ (.tail _ (.tail _ (.head _)))))))))))))))))))))
          have e95 : ax.eval (.tmp 95) = _ := hF 3 (det 95 _) (.tail _ (.tail _ (.tail _ (.tail _ (.tail _ (.tail _ (.tail _ (.tail _ (.tail _ (.tail _ (.tail _ (.tail _ (.tail _ (.tail _ (.tail _ (.tail _ (.tail _ (.tail _ (.tail _ (.head _))))))))))))))))))))
          have e96 : ax.eval (.tmp 96) = _ := hF 4 (det 96 _) (.tail _ (.tail _ (.tail _ (.tail _ (.tail _ (.tail _ (.tail _ (.tail _ (.tail _ (.tail _ (.tail _ (.tail _ (.tail _ (.tail _ (.tail _ (.tail _ (.tail _ (.tail _ (.head _)))))))))))))))))))
          have e97 : ax.eval (.tmp 97) = _ := hF 5 (det 97 _) (.tail _ (.tail _ (.tail _ (.tail _ (.tail _ (.tail _ (.tail _ (.tail _ (.tail _ (.tail _ (.tail _ (.tail _ (.tail _ (.tail _ (.tail _ (.tail _ (.tail _ (.head _))))))))))))))))))
          have e98 : ax.eval (.tmp 98) = _ := hF 6 (det 98 _) (.tail _ (.tail _ (.tail _ (.tail _ (.tail _ (.tail _ (.tail _ (.tail _ (.tail _ (.tail _ (.tail _ (.tail _ (.tail _ (.tail _ (.tail _ (.tail _ (.head _)))))))))))))))))
          have e99 : ax.eval (.tmp 99) = _ := hF 7 (det 99 _) (.tail _ (.tail _ (.tail _ (.tail _ (.tail _ (.tail _ (.tail _ (.tail _ (.tail _ (.tail _ (.tail _ (.tail _ (.tail _ (.tail _ (.tail _ (.head _))))))))))))))))
          have e100 : ax.eval (.tmp 100) = _ := hF 8 (det 100 _) (.tail _ (.tail _ (.tail _ (.tail _ (.tail _ (.tail _ (.tail _ (.tail _ (.tail _ (.tail _ (.tail _ (.tail _ (.tail _ (.tail _ (.head _)))))))))))))))
          have e101 : ax.eval (.tmp 101) = _ := hF 9 (det 101 _) (.tail _ (.tail _ (.tail _ (.tail _ (.tail _ (.tail _ (.tail _ (.tail _ (.tail _ (.tail _ (.tail _ (.tail _ (.tail _ (.head _))))))))))))))
          have e102 : ax.eval (.tmp 102) = _ := hF 10 (det 102 _) (.tail _ (.tail _ (.tail _ (.tail _ (.tail _ (.tail _ (.tail _ (.tail _ (.tail _ (.tail _ (.tail _ (.tail _ (.head _)))))))))))))
          have e103 : ax.eval (.tmp 103) = _ := hF 11 (det 103 _) (.tail _ (.tail _ (.tail _ (.tail _ (.tail _ (.tail _ (.tail _ (.tail _ (.tail _ (.tail _ (.tail _ (.head _))))))))))))
          have e104 : ax.eval (.tmp 104) = _ := hF 12 (det 104 _) (.tail _ (.tail _ (.tail _ (.tail _ (.tail _ (.tail _ (.tail _ (.tail _ (.tail _ (.tail _ (.head _)))))))))))
          have e105 : ax.eval (.tmp 105) = _ := hF 13 (det 105 _) (.tail _ (.tail _ (.tail _ (.tail _ (.tail _ (.tail _ (.tail _ (.tail _ (.tail _ (.head _))))))))))
          have e106 : ax.eval (.tmp 106) = _ := hF 14 (det 106 _) (.tail _ (.tail _ (.tail _ (.tail _ (.tail _ (.tail _ (.tail _ (.tail _ (.head _)))))))))
          have e107 : ax.eval (.tmp 107) = _ := hF 15 (det 107 _) (.tail _ (.tail _ (.tail _ (.tail _ (.tail _ (.tail _ (.tail _ (.head _))))))))
          have e108 : ax.eval (.tmp 108) = _ := hF 16 (det 108 _) (.tail _ (.tail _ (.tail _ (.tail _ (.tail _ (.tail _ (.head _)))))))
          have e109 : ax.eval (.tmp 109) = _ := hF 17 (det 109 _) (.tail _ (.tail _ (.tail _ (.tail _ (.tail _ (.head _))))))
          have e110 : ax.eval (.tmp 110) = _ := hF 18 (det 110 _) (.tail _ (.tail _ (.tail _ (.tail _ (.head _)))))
          have e111 : ax.eval (.tmp 111) = _ := hF 19 (det 111 _) (.tail _ (.tail _ (.tail _ (.head _))))
          have e112 : ax.eval (.tmp 112) = _ := hF 20 (det 112 _) (.tail _ (.tail _ (.head _)))
          have e113 : ax.eval (.tmp 113) = _ := hF 21 (det 113 _) (.tail _ (.head _))
          have e114 : ax.eval (.tmp 114) = _ := hF 22 (det 114 _) (.head _)
          rw [AllEq.frame (D := [92, 93, 94, 95, 96, 97, 98, 99, 100, 101, 102, 103, 104, 105, 106, 107, 108, 109, 110, 111, 112, 113, 114]) (AllEq.cons e92 (AllEq.cons e93 (AllEq.cons e94 (AllEq.cons e95 (AllEq.cons e96 (AllEq.cons e97 (AllEq.cons e98 (AllEq.cons e99 (AllEq.cons e100 (AllEq.cons e101 (AllEq.cons e102 (AllEq.cons e103 (AllEq.cons e104 (AllEq.cons e105 (AllEq.cons e106 (AllEq.cons e107 (AllEq.cons e108 (AllEq.cons e109 (AllEq.cons e110 (AllEq.cons e111 (AllEq.cons e112 (AllEq.cons e113 (AllEq.cons e114 (AllEq.nil)))))))))))))))))))))))) hE rfl]
          clear hF hE e92 e93 e94 e95 e96 e97 e98 e99 e100 e101 e102 e103 e104 e105 e106 e107 e108 e109 e110 e111 e112 e113 e114
          simp only [List.foldl_cons, List.foldl_nil, Act.put, List.setIfInBounds_toArray, List.set_cons_succ, List.set_cons_zero]
          have HO6 := Lib.hid (And.intro (HO.out.1.trans R6) (HO.out.2.ext R6))
          have q6 := HO6.out.2.rb.cell hlt
          rw [HV.out] at q6
          clear R6 q0 c1 hge
          go_wp2_with fail
          go_roundw
          case rel => exact ⟨q, by omega, by go_num, by rw [HY.out]; go_num, by rw [HS.out], HO6.out.1, HO6.out.2⟩
          case measure => simp [intOf]; omega
        · have hz := hno0 (by omega)
          have hv0 : v = 0 := by omega
          have HZ := Lib.hid (And.intro hz ht0)
          have HV0 := Lib.hid hv0
          clear hyes0 hno0 hv es hs0 ht0 hq hz hv0
          go_wp2_with fail
          go_roundw
          case rel => exact ⟨q, by omega, by go_num, by rw [HZ.out.1, HZ.out.2], by rw [HS.out, HV0.out]; go_num, HO.out.1, HO.out.2⟩
          case measure => simp [intOf]; omega
      · obtain rfl : 1024 = q := by omega
        obtain rfl : m = 1023 := by omega
        have e1 : (hotTo u 1023).length = (hotL u).length := rfl
        have e2 : sumI 1023 u = sumU u := rfl
        rw [e1, e2]
        obtain ⟨S, hS⟩ : ∃ S, sumU u = S := ⟨_, rfl⟩
        obtain ⟨len', hlen'⟩ : ∃ len', (hotL u).length = len' := ⟨_, rfl⟩
        rw [hS, hlen']
        have HSU := Lib.hid (show ∀ wx, OwnT w.heap.size w [tRB ub u, tBook pb mb n u] wx → Calls Try.prog 20 #[.pointer (some ⟨pb, 0, none⟩)] wx fun e w' => e = .returned (.int .i64 S) ∧ Ext wx w' from fun wx hO => hS ▸ sum_any wx pb mb n u hO.tail.bk HH.out)
        clear hsb hsb1 hlm e1 e2 hS hlen' hq hq1 hq2 hlt hm1
        go_wp2_with fail
        refine (touch_nil _ _ _).mono ?_
        rintro e w4 ⟨rfl, rfl⟩
        go_wp2_with fail
        refine (decay_nil _).mono ?_
        rintro e w4 ⟨rfl, rfl⟩
        go_wp2_with fail
        refine (forget_nil _ _).mono ?_
        rintro e w4 ⟨rfl, rfl⟩
        go_wp2_with fail
        refine (HSU.out _ HO.out.2).mono ?_
        rintro e w5 ⟨rfl, hx5⟩
        have HO5 := Lib.hid (HO.out.2.ext hx5)
        clear hx5
        go_wp2_with fail
        refine (of_nil _ _).mono ?_
        rintro e w4 ⟨rfl, rfl⟩
        go_wp2_with fail
        refine (sum_nil _).mono ?_
        rintro e w4 ⟨rfl, rfl⟩
        go_wp2_with fail
        refine (hot_nil _).mono ?_
        rintro e w4 ⟨rfl, rfl⟩
        go_wp2_with fail
        go_ret
        exact ⟨rfl, HO5.out.below⟩
theorem heatExact_walk (w : World) (v0 : Value) (h0 : Arg Try.prog w 55 v0) :
    Calls Try.prog 6 #[v0] w fun e w' => e = .returned (.bool true) ∧ Below w.heap.size w w' := by
  obtain ⟨A, len, cap, xs, rfl, hl1, hl2, hl3, hwf, hrow⟩ := arg_acts h0
  exact heatExact_core A len cap xs w hl3 hrow hwf (by omega)
end Go.Proofs.Ytojilbacloegjaa
