/- slices.Delete of one element, at structs of two numbers. -/
import Derived.Test.YtdeocidlkpbhcaaKReachShares16
import Derived.Test.YtdeocidlkpbhcaaKReachShares12
namespace Go.Proofs.Ytdeocidlkpbhcaa
attribute [local simp] BigFrame.eval_const BigFrame.eval_global BigFrame.eval_func
set_option linter.unusedVariables false
set_option linter.unusedSimpArgs false
open Go.RowKit

set_option maxRecDepth 100000 in
set_option maxHeartbeats 4000000 in
theorem Z7a (g n cap i : Nat) (cur : Array Value) (xs : List Value) (w : World) (hg : Blk w g 59 cur) (hi : i < n) (hnc : n ≤ cap) (hc : cap ≤ maxLen) (hcur : cur.size = cap * 2) (hx : cur.toList.take (n * 2) = xs) (h1 : ∀ u ∈ xs, u.oneCell' = true) :
    Calls Try.prog 28 #[.slice (some ⟨g, 0, none⟩) n cap, .int .i64 i, .int .i64 ((i : Int) + 1)] w fun e w' => ∃ cur' : Array Value,
      e = .returned (.slice (some ⟨g, 0, none⟩) (n - 1) cap) ∧ Blk w' g 59 cur' ∧ cur'.size = cap * 2 ∧ cur'.toList.take ((n - 1) * 2) = xs.take (i * 2) ++ xs.drop ((i + 1) * 2) ∧ Chg [g] w w' := by
  unfold maxLen at hc
  obtain ⟨ti, hi0, hz, hsz, hby⟩ := Z2a
  obtain ⟨mv, hmv⟩ : ∃ mv, xs.drop ((i + 1) * 2) = mv := ⟨_, rfl⟩
  have hxl : xs.length = n * 2 := by rw [← hx, List.length_take, Array.length_toList, hcur]; omega
  have hml : mv.length = (n - (i + 1)) * 2 := by rw [← hmv, List.length_drop, hxl]; omega
  have hm1 : ∀ u ∈ mv, u.oneCell' = true := fun u hu => h1 u (by rw [← hmv] at hu; exact List.mem_of_mem_drop hu)
  obtain ⟨cur1, hcur1⟩ : ∃ cur1 : List Value, cur.toList.take (i * 2) ++ mv ++ cur.toList.drop (i * 2 + mv.length) = cur1 := ⟨_, rfl⟩
  have hcl : cur.toList.length = cap * 2 := by rw [Array.length_toList, hcur]
  have hl1 : cur1.length = cap * 2 := by rw [← hcur1]; simp only [List.length_append, List.length_take, List.length_drop]; omega
  have ht1 : cur1.take ((n - 1) * 2) = xs.take (i * 2) ++ mv := by
    have e : (n - 1) * 2 = (cur.toList.take (i * 2) ++ mv).length := by simp only [List.length_append, List.length_take]; omega
    rw [← hcur1, e, List.take_left, ← hx, List.take_take, show min (i * 2) (n * 2) = i * 2 by omega]
  obtain ⟨zc, hzc⟩ : ∃ zc : List Value, (Builtin.zeroCells zPair.cells 1).toList = zc := ⟨_, rfl⟩
  have hzl : zc.length = 2 := by rw [← hzc, Array.length_toList, size_zeroCells]; rfl
  rw [hmv]
  have hsrc : ∀ W A, Blk W g 59 cur → (0 < n - (i + 1) → A = (⟨g, (i + 1) * 2, none⟩ : Addr)) → ∀ j v, mv[j]? = some v → W.cell? (A.add j) = some v := fun W A hW hA j v hj => by
    have hjl : j < mv.length := (List.getElem?_eq_some_iff.1 hj).1
    rw [hA (by omega)]
    have hadd : (⟨g, (i + 1) * 2, none⟩ : Addr).add j = ⟨g, (i + 1) * 2 + j, none⟩ := by unfold Addr.add; split <;> simp_all
    rw [hadd, hW.cell]
    rw [← hmv, List.getElem?_drop, ← hx, List.getElem?_take_of_lt (by omega)] at hj
    simpa using hj
  have hap := fun (W : World) (A : Addr) (cp : Nat) ty (hW : Blk W g 59 cur) (hA : 0 < n - (i + 1) → A = (⟨g, (i + 1) * 2, none⟩ : Addr)) =>
    run_append_room (P := Try.prog) W 38 ty 59 ti Try.underlying38 hi0 g i cap cur hW A (n - (i + 1)) cp mv (by rw [hsz]; exact hml) (hsrc W A hW hA) hm1 (by omega) (by rw [hsz]; omega)
  rw [hsz, hcur1, show i + (n - (i + 1)) = n - 1 by omega] at hap
  have hwi : IntKind.i64.wrap ((i : Int) + 1) = (i : Int) + 1 := IntWalk.i64_in _ (by omega)
  have HAP := Lib.hid hap
  have HL := Lib.hid (And.intro hl1 ht1)
  have HG := Lib.hid hg
  have HZ := Lib.hid (And.intro hzc hzl)
  clear hap hsrc hl1 ht1 hcur1 hcl hm1 hml hxl hmv hx h1 hg hcur hzc hzl
  by_cases hcn : i + 1 = cap
  · obtain rfl : cap = n := by omega
    obtain rfl : cap = i + 1 := by omega
    obtain ⟨w0_, rfl⟩ : ∃ w0_, w0_ = w := ⟨_, rfl⟩
    clear hcn
    go_enter Try.func28, Try.ntmps28
    go_upto_region 5 with fail
    refine Z4j (Ext) (fun l w => Ext w0_ w) [[], [], [0, 1], [], [], [3, 4], [0, 1, 2, 3, 4, 5], [0, 1, 2, 3, 4, 5, 6]] [20, 21, 22, 23, 24, 25] (Ext.refl) (Ext.drew _) (by kernel_rfl) ?_
    apply BuildR.det 20 (Ext.refl) (fun l w h => h) (by rfl) (by rfl) rfl
    case h =>
      intro lx ax wx hE hR hF
      have e0 : ax.eval (.tmp 0) = .slice (some ⟨g, 0, none⟩) (i + 1) (i + 1) := hE.eval 0 (by rfl) rfl
      simp [go_sem, ↓IntWalk.iteOmega, ev e0]
      with_reducible rfl
    apply BuildR.det 21 (Ext.refl) (fun l w h => h) (by rfl) (by rfl) rfl
    case h =>
      intro lx ax wx hE hR hF
      have e1 : ax.eval (.tmp 1) = .int .i64 i := hE.eval 1 (by rfl) rfl
      simp [go_sem, ↓IntWalk.iteOmega, ev e1]
      with_reducible rfl
    apply BuildR.det 22 (Ext.refl) (fun l w h => h) (by rfl) (by rfl) rfl
    case h =>
      intro lx ax wx hE hR hF
      have e20 := hF 0 (det 20 _) (by decide) (.tail _ (.head _))
      have e21 := hF 1 (det 21 _) (by decide) (.head _)
      simp [go_sem, ↓IntWalk.iteOmega, ev e20, ev e21]
      with_reducible rfl
    apply BuildR.det 23 (Ext.refl) (fun l w h => h) (by rfl) (by rfl) rfl
    case h =>
      intro lx ax wx hE hR hF
      have e0 : ax.eval (.tmp 0) = .slice (some ⟨g, 0, none⟩) (i + 1) (i + 1) := hE.eval 0 (by rfl) rfl
      simp [go_sem, ↓IntWalk.iteOmega, ev e0]
      with_reducible rfl
    apply BuildR.det 24 (Ext.refl) (fun l w h => h) (by rfl) (by rfl) rfl
    case h =>
      intro lx ax wx hE hR hF
      have e2 : ax.eval (.tmp 2) = .int .i64 ((i : Int) + 1) := hE.eval 2 (by rfl) rfl
      simp [go_sem, ↓IntWalk.iteOmega, ev e2]
      with_reducible rfl
    apply BuildR.det 25 (Ext.refl) (fun l w h => h) (by rfl) (by rfl) rfl
    case h =>
      intro lx ax wx hE hR hF
      have e23 := hF 3 (det 23 _) (by decide) (.tail _ (.head _))
      have e24 := hF 4 (det 24 _) (by decide) (.head _)
      simp [go_sem, ↓IntWalk.iteOmega, ev e23, ev e24]
      with_reducible rfl
    apply BuildR.stop
    refine ⟨by kernel_rfl, ?_⟩
    intro lx ax w3 hE R3 hL hF
    have e20 := hF 0 (det 20 _) (.tail _ (.tail _ (.tail _ (.tail _ (.tail _ (.head _))))))
    have e21 := hF 1 (det 21 _) (.tail _ (.tail _ (.tail _ (.tail _ (.head _)))))
    have e22 := hF 2 (det 22 _) (.tail _ (.tail _ (.tail _ (.head _))))
    have e23 := hF 3 (det 23 _) (.tail _ (.tail _ (.head _)))
    have e24 := hF 4 (det 24 _) (.tail _ (.head _))
    have e25 := hF 5 (det 25 _) (.head _)
    rw [AllEq.frame (D := [20, 21, 22, 23, 24, 25]) (AllEq.cons e20 (AllEq.cons e21 (AllEq.cons e22 (AllEq.cons e23 (AllEq.cons e24 (AllEq.cons e25 (AllEq.nil))))))) hE rfl]
    clear hF hE e20 e21 e22 e23 e24 e25
    simp only [List.foldl_cons, List.foldl_nil, Act.put, List.setIfInBounds_toArray, List.set_cons_succ, List.set_cons_zero]
    simp only [List.length_cons, List.length_nil, Nat.zero_add, Nat.reduceAdd, List.drop_succ_cons, List.drop_zero, List.drop_nil, tailOps]
    have hg3 := HG.out.ext R3
    have hap2 := fun ty => HAP.out w3 ⟨g, 0, none⟩ 0 ty hg3 (fun h => by omega)
    have hl2 := HL.out
    simp only [Nat.sub_self, Nat.add_sub_cancel] at hap2 hl2
    have HL2 := Lib.hid hl2
    clear hL hl2
    refine Z2d _ _ _ _ rfl _ _ rfl rfl (hap2 _) ?_
    have HN := Lib.hid (And.intro (hg3.setRow cur1.toArray) ((Chg.of_ext R3 [g]).trans (Z1e w3 g cur1.toArray)))
    generalize w3.setRow g cur1.toArray = w4 at HN ⊢
    clear hg3 R3 HAP HG hap2 HL
    have hclr : ∀ ty, (Builtin.clear_ #[38] ty #[.slice (some ⟨g, i * 2, none⟩) 1 1]).run Try.prog w4 = .ok (.tuple #[]) (w4.setRow g (splice cur1 (i * 2) zc).toArray) := fun ty => by
      have := Z2x (P := Try.prog) w4 38 59 ty ti zPair Try.underlying38 hi0 hz g (i * 2) 1 1 cur1.toArray 59 HN.out.1 (by omega) (by have := HL2.out.1; simp [Value.cells, this]; omega) (Z37 1)
      rw [HZ.out.1] at this
      simpa using this
    have HCL := Lib.hid hclr
    clear hclr
    go_wp2_with (with_reducible refine Z2h (o := ⟨none, _, _, _, _, _⟩) rfl _ _ rfl _ rfl (HCL.out _) ?_)
    go_ret
    refine ⟨(splice cur1 (i * 2) zc).toArray, rfl, HN.out.1.setRow _, ?_, ?_, HN.out.2.trans (Z1e _ _ _)⟩
    · rw [List.size_toArray, length_splice _ _ _ (by have := HL2.out.1; have := HZ.out.2; omega)]
      exact HL2.out.1
    · rw [Nat.add_sub_cancel]
      show (splice cur1 (i * 2) zc).take (i * 2) = _
      unfold splice
      rw [List.take_append_of_le_length (by rw [List.length_take]; have := HL2.out.1; omega), List.take_take, Nat.min_self]
      exact HL2.out.2
  · obtain ⟨w0_, rfl⟩ : ∃ w0_, w0_ = w := ⟨_, rfl⟩
    go_enter Try.func28, Try.ntmps28
    go_upto_region 5 with fail
    refine Z4j (Ext) (fun l w => Ext w0_ w) [[], [], [0, 1], [], [], [3, 4], [0, 1, 2, 3, 4, 5], [0, 1, 2, 3, 4, 5, 6]] [20, 21, 22, 23, 24, 25] (Ext.refl) (Ext.drew _) (by kernel_rfl) ?_
    apply BuildR.det 20 (Ext.refl) (fun l w h => h) (by rfl) (by rfl) rfl
    case h =>
      intro lx ax wx hE hR hF
      have e0 : ax.eval (.tmp 0) = .slice (some ⟨g, 0, none⟩) n cap := hE.eval 0 (by rfl) rfl
      simp [go_sem, ↓IntWalk.iteOmega, ev e0]
      with_reducible rfl
    apply BuildR.det 21 (Ext.refl) (fun l w h => h) (by rfl) (by rfl) rfl
    case h =>
      intro lx ax wx hE hR hF
      have e1 : ax.eval (.tmp 1) = .int .i64 i := hE.eval 1 (by rfl) rfl
      simp [go_sem, ↓IntWalk.iteOmega, ev e1]
      with_reducible rfl
    apply BuildR.det 22 (Ext.refl) (fun l w h => h) (by rfl) (by rfl) rfl
    case h =>
      intro lx ax wx hE hR hF
      have e20 := hF 0 (det 20 _) (by decide) (.tail _ (.head _))
      have e21 := hF 1 (det 21 _) (by decide) (.head _)
      simp [go_sem, ↓IntWalk.iteOmega, ev e20, ev e21]
      with_reducible rfl
    apply BuildR.det 23 (Ext.refl) (fun l w h => h) (by rfl) (by rfl) rfl
    case h =>
      intro lx ax wx hE hR hF
      have e0 : ax.eval (.tmp 0) = .slice (some ⟨g, 0, none⟩) n cap := hE.eval 0 (by rfl) rfl
      simp [go_sem, ↓IntWalk.iteOmega, ev e0]
      with_reducible rfl
    apply BuildR.det 24 (Ext.refl) (fun l w h => h) (by rfl) (by rfl) rfl
    case h =>
      intro lx ax wx hE hR hF
      have e2 : ax.eval (.tmp 2) = .int .i64 ((i : Int) + 1) := hE.eval 2 (by rfl) rfl
      simp [go_sem, ↓IntWalk.iteOmega, ev e2]
      with_reducible rfl
    apply BuildR.det 25 (Ext.refl) (fun l w h => h) (by rfl) (by rfl) rfl
    case h =>
      intro lx ax wx hE hR hF
      have e23 := hF 3 (det 23 _) (by decide) (.tail _ (.head _))
      have e24 := hF 4 (det 24 _) (by decide) (.head _)
      simp [go_sem, ↓IntWalk.iteOmega, ev e23, ev e24]
      with_reducible rfl
    apply BuildR.stop
    refine ⟨by kernel_rfl, ?_⟩
    intro lx ax w3 hE R3 hL hF
    have e20 := hF 0 (det 20 _) (.tail _ (.tail _ (.tail _ (.tail _ (.tail _ (.head _))))))
    have e21 := hF 1 (det 21 _) (.tail _ (.tail _ (.tail _ (.tail _ (.head _)))))
    have e22 := hF 2 (det 22 _) (.tail _ (.tail _ (.tail _ (.head _))))
    have e23 := hF 3 (det 23 _) (.tail _ (.tail _ (.head _)))
    have e24 := hF 4 (det 24 _) (.tail _ (.head _))
    have e25 := hF 5 (det 25 _) (.head _)
    rw [AllEq.frame (D := [20, 21, 22, 23, 24, 25]) (AllEq.cons e20 (AllEq.cons e21 (AllEq.cons e22 (AllEq.cons e23 (AllEq.cons e24 (AllEq.cons e25 (AllEq.nil))))))) hE rfl]
    clear hF hE e20 e21 e22 e23 e24 e25
    simp only [List.foldl_cons, List.foldl_nil, Act.put, List.setIfInBounds_toArray, List.set_cons_succ, List.set_cons_zero]
    simp only [List.length_cons, List.length_nil, Nat.zero_add, Nat.reduceAdd, List.drop_succ_cons, List.drop_zero, List.drop_nil, tailOps]
    have hg3 := HG.out.ext R3
    clear hL
    refine Z2d _ _ _ _ rfl _ _ rfl rfl (HAP.out w3 ⟨g, (i + 1) * 2, none⟩ (cap - (i + 1)) _ hg3 (fun _ => rfl)) ?_
    have HN := Lib.hid (And.intro (hg3.setRow cur1.toArray) ((Chg.of_ext R3 [g]).trans (Z1e w3 g cur1.toArray)))
    generalize w3.setRow g cur1.toArray = w4 at HN ⊢
    clear hg3 R3 HAP HG
    have hclr : ∀ ty, (Builtin.clear_ #[38] ty #[.slice (some ⟨g, (n - 1) * 2, none⟩) (n - (n - 1)) (cap - (n - 1))]).run Try.prog w4 = .ok (.tuple #[]) (w4.setRow g (splice cur1 ((n - 1) * 2) zc).toArray) := fun ty => by
      have := Z2x (P := Try.prog) w4 38 59 ty ti zPair Try.underlying38 hi0 hz g ((n - 1) * 2) 1 (cap - (n - 1)) cur1.toArray 59 HN.out.1 (by omega) (by have := HL.out.1; simp [Value.cells, this]; omega) (Z37 1)
      rw [HZ.out.1] at this
      rw [show n - (n - 1) = 1 by omega]
      simpa using this
    have HCL := Lib.hid hclr
    clear hclr
    go_wp2_with (with_reducible refine Z2h (o := ⟨none, _, _, _, _, _⟩) rfl _ _ rfl _ rfl (HCL.out _) ?_)
    go_ret
    refine ⟨(splice cur1 ((n - 1) * 2) zc).toArray, rfl, HN.out.1.setRow _, ?_, ?_, HN.out.2.trans (Z1e _ _ _)⟩
    · rw [List.size_toArray, length_splice _ _ _ (by have := HL.out.1; have := HZ.out.2; omega)]
      exact HL.out.1
    · show (splice cur1 ((n - 1) * 2) zc).take ((n - 1) * 2) = _
      unfold splice
      rw [List.take_append_of_le_length (by rw [List.length_take]; have := HL.out.1; omega), List.take_take, Nat.min_self]
      exact HL.out.2
theorem Z7b {H : Nat} {A : World} {R : List Thing} (v : Value) (n i : Nat) (xs : List Value) (w : World) (hO : OwnT H A (tRow 59 2 v n xs :: R) w) (hi : i < n) (h1 : ∀ u ∈ xs, u.oneCell' = true) :
    Calls Try.prog 28 #[v, .int .i64 i, .int .i64 ((i : Int) + 1)] w fun e w' => ∃ v',
      e = .returned v' ∧ OwnT H A (tRow 59 2 v' (n - 1) (xs.take (i * 2) ++ xs.drop ((i + 1) * 2)) :: R) w' := by
  have hr := hO.r0
  obtain ⟨g, cap, cur, rfl, hg, hnc, hcm, hcur, hx⟩ := Z11 hr (by omega)
  refine (Z7a g n cap i cur xs w hg hi hnc hcm hcur hx h1).mono ?_
  rintro e w' ⟨cur', rfl, h2, h3, h4, h5⟩
  exact ⟨_, rfl, hO.row (Z4m h2 (by omega) hcm h3 h4) h5.grown (.inl rfl)⟩
end Go.Proofs.Ytdeocidlkpbhcaa

/- A region that draws its order and in whose midst a call writes and a block is made and filled: the invariant sees the frame. No function of the program in sight. -/
namespace Go.Proofs.Ytdeocidlkpbhcaa
set_option linter.unusedVariables false
set_option linter.unusedSimpArgs false
open Go.RowKit

section
variable {P : Program} {R : (Nat → Bool) → World → World → Prop} {ops : Array Oper} {I : (Nat → Bool) → Act → World → Prop} {a0 : Act} {D : List Tmp} {A : List (List Nat)} {Fs : List (TFactL R)} {m : Nat} {Q : Exit → Act → World → Prop}
structure MInv (ops : Array Oper) (I : (Nat → Bool) → Act → World → Prop) (a0 : Act) (D : List Tmp) (Fs : List (TFactL R)) (m : Nat) (listed : Array Bool) (a : Act) (w : World) : Prop where
  sz : listed.size = ops.size
  env : Env a0 D a
  inv : I (fun i => listed.getD i false) a w
  closed : ∀ j o, listed.getD j false = true → ops[j]? = some o → ∀ e ∈ o.after, Region.binds .any e = true → listed.getD e.on false = true
  typed : ∀ i S, listed.getD i false = true → Fs[i]? = some S → S.T a w
  un : ∀ i, m ≤ i → listed.getD i false = false

theorem Z61 (hok0 : okB ops D A (Fs.map TFactL.L) m = true) (hidx : ∀ (i : Nat) (S : TFactL R), Fs[i]? = some S → S.idx = i) (hlen : Fs.length = m) (hms : m ≤ ops.size) (hm : ∀ i, m ≤ i → i < ops.size → ∀ j, j < i → j ∈ A.getD i [])
    (hstep : ∀ (k : Nat) (o : Oper) (S : TFactL R), ops[k]? = some o → Fs[k]? = some S → ∀ l a w, Env a0 D a → I l a w → l k = false → (∀ i ∈ A.getD k [], l i = true) → (∀ (i : Nat) (S' : TFactL R), i ∈ A.getD k [] → Fs[i]? = some S' → S'.T a w) → opR P ops (R l) (fun _ => True) o (fun a w => S.T a w ∧ I (upd l k) a w) a w)
    (hrr : ∀ l w, R l w w)
    (hend : ∀ l a w, Env a0 D a → I l a w → (∀ i, i < m → l i = true) → (∀ (i : Nat) (S : TFactL R), Fs[i]? = some S → S.T a w) → tailWp P ops Q (ops.size - m) m a w) :
    ∀ (fuel : Nat) (listed : Array Bool) (a : Act) (w : World), MInv ops I a0 D Fs m listed a w → listed.toList.count false = fuel → wpAny P .any ops Q fuel listed a w := by
  have hok : okB ops D A ((plain Fs).map TFact.L) m = true := by rw [Z7z]; exact hok0
  intro fuel
  induction fuel with
  | zero =>
    intro listed a w hI h0
    obtain ⟨hr, hx⟩ := Z2s (ops := ops) listed hI.sz h0
    have hmm : m = ops.size := by
      by_cases h : m < ops.size
      · have := hx m h
        rw [hI.un m (Nat.le_refl _)] at this
        cases this
      · omega
    refine ⟨hr, ?_⟩
    have := hend _ a w hI.env hI.inv (fun i hi => hx i (by omega)) (fun i S hS => hI.typed i S (hx i (by have := (List.getElem?_eq_some_iff.1 hS).1; omega)) hS)
    rwa [show ops.size - m = 0 by omega] at this
  | succ fuel ih =>
    intro listed a w hI hcnt
    by_cases hall : ∀ j, j < m → listed.getD j false = true
    · exact Z4r hok hm (fuel + 1) m listed a w (Nat.le_refl _) hms hI.sz hall hI.un hI.closed hcnt (hend _ a w hI.env hI.inv hall (fun i S hS => hI.typed i S (hall i (by have := (List.getElem?_eq_some_iff.1 hS).1; omega)) hS))
    refine ⟨fun hr => (Z2p hok listed hI.sz fuel hcnt hr).elim, fun i hi => ?_⟩
    obtain ⟨hun, o, ho, hpre⟩ := mem_ready.1 hi
    have hio : i < ops.size := (Array.getElem?_eq_some_iff.1 ho).1
    have his : i < listed.size := by have := hI.sz; omega
    have hanc := Z1f hok hI.closed hI.sz i o ho hpre
    have him : i < m := by
      by_cases h : i < m
      · exact h
      · exact (hall (fun j hj => hanc j (hm i (by omega) hio j (by omega)))).elim
    obtain ⟨S, hS⟩ : ∃ S, Fs[i]? = some S := ⟨_, List.getElem?_eq_getElem (by omega)⟩
    have hst := hstep i o S ho hS _ a w hI.env hI.inv (by rw [Z0r his false true]; exact hun) hanc (fun j S' hj hS' => hI.typed j S' (hanc j hj) hS')
    have hnext : ∀ v w', R (fun j => listed.getD j false) w w' → I (upd (fun j => listed.getD j false) i) (a.put o.dst v) w' → S.T (a.put o.dst v) w' → MInv ops I a0 D Fs m (listed.setIfInBounds i true) (a.put o.dst v) w' := by
      intro v w' hRw hR hT
      obtain ⟨_, _, h3⟩ := Z48 hok ho
      have h3 := h3 him
      refine ⟨by simpa using hI.sz, ⟨?_, ?_, ?_⟩, by rw [Z3c his]; exact hR, Z2r his ho hpre hI.closed, ?_, ?_⟩
      · rw [← hI.env.size]; cases hd : o.dst <;> simp [Act.put]
      · rw [← hI.env.defers]; cases hd : o.dst <;> simp [Act.put]
      · intro t ht
        rw [← hI.env.keep t ht]
        cases hd : o.dst with
        | none => simp [Act.put]
        | some d =>
          have := (h3 d hd).1
          have hne : d ≠ t := fun e => ht (e ▸ this)
          simp [Act.put, Array.getElem?_setIfInBounds_ne hne]
      · intro j S' hj hS'
        by_cases hji : i = j
        · subst hji
          rw [hS] at hS'
          cases hS'
          exact hT
        · rw [getD_set_ne false hji] at hj
          have hold := S'.mono (fun j => listed.getD j false) _ w w' (by rw [hidx j S' hS']; exact hj) hRw (hI.typed j S' hj hS')
          refine S'.loc _ _ _ (fun t ht => ?_) hold
          cases hd : o.dst with
          | none => simp [Act.put]
          | some d =>
            have hja : i ∉ A.getD j [] := by
              intro hmem
              obtain ⟨oj, hoj⟩ : ∃ oj, ops[j]? = some oj := ⟨_, Array.getElem?_eq_getElem (by have := (List.getElem?_eq_some_iff.1 hS').1; omega)⟩
              have := Z1f hok hI.closed hI.sz j oj hoj (hI.closed j oj hj hoj) i hmem
              rw [Z0r his false true, hun] at this
              cases this
            obtain ⟨S2, hS2, hSL⟩ := Z6h hS'
            have hne : d ≠ t := fun e => (h3 d hd).2 j S2 hS2 (fun e => hji e.symm) hja (by rw [hSL]; exact e ▸ ht)
            simp [Act.put, Array.getElem?_setIfInBounds_ne hne]
      · intro j hj
        have : i ≠ j := by omega
        rw [getD_set_ne false this]
        exact hI.un j hj
    have hk : ∀ v w', R (fun j => listed.getD j false) w w' → I (upd (fun j => listed.getD j false) i) (a.put o.dst v) w' → S.T (a.put o.dst v) w' → wpAny P .any ops Q fuel (listed.setIfInBounds i true) (a.put o.dst v) w' :=
      fun v w' hRw hR hT => ih _ _ _ (hnext v w' hRw hR hT) (count_set his hun _ hcnt)
    unfold wpOp
    simp only [ho]
    rcases hst with ⟨hw, hy⟩ | ⟨hw, _, hT, hJ⟩
    · rw [if_pos hw]
      refine .inl ?_
      unfold YieldsR at hy
      unfold Oper.wp
      generalize (execOp a.eval o).run P w = r at hy ⊢
      cases r with
      | halt x w' => exact hy.elim
      | ok n w' =>
        cases n <;> simp only [Oper.upon] at hy ⊢
        case value v => exact hk v w' hy.1 hy.2.2.2 hy.2.2.1
        case skip => exact hk undef w' hy.1 hy.2.2.2 hy.2.2.1
        case enter f args =>
          refine hy.mono fun e w'' ⟨v, he, hRw, _, hT, hR⟩ => ?_
          subst he
          exact hk v w'' hRw hR hT
    · rw [if_neg (by rw [hw]; exact Bool.false_ne_true)]
      exact hk undef w (hrr _ w) hJ hT

inductive BuildM (P : Program) (R : (Nat → Bool) → World → World → Prop) (ops : Array Oper) (I : (Nat → Bool) → Act → World → Prop) (a0 : Act) (D : List Tmp) (A : List (List Nat)) (G : List (Nat × TFactL R) → Prop) : Nat → List Oper → List (Nat × TFactL R) → Prop
  | stop {k : Nat} {os : List Oper} {done : List (Nat × TFactL R)} (h : G done) : BuildM P R ops I a0 D A G k os done
  | step {k : Nat} {o : Oper} {os : List Oper} {done : List (Nat × TFactL R)} (S : TFactL R) (hx : S.idx = k) (h : ∀ l a w, Env a0 D a → I l a w → l k = false → (∀ i ∈ A.getD k [], l i = true) → (∀ (i : Nat) (S' : TFactL R), i ∈ A.getD k [] → (i, S') ∈ done → S'.T a w) → opR P ops (R l) (fun _ => True) o (fun a w => S.T a w ∧ I (upd l k) a w) a w)
      (hr : BuildM P R ops I a0 D A G (k + 1) os ((k, S) :: done)) : BuildM P R ops I a0 D A G k (o :: os) done

variable {G : List (Nat × TFactL R) → Prop} {k : Nat} {o : Oper} {os : List Oper} {done : List (Nat × TFactL R)} {d : Tmp} {v : Value}
theorem BuildM.use (hb : BuildM P R ops I a0 D A G k os done) (hk : k = done.length) (hwf : ∀ (i : Nat) (S : TFactL R), (i, S) ∈ done → (factsL done)[i]? = some S) (hxd : ∀ (i : Nat) (S : TFactL R), (factsL done)[i]? = some S → S.idx = i) : ∃ fin : List (Nat × TFactL R), G fin ∧ (∀ (i : Nat) (S : TFactL R), (factsL done)[i]? = some S → (factsL fin)[i]? = some S) ∧
    (∀ (i : Nat) (S : TFactL R), (i, S) ∈ fin → (factsL fin)[i]? = some S) ∧ (∀ (i : Nat) (S : TFactL R), (factsL fin)[i]? = some S → S.idx = i) ∧ done.length ≤ fin.length ∧
    ∀ (i : Nat) (o : Oper) (S : TFactL R), os[i]? = some o → (factsL fin)[k + i]? = some S → ∀ l a w, Env a0 D a → I l a w → l (k + i) = false → (∀ j ∈ A.getD (k + i) [], l j = true) → (∀ (j : Nat) (S' : TFactL R), j ∈ A.getD (k + i) [] → (factsL fin)[j]? = some S' → S'.T a w) → opR P ops (R l) (fun _ => True) o (fun a w => S.T a w ∧ I (upd l (k + i)) a w) a w := by
  induction hb with
  | stop h =>
    rename_i k os done
    refine ⟨done, h, fun _ _ h => h, hwf, hxd, Nat.le_refl _, fun i o S _ hS => ?_⟩
    rw [List.getElem?_eq_none (by rw [Z0u]; omega)] at hS
    cases hS
  | step S hx h hr ih =>
    rename_i k o os done
    have hpre0 : ∀ (i : Nat) (S' : TFactL R), (factsL done)[i]? = some S' → (factsL ((k, S) :: done))[i]? = some S' := fun i S' hi => by
      have hlt := (List.getElem?_eq_some_iff.1 hi).1
      rw [Z19, List.getElem?_append_left hlt]; exact hi
    obtain ⟨fin, hG, h1, hw, hxf, h2, h4⟩ := ih (by simp [hk]) (fun i S' hm => by
      rcases List.mem_cons.1 hm with he | hm
      · cases he
        rw [Z19, hk, ← Z0u done]
        simp
      · exact hpre0 i S' (hwf i S' hm)) (fun i S' hi => by
      rw [Z19] at hi
      by_cases hlt : i < (factsL done).length
      · rw [List.getElem?_append_left hlt] at hi
        exact hxd i S' hi
      · have hle := (List.getElem?_eq_some_iff.1 hi).1
        rw [List.length_append] at hle
        have hle : i < (factsL done).length + 1 := hle
        have : i = (factsL done).length := by omega
        subst this
        rw [List.getElem?_append_right (Nat.le_refl _), Nat.sub_self] at hi
        simp at hi
        subst hi
        rw [hx, hk, Z0u])
    refine ⟨fin, hG, fun i S' hi => h1 i S' (hpre0 i S' hi), hw, hxf, by simp at h2; omega, ?_⟩
    intro i o' S' hi hS
    cases i with
    | zero =>
      simp at hi
      subst hi
      have : (factsL fin)[k + 0]? = some S := h1 k S (by rw [Z19, hk, ← Z0u done]; simp)
      rw [this] at hS
      cases hS
      intro l a w hE hR hl hA hF
      exact h l a w hE hR hl hA (fun j S' hj hd => hF j S' hj (h1 j S' (hpre0 j S' (hwf j S' hd))))
    | succ i =>
      have := h4 i o' S' (by simpa using hi) (by rwa [show k + 1 + i = k + (i + 1) by omega])
      intro l a w hE hR hl hA hF
      rw [show k + (i + 1) = k + 1 + i by omega] at hl hA ⊢
      exact this l a w hE hR hl hA (fun j S' hj hd => hF j S' (by rwa [show k + (i + 1) = k + 1 + i by omega]) hd)



/-- Each operation's fact, shown once, and the invariant kept. -/
theorem Z39 {id : Nat} {l : List Oper} {w : World} (Fs : List (TFactL R)) (hidx : ∀ (i : Nat) (S : TFactL R), Fs[i]? = some S → S.idx = i) (A : List (List Nat)) (D : List Tmp) (hf : P.follows .mixedOrders = true) (hok : okB l.toArray D A (Fs.map TFactL.L) Fs.length = true)
    (hm : (decide (Fs.length ≤ l.length) && (List.range l.length).all fun i => decide (i < Fs.length) || (List.range i).all fun j => (A.getD i []).contains j) = true)
    (hw0 : I (fun _ => false) a0 w.drew)
    (hstep : ∀ (k : Nat) (o : Oper) (S : TFactL R), l[k]? = some o → Fs[k]? = some S → ∀ L a w, Env a0 D a → I L a w → L k = false → (∀ i ∈ A.getD k [], L i = true) → (∀ (i : Nat) (S' : TFactL R), i ∈ A.getD k [] → Fs[i]? = some S' → S'.T a w) → opR P l.toArray (R L) (fun _ => True) o (fun a w => S.T a w ∧ I (upd L k) a w) a w)
    (hrr : ∀ l w, R l w w)
    (hend : ∀ L a w, Env a0 D a → I L a w → (∀ i, i < Fs.length → L i = true) → (∀ (i : Nat) (S : TFactL R), Fs[i]? = some S → S.T a w) → tailWp P l.toArray Q (l.length - Fs.length) Fs.length a w) :
    (Code.region id l.toArray true).wp P Q a0 w := by
  refine wp_region_any hf ?_
  simp only [Bool.and_eq_true, decide_eq_true_eq, List.all_eq_true, List.mem_range, Bool.or_eq_true, List.contains_iff_mem] at hm
  refine Z61 (a0 := a0) (I := I) (Fs := Fs) (A := A) (D := D) (m := Fs.length) hok hidx rfl (by simpa using hm.1) ?_ (by simpa using hstep) hrr (by simpa using hend) _ _ _ _ ?_ (by simp)
  · intro i h1 h2 j hj
    rcases hm.2 i (by simpa using h2) with h | h
    · omega
    · exact h j hj
  · refine ⟨by simp, ⟨rfl, rfl, fun _ _ => rfl⟩, ?_, ?_, ?_, ?_⟩
    · have e : (fun i => (Array.replicate l.toArray.size false).getD i false) = fun _ => false := funext fun i => Z13 _ _
      rw [e]
      exact hw0
    · intro j o hj
      rw [Z13] at hj
      cases hj
    · intro i S hi
      rw [Z13] at hi
      cases hi
    · intro i _
      exact Z13 _ _

def FinM (P : Program) (l : List Oper) (I : (Nat → Bool) → Act → World → Prop) (a0 : Act) (D : List Tmp) (A : List (List Nat)) (Q : Exit → Act → World → Prop) (fin : List (Nat × TFactL R)) : Prop :=
  (okB l.toArray D A ((factsL fin).map TFactL.L) fin.length && (decide (fin.length ≤ l.length) && (List.range l.length).all fun i => decide (i < fin.length) || (List.range i).all fun j => (A.getD i []).contains j) && (l.drop fin.length).all fun o => o.guard.isNone) = true ∧
    ∀ L a w, Env a0 D a → I L a w → (∀ i, i < fin.length → L i = true) → (∀ (i : Nat) (S : TFactL R), (i, S) ∈ fin → S.T a w) → tailOps P Q (l.drop fin.length) a w
theorem Z6t {id : Nat} {l : List Oper} {w : World} (R : (Nat → Bool) → World → World → Prop) (I : (Nat → Bool) → Act → World → Prop) (A : List (List Nat)) (D : List Tmp) (hrr : ∀ l w, R l w w) (hw0 : I (fun _ => false) a0 w.drew) (hf : P.follows .mixedOrders = true)
    (h : BuildM P R l.toArray I a0 D A (FinM P l I a0 D A Q) 0 l []) : (Code.region id l.toArray true).wp P Q a0 w := by
  obtain ⟨fin, ⟨hok, hG⟩, -, hw, hxf, -, hstep⟩ := h.use rfl (fun _ _ h => by cases h) (fun _ _ h => by simp [factsL] at h)
  have hlen := Z0u fin
  rw [Bool.and_eq_true, Bool.and_eq_true] at hok
  refine Z39 (I := I) (factsL fin) hxf A D hf (by rw [hlen]; exact hok.1.1) (by rw [hlen]; exact hok.1.2) hw0 (fun k o S h1 h2 L a w hE hR hl hA hF => by
    have := hstep k o S h1 (by simpa using h2) L a w hE hR (by simpa using hl) (by simpa using hA) (by simpa using hF)
    simpa using this) hrr (fun L a w hE hR hA hF => ?_)
  rw [hlen] at hA ⊢
  have := Z43 l (l.drop fin.length) fin.length rfl hok.2 a w (hG L a w hE hR hA (fun i S hm => hF i S (hw i S hm)))
  simpa using this


end
end Go.Proofs.Ytdeocidlkpbhcaa
