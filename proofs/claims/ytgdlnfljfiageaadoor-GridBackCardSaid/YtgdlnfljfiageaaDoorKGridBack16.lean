/- grids: parted (printed by XGrF.gen.py). -/
import Derived.Test.YtgdlnfljfiageaaDoorKGridBack15
namespace Go.Proofs.YtgdlnfljfiageaaDoor
attribute [local simp] BigFrame.eval_const BigFrame.eval_global BigFrame.eval_func
set_option linter.unusedVariables false
set_option linter.unusedSimpArgs false
open Go.RowKit

theorem Z72 (l : Tx) (w : World) (hl : l.length ≤ 1000000) : Calls Tryd.prog 47 #[.string (sB l), .string (sB [10])] w fun e w' => e = .returned (.string (sB (Lib.trimSuffix l [10]))) ∧ w = w' :=
 (Tryd.strings_TrimSuffix (sB l) (sB [10]) w (by rw [Z0m]; omega)).mono fun e w' h => ⟨h.1, h.2.symm⟩
theorem Z73 (l : Tx) (w : World) (hl : l.length ≤ 1000000) : Calls Tryd.prog 36 #[.string (sB l), .string (sB [32])] w fun e w' => e = .returned (.string (sB (Lib.trimRightB l 32))) ∧ w = w' :=
 (Tryd.strings_TrimRight_one (sB l) 32 (by decide) w (by rw [Z0m]; omega)).mono fun e w' h => ⟨h.1, h.2.symm⟩
theorem Z5r {H : Nat} {A w : World} {L : List Thing} (l : Tx) (O : OwnT H A L w) (hl : l.length ≤ 1000000) (hv : VarW w) : Calls Tryd.prog 46 #[.string (sB l), .string (sB bar)] w fun e w' => ∃ g, e = .returned (.slice (some ⟨g, 0, none⟩) (splL l).length (splL l).length) ∧ OwnT H A (tBlk g 9 (txV (splL l)).toArray :: L) w' := by
 obtain ⟨m, hm⟩ := hv.maxLen
 refine (Tryd.strings_Split (sB l) (sB bar) m w (by rw [Z0m]; omega) hm (by decide)).mono ?_
 rintro e w' ⟨rfl, rfl⟩
 refine ⟨w.heap.size, by rw [Z5s], ?_⟩
 have e2 : (Lib.splitB (sB bar) 0 (Lib.countB (sB l) (sB bar)) (sB l)).map Value.string = txV (splL l) := by
  rw [← spl_B]
  unfold txV txE
  rw [List.map_map]
  refine List.map_congr_left fun x _ => ?_
  show _ = Value.string (sB x.data.toList)
  rw [Z78]
 rw [← e2]
 exact O.new _ _
theorem Z7v {x : Tx} {P : List Tx} (h : splL (Lib.trimSuffix x [10]) = P) : cellsL x = P.map fun c => Lib.trimRightB c 32 := by rw [← h]; rfl
theorem Z7h {P : List Tx} {j : Nat} {p : Tx} (h : P[j]? = some p) : (P.take (j + 1)).map (fun c => Lib.trimRightB c 32) = (P.take j).map (fun c => Lib.trimRightB c 32) ++ [Lib.trimRightB p 32] := by
 rw [List.take_add_one, h]
 simp
theorem Z61 {s x : Tx} {k : Nat} (h : (linesL s)[k]? = some x) : (partL s).take (k + 1) = (partL s).take k ++ [cellsL x] ∧ k < (partL s).length := by
 have h1 : (partL s)[k]? = some (cellsL x) := by unfold partL; rw [List.getElem?_map, h]; rfl
 exact ⟨by rw [List.take_add_one, h1]; rfl, (List.getElem?_eq_some_iff.1 h1).1⟩
theorem res_C1 {P : Program} {a : Act} {w : World} {fn : Func} {t : Tmp} {T : TypeId} {v : Value} {p : Addr} (hr : fn.results = #[.cell t T]) (e : a.eval (.tmp t) = .pointer (some p)) (hl : (loadVar T p).run P w = .ok v w) : (results fn a.tmps).run P w = .ok v w := by
 simp only [Z0u, Array.getD_eq_getD_getElem?] at e
 simp [results, hr, e, hl, asAddr]

set_option maxRecDepth 100000 in
set_option maxHeartbeats 4000000 in
theorem Z53 {H : Nat} {A0 : World} {R : List Thing} (s : Tx) (w : World) (O : OwnT H A0 R w) : Calls Tryd.prog 45 #[.string (sB s)] w fun e w' => ∃ bs, e = .returned (.func (.func 63) #[] #[.pointer (some ⟨bs, 0, none⟩)]) ∧ OwnT H A0 (tBlk bs 9 #[.string (sB s)] :: R) w' := by
 refine Z0k Tryd.func45 rfl 4 rfl (by rfl) ?_
 intro a1 k hargs
 have e0 : a1.eval (.tmp 0) = .string (sB s) := hargs 0 _ rfl
 clear hargs
 refine wp_seq ?_
 refine wp_region_lit ?_
 have hE := Env.refl a1 [1, 2]
 refine Z3g O (cs := #[.string (sB s)]) (t := 9) 1 hE k rfl (by rfl) (by rfl) rfl (by simp [go_sem, ↓IntWalk.iteOmega, ev (hE.g e0)]) ?_
 clear O
 intro bs a2 w3 O hE e1 kp
 refine sd 2 hE k (Z01 rfl rfl) ?_
 intro a4 hE e2 kp
 replace e1 := kt kp e1
 refine wpList_nil ?_
 replace k := k.env hE
 clear hE e0 e2
 refine Z00 (wp_seq ?_)
 refine wp_region_lit ?_
 have hE := Env.refl a4 [3, 2]
 apply Z05 3 hE k rfl rfl rfl rfl
 case h =>
  simp [go_sem, ↓IntWalk.iteOmega, ev (hE.g e1)]
  with_reducible rfl
 intro a5 hE e3 kp
 refine sd 2 hE k (Z01 rfl e3) ?_
 intro a6 hE e2 kp
 refine wpList_nil ?_
 replace k := k.env hE
 clear hE e1
 refine Z00 ?_
 refine wp_ret ?_
 refine Z0b rfl k e2 ?_
 exact ⟨bs, rfl, O⟩
set_option maxRecDepth 100000 in
set_option maxHeartbeats 4000000 in
theorem Z42 {H : Nat} {A0 : World} {R : List Thing} (s : Tx) (w : World) (O : OwnT H A0 R w) (hs : s.length ≤ 100000) (hvar : ∀ W, Below H A0 W → VarW W) : Calls Tryd.prog 28 #[.string (sB s)] w fun e w' => ∃ B cap vs, e = .returned (.slice B (partL s).length cap) ∧ OwnT H A0 (tRow 36 1 (.slice B ((partL s).length) cap) ((partL s).length) vs :: tTxs vs ((partL s)) :: R) w' := by
 have hL : ¬ LetsOut (bodyPostM (FR none) 0 Tryd.prog Tryd.f28 fun e w' => ∃ B cap vs, e = .returned (.slice B (partL s).length cap) ∧ OwnT H A0 (tRow 36 1 (.slice B ((partL s).length) cap) ((partL s).length) vs :: tTxs vs ((partL s)) :: R) w') := fun ⟨_, _, h⟩ => by obtain ⟨_, _, _, h, _⟩ := h; cases h
 refine Z7w Tryd.func28 rfl 29 rfl (by rfl) ?_
 intro a1 k hargs
 have e0 : a1.eval (.tmp 0) = .string (sB s) := hargs 0 _ rfl
 clear hargs
 refine wp_seq ?_
 refine wp_region_lit ?_
 have hE := Env.refl a1 [2]
 refine Z3g O (cs := #[.slice none 0 0]) (t := 22) 2 hE k rfl (by rfl) (by rfl) rfl (by simp [go_sem, ↓IntWalk.iteOmega]) ?_
 clear O
 intro rb a2 w3 O hE e2 kp
 refine wpList_nil ?_
 replace e0 := hE.g e0
 replace k := k.env hE
 clear hE
 refine Z00 (wp_seq ?_)
 refine wp_seq ?_
 refine wp_region_lit ?_
 have hE := Env.refl a2 [7, 8]
 refine zm 7 hE k e0 ?_
 intro a4 hE e7 kp
 apply Z08 8 hE k rfl (by rfl) (by rfl) rfl
 case h =>
  simp [go_sem, ↓IntWalk.iteOmega, ev e7]
  with_reducible exact ⟨rfl, rfl⟩
 case hc => exact Z53 s _ O
 clear O
 rintro e w6 ⟨bs, rfl, O⟩
 refine ⟨_, rfl, ?_⟩
 intro a5 hE e8 kp
 refine wpList_nil ?_
 replace e2 := hE.g e2
 replace k := k.env hE
 clear hE e0
 refine Z00 ?_
 refine wp_block ?_
 replace O : OwnT _ _ ((tBlk bs 9 #[.string (sB s)]) :: (tBlk rb 22 #[.slice none 0 0]) :: R) w6 := O
 replace O := OwnT.txsNil (OwnT.nilRow O 36 1)
 replace O : OwnT _ _ ((tTxs ([]) ([])) :: (tRow 36 1 (.slice none 0 0) 0 ([])) :: (tBlk bs 9 #[.string (sB s)]) :: (tBlk rb 22 #[.slice none 0 0]) :: R) w6 := O
 replace O : OwnT _ _ ((tRow 36 1 (.slice none 0 0) 0 ([])) :: (tTxs ([]) ([])) :: (tBlk bs 9 #[.string (sB s)]) :: (tBlk rb 22 #[.slice none 0 0]) :: R) w6 := OwnT.pickR (L := [_, _, _, _]) (R := R) O [1, 0, 2, 3] (by decide)
 refine Z5e O k.defers e8 (Go.Proofs.enters_of Tryd.func63 (by kernel_rfl) rfl) ?_
 clear O
 intro fn l' D w0 rec hrec O
 have hr1 : ({ ({ rec .ready none with state := .busy } : Loop) with state := .ready, pending := none } : Loop) = rec .ready none := by simp only [hrec]
 obtain ⟨J, hJ⟩ : ∃ J : Nat → Tx → World → Prop, J = (fun k r w => k ≤ (partL s).length ∧ ∃ Bo co vs, OwnT H A0 ((tObj l' (.loop (rec .ready none))) :: (tDf D) :: (tRow 36 1 (.slice Bo k co) k vs) :: (tTxs vs ((partL s).take k)) :: (tBlk bs 9 #[.string (sB r)]) :: (tBlk rb 22 #[.slice Bo k co]) :: R) w) := ⟨_, rfl⟩
 have h0 : J 0 s w0 := by rw [hJ]; exact ⟨Nat.zero_le _, none, 0, [], by rw [List.take_zero]; exact O⟩
 clear O
 have hc := lines1 (l := l') (bs := bs) (linesL s) J ?hb ?he ?hs ?hy s rfl (by omega) w0 h0
 case hb =>
  intro k r w h; rw [hJ] at h; obtain ⟨_, Bo, co, vs, O⟩ := h
  exact ⟨(OwnT.blk O 4 rfl).cell 0, (OwnT.blk O 4 rfl).frozen 0⟩
 case he =>
  intro k r w w' h X; rw [hJ] at h ⊢; obtain ⟨h1, Bo, co, vs, O⟩ := h
  exact ⟨h1, Bo, co, vs, O.ext X⟩
 case hs =>
  intro k r r' w h; rw [hJ] at h ⊢; obtain ⟨h1, Bo, co, vs, O⟩ := h
  exact ⟨h1, Bo, co, vs, OwnT.push 4 rfl ((OwnT.pull O 4 rfl).set 0 (.string (sB r')))⟩
 case hy =>
  intro q r w x h hx; rw [hJ] at h; obtain ⟨hkm, Bo, co, vs, O⟩ := h
  have hxl := Z2d s.length s (Nat.le_refl _) x (List.mem_of_getElem? hx)
  obtain ⟨htk, hqm⟩ := Z61 hx
  have hpl : (partL s).length ≤ s.length := by unfold partL; rw [List.length_map]; exact Z2e s.length s (Nat.le_refl _)
  obtain ⟨y, hy_⟩ : ∃ y, Lib.trimSuffix x [10] = y := ⟨_, rfl⟩
  have hyl := Z2l x [10]
  rw [hy_] at hyl
  obtain ⟨P, hP⟩ : ∃ P, splL y = P := ⟨_, rfl⟩
  have hPl := Z80 y
  have hPm := spl_mem y
  rw [hP] at hPl hPm
  have hcell := Z7v (x := x) (P := P) (by rw [hy_]; exact hP)
  have hy := run_yield (P := Tryd.prog) (args := #[.string (sB x)]) O.t0 (by rw [hrec]; rfl)
  refine ⟨_, _, _, _, hy, ?_⟩
  clear hy
  rw [show (rec .ready none).fn = fn by rw [hrec], show (rec .ready none).params = #[9] by rw [hrec], show (rec .ready none).tmps = _ by rw [hrec], show (rec .ready none).assign = _ by rw [hrec], show (rec .ready none).body = _ by rw [hrec]]
  refine roundIn_of_wpIn trivial ?_
  show Code.wpIn (FR (some l')) 0 _ _ _ _ _
  have hLR : ¬ LetsOut (roundPost Tryd.prog l' fun e w' => e = .returned (.bool true) ∧ J (q + 1) r w') := fun ⟨_, _, h⟩ => h

  have kf := ‹Fr 29 a5›
  refine Z3x (t := 9) (a := a5) kf (by rfl) (G := fun b => Code.wpIn (FR (some l')) 0 _ _ _ b w) ?_
  intro b kb e9 hb
  have f2 := (hb 2 rfl).trans e2
  clear hb kf
  clear e2 e8
  have e2 := f2; clear f2
  revert kb
  intro k
  refine wpIn_region_lit ?_
  have hE := Env.refl b [3]
  refine Z0v rfl hLR ?_
  refine sd 3 hE k (Z01 rfl (hE.g e9)) ?_
  intro a7 hE e3 kp
  refine wpList_nil ?_
  refine Z00 ?_
  refine wpListIn_nil ?_
  replace e2 := hE.g e2
  replace k := k.env hE
  clear hE e9
  refine Z00 ?_
  refine begin_F O (by simp only [hrec]) ?_
  clear O
  intro w8 O
  replace O : OwnT _ _ ((tObj l' (.loop { rec .ready none with state := .busy })) :: (tDf D) :: (tRow 36 1 (.slice Bo q co) q vs) :: (tTxs vs ((partL s).take q)) :: (tBlk bs 9 #[.string (sB r)]) :: (tBlk rb 22 #[.slice Bo q co]) :: R) w8 := O
  obtain ⟨PT, hPT⟩ : ∃ z, (partL s).take q = z := ⟨_, rfl⟩
  rw [hPT] at O htk
  replace O : OwnT _ _ ((tObj l' (.loop { rec .ready none with state := .busy })) :: (tDf D) :: (tRow 36 1 (.slice Bo q co) q vs) :: (tTxs vs PT) :: (tBlk bs 9 #[.string (sB r)]) :: (tBlk rb 22 #[.slice Bo q co]) :: R) w8 := O
  refine wpIn_block ?_
  refine wpIn_seq ?_
  refine wpIn_region_lit ?_
  have hE := Env.refl a7 [4]
  refine Z0v rfl hLR ?_
  refine sd 4 hE k (Z01 rfl rfl) ?_
  intro a9 hE e4 kp
  refine wpList_nil ?_
  refine Z00 ?_
  refine wpListIn_nil ?_
  replace e2 := hE.g e2; replace e3 := hE.g e3
  replace k := k.env hE
  clear hE
  refine Z00 ?_
  refine wpIn_seq ?_
  refine wpIn_seq ?_
  refine wpIn_region_lit ?_
  have hE := Env.refl a9 [10, 11, 12, 13, 14]
  refine Z0v rfl hLR ?_
  refine zm 10 hE k e3 ?_
  intro a10 hE e10 kp
  refine wpList_nil ?_
  refine Z00 ?_
  refine Z0v rfl hLR ?_
  apply Z08 11 hE k rfl (by rfl) (by rfl) rfl
  case h =>
   simp [go_sem, ↓IntWalk.iteOmega, ev e10]
   with_reducible exact ⟨rfl, rfl⟩
  case hc => exact Z72 x _ (by omega)
  rintro e _ ⟨rfl, rfl⟩
  refine ⟨_, by rw [hy_], ?_⟩
  intro a11 hE e11 kp
  refine wpList_nil ?_
  refine Z00 ?_
  refine Z0v rfl hLR ?_
  apply Z08 12 hE k rfl (by rfl) (by rfl) rfl
  case h =>
   simp [go_sem, ↓IntWalk.iteOmega, ev e11]
   with_reducible exact ⟨rfl, rfl⟩
  case hc => exact Z5r y O (by omega) (hvar _ O.below)
  clear O
  rintro e w13 ⟨gs, he, O⟩
  rw [hP] at he O
  refine ⟨_, he, ?_⟩
  intro a12 hE e12 kp
  refine wpList_nil ?_
  refine Z00 ?_
  refine Z0v rfl hLR ?_
  refine sd 13 hE k (Z0d Tryd.underlying36 rfl e12) ?_
  intro a14 hE e13 kp
  replace e12 := kt kp e12
  refine wpList_nil ?_
  refine Z00 ?_
  refine Z0v rfl hLR ?_
  refine sd 14 hE k (Z02 rfl rfl) ?_
  intro a15 hE e14 kp
  replace e12 := kt kp e12; replace e13 := kt kp e13
  refine wpList_nil ?_
  refine Z00 ?_
  refine wpListIn_nil ?_
  replace e2 := hE.g e2; replace e4 := hE.g e4
  replace k := k.env hE
  clear hE e3
  refine Z00 ?_
  refine wpIn_block ?_
  replace O := OwnT.nilRow O 9 1
  refine wpIn_loop (fun a w => Fr 29 a ∧ a.eval (.tmp 2) = .pointer (some ⟨rb, 0, none⟩) ∧ a.eval (.tmp 12) = .slice (some ⟨gs, 0, none⟩) P.length P.length ∧ a.eval (.tmp 13) = .int .i64 ↑P.length ∧ ∃ (j : Nat) (Bi : Option Addr) (ci : Nat), a.eval (.tmp 4) = .slice Bi j ci ∧ a.eval (.tmp 14) = .int .i64 ↑j ∧ j ≤ P.length ∧ OwnT H A0 ((tRow 9 1 (.slice Bi j ci) j (txV ((P.take j).map (fun c => Lib.trimRightB c 32)))) :: (tBlk gs 9 (txV P).toArray) :: (tObj l' (.loop { rec .ready none with state := .busy })) :: (tDf D) :: (tRow 36 1 (.slice Bo q co) q vs) :: (tTxs vs PT) :: (tBlk bs 9 #[.string (sB r)]) :: (tBlk rb 22 #[.slice Bo q co]) :: R) w) (fun a w => P.length - (intOf (a.eval (.tmp 14))).toNat) ?_ ?_
  · exact ⟨k, e2, e12, e13, 0, none, 0, e4, e14, Nat.zero_le _, O⟩
  intro a16 w17 hI
  clear k e2 e12 e13
  obtain ⟨k, e2, e12, e13, h_⟩ := hI
  clear O e4 e14
  obtain ⟨j, Bi, ci, e4, e14, hj, O⟩ := h_
  have mj := e14

  by_cases hlj : j < P.length
  · skip
    have hzJ : (j : Int) < (P.length : Int) := by omega
    obtain ⟨p, hp⟩ : ∃ p, P[j]? = some p := ⟨_, List.getElem?_eq_getElem hlj⟩
    have hpl2 := hPm p (List.mem_of_getElem? hp)
    have cp : w17.cell? ⟨gs, j, none⟩ = some (.string (sB p)) := by
     rw [(OwnT.blk O 1 rfl).cell j]
     unfold txV
     rw [List.getElem?_toArray, List.getElem?_map, hp]
     rfl

    refine wpIn_seq ?_
    refine wpIn_region_lit ?_
    have hE := Env.refl a16 [15]
    refine Z0v rfl hLR ?_
    refine sd 15 hE k (Z06 (Z0j rfl (hE.g e14) (hE.g e13)) (decide_eq_true (by omega))) ?_
    intro a18 hE e15 kp
    refine wpList_nil ?_
    refine Z00 ?_
    refine wpListIn_nil ?_
    replace e2 := hE.g e2; replace e4 := hE.g e4; replace e12 := hE.g e12; replace e13 := hE.g e13; replace e14 := hE.g e14
    replace k := k.env hE
    clear hE
    refine Z00 ?_
    refine wpIn_seq ?_
    refine condR_t e15 rfl ?_
    refine wpIn_skip ?_
    refine Z00 ?_
    refine wpIn_seq ?_
    refine wpIn_block ?_
    refine wpIn_seq ?_
    refine wpIn_region_lit ?_
    have hE := Env.refl a18 [16, 17, 6]
    refine Z0v rfl hLR ?_
    apply Z05 16 hE k rfl rfl rfl rfl
    case h =>
     simp [go_sem, ↓IntWalk.iteOmega, ev (hE.g e12), ev (hE.g e14)]
     with_reducible rfl
    intro a19 hE e16 kp
    refine wpList_nil ?_
    refine Z00 ?_
    refine Z0v rfl hLR ?_
    apply Z05 17 hE k rfl rfl rfl rfl
    case h =>
     simp [go_sem, ↓IntWalk.iteOmega, ev e16, cp, Nat.zero_add]
     with_reducible rfl
    intro a20 hE e17 kp
    refine wpList_nil ?_
    refine Z00 ?_
    refine Z0v rfl hLR ?_
    refine sd 6 hE k (Z01 rfl e17) ?_
    intro a21 hE e6 kp
    refine wpList_nil ?_
    refine Z00 ?_
    refine wpListIn_nil ?_
    replace e2 := hE.g e2; replace e4 := hE.g e4; replace e12 := hE.g e12; replace e13 := hE.g e13; replace e14 := hE.g e14
    replace k := k.env hE
    clear hE e15
    refine Z00 ?_
    refine wpIn_region_lit ?_
    have hE := Env.refl a21 [18, 19, 20, 21, 22, 4]
    refine Z0v rfl hLR ?_
    refine sd 18 hE k (Z02 rfl e4) ?_
    intro a22 hE e18 kp
    replace e4 := kt kp e4
    refine wpList_nil ?_
    refine Z00 ?_
    refine Z0v rfl hLR ?_
    refine zm 19 hE k e6 ?_
    intro a23 hE e19 kp
    replace e4 := kt kp e4; replace e18 := kt kp e18
    refine wpList_nil ?_
    refine Z00 ?_
    refine Z0v rfl hLR ?_
    apply Z08 20 hE k rfl (by rfl) (by rfl) rfl
    case h =>
     simp [go_sem, ↓IntWalk.iteOmega, ev e19]
     with_reducible exact ⟨rfl, rfl⟩
    case hc => exact Z73 p _ (by omega)
    rintro e _ ⟨rfl, rfl⟩
    refine ⟨_, rfl, ?_⟩
    intro a24 hE e20 kp
    replace e4 := kt kp e4; replace e18 := kt kp e18
    refine wpList_nil ?_
    refine Z00 ?_
    refine Z0v rfl hLR ?_
    refine Z16 (m := 1) (c := 1) O (cs := #[.string (sB (Lib.trimRightB p 32))]) (t := 9) 21 hE k rfl (by rfl) (by rfl) rfl (by simp [go_sem, ↓IntWalk.iteOmega, ev e20]) ?_
    clear O
    intro gn a25 w26 O hE e21 kp
    replace e4 := kt kp e4; replace e18 := kt kp e18
    refine wpList_nil ?_
    refine Z00 ?_
    refine Z0v rfl hLR ?_
    obtain ⟨gr, cr, w27, hrun, O⟩ := Z38 O elemTx (by decide) rfl (by intro u hu; simp at hu; subst hu; rfl) (by unfold maxLen; omega) (by omega)
    apply Z14 22 hE k rfl (by rfl) (by rfl) rfl
    case h => exact Z1o rfl e18 e21 (hrun _)
    clear hrun
    intro a28 hE e22 kp
    replace e4 := kt kp e4
    refine wpList_nil ?_
    refine Z00 ?_
    refine Z0v rfl hLR ?_
    refine sd 4 hE k (Z01 rfl e22) ?_
    intro a29 hE e4 kp
    refine wpList_nil ?_
    refine Z00 ?_
    refine wpListIn_nil ?_
    replace e2 := hE.g e2; replace e12 := hE.g e12; replace e13 := hE.g e13; replace e14 := hE.g e14
    replace k := k.env hE
    clear hE e6
    refine Z0i ?_
    refine Z00 ?_
    replace O : OwnT H A0 ((tRow 9 1 (.slice (some ⟨gr, 0, none⟩) (j + 1) cr) (j + 1) (txV ((P.take (j + 1)).map (fun c => Lib.trimRightB c 32)))) :: (tBlk gs 9 (txV P).toArray) :: (tObj l' (.loop { rec .ready none with state := .busy })) :: (tDf D) :: (tRow 36 1 (.slice Bo q co) q vs) :: (tTxs vs PT) :: (tBlk bs 9 #[.string (sB r)]) :: (tBlk rb 22 #[.slice Bo q co]) :: R) w27 := by rw [Z7h hp, Z5k]; exact O
    refine wpIn_region_lit ?_
    have hE := Env.refl a29 [23, 14]
    refine Z0v rfl hLR ?_
    refine sd 23 hE k (Z0z rfl e14 rfl (by omega)) ?_
    intro a30 hE e23 kp
    replace e14 := kt kp e14
    refine wpList_nil ?_
    refine Z00 ?_
    refine Z0v rfl hLR ?_
    refine sd 14 hE k (Z02 rfl e23) ?_
    intro a31 hE e14 kp
    refine wpList_nil ?_
    refine Z00 ?_
    refine wpListIn_nil ?_
    replace e2 := hE.g e2; replace e4 := hE.g e4; replace e12 := hE.g e12; replace e13 := hE.g e13
    replace k := k.env hE
    clear hE
    refine Z00 ?_
    refine ⟨⟨k, e2, e12, e13, j + 1, some ⟨gr, 0, none⟩, cr, e4, e14, by omega, O⟩, ?_⟩
    rw [e14, mj]; simp only [intOf]; omega
  · have hzJ : ¬ (j : Int) < (P.length : Int) := by omega
    have hj2 : j = P.length := by omega
    obtain ⟨M, hM⟩ : ∃ M, cellsL x = M := ⟨_, rfl⟩
    rw [hM] at hcell htk
    have hMl : M.length = j := by rw [hcell, List.length_map, hj2]
    rw [List.take_of_length_le (show P.length ≤ j by omega), ← hcell, ← hMl] at O
    rw [← hMl] at e4

    replace O : OwnT _ _ ((tRow 9 1 (.slice Bi M.length ci) M.length (txV M)) :: (tBlk gs 9 (txV P).toArray) :: (tObj l' (.loop { rec .ready none with state := .busy })) :: (tDf D) :: (tRow 36 1 (.slice Bo q co) q vs) :: (tTxs vs PT) :: (tBlk bs 9 #[.string (sB r)]) :: (tBlk rb 22 #[.slice Bo q co]) :: R) w17 := O
    refine wpIn_seq ?_
    refine wpIn_region_lit ?_
    have hE := Env.refl a16 [15]
    refine Z0v rfl hLR ?_
    refine sd 15 hE k (Z06 (Z0j rfl (hE.g e14) (hE.g e13)) (decide_eq_false (by omega))) ?_
    intro a32 hE e15 kp
    refine wpList_nil ?_
    refine Z00 ?_
    refine wpListIn_nil ?_
    replace e2 := hE.g e2; replace e4 := hE.g e4; replace e12 := hE.g e12; replace e13 := hE.g e13; replace e14 := hE.g e14
    replace k := k.env hE
    clear hE
    refine Z00 ?_
    refine wpIn_seq ?_
    refine condR_f e15 rfl ?_
    refine wpIn_exit ?_
    refine Z0f ?_
    refine Z0f ?_
    refine Z0n ?_
    refine Z00 ?_
    replace O : OwnT _ _ ((tRow 36 1 (.slice Bo q co) q vs) :: (tRow 9 1 (.slice Bi M.length ci) M.length (txV M)) :: (tTxs vs PT) :: (tObj l' (.loop { rec .ready none with state := .busy })) :: (tDf D) :: (tBlk bs 9 #[.string (sB r)]) :: (tBlk rb 22 #[.slice Bo q co]) :: R) w17 := OwnT.pickR (L := [_, _, _, _, _, _, _, _]) (R := R) O [4, 0, 5, 2, 3, 6, 7] (by decide)
    refine wpIn_region_lit ?_
    have hE := Env.refl a32 [24, 25, 26, 27]
    refine Z0v rfl hLR ?_
    apply Z05 24 hE k rfl rfl rfl rfl
    case h =>
     have q0 : w17.cell? ⟨rb, 0, none⟩ = some (.slice Bo q co) := (OwnT.blk O 6 rfl).cell 0
     simp [go_sem, ↓IntWalk.iteOmega, ev (hE.g e2), q0]
     with_reducible rfl
    intro a33 hE e24 kp
    refine wpList_nil ?_
    refine Z00 ?_
    refine Z0v rfl hLR ?_
    refine zm 25 hE k e4 ?_
    intro a34 hE e25 kp
    replace e24 := kt kp e24
    refine wpList_nil ?_
    refine Z00 ?_
    refine Z0v rfl hLR ?_
    refine Z16 (m := 1) (c := 1) O (cs := #[.slice Bi M.length ci]) (t := 36) 26 hE k rfl (by rfl) (by rfl) rfl (by simp [go_sem, ↓IntWalk.iteOmega, ev e25]) ?_
    clear O
    intro gm a35 w36 O hE e26 kp
    replace e24 := kt kp e24
    refine wpList_nil ?_
    refine Z00 ?_
    refine Z0v rfl hLR ?_
    obtain ⟨go, cq, w37, hrun, O⟩ := Z38 O elemTxs (by decide) rfl (by intro u hu; simp at hu; subst hu; rfl) (by unfold maxLen; omega) (by omega)
    apply Z14 27 hE k rfl (by rfl) (by rfl) rfl
    case h => exact Z1o rfl e24 e26 (hrun _)
    clear hrun
    intro a38 hE e27 kp
    refine wpList_nil ?_
    refine Z00 ?_
    refine Z0v rfl hLR ?_
    have q0 : w37.cell? ⟨rb, 0, none⟩ = some (.slice Bo q co) := (OwnT.blk O 6 rfl).cell 0
    have q1 : w37.frozen? ⟨rb, 0, none⟩ = false := (OwnT.blk O 6 rfl).frozen 0
    refine Z4f (off := 0) (v := .slice (some ⟨go, 0, none⟩) ((q + 1)) cq) O 6 rfl hE rfl rfl (by simp [go_sem, ↓IntWalk.iteOmega, ev (hE.g e2), ev e27, q0, q1]) ?_
    clear q0 q1
    clear O
    intro w39 O
    replace O : OwnT _ _ ((tRow 36 1 (.slice (some ⟨go, 0, none⟩) ((q + 1)) cq) (q + 1) (vs ++ [Value.slice Bi M.length ci])) :: (tRow 9 1 (.slice Bi M.length ci) M.length (txV M)) :: (tTxs vs PT) :: (tObj l' (.loop { rec .ready none with state := .busy })) :: (tDf D) :: (tBlk bs 9 #[.string (sB r)]) :: (tBlk rb 22 #[.slice (some ⟨go, 0, none⟩) ((q + 1)) cq]) :: R) w39 := O
    refine wpList_nil ?_
    refine Z00 ?_
    refine wpListIn_nil ?_
    replace e2 := hE.g e2
    replace k := k.env hE
    clear hE e4 e12 e13 e14 e15 e27
    refine Z0i ?_
    replace O : OwnT _ _ ((tRow 9 1 (.slice Bi M.length ci) M.length (txV M)) :: (tTxs vs PT) :: (tObj l' (.loop { rec .ready none with state := .busy })) :: (tDf D) :: (tRow 36 1 (.slice (some ⟨go, 0, none⟩) ((q + 1)) cq) (q + 1) (vs ++ [Value.slice Bi M.length ci])) :: (tBlk bs 9 #[.string (sB r)]) :: (tBlk rb 22 #[.slice (some ⟨go, 0, none⟩) ((q + 1)) cq]) :: R) w39 := OwnT.pickR (L := [_, _, _, _, _, _, _]) (R := R) O [1, 2, 3, 4, 0, 5, 6] (by decide)
    replace O := OwnT.txsAdd O
    replace O : OwnT _ _ ((tTxs (vs ++ [Value.slice Bi M.length ci]) (PT ++ [M])) :: (tObj l' (.loop { rec .ready none with state := .busy })) :: (tDf D) :: (tRow 36 1 (.slice (some ⟨go, 0, none⟩) ((q + 1)) cq) (q + 1) (vs ++ [Value.slice Bi M.length ci])) :: (tBlk bs 9 #[.string (sB r)]) :: (tBlk rb 22 #[.slice (some ⟨go, 0, none⟩) ((q + 1)) cq]) :: R) w39 := O
    replace O : OwnT _ _ ((tObj l' (.loop { rec .ready none with state := .busy })) :: (tDf D) :: (tRow 36 1 (.slice (some ⟨go, 0, none⟩) ((q + 1)) cq) (q + 1) (vs ++ [Value.slice Bi M.length ci])) :: (tTxs (vs ++ [Value.slice Bi M.length ci]) (PT ++ [M])) :: (tBlk bs 9 #[.string (sB r)]) :: (tBlk rb 22 #[.slice (some ⟨go, 0, none⟩) ((q + 1)) cq]) :: R) w39 := OwnT.pickR (L := [_, _, _, _, _, _]) (R := R) O [1, 2, 3, 0, 4, 5] (by decide)
    refine end_n O ?_
    clear O
    intro w' O; rw [hr1] at O
    refine ⟨rfl, ?_⟩
    rw [hJ]
    exact ⟨by omega, some ⟨go, 0, none⟩, cq, vs ++ [Value.slice Bi M.length ci], by rw [htk]; exact O⟩
 refine Calls.mono hc ?_
 clear hc h0
 rintro e w3 ⟨hv, hw⟩
 refine ⟨hv, ?_⟩
 clear hv
 rw [hJ] at hw; obtain ⟨-, Bo, co, vs, O⟩ := hw
 have hPL : (linesL s).length = (partL s).length := by unfold partL; rw [List.length_map]
 rw [hPL, List.take_length] at O
 refine ⟨.ready, none, _, by decide, O, ?_⟩
 clear O
 intro w4 O
 replace O : OwnT _ _ ((tDf D) :: (tRow 36 1 (.slice Bo ((partL s).length) co) ((partL s).length) vs) :: (tTxs vs ((partL s))) :: (tBlk bs 9 #[.string (sB ([]))]) :: (tBlk rb 22 #[.slice Bo ((partL s).length) co]) :: R) w4 := O
 refine Z0i ?_
 refine Z00 (wp_seq ?_)
 refine Z4z (fun h => hL h) ?_
 have hE := Env.refl a5 [28]
 apply Z05 28 hE k rfl rfl rfl rfl
 case h =>
  have q0 : w4.cell? ⟨rb, 0, none⟩ = some (.slice Bo ((partL s).length) co) := (OwnT.blk O 4 rfl).cell 0
  simp [go_sem, ↓IntWalk.iteOmega, ev (hE.g e2), q0]
  with_reducible rfl
 intro a40 hE e28 kp
 have q0 : w4.cell? ⟨rb, 0, none⟩ = some (.slice Bo ((partL s).length) co) := (OwnT.blk O 4 rfl).cell 0
 have q1 : w4.frozen? ⟨rb, 0, none⟩ = false := (OwnT.blk O 4 rfl).frozen 0
 refine Z4f (off := 0) (v := .slice Bo ((partL s).length) co) O 4 rfl hE rfl rfl (by simp [go_sem, ↓IntWalk.iteOmega, ev (hE.g e2), ev e28, q0, q1]) ?_
 clear q0 q1
 clear O
 intro w41 O
 replace O : OwnT _ _ ((tDf D) :: (tRow 36 1 (.slice Bo ((partL s).length) co) ((partL s).length) vs) :: (tTxs vs ((partL s))) :: (tBlk bs 9 #[.string (sB ([]))]) :: (tBlk rb 22 #[.slice Bo ((partL s).length) co]) :: R) w41 := O
 refine wpList_nil ?_
 replace e2 := hE.g e2
 replace k := k.env hE
 clear hE e8 e28
 refine Z00 ?_
 refine wp_ret ?_
 replace O : OwnT _ _ ((tDf D) :: (tRow 36 1 (.slice Bo ((partL s).length) co) ((partL s).length) vs) :: (tTxs vs ((partL s))) :: (tBlk rb 22 #[.slice Bo ((partL s).length) co]) :: R) w41 := OwnT.pickR (L := [_, _, _, _, _]) (R := R) O [0, 1, 2, 4] (by decide)
 refine ret_M k O ?_
 clear O
 intro w5 O
 have q6 : (loadVar 22 ⟨rb, 0, none⟩).run Tryd.prog w5 = .ok (.slice Bo ((partL s).length) co) w5 := by
  have hq : w5.cell? ⟨rb, 0, none⟩ = some (.slice Bo ((partL s).length) co) := (OwnT.blk O 2 rfl).cell 0
  simp [go_sem, ↓IntWalk.iteOmega, hq]
 refine ⟨_, res_C1 rfl e2 q6, Bo, co, vs, rfl, ?_⟩
 exact OwnT.pickR (L := [_, _, _]) (R := R) O [0, 1] (by decide)
end Go.Proofs.YtgdlnfljfiageaaDoor
