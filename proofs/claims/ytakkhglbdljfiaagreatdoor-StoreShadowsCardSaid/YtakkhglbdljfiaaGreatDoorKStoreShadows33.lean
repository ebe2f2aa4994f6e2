/- The library's contracts that this proof uses, laid by the kit's own tool at this translation (plain words). -/
import Derived.Shelf.SlIterI.Nil
import Derived.Shelf.SortM.Plain
import Derived.Shelf.SortM.SortNone
import Derived.Ground.GgzProg
import Derived.Ground.SlgmProg
import Derived.Test.YtakkhglbdljfiaaGreatDoorProg
import Derived.Test.YtakkhglbdljfiaaGreatDoorKStoreShadows32
namespace Go.Proofs
open Go.Shelf
def Tryz.keysF_ren : Go.Shelf.Ren := ⟨fun | 7 => 92 | 10 => 115 | n => n, fun | 23 => 100 | 26 => 3 | 3 => 47 | 28 => 126 | 0 => 0 | 27 => 125 | 33 => 95 | 4 => 4 | n => n, fun | n => n⟩
theorem Tryz.keysF : Go.Proofs.SlLaysZI.n7 Tryz.prog Tryz.keysF_ren := {
  mixed := by kernel_rfl
  f7 := ⟨Tryz.f92.name, by decide, Tryz.func92.trans (congrArg some (by kernel_rfl))⟩
  f10 := ⟨Tryz.f115.name, by decide, Tryz.func115.trans (congrArg some (by kernel_rfl))⟩
  t0 := Tryz.underlying0
  a0 := Tryz.isAgg0
  z0 := Tryz.sizeOf0
  v0 := Tryz.zeroValue0
  t4 := Tryz.underlying4
  a4 := Tryz.isAgg4
  z4 := Tryz.sizeOf4
  v4 := Tryz.zeroValue4
  t23 := Tryz.underlying100
  a23 := Tryz.isAgg100
  z23 := Tryz.sizeOf100
  v23 := Tryz.zeroValue100
  t26 := Tryz.underlying3
  a26 := Tryz.isAgg3
  z26 := Tryz.sizeOf3
  v26 := Tryz.zeroValue3
  t27 := Tryz.underlying125
  a27 := Tryz.isAgg125
  z27 := Tryz.sizeOf125
  v27 := Tryz.zeroValue125
  t28 := Tryz.underlying126
  a28 := Tryz.isAgg126
  z28 := Tryz.sizeOf126
  v28 := Tryz.zeroValue126
  t33 := Tryz.underlying95
  a33 := Tryz.isAgg95
  z33 := Tryz.sizeOf95
  v33 := Tryz.zeroValue95 }
end Go.Proofs

/- store: sorted keys, write (printed by XStE.gen.py). -/
namespace Go.Proofs.YtakkhglbdljfiaaGreatDoor
attribute [local simp] BigFrame.eval_const BigFrame.eval_global BigFrame.eval_func
set_option linter.unusedVariables false
set_option linter.unusedSimpArgs false
open Go.RowKit Go.Maps Go.Sort

/-- The new pages in rising order, in a row of one's own. -/
theorem skeys_any {H : Nat} {A0 : World} {R : List Thing} {fb : Nat} (w : World) (O : OwnT H A0 R w) : Calls Tryz.prog 92 #[.map (some fb)] w fun e w' => ∃ bx, e = .returned (.func (.func 115) #[] #[.pointer (some ⟨bx, 0, none⟩)]) ∧ OwnT H A0 (tBlk bx 100 #[.map (some fb)] :: R) w' := by
 have h := (callsIn_wide (n := 5)).1 (AnyZI.keys_in Tryz.keysF Fence.wide 5 trivial rfl (some fb) w)
 refine h.mono ?_
 rintro e w' ⟨rfl, rfl⟩
 exact ⟨w.heap.size, rfl, O.new _ _⟩
theorem sortsS (m : Nat) : AnyZI.SortsIn Tryz.prog Tryz.sortedD_ren Fence.wide m :=
 ⟨fun blk off cap ss W hH hblk hsz => callsIn_wide.2 (AnyM.slices_Sort_int Tryz.sortD blk off cap ss W hH hblk hsz),
  fun p cap W => callsIn_wide.2 (AnyM.slices_Sort_int_none Tryz.sortD p cap W)⟩
theorem enc_mapI (l : List Int) : l.map encZ = l.map (Value.int .i64) := rfl
theorem Z78 {H : Nat} {A0 : World} {R : List Thing} {fb bx : Nat} {m : Int → Option Value} {ks : List Int} (w : World) (O : OwnT H A0 R w) (hm : VM w fb 512 m) (hb : w.cell? ⟨bx, 0, none⟩ = some (.map (some fb))) (hbl : bx < w.heap.size) (hnd : ks.Nodup) (hs : ks.mergeSort leI = ks) (hL : ∀ x, x ∈ ks ↔ wfV x ∧ (m x).isSome = true) :
 Calls Tryz.prog 72 #[.func (.func 115) #[] #[.pointer (some ⟨bx, 0, none⟩)]] w fun e w' => ∃ B' cap', e = .returned (.slice B' ks.length cap') ∧ OwnT H A0 (tRow 3 1 (.slice B' ks.length cap') ks.length (ks.map (Value.int .i64)) :: R) w' ∧ Ext w w' := by
 obtain ⟨D, hown, hD⟩ := hm
 have hsz := hown.size_le
 have hp := Z3m hown hD ks hnd hL
 have hseq := AnyZI.keys_gives (ρ := Tryz.keysF_ren) { Tryz.keysF with } Fence.wide 2 trivial rfl (by omega) bx fb 512 D w hbl hb hown
 have cS := AnyZI.sorted_in Tryz.sortedD Fence.wide 5 trivial trivial trivial trivial rfl (by omega) (sortsS _) (enters_of Tryz.func103 (by kernel_rfl) rfl) 115 #[.pointer (some ⟨bx, 0, none⟩)] trivial (enters_of Tryz.func115 (by kernel_rfl) rfl) _ _ (by unfold maxLen; omega) (by omega) _ hseq
 refine ((callsIn_wide (n := 5)).1 cS).mono ?_
 rintro e w' ⟨v, ss, rfl, hperm, hrow, hnil, hE⟩
 have h1 : ss.mergeSort (fun x y => decide (x ≤ y)) = ks := by
  have h1 := mergeSort_of_perm_i (hperm.trans hp.symm)
  rw [hs] at h1
  exact h1
 have h2 : ss.length = ks.length := (hperm.trans hp.symm).length_eq
 rw [h1, h2, enc_mapI] at hrow
 obtain ⟨B', cap', rfl⟩ := row_slice hrow
 exact ⟨B', cap', rfl, O.newRow hE hrow, hE⟩
theorem row1_ofS {E : Type} (f : E → Value) {w : World} {base n cap : Nat} {T : TypeId} {B : Option Addr} {X : List E} (h : w.ownsRow base T 1 (.slice B n cap) n (X.map f)) : Row1 w B f X := by
 have hf : X.map f = X.flatMap fun x => [f x] := by
  induction X with
  | nil => rfl
  | cons x r ih => rw [List.map_cons, List.flatMap_cons]; congr 1; clear ih h; induction r with | nil => rfl | cons y q ih => rw [List.map_cons, List.flatMap_cons, ih]; rfl
 rw [hf] at h
 intro i x hx
 obtain ⟨b, o, e, hlt, hc⟩ := rowE_of (enc := fun x => [f x]) (fun _ => rfl) (by decide) h i x hx
 refine ⟨b, o, e, hlt, ?_⟩
 have := hc 0 _ rfl
 rwa [Nat.mul_one, Nat.add_zero] at this
/-! What write writes. -/
def pgB (nd : Nd) : List UInt8 := sealL (leafL nd.1 nd.2)
def stepF (F : Int → Option Nd) (L : Int → Option Sec) (c : Int) : Int → Option Sec := match F c with
 | some nd => wrS (pgB nd) (16 * c) L 16
 | none => L
def wrF (F : Int → Option Nd) (L : Int → Option Sec) (l : List Int) : Int → Option Sec := l.foldl (stepF F) L
theorem wrF_snoc (F : Int → Option Nd) (L : Int → Option Sec) (l : List Int) (c : Int) : wrF F L (l ++ [c]) = stepF F (wrF F L l) c := by
 unfold wrF
 rw [List.foldl_append]
 rfl
def todo (P : Nat) (F : Int → Option Nd) (xs : List Int) : List Int := (fL P F).filter fun c => decide (c ∈ xs)
/-- What may be loose of pages. -/
def Pend (F : Int → Option Nd) (td : List Int) (L L' : Int → Option Sec) : Prop := ∀ i s, L' i = some s → L i = some s ∨ ∃ c nd, c ∈ td ∧ F c = some nd ∧ 16 * c ≤ i ∧ i < 16 * c + 16
theorem Pend.refl (F : Int → Option Nd) (td : List Int) (L : Int → Option Sec) : Pend F td L L := fun _ _ h => .inl h
theorem Pend.wr {F : Int → Option Nd} {td : List Int} {L L' : Int → Option Sec} (h : Pend F td L L') {c : Int} {nd : Nd} (hc : c ∈ td) (hF : F c = some nd) {l : List UInt8} {j : Nat} (hj : j ≤ 16) : Pend F td L (wrS l (16 * c) L' j) := by
 intro i s hs
 rw [Z3q] at hs
 split at hs
 · rename_i hi
   exact .inr ⟨c, nd, hc, hF, hi.1, by omega⟩
 · exact h i s hs
theorem Pend.wrF {F : Int → Option Nd} {td : List Int} {L : Int → Option Sec} : ∀ (l : List Int) (L' : Int → Option Sec), Pend F td L L' → (∀ c ∈ l, c ∈ td) → Pend F td L (wrF F L' l)
 | [], _, h, _ => h
 | c :: r, L', h, hl => by
  refine Pend.wrF r (stepF F L' c) ?_ (fun x hx => hl x (List.mem_cons_of_mem _ hx))
  unfold stepF
  cases hF : F c with
  | none => exact h
  | some nd => exact h.wr (hl c (List.mem_cons_self ..)) hF (Nat.le_refl _)
theorem Z41 (M : Mn) (a : Nat) : ∀ b, (M.useN a).useN b = M.useN (a + b)
 | 0 => rfl
 | b + 1 => by show ((M.useN a).useN b).use = (M.useN (a + b)).use; rw [Z41 M a b]
theorem Z23 {M : Mn} {a : Nat} (h : ¬ (M.useN a).Free) : ¬ M.Free := fun h2 => h (h2.useN a)
theorem pgB_len {nd : Nd} (hg : goodB nd.1 nd.2 = true) (hx : ∀ x ∈ nd.2, x.1 < 18446744073709551616 ∧ x.2 < 18446744073709551616) : (pgB nd).length = 256 := by
 obtain ⟨h1, h2, h3, h4⟩ := Z6l nd.1 nd.2 hg hx (pgB nd) rfl
 cases Nat.decEq (pgB nd).length 256 with
 | isTrue h => exact h
 | isFalse h =>
  rw [Z30 _ (fun e => h e.1)] at h4
  cases h4
section
variable {H : Nat} {A0 : World} {R : List Thing} {p mb n cap bm : Nat} {B : Option Addr} {S : List Sec} {L : Int → Option Sec} {M : Mn} {c0 : Int}
/-- A write, whatever comes. -/
theorem Z2n (x : Int) (l : List UInt8) (q : Nat) (w : World) (O : OwnT H A0 (tDisc p mb B n cap bm S L :: tMn mb M :: R) w) (hl : l.length = 16 * q) (hq : q ≤ 100) (hf : fitsB n x (q : Nat) = true) (hM : M.Ok c0) (hc : c0 ≤ 1000000000000) :
 Calls Tryz.prog 44 #[.pointer (some ⟨p, 0, none⟩), .int .i64 x, .string (sB l)] w fun e w' => ∃ (c : Int) (L' : Int → Option Sec) (j : Nat), e = .returned (.int .i64 c) ∧ j ≤ q ∧ OwnT H A0 (tDisc p mb B n cap bm S L' :: tMn mb (M.useN j) :: R) w' ∧ ((c = 0 ∧ L' = wrS l x L q ∧ j = q) ∨ (c = 4 ∧ ¬ M.Free ∧ ∃ i, i < q ∧ L' = wrS l x L i)) := by
 have hd : l.length / 16 = q := by omega
 refine (dwrite_go x l w O (by omega) (by omega) (by rw [hd]; exact hf) hM hc).mono ?_
 rw [hd]
 rintro e w' ⟨j, hj, hup, ⟨rfl, rfl, O⟩ | ⟨hlt, hu, rfl, O⟩⟩
 · exact ⟨0, _, j, rfl, Nat.le_refl _, O, .inl ⟨rfl, rfl, rfl⟩⟩
 · exact ⟨4, _, j + 1, rfl, hlt, O, .inr ⟨rfl, (fun h => by rw [(h.useN j).up] at hu; cases hu), j, hlt, rfl⟩⟩
theorem Z2o (w : World) (O : OwnT H A0 (tDisc p mb B n cap bm S L :: tMn mb M :: R) w) (hM : M.Ok c0) (hc : c0 ≤ 1000000000000) :
 Calls Tryz.prog 45 #[.pointer (some ⟨p, 0, none⟩)] w fun e w' => ∃ (c : Int) (S' : List Sec) (L' : Int → Option Sec), e = .returned (.int .i64 c) ∧ OwnT H A0 (tDisc p mb B n cap bm S' L' :: tMn mb M.use :: R) w' ∧ ((c = 0 ∧ S' = nowL S L ∧ L' = fun _ => none) ∨ (c = 4 ∧ ¬ M.Free ∧ S' = S ∧ L' = L)) := by
 cases hu : M.up with
 | true =>
  refine (dflush_ok w O hM hc hu).mono ?_
  rintro e w' ⟨rfl, O⟩
  exact ⟨0, _, _, rfl, O, .inl ⟨rfl, rfl, rfl⟩⟩
 | false =>
  refine (Z7u w O hM hc hu).mono ?_
  rintro e w' ⟨rfl, O⟩
  exact ⟨4, _, _, rfl, O, .inr ⟨rfl, (fun h => by rw [h.up] at hu; cases hu), rfl, rfl⟩⟩
end

set_option maxRecDepth 100000 in
set_option maxHeartbeats 4000000 in
theorem Z51 {H : Nat} {A0 : World} {R : List Thing} {sb p kb fb mb n cap bm : Nat} {B : Option Addr} {S : List Sec} {L : Int → Option Sec} {h : Hd} {at_ : Int} {K : Int → Bool} {m : Int → Option Value} {F : Int → Option Nd} {vs : List Value} {N : List Nd} {M : Mn} {A : Option Addr} {ca : Nat} {xs : List Int} {c0 : Int} (w : World) (O : OwnT H A0 (stL sb p h at_ kb fb K m vs N (tDisc p mb B n cap bm S L :: tMn mb M :: R)) w) (ok : StOk (pgs n) K F vs N m) (hrow : ∀ W, OwnT H A0 R W → Row1 W A (Value.int .i64) xs) (hn : xs.length ≤ 1000000) (hM : M.Ok c0) (hc : c0 ≤ 900000000000) : Calls Tryz.prog 59 #[.pointer (some ⟨sb, 0, none⟩), .slice A xs.length ca] w fun e w' => ∃ (c : Int) (S' : List Sec) (L' : Int → Option Sec) (j : Nat), e = .returned (.int .i64 c) ∧ j ≤ 9000 ∧ OwnT H A0 (stL sb p h at_ kb fb K m vs N (tDisc p mb B n cap bm S' L' :: tMn mb (M.useN j) :: R)) w' ∧ ((c = 0 ∧ S' = nowL S (wrF F L (todo (pgs n) F xs)) ∧ L' = fun _ => none) ∨ (c = 4 ∧ ¬ M.Free ∧ S' = S ∧ Pend F (todo (pgs n) F xs) L L')) := by
 have hP := ok.le
 have hdn := (OwnT.disc (OwnT.pull O 4 rfl)).ok.le
 obtain ⟨ks, hks⟩ : ∃ l, fL (pgs n) F = l := ⟨_, rfl⟩
 have hkn : ks.length ≤ 512 := by rw [← hks]; exact Nat.le_trans (Z5v _ _) hP
 have hkm : ∀ x ∈ ks, (1 ≤ x ∧ x < (pgs n : Nat)) ∧ ∃ nd, F x = some nd := fun x hx => by rw [← hks] at hx; have h1 := Z2c.1 hx; obtain ⟨nd, hnd⟩ := Option.isSome_iff_exists.1 h1.2; exact ⟨ok.fr x nd hnd, nd, hnd⟩
 refine Z0c Tryz.func59 rfl 55 rfl (by rfl) ?_
 intro a1 k hargs
 have e0 : a1.eval (.tmp 0) = .pointer (some ⟨sb, 0, none⟩) := hargs 0 _ rfl
 have e1 : a1.eval (.tmp 1) = .slice A xs.length ca := hargs 1 _ rfl
 clear hargs
 refine wp_seq ?_
 refine wp_region_lit ?_
 have hE := Env.refl a1 [4]
 refine sd 4 hE k (Z01 rfl rfl) ?_
 intro a2 hE e4 kp
 refine wpList_nil ?_
 replace e0 := hE.g e0; replace e1 := hE.g e1
 replace k := k.env hE
 clear hE e4
 refine Z00 (wp_seq ?_)
 refine wp_seq ?_
 refine wp_region_lit ?_
 have hE := Env.refl a2 [10, 11, 12, 13, 14, 15, 16, 17]
 refine zm 10 hE k e0 ?_
 intro a3 hE e10 kp
 refine sd 11 hE k (Z0r rfl e10) ?_
 intro a4 hE e11 kp
 apply Z02 12 hE k rfl rfl rfl rfl
 case h =>
  simp [go_sem, ↓IntWalk.iteOmega, ev e11]
  with_reducible rfl
 intro a5 hE e12 kp
 apply Z02 13 hE k rfl rfl rfl rfl
 case h =>
  have q0 : w.cell? ⟨sb, 8, none⟩ = some (.map (some fb)) := (OwnT.blk O 0 rfl).cell 8
  simp [go_sem, ↓IntWalk.iteOmega, ev e12, q0]
  with_reducible rfl
 intro a6 hE e13 kp
 apply Z06 14 hE k rfl (by rfl) (by rfl) rfl
 case h =>
  simp [go_sem, ↓IntWalk.iteOmega, ev e13]
  with_reducible exact ⟨rfl, rfl⟩
 case hc => exact skeys_any _ O
 clear O
 rintro e w8 ⟨bx, rfl, O⟩
 refine ⟨_, rfl, ?_⟩
 intro a7 hE e14 kp
 apply Z06 15 hE k rfl (by rfl) (by rfl) rfl
 case h =>
  simp [go_sem, ↓IntWalk.iteOmega, ev e14]
  with_reducible exact ⟨rfl, rfl⟩
 case hc => exact Z78 (ks := ks) _ O (OwnT.get O 3 rfl) ((OwnT.blk O 0 rfl).cell 0) (OwnT.blk O 0 rfl).lt (hks ▸ Z1p _ _) (hks ▸ Z3t _ _) (hks ▸ fL_mem ok)
 clear O
 rintro e w10 ⟨Bk, ck, rfl, O, RE⟩
 refine ⟨_, rfl, ?_⟩
 intro a9 hE e15 kp
 refine sd 16 hE k (Z2r Tryz.underlying40 rfl e15) ?_
 intro a11 hE e16 kp
 replace e15 := kt kp e15
 refine sd 17 hE k (Z03 rfl rfl) ?_
 intro a12 hE e17 kp
 replace e15 := kt kp e15; replace e16 := kt kp e16
 refine wpList_nil ?_
 replace e0 := hE.g e0; replace e1 := hE.g e1
 replace k := k.env hE
 clear hE
 refine Z00 ?_
 refine wp_block ?_
 replace O : OwnT _ _ ((tRow 3 1 (.slice Bk ks.length ck) ks.length (ks.map (Value.int .i64))) :: (tBlk sb 102 #[.pointer (some ⟨p, 0, none⟩), .int .u64 h.g, .int .i64 h.r, .int .i64 h.a, .int .i64 h.b, .int .i64 h.c, .int .i64 at_, .map (some kb), .map (some fb)]) :: (tMap kb 512 (keptV K)) :: (tMap fb 512 m) :: (tPool vs N) :: (tDisc p mb B n cap bm S L) :: (tMn mb M) :: R) w10 := OwnT.pickR (L := [_, _, _, _, _, _, _, _]) (R := R) O [0, 2, 3, 4, 5, 6, 7] (by decide)
 refine wp_loop (fun a w => Fr 55 a ∧ a.eval (.tmp 0) = .pointer (some ⟨sb, 0, none⟩) ∧ a.eval (.tmp 1) = .slice A xs.length ca ∧ a.eval (.tmp 15) = .slice Bk ks.length ck ∧ a.eval (.tmp 16) = .int .i64 ↑ks.length ∧ ∃ (i j : Nat), a.eval (.tmp 17) = .int .i64 ↑i ∧ i ≤ ks.length ∧ j ≤ 16 * i ∧ OwnT H A0 ((tRow 3 1 (.slice Bk ks.length ck) ks.length (ks.map (Value.int .i64))) :: (tBlk sb 102 #[.pointer (some ⟨p, 0, none⟩), .int .u64 h.g, .int .i64 h.r, .int .i64 h.a, .int .i64 h.b, .int .i64 h.c, .int .i64 at_, .map (some kb), .map (some fb)]) :: (tMap kb 512 (keptV K)) :: (tMap fb 512 m) :: (tPool vs N) :: (tDisc p mb B n cap bm S (wrF F L ((ks.take i).filter fun c => decide (c ∈ xs)))) :: (tMn mb (M.useN j)) :: R) w) (fun a w => ks.length - (intOf (a.eval (.tmp 17))).toNat) ?_ ?_
 · exact ⟨k, e0, e1, e15, e16, 0, 0, e17, Nat.zero_le _, Nat.zero_le _, O⟩
 intro a13 w14 hI
 clear k e0 e1 e15 e16
 obtain ⟨k, e0, e1, e15, e16, h_⟩ := hI
 clear O e17
 obtain ⟨i, j, e17, hi, hj, O⟩ := h_
 have mi := e17
 have htd : todo (pgs n) F xs = ks.filter fun c => decide (c ∈ xs) := by unfold todo; rw [hks]

 by_cases hlt : i < ks.length
 rotate_left
 · rw [List.take_of_length_le (show ks.length ≤ i by omega), ← htd] at O
   refine wp_seq ?_
   refine wp_region_lit ?_
   have hE := Env.refl a13 [18]
   refine sd 18 hE k (Z08 (Z1j rfl (hE.g e17) (hE.g e16)) (decide_eq_false (by omega))) ?_
   intro a15 hE e18 kp
   refine wpList_nil ?_
   replace e0 := hE.g e0; replace e1 := hE.g e1; replace e15 := hE.g e15; replace e16 := hE.g e16; replace e17 := hE.g e17
   replace k := k.env hE
   clear hE
   refine Z00 (wp_seq ?_)
   refine Z07 e18 rfl ?_
   refine wp_exit ?_
   refine Z0p ?_
   refine Z0p ?_
   refine Z0z ?_
   refine Z00 ?_
   replace O : OwnT _ _ ((tDisc p mb B n cap bm S (wrF F L (todo (pgs n) F xs))) :: (tMn mb (M.useN j)) :: (tBlk sb 102 #[.pointer (some ⟨p, 0, none⟩), .int .u64 h.g, .int .i64 h.r, .int .i64 h.a, .int .i64 h.b, .int .i64 h.c, .int .i64 at_, .map (some kb), .map (some fb)]) :: (tMap kb 512 (keptV K)) :: (tMap fb 512 m) :: (tPool vs N) :: R) w14 := OwnT.pickR (L := [_, _, _, _, _, _, _]) (R := R) O [5, 6, 1, 2, 3, 4] (by decide)
   refine wp_seq ?_
   refine wp_region_lit ?_
   have hE := Env.refl a15 [50, 51, 52, 53, 54, 4]
   refine zm 50 hE k e0 ?_
   intro a16 hE e50 kp
   refine sd 51 hE k (Z0r rfl e50) ?_
   intro a17 hE e51 kp
   apply Z02 52 hE k rfl rfl rfl rfl
   case h =>
    simp [go_sem, ↓IntWalk.iteOmega, ev e51]
    with_reducible rfl
   intro a18 hE e52 kp
   apply Z02 53 hE k rfl rfl rfl rfl
   case h =>
    have q0 : w14.cell? ⟨sb, 0, none⟩ = some (.pointer (some ⟨p, 0, none⟩)) := (OwnT.blk O 2 rfl).cell 0
    simp [go_sem, ↓IntWalk.iteOmega, ev e52, q0]
    with_reducible rfl
   intro a19 hE e53 kp
   apply Z06 54 hE k rfl (by rfl) (by rfl) rfl
   case h =>
    simp [go_sem, ↓IntWalk.iteOmega, ev e53]
    with_reducible exact ⟨rfl, rfl⟩
   case hc => exact Z2o _ O (hM.useN j) (by omega)
   clear O
   rintro e w21 ⟨cF, S', L', rfl, O, hcF⟩
   refine ⟨_, rfl, ?_⟩
   intro a20 hE e54 kp
   refine sd 4 hE k (Z01 rfl e54) ?_
   intro a22 hE e4 kp
   refine wpList_nil ?_
   replace k := k.env hE
   clear hE e0 e1 e15 e16 e17 e18
   refine Z00 ?_
   refine wp_ret ?_
   replace O : OwnT _ _ ((tBlk sb 102 #[.pointer (some ⟨p, 0, none⟩), .int .u64 h.g, .int .i64 h.r, .int .i64 h.a, .int .i64 h.b, .int .i64 h.c, .int .i64 at_, .map (some kb), .map (some fb)]) :: (tMap kb 512 (keptV K)) :: (tMap fb 512 m) :: (tPool vs N) :: (tDisc p mb B n cap bm S' L') :: (tMn mb ((M.useN j).use)) :: R) w21 := OwnT.pickR (L := [_, _, _, _, _, _]) (R := R) O [2, 3, 4, 5, 0, 1] (by decide)
   refine Z0i rfl k e4 ?_
   exact ⟨cF, S', L', j + 1, rfl, by omega, O, by rcases hcF with ⟨rfl, rfl, rfl⟩ | ⟨rfl, hF, rfl, rfl⟩; exact .inl ⟨rfl, rfl, rfl⟩; exact .inr ⟨rfl, Z23 hF, rfl, Pend.wrF _ _ (Pend.refl _ _ _) (fun c hc => hc)⟩⟩
 have hzI : (i : Int) < (ks.length : Int) := by omega
 obtain ⟨x, hx⟩ : ∃ x, ks[i]? = some x := ⟨_, List.getElem?_eq_getElem hlt⟩
 obtain ⟨hxr, nd, hnd⟩ := hkm x (List.mem_of_getElem? hx)
 have hwf := ok.wf hxr
 obtain ⟨bq, oq, hA, hcx⟩ := Z5u (row1_ofS (Value.int .i64) (OwnT.get O 0 rfl : World.ownsRow _ _ _ _ _ _ _)) hx
 subst hA
 have hcx := hcx _ (Ext.refl _)
 have htk : (ks.take (i + 1)).filter (fun c => decide (c ∈ xs)) = (ks.take i).filter (fun c => decide (c ∈ xs)) ++ (if x ∈ xs then [x] else []) := by
  rw [List.take_add_one, hx, List.filter_append]
  congr 1
  by_cases e : x ∈ xs
  · simp [e]
  · simp [e]

 refine wp_seq ?_
 refine wp_region_lit ?_
 have hE := Env.refl a13 [18]
 refine sd 18 hE k (Z08 (Z1j rfl (hE.g e17) (hE.g e16)) (decide_eq_true (by omega))) ?_
 intro a23 hE e18 kp
 refine wpList_nil ?_
 replace e0 := hE.g e0; replace e1 := hE.g e1; replace e15 := hE.g e15; replace e16 := hE.g e16; replace e17 := hE.g e17
 replace k := k.env hE
 clear hE
 refine Z00 (wp_seq ?_)
 refine Z0l e18 rfl ?_
 refine wp_skip ?_
 refine Z00 (wp_seq ?_)
 refine wp_block ?_
 refine wp_seq ?_
 refine wp_region_lit ?_
 have hE := Env.refl a23 [19, 20, 6]
 apply Z02 19 hE k rfl rfl rfl rfl
 case h =>
  simp [go_sem, ↓IntWalk.iteOmega, ev (hE.g e15), ev (hE.g e17)]
  with_reducible rfl
 intro a24 hE e19 kp
 apply Z02 20 hE k rfl rfl rfl rfl
 case h =>
  simp [go_sem, ↓IntWalk.iteOmega, ev e19, hcx]
  with_reducible rfl
 intro a25 hE e20 kp
 refine sd 6 hE k (Z01 rfl e20) ?_
 intro a26 hE e6 kp
 refine wpList_nil ?_
 replace e0 := hE.g e0; replace e1 := hE.g e1; replace e15 := hE.g e15; replace e16 := hE.g e16; replace e17 := hE.g e17
 replace k := k.env hE
 clear hE e18
 refine Z00 ?_
 have Ob := OwnT.pickR (L := [_, _, _, _, _, _, _]) (R := R) O [] (by decide)
 by_cases hxx : x ∈ xs
 rotate_left
 · rw [if_neg hxx, List.append_nil] at htk
   refine wp_seq ?_
   refine wp_seq ?_
   refine wp_region_lit ?_
   have hE := Env.refl a26 [21, 22, 23, 24]
   refine zm 21 hE k e1 ?_
   intro a27 hE e21 kp
   refine zm 22 hE k e6 ?_
   intro a28 hE e22 kp
   replace e21 := kt kp e21
   apply Z06 23 hE k rfl (by rfl) (by rfl) rfl
   case h =>
    simp [go_sem, ↓IntWalk.iteOmega, ev e21, ev e22]
    with_reducible exact ⟨rfl, rfl⟩
   case hc => exact Z45 x _ (hrow _ Ob) (by omega)
   rintro e w30 ⟨he, RE⟩
   replace O := OwnT.ext O RE
   refine ⟨_, he.trans (congrArg (fun b => Ending.returned (.bool b)) (decide_eq_false hxx)), ?_⟩
   intro a29 hE e23 kp
   refine sd 24 hE k (Z21 rfl e23) ?_
   intro a31 hE e24 kp
   refine wpList_nil ?_
   replace e0 := hE.g e0; replace e1 := hE.g e1; replace e6 := hE.g e6; replace e15 := hE.g e15; replace e16 := hE.g e16; replace e17 := hE.g e17
   replace k := k.env hE
   clear hE
   refine Z00 ?_
   refine Z0l e24 rfl ?_
   refine wp_exit ?_
   refine Z0p ?_
   refine Z0z ?_
   refine Z00 ?_
   refine wp_region_lit ?_
   have hE := Env.refl a31 [49, 17]
   refine sd 49 hE k (Z1v rfl e17 rfl (by omega)) ?_
   intro a32 hE e49 kp
   replace e17 := kt kp e17
   refine sd 17 hE k (Z03 rfl e49) ?_
   intro a33 hE e17 kp
   refine wpList_nil ?_
   replace e0 := hE.g e0; replace e1 := hE.g e1; replace e15 := hE.g e15; replace e16 := hE.g e16
   replace k := k.env hE
   clear hE e6 e24
   refine Z00 ?_
   rw [← htk] at O
   refine ⟨⟨k, e0, e1, e15, e16, i + 1, j, e17, by omega, by omega, O⟩, ?_⟩
   rw [e17, mi]; simp only [intOf]; omega
 rw [if_pos hxx] at htk
 obtain ⟨hgd, hbd⟩ := ok.fg x nd hnd
 obtain ⟨hl15, -, -⟩ := Z7p hgd
 have hpl := pgB_len hgd hbd
 have hxtd : x ∈ todo (pgs n) F xs := by rw [htd]; exact List.mem_filter.2 ⟨List.mem_of_getElem? hx, decide_eq_true hxx⟩

 refine wp_seq ?_
 refine wp_seq ?_
 refine wp_region_lit ?_
 have hE := Env.refl a26 [21, 22, 23, 24]
 refine zm 21 hE k e1 ?_
 intro a34 hE e21 kp
 refine zm 22 hE k e6 ?_
 intro a35 hE e22 kp
 replace e21 := kt kp e21
 apply Z06 23 hE k rfl (by rfl) (by rfl) rfl
 case h =>
  simp [go_sem, ↓IntWalk.iteOmega, ev e21, ev e22]
  with_reducible exact ⟨rfl, rfl⟩
 case hc => exact Z45 x _ (hrow _ Ob) (by omega)
 rintro e w37 ⟨he, RE⟩
 replace O := OwnT.ext O RE
 refine ⟨_, he.trans (congrArg (fun b => Ending.returned (.bool b)) (decide_eq_true hxx)), ?_⟩
 intro a36 hE e23 kp
 refine sd 24 hE k (Z21 rfl e23) ?_
 intro a38 hE e24 kp
 refine wpList_nil ?_
 replace e0 := hE.g e0; replace e1 := hE.g e1; replace e6 := hE.g e6; replace e15 := hE.g e15; replace e16 := hE.g e16; replace e17 := hE.g e17
 replace k := k.env hE
 clear hE
 refine Z00 ?_
 refine Z07 e24 rfl ?_
 refine wp_skip ?_
 refine Z00 ?_
 obtain ⟨Bx, cx, hmx, g1, g2, g3, g4⟩ := ok.node (OwnT.get O 4 rfl) hnd

 refine wp_seq ?_
 refine wp_region_lit ?_
 have hE := Env.refl a38 [26, 27, 28, 29, 30, 31, 32, 25, 33, 34, 7, 8]
 refine zm 26 hE k e0 ?_
 intro a39 hE e26 kp
 refine sd 27 hE k (Z0r rfl e26) ?_
 intro a40 hE e27 kp
 apply Z02 28 hE k rfl rfl rfl rfl
 case h =>
  simp [go_sem, ↓IntWalk.iteOmega, ev e27]
  with_reducible rfl
 intro a41 hE e28 kp
 apply Z02 29 hE k rfl rfl rfl rfl
 case h =>
  have q0 : w37.cell? ⟨sb, 8, none⟩ = some (.map (some fb)) := (OwnT.blk O 1 rfl).cell 8
  simp [go_sem, ↓IntWalk.iteOmega, ev e28, q0]
  with_reducible rfl
 intro a42 hE e29 kp
 refine zm 30 hE k e6 ?_
 intro a43 hE e30 kp
 replace e29 := kt kp e29
 refine sd 31 hE k (Z73 (v := .agg #[.int .i64 ↑nd.1, .slice Bx nd.2.length cx]) (x_look (OwnT.get O 3 rfl) rfl Tryz.underlying100 (Z26 _) e29 e30 hwf) (by rw [hmx]; rfl)) ?_
 intro a44 hE e31 kp
 apply Z06 32 hE k rfl (by rfl) (by rfl) rfl
 case h =>
  simp [go_sem, ↓IntWalk.iteOmega, ev e31]
  with_reducible exact ⟨rfl, rfl⟩
 case hc => exact lbytes_yes nd.1 _ _ _ nd.2 _ rfl g3 hbd hgd
 rintro e w46 ⟨he, RE⟩
 replace O := OwnT.ext O RE
 refine ⟨.tuple #[.string (sB (pgB nd)), .int .i64 0], he.trans rfl, ?_⟩
 intro a45 hE e32 kp
 refine sd 25 hE k (Z03 rfl e32) ?_
 intro a47 hE e25 kp
 apply Z02 33 hE k rfl rfl rfl rfl
 case h =>
  simp [go_sem, ↓IntWalk.iteOmega, ev e25]
  with_reducible rfl
 intro a48 hE e33 kp
 replace e25 := kt kp e25
 apply Z02 34 hE k rfl rfl rfl rfl
 case h =>
  simp [go_sem, ↓IntWalk.iteOmega, ev e25]
  with_reducible rfl
 intro a49 hE e34 kp
 replace e33 := kt kp e33
 refine sd 7 hE k (Z01 rfl e33) ?_
 intro a50 hE e7 kp
 replace e34 := kt kp e34
 refine sd 8 hE k (Z01 rfl e34) ?_
 intro a51 hE e8 kp
 replace e7 := kt kp e7
 refine wpList_nil ?_
 replace e0 := hE.g e0; replace e1 := hE.g e1; replace e6 := hE.g e6; replace e15 := hE.g e15; replace e16 := hE.g e16; replace e17 := hE.g e17
 replace k := k.env hE
 clear hE e24
 refine Z00 (wp_seq ?_)
 refine wp_seq ?_
 refine wp_region_lit ?_
 have hE := Env.refl a51 [35, 36]
 refine zm 35 hE k e8 ?_
 intro a52 hE e35 kp
 refine sd 36 hE k (Z08 (Z0s rfl e35 rfl) (decide_eq_false (by omega))) ?_
 intro a53 hE e36 kp
 refine wpList_nil ?_
 replace e0 := hE.g e0; replace e1 := hE.g e1; replace e6 := hE.g e6; replace e7 := hE.g e7; replace e8 := hE.g e8; replace e15 := hE.g e15; replace e16 := hE.g e16; replace e17 := hE.g e17
 replace k := k.env hE
 clear hE
 refine Z00 ?_
 refine Z07 e36 rfl ?_
 refine wp_skip ?_
 refine Z00 ?_
 replace O : OwnT _ _ ((tDisc p mb B n cap bm S (wrF F L ((ks.take i).filter fun c => decide (c ∈ xs)))) :: (tMn mb (M.useN j)) :: (tRow 3 1 (.slice (some ⟨bq, oq, none⟩) ks.length ck) ks.length (ks.map (Value.int .i64))) :: (tBlk sb 102 #[.pointer (some ⟨p, 0, none⟩), .int .u64 h.g, .int .i64 h.r, .int .i64 h.a, .int .i64 h.b, .int .i64 h.c, .int .i64 at_, .map (some kb), .map (some fb)]) :: (tMap kb 512 (keptV K)) :: (tMap fb 512 m) :: (tPool vs N) :: R) w46 := OwnT.pickR (L := [_, _, _, _, _, _, _]) (R := R) O [5, 6, 0, 1, 2, 3, 4] (by decide)
 refine wp_seq ?_
 refine wp_region_lit ?_
 have hE := Env.refl a53 [38, 39, 40, 41, 42, 43, 44, 45, 9]
 refine zm 38 hE k e0 ?_
 intro a54 hE e38 kp
 refine sd 39 hE k (Z0r rfl e38) ?_
 intro a55 hE e39 kp
 apply Z02 40 hE k rfl rfl rfl rfl
 case h =>
  simp [go_sem, ↓IntWalk.iteOmega, ev e39]
  with_reducible rfl
 intro a56 hE e40 kp
 apply Z02 41 hE k rfl rfl rfl rfl
 case h =>
  have q0 : w46.cell? ⟨sb, 0, none⟩ = some (.pointer (some ⟨p, 0, none⟩)) := (OwnT.blk O 3 rfl).cell 0
  simp [go_sem, ↓IntWalk.iteOmega, ev e40, q0]
  with_reducible rfl
 intro a57 hE e41 kp
 refine zm 42 hE k e6 ?_
 intro a58 hE e42 kp
 replace e41 := kt kp e41
 refine sd 43 hE k (x_mul rfl e42 rfl (by omega)) ?_
 intro a59 hE e43 kp
 replace e41 := kt kp e41
 replace e43 := e43.trans (Z18 (show x * 16 = 16 * x by omega))
 refine zm 44 hE k e7 ?_
 intro a60 hE e44 kp
 replace e41 := kt kp e41; replace e43 := kt kp e43
 apply Z06 45 hE k rfl (by rfl) (by rfl) rfl
 case h =>
  simp [go_sem, ↓IntWalk.iteOmega, ev e41, ev e43, ev e44]
  with_reducible exact ⟨rfl, rfl⟩
 case hc => exact Z2n (16 * x) (pgB nd) 16 _ O (by omega) (by decide) (decide_eq_true (by unfold pgs at hxr; omega)) (hM.useN j) (by omega)
 clear O
 rintro e w62 ⟨cW, L', jw, rfl, hjw, O, hcW⟩
 refine ⟨_, rfl, ?_⟩
 intro a61 hE e45 kp
 refine sd 9 hE k (Z01 rfl e45) ?_
 intro a63 hE e9 kp
 refine wpList_nil ?_
 replace e0 := hE.g e0; replace e1 := hE.g e1; replace e15 := hE.g e15; replace e16 := hE.g e16; replace e17 := hE.g e17
 replace k := k.env hE
 clear hE e6 e7 e8 e36
 refine Z00 ?_
 rw [Z41] at O
 rcases hcW with ⟨rfl, rfl, rfl⟩ | ⟨rfl, hF, iw, hiw, rfl⟩
 · skip
   refine wp_seq ?_
   refine wp_region_lit ?_
   have hE := Env.refl a63 [46, 47]
   refine zm 46 hE k e9 ?_
   intro a64 hE e46 kp
   refine sd 47 hE k (Z08 (Z0s rfl e46 rfl) (decide_eq_false (by omega))) ?_
   intro a65 hE e47 kp
   refine wpList_nil ?_
   replace e0 := hE.g e0; replace e1 := hE.g e1; replace e9 := hE.g e9; replace e15 := hE.g e15; replace e16 := hE.g e16; replace e17 := hE.g e17
   replace k := k.env hE
   clear hE
   refine Z00 ?_
   refine Z07 e47 rfl ?_
   refine wp_skip ?_
   refine Z0n ?_
   refine Z00 ?_
   refine wp_region_lit ?_
   have hE := Env.refl a65 [49, 17]
   refine sd 49 hE k (Z1v rfl e17 rfl (by omega)) ?_
   intro a66 hE e49 kp
   replace e17 := kt kp e17
   replace e49 := e49.trans (Z18 (show (i : Int) + 1 = ((i + 1 : Nat) : Int) by omega))
   refine sd 17 hE k (Z03 rfl e49) ?_
   intro a67 hE e17 kp
   refine wpList_nil ?_
   replace e0 := hE.g e0; replace e1 := hE.g e1; replace e15 := hE.g e15; replace e16 := hE.g e16
   replace k := k.env hE
   clear hE e9 e47
   refine Z00 ?_
   replace O : OwnT _ _ ((tRow 3 1 (.slice (some ⟨bq, oq, none⟩) ks.length ck) ks.length (ks.map (Value.int .i64))) :: (tBlk sb 102 #[.pointer (some ⟨p, 0, none⟩), .int .u64 h.g, .int .i64 h.r, .int .i64 h.a, .int .i64 h.b, .int .i64 h.c, .int .i64 at_, .map (some kb), .map (some fb)]) :: (tMap kb 512 (keptV K)) :: (tMap fb 512 m) :: (tPool vs N) :: (tDisc p mb B n cap bm S (wrS (pgB nd) (16 * x) (wrF F L ((ks.take i).filter fun c => decide (c ∈ xs))) 16)) :: (tMn mb (M.useN (j + 16))) :: R) w62 := OwnT.pickR (L := [_, _, _, _, _, _, _]) (R := R) O [2, 3, 4, 5, 6, 0, 1] (by decide)
   rw [show wrS (pgB nd) (16 * x) (wrF F L ((ks.take i).filter fun c => decide (c ∈ xs))) 16 = wrF F L ((ks.take (i + 1)).filter fun c => decide (c ∈ xs)) by rw [htk, wrF_snoc]; unfold stepF; rw [hnd]] at O
   refine ⟨⟨k, e0, e1, e15, e16, i + 1, j + 16, e17, by omega, by omega, O⟩, ?_⟩
   rw [e17, mi]; simp only [intOf]; omega
 · skip
   refine wp_seq ?_
   refine wp_region_lit ?_
   have hE := Env.refl a63 [46, 47]
   refine zm 46 hE k e9 ?_
   intro a68 hE e46 kp
   refine sd 47 hE k (Z08 (Z0s rfl e46 rfl) (decide_eq_true (by omega))) ?_
   intro a69 hE e47 kp
   refine wpList_nil ?_
   replace e0 := hE.g e0; replace e1 := hE.g e1; replace e9 := hE.g e9; replace e15 := hE.g e15; replace e16 := hE.g e16; replace e17 := hE.g e17
   replace k := k.env hE
   clear hE
   refine Z00 ?_
   refine Z0l e47 rfl ?_
   refine wp_seq ?_
   refine wp_region_lit ?_
   have hE := Env.refl a69 [48, 4]
   refine zm 48 hE k e9 ?_
   intro a70 hE e48 kp
   refine sd 4 hE k (Z01 rfl e48) ?_
   intro a71 hE e4 kp
   refine wpList_nil ?_
   replace k := k.env hE
   clear hE e0 e1 e9 e15 e16 e17 e47
   refine Z00 ?_
   refine wp_ret ?_
   refine Z1w ?_
   refine Z0u ?_
   refine Z0u ?_
   refine Z1w ?_
   refine Z0u ?_
   replace O : OwnT _ _ ((tBlk sb 102 #[.pointer (some ⟨p, 0, none⟩), .int .u64 h.g, .int .i64 h.r, .int .i64 h.a, .int .i64 h.b, .int .i64 h.c, .int .i64 at_, .map (some kb), .map (some fb)]) :: (tMap kb 512 (keptV K)) :: (tMap fb 512 m) :: (tPool vs N) :: (tDisc p mb B n cap bm S (wrS (pgB nd) (16 * x) (wrF F L ((ks.take i).filter fun c => decide (c ∈ xs))) iw)) :: (tMn mb (M.useN (j + jw))) :: R) w62 := OwnT.pickR (L := [_, _, _, _, _, _, _]) (R := R) O [3, 4, 5, 6, 0, 1] (by decide)
   refine Z0i rfl k e4 ?_
   exact ⟨4, _, _, j + jw, rfl, by omega, O, .inr ⟨rfl, Z23 hF, rfl, Pend.wr (Pend.wrF _ _ (Pend.refl _ _ _) (fun c hc => by rw [htd]; exact List.mem_filter.2 ⟨List.mem_of_mem_take (List.mem_filter.1 hc).1, (List.mem_filter.1 hc).2⟩)) hxtd hnd (by omega)⟩⟩
end Go.Proofs.YtakkhglbdljfiaaGreatDoor
