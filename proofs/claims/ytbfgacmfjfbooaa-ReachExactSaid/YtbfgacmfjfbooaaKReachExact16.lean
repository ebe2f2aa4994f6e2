/- Maps: their keys, rising. -/
import Derived.Test.YtbfgacmfjfbooaaKReachExact01
import Derived.Test.YtbfgacmfjfbooaaKReachExact03
import Derived.Shelf.AbstractIn
import Derived.TacticsInMore
import Derived.Lib.SlKeysI
import Derived.Test.YtbfgacmfjfbooaaKReachExact15
import Derived.Test.YtbfgacmfjfbooaaKReachExact06
namespace Go.Proofs.Ytbfgacmfjfbooaa
set_option linter.unusedVariables false
set_option linter.unusedSimpArgs false
open Go.RowKit Go.Maps Go.Shelf Go.Sort

/-- The numbers 1 .. 1023 of which P holds, rising. -/
def riseL (P : Int → Bool) : List Int := ((List.range 1023).map fun (i : Nat) => ((i + 1 : Nat) : Int)).filter P
theorem mem_riseL {P : Int → Bool} {x : Int} : x ∈ riseL P ↔ (1 ≤ x ∧ x ≤ 1023) ∧ P x = true := by
  unfold riseL
  rw [List.mem_filter, List.mem_map]
  refine and_congr_left fun _ => ⟨?_, fun h => ⟨(x - 1).toNat, by rw [List.mem_range]; omega, by omega⟩⟩
  rintro ⟨i, hi, rfl⟩
  rw [List.mem_range] at hi
  omega
theorem Z3f (P : Int → Bool) : (riseL P).Pairwise (fun a b => a < b) :=
  List.Pairwise.filter _ (by rw [List.pairwise_map]; exact List.pairwise_lt_range.imp (fun {a b} h => by omega))
theorem Z6u (P : Int → Bool) : (riseL P).Nodup := (Z3f P).imp (fun {a b} h e => by omega)
theorem Z5y (P : Int → Bool) : (riseL P).mergeSort leI = riseL P :=
  List.mergeSort_of_pairwise ((Z3f P).imp (fun {a b} h => by simp [leI]; omega))
theorem keys_perm {w : World} {b n : Nat} {D : DataW Value} {m : Int → Option Value} (hown : w.ownsMap Try.prog 3 heldE b n D) (hD : SaysV D m) (L : List Int) (hnd : L.Nodup) (hL : ∀ x, x ∈ L ↔ wfV x ∧ (m x).isSome = true) : L.Perm (intKeys D) := by
  obtain ⟨es, clock, hb, F, hs, rfl⟩ := id hown
  obtain ⟨es', he, hp⟩ := hown.tidy Z2z
  injection he with he
  have hk : ∀ p ∈ es', ∃ x, p.1 = .int .i64 x ∧ wfV x := by
    intro p hpm
    rw [← he] at hpm
    obtain ⟨x, hx, rfl⟩ := List.mem_map.1 (mem_sorted.1 hpm)
    obtain ⟨y, hy⟩ := F.reads x hx
    obtain ⟨a, _, h2, h3⟩ := Maps.keyOf_int_inv Try.underlying3 (Go.WideElems.rd_key hy)
    exact ⟨a, by rw [Go.WideElems.rg_of hy]; exact h2, h3⟩
  rw [he] at hD ⊢
  refine perm_intKeys hp (fun p hpm => (hk p hpm).imp fun _ h => h.1) hnd (fun x => ?_)
  rw [hL]
  constructor
  · rintro ⟨h1, h2⟩
    rw [(hD x h1).2, h2]
  · intro h
    obtain ⟨d, hd⟩ := has_mem h
    obtain ⟨y, hy1, hy2⟩ := hk _ hd
    simp only at hy1
    injection hy1 with _ hy1
    subst hy1
    exact ⟨hy2, by rw [← (hD x hy2).2]; exact h⟩
/-- Keys, in what order ever, sorted are the rising list. -/
theorem Z74 {w : World} {b n : Nat} {D : DataW Value} {m : Int → Option Value} (hown : w.ownsMap Try.prog 3 heldE b n D) (hD : SaysV D m) (P : Int → Bool) (hP : ∀ x, wfV x → ((m x).isSome = true ↔ (1 ≤ x ∧ x ≤ 1023) ∧ P x = true)) {ss : List Int} (h : ss.Perm (intKeys D)) :
    ss.mergeSort (fun x y => decide (x ≤ y)) = riseL P ∧ ss.length = (riseL P).length := by
  have hp := keys_perm hown hD (riseL P) (Z6u P) (fun x => by
    rw [mem_riseL]
    constructor
    · intro h
      have hw : wfV x := Z2s (by omega) (by omega)
      exact ⟨hw, (hP x hw).2 h⟩
    · rintro ⟨h1, h2⟩
      exact (hP x h1).1 h2)
  have h1 := mergeSort_of_perm_i (h.trans hp.symm)
  rw [Z5y] at h1
  exact ⟨h1, (h.trans hp.symm).length_eq⟩
theorem sortsR (m : Nat) : AnyZI.SortsIn Try.prog Try.sortedA_ren Fence.wide m :=
  ⟨fun blk off cap ss W hH hblk hsz => callsIn_wide.2 (AnyM.slices_Sort_int Try.sortA blk off cap ss W hH hblk hsz),
   fun p cap W => callsIn_wide.2 (AnyM.slices_Sort_int_none Try.sortA p cap W)⟩
abbrev fnK (ib : Nat) : Value := .func (.func 65) #[] #[.pointer (some ⟨ib, 0, none⟩)]
theorem keysR {H : Nat} {A : World} {L : List Thing} (lb : Nat) (w : World) (O : OwnT H A L w) : Calls Try.prog 36 #[.map (some lb)] w fun e w' => ∃ ib, e = .returned (fnK ib) ∧ OwnT H A (tBlk ib 87 #[.map (some lb)] :: L) w' := by
  refine (callsIn_wide (n := 6)).1 ?_
  have cK : CallsIn Fence.wide 6 Try.prog 36 #[.map (some lb)] w fun e w' => e = .returned (fnK w.heap.size) ∧ w' = w.alloc (.cells #[.map (some lb)] 87) := AnyZI.keys_in Try.keysA Fence.wide 6 trivial rfl (some lb) w
  refine cK.mono ?_
  rintro e w' ⟨rfl, rfl⟩
  exact ⟨w.heap.size, rfl, O.new _ _⟩
theorem riseL_nat (sn : Nat → Bool) : riseL (fun x => sn x.toNat) = (keysN sn).map (fun (i : Nat) => (i : Int)) := by
  unfold riseL keysN
  rw [List.filter_map, List.filter_map, List.map_map]
  rfl
theorem enc_nat (l : List Nat) : (l.map (fun (i : Nat) => (i : Int))).map encZ = l.flatMap encN := by
  induction l with
  | nil => rfl
  | cons x l ih => rw [List.map_cons, List.map_cons, ih]; rfl
theorem sortedR {H : Nat} {A : World} {L : List Thing} (lb ib n : Nat) (f : Nat → Nat) (sn : Nat → Bool) (w : World) (O : OwnT H A (tBlk ib 87 #[.map (some lb)] :: L) w) (hv : VM w lb n (mapL f)) (hn : n ≤ 1000000) (hf : ∀ q, f q ≠ 0 ↔ sn q = true) (hs : ∀ q, sn q = true → 1 ≤ q ∧ q ≤ 1023) :
    Calls Try.prog 35 #[fnK ib] w fun e w' => ∃ B' c', e = .returned (.slice B' (keysN sn).length c') ∧ OwnT H A (tNs (.slice B' (keysN sn).length c') (keysN sn) :: tBlk ib 87 #[.map (some lb)] :: L) w' := by
  obtain ⟨D, hown, hD⟩ := hv
  have hsz := hown.size_le
  have hseq : SeqGives Fence.wide 2 Try.prog 65 #[.pointer (some ⟨ib, 0, none⟩)] encZ (fun ss => ss.Perm (intKeys D)) (Maps.size D) w :=
    AnyZI.keys_gives (ρ := Try.keysA_ren) { Try.keysA with } Fence.wide _ trivial rfl (by omega) ib lb n D w (O.b0.lt) (O.b0.cell 0) hown
  have cS := AnyZI.sorted_in Try.sortedA Fence.wide 5 trivial trivial trivial trivial rfl (by omega) (sortsR _) (enters_of Try.func64 (by kernel_rfl) rfl) 65 #[.pointer (some ⟨ib, 0, none⟩)] trivial (enters_of Try.func65 (by kernel_rfl) rfl) _ _ (show Maps.size D ≤ maxLen by unfold maxLen; omega) (by omega) w hseq
  change CallsIn _ _ Try.prog 35 _ _ _ at cS
  refine (callsIn_wide (n := 5)).1 ?_
  refine cS.mono ?_
  rintro e w' ⟨v, ss, rfl, hperm, hrow, -, hb⟩
  obtain ⟨h1, h2⟩ := Z74 hown hD (fun x => sn x.toNat) (fun x hx => by
    unfold mapL
    constructor
    · intro h
      by_cases e : 1 ≤ x ∧ f x.toNat ≠ 0
      · have h2 := (hf x.toNat).1 e.2
        have := hs x.toNat h2
        exact ⟨⟨e.1, by omega⟩, h2⟩
      · rw [if_neg e] at h; cases h
    · rintro ⟨⟨h1, _⟩, h2⟩
      rw [if_pos ⟨h1, (hf x.toNat).2 h2⟩]
      rfl) hperm
  rw [h1, h2, riseL_nat, enc_nat, List.length_map] at hrow
  obtain ⟨B', c', rfl⟩ := Z0c hrow
  exact ⟨B', c', rfl, O.newRow hb hrow⟩
end Go.Proofs.Ytbfgacmfjfbooaa

/- reach: root, Refs, Pages (printed by XRcC.gen.py). -/
namespace Go.Proofs.Ytbfgacmfjfbooaa
attribute [local simp] BigFrame.eval_const BigFrame.eval_global BigFrame.eval_func
set_option linter.unusedVariables false
set_option linter.unusedSimpArgs false
open Go.RowKit Go.Maps


theorem snF_ok {N : List Nd} {tg : Tg} (h : TgOk N tg) : SnOk N (snF tg) := fun p hp => by
 obtain ⟨x, hx, hm⟩ := List.any_eq_true.1 hp
 obtain ⟨m, L, hR, _⟩ := h x hx
 rcases hR.rt with ⟨_, _, e⟩ | ⟨l, _, hT, _⟩
 · rw [e] at hm; cases of_decide_eq_true hm
 · obtain ⟨l', xs, e1, e2, _⟩ := Tr.closed hT p (of_decide_eq_true hm)
   exact ⟨l', xs, e1, e2⟩
theorem TgOk.take {N : List Nd} {tg : Tg} (h : TgOk N tg) (j : Nat) : TgOk N (tg.take j) := fun x hx => h x (List.mem_of_mem_take hx)
theorem rsF_len (tg : Tg) : (rsF tg).length ≤ tg.length := by
 unfold rsF
 exact Nat.le_trans (List.length_filter_le _ _) (by rw [List.length_map]; exact Nat.le_refl _)
def encR (x : Nat × Nat) : List Value := [.int .i64 (x.1 : Nat), .int .i64 (x.2 : Nat)]
abbrev tRf (v : Value) (l : List (Nat × Nat)) : Thing := tRow 59 2 v l.length (l.flatMap encR)
def refL (N : List Nd) (tg : Tg) : List (Nat × Nat) := (keysN (snF tg)).map fun q => (q, ldF N (rsF tg) (snF tg) q)
theorem elemRf : ElemI Try.prog 50 59 2 16 := ⟨Try.underlying50, by
 have h : (Try.prog.info? 59).map (fun i => (i.zero, i.size, i.bytes)) = some (some (.agg #[.int .i64 0, .int .i64 0]), 2, 16) := by kernel_rfl
 obtain ⟨i, h1, h2, h3, h4⟩ := info_parts h
 exact ⟨i, _, h1, h2, h3, h4, rfl⟩⟩
theorem elemIr : ElemI Try.prog 43 3 1 8 := ⟨Try.underlying43, by
 have h : (Try.prog.info? 3).map (fun i => (i.zero, i.size, i.bytes)) = some (some (.int .i64 0), 1, 8) := by kernel_rfl
 obtain ⟨i, h1, h2, h3, h4⟩ := info_parts h
 exact ⟨i, _, h1, h2, h3, h4, rfl⟩⟩
theorem Z3h {w : World} {B : Option Addr} {n c z : Nat} {l : List (Nat × Nat)} {x : Nat × Nat} (h : (tRf (.slice B n c) l).holds w) (hz : l[z]? = some x) : ∃ g, B = some ⟨g, 0, none⟩ ∧ w.cell? ⟨g, z * 2, none⟩ = some (.int .i64 (x.1 : Nat)) ∧ w.cell? ⟨g, z * 2 + 1, none⟩ = some (.int .i64 (x.2 : Nat)) := by
 have hl := (List.getElem?_eq_some_iff.1 hz).1
 obtain ⟨g, cap', cur, e, -⟩ := Z18 h (by omega)
 injection e with e1
 subst e1
 obtain ⟨B2, c2, e, _, _, _, hr⟩ := Z23 (enc := encR) (X := l) (fun _ => rfl) (by decide) h
 injection e with e1
 subst e1
 obtain ⟨b, o, e, _, hc⟩ := hr z x hz
 injection e with e
 injection e with e e'
 subst e e'
 refine ⟨g, rfl, ?_, ?_⟩
 · have := hc 0 _ rfl; simpa using this
 · have := hc 1 _ rfl; simpa using this

set_option maxRecDepth 100000 in
set_option maxHeartbeats 4000000 in
theorem rcRoot {H : Nat} {A0 : World} {R : List Thing} {sb cap : Nat} {room : Int} {B : Option Addr} {vs : List Value} {N : List Nd} {cb lb sm nl ns r m : Nat} {rs : List Nat} {sn : Nat → Bool} {L : List (List Pr)} {g : List Nat} (w : World) (O : OwnT H A0 (shT sb room B cap vs N (tBlk cb 90 #[.map (some lb), .map (some sm)] :: tMap lb nl (mapL (ldF N rs sn)) :: tMap sm ns (mapS sn) :: R)) w) (hRT : RT m N r L g) (h7 : m ≤ 7) (hN : N.length ≤ 511) (hgl : g.length ≤ 600) (hpl : L.flatten.length ≤ 100000) (hnl : nl ≤ 500000) (hns : ns ≤ 500000) (hsk : SnOk N sn) (hrl : rs.length ≤ 900) : Calls Try.prog 34 #[.pointer (some ⟨cb, 0, none⟩), .iface 47 (.pointer (some ⟨sb, 0, none⟩)), .int .i64 (r : Nat)] w fun e w' => e = .returned (.int .i64 0) ∧ ∃ nl' ns', nl' ≤ nl + 10000 ∧ ns' ≤ ns + 600 ∧ OwnT H A0 (shT sb room B cap vs N (tBlk cb 90 #[.map (some lb), .map (some sm)] :: tMap lb nl' (mapL (ldF N (if r = 0 then rs else rs ++ [r]) (unB g sn))) :: tMap sm ns' (mapS (unB g sn)) :: R)) w' := by
 refine Z0a Try.func34 rfl 44 rfl (by rfl) ?_
 intro a1 k hargs; have e0 : a1.eval (.tmp 0) = .pointer (some ⟨cb, 0, none⟩) := hargs 0 _ rfl
 have e1 : a1.eval (.tmp 1) = .iface 47 (.pointer (some ⟨sb, 0, none⟩)) := hargs 1 _ rfl
 have e2 : a1.eval (.tmp 2) = .int .i64 ↑r := hargs 2 _ rfl
 clear hargs; rcases hRT.rt with ⟨rfl, rfl, rfl⟩ | ⟨l, hlm, hT, h2⟩
 · skip
   refine wp_seq ?_; refine wp_region_lit ?_
   have hE := Env.refl a1 [6]; refine sd 6 hE k (Z01 rfl rfl) ?_; intro a2 hE e6 kp; refine wpList_nil ?_; replace e0 := hE.g e0; replace e1 := hE.g e1; replace e2 := hE.g e2; replace k := k.env hE; clear hE e6; refine Z00 (wp_seq ?_); refine wp_seq ?_; refine wp_region_lit ?_
   have hE := Env.refl a2 [12, 13]; refine zm 12 hE k e2 ?_; intro a3 hE e12 kp; refine sd 13 hE k (Z05 (Z12 rfl e12 rfl) (decide_eq_true rfl)) ?_; intro a4 hE e13 kp; refine wpList_nil ?_; replace e0 := hE.g e0; replace e1 := hE.g e1; replace e2 := hE.g e2; replace k := k.env hE; clear hE; refine Z00 ?_; refine Z0h e13 rfl ?_
   refine wp_seq ?_; refine wp_region_lit ?_
   have hE := Env.refl a4 [6]; refine sd 6 hE k (Z01 rfl rfl) ?_; intro a5 hE e6 kp; refine wpList_nil ?_; replace k := k.env hE; clear hE e0 e1 e2 e13; refine Z00 ?_; refine wp_ret ?_
   refine Z0o ?_
   refine Z0v rfl k e6 ?_
   exact ⟨rfl, nl, ns, by omega, by omega, by rw [unB_nil, if_pos rfl]; exact O⟩
 · have hr := Tr.pages hT r (Tr.self hT)
   have hrw : wfV (r : Int) := Z2s (by omega) (by omega)
   refine wp_seq ?_; refine wp_region_lit ?_
   have hE := Env.refl a1 [6]; refine sd 6 hE k (Z01 rfl rfl) ?_; intro a6 hE e6 kp; refine wpList_nil ?_; replace e0 := hE.g e0; replace e1 := hE.g e1; replace e2 := hE.g e2; replace k := k.env hE; clear hE e6; refine Z00 (wp_seq ?_); refine wp_seq ?_; refine wp_region_lit ?_
   have hE := Env.refl a6 [12, 13]; refine zm 12 hE k e2 ?_; intro a7 hE e12 kp; refine sd 13 hE k (Z05 (Z12 rfl e12 rfl) (decide_eq_false (by omega))) ?_
   intro a8 hE e13 kp; refine wpList_nil ?_; replace e0 := hE.g e0; replace e1 := hE.g e1; replace e2 := hE.g e2; replace k := k.env hE; clear hE; refine Z00 ?_; refine Z06 e13 rfl ?_
   refine wp_skip ?_; refine Z00 (wp_seq ?_); refine wp_region_lit ?_
   have hE := Env.refl a8 [15, 16, 17, 14, 18, 19, 7, 8]; refine zm 15 hE k e1 ?_; intro a9 hE e15 kp; refine zm 16 hE k e2 ?_; intro a10 hE e16 kp; replace e15 := kt kp e15; apply Z09 17 hE k rfl (by rfl) (by rfl) rfl
   case h =>
    simp [go_sem, ↓IntWalk.iteOmega, ev e15, ev e16]
    with_reducible exact ⟨rfl, rfl⟩
   case hc => exact tReach (R := _ :: _ :: _ :: R) _ O hRT h7 hN hgl hpl
   clear O; rintro e w12 ⟨Pp, cp, rfl, O⟩
   refine ⟨_, rfl, ?_⟩
   intro a11 hE e17 kp; refine sd 14 hE k (Z02 rfl e17) ?_; intro a13 hE e14 kp; apply Z03 18 hE k rfl rfl rfl rfl; case h =>
    simp [go_sem, ↓IntWalk.iteOmega, ev e14]
    with_reducible rfl
   intro a14 hE e18 kp; replace e14 := kt kp e14; apply Z03 19 hE k rfl rfl rfl rfl; case h =>
    simp [go_sem, ↓IntWalk.iteOmega, ev e14]
    with_reducible rfl
   intro a15 hE e19 kp; replace e18 := kt kp e18; refine sd 7 hE k (Z01 rfl e18) ?_; intro a16 hE e7 kp; replace e19 := kt kp e19; refine sd 8 hE k (Z01 rfl e19) ?_; intro a17 hE e8 kp; replace e7 := kt kp e7; refine wpList_nil ?_; replace e0 := hE.g e0; replace e1 := hE.g e1; replace e2 := hE.g e2; replace k := k.env hE; clear hE e13; refine Z00 (wp_seq ?_); refine wp_seq ?_; refine wp_region_lit ?_
   have hE := Env.refl a17 [20, 21]; refine zm 20 hE k e8 ?_; intro a18 hE e20 kp; refine sd 21 hE k (Z05 (Z0q rfl e20 rfl) (decide_eq_false (by omega))) ?_
   intro a19 hE e21 kp; refine wpList_nil ?_; replace e0 := hE.g e0; replace e1 := hE.g e1; replace e2 := hE.g e2; replace e7 := hE.g e7; replace e8 := hE.g e8; replace k := k.env hE; clear hE; refine Z00 ?_; refine Z06 e21 rfl ?_
   refine wp_skip ?_; refine Z00 ?_; obtain ⟨z, hz⟩ : ∃ z, ldF N rs sn r = z := ⟨_, rfl⟩
   have hzb : z ≤ 1000000 := by rw [← hz]; exact Nat.le_trans (ldF_le hsk r) (by omega)

   obtain ⟨w8, hcl, hV, hC⟩ := VM.store (OwnT.get O 5 rfl) Try.underlying87 (by unfold maxLen; omega) hrw (.int .i64 ((z : Int) + 1))
   refine wp_seq ?_; refine wp_region_lit ?_
   have hE := Env.refl a19 [23, 24, 25, 26, 27, 28, 29]; refine zm 23 hE k e0 ?_; intro a20 hE e23 kp; refine sd 24 hE k (Z17 rfl e23) ?_; intro a21 hE e24 kp; apply Z03 25 hE k rfl rfl rfl rfl; case h =>
    simp [go_sem, ↓IntWalk.iteOmega, ev e24]
    with_reducible rfl
   intro a22 hE e25 kp; refine sd 26 hE k (Z08 O 4 rfl rfl e25 rfl Try.underlying87 rfl) ?_; intro a23 hE e26 kp; refine zm 27 hE k e2 ?_; intro a24 hE e27 kp; replace e26 := kt kp e26; refine sd 28 hE k (Z1c (v := .int .i64 (z : Nat)) (Z5r (OwnT.get O 5 rfl) rfl Try.underlying87 (Z35 _) e26 e27 hrw) ((Z1v _ hr.1).trans (by rw [hz]))) ?_
   intro a25 hE e28 kp; replace e26 := kt kp e26; replace e27 := kt kp e27; refine sd 29 hE k (Z11 rfl e28 rfl (by omega)) ?_; intro a26 hE e29 kp; replace e26 := kt kp e26; replace e27 := kt kp e27; refine Z51 (w' := w8) hE rfl rfl ?_ ?_
   · exact Z6l rfl e26 e27 e29 hcl
   replace O := OwnT.push (L := _ :: _ :: _ :: _ :: _ :: _ :: _ :: R) 5 rfl (OwnT.mapSet (OwnT.pull O 5 rfl) hV hC)
   clear hV hC hcl; rw [show ((z : Int) + 1) = ((z + 1 : Nat) : Int) from rfl, Z5e _ hr.1 (Nat.succ_ne_zero z), ← hz, ← ldF_root] at O
   refine wpList_nil ?_; replace e0 := hE.g e0; replace e1 := hE.g e1; replace e7 := hE.g e7; replace k := k.env hE; clear hE e2 e8 e21 e26 e27 e29; refine Z00 (wp_seq ?_); refine wp_seq ?_; refine wp_region_lit ?_
   have hE := Env.refl a26 [30, 31, 32]; refine zm 30 hE k e7 ?_; intro a27 hE e30 kp; refine sd 31 hE k (Z0j Try.underlying43 rfl e30) ?_; intro a28 hE e31 kp; replace e30 := kt kp e30; refine sd 32 hE k (Z02 rfl rfl) ?_; intro a29 hE e32 kp; replace e30 := kt kp e30; replace e31 := kt kp e31; refine wpList_nil ?_; replace e0 := hE.g e0; replace e1 := hE.g e1; replace k := k.env hE; clear hE e7; refine Z00 ?_; refine wp_block ?_; have hu0 : unB (g.take 0) sn = sn := by rw [List.take_zero, unB_nil]
   replace O : OwnT H A0 ((tBlk sb 49 #[.slice B N.length cap, .int .i64 room]) :: (tRow 46 2 (.slice B N.length cap) N.length (leafV vs N)) :: (tPool vs N) :: (tNs (.slice Pp g.length cp) g) :: (tBlk cb 90 #[.map (some lb), .map (some sm)]) :: (tMap lb ((nl + 1)) (mapL (ldF N (rs ++ [r]) (unB (g.take 0) sn)))) :: (tMap sm ns (mapS (unB (g.take 0) sn))) :: R) w8 := by rw [hu0]; exact O
   clear hu0; refine wp_loop (fun a w => Fr 44 a ∧ a.eval (.tmp 0) = .pointer (some ⟨cb, 0, none⟩) ∧ a.eval (.tmp 1) = .iface 47 (.pointer (some ⟨sb, 0, none⟩)) ∧ a.eval (.tmp 30) = .slice Pp g.length cp ∧ a.eval (.tmp 31) = .int .i64 ↑g.length ∧ ∃ (j nj mj : Nat), a.eval (.tmp 32) = .int .i64 ↑j ∧ j ≤ g.length ∧ nj ≤ nl + 1 + 15 * j ∧ mj ≤ ns + j ∧ OwnT H A0 ((tBlk sb 49 #[.slice B N.length cap, .int .i64 room]) :: (tRow 46 2 (.slice B N.length cap) N.length (leafV vs N)) :: (tPool vs N) :: (tNs (.slice Pp g.length cp) g) :: (tBlk cb 90 #[.map (some lb), .map (some sm)]) :: (tMap lb nj (mapL (ldF N (rs ++ [r]) (unB (g.take j) sn)))) :: (tMap sm mj (mapS (unB (g.take j) sn))) :: R) w) (fun a w => g.length - (intOf (a.eval (.tmp 32))).toNat) ?_ ?_
   · exact ⟨k, e0, e1, e30, e31, 0, nl + 1, ns, e32, Nat.zero_le _, Nat.le_refl _, Nat.le_refl _, O⟩
   intro a30 w31 hI; clear k e0 e1 e30 e31; obtain ⟨k, e0, e1, e30, e31, h_⟩ := hI
   clear O e32; obtain ⟨j, nj, mj, e32, hj, hnj, hmj, O⟩ := h_
   have mjx := e32
   by_cases hlt : j < g.length
   · have hltI : (j : Int) < (g.length : Int) := by omega
     obtain ⟨p, hpj⟩ : ∃ p, g[j]? = some p := ⟨_, List.getElem?_eq_getElem hlt⟩
     have hpm := List.mem_of_getElem? hpj
     obtain ⟨l', xs, hpn, hx15, hxg⟩ := Tr.closed hT p hpm
     have hpr := Tr.pages hT p hpm
     obtain ⟨gp, rfl, d0⟩ := Z66 (OwnT.get O 3 rfl) hpj

     refine wp_seq ?_; refine wp_region_lit ?_
     have hE := Env.refl a30 [33]; refine sd 33 hE k (Z05 (Z1d rfl (hE.g e32) (hE.g e31)) (decide_eq_true (by omega))) ?_
     intro a32 hE e33 kp; refine wpList_nil ?_; replace e0 := hE.g e0; replace e1 := hE.g e1; replace e30 := hE.g e30; replace e31 := hE.g e31; replace e32 := hE.g e32; replace k := k.env hE; clear hE; refine Z00 (wp_seq ?_); refine Z0h e33 rfl ?_
     refine wp_skip ?_; refine Z00 (wp_seq ?_); refine wp_block ?_; refine wp_seq ?_; refine wp_region_lit ?_
     have hE := Env.refl a32 [34, 35, 10]; apply Z03 34 hE k rfl rfl rfl rfl; case h =>
      simp [go_sem, ↓IntWalk.iteOmega, ev (hE.g e30), ev (hE.g e32)]
      with_reducible rfl
     intro a33 hE e34 kp; apply Z03 35 hE k rfl rfl rfl rfl; case h =>
      simp [go_sem, ↓IntWalk.iteOmega, ev e34, d0]
      with_reducible rfl
     intro a34 hE e35 kp; refine sd 10 hE k (Z01 rfl e35) ?_; intro a35 hE e10 kp; refine wpList_nil ?_; replace e0 := hE.g e0; replace e1 := hE.g e1; replace e30 := hE.g e30; replace e31 := hE.g e31; replace e32 := hE.g e32; replace k := k.env hE; clear hE e33; refine Z00 ?_; clear d0; replace O : OwnT _ _ ((tBlk sb 49 #[.slice B N.length cap, .int .i64 room]) :: (tRow 46 2 (.slice B N.length cap) N.length (leafV vs N)) :: (tPool vs N) :: (tBlk cb 90 #[.map (some lb), .map (some sm)]) :: (tMap lb nj (mapL (ldF N (rs ++ [r]) (unB (g.take j) sn)))) :: (tMap sm mj (mapS (unB (g.take j) sn))) :: (tNs (.slice (some ⟨gp, 0, none⟩) g.length cp) g) :: R) w31 := OwnT.pickR (L := [_, _, _, _, _, _, _]) (R := R) O [0, 1, 2, 4, 5, 6, 3] (by decide)
     have hskj : SnOk N (unB (g.take j) sn) := hsk.un (fun z hz => by obtain ⟨a, b, c, d, _⟩ := Tr.closed hT z (List.mem_of_mem_take hz); exact ⟨a, b, c, d⟩)
     refine wp_seq ?_; refine wp_region_lit ?_
     have hE := Env.refl a35 [36, 37, 38, 39, 11]; refine zm 36 hE k e0 ?_; intro a36 hE e36 kp; refine zm 37 hE k e1 ?_; intro a37 hE e37 kp; replace e36 := kt kp e36; refine zm 38 hE k e10 ?_; intro a38 hE e38 kp; replace e36 := kt kp e36; replace e37 := kt kp e37; apply Z09 39 hE k rfl (by rfl) (by rfl) rfl
     case h =>
      simp [go_sem, ↓IntWalk.iteOmega, ev e36, ev e37, ev e38]
      with_reducible exact ⟨rfl, rfl⟩
     case hc => exact rcNode (R := _ :: R) _ O (by omega) hpn hpr.1 (by omega) hx15 (fun h0 x hx => by have := Tr.pages hT _ (hxg h0 x hx); omega) (by omega) (by omega) hskj (by rw [List.length_append, List.length_singleton]; omega)
     clear O; rintro e w40 ⟨rfl, n2, m2, hn2, hm2, O⟩
     rw [unB_step sn hpj] at O
     refine ⟨_, rfl, ?_⟩
     intro a39 hE e39 kp; refine sd 11 hE k (Z01 rfl e39) ?_; intro a41 hE e11 kp; refine wpList_nil ?_; replace e0 := hE.g e0; replace e1 := hE.g e1; replace e30 := hE.g e30; replace e31 := hE.g e31; replace e32 := hE.g e32; replace k := k.env hE; clear hE e10; refine Z00 (wp_seq ?_); refine wp_region_lit ?_
     have hE := Env.refl a41 [40, 41]; refine zm 40 hE k e11 ?_; intro a42 hE e40 kp; refine sd 41 hE k (Z05 (Z0q rfl e40 rfl) (decide_eq_false (by omega))) ?_
     intro a43 hE e41 kp; refine wpList_nil ?_; replace e0 := hE.g e0; replace e1 := hE.g e1; replace e11 := hE.g e11; replace e30 := hE.g e30; replace e31 := hE.g e31; replace e32 := hE.g e32; replace k := k.env hE; clear hE; refine Z00 ?_; refine Z06 e41 rfl ?_
     refine wp_skip ?_; refine Z0u ?_; refine Z00 ?_; refine wp_region_lit ?_
     have hE := Env.refl a43 [43, 32]; refine sd 43 hE k (Z11 rfl e32 rfl (by omega)) ?_; intro a44 hE e43 kp; replace e32 := kt kp e32; refine sd 32 hE k (Z02 rfl e43) ?_; intro a45 hE e32 kp; refine wpList_nil ?_; replace e0 := hE.g e0; replace e1 := hE.g e1; replace e30 := hE.g e30; replace e31 := hE.g e31; replace k := k.env hE; clear hE e11 e41; refine Z00 ?_; refine ⟨⟨k, e0, e1, e30, e31, j + 1, n2, m2, e32, by omega, by omega, by omega, OwnT.pickR (L := [_, _, _, _, _, _, _]) (R := R) O [0, 1, 2, 6, 3, 4, 5] (by decide)⟩, ?_⟩
     rw [e32, mjx]; simp only [intOf]; omega
   · obtain rfl : j = g.length := by omega
     clear mjx; rw [List.take_length] at O
     refine wp_seq ?_; refine wp_region_lit ?_
     have hE := Env.refl a30 [33]; refine sd 33 hE k (Z05 (Z1d rfl (hE.g e32) (hE.g e31)) (decide_eq_false (by omega))) ?_
     intro a46 hE e33 kp; refine wpList_nil ?_; replace e0 := hE.g e0; replace e1 := hE.g e1; replace e30 := hE.g e30; replace e31 := hE.g e31; replace e32 := hE.g e32; replace k := k.env hE; clear hE; refine Z00 (wp_seq ?_); refine Z06 e33 rfl ?_
     refine wp_exit ?_
     refine Z1g ?_
     refine Z1g ?_
     refine Z1q ?_
     refine Z00 (wp_seq ?_); refine wp_region_lit ?_
     have hE := Env.refl a46 [6]; refine sd 6 hE k (Z01 rfl rfl) ?_; intro a47 hE e6 kp; refine wpList_nil ?_; replace k := k.env hE; clear hE e0 e1 e30 e31 e32 e33; refine Z00 ?_; refine wp_ret ?_
     refine Z0v rfl k e6 ?_
     exact ⟨rfl, nj, mj, by omega, by omega, by rw [if_neg (show ¬ r = 0 by omega)]; exact OwnT.pickR (L := [_, _, _, _, _, _, _]) (R := R) O [0, 1, 2, 4, 5, 6] (by decide)⟩
set_option maxRecDepth 100000 in
set_option maxHeartbeats 4000000 in
theorem rcRefs {H : Nat} {A0 : World} {R : List Thing} {sb cap : Nat} {room : Int} {B : Option Addr} {vs : List Value} {N : List Nd} {cr : Nat} {Br : Option Addr} {tg : Tg} (w : World) (O : OwnT H A0 (shT sb room B cap vs N (tNs (.slice Br tg.length cr) (tg.map Prod.fst) :: R)) w) (hok : TgOk N tg) (hN : N.length ≤ 511) (ht : tg.length ≤ 40) : Calls Try.prog 14 #[.iface 47 (.pointer (some ⟨sb, 0, none⟩)), .slice Br tg.length cr] w fun e w' => ∃ Bo co, e = .returned (.tuple #[.slice Bo (refL N tg).length co, .int .i64 0]) ∧ OwnT H A0 (shT sb room B cap vs N (tRf (.slice Bo (refL N tg).length co) (refL N tg) :: tNs (.slice Br tg.length cr) (tg.map Prod.fst) :: R)) w' := by
 refine Z0a Try.func14 rfl 55 rfl (by rfl) ?_
 intro a1 k hargs; have e0 : a1.eval (.tmp 0) = .iface 47 (.pointer (some ⟨sb, 0, none⟩)) := hargs 0 _ rfl
 have e1 : a1.eval (.tmp 1) = .slice Br tg.length cr := hargs 1 _ rfl
 clear hargs; refine wp_seq ?_; refine wp_region_lit ?_
 have hE := Env.refl a1 [4, 5]; refine sd 4 hE k (Z01 rfl rfl) ?_; intro a2 hE e4 kp; refine sd 5 hE k (Z01 rfl rfl) ?_; intro a3 hE e5 kp; refine wpList_nil ?_; replace e0 := hE.g e0; replace e1 := hE.g e1; replace k := k.env hE; clear hE e5; refine Z00 (wp_seq ?_); refine wp_region_lit ?_
 have hE := Env.refl a3 [13, 14, 15, 16, 6]; refine Z7j O 13 hE k rfl (by rfl) (by rfl) rfl (by simp [go_sem, ↓IntWalk.iteOmega, @run_makeMap Try.prog]) ?_
 clear O; intro lb a4 w5 O hE e13 kp; refine Z7j O 14 hE k rfl (by rfl) (by rfl) rfl (by simp [go_sem, ↓IntWalk.iteOmega, @run_makeMap Try.prog]) ?_
 clear O; intro sm a6 w7 O hE e14 kp; replace e13 := kt kp e13; apply Z03 15 hE k rfl rfl rfl rfl; case h =>
  simp [go_sem, ↓IntWalk.iteOmega, ev e13, ev e14]
  with_reducible rfl
 intro a8 hE e15 kp; refine Z0k O (cs := #[.map (some lb), .map (some sm)]) (t := 90) 16 hE k rfl (by rfl) (by rfl) rfl (by simp [go_sem, ↓IntWalk.iteOmega, ev e15]) ?_
 clear O; intro cb a9 w10 O hE e16 kp; refine sd 6 hE k (Z01 rfl e16) ?_; intro a11 hE e6 kp; refine wpList_nil ?_; replace e0 := hE.g e0; replace e1 := hE.g e1; replace k := k.env hE; clear hE; refine Z00 ?_; replace O : OwnT _ _ ((tBlk sb 49 #[.slice B N.length cap, .int .i64 room]) :: (tRow 46 2 (.slice B N.length cap) N.length (leafV vs N)) :: (tPool vs N) :: (tBlk cb 90 #[.map (some lb), .map (some sm)]) :: (tMap lb 0 (fun _ => none)) :: (tMap sm 0 (fun _ => none)) :: (tNs (.slice Br tg.length cr) (tg.map Prod.fst)) :: R) w10 := OwnT.pickR (L := [_, _, _, _, _, _, _]) (R := R) O [3, 4, 5, 0, 2, 1, 6] (by decide)
 refine wp_seq ?_; refine wp_seq ?_; refine wp_region_lit ?_
 have hE := Env.refl a11 [17, 18, 19]; refine zm 17 hE k e1 ?_; intro a12 hE e17 kp; refine sd 18 hE k (Z0j Try.underlying43 rfl e17) ?_; intro a13 hE e18 kp; replace e17 := kt kp e17; refine sd 19 hE k (Z02 rfl rfl) ?_; intro a14 hE e19 kp; replace e17 := kt kp e17; replace e18 := kt kp e18; refine wpList_nil ?_; replace e0 := hE.g e0; replace e6 := hE.g e6; replace k := k.env hE; clear hE e1; refine Z00 ?_; refine wp_block ?_; replace O : OwnT H A0 ((tBlk sb 49 #[.slice B N.length cap, .int .i64 room]) :: (tRow 46 2 (.slice B N.length cap) N.length (leafV vs N)) :: (tPool vs N) :: (tBlk cb 90 #[.map (some lb), .map (some sm)]) :: (tMap lb 0 (mapL (ldF N (rsF (tg.take 0)) (snF (tg.take 0))))) :: (tMap sm 0 (mapS (snF (tg.take 0)))) :: (tNs (.slice Br tg.length cr) (tg.map Prod.fst)) :: R) w10 := by
  have h1 : mapL (ldF N (rsF (tg.take 0)) (snF (tg.take 0))) = fun _ => none := mapL_nil N
  have h2 : mapS (snF (tg.take 0)) = fun _ => none := mapS_nil
  rw [h1, h2]; exact O
 refine wp_loop (fun a w => Fr 55 a ∧ a.eval (.tmp 0) = .iface 47 (.pointer (some ⟨sb, 0, none⟩)) ∧ a.eval (.tmp 6) = .pointer (some ⟨cb, 0, none⟩) ∧ a.eval (.tmp 17) = .slice Br tg.length cr ∧ a.eval (.tmp 18) = .int .i64 ↑tg.length ∧ ∃ (j nj mj : Nat), a.eval (.tmp 19) = .int .i64 ↑j ∧ j ≤ tg.length ∧ nj ≤ 10000 * j ∧ mj ≤ 600 * j ∧ OwnT H A0 ((tBlk sb 49 #[.slice B N.length cap, .int .i64 room]) :: (tRow 46 2 (.slice B N.length cap) N.length (leafV vs N)) :: (tPool vs N) :: (tBlk cb 90 #[.map (some lb), .map (some sm)]) :: (tMap lb nj (mapL (ldF N (rsF (tg.take j)) (snF (tg.take j))))) :: (tMap sm mj (mapS (snF (tg.take j)))) :: (tNs (.slice Br tg.length cr) (tg.map Prod.fst)) :: R) w) (fun a w => tg.length - (intOf (a.eval (.tmp 19))).toNat) ?_ ?_
 · exact ⟨k, e0, e6, e17, e18, 0, 0, 0, e19, Nat.zero_le _, Nat.zero_le _, Nat.zero_le _, O⟩
 intro a15 w16 hI; clear k e0 e6 e17 e18; obtain ⟨k, e0, e6, e17, e18, h_⟩ := hI
 clear O e19; obtain ⟨j, nj, mj, e19, hj, hnj, hmj, O⟩ := h_
 have mjx := e19
 by_cases hlt : j < tg.length
 · have hltI : (j : Int) < (tg.length : Int) := by omega
   obtain ⟨x, hxj⟩ : ∃ x, tg[j]? = some x := ⟨_, List.getElem?_eq_getElem hlt⟩
   obtain ⟨m, L, hRT, hm7, hgl, hpl⟩ := hok x (List.mem_of_getElem? hxj)
   have hxr : (tg.map Prod.fst)[j]? = some x.1 := by rw [List.getElem?_map, hxj]; rfl
   obtain ⟨gp, rfl, d0⟩ := Z66 (OwnT.get O 6 rfl) hxr
   have htk : tg.take (j + 1) = tg.take j ++ [x] := by rw [List.take_add_one, hxj]; rfl
   have hrl : (rsF (tg.take j)).length ≤ 900 := Nat.le_trans (rsF_len _) (by rw [List.length_take]; omega)

   refine wp_seq ?_; refine wp_region_lit ?_
   have hE := Env.refl a15 [20]; refine sd 20 hE k (Z05 (Z1d rfl (hE.g e19) (hE.g e18)) (decide_eq_true (by omega))) ?_
   intro a17 hE e20 kp; refine wpList_nil ?_; replace e0 := hE.g e0; replace e6 := hE.g e6; replace e17 := hE.g e17; replace e18 := hE.g e18; replace e19 := hE.g e19; replace k := k.env hE; clear hE; refine Z00 (wp_seq ?_); refine Z0h e20 rfl ?_
   refine wp_skip ?_; refine Z00 (wp_seq ?_); refine wp_block ?_; refine wp_seq ?_; refine wp_region_lit ?_
   have hE := Env.refl a17 [21, 22, 8]; apply Z03 21 hE k rfl rfl rfl rfl; case h =>
    simp [go_sem, ↓IntWalk.iteOmega, ev (hE.g e17), ev (hE.g e19)]
    with_reducible rfl
   intro a18 hE e21 kp; apply Z03 22 hE k rfl rfl rfl rfl; case h =>
    simp [go_sem, ↓IntWalk.iteOmega, ev e21, d0]
    with_reducible rfl
   intro a19 hE e22 kp; refine sd 8 hE k (Z01 rfl e22) ?_; intro a20 hE e8 kp; refine wpList_nil ?_; replace e0 := hE.g e0; replace e6 := hE.g e6; replace e17 := hE.g e17; replace e18 := hE.g e18; replace e19 := hE.g e19; replace k := k.env hE; clear hE e20; refine Z00 ?_; clear d0; refine wp_seq ?_; refine wp_region_lit ?_
   have hE := Env.refl a20 [23, 24, 25, 26, 9]; refine zm 23 hE k e6 ?_; intro a21 hE e23 kp; refine zm 24 hE k e0 ?_; intro a22 hE e24 kp; replace e23 := kt kp e23; refine zm 25 hE k e8 ?_; intro a23 hE e25 kp; replace e23 := kt kp e23; replace e24 := kt kp e24; apply Z09 26 hE k rfl (by rfl) (by rfl) rfl
   case h =>
    simp [go_sem, ↓IntWalk.iteOmega, ev e23, ev e24, ev e25]
    with_reducible exact ⟨rfl, rfl⟩
   case hc => exact rcRoot (R := _ :: R) _ O hRT hm7 hN hgl hpl (by omega) (by omega) (snF_ok (hok.take j)) hrl
   clear O; rintro e w25 ⟨rfl, n2, m2, hn2, hm2, O⟩
   rw [← rsF_app, ← snF_app, ← htk] at O
   refine ⟨_, rfl, ?_⟩
   intro a24 hE e26 kp; refine sd 9 hE k (Z01 rfl e26) ?_; intro a26 hE e9 kp; refine wpList_nil ?_; replace e0 := hE.g e0; replace e6 := hE.g e6; replace e17 := hE.g e17; replace e18 := hE.g e18; replace e19 := hE.g e19; replace k := k.env hE; clear hE e8; refine Z00 (wp_seq ?_); refine wp_region_lit ?_
   have hE := Env.refl a26 [27, 28]; refine zm 27 hE k e9 ?_; intro a27 hE e27 kp; refine sd 28 hE k (Z05 (Z0q rfl e27 rfl) (decide_eq_false (by omega))) ?_
   intro a28 hE e28 kp; refine wpList_nil ?_; replace e0 := hE.g e0; replace e6 := hE.g e6; replace e9 := hE.g e9; replace e17 := hE.g e17; replace e18 := hE.g e18; replace e19 := hE.g e19; replace k := k.env hE; clear hE; refine Z00 ?_; refine Z06 e28 rfl ?_
   refine wp_skip ?_; refine Z0u ?_; refine Z00 ?_; refine wp_region_lit ?_
   have hE := Env.refl a28 [30, 19]; refine sd 30 hE k (Z11 rfl e19 rfl (by omega)) ?_; intro a29 hE e30 kp; replace e19 := kt kp e19; refine sd 19 hE k (Z02 rfl e30) ?_; intro a30 hE e19 kp; refine wpList_nil ?_; replace e0 := hE.g e0; replace e6 := hE.g e6; replace e17 := hE.g e17; replace e18 := hE.g e18; replace k := k.env hE; clear hE e9 e28; refine Z00 ?_; refine ⟨⟨k, e0, e6, e17, e18, j + 1, n2, m2, e19, by omega, by omega, by omega, O⟩, ?_⟩
   rw [e19, mjx]; simp only [intOf]; omega
 · obtain rfl : j = tg.length := by omega
   clear mjx; rw [List.take_length] at O
   obtain ⟨ks, hks⟩ : ∃ ks, keysN (snF tg) = ks := ⟨_, rfl⟩
   have hkl : ks.length ≤ 1023 := by rw [← hks]; exact Z30 _

   refine wp_seq ?_; refine wp_region_lit ?_
   have hE := Env.refl a15 [20]; refine sd 20 hE k (Z05 (Z1d rfl (hE.g e19) (hE.g e18)) (decide_eq_false (by omega))) ?_
   intro a31 hE e20 kp; refine wpList_nil ?_; replace e0 := hE.g e0; replace e6 := hE.g e6; replace e17 := hE.g e17; replace e18 := hE.g e18; replace e19 := hE.g e19; replace k := k.env hE; clear hE; refine Z00 (wp_seq ?_); refine Z06 e20 rfl ?_
   refine wp_exit ?_
   refine Z1g ?_
   refine Z1g ?_
   refine Z1q ?_
   refine Z00 (wp_seq ?_); refine wp_region_lit ?_
   have hE := Env.refl a31 [10]; refine sd 10 hE k (Z01 rfl rfl) ?_; intro a32 hE e10 kp; refine wpList_nil ?_; replace e6 := hE.g e6; replace k := k.env hE; clear hE e0 e17 e18 e19 e20; refine Z00 (wp_seq ?_); refine wp_seq ?_; refine wp_region_lit ?_
   have hE := Env.refl a32 [31, 32, 33, 34, 35, 36, 37, 38]; refine zm 31 hE k e6 ?_; intro a33 hE e31 kp; refine sd 32 hE k (Z17 rfl e31) ?_; intro a34 hE e32 kp; apply Z03 33 hE k rfl rfl rfl rfl; case h =>
    simp [go_sem, ↓IntWalk.iteOmega, ev e32]
    with_reducible rfl
   intro a35 hE e33 kp; refine sd 34 hE k (Z08 O 3 rfl rfl e33 rfl Try.underlying87 rfl) ?_; intro a36 hE e34 kp; apply Z09 35 hE k rfl (by rfl) (by rfl) rfl
   case h =>
    simp [go_sem, ↓IntWalk.iteOmega, ev e34]
    with_reducible exact ⟨rfl, rfl⟩
   case hc => exact keysR lb _ O
   clear O; rintro e w38 ⟨ib, rfl, O⟩
   refine ⟨_, rfl, ?_⟩
   intro a37 hE e35 kp; apply Z09 36 hE k rfl (by rfl) (by rfl) rfl
   case h =>
    simp [go_sem, ↓IntWalk.iteOmega, ev e35]
    with_reducible exact ⟨rfl, rfl⟩
   case hc => exact sortedR lb ib nj _ (snF tg) _ O (OwnT.get O 5 rfl) (by omega) (ld_pages hok (by omega)) (fun q hq => by have := snF_rng hok hq; omega)
   clear O; rintro e w40 ⟨Bk, ck, rfl, O⟩
   rw [hks] at O
   refine ⟨.slice Bk ks.length ck, by rw [hks], ?_⟩
   intro a39 hE e36 kp; refine sd 37 hE k (Z0j Try.underlying43 rfl e36) ?_; intro a41 hE e37 kp; replace e36 := kt kp e36; refine sd 38 hE k (Z02 rfl rfl) ?_; intro a42 hE e38 kp; replace e36 := kt kp e36; replace e37 := kt kp e37; refine wpList_nil ?_; replace e6 := hE.g e6; replace e10 := hE.g e10; replace k := k.env hE; clear hE; refine Z00 ?_; refine wp_block ?_; replace O : OwnT _ _ ((tBlk sb 49 #[.slice B N.length cap, .int .i64 room]) :: (tRow 46 2 (.slice B N.length cap) N.length (leafV vs N)) :: (tPool vs N) :: (tBlk cb 90 #[.map (some lb), .map (some sm)]) :: (tMap lb nj (mapL (ldF N (rsF tg) (snF tg)))) :: (tMap sm mj (mapS (snF tg))) :: (tNs (.slice Br tg.length cr) (tg.map Prod.fst)) :: (tNs (.slice Bk ks.length ck) ks) :: R) w40 := OwnT.pickR (L := [_, _, _, _, _, _, _, _, _]) (R := R) O [2, 3, 4, 5, 6, 7, 8, 0] (by decide)
   replace O := OwnT.nilRow O 59 2
   refine wp_loop (fun a w => Fr 55 a ∧ a.eval (.tmp 6) = .pointer (some ⟨cb, 0, none⟩) ∧ a.eval (.tmp 36) = .slice Bk ks.length ck ∧ a.eval (.tmp 37) = .int .i64 ↑ks.length ∧ ∃ (i : Nat) (Bo : Option Addr) (co : Nat), a.eval (.tmp 10) = .slice Bo i co ∧ a.eval (.tmp 38) = .int .i64 ↑i ∧ i ≤ ks.length ∧ OwnT H A0 ((tRow 59 2 (.slice Bo i co) i (((refL N tg).take i).flatMap encR)) :: (tBlk sb 49 #[.slice B N.length cap, .int .i64 room]) :: (tRow 46 2 (.slice B N.length cap) N.length (leafV vs N)) :: (tPool vs N) :: (tBlk cb 90 #[.map (some lb), .map (some sm)]) :: (tMap lb nj (mapL (ldF N (rsF tg) (snF tg)))) :: (tMap sm mj (mapS (snF tg))) :: (tNs (.slice Br tg.length cr) (tg.map Prod.fst)) :: (tNs (.slice Bk ks.length ck) ks) :: R) w) (fun a w => ks.length - (intOf (a.eval (.tmp 38))).toNat) ?_ ?_
   · exact ⟨k, e6, e36, e37, 0, none, 0, e10, e38, Nat.zero_le _, O⟩
   intro a43 w44 hI; clear k e6 e36 e37; obtain ⟨k, e6, e36, e37, h_⟩ := hI
   clear O e10 e38; obtain ⟨i, Bo, co, e10, e38, hi, O⟩ := h_
   have mi := e38
   have hrl : (refL N tg).length = ks.length := by unfold refL; rw [List.length_map, hks]
   by_cases hlt : i < ks.length
   · have hltI : (i : Int) < (ks.length : Int) := by omega
     obtain ⟨q, hq⟩ : ∃ q, ks[i]? = some q := ⟨_, List.getElem?_eq_getElem hlt⟩
     have hqr : 1 ≤ q ∧ q ≤ 1023 := by
      have h1 := List.mem_of_getElem? hq
      rw [← hks] at h1
      exact (Z68.1 h1).1
     have hqw : wfV (q : Int) := Z2s (by omega) (by omega)
     obtain ⟨z, hz⟩ : ∃ z, ldF N (rsF tg) (snF tg) q = z := ⟨_, rfl⟩
     have hrq : (refL N tg)[i]? = some (q, z) := by unfold refL; rw [List.getElem?_map, hks, hq, ← hz]; rfl
     have htk : (refL N tg).take (i + 1) = (refL N tg).take i ++ [(q, z)] := by rw [List.take_add_one, hrq]; rfl
     obtain ⟨gk, rfl, d0⟩ := Z66 (OwnT.get O 8 rfl) hq

     refine wp_seq ?_; refine wp_region_lit ?_
     have hE := Env.refl a43 [39]; refine sd 39 hE k (Z05 (Z1d rfl (hE.g e38) (hE.g e37)) (decide_eq_true (by omega))) ?_
     intro a45 hE e39 kp; refine wpList_nil ?_; replace e6 := hE.g e6; replace e10 := hE.g e10; replace e36 := hE.g e36; replace e37 := hE.g e37; replace e38 := hE.g e38; replace k := k.env hE; clear hE; refine Z00 (wp_seq ?_); refine Z0h e39 rfl ?_
     refine wp_skip ?_; refine Z00 (wp_seq ?_); refine wp_block ?_; refine wp_seq ?_; refine wp_region_lit ?_
     have hE := Env.refl a45 [40, 41, 12]; apply Z03 40 hE k rfl rfl rfl rfl; case h =>
      simp [go_sem, ↓IntWalk.iteOmega, ev (hE.g e36), ev (hE.g e38)]
      with_reducible rfl
     intro a46 hE e40 kp; apply Z03 41 hE k rfl rfl rfl rfl; case h =>
      simp [go_sem, ↓IntWalk.iteOmega, ev e40, d0]
      with_reducible rfl
     intro a47 hE e41 kp; refine sd 12 hE k (Z01 rfl e41) ?_; intro a48 hE e12 kp; refine wpList_nil ?_; replace e6 := hE.g e6; replace e10 := hE.g e10; replace e36 := hE.g e36; replace e37 := hE.g e37; replace e38 := hE.g e38; replace k := k.env hE; clear hE e39; refine Z00 ?_; clear d0; refine wp_region_lit ?_
     have hE := Env.refl a48 [42, 43, 44, 45, 46, 47, 48, 49, 50, 51, 52, 10]; refine sd 42 hE k (Z02 rfl e10) ?_; intro a49 hE e42 kp; replace e10 := kt kp e10; refine zm 43 hE k e12 ?_; intro a50 hE e43 kp; replace e10 := kt kp e10; replace e42 := kt kp e42; refine zm 44 hE k e6 ?_; intro a51 hE e44 kp; replace e10 := kt kp e10; replace e42 := kt kp e42; replace e43 := kt kp e43; refine sd 45 hE k (Z17 rfl e44) ?_; intro a52 hE e45 kp; replace e10 := kt kp e10; replace e42 := kt kp e42; replace e43 := kt kp e43; apply Z03 46 hE k rfl rfl rfl rfl; case h =>
      simp [go_sem, ↓IntWalk.iteOmega, ev e45]
      with_reducible rfl
     intro a53 hE e46 kp; replace e10 := kt kp e10; replace e42 := kt kp e42; replace e43 := kt kp e43; refine sd 47 hE k (Z08 O 4 rfl rfl e46 rfl Try.underlying87 rfl) ?_; intro a54 hE e47 kp; replace e10 := kt kp e10; replace e42 := kt kp e42; replace e43 := kt kp e43; refine zm 48 hE k e12 ?_; intro a55 hE e48 kp; replace e10 := kt kp e10; replace e42 := kt kp e42; replace e43 := kt kp e43; replace e47 := kt kp e47; refine sd 49 hE k (Z1c (v := .int .i64 (z : Nat)) (Z5r (OwnT.get O 5 rfl) rfl Try.underlying87 (Z35 _) e47 e48 hqw) ((Z1v _ hqr.1).trans (by rw [hz]))) ?_
     intro a56 hE e49 kp; replace e10 := kt kp e10; replace e42 := kt kp e42; replace e43 := kt kp e43; apply Z03 50 hE k rfl rfl rfl rfl; case h =>
      simp [go_sem, ↓IntWalk.iteOmega, ev e43, ev e49]
      with_reducible rfl
     intro a57 hE e50 kp; replace e10 := kt kp e10; replace e42 := kt kp e42; refine Z1n (m := 1) (c := 1) O (cs := #[.int .i64 ↑q, .int .i64 ↑z]) (t := 59) 51 hE k rfl (by rfl) (by rfl) rfl (by simp [go_sem, ↓IntWalk.iteOmega, ev e50]) ?_
     clear O; intro gn a58 w59 O hE e51 kp; replace e10 := kt kp e10; replace e42 := kt kp e42; obtain ⟨gr, cr2, w60, hrun, O⟩ := Z3d O elemRf (by decide) rfl (by intro u hu; simp at hu; rcases hu with rfl | rfl <;> rfl) (by unfold maxLen; omega) (by omega)
     apply Z1r 52 hE k rfl (by rfl) (by rfl) rfl
     case h => exact Z1e rfl e42 e51 (hrun _)
     clear hrun; intro a61 hE e52 kp; replace e10 := kt kp e10; refine sd 10 hE k (Z01 rfl e52) ?_; intro a62 hE e10 kp; refine wpList_nil ?_; replace e6 := hE.g e6; replace e36 := hE.g e36; replace e37 := hE.g e37; replace e38 := hE.g e38; replace k := k.env hE; clear hE e12; refine Z0u ?_; refine Z00 ?_; refine wp_region_lit ?_
     have hE := Env.refl a62 [53, 38]; refine sd 53 hE k (Z11 rfl e38 rfl (by omega)) ?_; intro a63 hE e53 kp; replace e38 := kt kp e38; refine sd 38 hE k (Z02 rfl e53) ?_; intro a64 hE e38 kp; refine wpList_nil ?_; replace e6 := hE.g e6; replace e10 := hE.g e10; replace e36 := hE.g e36; replace e37 := hE.g e37; replace k := k.env hE; clear hE; refine Z00 ?_; rw [show ((refL N tg).take i).flatMap encR ++ [Value.int .i64 (q : Int), Value.int .i64 (z : Int)] = ((refL N tg).take (i + 1)).flatMap encR by rw [htk, List.flatMap_append]; rfl] at O
     refine ⟨⟨k, e6, e36, e37, i + 1, some ⟨gr, 0, none⟩, cr2, e10, e38, by omega, O⟩, ?_⟩
     rw [e38, mi]; simp only [intOf]; omega
   · obtain rfl : i = ks.length := by omega
     clear mi; rw [← hrl, List.take_length] at O
     rw [← hrl] at e10
     refine wp_seq ?_; refine wp_region_lit ?_
     have hE := Env.refl a43 [39]; refine sd 39 hE k (Z05 (Z1d rfl (hE.g e38) (hE.g e37)) (decide_eq_false (by omega))) ?_
     intro a65 hE e39 kp; refine wpList_nil ?_; replace e6 := hE.g e6; replace e10 := hE.g e10; replace e36 := hE.g e36; replace e37 := hE.g e37; replace e38 := hE.g e38; replace k := k.env hE; clear hE; refine Z00 (wp_seq ?_); refine Z06 e39 rfl ?_
     refine wp_exit ?_
     refine Z1g ?_
     refine Z1g ?_
     refine Z1q ?_
     refine Z00 (wp_seq ?_); refine wp_region_lit ?_
     have hE := Env.refl a65 [54, 4, 5]; refine zm 54 hE k e10 ?_; intro a66 hE e54 kp; refine sd 4 hE k (Z01 rfl e54) ?_; intro a67 hE e4 kp; refine sd 5 hE k (Z01 rfl rfl) ?_; intro a68 hE e5 kp; replace e4 := kt kp e4; refine wpList_nil ?_; replace k := k.env hE; clear hE e6 e10 e36 e37 e38 e39; refine Z00 ?_; refine wp_ret ?_
     refine Z1p rfl k e4 e5 ?_
     exact ⟨Bo, co, rfl, OwnT.pickR (L := [_, _, _, _, _, _, _, _, _]) (R := R) O [1, 2, 3, 0, 7] (by decide)⟩
set_option maxRecDepth 100000 in
set_option maxHeartbeats 4000000 in
theorem rcPages {H : Nat} {A0 : World} {R : List Thing} {sb cap : Nat} {room : Int} {B : Option Addr} {vs : List Value} {N : List Nd} {cr : Nat} {Br : Option Addr} {tg : Tg} (w : World) (O : OwnT H A0 (shT sb room B cap vs N (tNs (.slice Br tg.length cr) (tg.map Prod.fst) :: R)) w) (hok : TgOk N tg) (hN : N.length ≤ 511) (ht : tg.length ≤ 40) : Calls Try.prog 15 #[.iface 47 (.pointer (some ⟨sb, 0, none⟩)), .slice Br tg.length cr] w fun e w' => ∃ Bo co, e = .returned (.tuple #[.slice Bo (keysN (snF tg)).length co, .int .i64 0]) ∧ OwnT H A0 (shT sb room B cap vs N (tNs (.slice Bo (keysN (snF tg)).length co) (keysN (snF tg)) :: tNs (.slice Br tg.length cr) (tg.map Prod.fst) :: R)) w' := by
 obtain ⟨l, hrf⟩ : ∃ l, refL N tg = l := ⟨_, rfl⟩
 have hlk : l.map Prod.fst = (keysN (snF tg)) := by rw [← hrf]; unfold refL; rw [List.map_map]; exact List.map_id _
 have hll : l.length = (keysN (snF tg)).length := by rw [← hlk, List.length_map]
 have hkl : l.length ≤ 1023 := by rw [hll]; exact Z30 _
 refine Z0a Try.func15 rfl 31 rfl (by rfl) ?_
 intro a1 k hargs; have e0 : a1.eval (.tmp 0) = .iface 47 (.pointer (some ⟨sb, 0, none⟩)) := hargs 0 _ rfl
 have e1 : a1.eval (.tmp 1) = .slice Br tg.length cr := hargs 1 _ rfl
 clear hargs; refine wp_seq ?_; refine wp_region_lit ?_
 have hE := Env.refl a1 [4, 5]; refine sd 4 hE k (Z01 rfl rfl) ?_; intro a2 hE e4 kp; refine sd 5 hE k (Z01 rfl rfl) ?_; intro a3 hE e5 kp; refine wpList_nil ?_; replace e0 := hE.g e0; replace e1 := hE.g e1; replace k := k.env hE; clear hE e5; refine Z00 (wp_seq ?_); refine wp_region_lit ?_
 have hE := Env.refl a3 [12, 13, 14, 11, 15, 16, 6, 7]; refine zm 12 hE k e0 ?_; intro a4 hE e12 kp; refine zm 13 hE k e1 ?_; intro a5 hE e13 kp; replace e12 := kt kp e12; apply Z09 14 hE k rfl (by rfl) (by rfl) rfl
 case h =>
  simp [go_sem, ↓IntWalk.iteOmega, ev e12, ev e13]
  with_reducible exact ⟨rfl, rfl⟩
 case hc => exact rcRefs _ O hok hN ht
 clear O; rintro e w7 ⟨Bf, cf, rfl, O⟩
 rw [hrf] at O
 refine ⟨.tuple #[.slice Bf l.length cf, .int .i64 0], by rw [hrf], ?_⟩
 intro a6 hE e14 kp; refine sd 11 hE k (Z02 rfl e14) ?_; intro a8 hE e11 kp; apply Z03 15 hE k rfl rfl rfl rfl; case h =>
  simp [go_sem, ↓IntWalk.iteOmega, ev e11]
  with_reducible rfl
 intro a9 hE e15 kp; replace e11 := kt kp e11; apply Z03 16 hE k rfl rfl rfl rfl; case h =>
  simp [go_sem, ↓IntWalk.iteOmega, ev e11]
  with_reducible rfl
 intro a10 hE e16 kp; replace e15 := kt kp e15; refine sd 6 hE k (Z01 rfl e15) ?_; intro a11 hE e6 kp; replace e16 := kt kp e16; refine sd 7 hE k (Z01 rfl e16) ?_; intro a12 hE e7 kp; replace e6 := kt kp e6; refine wpList_nil ?_; replace k := k.env hE; clear hE e0 e1; refine Z00 (wp_seq ?_); refine wp_region_lit ?_
 have hE := Env.refl a12 [8]; refine sd 8 hE k (Z01 rfl rfl) ?_; intro a13 hE e8 kp; refine wpList_nil ?_; replace e6 := hE.g e6; replace e7 := hE.g e7; replace k := k.env hE; clear hE; refine Z00 (wp_seq ?_); refine wp_seq ?_; refine wp_region_lit ?_
 have hE := Env.refl a13 [17, 18, 19]; refine zm 17 hE k e6 ?_; intro a14 hE e17 kp; refine sd 18 hE k (Z0j Try.underlying50 rfl e17) ?_; intro a15 hE e18 kp; replace e17 := kt kp e17; refine sd 19 hE k (Z02 rfl rfl) ?_; intro a16 hE e19 kp; replace e17 := kt kp e17; replace e18 := kt kp e18; refine wpList_nil ?_; replace e7 := hE.g e7; replace e8 := hE.g e8; replace k := k.env hE; clear hE e6; refine Z00 ?_; refine wp_block ?_; replace O := OwnT.nilRow O 3 1
 refine wp_loop (fun a w => Fr 31 a ∧ a.eval (.tmp 7) = .int .i64 0 ∧ a.eval (.tmp 17) = .slice Bf l.length cf ∧ a.eval (.tmp 18) = .int .i64 ↑l.length ∧ ∃ (i : Nat) (Bo : Option Addr) (co : Nat), a.eval (.tmp 8) = .slice Bo i co ∧ a.eval (.tmp 19) = .int .i64 ↑i ∧ i ≤ l.length ∧ OwnT H A0 ((tRow 3 1 (.slice Bo i co) i (((l.map Prod.fst).take i).flatMap encN)) :: (tBlk sb 49 #[.slice B N.length cap, .int .i64 room]) :: (tRow 46 2 (.slice B N.length cap) N.length (leafV vs N)) :: (tPool vs N) :: (tRf (.slice Bf l.length cf) l) :: (tNs (.slice Br tg.length cr) (tg.map Prod.fst)) :: R) w) (fun a w => l.length - (intOf (a.eval (.tmp 19))).toNat) ?_ ?_
 · exact ⟨k, e7, e17, e18, 0, none, 0, e8, e19, Nat.zero_le _, O⟩
 intro a17 w18 hI; clear k e7 e17 e18; obtain ⟨k, e7, e17, e18, h_⟩ := hI
 clear O e8 e19; obtain ⟨i, Bo, co, e8, e19, hi, O⟩ := h_
 have mi := e19
 by_cases hlt : i < l.length
 · have hltI : (i : Int) < (l.length : Int) := by omega
   obtain ⟨x, hx⟩ : ∃ x, l[i]? = some x := ⟨_, List.getElem?_eq_getElem hlt⟩
   have htk : (l.map Prod.fst).take (i + 1) = (l.map Prod.fst).take i ++ [x.1] := by rw [List.take_add_one, List.getElem?_map, hx]; rfl
   obtain ⟨gf, rfl, d0, d1⟩ := Z3h (OwnT.get O 4 rfl) hx

   refine wp_seq ?_; refine wp_region_lit ?_
   have hE := Env.refl a17 [20]; refine sd 20 hE k (Z05 (Z1d rfl (hE.g e19) (hE.g e18)) (decide_eq_true (by omega))) ?_
   intro a19 hE e20 kp; refine wpList_nil ?_; replace e7 := hE.g e7; replace e8 := hE.g e8; replace e17 := hE.g e17; replace e18 := hE.g e18; replace e19 := hE.g e19; replace k := k.env hE; clear hE; refine Z00 (wp_seq ?_); refine Z0h e20 rfl ?_
   refine wp_skip ?_; refine Z00 (wp_seq ?_); refine wp_block ?_; refine wp_seq ?_; refine wp_region_lit ?_
   have hE := Env.refl a19 [21, 22, 10]; apply Z03 21 hE k rfl rfl rfl rfl; case h =>
    simp [go_sem, ↓IntWalk.iteOmega, ev (hE.g e17), ev (hE.g e19)]
    with_reducible rfl
   intro a20 hE e21 kp; apply Z03 22 hE k rfl rfl rfl rfl; case h =>
    simp [go_sem, ↓IntWalk.iteOmega, ev e21, d0, d1]
    with_reducible rfl
   intro a21 hE e22 kp; refine Z0k O (cs := #[.int .i64 0, .int .i64 0]) (t := 59) 10 hE k rfl (by rfl) (by rfl) rfl (by simp [go_sem, ↓IntWalk.iteOmega]) ?_
   clear O; intro xb a22 w23 O hE e10 kp; replace e22 := kt kp e22; refine Z1f O 0 0 hE e10 e22 ?_
   clear O; intro w24 O; replace O : OwnT _ _ ((tBlk xb 59 #[.int .i64 ↑x.1, .int .i64 ↑x.2]) :: _) w24 := O
   refine wpList_nil ?_; replace e7 := hE.g e7; replace e8 := hE.g e8; replace e17 := hE.g e17; replace e18 := hE.g e18; replace e19 := hE.g e19; replace k := k.env hE; clear hE e20 e22; refine Z00 ?_; clear d0 d1; replace O : OwnT _ _ ((tRow 3 1 (.slice Bo i co) i (((l.map Prod.fst).take i).flatMap encN)) :: (tBlk xb 59 #[.int .i64 ↑x.1, .int .i64 ↑x.2]) :: (tBlk sb 49 #[.slice B N.length cap, .int .i64 room]) :: (tRow 46 2 (.slice B N.length cap) N.length (leafV vs N)) :: (tPool vs N) :: (tRf (.slice (some ⟨gf, 0, none⟩) l.length cf) l) :: (tNs (.slice Br tg.length cr) (tg.map Prod.fst)) :: R) w24 := OwnT.pickR (L := [_, _, _, _, _, _, _]) (R := R) O [1, 0, 2, 3, 4, 5, 6] (by decide)
   refine wp_region_lit ?_
   have hE := Env.refl a22 [23, 24, 25, 26, 27, 8]; refine sd 23 hE k (Z02 rfl e8) ?_; intro a25 hE e23 kp; replace e8 := kt kp e8; apply Z03 24 hE k rfl rfl rfl rfl; case h =>
    simp [go_sem, ↓IntWalk.iteOmega, ev (hE.g e10)]
    with_reducible rfl
   intro a26 hE e24 kp; replace e8 := kt kp e8; replace e23 := kt kp e23; refine sd 25 hE k (Z08 O 1 rfl rfl e24 rfl Try.underlying3 rfl) ?_; intro a27 hE e25 kp; replace e8 := kt kp e8; replace e23 := kt kp e23; refine Z1n (m := 1) (c := 1) O (cs := #[.int .i64 ↑x.1]) (t := 3) 26 hE k rfl (by rfl) (by rfl) rfl (by simp [go_sem, ↓IntWalk.iteOmega, ev e25]) ?_
   clear O; intro gn a28 w29 O hE e26 kp; replace e8 := kt kp e8; replace e23 := kt kp e23; obtain ⟨gr, cr2, w30, hrun, O⟩ := Z3d O elemIr (by decide) rfl (by intro u hu; simp at hu; subst hu; rfl) (by unfold maxLen; omega) (by omega)
   apply Z1r 27 hE k rfl (by rfl) (by rfl) rfl
   case h => exact Z1e rfl e23 e26 (hrun _)
   clear hrun; intro a31 hE e27 kp; replace e8 := kt kp e8; refine sd 8 hE k (Z01 rfl e27) ?_; intro a32 hE e8 kp; refine wpList_nil ?_; replace e7 := hE.g e7; replace e17 := hE.g e17; replace e18 := hE.g e18; replace e19 := hE.g e19; replace k := k.env hE; clear hE e10; refine Z0u ?_; refine Z00 ?_; refine wp_region_lit ?_
   have hE := Env.refl a32 [28, 19]; refine sd 28 hE k (Z11 rfl e19 rfl (by omega)) ?_; intro a33 hE e28 kp; replace e19 := kt kp e19; refine sd 19 hE k (Z02 rfl e28) ?_; intro a34 hE e19 kp; refine wpList_nil ?_; replace e7 := hE.g e7; replace e8 := hE.g e8; replace e17 := hE.g e17; replace e18 := hE.g e18; replace k := k.env hE; clear hE; refine Z00 ?_; rw [show ((l.map Prod.fst).take i).flatMap encN ++ [Value.int .i64 (x.1 : Int)] = ((l.map Prod.fst).take (i + 1)).flatMap encN by rw [htk, List.flatMap_append]; rfl] at O
   refine ⟨⟨k, e7, e17, e18, i + 1, some ⟨gr, 0, none⟩, cr2, e8, e19, by omega, OwnT.pickR (L := [_, _, _, _, _, _, _]) (R := R) O [0, 2, 3, 4, 5, 6] (by decide)⟩, ?_⟩
   rw [e19, mi]; simp only [intOf]; omega
 · obtain rfl : i = l.length := by omega
   clear mi; rw [hll, hlk, List.take_length] at O
   rw [hll] at e8
   refine wp_seq ?_; refine wp_region_lit ?_
   have hE := Env.refl a17 [20]; refine sd 20 hE k (Z05 (Z1d rfl (hE.g e19) (hE.g e18)) (decide_eq_false (by omega))) ?_
   intro a35 hE e20 kp; refine wpList_nil ?_; replace e7 := hE.g e7; replace e8 := hE.g e8; replace e17 := hE.g e17; replace e18 := hE.g e18; replace e19 := hE.g e19; replace k := k.env hE; clear hE; refine Z00 (wp_seq ?_); refine Z06 e20 rfl ?_
   refine wp_exit ?_
   refine Z1g ?_
   refine Z1g ?_
   refine Z1q ?_
   refine Z00 (wp_seq ?_); refine wp_region_lit ?_
   have hE := Env.refl a35 [29, 30, 4, 5]; refine zm 29 hE k e8 ?_; intro a36 hE e29 kp; refine zm 30 hE k e7 ?_; intro a37 hE e30 kp; replace e29 := kt kp e29; refine sd 4 hE k (Z01 rfl e29) ?_; intro a38 hE e4 kp; replace e30 := kt kp e30; refine sd 5 hE k (Z01 rfl e30) ?_; intro a39 hE e5 kp; replace e4 := kt kp e4; refine wpList_nil ?_; replace k := k.env hE; clear hE e7 e8 e17 e18 e19 e20; refine Z00 ?_; refine wp_ret ?_
   refine Z1p rfl k e4 e5 ?_
   exact ⟨Bo, co, rfl, OwnT.pickR (L := [_, _, _, _, _, _]) (R := R) O [1, 2, 3, 0, 5] (by decide)⟩
end Go.Proofs.Ytbfgacmfjfbooaa

/- reach: Refs, Pages over any reader of pages (by the machine). -/
namespace Go.Proofs.Ytbfgacmfjfbooaa
set_option linter.unusedVariables false
set_option linter.unusedSimpArgs false
set_option linter.unusedVariables false
set_option linter.unusedSimpArgs false
open Go.RowKit

def refsE (N : Nfn) (rs : List Int) : Option (List Nat × List Nat) := rs.foldl (fun o r => o.bind (rootE N r)) (some ([], []))
def EvOk (E : List Nat) : Prop := ∀ q ∈ E, 1 ≤ q ∧ q ≤ 1023
theorem Z7t {N : Nfn} {q : Nat} (h : PgOk N q) {st : List Nat × List Nat} (hE : EvOk st.1) : EvOk (nodeE N q st).1 := by
  obtain ⟨l, ps, hN, hg⟩ := h
  obtain ⟨h1, h2⟩ := Z2m hg
  unfold nodeE
  rw [hN]
  split
  · exact hE
  · simp only
    split
    · exact hE
    · intro x hx
      rcases List.mem_append.1 hx with hx | hx
      · exact hE x hx
      · obtain ⟨y, hy, rfl⟩ := List.mem_map.1 hx
        have := h2 (by omega) y hy
        omega
theorem Z4h {A : World} {p : Value} {N : Nfn} (hR : Reads A p N) {r : Int} {P : List Nat} (hv : reachV N r = some P) : ∀ x ∈ P, PgOk N x := by
  unfold reachV at hv
  split at hv
  · cases hv; simp
  · exact Z6o hR _ _ _ _ _ _ _ _ _ hv (by simp)
theorem Z3z {A : World} {p : Value} {N : Nfn} (hR : Reads A p N) {r : Int} {P : List Nat} (hv : reachV N r = some P) (h0 : r ≠ 0) : 1 ≤ r ∧ r ≤ 1023 := by
  unfold reachV at hv
  rw [if_neg h0, vis] at hv
  split at hv
  · cases hv
  · rename_i l ps hG
    unfold nodeG at hG
    split at hG
    · cases hG
    · rename_i l' ps' hN
      have := hR.bd _ _ _ hN
      omega
theorem rootE_ev {A : World} {p : Value} {N : Nfn} (hR : Reads A p N) {r : Int} {st st' : List Nat × List Nat} (h : rootE N r st = some st') (hE : EvOk st.1) : EvOk st'.1 := by
  unfold rootE at h
  split at h
  · cases h; exact hE
  · rename_i h0
    cases hv : reachV N r with
    | none => rw [hv] at h; cases h
    | some P =>
      rw [hv] at h
      cases h
      have hr := Z3z hR hv h0
      have hall := Z4h hR hv
      have key : ∀ (P : List Nat) (st : List Nat × List Nat), (∀ x ∈ P, PgOk N x) → EvOk st.1 → EvOk (P.foldl (fun st q => nodeE N q st) st).1 := by
        intro P
        induction P with
        | nil => intro st _ h; exact h
        | cons q P ih => intro st hP h; exact ih _ (fun x hx => hP x (by simp [hx])) (Z7t (hP q (by simp)) h)
      refine key P _ hall fun x hx => ?_
      rcases List.mem_append.1 hx with hx | hx
      · exact hE x hx
      · rw [List.mem_singleton.1 hx]; omega
/-- The pages, rising, and how often each is led to. -/
def keysE (E : List Nat) : List Nat := keysN (sen E)
def refsL (E : List Nat) : List (Nat × Nat) := (keysE E).map fun q => (q, cn E q)
theorem mapL_cn0 : mapL (cn []) = fun _ => none := by funext i; simp [mapL, cn]
theorem mapS_sen0 : mapS (sen []) = fun _ => none := by funext i; simp [mapS, sen]
theorem Z48 (N : Nfn) : ∀ rs : List Int, rs.foldl (fun o r => o.bind (rootE N r)) none = none
  | [] => rfl
  | r :: rs => Z48 N rs
theorem rf_snoc (l : List (Nat × Nat)) (x : Nat × Nat) : l.flatMap encR ++ [.int .i64 (x.1 : Nat), .int .i64 (x.2 : Nat)] = (l ++ [x]).flatMap encR := by simp [encR]
set_option maxRecDepth 10000 in
theorem crefsX {p : Value} {N : Nfn} {Br : Option Addr} {cr : Nat} (rs : List Int) (w0 : World) (hR : Reads w0 p N) (hpv : ∃ t v, p = .iface t v) (hrow : Row1 w0 Br (Value.int .i64) rs) (hl : rs.length ≤ 20) :
    Calls Try.prog 14 #[p, .slice Br rs.length cr] w0 fun e w' => match refsE N rs with
      | none => e = .returned (.tuple ⟨[.slice none 0 0, .int .i64 3]⟩) ∧ Ext w0 w'
      | some st => ∃ v, e = .returned (.tuple ⟨[v, .int .i64 0]⟩) ∧ OwnT w0.heap.size w0 [tRf v (refsL st.1)] w' := by
  obtain ⟨pt, pv, rfl⟩ := hpv
  refine fnG (aw0 w0) 55 Try.func14 rfl rfl rfl fun a h => ?_
  refine gX h [] rfl fun a w h => ?_
  refine gK h rfl (fun _ _ _ => trivial) fun lb a w E h => ?_
  refine gX h [] rfl fun a w h => ?_
  refine gK h rfl (fun _ _ _ => trivial) fun sm a w E h => ?_
  refine gX h [] rfl fun a w h => ?_
  refine gW h rfl fun cb a w E h => ?_
  have O1 : OwnT 0 w0 (tCs cb lb sm [] [] ++ [tAw w0]) w := by
    have h1 : OwnT 0 w0 [tBlk cb 90 ⟨[.map (some lb), .map (some sm)]⟩, tMap lb 0 (fun _ => none), tMap sm 0 (fun _ => none), tAw w0] w := OwnT.pick h.O [0, 2, 1, 3] (by decide)
    unfold tCs
    rw [mapL_cn0, mapS_sen0]
    exact h1
  refine gX (h.with O1) [] rfl fun a w h => ?_
  obtain ⟨F, hF⟩ : ∃ F, refsE N rs = F := ⟨_, rfl⟩
  rw [hF]
  refine lpG (G := Nat × List Nat × List Nat) (fun g => [(1, .slice Br rs.length cr), (0, .iface pt pv), (6, .pointer (some ⟨cb, 0, none⟩)), (17, .slice Br rs.length cr), (18, .int .i64 rs.length), (19, .int .i64 g.1)])
    (fun g => tCs cb lb sm g.2.1 g.2.2 ++ [tAw w0]) (fun g => g.1 ≤ rs.length ∧ g.2.1.length ≤ 16000 * g.1 ∧ g.2.2.length ≤ 16000 * g.1 ∧ EvOk g.2.1 ∧ F = (rs.drop g.1).foldl (fun o r => o.bind (rootE N r)) (some g.2)) (fun g => rs.length - g.1) (0, [], []) h ⟨rfl, rfl, rfl, rfl, rfl, rfl, trivial⟩ h.O ⟨Nat.zero_le _, by simp, by simp, (fun x hx => by cases hx), by rw [← hF]; rfl⟩ fun g ⟨hi, hl1, hl2, hev, hFe⟩ a w h => ?_
  obtain ⟨i, E, S⟩ := g
  simp only at hi hl1 hl2 hev hFe h ⊢
  by_cases h1 : i < rs.length
  · obtain ⟨r, hr⟩ : ∃ r, rs[i]? = some r := ⟨_, List.getElem?_eq_getElem h1⟩
    have hdr : rs.drop i = r :: rs.drop (i + 1) := by
      rw [List.drop_eq_getElem_cons h1]
      rw [List.getElem?_eq_getElem h1] at hr
      cases hr; rfl
    obtain ⟨b, o, rfl, -, q⟩ := hrow i r hr
    rw [hdr, List.foldl_cons, Option.bind_some] at hFe
    refine gX h [.t, vj (o + i), .k [3], .v (.int .i64 r)] rfl fun a w h => ?_
    refine gC h rfl (crootX (R := []) hR ⟨pt, pv, rfl⟩ r E S w h.O.unAw (by omega) (by omega)) ?_
    intro e w' hP
    cases hv : rootE N r (E, S) with
    | none =>
      rw [hv] at hP hFe
      rw [Z48] at hFe
      obtain ⟨rfl, O4⟩ := hP
      refine ⟨_, rfl, _, O4.withAw, trivial, fun a h => ?_⟩
      refine gX h [.t] rfl fun a w h => ?_
      exact gR h rfl (by rw [hFe]; exact ⟨rfl, h.O.awE (L := [_, _, _])⟩)
    | some st =>
      rw [hv] at hP hFe
      obtain ⟨rfl, O4, hb1, hb2⟩ := hP
      refine ⟨_, rfl, _, O4.withAw, trivial, fun a h => ?_⟩
      refine gX h [.f, vI (i + 1 : Nat)] rfl fun a w h => ?_
      exact reG (i + 1, st) h ⟨rfl, rfl, rfl, rfl, rfl, rfl, trivial⟩ h.O ⟨h1, by simp only; omega, by simp only; omega, rootE_ev hR hv hev, hFe⟩ (by simp only; omega)
  obtain rfl : i = rs.length := by omega
  rw [List.drop_length] at hFe
  rw [hFe]
  simp only [List.foldl_nil]
  have hks := Z30 (sen E)
  refine gX h [.f, 0] rfl fun a w h => ?_
  refine gC h rfl (keysR lb w h.O) ?_
  rintro e w' ⟨ib, rfl, O4⟩
  refine ⟨_, rfl, _, O4, trivial, fun a h => ?_⟩
  refine gC h rfl (sortedR lb ib E.length (cn E) (sen E) w' O4 O4.all.2.2.1 (by omega) (fun q => by unfold cn sen; rw [decide_eq_true_eq, ← List.count_pos_iff]; omega) (fun q hq => hev q (by simpa [sen] using hq))) ?_
  rintro e w' ⟨Bk, ck, rfl, O5⟩
  refine ⟨_, rfl, _, O5, trivial, fun a h => ?_⟩
  obtain ⟨ks, hk⟩ : ∃ ks, keysN (sen E) = ks := ⟨_, rfl⟩
  obtain ⟨RL, hRL⟩ : ∃ RL, refsL E = RL := ⟨_, rfl⟩
  have hRLe : RL = ks.map fun q => (q, cn E q) := by rw [← hRL, ← hk]; rfl
  rw [hRL]
  rw [hk] at h hks
  refine gX h [] rfl fun a w h => ?_
  have O6 : OwnT 0 w0 (tRf (.slice none 0 0) [] :: tNs (.slice Bk ks.length ck) ks :: (tCs cb lb sm E S ++ [tAw w0])) w :=
    (OwnT.pick h.O [0, 2, 3, 4, 5] (by decide) : OwnT 0 w0 [tNs (.slice Bk ks.length ck) ks, _, _, _, _] w).cons (Ext.refl _) (tRf (.slice none 0 0) []) (World.ownsRow_nil _ _ _ _) (fun i hi => by simp [tRow, Value.ownBlock] at hi)
  refine lpG (G := Nat × Value) (fun g => [(6, .pointer (some ⟨cb, 0, none⟩)), (10, g.2), (36, .slice Bk ks.length ck), (37, .int .i64 ks.length), (38, .int .i64 g.1)])
    (fun g => tRf g.2 (RL.take g.1) :: tNs (.slice Bk ks.length ck) ks :: (tCs cb lb sm E S ++ [tAw w0])) (fun g => g.1 ≤ ks.length) (fun g => ks.length - g.1) (0, .slice none 0 0) (h.with O6) ⟨rfl, rfl, rfl, rfl, rfl, trivial⟩ O6 (Nat.zero_le _) fun g hj a w h => ?_
  obtain ⟨j, v⟩ := g
  simp only at hj h ⊢
  have hRn : RL.length = ks.length := by rw [hRLe, List.length_map]
  by_cases h1 : j < ks.length
  · obtain ⟨q, hq⟩ : ∃ q, ks[j]? = some q := ⟨_, List.getElem?_eq_getElem h1⟩
    have qq : (ks.flatMap encN)[j]? = some (Value.int .i64 (q : Int)) := by rw [Z4k, hq]; rfl
    have hqm : q ∈ E := by
      have := List.mem_of_getElem? hq
      rw [← hk] at this
      unfold keysN at this
      simpa [sen] using (List.mem_filter.1 this).2
    obtain ⟨hq1, hq2⟩ := hev q hqm
    have htk : RL.take (j + 1) = RL.take j ++ [(q, cn E q)] := by
      rw [List.take_add_one, hRLe, List.getElem?_map, hq]
      rfl
    have htl : (RL.take j).length = j := by rw [List.length_take]; omega
    obtain ⟨b, rfl⟩ : ∃ b, Bk = some ⟨b, 0, none⟩ := by
      rcases (show World.ownsRow _ 0 _ _ _ _ _ from h.O.all.2.1).2 with ⟨-, h0⟩ | ⟨g, cap, cur, hv, -⟩
      · omega
      · injection hv with h1; exact ⟨g, h1⟩
    refine gX h [.t, vj j, 1, .v (.int .i64 (q : Nat)), 2] rfl fun a w h => ?_
    refine gL h rfl 3 rfl Try.underlying87 Z35 (Z2s (by omega) (by omega)) (Z1v (cn E) hq1) fun a h => ?_
    refine gX h [] rfl fun a w h => ?_
    refine gS (bytes := 16) h 59 2 rfl fun gs a w hE h => ?_
    refine gA (bytes := 16) h rfl 0 rfl (fun _ _ => rfl) (by omega) (fun _ _ _ _ => trivial) fun B3 c3 a w h => ?_
    have hsn := rf_snoc (RL.take j) (q, cn E q)
    simp only at hsn
    rw [hsn, ← htk, show (RL.take j).length + 1 = (RL.take (j + 1)).length by rw [htk]; simp] at h
    refine gX h [vI (j + 1 : Nat)] rfl fun a w h => ?_
    exact reG (j + 1, _) h ⟨rfl, rfl, rfl, rfl, rfl, trivial⟩ h.O h1 (by simp only; omega)
  · obtain rfl : j = ks.length := by omega
    rw [← hRn, List.take_length] at h
    refine gX h [.f] rfl fun a w h => ?_
    exact gR h rfl ⟨_, rfl, (OwnT.pick h.O [0, 5] (by decide) : OwnT 0 w0 ([tRf v RL] ++ [tAw w0]) w).unAw⟩
set_option maxRecDepth 10000 in
theorem cpagesX {p : Value} {N : Nfn} {Br : Option Addr} {cr : Nat} (rs : List Int) (w0 : World) (hR : Reads w0 p N) (hpv : ∃ t v, p = .iface t v) (hrow : Row1 w0 Br (Value.int .i64) rs) (hl : rs.length ≤ 20) :
    Calls Try.prog 15 #[p, .slice Br rs.length cr] w0 fun e w' => match refsE N rs with
      | none => e = .returned (.tuple ⟨[.slice none 0 0, .int .i64 3]⟩) ∧ Ext w0 w'
      | some st => ∃ v, e = .returned (.tuple ⟨[v, .int .i64 0]⟩) ∧ OwnT w0.heap.size w0 [tNs v (keysE st.1)] w' := by
  obtain ⟨pt, pv, rfl⟩ := hpv
  refine fnG (OwnT.start w0) 31 Try.func15 rfl rfl rfl fun a h => ?_
  refine gX h [] rfl fun a w h => ?_
  refine gC h rfl (crefsX rs w (hR.ext h.O.below) ⟨pt, pv, rfl⟩ (fun i x hx => by
    obtain ⟨b, o, e, hlt, hc⟩ := hrow i x hx
    exact ⟨b, o, e, Nat.lt_of_lt_of_le hlt h.O.below.size, by rw [← hc]; exact h.O.below.cell (p := ⟨b, o + i, none⟩) hlt⟩) hl) ?_
  intro e w' hP
  cases hF : refsE N rs with
  | none =>
    rw [hF] at hP
    obtain ⟨rfl, E2⟩ := hP
    refine ⟨_, rfl, _, h.O.ext E2, trivial, fun a h => ?_⟩
    refine gX h [] rfl fun a w h => ?_
    refine lpG (G := Unit) (fun _ => [(7, .int .i64 3), (8, .slice none 0 0), (17, .slice none 0 0), (18, .int .i64 0), (19, .int .i64 0)]) (fun _ => []) (fun _ => True) (fun _ => 0) () h ⟨rfl, rfl, rfl, rfl, rfl, trivial⟩ h.O trivial fun _ _ a w h => ?_
    refine gX h [.f] rfl fun a w h => ?_
    exact gR h rfl ⟨rfl, h.O.below⟩
  | some st =>
  rw [hF] at hP
  obtain ⟨v, rfl, O2⟩ := hP
  obtain ⟨B, c, rfl⟩ := Z0c O2.r0
  refine ⟨_, rfl, _, h.O.graft O2, trivial, fun a h => ?_⟩
  have hks : (keysE st.1).length ≤ 1023 := Z30 _
  have hRn : (refsL st.1).length = (keysE st.1).length := by unfold refsL; rw [List.length_map]
  have hat : ∀ j q, (keysE st.1)[j]? = some q → ((refsL st.1).flatMap encR)[2 * j]? = some (.int .i64 (q : Nat)) ∧ (((refsL st.1).flatMap encR).drop (2 * j)).take 2 = [.int .i64 (q : Nat), .int .i64 (cn st.1 q : Nat)] := by
    unfold refsL
    generalize cn st.1 = f
    generalize keysE st.1 = ks
    intro j
    induction ks generalizing j with
    | nil => intro q h; simp at h
    | cons k ks ih =>
      intro q h
      cases j with
      | zero => simp at h; subst h; simp [encR]
      | succ j =>
        obtain ⟨h1, h2⟩ := ih j q (by simpa using h)
        rw [show 2 * (j + 1) = 2 + 2 * j by omega]
        refine ⟨?_, ?_⟩
        · rw [show 2 + 2 * j = 2 * j + 1 + 1 by omega]; simpa [encR] using h1
        · rw [← List.drop_drop]; simpa [encR] using h2
  rw [hRn] at h
  obtain ⟨ks, hk⟩ : ∃ ks, keysE st.1 = ks := ⟨_, rfl⟩
  obtain ⟨RF, hRF⟩ : ∃ RF, (refsL st.1).flatMap encR = RF := ⟨_, rfl⟩
  have Or := h.O
  unfold tRf at Or
  rw [hRn, hRF, hk] at Or
  simp only
  rw [hk] at h hks ⊢
  rw [hk, hRF] at hat
  refine gX (h.with Or) [] rfl fun a w h => ?_
  have O6 := h.O.cons (Ext.refl _) (tNs (.slice none 0 0) []) (World.ownsRow_nil _ _ _ _) (fun i hi => by simp [tRow, Value.ownBlock] at hi)
  refine lpG (G := Nat × Value) (fun g => [(7, .int .i64 0), (8, g.2), (17, .slice B ks.length c), (18, .int .i64 ks.length), (19, .int .i64 g.1)])
    (fun g => tNs g.2 (ks.take g.1) :: [tRow 59 2 (.slice B ks.length c) ks.length RF]) (fun g => g.1 ≤ ks.length) (fun g => ks.length - g.1) (0, .slice none 0 0) (h.with O6) ⟨rfl, rfl, rfl, rfl, rfl, trivial⟩ O6 (Nat.zero_le _) fun g hj a w h => ?_
  obtain ⟨j, v⟩ := g
  simp only at hj h ⊢
  by_cases h1 : j < ks.length
  · obtain ⟨q, hq⟩ : ∃ q, ks[j]? = some q := ⟨_, List.getElem?_eq_getElem h1⟩
    obtain ⟨qa, qb⟩ := hat j q hq
    have htk : ks.take (j + 1) = ks.take j ++ [q] := by rw [List.take_add_one, hq]; rfl
    have htl : (ks.take j).length = j := by rw [List.length_take]; omega
    obtain ⟨b, rfl⟩ : ∃ b, B = some ⟨b, 0, none⟩ := by
      rcases (show World.ownsRow _ 0 _ _ _ _ _ from h.O.all.2.1).2 with ⟨-, h0⟩ | ⟨g, cap, cur, hv, -⟩
      · omega
      · injection hv with h1; exact ⟨g, h1⟩
    refine gX h [.t, vj (2 * j), 1, .v (.agg ⟨[.int .i64 (q : Nat), .int .i64 (cn st.1 q : Nat)]⟩)] rfl fun a w h => ?_
    refine gW h rfl fun g10 a w E h => ?_
    refine gX h [0, 0] rfl fun a w h => ?_
    refine gS (bytes := 8) h 3 1 rfl fun gs a w hE h => ?_
    refine gA (bytes := 8) h rfl 1 rfl (fun _ _ => rfl) (by omega) (fun _ _ _ _ => trivial) fun B3 c3 a w h => ?_
    have hsn := Z71 (ks.take j) (q := (q : Int)) (by omega)
    rw [Int.toNat_natCast] at hsn
    rw [hsn, ← htk, show (ks.take j).length + 1 = (ks.take (j + 1)).length by rw [htk]; simp] at h
    refine gX h [vI (j + 1 : Nat)] rfl fun a w h => ?_
    exact reG (j + 1, _) h ⟨rfl, rfl, rfl, rfl, rfl, trivial⟩ h.O.tail h1 (by simp only; omega)
  · obtain rfl : j = ks.length := by omega
    rw [List.take_length] at h
    refine gX h [.f] rfl fun a w h => ?_
    exact gR h rfl ⟨_, rfl, h.O.sub (.cons_cons _ (.cons _ (List.Sublist.refl _)))⟩

theorem Z4r : Try.prog.cellsOf 103 = 2 := by kernel_rfl
theorem Z4s : Try.prog.cellsOf 46 = 2 := by kernel_rfl
theorem cells_li : Try.prog.cellsOf 3 = 1 := by kernel_rfl
theorem Z83 : Try.prog.cellsOf 71 = 1 := by kernel_rfl
theorem cells_ls : Try.prog.cellsOf 44 = 1 := by kernel_rfl
theorem fit_pair {w : World} {cs : List Value} (hf : Fit Try.prog w 103 cs) : ∃ x : Nat × Nat, cs = pairC x ∧ (x.1 < 18446744073709551616 ∧ x.2 < 18446744073709551616) := by
  obtain ⟨hl, hx⟩ := Z4o 2 Try.underlying103 Z4r hf
  obtain ⟨a, e0, w0⟩ := Z5k Try.underlying71 (hx 0 0 71 1 rfl Z83)
  obtain ⟨b, e1, w1⟩ := Z5k Try.underlying71 (hx 1 1 71 1 rfl Z83)
  have ha := bounds_u64 w0
  have hb := bounds_u64 w1
  obtain ⟨m, rfl⟩ : ∃ m : Nat, a = m := ⟨a.toNat, by omega⟩
  obtain ⟨n, rfl⟩ : ∃ m : Nat, b = m := ⟨b.toNat, by omega⟩
  exact ⟨(m, n), Z7v hl e0 e1, by show m < _; omega, by show n < _; omega⟩
end Go.Proofs.Ytbfgacmfjfbooaa
