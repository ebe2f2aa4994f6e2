/- store: Add, Read (printed by XStC.gen.py). -/
import Derived.Test.YtakkhglbdljfiaaGreatDoorKStoreExact13
namespace Go.Proofs.YtakkhglbdljfiaaGreatDoor
attribute [local simp] BigFrame.eval_const BigFrame.eval_global BigFrame.eval_func
set_option linter.unusedVariables false
set_option linter.unusedSimpArgs false
open Go.RowKit Go.Maps

theorem Z4m {w : World} {By : Option Addr} {ps : List Pr} {g : Nat} {T : TypeId} {a : Int} {v0 v1 : Value} (h : Row w By 2 pairC ps) (hb : Blk w g T #[.int .i64 a, .slice none 0 0]) : Row ((w.setCell ⟨g, 0, none⟩ v0).setCell ⟨g, 1, none⟩ v1) By 2 pairC ps := by
 have hne : ∀ i x, ps[i]? = some x → ∀ b o, By = some ⟨b, o, none⟩ → w.cell? ⟨b, o + i * 2, none⟩ = some (.int .u64 x.1) → b ≠ g := fun i x _ b o _ hc e => by
  subst e
  rw [hb.cell] at hc
  rcases (show o + i * 2 = 0 ∨ o + i * 2 = 1 ∨ 2 ≤ o + i * 2 by omega) with h0 | h0 | h0
  · rw [h0] at hc; simp at hc
  · rw [h0] at hc; simp at hc
  · rw [Array.getElem?_eq_none (by simpa using h0)] at hc; cases hc
 intro i x hx; obtain ⟨b, o, e, hlt, hc⟩ := h i x hx
 have hn := hne i x hx b o e (hc 0 _ rfl)
 have K : Chg [g] w ((w.setCell ⟨g, 0, none⟩ v0).setCell ⟨g, 1, none⟩ v1) := ((Chg.refl [g] w).set (.inl (by simp)) v0).set (.inl (by simp)) v1
 refine ⟨b, o, e, Nat.lt_of_lt_of_le hlt K.size, fun j u hu => ?_⟩
 rw [← hc j u hu]
 unfold World.cell?
 rw [K.block b hlt (by simpa using hn)]
def freeB (K : Int → Bool) (F : Int → Option Nd) (c : Int) : Bool := !(F c).isSome && !K c
def putF (F : Int → Option Nd) (c : Int) (nd : Nd) : Int → Option Nd := fun i => if i = c then some nd else F i
theorem StOk.add {P : Nat} {K : Int → Bool} {F : Int → Option Nd} {vs : List Value} {N : List Nd} {m : Int → Option Value} (s : StOk P K F vs N m) {c : Int} {nd : Nd} {B : Option Addr} {cap : Nat} (hc : 1 ≤ c ∧ c < P) (hg : goodB nd.1 nd.2 = true) (hx : ∀ x ∈ nd.2, x.1 < 18446744073709551616 ∧ x.2 < 18446744073709551616) (hl : vs.length = N.length) :
 StOk P K (putF F c nd) (vs ++ [.slice B nd.2.length cap]) (N ++ [nd]) (putV m c (.agg #[.int .i64 (nd.1 : Nat), .slice B nd.2.length cap])) := by
 have hF : ∀ i nd', putF F c nd i = some nd' → (i = c ∧ nd' = nd) ∨ (i ≠ c ∧ F i = some nd') := fun i nd' e => by
  unfold putF at e
  split at e
  · injection e with e; exact .inl ⟨by assumption, e.symm⟩
  · exact .inr ⟨by assumption, e⟩
 refine ⟨s.le, s.kr, fun i nd' e => ?_, fun i nd' e => ?_, fun i e => ?_, fun i nd' e => ?_⟩
 · rcases hF i nd' e with ⟨rfl, rfl⟩ | ⟨_, e⟩
   · exact hc
   · exact s.fr i nd' e
 · rcases hF i nd' e with ⟨rfl, rfl⟩ | ⟨_, e⟩
   · exact ⟨hg, hx⟩
   · exact s.fg i nd' e
 · unfold putF at e
   unfold putV
   split at e
   · cases e
   · rename_i h
     rw [if_neg h]
     exact s.fm i e
 · rcases hF i nd' e with ⟨rfl, rfl⟩ | ⟨hi, e⟩
   · refine ⟨N.length, B, cap, ?_, ?_, by unfold putV; rw [if_pos rfl]⟩
     · rw [← hl, List.getElem?_append_right (Nat.le_refl _), Nat.sub_self]; rfl
     · rw [List.getElem?_append_right (Nat.le_refl _), Nat.sub_self]; rfl
   · obtain ⟨j, B', cap', h1, h2, h3⟩ := s.fs i nd' e
     have hj1 := (List.getElem?_eq_some_iff.1 h1).1
     have hj2 := (List.getElem?_eq_some_iff.1 h2).1
     exact ⟨j, B', cap', by rw [List.getElem?_append_left hj1]; exact h1, by rw [List.getElem?_append_left hj2]; exact h2, by unfold putV; rw [if_neg hi]; exact h3⟩
theorem x_mapUpS {w w' : World} {o : Oper} {ρ : Operand → Value} {t : TypeId} {mo x v : Operand} {b : Nat} {c : Int} {u : Value} (ho : o.op = .mapUpdate t mo x v) (hm : ρ mo = .map (some b)) (hx : ρ x = .int .i64 c) (hv : ρ v = u) (h : (Instr.mapUpdate t (.map (some b)) (.int .i64 c) u).run Tryz.prog w = .ok () w') : (execOp ρ o).run Tryz.prog w = .ok .skip w' := by
 simp [execOp, ho, hm, hx, hv, h]
theorem good_15 {lv : Int} {ps : List Pr} (h : goodB lv ps = true) : ps.length ≤ 15 ∧ 0 ≤ lv ∧ lv < 8 := by
 obtain ⟨⟨h1, h2, h3⟩, _⟩ := (Z5f lv ps).1 h
 exact ⟨h3, h1, h2⟩
/-- The first free page. -/
def FirstFree (P : Nat) (K : Int → Bool) (F : Int → Option Nd) (c : Nat) : Prop := 1 ≤ c ∧ c < P ∧ freeB K F c = true ∧ ∀ d : Nat, 1 ≤ d → d < c → freeB K F d = false
def NoFree (P : Nat) (K : Int → Bool) (F : Int → Option Nd) : Prop := ∀ d : Nat, 1 ≤ d → d < P → freeB K F d = false

set_option maxRecDepth 100000 in
set_option maxHeartbeats 4000000 in
theorem sadd_any {H : Nat} {A0 : World} {R : List Thing} {sb p kb fb mb n cap bm : Nat} {B : Option Addr} {S : List Sec} {L : Int → Option Sec} {h : Hd} {at_ : Int} {K : Int → Bool} {m : Int → Option Value} {F : Int → Option Nd} {vs : List Value} {N : List Nd} (lv : Nat) (Bx : Option Addr) (cx : Nat) (ps : List Pr) (w : World) (O : OwnT H A0 (stL sb p h at_ kb fb K m vs N (tDisc p mb B n cap bm S L :: R)) w) (ok : StOk (pgs n) K F vs N m) (hrow : Row w Bx 2 pairC ps) (hps : ps.length ≤ 1000000) (hbd : ∀ x ∈ ps, x.1 < 18446744073709551616 ∧ x.2 < 18446744073709551616) (hB : SlB Bx cx ps) (hg : goodB lv ps = true) : Calls Tryz.prog 13 #[.pointer (some ⟨sb, 0, none⟩), .agg #[.int .i64 lv, .slice Bx ps.length cx]] w fun e w' => (∃ (c : Nat) (m' : Int → Option Value) (vs' : List Value) (N' : List Nd), FirstFree (pgs n) K F c ∧ e = .returned (.tuple #[.int .i64 c, .int .i64 0]) ∧ OwnT H A0 (stL sb p h at_ kb fb K m' vs' N' (tDisc p mb B n cap bm S L :: R)) w' ∧ StOk (pgs n) K (putF F c (lv, ps)) vs' N' m') ∨ (NoFree (pgs n) K F ∧ e = .returned (.tuple #[.int .i64 0, .int .i64 6]) ∧ OwnT H A0 (stL sb p h at_ kb fb K m vs N (tDisc p mb B n cap bm S L :: R)) w') := by
 have hw := Ext.refl w
 obtain ⟨hl15, -, -⟩ := good_15 hg
 have hP := ok.le
 have hvN : vs.length = N.length := O.all.2.2.2.1.1
 refine Z0c Tryz.func13 rfl 34 rfl (by rfl) ?_
 intro a1 k hargs; have e0 : a1.eval (.tmp 0) = .pointer (some ⟨sb, 0, none⟩) := hargs 0 _ rfl
 have e1 : a1.eval (.tmp 1) = .agg #[.int .i64 ↑lv, .slice Bx ps.length cx] := hargs 1 _ rfl
 clear hargs; refine wp_seq ?_; refine wp_region_lit ?_
 have hE := Env.refl a1 [3, 4, 5]; refine Z4z O (cs := #[.int .i64 ↑lv, .slice Bx ps.length cx]) (t := 47) 3 hE k rfl (by rfl) (by rfl) rfl (by simp [go_sem, ↓IntWalk.iteOmega, ev (hE.g e1)]) ?_
 clear O; intro lb a2 w3 RX O hE e3 kp; replace hw := Ext.trans hw RX
 clear RX; refine sd 4 hE k (Z01 rfl rfl) ?_; intro a4 hE e4 kp; replace e3 := kt kp e3; refine sd 5 hE k (Z01 rfl rfl) ?_; intro a5 hE e5 kp; replace e3 := kt kp e3; refine wpList_nil ?_; replace e0 := hE.g e0; replace k := k.env hE; clear hE e1 e5; refine Z00 (wp_seq ?_); refine wp_block ?_; refine wp_seq ?_; refine wp_region_lit ?_
 have hE := Env.refl a5 [8, 9, 7]; refine zm 8 hE k e0 ?_; intro a6 hE e8 kp; apply Z03 9 hE k rfl rfl rfl rfl; case h =>
  simp [go_sem, ↓IntWalk.iteOmega, ev e8]
  with_reducible rfl
 intro a7 hE e9 kp; refine sd 7 hE k (Z01 rfl e9) ?_; intro a8 hE e7 kp; refine wpList_nil ?_; replace e0 := hE.g e0; replace e3 := hE.g e3; replace k := k.env hE; clear hE; refine Z00 ?_; refine Z07 e7 rfl ?_
 refine wp_seq ?_; refine wp_region_lit ?_
 have hE := Env.refl a8 [11, 12, 13, 10]; refine sd 11 hE k (Z1n O 0 rfl rfl (hE.g e3) [.int .i64 ↑lv, .slice Bx ps.length cx] rfl Tryz.underlying47 rfl (by kernel_rfl)) ?_; intro a9 hE e11 kp; apply Z06 12 hE k rfl (by rfl) (by rfl) rfl
 case h =>
  simp [go_sem, ↓IntWalk.iteOmega, ev e11]
  with_reducible exact ⟨rfl, rfl⟩
 case hc => exact Z6x _ _ _ _ ps _ rfl hps (hrow.ext hw) (fun x hx => (hbd x hx).1)
 rintro e w11 ⟨he, RE⟩
 replace O := OwnT.ext O RE; replace hw := Ext.trans hw RE
 refine ⟨_, he.trans (congrArg (fun b => Ending.returned (.bool b)) hg), ?_⟩
 intro a10 hE e12 kp; refine sd 13 hE k (Z15 rfl e12) ?_; intro a12 hE e13 kp; refine sd 10 hE k (Z01 rfl e13) ?_; intro a13 hE e10 kp; refine wpList_nil ?_; replace e0 := hE.g e0; replace e3 := hE.g e3; replace k := k.env hE; clear hE e7; refine Z00 ?_; refine Z07 e10 rfl ?_
 refine wp_skip ?_; refine Z0f ?_; refine Z00 (wp_seq ?_); refine wp_seq ?_; refine wp_region_lit ?_
 have hE := Env.refl a13 [6]; refine sd 6 hE k (Z01 rfl rfl) ?_; intro a14 hE e6 kp; refine wpList_nil ?_; replace e0 := hE.g e0; replace e3 := hE.g e3; replace k := k.env hE; clear hE e10; refine Z00 ?_; refine wp_block ?_; obtain ⟨wb, hwb⟩ : ∃ wb, w = wb := ⟨_, rfl⟩
 rw [hwb] at hw hrow
 refine wp_loop (fun a w => Fr 34 a ∧ a.eval (.tmp 0) = .pointer (some ⟨sb, 0, none⟩) ∧ a.eval (.tmp 3) = .pointer (some ⟨lb, 0, none⟩) ∧ ∃ (c : Nat), a.eval (.tmp 6) = .int .i64 ↑c ∧ 1 ≤ c ∧ c ≤ 512 ∧ (∀ d : Nat, 1 ≤ d → d < c → freeB K F d = false) ∧ Ext wb w ∧ OwnT H A0 ((tBlk lb 47 #[.int .i64 ↑lv, .slice Bx ps.length cx]) :: (tBlk sb 102 #[.pointer (some ⟨p, 0, none⟩), .int .u64 h.g, .int .i64 h.r, .int .i64 h.a, .int .i64 h.b, .int .i64 h.c, .int .i64 at_, .map (some kb), .map (some fb)]) :: (tMap kb 512 (keptV K)) :: (tMap fb 512 m) :: (tPool vs N) :: (tDisc p mb B n cap bm S L) :: R) w) (fun a w => 512 - (intOf (a.eval (.tmp 6))).toNat) ?_ ?_
 · exact ⟨k, e0, e3, 1, e6, Nat.le_refl _, by decide, (fun d h1 h2 => by omega), hw, O⟩
 intro a15 w16 hI; clear k e0 e3; obtain ⟨k, e0, e3, h_⟩ := hI
 clear O e6 hw; obtain ⟨c, e6, hc1, hc2, hpre, hw, O⟩ := h_
 have mc := e6

 by_cases hlt : c < pgs n
 rotate_left
 · have hno : NoFree (pgs n) K F := fun d h1 h2 => hpre d h1 (by omega)
   refine wp_seq ?_; refine wp_seq ?_; refine wp_region_lit ?_
   have hE := Env.refl a15 [14, 15, 16, 17]; refine zm 14 hE k e6 ?_; intro a17 hE e14 kp; refine zm 15 hE k e0 ?_; intro a18 hE e15 kp; replace e14 := kt kp e14; apply Z06 16 hE k rfl (by rfl) (by rfl) rfl
   case h =>
    simp [go_sem, ↓IntWalk.iteOmega, ev e15]
    with_reducible exact ⟨rfl, rfl⟩
   case hc => exact Z1p _ (OwnT.stR O.tail) (OwnT.disc (OwnT.pull O 5 rfl))
   rintro e _ ⟨rfl, rfl⟩
   refine ⟨_, rfl, ?_⟩
   intro a19 hE e16 kp; replace e14 := kt kp e14; refine sd 17 hE k (Z08 (Z0z rfl e14 e16) (decide_eq_false (by omega))) ?_
   intro a20 hE e17 kp; refine wpList_nil ?_; replace e0 := hE.g e0; replace e3 := hE.g e3; replace e6 := hE.g e6; replace k := k.env hE; clear hE; refine Z00 ?_; refine Z07 e17 rfl ?_
   refine wp_exit ?_
   refine Z0p ?_
   refine Z0p ?_
   refine Z11 ?_
   refine Z00 (wp_seq ?_); refine wp_region_lit ?_
   have hE := Env.refl a20 [4, 5]; refine sd 4 hE k (Z01 rfl rfl) ?_; intro a21 hE e4 kp; refine sd 5 hE k (Z01 rfl rfl) ?_; intro a22 hE e5 kp; replace e4 := kt kp e4; refine wpList_nil ?_; replace k := k.env hE; clear hE e0 e3 e6 e17; refine Z00 ?_; refine wp_ret ?_
   refine Z32 rfl k e4 e5 ?_
   exact .inr ⟨hno, rfl, O.tail⟩
 have hwf := ok.wf (c := c) (by omega)
 obtain ⟨fr, hfr⟩ : ∃ b, freeB K F c = b := ⟨_, rfl⟩
 refine wp_seq ?_; refine wp_seq ?_; refine wp_region_lit ?_
 have hE := Env.refl a15 [14, 15, 16, 17]; refine zm 14 hE k e6 ?_; intro a23 hE e14 kp; refine zm 15 hE k e0 ?_; intro a24 hE e15 kp; replace e14 := kt kp e14; apply Z06 16 hE k rfl (by rfl) (by rfl) rfl
 case h =>
  simp [go_sem, ↓IntWalk.iteOmega, ev e15]
  with_reducible exact ⟨rfl, rfl⟩
 case hc => exact Z1p _ (OwnT.stR O.tail) (OwnT.disc (OwnT.pull O 5 rfl))
 rintro e _ ⟨rfl, rfl⟩
 refine ⟨_, rfl, ?_⟩
 intro a25 hE e16 kp; replace e14 := kt kp e14; refine sd 17 hE k (Z08 (Z0z rfl e14 e16) (decide_eq_true (by omega))) ?_
 intro a26 hE e17 kp; refine wpList_nil ?_; replace e0 := hE.g e0; replace e3 := hE.g e3; replace e6 := hE.g e6; replace k := k.env hE; clear hE; refine Z00 ?_; refine Z0h e17 rfl ?_
 refine wp_skip ?_; refine Z00 (wp_seq ?_); refine wp_block ?_; refine wp_seq ?_; refine wp_region_lit ?_
 have hE := Env.refl a26 [20, 21, 22]; refine zm 20 hE k e0 ?_; intro a27 hE e20 kp; refine zm 21 hE k e6 ?_; intro a28 hE e21 kp; replace e20 := kt kp e20; apply Z06 22 hE k rfl (by rfl) (by rfl) rfl
 case h =>
  simp [go_sem, ↓IntWalk.iteOmega, ev e20, ev e21]
  with_reducible exact ⟨rfl, rfl⟩
 case hc => exact Z79 ↑c _ (OwnT.stR O.tail) ok hwf
 rintro e w30 ⟨he, RE⟩
 replace O := OwnT.ext O RE; replace hw := Ext.trans hw RE
 refine ⟨_, he.trans (congrArg (fun b => Ending.returned (.bool b)) hfr), ?_⟩
 intro a29 hE e22 kp; refine wpList_nil ?_; replace e0 := hE.g e0; replace e3 := hE.g e3; replace e6 := hE.g e6; replace k := k.env hE; clear hE e17; refine Z00 ?_; cases fr with
 | false =>
  refine Z07 e22 (rfl) ?_
  clear e22; refine wp_skip ?_; refine Z0f ?_; refine Z00 ?_; refine wp_region_lit ?_
  have hE := Env.refl a29 [18, 19, 6]; refine sd 18 hE k (Z02 rfl e6) ?_; intro a31 hE e18 kp; replace e6 := kt kp e6; refine sd 19 hE k (Z1i rfl e18 rfl (by omega)) ?_; intro a32 hE e19 kp; replace e6 := kt kp e6; replace e19 := e19.trans (Z10 (show (c : Int) + 1 = ((c + 1 : Nat) : Int) by omega))
  refine sd 6 hE k (Z01 rfl e19) ?_; intro a33 hE e6 kp; refine wpList_nil ?_; replace e0 := hE.g e0; replace e3 := hE.g e3; replace k := k.env hE; clear hE; refine Z00 ?_; refine ⟨⟨k, e0, e3, c + 1, e6, by omega, by omega, fun d h1 h2 => ?_, hw, O⟩, ?_⟩
  · rcases Nat.lt_or_ge d c with hdc | hdc
    · exact hpre d h1 hdc
    · obtain rfl : d = c := by omega
      exact hfr
  · rw [e6, mc]; simp only [intOf]; omega
 | true =>
  refine Z0h e22 (rfl) ?_
  clear e22; refine wp_seq ?_; refine wp_region_lit ?_
  have hE := Env.refl a29 [23, 24, 25, 26]; apply Z03 23 hE k rfl rfl rfl rfl; case h =>
   simp [go_sem, ↓IntWalk.iteOmega, ev (hE.g e3)]
   with_reducible rfl
  intro a34 hE e23 kp; refine sd 24 hE k (Z0a O 0 rfl rfl e23 rfl Tryz.underlying45 rfl) ?_; intro a35 hE e24 kp; apply Z06 25 hE k rfl (by rfl) (by rfl) rfl
  case h =>
   simp [go_sem, ↓IntWalk.iteOmega, ev e24]
   with_reducible exact ⟨rfl, rfl⟩
  case hc => exact Z7y ps _ O rfl (hrow.ext hw) hB hps
  clear O; rintro e w37 ⟨v', rfl, O, RE⟩
  obtain ⟨By, cy, rfl, hy1, hy2, hy3, hy4⟩ := Z4c (OwnT.get O 0 rfl)
  refine ⟨_, rfl, ?_⟩
  intro a36 hE e25 kp; apply Z03 26 hE k rfl rfl rfl rfl; case h =>
   simp [go_sem, ↓IntWalk.iteOmega, ev (hE.g e3)]
   with_reducible rfl
  intro a38 hE e26 kp; replace e25 := kt kp e25; refine Z1b O 1 1 hE e26 e25 ?_
  clear O; intro w39 O; replace O : OwnT _ _ (_ :: (tBlk lb 47 #[.int .i64 ↑lv, .slice By ps.length cy]) :: _) w39 := O
  refine wpList_nil ?_; replace e0 := hE.g e0; replace e3 := hE.g e3; replace e6 := hE.g e6; replace k := k.env hE; clear hE e25 e26; refine Z00 (wp_seq ?_); refine Z0l (R := Ext) (w0 := w39) [[], [0], [0, 1], [0, 1, 2], [], [], rg 6] [27, 28, 29, 30, 31, 32] Ext.refl (fun _ _ _ => Ext.trans) (Ext.drew _) (by kernel_rfl) ?_
  refine bd 27 k rfl rfl rfl (fun ax wx hE hR hF => Z02 rfl (hE.g e0)) ?_
  refine bd 28 k rfl rfl rfl (fun ax wx hE hR hF => have e27 := zhF hF 0 27 ml0; Z0d rfl e27) ?_
  apply bd 29 k rfl rfl rfl; case h =>
   intro ax wx hE hR hF; have e28 := zhF hF 1 28 ml0; simp [go_sem, ↓IntWalk.iteOmega, ev e28]
   with_reducible rfl
  refine bd 30 k rfl rfl rfl (fun ax wx hE hR hF => have e29 := zhF hF 2 29 ml0; Z0a (OwnT.ext O hR) 2 rfl rfl e29 rfl Tryz.underlying100 rfl) ?_
  refine bd 31 k rfl rfl rfl (fun ax wx hE hR hF => Z02 rfl (hE.g e6)) ?_
  refine bd 32 k rfl rfl rfl (fun ax wx hE hR hF => Z1n (OwnT.ext O hR) 1 rfl rfl (hE.g e3) [.int .i64 ↑lv, .slice By ps.length cy] rfl Tryz.underlying47 rfl (by kernel_rfl)) ?_
  apply Build.stop
  refine ⟨by kernel_rfl, .inr ⟨by kernel_rfl, _, rfl, rfl, ?_⟩⟩
  intro a40 w41 hE R hF; have e30 : a40.eval (.tmp 30) = _ := hF 3 (det 30 _) ml2
  have e31 : a40.eval (.tmp 31) = _ := hF 4 (det 31 _) ml1
  have e32 : a40.eval (.tmp 32) = _ := hF 5 (det 32 _) ml0
  clear hF; replace O := OwnT.ext O R; clear R; obtain ⟨w8, hcl, hV, hC⟩ := VM.store (OwnT.get O 4 rfl) Tryz.underlying100 (by unfold maxLen; omega) hwf (.agg #[.int .i64 ↑lv, .slice By ps.length cy])
  replace hV := hV.tight 0 512 (fun i hi hs => by unfold putV at hs; by_cases e : i = (c : Int); subst e; omega; rw [if_neg e, ok.isSome] at hs; obtain ⟨nd, hn⟩ := Option.isSome_iff_exists.1 hs; have := ok.fr i nd hn; omega)
  refine Z1u (w' := w8) rfl (x_mapUpS rfl e30 e31 e32 hcl) ?_
  replace O := OwnT.push (L := _ :: _ :: _ :: _ :: _ :: _ :: _ :: R) 4 rfl (OwnT.mapSet (OwnT.pull O 4 rfl) hV hC)
  clear hV hC hcl; replace e6 := hE.g e6; replace k := k.env hE; clear hE e0 e3 e30 e31 e32; refine Z00 (wp_seq ?_); refine wp_region_lit ?_
  have hE := Env.refl a40 [33, 4, 5]; refine zm 33 hE k e6 ?_; intro a42 hE e33 kp; refine sd 4 hE k (Z01 rfl e33) ?_; intro a43 hE e4 kp; refine sd 5 hE k (Z01 rfl rfl) ?_; intro a44 hE e5 kp; replace e4 := kt kp e4; refine wpList_nil ?_; replace k := k.env hE; clear hE e6; refine Z00 ?_; refine wp_ret ?_
  refine Z12 ?_
  refine Z0m ?_
  refine Z0m ?_
  refine Z12 ?_
  refine Z0m ?_
  have O2 := OwnT.poolAdd (l := lv) (OwnT.pickR (L := [_, _, _, _, _, _, _]) (R := R) O [0, 5, 2, 3, 4, 6] (by decide))
  have O3 := OwnT.pickR (L := [_, _, _, _, _]) (R := R) O2 [1, 2, 3, 0, 4] (by decide)
  refine Z32 rfl k e4 e5 ?_
  exact .inl ⟨c, _, _, _, ⟨hc1, hlt, hfr, hpre⟩, rfl, O3, ok.add (nd := (lv, ps)) (by omega) hg hbd hvN⟩
set_option maxRecDepth 100000 in
set_option maxHeartbeats 4000000 in
theorem Z4y {sb p kb fb mb n cap bm : Nat} {B : Option Addr} {S : List Sec} {L : Int → Option Sec} {h : Hd} {at_ : Int} {K : Int → Bool} {m : Int → Option Value} (x : Int) (W0 : World) (hs : StR sb p h at_ kb fb K m W0) (hd : DiscR p mb B n cap bm S L W0) (hx : ¬ (1 ≤ x ∧ x < (pgs n : Nat))) : Calls Tryz.prog 21 #[.pointer (some ⟨sb, 0, none⟩), .int .i64 x] W0 fun e w' => e = .returned (.tuple #[.agg #[.int .i64 0, .slice none 0 0], .int .i64 9]) ∧ Ext W0 w' := by
 have O := OwnT.start W0
 have hn := hd.ok.le
 have c0 : W0.cell? ⟨sb, 0, none⟩ = some (.pointer (some ⟨p, 0, none⟩)) := hs.blk.cell 0
 have c4 : W0.cell? ⟨sb, 8, none⟩ = some (.map (some fb)) := hs.blk.cell 8
 refine Z0c Tryz.func21 rfl 53 rfl (by rfl) ?_
 intro a1 k hargs; have e0 : a1.eval (.tmp 0) = .pointer (some ⟨sb, 0, none⟩) := hargs 0 _ rfl
 have e1 : a1.eval (.tmp 1) = .int .i64 x := hargs 1 _ rfl
 clear hargs; refine wp_seq ?_; refine wp_region_lit ?_
 have hE := Env.refl a1 [4, 5]; refine Z0v O (cs := #[.int .i64 0, .slice none 0 0]) (t := 47) 4 hE k rfl (by rfl) (by rfl) rfl (by simp [go_sem, ↓IntWalk.iteOmega]) ?_
 clear O; intro rb a2 w3 O hE e4 kp; refine sd 5 hE k (Z01 rfl rfl) ?_; intro a4 hE e5 kp; replace e4 := kt kp e4; refine wpList_nil ?_; replace e0 := hE.g e0; replace e1 := hE.g e1; replace k := k.env hE; clear hE e5; refine Z00 (wp_seq ?_); refine wp_block ?_; refine wp_seq ?_; refine wp_region_lit ?_
 have hE := Env.refl a4 [11, 12, 10]; refine zm 11 hE k e0 ?_; intro a5 hE e11 kp; apply Z03 12 hE k rfl rfl rfl rfl; case h =>
  simp [go_sem, ↓IntWalk.iteOmega, ev e11]
  with_reducible rfl
 intro a6 hE e12 kp; refine sd 10 hE k (Z01 rfl e12) ?_; intro a7 hE e10 kp; refine wpList_nil ?_; replace e0 := hE.g e0; replace e1 := hE.g e1; replace e4 := hE.g e4; replace k := k.env hE; clear hE; refine Z00 ?_; refine Z07 e10 rfl ?_
 refine wp_seq ?_; refine wp_region_lit ?_
 have hE := Env.refl a7 [15, 16, 17, 18, 14]; refine zm 15 hE k e0 ?_; intro a8 hE e15 kp; refine zm 16 hE k e1 ?_; intro a9 hE e16 kp; replace e15 := kt kp e15; apply Z06 17 hE k rfl (by rfl) (by rfl) rfl
 case h =>
  simp [go_sem, ↓IntWalk.iteOmega, ev e15, ev e16]
  with_reducible exact ⟨rfl, rfl⟩
 case hc => exact Z24 x _ (hs.ext O.below) (hd.ext O.below)
 rintro e _ ⟨rfl, rfl⟩
 refine ⟨_, congrArg (fun b => Ending.returned (.bool b)) (decide_eq_false hx), ?_⟩
 intro a10 hE e17 kp; refine sd 18 hE k (Z15 rfl e17) ?_; intro a11 hE e18 kp; refine sd 14 hE k (Z01 rfl e18) ?_; intro a12 hE e14 kp; refine wpList_nil ?_; replace e0 := hE.g e0; replace e1 := hE.g e1; replace e4 := hE.g e4; replace k := k.env hE; clear hE e10; refine Z00 ?_; refine Z0h e14 rfl ?_
 refine wp_seq ?_; refine wp_region_lit ?_
 have hE := Env.refl a12 [19, 5]; apply Z03 19 hE k rfl rfl rfl rfl; case h =>
  simp [go_sem, ↓IntWalk.iteOmega]
  with_reducible rfl
 intro a13 hE e19 kp; refine Z1b O 0 0 hE (hE.g e4) e19 ?_
 clear O; intro w14 O; replace O : OwnT _ _ ((tBlk rb 47 #[.int .i64 0, .slice none 0 0]) :: _) w14 := O
 refine sd 5 hE k (Z01 rfl rfl) ?_; intro a15 hE e5 kp; refine wpList_nil ?_; replace e4 := hE.g e4; replace k := k.env hE; clear hE e0 e1 e14; refine Z00 ?_; refine wp_ret ?_
 refine Z12 ?_
 refine Z0m ?_
 have q0 : w14.cell? ⟨rb, 0, none⟩ = some (.int .i64 0) := (OwnT.blk O 0 rfl).cell 0
 have q1 : w14.cell? ⟨rb, 1, none⟩ = some (.slice none 0 0) := (OwnT.blk O 0 rfl).cell 1
 refine Z20 rfl k e4 e5 (v := .agg #[.int .i64 0, .slice none 0 0]) (by simp [go_sem, ↓IntWalk.iteOmega, q0, q1]) ?_
 exact ⟨rfl, O.below⟩
set_option maxRecDepth 100000 in
set_option maxHeartbeats 4000000 in
theorem Z77 {sb p kb fb mb n cap bm : Nat} {B : Option Addr} {S : List Sec} {L : Int → Option Sec} {h : Hd} {at_ : Int} {K : Int → Bool} {m : Int → Option Value} {F : Int → Option Nd} {vs : List Value} {N : List Nd} (x : Int) (W0 : World) (hs : StR sb p h at_ kb fb K m W0) (hd : DiscR p mb B n cap bm S L W0) (ok : StOk (pgs n) K F vs N m) (hp : (tPool vs N).holds W0) (lv : Nat) (ps : List Pr) (hF : F x = some (lv, ps)) : Calls Tryz.prog 21 #[.pointer (some ⟨sb, 0, none⟩), .int .i64 x] W0 fun e w' => ∃ (By : Option Addr) (cy : Nat), e = .returned (.tuple #[.agg #[.int .i64 lv, .slice By ps.length cy], .int .i64 0]) ∧ OwnT W0.heap.size W0 [tPs (.slice By ps.length cy) ps] w' := by
 have O := OwnT.start W0
 have hn := hd.ok.le
 have c0 : W0.cell? ⟨sb, 0, none⟩ = some (.pointer (some ⟨p, 0, none⟩)) := hs.blk.cell 0
 have c4 : W0.cell? ⟨sb, 8, none⟩ = some (.map (some fb)) := hs.blk.cell 8
 refine Z0c Tryz.func21 rfl 53 rfl (by rfl) ?_
 intro a1 k hargs; have e0 : a1.eval (.tmp 0) = .pointer (some ⟨sb, 0, none⟩) := hargs 0 _ rfl
 have e1 : a1.eval (.tmp 1) = .int .i64 x := hargs 1 _ rfl
 clear hargs; have hx := ok.fr x _ hF
 have hwf := ok.wf hx
 obtain ⟨Bx, cx, hm, g1, g2, g3, g4⟩ := ok.node hp hF
 obtain ⟨hgd, -⟩ := ok.fg x _ hF
 obtain ⟨hl15, -, -⟩ := good_15 hgd
 simp only at hm g1 g3 g4 hl15

 refine wp_seq ?_; refine wp_region_lit ?_
 have hE := Env.refl a1 [4, 5]; refine Z0v O (cs := #[.int .i64 0, .slice none 0 0]) (t := 47) 4 hE k rfl (by rfl) (by rfl) rfl (by simp [go_sem, ↓IntWalk.iteOmega]) ?_
 clear O; intro rb a2 w3 O hE e4 kp; refine sd 5 hE k (Z01 rfl rfl) ?_; intro a4 hE e5 kp; replace e4 := kt kp e4; refine wpList_nil ?_; replace e0 := hE.g e0; replace e1 := hE.g e1; replace k := k.env hE; clear hE e5; refine Z00 (wp_seq ?_); refine wp_block ?_; refine wp_seq ?_; refine wp_region_lit ?_
 have hE := Env.refl a4 [11, 12, 10]; refine zm 11 hE k e0 ?_; intro a5 hE e11 kp; apply Z03 12 hE k rfl rfl rfl rfl; case h =>
  simp [go_sem, ↓IntWalk.iteOmega, ev e11]
  with_reducible rfl
 intro a6 hE e12 kp; refine sd 10 hE k (Z01 rfl e12) ?_; intro a7 hE e10 kp; refine wpList_nil ?_; replace e0 := hE.g e0; replace e1 := hE.g e1; replace e4 := hE.g e4; replace k := k.env hE; clear hE; refine Z00 ?_; refine Z07 e10 rfl ?_
 refine wp_seq ?_; refine wp_region_lit ?_
 have hE := Env.refl a7 [15, 16, 17, 18, 14]; refine zm 15 hE k e0 ?_; intro a8 hE e15 kp; refine zm 16 hE k e1 ?_; intro a9 hE e16 kp; replace e15 := kt kp e15; apply Z06 17 hE k rfl (by rfl) (by rfl) rfl
 case h =>
  simp [go_sem, ↓IntWalk.iteOmega, ev e15, ev e16]
  with_reducible exact ⟨rfl, rfl⟩
 case hc => exact Z24 x _ (hs.ext O.below) (hd.ext O.below)
 rintro e _ ⟨rfl, rfl⟩
 refine ⟨_, congrArg (fun b => Ending.returned (.bool b)) (decide_eq_true hx), ?_⟩
 intro a10 hE e17 kp; refine sd 18 hE k (Z15 rfl e17) ?_; intro a11 hE e18 kp; refine sd 14 hE k (Z01 rfl e18) ?_; intro a12 hE e14 kp; refine wpList_nil ?_; replace e0 := hE.g e0; replace e1 := hE.g e1; replace e4 := hE.g e4; replace k := k.env hE; clear hE e10; refine Z00 ?_; refine Z07 e14 rfl ?_
 refine wp_skip ?_; refine Z0f ?_; refine Z00 (wp_seq ?_); refine wp_seq ?_; refine wp_region_lit ?_
 have hE := Env.refl a12 [21, 22, 23, 24, 25, 26, 20, 27, 28, 6, 7]; refine zm 21 hE k e0 ?_; intro a13 hE e21 kp; refine sd 22 hE k (Z0d rfl e21) ?_; intro a14 hE e22 kp; apply Z03 23 hE k rfl rfl rfl rfl; case h =>
  simp [go_sem, ↓IntWalk.iteOmega, ev e22]
  with_reducible rfl
 intro a15 hE e23 kp; apply Z03 24 hE k rfl rfl rfl rfl; case h =>
  simp [go_sem, ↓IntWalk.iteOmega, ev e23, cellB O.below c4]
  with_reducible rfl
 intro a16 hE e24 kp; refine zm 25 hE k e1 ?_; intro a17 hE e25 kp; replace e24 := kt kp e24; refine sd 26 hE k (Z74 (v := .tuple #[.agg #[.int .i64 ↑lv, .slice Bx ps.length cx], .bool true]) (Z2j (hs.ext O.below).fm rfl Tryz.underlying100 (Z29 _) e24 e25 hwf) (by rw [hm]; rfl)) ?_
 intro a18 hE e26 kp; refine sd 20 hE k (Z02 rfl e26) ?_; intro a19 hE e20 kp; apply Z03 27 hE k rfl rfl rfl rfl; case h =>
  simp [go_sem, ↓IntWalk.iteOmega, ev e20]
  with_reducible rfl
 intro a20 hE e27 kp; replace e20 := kt kp e20; apply Z03 28 hE k rfl rfl rfl rfl; case h =>
  simp [go_sem, ↓IntWalk.iteOmega, ev e20]
  with_reducible rfl
 intro a21 hE e28 kp; replace e27 := kt kp e27; refine Z0v O (cs := #[.int .i64 0, .slice none 0 0]) (t := 47) 6 hE k rfl (by rfl) (by rfl) rfl (by simp [go_sem, ↓IntWalk.iteOmega]) ?_
 clear O; intro gl a22 w23 O hE e6 kp; replace e27 := kt kp e27; replace e28 := kt kp e28; refine Z1b O 0 0 hE e6 e27 ?_
 clear O; intro w24 O; replace O : OwnT _ _ ((tBlk gl 47 #[.int .i64 ↑lv, .slice Bx ps.length cx]) :: _) w24 := O
 refine sd 7 hE k (Z01 rfl e28) ?_; intro a25 hE e7 kp; replace e6 := kt kp e6; refine wpList_nil ?_; replace e0 := hE.g e0; replace e1 := hE.g e1; replace e4 := hE.g e4; replace k := k.env hE; clear hE e14; refine Z00 (wp_seq ?_); refine wp_region_lit ?_
 have hE := Env.refl a25 [29]; refine zm 29 hE k e7 ?_; intro a26 hE e29 kp; refine wpList_nil ?_; replace e0 := hE.g e0; replace e1 := hE.g e1; replace e4 := hE.g e4; replace e6 := hE.g e6; replace k := k.env hE; clear hE e7; refine Z00 ?_; refine Z0h e29 rfl ?_
 refine wp_seq ?_; refine wp_region_lit ?_
 have hE := Env.refl a26 [30, 31, 32, 33]; apply Z03 30 hE k rfl rfl rfl rfl; case h =>
  simp [go_sem, ↓IntWalk.iteOmega, ev (hE.g e6)]
  with_reducible rfl
 intro a27 hE e30 kp; refine sd 31 hE k (Z0a O 0 rfl rfl e30 rfl Tryz.underlying45 rfl) ?_; intro a28 hE e31 kp; apply Z06 32 hE k rfl (by rfl) (by rfl) rfl
 case h =>
  simp [go_sem, ↓IntWalk.iteOmega, ev e31]
  with_reducible exact ⟨rfl, rfl⟩
 case hc => exact Z7y ps _ O rfl (g3.ext O.below) g4 (by omega)
 clear O; rintro e w30 ⟨v', rfl, O, RE⟩
 obtain ⟨By, cy, rfl, hy1, hy2, hy3, hy4⟩ := Z4c (OwnT.get O 0 rfl)
 refine ⟨_, rfl, ?_⟩
 intro a29 hE e32 kp; apply Z03 33 hE k rfl rfl rfl rfl; case h =>
  simp [go_sem, ↓IntWalk.iteOmega, ev (hE.g e6)]
  with_reducible rfl
 intro a31 hE e33 kp; replace e32 := kt kp e32; refine Z1b O 1 1 hE e33 e32 ?_
 clear O; intro w32 O; replace O : OwnT _ _ (_ :: (tBlk gl 47 #[.int .i64 ↑lv, .slice By ps.length cy]) :: _) w32 := O
 refine wpList_nil ?_; replace e4 := hE.g e4; replace e6 := hE.g e6; replace k := k.env hE; clear hE e0 e1 e29 e32 e33; refine Z00 (wp_seq ?_); refine wp_region_lit ?_
 have hE := Env.refl a31 [34, 5]; refine sd 34 hE k (Z1n O 1 rfl rfl (hE.g e6) [.int .i64 ↑lv, .slice By ps.length cy] rfl Tryz.underlying47 rfl (by kernel_rfl)) ?_; intro a33 hE e34 kp; refine Z1b O 2 0 hE (hE.g e4) e34 ?_
 clear O; intro w34 O; replace O : OwnT _ _ (_ :: _ :: (tBlk rb 47 #[.int .i64 ↑lv, .slice By ps.length cy]) :: _) w34 := O
 refine sd 5 hE k (Z01 rfl rfl) ?_; intro a35 hE e5 kp; refine wpList_nil ?_; replace e4 := hE.g e4; replace k := k.env hE; clear hE e6; refine Z00 ?_; refine wp_ret ?_
 refine Z0m ?_
 replace O : OwnT _ _ ([tPs (.slice By ps.length cy) ps, tBlk rb 47 #[.int .i64 ↑lv, .slice By ps.length cy]]) w34 := OwnT.pick O [0, 2] (by decide)
 have q0 : w34.cell? ⟨rb, 0, none⟩ = some (.int .i64 ↑lv) := (OwnT.blk O 1 rfl).cell 0
 have q1 : w34.cell? ⟨rb, 1, none⟩ = some (.slice By ps.length cy) := (OwnT.blk O 1 rfl).cell 1
 refine Z20 rfl k e4 e5 (v := .agg #[.int .i64 ↑lv, .slice By ps.length cy]) (by simp [go_sem, ↓IntWalk.iteOmega, q0, q1]) ?_
 exact ⟨By, cy, rfl, OwnT.pick O [0] (by decide)⟩
theorem Z8a {sb p kb fb mb n cap bm : Nat} {B : Option Addr} {S : List Sec} {L : Int → Option Sec} {h : Hd} {at_ : Int} {K : Int → Bool} {m : Int → Option Value} {F : Int → Option Nd} {vs : List Value} {N : List Nd} (x : Int) (W0 : World) (hs : StR sb p h at_ kb fb K m W0) (hd : DiscR p mb B n cap bm S L W0) (ok : StOk (pgs n) K F vs N m) (hp : (tPool vs N).holds W0) (lv : Nat) (ps : List Pr) (hF : F x = some (lv, ps)) : Calls Tryz.prog 21 #[.pointer (some ⟨sb, 0, none⟩), .int .i64 x] W0 fun e w' => ∃ (By : Option Addr) (cy : Nat), e = .returned (.tuple #[.agg #[.int .i64 lv, .slice By ps.length cy], .int .i64 0]) ∧ Row w' By 2 pairC ps ∧ Ext W0 w' := by
 refine (Z77 x W0 hs hd ok hp lv ps hF).mono ?_
 rintro e w' ⟨By, cy, rfl, O⟩
 obtain ⟨B9, c9, e9_, -, -, hy9, -⟩ := Z4c O.t0
 cases e9_
 exact ⟨By, cy, rfl, hy9, O.below⟩
set_option maxRecDepth 100000 in
set_option maxHeartbeats 4000000 in
theorem sread_form {sb p kb fb mb n cap bm : Nat} {B : Option Addr} {S : List Sec} {L : Int → Option Sec} {h : Hd} {at_ : Int} {K : Int → Bool} {m : Int → Option Value} {F : Int → Option Nd} {vs : List Value} {N : List Nd} {M : Mn} (q : Nat) (x : Int) (W0 : World) (hs : StR sb p h at_ kb fb K m W0) (hd : DiscR p mb B n cap bm S L W0) (ok : StOk (pgs n) K F vs N m) (hx : 1 ≤ x ∧ x < (pgs n : Nat)) (hF : F x = none) (hq : x = (q : Nat)) (hmn : (tMn mb M).holds W0) (ha : M.away = false) (hr : readB (readL S L (16 * q) 16) = false) : Calls Tryz.prog 21 #[.pointer (some ⟨sb, 0, none⟩), .int .i64 x] W0 fun e w' => e = .returned (.tuple #[.agg #[.int .i64 0, .slice none 0 0], .int .i64 3]) ∧ Ext W0 w' := by
 have O := OwnT.start W0
 have hn := hd.ok.le
 have c0 : W0.cell? ⟨sb, 0, none⟩ = some (.pointer (some ⟨p, 0, none⟩)) := hs.blk.cell 0
 have c4 : W0.cell? ⟨sb, 8, none⟩ = some (.map (some fb)) := hs.blk.cell 8
 refine Z0c Tryz.func21 rfl 53 rfl (by rfl) ?_
 intro a1 k hargs; have e0 : a1.eval (.tmp 0) = .pointer (some ⟨sb, 0, none⟩) := hargs 0 _ rfl
 have e1 : a1.eval (.tmp 1) = .int .i64 x := hargs 1 _ rfl
 clear hargs; have hwf := ok.wf hx
 have hm := ok.fm x hF

 refine wp_seq ?_; refine wp_region_lit ?_
 have hE := Env.refl a1 [4, 5]; refine Z0v O (cs := #[.int .i64 0, .slice none 0 0]) (t := 47) 4 hE k rfl (by rfl) (by rfl) rfl (by simp [go_sem, ↓IntWalk.iteOmega]) ?_
 clear O; intro rb a2 w3 O hE e4 kp; refine sd 5 hE k (Z01 rfl rfl) ?_; intro a4 hE e5 kp; replace e4 := kt kp e4; refine wpList_nil ?_; replace e0 := hE.g e0; replace e1 := hE.g e1; replace k := k.env hE; clear hE e5; refine Z00 (wp_seq ?_); refine wp_block ?_; refine wp_seq ?_; refine wp_region_lit ?_
 have hE := Env.refl a4 [11, 12, 10]; refine zm 11 hE k e0 ?_; intro a5 hE e11 kp; apply Z03 12 hE k rfl rfl rfl rfl; case h =>
  simp [go_sem, ↓IntWalk.iteOmega, ev e11]
  with_reducible rfl
 intro a6 hE e12 kp; refine sd 10 hE k (Z01 rfl e12) ?_; intro a7 hE e10 kp; refine wpList_nil ?_; replace e0 := hE.g e0; replace e1 := hE.g e1; replace e4 := hE.g e4; replace k := k.env hE; clear hE; refine Z00 ?_; refine Z07 e10 rfl ?_
 refine wp_seq ?_; refine wp_region_lit ?_
 have hE := Env.refl a7 [15, 16, 17, 18, 14]; refine zm 15 hE k e0 ?_; intro a8 hE e15 kp; refine zm 16 hE k e1 ?_; intro a9 hE e16 kp; replace e15 := kt kp e15; apply Z06 17 hE k rfl (by rfl) (by rfl) rfl
 case h =>
  simp [go_sem, ↓IntWalk.iteOmega, ev e15, ev e16]
  with_reducible exact ⟨rfl, rfl⟩
 case hc => exact Z24 x _ (hs.ext O.below) (hd.ext O.below)
 rintro e _ ⟨rfl, rfl⟩
 refine ⟨_, congrArg (fun b => Ending.returned (.bool b)) (decide_eq_true hx), ?_⟩
 intro a10 hE e17 kp; refine sd 18 hE k (Z15 rfl e17) ?_; intro a11 hE e18 kp; refine sd 14 hE k (Z01 rfl e18) ?_; intro a12 hE e14 kp; refine wpList_nil ?_; replace e0 := hE.g e0; replace e1 := hE.g e1; replace e4 := hE.g e4; replace k := k.env hE; clear hE e10; refine Z00 ?_; refine Z07 e14 rfl ?_
 refine wp_skip ?_; refine Z0f ?_; refine Z00 (wp_seq ?_); refine wp_seq ?_; refine wp_region_lit ?_
 have hE := Env.refl a12 [21, 22, 23, 24, 25, 26, 20, 27, 28, 6, 7]; refine zm 21 hE k e0 ?_; intro a13 hE e21 kp; refine sd 22 hE k (Z0d rfl e21) ?_; intro a14 hE e22 kp; apply Z03 23 hE k rfl rfl rfl rfl; case h =>
  simp [go_sem, ↓IntWalk.iteOmega, ev e22]
  with_reducible rfl
 intro a15 hE e23 kp; apply Z03 24 hE k rfl rfl rfl rfl; case h =>
  simp [go_sem, ↓IntWalk.iteOmega, ev e23, cellB O.below c4]
  with_reducible rfl
 intro a16 hE e24 kp; refine zm 25 hE k e1 ?_; intro a17 hE e25 kp; replace e24 := kt kp e24; refine sd 26 hE k (Z74 (v := .tuple #[.agg #[.int .i64 0, .slice none 0 0], .bool false]) (Z2j (hs.ext O.below).fm rfl Tryz.underlying100 (Z29 _) e24 e25 hwf) (by rw [hm]; rfl)) ?_
 intro a18 hE e26 kp; refine sd 20 hE k (Z02 rfl e26) ?_; intro a19 hE e20 kp; apply Z03 27 hE k rfl rfl rfl rfl; case h =>
  simp [go_sem, ↓IntWalk.iteOmega, ev e20]
  with_reducible rfl
 intro a20 hE e27 kp; replace e20 := kt kp e20; apply Z03 28 hE k rfl rfl rfl rfl; case h =>
  simp [go_sem, ↓IntWalk.iteOmega, ev e20]
  with_reducible rfl
 intro a21 hE e28 kp; replace e27 := kt kp e27; refine Z0v O (cs := #[.int .i64 0, .slice none 0 0]) (t := 47) 6 hE k rfl (by rfl) (by rfl) rfl (by simp [go_sem, ↓IntWalk.iteOmega]) ?_
 clear O; intro gl a22 w23 O hE e6 kp; replace e27 := kt kp e27; replace e28 := kt kp e28; refine Z1b O 0 0 hE e6 e27 ?_
 clear O; intro w24 O; replace O : OwnT _ _ ((tBlk gl 47 #[.int .i64 0, .slice none 0 0]) :: _) w24 := O
 refine sd 7 hE k (Z01 rfl e28) ?_; intro a25 hE e7 kp; replace e6 := kt kp e6; refine wpList_nil ?_; replace e0 := hE.g e0; replace e1 := hE.g e1; replace e4 := hE.g e4; replace k := k.env hE; clear hE e14; refine Z00 (wp_seq ?_); refine wp_region_lit ?_
 have hE := Env.refl a25 [29]; refine zm 29 hE k e7 ?_; intro a26 hE e29 kp; refine wpList_nil ?_; replace e0 := hE.g e0; replace e1 := hE.g e1; replace e4 := hE.g e4; replace e6 := hE.g e6; replace k := k.env hE; clear hE e7; refine Z00 ?_; refine Z07 e29 rfl ?_
 refine wp_skip ?_; refine Z00 ?_; subst hq
 have hpl := Z39 hd.ok (S := S) (L := L) (x := 16 * q) (k := 16) (by unfold pgs at hx; omega)
 obtain ⟨pg, hpg⟩ : ∃ z, readL S L (16 * q) 16 = z := ⟨_, rfl⟩
 rw [hpg] at hr hpl
 refine wp_seq ?_; refine wp_region_lit ?_
 have hE := Env.refl a26 [36, 37, 38, 39, 40, 41, 42, 35, 43, 44, 8, 9]; refine zm 36 hE k e0 ?_; intro a27 hE e36 kp; refine sd 37 hE k (Z0d rfl e36) ?_; intro a28 hE e37 kp; apply Z03 38 hE k rfl rfl rfl rfl; case h =>
  simp [go_sem, ↓IntWalk.iteOmega, ev e37]
  with_reducible rfl
 intro a29 hE e38 kp; apply Z03 39 hE k rfl rfl rfl rfl; case h =>
  simp [go_sem, ↓IntWalk.iteOmega, ev e38, cellB O.below c0]
  with_reducible rfl
 intro a30 hE e39 kp; refine zm 40 hE k e1 ?_; intro a31 hE e40 kp; replace e39 := kt kp e39; refine sd 41 hE k (x_mul rfl e40 rfl (by unfold pgs at hx; omega)) ?_; intro a32 hE e41 kp; replace e39 := kt kp e39; replace e41 := e41.trans (Z10 (show (q : Int) * 16 = ((16 * q : Nat) : Int) by omega))
 apply Z06 42 hE k rfl (by rfl) (by rfl) rfl
 case h =>
  simp [go_sem, ↓IntWalk.iteOmega, ev e39, ev e41]
  with_reducible exact ⟨rfl, rfl⟩
 case hc => exact Z6z (16 * q) 16 _ (hd.ext O.below) (Blk.ext hmn O.below) (by unfold pgs at hx; omega) ha
 rintro e w34 ⟨he, RE⟩
 replace O := OwnT.ext O RE; refine ⟨_, he.trans (by rw [hpg]), ?_⟩
 intro a33 hE e42 kp; refine sd 35 hE k (Z02 rfl e42) ?_; intro a35 hE e35 kp; apply Z03 43 hE k rfl rfl rfl rfl; case h =>
  simp [go_sem, ↓IntWalk.iteOmega, ev e35]
  with_reducible rfl
 intro a36 hE e43 kp; replace e35 := kt kp e35; apply Z03 44 hE k rfl rfl rfl rfl; case h =>
  simp [go_sem, ↓IntWalk.iteOmega, ev e35]
  with_reducible rfl
 intro a37 hE e44 kp; replace e43 := kt kp e43; refine sd 8 hE k (Z01 rfl e43) ?_; intro a38 hE e8 kp; replace e44 := kt kp e44; refine sd 9 hE k (Z01 rfl e44) ?_; intro a39 hE e9 kp; replace e8 := kt kp e8; refine wpList_nil ?_; replace e4 := hE.g e4; replace k := k.env hE; clear hE e0 e1 e6 e29; refine Z00 (wp_seq ?_); refine wp_seq ?_; refine wp_region_lit ?_
 have hE := Env.refl a39 [45, 46]; refine zm 45 hE k e9 ?_; intro a40 hE e45 kp; refine sd 46 hE k (Z08 (Z0x rfl e45 rfl) (decide_eq_false (by omega))) ?_
 intro a41 hE e46 kp; refine wpList_nil ?_; replace e4 := hE.g e4; replace e8 := hE.g e8; replace e9 := hE.g e9; replace k := k.env hE; clear hE; refine Z00 ?_; refine Z07 e46 rfl ?_
 refine wp_skip ?_; refine Z00 (wp_seq ?_); refine wp_region_lit ?_
 have hE := Env.refl a41 [49, 50, 51, 52, 5]; refine zm 49 hE k e8 ?_; intro a42 hE e49 kp; apply Z06 50 hE k rfl (by rfl) (by rfl) rfl
 case h =>
  simp [go_sem, ↓IntWalk.iteOmega, ev e49]
  with_reducible exact ⟨rfl, rfl⟩
 case hc => exact Z7q (sB pg) _ (by rw [Z1q]; omega) pg (Z6o pg)
 rintro e w44 ⟨RE, hn0, hy0⟩
 have he := hn0 hr
 replace O := OwnT.ext O RE; refine ⟨_, he, ?_⟩
 intro a43 hE e50 kp; apply Z03 51 hE k rfl rfl rfl rfl; case h =>
  simp [go_sem, ↓IntWalk.iteOmega, ev e50]
  with_reducible rfl
 intro a45 hE e51 kp; replace e50 := kt kp e50; apply Z03 52 hE k rfl rfl rfl rfl; case h =>
  simp [go_sem, ↓IntWalk.iteOmega, ev e50]
  with_reducible rfl
 intro a46 hE e52 kp; replace e51 := kt kp e51; refine Z1b O 1 0 hE (hE.g e4) e51 ?_
 clear O; intro w47 O; replace O : OwnT _ _ (_ :: (tBlk rb 47 #[.int .i64 0, .slice none 0 0]) :: _) w47 := O
 refine sd 5 hE k (Z01 rfl e52) ?_; intro a48 hE e5 kp; refine wpList_nil ?_; replace e4 := hE.g e4; replace k := k.env hE; clear hE e8 e9 e46; refine Z00 ?_; refine wp_ret ?_
 have q0 : w47.cell? ⟨rb, 0, none⟩ = some (.int .i64 0) := (OwnT.blk O 1 rfl).cell 0
 have q1 : w47.cell? ⟨rb, 1, none⟩ = some (.slice none 0 0) := (OwnT.blk O 1 rfl).cell 1
 refine Z20 rfl k e4 e5 (v := .agg #[.int .i64 0, .slice none 0 0]) (by simp [go_sem, ↓IntWalk.iteOmega, q0, q1]) ?_
 exact ⟨rfl, O.below⟩
set_option maxRecDepth 100000 in
set_option maxHeartbeats 4000000 in
theorem Z5u {sb p kb fb mb n cap bm : Nat} {B : Option Addr} {S : List Sec} {L : Int → Option Sec} {h : Hd} {at_ : Int} {K : Int → Bool} {m : Int → Option Value} {F : Int → Option Nd} {vs : List Value} {N : List Nd} {M : Mn} (q : Nat) (x : Int) (W0 : World) (hs : StR sb p h at_ kb fb K m W0) (hd : DiscR p mb B n cap bm S L W0) (ok : StOk (pgs n) K F vs N m) (hx : 1 ≤ x ∧ x < (pgs n : Nat)) (hF : F x = none) (hq : x = (q : Nat)) (hmn : (tMn mb M).holds W0) (ha : M.away = false) (hr : readB (readL S L (16 * q) 16) = true) : Calls Tryz.prog 21 #[.pointer (some ⟨sb, 0, none⟩), .int .i64 x] W0 fun e w' => ∃ (By : Option Addr) (cy : Nat), e = .returned (.tuple #[.agg #[.int .i64 (lvAt (readL S L (16 * q) 16) : Nat), .slice By (cntAt (readL S L (16 * q) 16)) cy], .int .i64 0]) ∧ Row w' By 2 pairC (pairsAt (readL S L (16 * q) 16) (cntAt (readL S L (16 * q) 16))) ∧ Ext W0 w' := by
 have O := OwnT.start W0
 have hn := hd.ok.le
 have c0 : W0.cell? ⟨sb, 0, none⟩ = some (.pointer (some ⟨p, 0, none⟩)) := hs.blk.cell 0
 have c4 : W0.cell? ⟨sb, 8, none⟩ = some (.map (some fb)) := hs.blk.cell 8
 refine Z0c Tryz.func21 rfl 53 rfl (by rfl) ?_
 intro a1 k hargs; have e0 : a1.eval (.tmp 0) = .pointer (some ⟨sb, 0, none⟩) := hargs 0 _ rfl
 have e1 : a1.eval (.tmp 1) = .int .i64 x := hargs 1 _ rfl
 clear hargs; have hwf := ok.wf hx
 have hm := ok.fm x hF

 refine wp_seq ?_; refine wp_region_lit ?_
 have hE := Env.refl a1 [4, 5]; refine Z0v O (cs := #[.int .i64 0, .slice none 0 0]) (t := 47) 4 hE k rfl (by rfl) (by rfl) rfl (by simp [go_sem, ↓IntWalk.iteOmega]) ?_
 clear O; intro rb a2 w3 O hE e4 kp; refine sd 5 hE k (Z01 rfl rfl) ?_; intro a4 hE e5 kp; replace e4 := kt kp e4; refine wpList_nil ?_; replace e0 := hE.g e0; replace e1 := hE.g e1; replace k := k.env hE; clear hE e5; refine Z00 (wp_seq ?_); refine wp_block ?_; refine wp_seq ?_; refine wp_region_lit ?_
 have hE := Env.refl a4 [11, 12, 10]; refine zm 11 hE k e0 ?_; intro a5 hE e11 kp; apply Z03 12 hE k rfl rfl rfl rfl; case h =>
  simp [go_sem, ↓IntWalk.iteOmega, ev e11]
  with_reducible rfl
 intro a6 hE e12 kp; refine sd 10 hE k (Z01 rfl e12) ?_; intro a7 hE e10 kp; refine wpList_nil ?_; replace e0 := hE.g e0; replace e1 := hE.g e1; replace e4 := hE.g e4; replace k := k.env hE; clear hE; refine Z00 ?_; refine Z07 e10 rfl ?_
 refine wp_seq ?_; refine wp_region_lit ?_
 have hE := Env.refl a7 [15, 16, 17, 18, 14]; refine zm 15 hE k e0 ?_; intro a8 hE e15 kp; refine zm 16 hE k e1 ?_; intro a9 hE e16 kp; replace e15 := kt kp e15; apply Z06 17 hE k rfl (by rfl) (by rfl) rfl
 case h =>
  simp [go_sem, ↓IntWalk.iteOmega, ev e15, ev e16]
  with_reducible exact ⟨rfl, rfl⟩
 case hc => exact Z24 x _ (hs.ext O.below) (hd.ext O.below)
 rintro e _ ⟨rfl, rfl⟩
 refine ⟨_, congrArg (fun b => Ending.returned (.bool b)) (decide_eq_true hx), ?_⟩
 intro a10 hE e17 kp; refine sd 18 hE k (Z15 rfl e17) ?_; intro a11 hE e18 kp; refine sd 14 hE k (Z01 rfl e18) ?_; intro a12 hE e14 kp; refine wpList_nil ?_; replace e0 := hE.g e0; replace e1 := hE.g e1; replace e4 := hE.g e4; replace k := k.env hE; clear hE e10; refine Z00 ?_; refine Z07 e14 rfl ?_
 refine wp_skip ?_; refine Z0f ?_; refine Z00 (wp_seq ?_); refine wp_seq ?_; refine wp_region_lit ?_
 have hE := Env.refl a12 [21, 22, 23, 24, 25, 26, 20, 27, 28, 6, 7]; refine zm 21 hE k e0 ?_; intro a13 hE e21 kp; refine sd 22 hE k (Z0d rfl e21) ?_; intro a14 hE e22 kp; apply Z03 23 hE k rfl rfl rfl rfl; case h =>
  simp [go_sem, ↓IntWalk.iteOmega, ev e22]
  with_reducible rfl
 intro a15 hE e23 kp; apply Z03 24 hE k rfl rfl rfl rfl; case h =>
  simp [go_sem, ↓IntWalk.iteOmega, ev e23, cellB O.below c4]
  with_reducible rfl
 intro a16 hE e24 kp; refine zm 25 hE k e1 ?_; intro a17 hE e25 kp; replace e24 := kt kp e24; refine sd 26 hE k (Z74 (v := .tuple #[.agg #[.int .i64 0, .slice none 0 0], .bool false]) (Z2j (hs.ext O.below).fm rfl Tryz.underlying100 (Z29 _) e24 e25 hwf) (by rw [hm]; rfl)) ?_
 intro a18 hE e26 kp; refine sd 20 hE k (Z02 rfl e26) ?_; intro a19 hE e20 kp; apply Z03 27 hE k rfl rfl rfl rfl; case h =>
  simp [go_sem, ↓IntWalk.iteOmega, ev e20]
  with_reducible rfl
 intro a20 hE e27 kp; replace e20 := kt kp e20; apply Z03 28 hE k rfl rfl rfl rfl; case h =>
  simp [go_sem, ↓IntWalk.iteOmega, ev e20]
  with_reducible rfl
 intro a21 hE e28 kp; replace e27 := kt kp e27; refine Z0v O (cs := #[.int .i64 0, .slice none 0 0]) (t := 47) 6 hE k rfl (by rfl) (by rfl) rfl (by simp [go_sem, ↓IntWalk.iteOmega]) ?_
 clear O; intro gl a22 w23 O hE e6 kp; replace e27 := kt kp e27; replace e28 := kt kp e28; refine Z1b O 0 0 hE e6 e27 ?_
 clear O; intro w24 O; replace O : OwnT _ _ ((tBlk gl 47 #[.int .i64 0, .slice none 0 0]) :: _) w24 := O
 refine sd 7 hE k (Z01 rfl e28) ?_; intro a25 hE e7 kp; replace e6 := kt kp e6; refine wpList_nil ?_; replace e0 := hE.g e0; replace e1 := hE.g e1; replace e4 := hE.g e4; replace k := k.env hE; clear hE e14; refine Z00 (wp_seq ?_); refine wp_region_lit ?_
 have hE := Env.refl a25 [29]; refine zm 29 hE k e7 ?_; intro a26 hE e29 kp; refine wpList_nil ?_; replace e0 := hE.g e0; replace e1 := hE.g e1; replace e4 := hE.g e4; replace e6 := hE.g e6; replace k := k.env hE; clear hE e7; refine Z00 ?_; refine Z07 e29 rfl ?_
 refine wp_skip ?_; refine Z00 ?_; subst hq
 have hpl := Z39 hd.ok (S := S) (L := L) (x := 16 * q) (k := 16) (by unfold pgs at hx; omega)
 obtain ⟨pg, hpg⟩ : ∃ z, readL S L (16 * q) 16 = z := ⟨_, rfl⟩
 rw [hpg] at hr hpl ⊢
 refine wp_seq ?_; refine wp_region_lit ?_
 have hE := Env.refl a26 [36, 37, 38, 39, 40, 41, 42, 35, 43, 44, 8, 9]; refine zm 36 hE k e0 ?_; intro a27 hE e36 kp; refine sd 37 hE k (Z0d rfl e36) ?_; intro a28 hE e37 kp; apply Z03 38 hE k rfl rfl rfl rfl; case h =>
  simp [go_sem, ↓IntWalk.iteOmega, ev e37]
  with_reducible rfl
 intro a29 hE e38 kp; apply Z03 39 hE k rfl rfl rfl rfl; case h =>
  simp [go_sem, ↓IntWalk.iteOmega, ev e38, cellB O.below c0]
  with_reducible rfl
 intro a30 hE e39 kp; refine zm 40 hE k e1 ?_; intro a31 hE e40 kp; replace e39 := kt kp e39; refine sd 41 hE k (x_mul rfl e40 rfl (by unfold pgs at hx; omega)) ?_; intro a32 hE e41 kp; replace e39 := kt kp e39; replace e41 := e41.trans (Z10 (show (q : Int) * 16 = ((16 * q : Nat) : Int) by omega))
 apply Z06 42 hE k rfl (by rfl) (by rfl) rfl
 case h =>
  simp [go_sem, ↓IntWalk.iteOmega, ev e39, ev e41]
  with_reducible exact ⟨rfl, rfl⟩
 case hc => exact Z6z (16 * q) 16 _ (hd.ext O.below) (Blk.ext hmn O.below) (by unfold pgs at hx; omega) ha
 rintro e w34 ⟨he, RE⟩
 replace O := OwnT.ext O RE; refine ⟨_, he.trans (by rw [hpg]), ?_⟩
 intro a33 hE e42 kp; refine sd 35 hE k (Z02 rfl e42) ?_; intro a35 hE e35 kp; apply Z03 43 hE k rfl rfl rfl rfl; case h =>
  simp [go_sem, ↓IntWalk.iteOmega, ev e35]
  with_reducible rfl
 intro a36 hE e43 kp; replace e35 := kt kp e35; apply Z03 44 hE k rfl rfl rfl rfl; case h =>
  simp [go_sem, ↓IntWalk.iteOmega, ev e35]
  with_reducible rfl
 intro a37 hE e44 kp; replace e43 := kt kp e43; refine sd 8 hE k (Z01 rfl e43) ?_; intro a38 hE e8 kp; replace e44 := kt kp e44; refine sd 9 hE k (Z01 rfl e44) ?_; intro a39 hE e9 kp; replace e8 := kt kp e8; refine wpList_nil ?_; replace e4 := hE.g e4; replace k := k.env hE; clear hE e0 e1 e6 e29; refine Z00 (wp_seq ?_); refine wp_seq ?_; refine wp_region_lit ?_
 have hE := Env.refl a39 [45, 46]; refine zm 45 hE k e9 ?_; intro a40 hE e45 kp; refine sd 46 hE k (Z08 (Z0x rfl e45 rfl) (decide_eq_false (by omega))) ?_
 intro a41 hE e46 kp; refine wpList_nil ?_; replace e4 := hE.g e4; replace e8 := hE.g e8; replace e9 := hE.g e9; replace k := k.env hE; clear hE; refine Z00 ?_; refine Z07 e46 rfl ?_
 refine wp_skip ?_; refine Z00 (wp_seq ?_); refine wp_region_lit ?_
 have hE := Env.refl a41 [49, 50, 51, 52, 5]; refine zm 49 hE k e8 ?_; intro a42 hE e49 kp; apply Z06 50 hE k rfl (by rfl) (by rfl) rfl
 case h =>
  simp [go_sem, ↓IntWalk.iteOmega, ev e49]
  with_reducible exact ⟨rfl, rfl⟩
 case hc => exact Z7q (sB pg) _ (by rw [Z1q]; omega) pg (Z6o pg)
 rintro e w44 ⟨RE, hn0, hy0⟩
 obtain ⟨By, cy, rfl, -, -, hy9⟩ := hy0 hr
 have hbr := OwnT.blk (OwnT.ext O RE) 1 rfl
 have q0 : w44.cell? ⟨rb, 0, none⟩ = some (.int .i64 0) := hbr.cell 0
 have q1 : w44.cell? ⟨rb, 1, none⟩ = some (.slice none 0 0) := hbr.cell 1
 have z0 : w44.frozen? ⟨rb, 0, none⟩ = false := hbr.frozen 0
 have z1 : w44.frozen? ⟨rb, 1, none⟩ = false := hbr.frozen 1
 replace O := OwnT.ext O RE; refine ⟨_, rfl, ?_⟩
 intro a43 hE e50 kp; apply Z03 51 hE k rfl rfl rfl rfl; case h =>
  simp [go_sem, ↓IntWalk.iteOmega, ev e50]
  with_reducible rfl
 intro a45 hE e51 kp; replace e50 := kt kp e50; apply Z03 52 hE k rfl rfl rfl rfl; case h =>
  simp [go_sem, ↓IntWalk.iteOmega, ev e50]
  with_reducible rfl
 intro a46 hE e52 kp; replace e51 := kt kp e51; refine Z2c (w' := ((w44.setCell ⟨rb, 0, none⟩ (.int .i64 ↑(lvAt pg))).setCell ⟨rb, 1, none⟩ (.slice By (cntAt pg) cy))) hE rfl rfl ?_ ?_
 · simp [go_sem, ↓IntWalk.iteOmega, ev (hE.g e4), ev e51, q0, q1, z0, z1]
 replace O := OwnT.push 1 rfl (((OwnT.pull O 1 rfl).set 0 (.int .i64 ↑(lvAt pg))).set 1 (.slice By (cntAt pg) cy))
 replace hy9 := Z4m (v0 := (.int .i64 ↑(lvAt pg))) (v1 := (.slice By (cntAt pg) cy)) hy9 hbr
 clear hbr q0 q1 z0 z1; generalize ((w44.setCell ⟨rb, 0, none⟩ (.int .i64 ↑(lvAt pg))).setCell ⟨rb, 1, none⟩ (.slice By (cntAt pg) cy)) = w47 at O hy9 ⊢
 refine sd 5 hE k (Z01 rfl e52) ?_; intro a48 hE e5 kp; refine wpList_nil ?_; replace e4 := hE.g e4; replace k := k.env hE; clear hE e8 e9 e46; refine Z00 ?_; refine wp_ret ?_
 replace O : OwnT _ _ ([tBlk gl 47 #[.int .i64 0, .slice none 0 0], tBlk rb 47 #[.int .i64 (↑(lvAt pg)), .slice By (cntAt pg) cy]]) w47 := O
 have q0 : w47.cell? ⟨rb, 0, none⟩ = some (.int .i64 (↑(lvAt pg))) := (OwnT.blk O 1 rfl).cell 0
 have q1 : w47.cell? ⟨rb, 1, none⟩ = some (.slice By (cntAt pg) cy) := (OwnT.blk O 1 rfl).cell 1
 refine Z20 rfl k e4 e5 (v := .agg #[.int .i64 (↑(lvAt pg)), .slice By (cntAt pg) cy]) (by simp [go_sem, ↓IntWalk.iteOmega, q0, q1]) ?_
 exact ⟨By, cy, rfl, hy9, O.below⟩
end Go.Proofs.YtakkhglbdljfiaaGreatDoor
