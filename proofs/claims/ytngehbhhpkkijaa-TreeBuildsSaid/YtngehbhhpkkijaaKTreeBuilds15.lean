/- trees: a level's nodes (printed by XRdC.gen.py). -/
import Derived.Test.YtngehbhhpkkijaaKTreeBuilds14
namespace Go.Proofs.Ytngehbhhpkkijaa
attribute [local simp] BigFrame.eval_const BigFrame.eval_global BigFrame.eval_func
set_option linter.unusedVariables false
set_option linter.unusedSimpArgs false
open Go.RowKit Go.Maps

theorem OwnT.restR {H : Nat} {A w : World} {L R : List Thing} (h : OwnT H A (L ++ R) w) : Ths w R := Ths.of fun x hx => h.all.mem (List.mem_append_right _ hx)
theorem Z65 : ∀ (a b : List (List Pr)) (n : Nat), outs (a ++ b) n = outs a n ++ outs b (n + a.length)
 | [], _, n => by simp [outs]
 | c :: r, b, n => by
  rw [List.cons_append, Z4w, Z4w, Z65 r b (n + 1), List.cons_append, List.length_cons, show n + 1 + r.length = n + (r.length + 1) by omega]
theorem Z49 {w : World} {g off k : Nat} {xs c : List Pr} (h : Row w (some ⟨g, off, none⟩) 2 pairC xs) (hc : (xs.drop (k * 15)).take 15 = c) : Row w (some ⟨g, off + k * 15 * 2, none⟩) 2 pairC c := by
 have h1 := (h.sub (k * 15) (k * 15 + 1) (fun _ => by omega)).take 15
 have e : (⟨g, off, none⟩ : Addr).add (k * 15 * 2) = ⟨g, off + k * 15 * 2, none⟩ := by unfold Addr.add; split <;> simp_all
 rw [if_neg (by omega), hc, Option.map_some, e] at h1
 exact h1
theorem Z7k {w : World} {g off k v : Nat} {r : List Pr} (h : Row w (some ⟨g, off, none⟩) 2 pairC ((k, v) :: r)) : w.cell? ⟨g, off, none⟩ = some (.int .u64 (k : Int)) := by
 obtain ⟨b, o, e, _, hc⟩ := h 0 (k, v) rfl
 injection e with e
 injection e with e e'
 subst e e'
 exact hc 0 _ rfl
theorem chk_take {xs : List Pr} {k : Nat} (h : k * 15 < xs.length) : (chk xs).take (k + 1) = (chk xs).take k ++ [(xs.drop (k * 15)).take 15] := by
 rw [List.take_add_one, chk_at k xs h]
 rfl

set_option maxRecDepth 100000 in
set_option maxHeartbeats 4000000 in
theorem Z71 {H : Nat} {A0 : World} {R : List Thing} {g off n cap : Nat} (w : World) (O : OwnT H A0 R w) : Calls Try.prog 88 #[.slice (some ⟨g, off, none⟩) n cap, .int .i64 15] w fun e w' => ∃ bs bn, e = .returned (.func (.func 99) #[] #[.pointer (some ⟨bs, 0, none⟩), .pointer (some ⟨bn, 0, none⟩)]) ∧ OwnT H A0 (tBlk bs 29 #[.slice (some ⟨g, off, none⟩) n cap] :: tBlk bn 3 #[.int .i64 15] :: R) w' := by
 refine Z0c Try.func88 rfl 9 rfl (by rfl) ?_
 intro a1 k hargs
 have e0 : a1.eval (.tmp 0) = .slice (some ⟨g, off, none⟩) n cap := hargs 0 _ rfl
 have e1 : a1.eval (.tmp 1) = .int .i64 15 := hargs 1 _ rfl
 clear hargs
 refine wp_seq ?_
 refine wp_region_lit ?_
 have hE := Env.refl a1 [2, 3, 4]
 refine Z0k O (cs := #[.slice (some ⟨g, off, none⟩) n cap]) (t := 29) 2 hE k rfl (by rfl) (by rfl) rfl (by simp [go_sem, ↓IntWalk.iteOmega, ev (hE.g e0)]) ?_
 clear O
 intro bs a2 w3 O hE e2 kp
 refine Z0k O (cs := #[.int .i64 15]) (t := 3) 3 hE k rfl (by rfl) (by rfl) rfl (by simp [go_sem, ↓IntWalk.iteOmega, ev (hE.g e1)]) ?_
 clear O
 intro bn a4 w5 O hE e3 kp
 replace e2 := kt kp e2
 refine sd 4 hE k (Z01 rfl rfl) ?_
 intro a6 hE e4 kp
 replace e2 := kt kp e2; replace e3 := kt kp e3
 refine wpList_nil ?_
 replace k := k.env hE
 clear hE e0 e1 e4
 refine Z00 (wp_seq ?_)
 refine wp_seq ?_
 refine wp_region_lit ?_
 have hE := Env.refl a6 [5, 6]
 apply Z02 5 hE k rfl rfl rfl rfl
 case h =>
  have q0 : w5.cell? ⟨bn, 0, none⟩ = some (.int .i64 15) := (OwnT.blk O 0 rfl).cell 0
  simp [go_sem, ↓IntWalk.iteOmega, ev (hE.g e3), q0]
  with_reducible rfl
 intro a7 hE e5 kp
 refine sd 6 hE k (Z1c rfl e5 rfl) ?_
 intro a8 hE e6 kp
 refine wpList_nil ?_
 replace e2 := hE.g e2; replace e3 := hE.g e3
 replace k := k.env hE
 clear hE
 refine Z00 ?_
 refine Z05 e6 rfl ?_
 refine wp_skip ?_
 refine Z00 (wp_seq ?_)
 refine wp_region_lit ?_
 have hE := Env.refl a8 [8, 4]
 apply Z02 8 hE k rfl rfl rfl rfl
 case h =>
  simp [go_sem, ↓IntWalk.iteOmega, ev (hE.g e2), ev (hE.g e3)]
  with_reducible rfl
 intro a9 hE e8 kp
 refine sd 4 hE k (Z01 rfl e8) ?_
 intro a10 hE e4 kp
 refine wpList_nil ?_
 replace k := k.env hE
 clear hE e2 e3 e6
 refine Z00 ?_
 refine wp_ret ?_
 replace O : OwnT _ _ ((tBlk bs 29 #[.slice (some ⟨g, off, none⟩) n cap]) :: (tBlk bn 3 #[.int .i64 15]) :: R) w5 := OwnT.pickR (L := [_, _]) (R := R) O [1, 0] (by decide)
 refine Z0p rfl k e4 ?_
 exact ⟨bs, bn, rfl, O⟩
set_option maxRecDepth 100000 in
set_option maxHeartbeats 4000000 in
theorem trow {H : Nat} {A0 : World} {R : List Thing} {sb cap : Nat} {room : Int} {B : Option Addr} {vs : List Value} {N : List Nd} {l g off n : Nat} {xs : List Pr} {c0 : Nat} (w : World) (O : OwnT H A0 (shT sb room B cap vs N R) w) (hxl : xs.length = n) (hn : n ≤ 1000000) (hN : N.length + (chk xs).length ≤ 1000000) (hcap : n ≤ c0) (hn0 : 0 < n) (hrow : ∀ W, Below H A0 W → Ths W R → Row W (some ⟨g, off, none⟩) 2 pairC xs) : Calls Try.prog 65 #[.iface 24 (.pointer (some ⟨sb, 0, none⟩)), .int .i64 l, .slice (some ⟨g, off, none⟩) n c0] w fun e w' => ∃ v' er, e = .returned (.tuple #[v', .int .i64 er]) ∧ ∃ B' cap' vs' N', OwnT H A0 (tPs v' (if er = 0 then outs (chk xs) N.length else []) :: shT sb room B' cap' vs' N' R) w' ∧ ((er = 0 ∧ N' = N ++ newN l (chk xs) ∧ (N.length + (chk xs).length ≤ 511 ∧ ((N.length + (chk xs).length : Nat) : Int) ≤ room)) ∨ (er = 6 ∧ N'.length ≤ N.length + (chk xs).length ∧ ¬ (N.length + (chk xs).length ≤ 511 ∧ ((N.length + (chk xs).length : Nat) : Int) ≤ room))) := by
 have hL : ¬ LetsOut (bodyPostM (FR none) 0 Try.prog Try.f65 fun e w' => ∃ v' er, e = .returned (.tuple #[v', .int .i64 er]) ∧ ∃ B' cap' vs' N', OwnT H A0 (tPs v' (if er = 0 then outs (chk xs) N.length else []) :: shT sb room B' cap' vs' N' R) w' ∧ ((er = 0 ∧ N' = N ++ newN l (chk xs) ∧ (N.length + (chk xs).length ≤ 511 ∧ ((N.length + (chk xs).length : Nat) : Int) ≤ room)) ∨ (er = 6 ∧ N'.length ≤ N.length + (chk xs).length ∧ ¬ (N.length + (chk xs).length ≤ 511 ∧ ((N.length + (chk xs).length : Nat) : Int) ≤ room)))) := fun ⟨_, _, h⟩ => by obtain ⟨v', er, h, _⟩ := h; cases h
 refine calls_FM Try.func65 rfl 37 rfl (by rfl) ?_
 intro a1 k hargs
 have e0 : a1.eval (.tmp 0) = .iface 24 (.pointer (some ⟨sb, 0, none⟩)) := hargs 0 _ rfl
 have e1 : a1.eval (.tmp 1) = .int .i64 ↑l := hargs 1 _ rfl
 have e2 : a1.eval (.tmp 2) = .slice (some ⟨g, off, none⟩) n c0 := hargs 2 _ rfl
 clear hargs
 have hcl := Z5w xs
 refine wp_seq ?_
 refine wp_region_lit ?_
 have hE := Env.refl a1 [3, 4, 6, 7]
 refine Z0k O (cs := #[.iface 24 (.pointer (some ⟨sb, 0, none⟩))]) (t := 129) 3 hE k rfl (by rfl) (by rfl) rfl (by simp [go_sem, ↓IntWalk.iteOmega, ev (hE.g e0)]) ?_
 clear O
 intro b3 a2 w3 O hE e3 kp
 refine Z0k O (cs := #[.int .i64 ↑l]) (t := 3) 4 hE k rfl (by rfl) (by rfl) rfl (by simp [go_sem, ↓IntWalk.iteOmega, ev (hE.g e1)]) ?_
 clear O
 intro b4 a4 w5 O hE e4 kp
 replace e3 := kt kp e3
 refine Z0k O (cs := #[.slice none 0 0]) (t := 29) 6 hE k rfl (by rfl) (by rfl) rfl (by simp [go_sem, ↓IntWalk.iteOmega]) ?_
 clear O
 intro b6 a6 w7 O hE e6 kp
 replace e3 := kt kp e3; replace e4 := kt kp e4
 refine Z0k O (cs := #[.int .i64 0]) (t := 33) 7 hE k rfl (by rfl) (by rfl) rfl (by simp [go_sem, ↓IntWalk.iteOmega]) ?_
 clear O
 intro b7 a8 w9 O hE e7 kp
 replace e3 := kt kp e3; replace e4 := kt kp e4; replace e6 := kt kp e6
 refine wpList_nil ?_
 replace e2 := hE.g e2
 replace k := k.env hE
 clear hE e0 e1
 refine Z00 (wp_seq ?_)
 refine wp_region_lit ?_
 have hE := Env.refl a8 [8]
 refine Z0k O (cs := #[.slice none 0 0]) (t := 29) 8 hE k rfl (by rfl) (by rfl) rfl (by simp [go_sem, ↓IntWalk.iteOmega]) ?_
 clear O
 intro b8 a10 w11 O hE e8 kp
 refine wpList_nil ?_
 replace e2 := hE.g e2; replace e3 := hE.g e3; replace e4 := hE.g e4; replace e6 := hE.g e6; replace e7 := hE.g e7
 replace k := k.env hE
 clear hE
 refine Z00 (wp_seq ?_)
 refine wp_seq ?_
 refine wp_region_lit ?_
 have hE := Env.refl a10 [12, 13]
 refine zm 12 hE k e2 ?_
 intro a12 hE e12 kp
 apply Z08 13 hE k rfl (by rfl) (by rfl) rfl
 case h =>
  simp [go_sem, ↓IntWalk.iteOmega, ev e12]
  with_reducible exact ⟨rfl, rfl⟩
 case hc => exact Z71 (n := n) (cap := c0) (g := g) (off := off) _ O
 clear O
 rintro e w14 ⟨bs, bn, rfl, O⟩
 refine ⟨_, rfl, ?_⟩
 intro a13 hE e13 kp
 refine wpList_nil ?_
 replace e3 := hE.g e3; replace e4 := hE.g e4; replace e6 := hE.g e6; replace e7 := hE.g e7; replace e8 := hE.g e8
 replace k := k.env hE
 clear hE e2
 refine Z00 ?_
 refine wp_block ?_
 replace O : OwnT _ _ ((tBlk bs 29 #[.slice (some ⟨g, off, none⟩) n c0]) :: (tBlk bn 3 #[.int .i64 15]) :: (tBlk b8 29 #[.slice none 0 0]) :: (tBlk b7 33 #[.int .i64 0]) :: (tBlk b6 29 #[.slice none 0 0]) :: (tBlk b4 3 #[.int .i64 ↑l]) :: (tBlk b3 129 #[.iface 24 (.pointer (some ⟨sb, 0, none⟩))]) :: (tBlk sb 28 #[.slice B N.length cap, .int .i64 room]) :: (tRow 125 2 (.slice B N.length cap) N.length (leafV vs N)) :: (tPool vs N) :: R) w14 := O
 replace O := OwnT.nilRow O 38 2
 replace O : OwnT _ _ ((tRow 38 2 (.slice none 0 0) 0 (flatP [])) :: (tBlk bs 29 #[.slice (some ⟨g, off, none⟩) n c0]) :: (tBlk bn 3 #[.int .i64 15]) :: (tBlk b8 29 #[.slice none 0 0]) :: (tBlk b7 33 #[.int .i64 0]) :: (tBlk b6 29 #[.slice none 0 0]) :: (tBlk b4 3 #[.int .i64 ↑l]) :: (tBlk b3 129 #[.iface 24 (.pointer (some ⟨sb, 0, none⟩))]) :: (tBlk sb 28 #[.slice B N.length cap, .int .i64 room]) :: (tRow 125 2 (.slice B N.length cap) N.length (leafV vs N)) :: (tPool vs N) :: R) w14 := O
 replace O : OwnT _ _ ((tBlk sb 28 #[.slice B N.length cap, .int .i64 room]) :: (tRow 125 2 (.slice B N.length cap) N.length (leafV vs N)) :: (tPool vs N) :: (tRow 38 2 (.slice none 0 0) 0 (flatP [])) :: (tBlk bs 29 #[.slice (some ⟨g, off, none⟩) n c0]) :: (tBlk bn 3 #[.int .i64 15]) :: (tBlk b8 29 #[.slice none 0 0]) :: (tBlk b7 33 #[.int .i64 0]) :: (tBlk b6 29 #[.slice none 0 0]) :: (tBlk b4 3 #[.int .i64 ↑l]) :: (tBlk b3 129 #[.iface 24 (.pointer (some ⟨sb, 0, none⟩))]) :: R) w14 := OwnT.pickR (L := [_, _, _, _, _, _, _, _, _, _, _]) (R := R) O [8, 9, 10, 0, 1, 2, 3, 4, 5, 6, 7] (by decide)
 refine Z74 O k.defers e13 (Go.Proofs.enters_of Try.func99 (by kernel_rfl) rfl) ?_
 clear O
 intro fn l' D w0 rec hrec O
 have hr1 : ({ ({ rec .ready none with state := .busy } : Loop) with state := .ready, pending := none } : Loop) = rec .ready none := by simp only [hrec]
 have hr2 : ({ ({ rec .ready none with state := .busy } : Loop) with state := .done, pending := some Code.ret } : Loop) = rec .done (some .ret) := by simp only [hrec]
 obtain ⟨J, hJ⟩ : ∃ J : Nat → World → Prop, J = (fun k w => (k = 0 ∨ (N.length + k ≤ 511 ∧ ((N.length + k : Nat) : Int) ≤ room)) ∧ k ≤ (chk xs).length ∧ ∃ Bo co B cap vs, OwnT H A0 ((tObj l' (.loop (rec .ready none))) :: (tDf D) :: (tBlk sb 28 #[.slice B ((N ++ newN l ((chk xs).take k)).length) cap, .int .i64 room]) :: (tRow 125 2 (.slice B (N ++ newN l ((chk xs).take k)).length cap) (N ++ newN l ((chk xs).take k)).length (leafV vs (N ++ newN l ((chk xs).take k)))) :: (tPool vs (N ++ newN l ((chk xs).take k))) :: (tRow 38 2 (.slice Bo k co) k (flatP (outs ((chk xs).take k) N.length))) :: (tBlk bs 29 #[.slice (some ⟨g, off, none⟩) n c0]) :: (tBlk bn 3 #[.int .i64 15]) :: (tBlk b8 29 #[.slice Bo k co]) :: (tBlk b7 33 #[.int .i64 0]) :: (tBlk b6 29 #[.slice none 0 0]) :: (tBlk b4 3 #[.int .i64 ↑l]) :: (tBlk b3 129 #[.iface 24 (.pointer (some ⟨sb, 0, none⟩))]) :: R) w) := ⟨_, rfl⟩
 obtain ⟨Jx, hJx⟩ : ∃ Jx : World → Prop, Jx = (fun w => ¬ (N.length + (chk xs).length ≤ 511 ∧ ((N.length + (chk xs).length : Nat) : Int) ≤ room) ∧ ∃ N' B cap vs, N'.length ≤ N.length + (chk xs).length ∧ OwnT H A0 ((tObj l' (.loop (rec .done (some .ret)))) :: (tDf D) :: (tBlk sb 28 #[.slice B N'.length cap, .int .i64 room]) :: (tRow 125 2 (.slice B N'.length cap) N'.length (leafV vs N')) :: (tPool vs N') :: (tBlk b6 29 #[.slice none 0 0]) :: (tBlk b7 33 #[.int .i64 6]) :: R) w) := ⟨_, rfl⟩
 have h0 : J 0 w0 := by rw [hJ]; exact ⟨.inl rfl, Nat.zero_le _, none, 0, B, cap, vs, by rw [List.take_zero, show N ++ newN l [] = N from List.append_nil N]; exact O⟩
 clear O
 have hc := chunk1 (l := l') (g := g) (off := off) (n := n) (cap := c0) (bs := bs) (bn := bn) J Jx ?hb ?he hn hcap ?hy w0 h0
 case hb =>
  intro k w h; rw [hJ] at h; obtain ⟨_, _, Bo, co, B, cap, vs, O⟩ := h
  exact ⟨(OwnT.blk O 6 rfl).cell 0, (OwnT.blk O 7 rfl).cell 0⟩
 case he =>
  intro k w w' h R; rw [hJ] at h ⊢; obtain ⟨h1, h2, Bo, co, B, cap, vs, O⟩ := h
  exact ⟨h1, h2, Bo, co, B, cap, vs, O.ext R⟩
 case hy =>
  intro k w h hlt; rw [hJ] at h; obtain ⟨hfk, hkm, Bo, co, B, cap, vs, O⟩ := h
  obtain ⟨c, hc⟩ : ∃ c, (xs.drop (k * 15)).take 15 = c := ⟨_, rfl⟩
  have hcl2 : c.length = min 15 (n - k * 15) := by rw [← hc, List.length_take, List.length_drop, hxl]
  have htk := chk_take (xs := xs) (k := k) (by omega)
  rw [hc] at htk
  rw [← hcl2]
  have hy := run_yield (P := Try.prog) (args := #[.slice (some ⟨g, off + k * 15 * 2, none⟩) c.length c.length]) O.t0 (by rw [hrec]; rfl)
  refine ⟨_, _, _, _, hy, ?_⟩
  clear hy
  rw [show (rec .ready none).fn = fn by rw [hrec], show (rec .ready none).params = #[14] by rw [hrec], show (rec .ready none).tmps = _ by rw [hrec], show (rec .ready none).assign = _ by rw [hrec], show (rec .ready none).body = _ by rw [hrec]]
  refine roundIn_of_wpIn trivial ?_
  show Code.wpIn (FR (some l')) 0 _ _ _ _ _
  have hLR : ¬ LetsOut (roundPost Try.prog l' fun e w' => (e = .returned (.bool true) ∧ J (k + 1) w') ∨ (e = .returned (.bool false) ∧ Jx w')) := fun ⟨_, _, h⟩ => h
  have kf := ‹Fr 37 a13›
  refine Z5h (t := 14) (a := a13) kf (by rfl) (G := fun b => Code.wpIn (FR (some l')) 0 _ _ _ b w) ?_
  intro b kb e14 hb
  have f3 := (hb 3 rfl).trans e3
  have f4 := (hb 4 rfl).trans e4
  have f6 := (hb 6 rfl).trans e6
  have f7 := (hb 7 rfl).trans e7
  have f8 := (hb 8 rfl).trans e8
  clear hb kf
  clear e3 e4 e6 e7 e8 e13
  have e3 := f3; clear f3
  have e4 := f4; clear f4
  have e6 := f6; clear f6
  have e7 := f7; clear f7
  have e8 := f8; clear f8
  revert kb
  generalize hkk : k = j at *
  intro k
  refine wpIn_region_lit ?_
  have hE := Env.refl b [9]
  refine Z11 rfl hLR ?_
  refine sd 9 hE k (Z01 rfl (hE.g e14)) ?_
  intro a15 hE e9 kp
  refine wpList_nil ?_
  refine Z00 ?_
  refine wpListIn_nil ?_
  replace e3 := hE.g e3; replace e4 := hE.g e4; replace e6 := hE.g e6; replace e7 := hE.g e7; replace e8 := hE.g e8
  replace k := k.env hE
  clear hE e14
  refine Z00 ?_
  refine begin_F O (by simp only [hrec]) ?_
  clear O
  intro w16 O
  replace O : OwnT _ _ ((tObj l' (.loop { rec .ready none with state := .busy })) :: (tDf D) :: (tBlk sb 28 #[.slice B ((N ++ newN l ((chk xs).take j)).length) cap, .int .i64 room]) :: (tRow 125 2 (.slice B (N ++ newN l ((chk xs).take j)).length cap) (N ++ newN l ((chk xs).take j)).length (leafV vs (N ++ newN l ((chk xs).take j)))) :: (tPool vs (N ++ newN l ((chk xs).take j))) :: (tRow 38 2 (.slice Bo j co) j (flatP (outs ((chk xs).take j) N.length))) :: (tBlk bs 29 #[.slice (some ⟨g, off, none⟩) n c0]) :: (tBlk bn 3 #[.int .i64 15]) :: (tBlk b8 29 #[.slice Bo j co]) :: (tBlk b7 33 #[.int .i64 0]) :: (tBlk b6 29 #[.slice none 0 0]) :: (tBlk b4 3 #[.int .i64 ↑l]) :: (tBlk b3 129 #[.iface 24 (.pointer (some ⟨sb, 0, none⟩))]) :: R) w16 := O
  have hrp := Z49 (k := j) (hrow _ O.below (OwnT.restR (L := [_, _, _, _, _, _, _, _, _, _, _, _, _]) O)) hc
  obtain ⟨NJ, hNJ⟩ : ∃ NJ, N ++ newN l ((chk xs).take j) = NJ := ⟨_, rfl⟩
  have hNJl : NJ.length = N.length + j := by rw [← hNJ, List.length_append, List.length_map, List.length_take]; omega
  obtain ⟨E, hE_⟩ : ∃ E, outs ((chk xs).take j) N.length = E := ⟨_, rfl⟩
  have hEl : E.length = j := by rw [← hE_, Z1g, List.length_take]; omega
  rw [hNJ, hE_] at O
  replace O : OwnT _ _ ((tObj l' (.loop { rec .ready none with state := .busy })) :: (tDf D) :: (tBlk sb 28 #[.slice B NJ.length cap, .int .i64 room]) :: (tRow 125 2 (.slice B NJ.length cap) NJ.length (leafV vs NJ)) :: (tPool vs NJ) :: (tRow 38 2 (.slice Bo j co) j (flatP E)) :: (tBlk bs 29 #[.slice (some ⟨g, off, none⟩) n c0]) :: (tBlk bn 3 #[.int .i64 15]) :: (tBlk b8 29 #[.slice Bo j co]) :: (tBlk b7 33 #[.int .i64 0]) :: (tBlk b6 29 #[.slice none 0 0]) :: (tBlk b4 3 #[.int .i64 ↑l]) :: (tBlk b3 129 #[.iface 24 (.pointer (some ⟨sb, 0, none⟩))]) :: R) w16 := O
  replace O : OwnT _ _ ((tBlk sb 28 #[.slice B NJ.length cap, .int .i64 room]) :: (tRow 125 2 (.slice B NJ.length cap) NJ.length (leafV vs NJ)) :: (tPool vs NJ) :: (tObj l' (.loop { rec .ready none with state := .busy })) :: (tDf D) :: (tRow 38 2 (.slice Bo j co) j (flatP E)) :: (tBlk bs 29 #[.slice (some ⟨g, off, none⟩) n c0]) :: (tBlk bn 3 #[.int .i64 15]) :: (tBlk b8 29 #[.slice Bo j co]) :: (tBlk b7 33 #[.int .i64 0]) :: (tBlk b6 29 #[.slice none 0 0]) :: (tBlk b4 3 #[.int .i64 ↑l]) :: (tBlk b3 129 #[.iface 24 (.pointer (some ⟨sb, 0, none⟩))]) :: R) w16 := OwnT.pickR (L := [_, _, _, _, _, _, _, _, _, _, _, _, _]) (R := R) O [2, 3, 4, 0, 1, 5, 6, 7, 8, 9, 10, 11, 12] (by decide)
  have hc15 : c.length ≤ 15 := by omega
  have hc0 : 0 < c.length := by omega
  by_cases hf : NJ.length < 511 ∧ (NJ.length : Int) < room
  rotate_left
  · skip
    refine wpIn_block ?_
    refine wpIn_seq ?_
    refine wpIn_region_lit ?_
    have hE := Env.refl a15 [16, 17, 18, 19, 20, 15, 21, 22, 10, 11]
    refine Z11 rfl hLR ?_
    apply Z02 16 hE k rfl rfl rfl rfl
    case h =>
     have q0 : w16.cell? ⟨b3, 0, none⟩ = some (.iface 24 (.pointer (some ⟨sb, 0, none⟩))) := (OwnT.blk O 12 rfl).cell 0
     simp [go_sem, ↓IntWalk.iteOmega, ev (hE.g e3), q0]
     with_reducible rfl
    intro a17 hE e16 kp
    refine wpList_nil ?_
    refine Z00 ?_
    refine Z11 rfl hLR ?_
    apply Z02 17 hE k rfl rfl rfl rfl
    case h =>
     have q0 : w16.cell? ⟨b4, 0, none⟩ = some (.int .i64 ↑l) := (OwnT.blk O 11 rfl).cell 0
     simp [go_sem, ↓IntWalk.iteOmega, ev (hE.g e4), q0]
     with_reducible rfl
    intro a18 hE e17 kp
    replace e16 := kt kp e16
    refine wpList_nil ?_
    refine Z00 ?_
    refine Z11 rfl hLR ?_
    refine zm 18 hE k e9 ?_
    intro a19 hE e18 kp
    replace e16 := kt kp e16; replace e17 := kt kp e17
    refine wpList_nil ?_
    refine Z00 ?_
    refine Z11 rfl hLR ?_
    apply Z02 19 hE k rfl rfl rfl rfl
    case h =>
     simp [go_sem, ↓IntWalk.iteOmega, ev e17, ev e18]
     with_reducible rfl
    intro a20 hE e19 kp
    replace e16 := kt kp e16
    refine wpList_nil ?_
    refine Z00 ?_
    refine Z11 rfl hLR ?_
    apply Z08 20 hE k rfl (by rfl) (by rfl) rfl
    case h =>
     exact Z34 rfl e16 e19 (Z1q _ _ _)
    case hc => exact Z2b c _ O (by omega) hf
    clear O
    rintro e w22 ⟨rfl, O⟩
    refine ⟨_, rfl, ?_⟩
    intro a21 hE e20 kp
    refine wpList_nil ?_
    refine Z00 ?_
    refine Z11 rfl hLR ?_
    refine sd 15 hE k (Z03 rfl e20) ?_
    intro a23 hE e15 kp
    refine wpList_nil ?_
    refine Z00 ?_
    refine Z11 rfl hLR ?_
    apply Z02 21 hE k rfl rfl rfl rfl
    case h =>
     simp [go_sem, ↓IntWalk.iteOmega, ev e15]
     with_reducible rfl
    intro a24 hE e21 kp
    replace e15 := kt kp e15
    refine wpList_nil ?_
    refine Z00 ?_
    refine Z11 rfl hLR ?_
    apply Z02 22 hE k rfl rfl rfl rfl
    case h =>
     simp [go_sem, ↓IntWalk.iteOmega, ev e15]
     with_reducible rfl
    intro a25 hE e22 kp
    replace e21 := kt kp e21
    refine wpList_nil ?_
    refine Z00 ?_
    refine Z11 rfl hLR ?_
    refine sd 10 hE k (Z01 rfl e21) ?_
    intro a26 hE e10 kp
    replace e22 := kt kp e22
    refine wpList_nil ?_
    refine Z00 ?_
    refine Z11 rfl hLR ?_
    refine sd 11 hE k (Z01 rfl e22) ?_
    intro a27 hE e11 kp
    replace e10 := kt kp e10
    refine wpList_nil ?_
    refine Z00 ?_
    refine wpListIn_nil ?_
    replace e6 := hE.g e6; replace e7 := hE.g e7; replace e8 := hE.g e8; replace e9 := hE.g e9
    replace k := k.env hE
    clear hE e3 e4
    refine Z00 ?_
    refine wpIn_seq ?_
    refine wpIn_seq ?_
    refine wpIn_region_lit ?_
    have hE := Env.refl a27 [23, 24]
    refine Z11 rfl hLR ?_
    refine zm 23 hE k e11 ?_
    intro a28 hE e23 kp
    refine wpList_nil ?_
    refine Z00 ?_
    refine Z11 rfl hLR ?_
    refine sd 24 hE k (Z1f rfl e23 rfl) ?_
    intro a29 hE e24 kp
    refine wpList_nil ?_
    refine Z00 ?_
    refine wpListIn_nil ?_
    replace e6 := hE.g e6; replace e7 := hE.g e7; replace e8 := hE.g e8; replace e9 := hE.g e9; replace e10 := hE.g e10; replace e11 := hE.g e11
    replace k := k.env hE
    clear hE
    refine Z00 ?_
    refine condR_t e24 rfl ?_
    refine wpIn_seq ?_
    refine wpIn_region_lit ?_
    have hE := Env.refl a29 [25]
    refine Z11 rfl hLR ?_
    refine zm 25 hE k e11 ?_
    intro a30 hE e25 kp
    refine wpList_nil ?_
    refine Z00 ?_
    refine Z11 rfl hLR ?_
    have q0 : w22.cell? ⟨b6, 0, none⟩ = some (.slice none 0 0) := (OwnT.blk O 10 rfl).cell 0
    have q1 : w22.frozen? ⟨b6, 0, none⟩ = false := (OwnT.blk O 10 rfl).frozen 0
    refine Z1b (off := 0) (v := Value.slice none 0 0) O 10 rfl hE rfl rfl (by simp [go_sem, ↓IntWalk.iteOmega, ev (hE.g e6), q0, q1]) ?_
    clear q0 q1
    clear O
    intro w31 O
    replace O : OwnT _ _ ((tBlk sb 28 #[.slice B NJ.length cap, .int .i64 room]) :: (tRow 125 2 (.slice B NJ.length cap) NJ.length (leafV vs NJ)) :: (tPool vs NJ) :: (tObj l' (.loop { rec .ready none with state := .busy })) :: (tDf D) :: (tRow 38 2 (.slice Bo j co) j (flatP E)) :: (tBlk bs 29 #[.slice (some ⟨g, off, none⟩) n c0]) :: (tBlk bn 3 #[.int .i64 15]) :: (tBlk b8 29 #[.slice Bo j co]) :: (tBlk b7 33 #[.int .i64 0]) :: (tBlk b6 29 #[Value.slice none 0 0]) :: (tBlk b4 3 #[.int .i64 ↑l]) :: (tBlk b3 129 #[.iface 24 (.pointer (some ⟨sb, 0, none⟩))]) :: R) w31 := O
    refine wpList_nil ?_
    refine Z00 ?_
    refine Z11 rfl hLR ?_
    have q0 : w31.cell? ⟨b7, 0, none⟩ = some (.int .i64 0) := (OwnT.blk O 9 rfl).cell 0
    have q1 : w31.frozen? ⟨b7, 0, none⟩ = false := (OwnT.blk O 9 rfl).frozen 0
    refine Z1b (off := 0) (v := .int .i64 6) O 9 rfl hE rfl rfl (by simp [go_sem, ↓IntWalk.iteOmega, ev (hE.g e7), ev e25, q0, q1]) ?_
    clear q0 q1
    clear O
    intro w32 O
    replace O : OwnT _ _ ((tBlk sb 28 #[.slice B NJ.length cap, .int .i64 room]) :: (tRow 125 2 (.slice B NJ.length cap) NJ.length (leafV vs NJ)) :: (tPool vs NJ) :: (tObj l' (.loop { rec .ready none with state := .busy })) :: (tDf D) :: (tRow 38 2 (.slice Bo j co) j (flatP E)) :: (tBlk bs 29 #[.slice (some ⟨g, off, none⟩) n c0]) :: (tBlk bn 3 #[.int .i64 15]) :: (tBlk b8 29 #[.slice Bo j co]) :: (tBlk b7 33 #[.int .i64 6]) :: (tBlk b6 29 #[Value.slice none 0 0]) :: (tBlk b4 3 #[.int .i64 ↑l]) :: (tBlk b3 129 #[.iface 24 (.pointer (some ⟨sb, 0, none⟩))]) :: R) w32 := O
    refine wpList_nil ?_
    refine Z00 ?_
    refine wpListIn_nil ?_
    replace e6 := hE.g e6; replace e7 := hE.g e7
    replace k := k.env hE
    clear hE e8 e9 e10 e11 e24 e25
    refine Z00 ?_
    refine wpIn_ret ?_
    refine Z0d ?_
    refine Z0s ?_
    replace O : OwnT _ _ ((tObj l' (.loop { rec .ready none with state := .busy })) :: (tDf D) :: (tBlk sb 28 #[.slice B NJ.length cap, .int .i64 room]) :: (tRow 125 2 (.slice B NJ.length cap) NJ.length (leafV vs NJ)) :: (tPool vs NJ) :: (tBlk b6 29 #[Value.slice none 0 0]) :: (tBlk b7 33 #[.int .i64 6]) :: R) w32 := OwnT.pickR (L := [_, _, _, _, _, _, _, _, _, _, _, _, _]) (R := R) O [3, 4, 0, 1, 2, 10, 9] (by decide)
    refine end_r O ?_
    intro w' O; rw [hr2] at O
    refine .inr ⟨rfl, ?_⟩
    rw [hJx]; exact ⟨by omega, NJ, B, cap, vs, by omega, O⟩
  · skip
    refine wpIn_block ?_
    refine wpIn_seq ?_
    refine wpIn_region_lit ?_
    have hE := Env.refl a15 [16, 17, 18, 19, 20, 15, 21, 22, 10, 11]
    refine Z11 rfl hLR ?_
    apply Z02 16 hE k rfl rfl rfl rfl
    case h =>
     have q0 : w16.cell? ⟨b3, 0, none⟩ = some (.iface 24 (.pointer (some ⟨sb, 0, none⟩))) := (OwnT.blk O 12 rfl).cell 0
     simp [go_sem, ↓IntWalk.iteOmega, ev (hE.g e3), q0]
     with_reducible rfl
    intro a33 hE e16 kp
    refine wpList_nil ?_
    refine Z00 ?_
    refine Z11 rfl hLR ?_
    apply Z02 17 hE k rfl rfl rfl rfl
    case h =>
     have q0 : w16.cell? ⟨b4, 0, none⟩ = some (.int .i64 ↑l) := (OwnT.blk O 11 rfl).cell 0
     simp [go_sem, ↓IntWalk.iteOmega, ev (hE.g e4), q0]
     with_reducible rfl
    intro a34 hE e17 kp
    replace e16 := kt kp e16
    refine wpList_nil ?_
    refine Z00 ?_
    refine Z11 rfl hLR ?_
    refine zm 18 hE k e9 ?_
    intro a35 hE e18 kp
    replace e16 := kt kp e16; replace e17 := kt kp e17
    refine wpList_nil ?_
    refine Z00 ?_
    refine Z11 rfl hLR ?_
    apply Z02 19 hE k rfl rfl rfl rfl
    case h =>
     simp [go_sem, ↓IntWalk.iteOmega, ev e17, ev e18]
     with_reducible rfl
    intro a36 hE e19 kp
    replace e16 := kt kp e16
    refine wpList_nil ?_
    refine Z00 ?_
    refine Z11 rfl hLR ?_
    apply Z08 20 hE k rfl (by rfl) (by rfl) rfl
    case h =>
     exact Z34 rfl e16 e19 (Z1q _ _ _)
    case hc => exact Z3b c _ O (by omega) hf hrp (.inr ⟨_, _, rfl⟩) (by omega)
    clear O
    rintro e w38 ⟨rfl, B2, cap2, vs2, O⟩
    refine ⟨_, rfl, ?_⟩
    intro a37 hE e20 kp
    refine wpList_nil ?_
    refine Z00 ?_
    refine Z11 rfl hLR ?_
    refine sd 15 hE k (Z03 rfl e20) ?_
    intro a39 hE e15 kp
    refine wpList_nil ?_
    refine Z00 ?_
    refine Z11 rfl hLR ?_
    apply Z02 21 hE k rfl rfl rfl rfl
    case h =>
     simp [go_sem, ↓IntWalk.iteOmega, ev e15]
     with_reducible rfl
    intro a40 hE e21 kp
    replace e15 := kt kp e15
    refine wpList_nil ?_
    refine Z00 ?_
    refine Z11 rfl hLR ?_
    apply Z02 22 hE k rfl rfl rfl rfl
    case h =>
     simp [go_sem, ↓IntWalk.iteOmega, ev e15]
     with_reducible rfl
    intro a41 hE e22 kp
    replace e21 := kt kp e21
    refine wpList_nil ?_
    refine Z00 ?_
    refine Z11 rfl hLR ?_
    refine sd 10 hE k (Z01 rfl e21) ?_
    intro a42 hE e10 kp
    replace e22 := kt kp e22
    refine wpList_nil ?_
    refine Z00 ?_
    refine Z11 rfl hLR ?_
    refine sd 11 hE k (Z01 rfl e22) ?_
    intro a43 hE e11 kp
    replace e10 := kt kp e10
    refine wpList_nil ?_
    refine Z00 ?_
    refine wpListIn_nil ?_
    replace e6 := hE.g e6; replace e7 := hE.g e7; replace e8 := hE.g e8; replace e9 := hE.g e9
    replace k := k.env hE
    clear hE e3 e4
    refine Z00 ?_
    refine wpIn_seq ?_
    refine wpIn_seq ?_
    refine wpIn_region_lit ?_
    have hE := Env.refl a43 [23, 24]
    refine Z11 rfl hLR ?_
    refine zm 23 hE k e11 ?_
    intro a44 hE e23 kp
    refine wpList_nil ?_
    refine Z00 ?_
    refine Z11 rfl hLR ?_
    refine sd 24 hE k (Z1f rfl e23 rfl) ?_
    intro a45 hE e24 kp
    refine wpList_nil ?_
    refine Z00 ?_
    refine wpListIn_nil ?_
    replace e6 := hE.g e6; replace e7 := hE.g e7; replace e8 := hE.g e8; replace e9 := hE.g e9; replace e10 := hE.g e10; replace e11 := hE.g e11
    replace k := k.env hE
    clear hE
    refine Z00 ?_
    refine condR_f e24 rfl ?_
    refine wpIn_skip ?_
    refine Z00 ?_
    obtain ⟨k0, v0, r0, hk0⟩ : ∃ k v r, c = (k, v) :: r := by obtain ⟨x, r, e⟩ := List.exists_cons_of_ne_nil (List.length_pos_iff.1 hc0); exact ⟨x.1, x.2, r, e⟩
    have hkc : keyAt c 0 = k0 := by rw [hk0]; rfl
    obtain ⟨pg, hpg⟩ : ∃ p, NJ.length + 1 = p := ⟨_, rfl⟩
    replace e10 := e10.trans (Z0h (show ((NJ.length + 1 : Nat) : Int) = (pg : Int) by rw [hpg]))
    have hrp2 := Z49 (k := j) (hrow _ O.below (OwnT.restR (L := [_, _, _, _, _, _, _, _, _, _, _, _, _]) O)) hc
    have hlt0 := World.block_lt_of_cell? _ _ (Z7k (hk0 ▸ hrp2))
    clear hrp hrp2
    replace O : OwnT _ _ ((tRow 38 2 (.slice Bo j co) j (flatP E)) :: (tBlk sb 28 #[.slice B2 ((NJ ++ [(l, c)]).length) cap2, .int .i64 room]) :: (tRow 125 2 (.slice B2 (NJ ++ [(l, c)]).length cap2) (NJ ++ [(l, c)]).length (leafV vs2 (NJ ++ [(l, c)]))) :: (tPool vs2 (NJ ++ [(l, c)])) :: (tObj l' (.loop { rec .ready none with state := .busy })) :: (tDf D) :: (tBlk bs 29 #[.slice (some ⟨g, off, none⟩) n c0]) :: (tBlk bn 3 #[.int .i64 15]) :: (tBlk b8 29 #[.slice Bo j co]) :: (tBlk b7 33 #[.int .i64 0]) :: (tBlk b6 29 #[.slice none 0 0]) :: (tBlk b4 3 #[.int .i64 ↑l]) :: (tBlk b3 129 #[.iface 24 (.pointer (some ⟨sb, 0, none⟩))]) :: R) w38 := OwnT.pickR (L := [_, _, _, _, _, _, _, _, _, _, _, _, _]) (R := R) O [5, 0, 1, 2, 3, 4, 6, 7, 8, 9, 10, 11, 12] (by decide)
    obtain ⟨gn, hgn⟩ : ∃ z, w38.heap.size = z := ⟨_, rfl⟩
    refine Z5f (fun l_ w_ w_' => if l_ 9 = true then Ext w_ w_' else True) (fun l_ w_ => AppI _ _ 38 2 (.slice Bo j co) j (flatP E) gn [Value.int .u64 (k0 : Int), Value.int .u64 (pg : Int)] ((tBlk sb 28 #[.slice B2 ((NJ ++ [(l, c)]).length) cap2, .int .i64 room]) :: (tRow 125 2 (.slice B2 (NJ ++ [(l, c)]).length cap2) (NJ ++ [(l, c)]).length (leafV vs2 (NJ ++ [(l, c)]))) :: (tPool vs2 (NJ ++ [(l, c)])) :: (tObj l' (.loop { rec .ready none with state := .busy })) :: (tDf D) :: (tBlk bs 29 #[.slice (some ⟨g, off, none⟩) n c0]) :: (tBlk bn 3 #[.int .i64 15]) :: (tBlk b8 29 #[.slice Bo j co]) :: (tBlk b7 33 #[.int .i64 0]) :: (tBlk b6 29 #[.slice none 0 0]) :: (tBlk b4 3 #[.int .i64 ↑l]) :: (tBlk b3 129 #[.iface 24 (.pointer (some ⟨sb, 0, none⟩))]) :: R) (l_ 8) (l_ 9) w_) [[], [], [1], [1, 2], [1, 2, 3], [], [5], [1, 2, 3, 4, 5, 6], [1, 2, 3, 4, 5, 6, 7], [0, 1, 2, 3, 4, 5, 6, 7, 8], [0, 1, 2, 3, 4, 5, 6, 7, 8, 9]] [26, 27, 28, 29, 30, 31, 32, 33, 34, 35] (fun l w => by split; exact Ext.refl _; exact True.intro) (by rw [← hgn]; exact AppI.start O) (by kernel_rfl) (by kernel_rfl) hLR ?_
    apply BuildL.det 26 (fun l w => by split; exact Ext.refl _; exact True.intro) (fun l w h => h) (by rfl) (by rw [k.size]; rfl) rfl
    case h =>
     intro lx ax wx hE hR hF
     have q0 : wx.cell? ⟨b8, 0, none⟩ = some (.slice Bo j co) := (OwnT.blk (AppI.own hR) 7 rfl).cell 0
     simp [go_sem, ↓IntWalk.iteOmega, ev (hE.g e8), q0]
     with_reducible rfl
    apply BuildL.det 27 (fun l w => by split; exact Ext.refl _; exact True.intro) (fun l w h => h) (by rfl) (by rw [k.size]; rfl) rfl
    case h =>
     intro lx ax wx hE hR hF
     exact Z03 rfl (hE.g e9)
    apply BuildL.det 28 (fun l w => by split; exact Ext.refl _; exact True.intro) (fun l w h => h) (by rfl) (by rw [k.size]; rfl) rfl
    case h =>
     intro lx ax wx hE hR hF
     have e27 := hF 1 (detL 1 27 _) (by decide) ml0
     simp [go_sem, ↓IntWalk.iteOmega, ev e27]
     with_reducible rfl
    apply BuildL.det 29 (fun l w => by split; exact Ext.refl _; exact True.intro) (fun l w h => h) (by rfl) (by rw [k.size]; rfl) rfl
    case h =>
     intro lx ax wx hE hR hF
     have e28 := hF 2 (detL 2 28 _) (by decide) ml0
     simp [go_sem, ↓IntWalk.iteOmega, ev e28]
     with_reducible rfl
    apply BuildL.det 30 (fun l w => by split; exact Ext.refl _; exact True.intro) (fun l w h => h) (by rfl) (by rw [k.size]; rfl) rfl
    case h =>
     intro lx ax wx hE hR hF
     have e29 := hF 3 (detL 3 29 _) (by decide) ml0
     have hcx := Z7k (hk0 ▸ Z49 (k := j) (hrow _ (AppI.own hR).below (OwnT.restR (L := [_, _, _, _, _, _, _, _, _, _, _, _]) (AppI.own hR))) hc)
     simp [go_sem, ↓IntWalk.iteOmega, ev e29, hcx]
     with_reducible rfl
    apply BuildL.det 31 (fun l w => by split; exact Ext.refl _; exact True.intro) (fun l w h => h) (by rfl) (by rw [k.size]; rfl) rfl
    case h =>
     intro lx ax wx hE hR hF
     exact Z03 rfl (hE.g e10)
    apply BuildL.det 32 (fun l w => by split; exact Ext.refl _; exact True.intro) (fun l w h => h) (by rfl) (by rw [k.size]; rfl) rfl
    case h =>
     intro lx ax wx hE hR hF
     have e31 := hF 5 (detL 5 31 _) (by decide) ml0
     exact Z1w rfl e31 (Z2q pg _ (by omega))
    apply BuildL.det 33 (fun l w => by split; exact Ext.refl _; exact True.intro) (fun l w h => h) (by rfl) (by rw [k.size]; rfl) rfl
    case h =>
     intro lx ax wx hE hR hF
     have e30 := hF 4 (detL 4 30 _) (by decide) ml2
     have e32 := hF 6 (detL 6 32 _) (by decide) ml0
     simp [go_sem, ↓IntWalk.iteOmega, ev e30, ev e32]
     with_reducible rfl
    refine BuildL.new 34 (fun v w => v = .slice (some ⟨gn, 0, none⟩) 1 1) (fun l v w w' _ _ h => h) (by rfl) (by rw [k.size]; rfl) rfl ?_ ?_
    · intro lx ax wx hE hR hl hA hF
      have e33 := hF 7 (detL 7 33 _) (by decide) ml0
      exact Z5e hR hl (by decide) (by simp [go_sem, ↓IntWalk.iteOmega, ev e33])
    refine BuildL.new 35 (fun v_ w_ => OwnT H A0 (tRow 38 2 v_ (j + 1) ((flatP E) ++ [Value.int .u64 (k0 : Int), Value.int .u64 (pg : Int)]) :: tBlk gn 38 #[Value.int .u64 (k0 : Int), Value.int .u64 (pg : Int)] :: (tBlk sb 28 #[.slice B2 ((NJ ++ [(l, c)]).length) cap2, .int .i64 room]) :: (tRow 125 2 (.slice B2 (NJ ++ [(l, c)]).length cap2) (NJ ++ [(l, c)]).length (leafV vs2 (NJ ++ [(l, c)]))) :: (tPool vs2 (NJ ++ [(l, c)])) :: (tObj l' (.loop { rec .ready none with state := .busy })) :: (tDf D) :: (tBlk bs 29 #[.slice (some ⟨g, off, none⟩) n c0]) :: (tBlk bn 3 #[.int .i64 15]) :: (tBlk b8 29 #[.slice Bo j co]) :: (tBlk b7 33 #[.int .i64 0]) :: (tBlk b6 29 #[.slice none 0 0]) :: (tBlk b4 3 #[.int .i64 ↑l]) :: (tBlk b3 129 #[.iface 24 (.pointer (some ⟨sb, 0, none⟩))]) :: R) w_) (fun l_ v_ w_ w_' hl hR h => by rw [if_pos hl] at hR; exact h.ext hR) (by rfl) (by rw [k.size]; rfl) rfl ?_ ?_
    · intro lx ax wx hE hR hl hA hF
      have e26 := hF 0 (detL 0 26 _) (by decide) ml8
      have f34 := hF 8 _ (by decide) ml0
      exact Z6d hR hl (hA 8 (by decide)) (by decide) elemPr (by decide) rfl (by intro u hu; simp at hu; rcases hu with rfl | rfl <;> rfl) (by unfold maxLen; omega) (by omega) (fun r w' h => Z1t rfl e26 f34 h)
    apply BuildL.stop
    refine ⟨by kernel_rfl, ?_⟩
    clear O
    intro lx a46 w47 hE RI hL hF
    clear RI
    have f35 := hF 9 _ ml0
    clear hF hL
    obtain ⟨vr, e35, O⟩ : ∃ v', a46.eval (.tmp 35) = v' ∧ OwnT H A0 (tRow 38 2 v' (j + 1) ((flatP E) ++ [Value.int .u64 (k0 : Int), Value.int .u64 (pg : Int)]) :: tBlk gn 38 #[Value.int .u64 (k0 : Int), Value.int .u64 (pg : Int)] :: (tBlk sb 28 #[.slice B2 ((NJ ++ [(l, c)]).length) cap2, .int .i64 room]) :: (tRow 125 2 (.slice B2 (NJ ++ [(l, c)]).length cap2) (NJ ++ [(l, c)]).length (leafV vs2 (NJ ++ [(l, c)]))) :: (tPool vs2 (NJ ++ [(l, c)])) :: (tObj l' (.loop { rec .ready none with state := .busy })) :: (tDf D) :: (tBlk bs 29 #[.slice (some ⟨g, off, none⟩) n c0]) :: (tBlk bn 3 #[.int .i64 15]) :: (tBlk b8 29 #[.slice Bo j co]) :: (tBlk b7 33 #[.int .i64 0]) :: (tBlk b6 29 #[.slice none 0 0]) :: (tBlk b4 3 #[.int .i64 ↑l]) :: (tBlk b3 129 #[.iface 24 (.pointer (some ⟨sb, 0, none⟩))]) :: R) w47 := ⟨_, rfl, f35⟩
    clear f35
    obtain ⟨gr, cr, rfl⟩ := OwnT.slice0 O (by omega)
    replace O := OwnT.pick01 O
    simp only [List.length_cons, List.length_nil, Nat.zero_add, Nat.reduceAdd, List.drop_succ_cons, List.drop_zero, List.drop_nil, tailOps]
    show Oper.wp _ _ _ _ _ _
    have q0 : w47.cell? ⟨b8, 0, none⟩ = some (.slice Bo j co) := (OwnT.blk O 8 rfl).cell 0
    have q1 : w47.frozen? ⟨b8, 0, none⟩ = false := (OwnT.blk O 8 rfl).frozen 0
    refine Z2x (off := 0) (v := .slice (some ⟨gr, 0, none⟩) ((j + 1)) cr) O 8 rfl rfl (by simp [go_sem, ↓IntWalk.iteOmega, ev (hE.g e8), ev e35, q0, q1]) ?_
    clear q0 q1
    clear O
    intro w48 O
    replace O : OwnT _ _ ((tRow 38 2 (.slice (some ⟨gr, 0, none⟩) ((j + 1)) cr) (j + 1) ((flatP E) ++ [Value.int .u64 (k0 : Int), Value.int .u64 (pg : Int)])) :: (tBlk sb 28 #[.slice B2 ((NJ ++ [(l, c)]).length) cap2, .int .i64 room]) :: (tRow 125 2 (.slice B2 (NJ ++ [(l, c)]).length cap2) (NJ ++ [(l, c)]).length (leafV vs2 (NJ ++ [(l, c)]))) :: (tPool vs2 (NJ ++ [(l, c)])) :: (tObj l' (.loop { rec .ready none with state := .busy })) :: (tDf D) :: (tBlk bs 29 #[.slice (some ⟨g, off, none⟩) n c0]) :: (tBlk bn 3 #[.int .i64 15]) :: (tBlk b8 29 #[.slice (some ⟨gr, 0, none⟩) ((j + 1)) cr]) :: (tBlk b7 33 #[.int .i64 0]) :: (tBlk b6 29 #[.slice none 0 0]) :: (tBlk b4 3 #[.int .i64 ↑l]) :: (tBlk b3 129 #[.iface 24 (.pointer (some ⟨sb, 0, none⟩))]) :: R) w48 := O
    replace e6 := hE.g e6; replace e7 := hE.g e7
    replace k := k.env hE
    clear hE e8 e9 e10 e11 e24 e35
    refine Z0t ?_
    replace O : OwnT _ _ ((tObj l' (.loop { rec .ready none with state := .busy })) :: (tDf D) :: (tBlk sb 28 #[.slice B2 ((NJ ++ [(l, c)]).length) cap2, .int .i64 room]) :: (tRow 125 2 (.slice B2 (NJ ++ [(l, c)]).length cap2) (NJ ++ [(l, c)]).length (leafV vs2 (NJ ++ [(l, c)]))) :: (tPool vs2 (NJ ++ [(l, c)])) :: (tRow 38 2 (.slice (some ⟨gr, 0, none⟩) ((j + 1)) cr) (j + 1) ((flatP E) ++ [Value.int .u64 (k0 : Int), Value.int .u64 (pg : Int)])) :: (tBlk bs 29 #[.slice (some ⟨g, off, none⟩) n c0]) :: (tBlk bn 3 #[.int .i64 15]) :: (tBlk b8 29 #[.slice (some ⟨gr, 0, none⟩) ((j + 1)) cr]) :: (tBlk b7 33 #[.int .i64 0]) :: (tBlk b6 29 #[.slice none 0 0]) :: (tBlk b4 3 #[.int .i64 ↑l]) :: (tBlk b3 129 #[.iface 24 (.pointer (some ⟨sb, 0, none⟩))]) :: R) w48 := OwnT.pickR (L := [_, _, _, _, _, _, _, _, _, _, _, _, _]) (R := R) O [4, 5, 1, 2, 3, 0, 6, 7, 8, 9, 10, 11, 12] (by decide)
    refine end_n O ?_
    clear O
    intro w' O; rw [hr1] at O
    refine .inl ⟨rfl, ?_⟩
    rw [hJ]
    refine ⟨.inr (by omega), ?_, some ⟨gr, 0, none⟩, cr, B2, cap2, vs2, ?_⟩
    · rw [hcl, hxl]; omega
    · have e1 : N ++ newN l ((chk xs).take (j + 1)) = NJ ++ [(l, c)] := by rw [htk, ← hNJ]; simp [newN]
      have e2 : outs ((chk xs).take (j + 1)) N.length = E ++ [(k0, pg)] := by rw [htk, Z65, hE_, List.length_take, show min j (chk xs).length = j by omega, ← hkc, ← hpg, hNJl]; rfl
      rw [e1, e2]
      rw [show flatP E ++ [Value.int .u64 (k0 : Int), Value.int .u64 (pg : Int)] = flatP (E ++ [(k0, pg)]) by simp [flatP, pairC]] at O
      exact O
 refine Calls.mono hc ?_
 clear hc h0
 rintro e w3 ⟨hv, hw⟩
 refine ⟨hv, ?_⟩
 clear hv
 rcases hw with hw | hw
 · rw [hJ] at hw; obtain ⟨hfk, hkm, Bo, co, B, cap, vs, O⟩ := hw
   rw [show (n + 14) / 15 = (chk xs).length by rw [hcl, hxl], List.take_length] at O
   rw [show (n + 14) / 15 = (chk xs).length by rw [hcl, hxl]] at hfk
   obtain ⟨m, hm⟩ : ∃ m, (chk xs).length = m := ⟨_, rfl⟩
   rw [hm] at O hfk
   refine ⟨.ready, none, _, by decide, O, ?_⟩
   clear O
   intro w4 O
   replace O : OwnT _ _ ((tDf D) :: (tBlk sb 28 #[.slice B ((N ++ newN l (chk xs)).length) cap, .int .i64 room]) :: (tRow 125 2 (.slice B (N ++ newN l (chk xs)).length cap) (N ++ newN l (chk xs)).length (leafV vs (N ++ newN l (chk xs)))) :: (tPool vs (N ++ newN l (chk xs))) :: (tRow 38 2 (.slice Bo m co) m (flatP (outs (chk xs) N.length))) :: (tBlk bs 29 #[.slice (some ⟨g, off, none⟩) n c0]) :: (tBlk bn 3 #[.int .i64 15]) :: (tBlk b8 29 #[.slice Bo m co]) :: (tBlk b7 33 #[.int .i64 0]) :: (tBlk b6 29 #[.slice none 0 0]) :: (tBlk b4 3 #[.int .i64 ↑l]) :: (tBlk b3 129 #[.iface 24 (.pointer (some ⟨sb, 0, none⟩))]) :: R) w4 := O
   refine Z0t ?_
   refine Z00 (wp_seq ?_)
   refine Z6f (fun h => hL h) ?_
   have hE := Env.refl a13 [36]
   apply Z02 36 hE k rfl rfl rfl rfl
   case h =>
    have q0 : w4.cell? ⟨b8, 0, none⟩ = some (.slice Bo m co) := (OwnT.blk O 7 rfl).cell 0
    simp [go_sem, ↓IntWalk.iteOmega, ev (hE.g e8), q0]
    with_reducible rfl
   intro a49 hE e36 kp
   have q0 : w4.cell? ⟨b6, 0, none⟩ = some (.slice none 0 0) := (OwnT.blk O 9 rfl).cell 0
   have q1 : w4.frozen? ⟨b6, 0, none⟩ = false := (OwnT.blk O 9 rfl).frozen 0
   refine Z1b (off := 0) (v := .slice Bo m co) O 9 rfl hE rfl rfl (by simp [go_sem, ↓IntWalk.iteOmega, ev (hE.g e6), ev e36, q0, q1]) ?_
   clear q0 q1
   clear O
   intro w50 O
   replace O : OwnT _ _ ((tDf D) :: (tBlk sb 28 #[.slice B ((N ++ newN l (chk xs)).length) cap, .int .i64 room]) :: (tRow 125 2 (.slice B (N ++ newN l (chk xs)).length cap) (N ++ newN l (chk xs)).length (leafV vs (N ++ newN l (chk xs)))) :: (tPool vs (N ++ newN l (chk xs))) :: (tRow 38 2 (.slice Bo m co) m (flatP (outs (chk xs) N.length))) :: (tBlk bs 29 #[.slice (some ⟨g, off, none⟩) n c0]) :: (tBlk bn 3 #[.int .i64 15]) :: (tBlk b8 29 #[.slice Bo m co]) :: (tBlk b7 33 #[.int .i64 0]) :: (tBlk b6 29 #[.slice Bo m co]) :: (tBlk b4 3 #[.int .i64 ↑l]) :: (tBlk b3 129 #[.iface 24 (.pointer (some ⟨sb, 0, none⟩))]) :: R) w50 := O
   have q0 : w50.cell? ⟨b7, 0, none⟩ = some (.int .i64 0) := (OwnT.blk O 8 rfl).cell 0
   have q1 : w50.frozen? ⟨b7, 0, none⟩ = false := (OwnT.blk O 8 rfl).frozen 0
   refine Z1b (off := 0) (v := .int .i64 0) O 8 rfl hE rfl rfl (by simp [go_sem, ↓IntWalk.iteOmega, ev (hE.g e7), q0, q1]) ?_
   clear q0 q1
   clear O
   intro w51 O
   replace O : OwnT _ _ ((tDf D) :: (tBlk sb 28 #[.slice B ((N ++ newN l (chk xs)).length) cap, .int .i64 room]) :: (tRow 125 2 (.slice B (N ++ newN l (chk xs)).length cap) (N ++ newN l (chk xs)).length (leafV vs (N ++ newN l (chk xs)))) :: (tPool vs (N ++ newN l (chk xs))) :: (tRow 38 2 (.slice Bo m co) m (flatP (outs (chk xs) N.length))) :: (tBlk bs 29 #[.slice (some ⟨g, off, none⟩) n c0]) :: (tBlk bn 3 #[.int .i64 15]) :: (tBlk b8 29 #[.slice Bo m co]) :: (tBlk b7 33 #[.int .i64 0]) :: (tBlk b6 29 #[.slice Bo m co]) :: (tBlk b4 3 #[.int .i64 ↑l]) :: (tBlk b3 129 #[.iface 24 (.pointer (some ⟨sb, 0, none⟩))]) :: R) w51 := O
   refine wpList_nil ?_
   replace e6 := hE.g e6; replace e7 := hE.g e7
   replace k := k.env hE
   clear hE e3 e4 e8 e13 e36
   refine Z00 ?_
   refine wp_ret ?_
   replace O : OwnT _ _ ((tDf D) :: (tRow 38 2 (.slice Bo m co) m (flatP (outs (chk xs) N.length))) :: (tBlk sb 28 #[.slice B ((N ++ newN l (chk xs)).length) cap, .int .i64 room]) :: (tRow 125 2 (.slice B (N ++ newN l (chk xs)).length cap) (N ++ newN l (chk xs)).length (leafV vs (N ++ newN l (chk xs)))) :: (tPool vs (N ++ newN l (chk xs))) :: (tBlk b6 29 #[.slice Bo m co]) :: (tBlk b7 33 #[.int .i64 0]) :: R) w51 := OwnT.pickR (L := [_, _, _, _, _, _, _, _, _, _, _, _]) (R := R) O [0, 4, 1, 2, 3, 9, 8] (by decide)
   refine ret_M k O ?_
   clear O
   intro w5 O
   have q6 : (loadVar 29 ⟨b6, 0, none⟩).run Try.prog w5 = .ok (.slice Bo m co) w5 := by
    have c0 : w5.cell? ⟨b6, 0, none⟩ = some (.slice Bo m co) := (OwnT.blk O 4 rfl).cell 0
    simp [go_sem, ↓IntWalk.iteOmega, loadVar, c0]
   have q7 : (loadVar 33 ⟨b7, 0, none⟩).run Try.prog w5 = .ok (.int .i64 0) w5 := by
    have c0 : w5.cell? ⟨b7, 0, none⟩ = some (.int .i64 0) := (OwnT.blk O 5 rfl).cell 0
    simp [go_sem, ↓IntWalk.iteOmega, loadVar, c0]
   refine ⟨_, res_C2 rfl e6 e7 q6 q7, ?_⟩
   refine ⟨_, 0, rfl, B, cap, vs, _, ?_, .inl ⟨rfl, rfl, by omega⟩⟩
   have O2 := OwnT.pickR (L := [_, _, _, _, _, _]) (R := R) O [0, 1, 2, 3] (by decide)
   rw [if_pos rfl, show tPs (.slice Bo m co) (outs (chk xs) N.length) = tRow 38 2 (.slice Bo m co) m (flatP (outs (chk xs) N.length)) by rw [tPs, Z1g, hm]]
   exact O2
 · rw [hJx] at hw; obtain ⟨hnf, N', B, cap, vs, hN', O⟩ := hw
   refine ⟨.done, some .ret, _, by decide, O, ?_⟩
   clear O
   intro w4 O
   replace O : OwnT _ _ ((tDf D) :: (tBlk sb 28 #[.slice B N'.length cap, .int .i64 room]) :: (tRow 125 2 (.slice B N'.length cap) N'.length (leafV vs N')) :: (tPool vs N') :: (tBlk b6 29 #[.slice none 0 0]) :: (tBlk b7 33 #[.int .i64 6]) :: R) w4 := O
   show Code.wp _ _ _ _ _
   refine wp_ret ?_
   refine Z0s ?_
   refine Z0d ?_
   refine ret_M k O ?_
   clear O
   intro w5 O
   have q6 : (loadVar 29 ⟨b6, 0, none⟩).run Try.prog w5 = .ok (.slice none 0 0) w5 := by
    have c0 : w5.cell? ⟨b6, 0, none⟩ = some (.slice none 0 0) := (OwnT.blk O 3 rfl).cell 0
    simp [go_sem, ↓IntWalk.iteOmega, loadVar, c0]
   have q7 : (loadVar 33 ⟨b7, 0, none⟩).run Try.prog w5 = .ok (.int .i64 6) w5 := by
    have c0 : w5.cell? ⟨b7, 0, none⟩ = some (.int .i64 6) := (OwnT.blk O 4 rfl).cell 0
    simp [go_sem, ↓IntWalk.iteOmega, loadVar, c0]
   refine ⟨_, res_C2 rfl e6 e7 q6 q7, ?_⟩
   refine ⟨_, 6, rfl, B, cap, vs, N', ?_, .inr ⟨rfl, hN', hnf⟩⟩
   have O2 := OwnT.nilRow (OwnT.pickR (L := [_, _, _, _, _]) (R := R) O [0, 1, 2] (by decide)) 38 2
   exact O2
end Go.Proofs.Ytngehbhhpkkijaa
