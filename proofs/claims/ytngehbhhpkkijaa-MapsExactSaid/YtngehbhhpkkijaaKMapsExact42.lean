/- maps' law: MapsExact (printed by XMxB.gen.py). -/
import Derived.Test.YtngehbhhpkkijaaKMapsExact41
namespace Go.Proofs.Ytngehbhhpkkijaa
attribute [local simp] BigFrame.eval_const BigFrame.eval_global BigFrame.eval_func
set_option linter.unusedVariables false
set_option linter.unusedSimpArgs false
open Go.RowKit Go.Maps

set_option maxRecDepth 100000 in
set_option maxHeartbeats 4000000 in
theorem Z65 {A : Option Addr} {n1 cp : Nat} (xs : List (Int × Int × Int)) (W0 : World) (hl : xs.length = n1) (hrow : Row W0 A 3 encT xs) : Calls Try.prog 9 #[.slice A n1 cp] W0 fun e w' => e = .returned (.bool true) ∧ Below W0.heap.size W0 w' := by
 have O := OwnT.start W0
 refine Z0d Try.func9 rfl 223 rfl (by rfl) ?_
 intro a1 k hargs
 have e0 : a1.eval (.tmp 0) = .slice A n1 cp := hargs 0 _ rfl
 clear hargs
 refine wp_seq ?_
 refine wp_region_lit ?_
 have hE := Env.refl a1 [2]
 refine sd 2 hE k (Z00 rfl rfl) ?_
 intro a2 hE e2 kp
 refine wpList_nil ?_
 replace e0 := hE.g e0
 replace k := k.env hE
 clear hE e2
 refine Z01 (wp_seq ?_)
 refine wp_seq ?_
 refine wp_region_lit ?_
 have hE := Env.refl a2 [23, 24]
 apply Z08 23 hE k rfl (by rfl) (by rfl) rfl
 case h =>
  simp [go_sem, ↓IntWalk.iteOmega]
  with_reducible exact ⟨rfl, rfl⟩
 case hc => exact awake12 _
 rintro e w4 ⟨rfl, R⟩
 replace O := OwnT.ext O R
 refine ⟨_, rfl, ?_⟩
 intro a3 hE e23 kp
 refine sd 24 hE k (Z0u rfl e23) ?_
 intro a5 hE e24 kp
 refine wpList_nil ?_
 replace e0 := hE.g e0
 replace k := k.env hE
 clear hE
 refine Z01 ?_
 refine Z05 e24 rfl ?_
 refine wp_skip ?_
 refine Z01 (wp_seq ?_)
 refine wp_region_lit ?_
 have hE := Env.refl a5 [25, 26, 3]
 apply Z02 25 hE k rfl rfl rfl rfl
 case h =>
  simp [go_sem, ↓IntWalk.iteOmega]
  with_reducible rfl
 intro a6 hE e25 kp
 refine Z0m O (cs := #[.slice none 0 0, .int .i64 511]) (t := 28) 26 hE k rfl (by rfl) (by rfl) rfl (by simp [go_sem, ↓IntWalk.iteOmega, ev e25]) ?_
 clear O
 intro sb a7 w8 O hE e26 kp
 refine sd 3 hE k (Z00 rfl e26) ?_
 intro a9 hE e3 kp
 refine wpList_nil ?_
 replace e0 := hE.g e0
 replace k := k.env hE
 clear hE e24
 refine Z01 ?_
 replace O := sh_nil O
 refine wp_seq ?_
 refine wp_region_lit ?_
 have hE := Env.refl a9 [4]
 refine sd 4 hE k (Z00 rfl rfl) ?_
 intro a10 hE e4 kp
 refine wpList_nil ?_
 replace e0 := hE.g e0; replace e3 := hE.g e3
 replace k := k.env hE
 clear hE
 refine Z01 (wp_seq ?_)
 refine wp_region_lit ?_
 have hE := Env.refl a10 [27, 5]
 refine sd 27 hE k (Z5v rfl) ?_
 intro a12 hE e27 kp
 apply Z1n 5 hE k rfl (by rfl) (by rfl) rfl
 case h =>
  exact Z3s rfl
 intro a13 hE e5 kp
 replace e27 := kt kp e27
 obtain ⟨ub, hub⟩ : ∃ b, w8.heap.size = b := ⟨_, rfl⟩
 replace O := OwnT.new O 71 (rwA fun _ => 0)
 rw [hub] at O e5
 clear hub
 generalize w8.alloc (.cells (rwA fun _ => 0) 71) = wz11 at O ⊢
 refine Z4y rfl rfl _ _ _ rfl e5 e27 (OwnT.b0 O) (by rw [Z1h]; kernel_rfl) (Z41 _) ?_
 refine wpList_nil ?_
 replace e0 := hE.g e0; replace e3 := hE.g e3; replace e4 := hE.g e4
 replace k := k.env hE
 clear hE
 refine Z01 (wp_seq ?_)
 refine wp_region_lit ?_
 have hE := Env.refl a13 [28, 6]
 refine Z1s (m := 0) (c := 0) O (cs := #[]) (t := 3) 28 hE k rfl (by rfl) (by rfl) rfl (by simp [go_sem, ↓IntWalk.iteOmega]) ?_
 clear O
 intro g6 a15 w16 O hE e28 kp
 refine sd 6 hE k (Z00 rfl e28) ?_
 intro a17 hE e6 kp
 refine wpList_nil ?_
 replace e0 := hE.g e0; replace e3 := hE.g e3; replace e4 := hE.g e4; replace e5 := hE.g e5
 replace k := k.env hE
 clear hE
 refine Z01 (wp_seq ?_)
 refine wp_region_lit ?_
 have hE := Env.refl a17 [29, 7]
 refine Z1s (m := 0) (c := 0) O (cs := #[]) (t := 71) 29 hE k rfl (by rfl) (by rfl) rfl (by simp [go_sem, ↓IntWalk.iteOmega]) ?_
 clear O
 intro g7 a18 w19 O hE e29 kp
 refine sd 7 hE k (Z00 rfl e29) ?_
 intro a20 hE e7 kp
 refine wpList_nil ?_
 replace e0 := hE.g e0; replace e3 := hE.g e3; replace e4 := hE.g e4; replace e5 := hE.g e5; replace e6 := hE.g e6
 replace k := k.env hE
 clear hE
 refine Z01 ?_
 replace O := OwnT.asRowE (k := 64) O
 replace O : OwnT _ _ ((tBlk g6 3 #[]) :: (tRow 71 64 (.slice (some ⟨g7, 0, none⟩) 0 0) 0 (rowsC ([]))) :: (tBlk ub 71 (rwA fun _ => 0)) :: (tBlk sb 28 #[.slice none (([]).length) 0, .int .i64 511]) :: (tRow 125 2 (.slice none ([]).length 0) ([]).length (leafV ([]) ([]))) :: (tPool ([]) ([])) :: []) w19 := OwnT.pickR (L := [_, _, _, _, _, _]) (R := []) O [1, 0, 2, 3, 4, 5] (by decide)
 replace O := OwnT.asRowE (k := 1) O
 replace O : OwnT _ _ ((tBlk sb 28 #[.slice none (([]).length) 0, .int .i64 511]) :: (tRow 125 2 (.slice none ([]).length 0) ([]).length (leafV ([]) ([]))) :: (tPool ([]) ([])) :: (tBlk ub 71 (rwA fun _ => 0)) :: (tRow 3 1 (.slice (some ⟨g6, 0, none⟩) 0 0) 0 (ints ([]))) :: (tRow 71 64 (.slice (some ⟨g7, 0, none⟩) 0 0) 0 (rowsC ([]))) :: []) w19 := OwnT.pickR (L := [_, _, _, _, _, _]) (R := []) O [3, 4, 5, 2, 0, 1] (by decide)
 refine wp_seq ?_
 refine wp_seq ?_
 refine wp_region_lit ?_
 have hE := Env.refl a20 [8]
 refine sd 8 hE k (Z00 rfl rfl) ?_
 intro a21 hE e8 kp
 refine wpList_nil ?_
 replace e0 := hE.g e0; replace e3 := hE.g e3; replace e4 := hE.g e4; replace e5 := hE.g e5; replace e6 := hE.g e6; replace e7 := hE.g e7
 replace k := k.env hE
 clear hE
 refine Z01 ?_
 refine wp_block ?_
 refine wp_loop (fun a w => Fr 223 a ∧ a.eval (.tmp 0) = .slice A n1 cp ∧ a.eval (.tmp 3) = .pointer (some ⟨sb, 0, none⟩) ∧ a.eval (.tmp 5) = .pointer (some ⟨ub, 0, none⟩) ∧ ∃ (i rt n : Nat) (P : List Pr) (u : Nat → Nat) (hs : List Hs) (Br : Option Addr) (cr : Nat) (Bw : Option Addr) (cw : Nat) (N : List Nd) (B : Option Addr) (cap : Nat) (vs : List Value), a.eval (.tmp 4) = .int .i64 ↑rt ∧ a.eval (.tmp 6) = .slice Br n cr ∧ a.eval (.tmp 7) = .slice Bw n cw ∧ a.eval (.tmp 8) = .int .i64 ↑i ∧ i ≤ 40 ∧ N.length + 2 * P.length ≤ 7 * i ∧ n ≤ i ∧ hs.length = n ∧ Tre N rt (8 + i) P ∧ P.all enOk = true ∧ Rw P u ∧ PastM N hs ∧ OwnT W0.heap.size W0 ((tBlk sb 28 #[.slice B N.length cap, .int .i64 511]) :: (tRow 125 2 (.slice B N.length cap) N.length (leafV vs N)) :: (tPool vs N) :: (tBlk ub 71 (rwA u)) :: (tRow 3 1 (.slice Br n cr) n (ints (hs.map (·.1)))) :: (tRow 71 64 (.slice Bw n cw) n (rowsC (hs.map (·.2.2)))) :: []) w) (fun a w => 40 - (intOf (a.eval (.tmp 8))).toNat) ?_ ?_
 · exact ⟨k, e0, e3, e5, 0, 0, 0, [], (fun _ => 0), [], _, _, _, _, [], none, 0, [], e4, e6, e7, e8, Nat.zero_le _, Nat.zero_le _, Nat.le_refl _, rfl, (Tre.zero []).le (by omega), rfl, (fun _ _ => rfl), (fun _ h => by cases h), O⟩
 intro a22 w23 hI
 clear k e0 e3 e5
 obtain ⟨k, e0, e3, e5, h_⟩ := hI
 clear O e4 e6 e7 e8
 obtain ⟨i, rt, n, P, u, hs, Br, cr, Bw, cw, N, B, cap, vs, e4, e6, e7, e8, hi, hN, hni, hhn, hT, hP, hU, hPast, O⟩ := h_
 have mi := e8
 by_cases hlt1 : i < n1
 rotate_left
 · skip
   refine wp_seq ?_
   refine wp_seq ?_
   refine wp_region_lit ?_
   have hE := Env.refl a22 [30, 31, 32, 33, 34, 35, 36, 37]
   refine sm 30 hE k e8 ?_
   intro a24 hE e30 kp
   refine sm 31 hE k e0 ?_
   intro a25 hE e31 kp
   replace e30 := kt kp e30
   refine sd 32 hE k (Z0j Try.underlying79 rfl e31) ?_
   intro a26 hE e32 kp
   replace e30 := kt kp e30
   refine sd 33 hE k (Z06 (Z0x rfl e30 e32) (decide_eq_false (by omega))) ?_
   intro a27 hE e33 kp
   refine sd 34 hE k (Z03 rfl e33) ?_
   intro a28 hE e34 kp
   refine Z09 35 hE k rfl (by rfl) (by rfl) rfl rfl (.inl e34) ?_
   intro a29 hE e35 kp
   replace e34 := kt kp e34
   refine Z09 36 hE k rfl (by rfl) (by rfl) rfl rfl (.inl e34) ?_
   intro a30 hE e36 kp
   replace e34 := kt kp e34
   refine sd 37 hE k (Z07 rfl e34 rfl) ?_
   intro a31 hE e37 kp
   refine wpList_nil ?_
   replace e0 := hE.g e0; replace e3 := hE.g e3; replace e4 := hE.g e4; replace e5 := hE.g e5; replace e6 := hE.g e6; replace e7 := hE.g e7; replace e8 := hE.g e8
   replace k := k.env hE
   clear hE
   refine Z01 ?_
   refine Z05 e37 rfl ?_
   refine wp_exit ?_
   refine Z0o ?_
   refine Z0o ?_
   refine Z15 ?_
   refine Z01 ?_
   clear mi
   refine wp_seq ?_
   refine wp_seq ?_
   refine wp_region_lit ?_
   have hE := Env.refl a31 [20]
   refine sd 20 hE k (Z00 rfl rfl) ?_
   intro a32 hE e20 kp
   refine wpList_nil ?_
   replace e3 := hE.g e3; replace e6 := hE.g e6; replace e7 := hE.g e7
   replace k := k.env hE
   clear hE e0 e4 e5 e8 e37
   refine Z01 ?_
   refine wp_block ?_
   refine wp_loop (fun a w => Fr 223 a ∧ a.eval (.tmp 3) = .pointer (some ⟨sb, 0, none⟩) ∧ a.eval (.tmp 6) = .slice Br n cr ∧ a.eval (.tmp 7) = .slice Bw n cw ∧ ∃ (j : Nat), a.eval (.tmp 20) = .int .i64 ↑j ∧ j ≤ n ∧ OwnT W0.heap.size W0 ((tBlk sb 28 #[.slice B N.length cap, .int .i64 511]) :: (tRow 125 2 (.slice B N.length cap) N.length (leafV vs N)) :: (tPool vs N) :: (tBlk ub 71 (rwA u)) :: (tRow 3 1 (.slice Br n cr) n (ints (hs.map (·.1)))) :: (tRow 71 64 (.slice Bw n cw) n (rowsC (hs.map (·.2.2)))) :: []) w) (fun a w => n - (intOf (a.eval (.tmp 20))).toNat) ?_ ?_
   · exact ⟨k, e3, e6, e7, 0, e20, Nat.zero_le _, O⟩
   intro a33 w34 hI
   clear k e3 e6 e7
   obtain ⟨k, e3, e6, e7, h_⟩ := hI
   clear O e20
   obtain ⟨j, e20, hj, O⟩ := h_
   have mj := e20
   by_cases hltj : j < n
   · have hltjI : (j : Int) < (n : Int) := by omega
     obtain ⟨⟨r, Q, v⟩, hx⟩ : ∃ x, hs[j]? = some x := ⟨_, List.getElem?_eq_getElem (by omega)⟩
     obtain ⟨hTj, hPj, hUj⟩ := hPast _ (List.mem_of_getElem? hx)
     replace hTj : Tre N r 100 Q := hTj
     replace hPj : Q.all enOk = true := hPj
     replace hUj : Rw Q v := hUj
     have hQl := hTj.len
     have hi1 : (ints (hs.map (·.1)))[j]? = some (.int .i64 (r : Int)) := by rw [ints, List.getElem?_map, List.getElem?_map, hx]; rfl
     have hi2 : (hs.map (·.2.2))[j]? = some v := by rw [List.getElem?_map, hx]; rfl
     obtain ⟨gr, rfl, d0⟩ := row1_at (OwnT.get O 4 rfl) hi1 hltj
     obtain ⟨gw, rfl, -⟩ := Z51 (OwnT.get O 5 rfl) hi2 hltj

     refine wp_seq ?_
     refine wp_seq ?_
     refine wp_region_lit ?_
     have hE := Env.refl a33 [191, 192, 193, 194]
     refine sm 191 hE k e20 ?_
     intro a35 hE e191 kp
     refine sm 192 hE k e6 ?_
     intro a36 hE e192 kp
     replace e191 := kt kp e191
     refine sd 193 hE k (Z0j Try.underlying51 rfl e192) ?_
     intro a37 hE e193 kp
     replace e191 := kt kp e191
     refine sd 194 hE k (Z06 (Z0x rfl e191 e193) (decide_eq_true (by omega))) ?_
     intro a38 hE e194 kp
     refine wpList_nil ?_
     replace e3 := hE.g e3; replace e6 := hE.g e6; replace e7 := hE.g e7; replace e20 := hE.g e20
     replace k := k.env hE
     clear hE
     refine Z01 ?_
     refine Z0b e194 rfl ?_
     refine wp_skip ?_
     refine Z01 (wp_seq ?_)
     refine wp_block ?_
     refine wp_seq ?_
     refine wp_region_lit ?_
     have hE := Env.refl a38 [198, 199, 200, 201, 202, 203, 204, 197, 205, 206, 21, 22]
     refine sm 198 hE k e3 ?_
     intro a39 hE e198 kp
     apply Z02 199 hE k rfl rfl rfl rfl
     case h =>
      simp [go_sem, ↓IntWalk.iteOmega, ev e198]
      with_reducible rfl
     intro a40 hE e199 kp
     refine sm 200 hE k e6 ?_
     intro a41 hE e200 kp
     replace e199 := kt kp e199
     refine sm 201 hE k e20 ?_
     intro a42 hE e201 kp
     replace e199 := kt kp e199; replace e200 := kt kp e200
     apply Z02 202 hE k rfl rfl rfl rfl
     case h =>
      simp [go_sem, ↓IntWalk.iteOmega, ev e200, ev e201]
      with_reducible rfl
     intro a43 hE e202 kp
     replace e199 := kt kp e199
     apply Z02 203 hE k rfl rfl rfl rfl
     case h =>
      simp [go_sem, ↓IntWalk.iteOmega, ev e202, d0]
      with_reducible rfl
     intro a44 hE e203 kp
     replace e199 := kt kp e199
     apply Z08 204 hE k rfl (by rfl) (by rfl) rfl
     case h =>
      simp [go_sem, ↓IntWalk.iteOmega, ev e199, ev e203]
      with_reducible exact ⟨rfl, rfl⟩
     case hc => exact mList (R := _ :: _ :: _ :: []) _ O hTj (by omega) (by omega)
     rintro e w46 hL
     obtain ⟨Bl, cl, rfl, O⟩ := (hL.resolve_right (fun h => absurd (hPj.symm.trans h.1) Bool.noConfusion)).2
     clear hL d0
     refine ⟨_, rfl, ?_⟩
     intro a45 hE e204 kp
     refine sd 197 hE k (Z03 rfl e204) ?_
     intro a47 hE e197 kp
     apply Z02 205 hE k rfl rfl rfl rfl
     case h =>
      simp [go_sem, ↓IntWalk.iteOmega, ev e197]
      with_reducible rfl
     intro a48 hE e205 kp
     replace e197 := kt kp e197
     apply Z02 206 hE k rfl rfl rfl rfl
     case h =>
      simp [go_sem, ↓IntWalk.iteOmega, ev e197]
      with_reducible rfl
     intro a49 hE e206 kp
     replace e205 := kt kp e205
     refine sd 21 hE k (Z00 rfl e205) ?_
     intro a50 hE e21 kp
     replace e206 := kt kp e206
     refine sd 22 hE k (Z00 rfl e206) ?_
     intro a51 hE e22 kp
     replace e21 := kt kp e21
     refine wpList_nil ?_
     replace e3 := hE.g e3; replace e6 := hE.g e6; replace e7 := hE.g e7; replace e20 := hE.g e20
     replace k := k.env hE
     clear hE e194
     refine Z01 ?_
     obtain ⟨_, e, hr6⟩ := Z51 (OwnT.get O 6 rfl) hi2 hltj
     injection e with e; injection e with e; subst e
     refine wp_seq ?_
     refine wp_region_lit ?_
     have hE := Env.refl a51 [207, 208, 209, 210, 211, 212, 213, 214, 215, 216, 217, 218, 219, 220, 221, 222]
     refine sm 207 hE k e22 ?_
     intro a52 hE e207 kp
     refine sd 208 hE k (Z0v rfl e207 rfl) ?_
     intro a53 hE e208 kp
     refine sd 209 hE k (Z03 rfl e208) ?_
     intro a54 hE e209 kp
     apply Z04 210 hE k rfl rfl rfl rfl rfl e209
     case h =>
      exact Z03 rfl (hE.g e21)
     intro a55 hE e210 kp
     replace e209 := kt kp e209
     apply Z04 211 hE k rfl rfl rfl rfl rfl e209
     case h =>
      exact Z03 rfl (hE.g e7)
     intro a56 hE e211 kp
     replace e209 := kt kp e209; replace e210 := kt kp e210
     apply Z04 212 hE k rfl rfl rfl rfl rfl e209
     case h =>
      exact Z03 rfl (hE.g e20)
     intro a57 hE e212 kp
     replace e209 := kt kp e209; replace e210 := kt kp e210; replace e211 := kt kp e211
     apply Z04 213 hE k rfl rfl rfl rfl rfl e209
     case h =>
      simp [go_sem, ↓IntWalk.iteOmega, ev e211, ev e212]
      with_reducible rfl
     intro a58 hE e213 kp
     replace e209 := kt kp e209; replace e210 := kt kp e210
     apply Z04 214 hE k rfl rfl rfl rfl rfl e209
     case h =>
      exact Z7t rfl e213 hr6
     intro a59 hE e214 kp
     replace e209 := kt kp e209; replace e210 := kt kp e210
     apply Z18 215 hE k rfl (by rfl) (by rfl) rfl rfl e209
     case h =>
      simp [go_sem, ↓IntWalk.iteOmega, ev e210, ev e214]
      with_reducible exact ⟨rfl, rfl⟩
     case hc => exact msame Q v _ rfl (Z4d (OwnT.get O 3 rfl)) hTj.up hPj hUj (by omega)
     rintro e w61 ⟨rfl, RE⟩
     replace O := OwnT.ext O RE
     refine ⟨_, rfl, ?_⟩
     intro a60 hE e215 kp
     replace e209 := kt kp e209
     apply Z04 216 hE k rfl rfl rfl rfl rfl e209
     case h =>
      exact Z0u rfl e215
     intro a62 hE e216 kp
     replace e209 := kt kp e209
     refine sd 217 hE k (Z07 rfl e209 e216) ?_
     intro a63 hE e217 kp
     refine sd 218 hE k (Z03 rfl e217) ?_
     intro a64 hE e218 kp
     apply Z04 219 hE k rfl rfl rfl rfl rfl e218
     case h =>
      exact Z03 rfl (hE.g e21)
     intro a65 hE e219 kp
     replace e218 := kt kp e218
     apply Z18 220 hE k rfl (by rfl) (by rfl) rfl rfl e218
     case h =>
      simp [go_sem, ↓IntWalk.iteOmega, ev e219]
      with_reducible exact ⟨rfl, rfl⟩
     case hc => exact Z39 64 (Q.map fun x => ((x.1 : Int), (x.2 : Int))) _ (List.length_map _) (Z5y (Z4d (OwnT.get O 3 rfl))) (by omega)
     rintro e w67 ⟨rfl, RE⟩
     replace O := OwnT.ext O RE
     refine ⟨.bool true, by rw [Z6v hTj.up hPj], ?_⟩
     intro a66 hE e220 kp
     replace e218 := kt kp e218
     apply Z04 221 hE k rfl rfl rfl rfl rfl e218
     case h =>
      exact Z0u rfl e220
     intro a68 hE e221 kp
     replace e218 := kt kp e218
     refine sd 222 hE k (Z07 rfl e218 e221) ?_
     intro a69 hE e222 kp
     refine wpList_nil ?_
     replace e3 := hE.g e3; replace e6 := hE.g e6; replace e7 := hE.g e7; replace e20 := hE.g e20
     replace k := k.env hE
     clear hE e21 e22
     refine Z01 ?_
     refine Z05 e222 rfl ?_
     refine wp_skip ?_
     refine Z0i ?_
     refine Z01 ?_
     refine wp_region_lit ?_
     have hE := Env.refl a69 [195, 196, 20]
     refine sd 195 hE k (Z03 rfl e20) ?_
     intro a70 hE e195 kp
     replace e20 := kt kp e20
     refine sd 196 hE k (Z12 rfl e195 rfl (by omega)) ?_
     intro a71 hE e196 kp
     replace e20 := kt kp e20
     refine sd 20 hE k (Z00 rfl e196) ?_
     intro a72 hE e20 kp
     refine wpList_nil ?_
     replace e3 := hE.g e3; replace e6 := hE.g e6; replace e7 := hE.g e7
     replace k := k.env hE
     clear hE e222
     refine Z01 ?_
     refine ⟨⟨k, e3, e6, e7, j + 1, e20, by omega, OwnT.pickR (L := [_, _, _, _, _, _, _]) (R := []) O [0, 1, 2, 4, 5, 6] (by decide)⟩, ?_⟩
     rw [e20, mj]; simp only [intOf]; omega
   · skip
     refine wp_seq ?_
     refine wp_seq ?_
     refine wp_region_lit ?_
     have hE := Env.refl a33 [191, 192, 193, 194]
     refine sm 191 hE k e20 ?_
     intro a73 hE e191 kp
     refine sm 192 hE k e6 ?_
     intro a74 hE e192 kp
     replace e191 := kt kp e191
     refine sd 193 hE k (Z0j Try.underlying51 rfl e192) ?_
     intro a75 hE e193 kp
     replace e191 := kt kp e191
     refine sd 194 hE k (Z06 (Z0x rfl e191 e193) (decide_eq_false (by omega))) ?_
     intro a76 hE e194 kp
     refine wpList_nil ?_
     replace e3 := hE.g e3; replace e6 := hE.g e6; replace e7 := hE.g e7; replace e20 := hE.g e20
     replace k := k.env hE
     clear hE
     refine Z01 ?_
     refine Z05 e194 rfl ?_
     refine wp_exit ?_
     refine Z0o ?_
     refine Z0o ?_
     refine Z15 ?_
     refine Z01 (wp_seq ?_)
     refine wp_region_lit ?_
     have hE := Env.refl a76 [2]
     refine sd 2 hE k (Z00 rfl rfl) ?_
     intro a77 hE e2 kp
     refine wpList_nil ?_
     replace k := k.env hE
     clear hE e3 e6 e7 e20 e194
     refine Z01 ?_
     refine wp_ret ?_
     refine Z0n rfl k e2 ?_
     exact ⟨rfl, O.below⟩
 by_cases hlt2 : i < 40
 rotate_left
 · skip
   refine wp_seq ?_
   refine wp_seq ?_
   refine wp_region_lit ?_
   have hE := Env.refl a22 [30, 31, 32, 33, 34, 35, 36, 37]
   refine sm 30 hE k e8 ?_
   intro a78 hE e30 kp
   refine sm 31 hE k e0 ?_
   intro a79 hE e31 kp
   replace e30 := kt kp e30
   refine sd 32 hE k (Z0j Try.underlying79 rfl e31) ?_
   intro a80 hE e32 kp
   replace e30 := kt kp e30
   refine sd 33 hE k (Z06 (Z0x rfl e30 e32) (decide_eq_true (by omega))) ?_
   intro a81 hE e33 kp
   refine sd 34 hE k (Z03 rfl e33) ?_
   intro a82 hE e34 kp
   apply Z04 35 hE k rfl rfl rfl rfl rfl e34
   case h =>
    exact Z03 rfl (hE.g e8)
   intro a83 hE e35 kp
   replace e34 := kt kp e34
   apply Z04 36 hE k rfl rfl rfl rfl rfl e34
   case h =>
    exact Z06 (Z0x rfl e35 rfl) (decide_eq_false (by omega))
   intro a84 hE e36 kp
   replace e34 := kt kp e34
   refine sd 37 hE k (Z0a rfl e34 e36) ?_
   intro a85 hE e37 kp
   refine wpList_nil ?_
   replace e0 := hE.g e0; replace e3 := hE.g e3; replace e4 := hE.g e4; replace e5 := hE.g e5; replace e6 := hE.g e6; replace e7 := hE.g e7; replace e8 := hE.g e8
   replace k := k.env hE
   clear hE
   refine Z01 ?_
   refine Z05 e37 rfl ?_
   refine wp_exit ?_
   refine Z0o ?_
   refine Z0o ?_
   refine Z15 ?_
   refine Z01 ?_
   clear mi
   refine wp_seq ?_
   refine wp_seq ?_
   refine wp_region_lit ?_
   have hE := Env.refl a85 [20]
   refine sd 20 hE k (Z00 rfl rfl) ?_
   intro a86 hE e20 kp
   refine wpList_nil ?_
   replace e3 := hE.g e3; replace e6 := hE.g e6; replace e7 := hE.g e7
   replace k := k.env hE
   clear hE e0 e4 e5 e8 e37
   refine Z01 ?_
   refine wp_block ?_
   refine wp_loop (fun a w => Fr 223 a ∧ a.eval (.tmp 3) = .pointer (some ⟨sb, 0, none⟩) ∧ a.eval (.tmp 6) = .slice Br n cr ∧ a.eval (.tmp 7) = .slice Bw n cw ∧ ∃ (j : Nat), a.eval (.tmp 20) = .int .i64 ↑j ∧ j ≤ n ∧ OwnT W0.heap.size W0 ((tBlk sb 28 #[.slice B N.length cap, .int .i64 511]) :: (tRow 125 2 (.slice B N.length cap) N.length (leafV vs N)) :: (tPool vs N) :: (tBlk ub 71 (rwA u)) :: (tRow 3 1 (.slice Br n cr) n (ints (hs.map (·.1)))) :: (tRow 71 64 (.slice Bw n cw) n (rowsC (hs.map (·.2.2)))) :: []) w) (fun a w => n - (intOf (a.eval (.tmp 20))).toNat) ?_ ?_
   · exact ⟨k, e3, e6, e7, 0, e20, Nat.zero_le _, O⟩
   intro a87 w88 hI
   clear k e3 e6 e7
   obtain ⟨k, e3, e6, e7, h_⟩ := hI
   clear O e20
   obtain ⟨j, e20, hj, O⟩ := h_
   have mj := e20
   by_cases hltj : j < n
   · have hltjI : (j : Int) < (n : Int) := by omega
     obtain ⟨⟨r, Q, v⟩, hx⟩ : ∃ x, hs[j]? = some x := ⟨_, List.getElem?_eq_getElem (by omega)⟩
     obtain ⟨hTj, hPj, hUj⟩ := hPast _ (List.mem_of_getElem? hx)
     replace hTj : Tre N r 100 Q := hTj
     replace hPj : Q.all enOk = true := hPj
     replace hUj : Rw Q v := hUj
     have hQl := hTj.len
     have hi1 : (ints (hs.map (·.1)))[j]? = some (.int .i64 (r : Int)) := by rw [ints, List.getElem?_map, List.getElem?_map, hx]; rfl
     have hi2 : (hs.map (·.2.2))[j]? = some v := by rw [List.getElem?_map, hx]; rfl
     obtain ⟨gr, rfl, d0⟩ := row1_at (OwnT.get O 4 rfl) hi1 hltj
     obtain ⟨gw, rfl, -⟩ := Z51 (OwnT.get O 5 rfl) hi2 hltj

     refine wp_seq ?_
     refine wp_seq ?_
     refine wp_region_lit ?_
     have hE := Env.refl a87 [191, 192, 193, 194]
     refine sm 191 hE k e20 ?_
     intro a89 hE e191 kp
     refine sm 192 hE k e6 ?_
     intro a90 hE e192 kp
     replace e191 := kt kp e191
     refine sd 193 hE k (Z0j Try.underlying51 rfl e192) ?_
     intro a91 hE e193 kp
     replace e191 := kt kp e191
     refine sd 194 hE k (Z06 (Z0x rfl e191 e193) (decide_eq_true (by omega))) ?_
     intro a92 hE e194 kp
     refine wpList_nil ?_
     replace e3 := hE.g e3; replace e6 := hE.g e6; replace e7 := hE.g e7; replace e20 := hE.g e20
     replace k := k.env hE
     clear hE
     refine Z01 ?_
     refine Z0b e194 rfl ?_
     refine wp_skip ?_
     refine Z01 (wp_seq ?_)
     refine wp_block ?_
     refine wp_seq ?_
     refine wp_region_lit ?_
     have hE := Env.refl a92 [198, 199, 200, 201, 202, 203, 204, 197, 205, 206, 21, 22]
     refine sm 198 hE k e3 ?_
     intro a93 hE e198 kp
     apply Z02 199 hE k rfl rfl rfl rfl
     case h =>
      simp [go_sem, ↓IntWalk.iteOmega, ev e198]
      with_reducible rfl
     intro a94 hE e199 kp
     refine sm 200 hE k e6 ?_
     intro a95 hE e200 kp
     replace e199 := kt kp e199
     refine sm 201 hE k e20 ?_
     intro a96 hE e201 kp
     replace e199 := kt kp e199; replace e200 := kt kp e200
     apply Z02 202 hE k rfl rfl rfl rfl
     case h =>
      simp [go_sem, ↓IntWalk.iteOmega, ev e200, ev e201]
      with_reducible rfl
     intro a97 hE e202 kp
     replace e199 := kt kp e199
     apply Z02 203 hE k rfl rfl rfl rfl
     case h =>
      simp [go_sem, ↓IntWalk.iteOmega, ev e202, d0]
      with_reducible rfl
     intro a98 hE e203 kp
     replace e199 := kt kp e199
     apply Z08 204 hE k rfl (by rfl) (by rfl) rfl
     case h =>
      simp [go_sem, ↓IntWalk.iteOmega, ev e199, ev e203]
      with_reducible exact ⟨rfl, rfl⟩
     case hc => exact mList (R := _ :: _ :: _ :: []) _ O hTj (by omega) (by omega)
     rintro e w100 hL
     obtain ⟨Bl, cl, rfl, O⟩ := (hL.resolve_right (fun h => absurd (hPj.symm.trans h.1) Bool.noConfusion)).2
     clear hL d0
     refine ⟨_, rfl, ?_⟩
     intro a99 hE e204 kp
     refine sd 197 hE k (Z03 rfl e204) ?_
     intro a101 hE e197 kp
     apply Z02 205 hE k rfl rfl rfl rfl
     case h =>
      simp [go_sem, ↓IntWalk.iteOmega, ev e197]
      with_reducible rfl
     intro a102 hE e205 kp
     replace e197 := kt kp e197
     apply Z02 206 hE k rfl rfl rfl rfl
     case h =>
      simp [go_sem, ↓IntWalk.iteOmega, ev e197]
      with_reducible rfl
     intro a103 hE e206 kp
     replace e205 := kt kp e205
     refine sd 21 hE k (Z00 rfl e205) ?_
     intro a104 hE e21 kp
     replace e206 := kt kp e206
     refine sd 22 hE k (Z00 rfl e206) ?_
     intro a105 hE e22 kp
     replace e21 := kt kp e21
     refine wpList_nil ?_
     replace e3 := hE.g e3; replace e6 := hE.g e6; replace e7 := hE.g e7; replace e20 := hE.g e20
     replace k := k.env hE
     clear hE e194
     refine Z01 ?_
     obtain ⟨_, e, hr6⟩ := Z51 (OwnT.get O 6 rfl) hi2 hltj
     injection e with e; injection e with e; subst e
     refine wp_seq ?_
     refine wp_region_lit ?_
     have hE := Env.refl a105 [207, 208, 209, 210, 211, 212, 213, 214, 215, 216, 217, 218, 219, 220, 221, 222]
     refine sm 207 hE k e22 ?_
     intro a106 hE e207 kp
     refine sd 208 hE k (Z0v rfl e207 rfl) ?_
     intro a107 hE e208 kp
     refine sd 209 hE k (Z03 rfl e208) ?_
     intro a108 hE e209 kp
     apply Z04 210 hE k rfl rfl rfl rfl rfl e209
     case h =>
      exact Z03 rfl (hE.g e21)
     intro a109 hE e210 kp
     replace e209 := kt kp e209
     apply Z04 211 hE k rfl rfl rfl rfl rfl e209
     case h =>
      exact Z03 rfl (hE.g e7)
     intro a110 hE e211 kp
     replace e209 := kt kp e209; replace e210 := kt kp e210
     apply Z04 212 hE k rfl rfl rfl rfl rfl e209
     case h =>
      exact Z03 rfl (hE.g e20)
     intro a111 hE e212 kp
     replace e209 := kt kp e209; replace e210 := kt kp e210; replace e211 := kt kp e211
     apply Z04 213 hE k rfl rfl rfl rfl rfl e209
     case h =>
      simp [go_sem, ↓IntWalk.iteOmega, ev e211, ev e212]
      with_reducible rfl
     intro a112 hE e213 kp
     replace e209 := kt kp e209; replace e210 := kt kp e210
     apply Z04 214 hE k rfl rfl rfl rfl rfl e209
     case h =>
      exact Z7t rfl e213 hr6
     intro a113 hE e214 kp
     replace e209 := kt kp e209; replace e210 := kt kp e210
     apply Z18 215 hE k rfl (by rfl) (by rfl) rfl rfl e209
     case h =>
      simp [go_sem, ↓IntWalk.iteOmega, ev e210, ev e214]
      with_reducible exact ⟨rfl, rfl⟩
     case hc => exact msame Q v _ rfl (Z4d (OwnT.get O 3 rfl)) hTj.up hPj hUj (by omega)
     rintro e w115 ⟨rfl, RE⟩
     replace O := OwnT.ext O RE
     refine ⟨_, rfl, ?_⟩
     intro a114 hE e215 kp
     replace e209 := kt kp e209
     apply Z04 216 hE k rfl rfl rfl rfl rfl e209
     case h =>
      exact Z0u rfl e215
     intro a116 hE e216 kp
     replace e209 := kt kp e209
     refine sd 217 hE k (Z07 rfl e209 e216) ?_
     intro a117 hE e217 kp
     refine sd 218 hE k (Z03 rfl e217) ?_
     intro a118 hE e218 kp
     apply Z04 219 hE k rfl rfl rfl rfl rfl e218
     case h =>
      exact Z03 rfl (hE.g e21)
     intro a119 hE e219 kp
     replace e218 := kt kp e218
     apply Z18 220 hE k rfl (by rfl) (by rfl) rfl rfl e218
     case h =>
      simp [go_sem, ↓IntWalk.iteOmega, ev e219]
      with_reducible exact ⟨rfl, rfl⟩
     case hc => exact Z39 64 (Q.map fun x => ((x.1 : Int), (x.2 : Int))) _ (List.length_map _) (Z5y (Z4d (OwnT.get O 3 rfl))) (by omega)
     rintro e w121 ⟨rfl, RE⟩
     replace O := OwnT.ext O RE
     refine ⟨.bool true, by rw [Z6v hTj.up hPj], ?_⟩
     intro a120 hE e220 kp
     replace e218 := kt kp e218
     apply Z04 221 hE k rfl rfl rfl rfl rfl e218
     case h =>
      exact Z0u rfl e220
     intro a122 hE e221 kp
     replace e218 := kt kp e218
     refine sd 222 hE k (Z07 rfl e218 e221) ?_
     intro a123 hE e222 kp
     refine wpList_nil ?_
     replace e3 := hE.g e3; replace e6 := hE.g e6; replace e7 := hE.g e7; replace e20 := hE.g e20
     replace k := k.env hE
     clear hE e21 e22
     refine Z01 ?_
     refine Z05 e222 rfl ?_
     refine wp_skip ?_
     refine Z0i ?_
     refine Z01 ?_
     refine wp_region_lit ?_
     have hE := Env.refl a123 [195, 196, 20]
     refine sd 195 hE k (Z03 rfl e20) ?_
     intro a124 hE e195 kp
     replace e20 := kt kp e20
     refine sd 196 hE k (Z12 rfl e195 rfl (by omega)) ?_
     intro a125 hE e196 kp
     replace e20 := kt kp e20
     refine sd 20 hE k (Z00 rfl e196) ?_
     intro a126 hE e20 kp
     refine wpList_nil ?_
     replace e3 := hE.g e3; replace e6 := hE.g e6; replace e7 := hE.g e7
     replace k := k.env hE
     clear hE e222
     refine Z01 ?_
     refine ⟨⟨k, e3, e6, e7, j + 1, e20, by omega, OwnT.pickR (L := [_, _, _, _, _, _, _]) (R := []) O [0, 1, 2, 4, 5, 6] (by decide)⟩, ?_⟩
     rw [e20, mj]; simp only [intOf]; omega
   · skip
     refine wp_seq ?_
     refine wp_seq ?_
     refine wp_region_lit ?_
     have hE := Env.refl a87 [191, 192, 193, 194]
     refine sm 191 hE k e20 ?_
     intro a127 hE e191 kp
     refine sm 192 hE k e6 ?_
     intro a128 hE e192 kp
     replace e191 := kt kp e191
     refine sd 193 hE k (Z0j Try.underlying51 rfl e192) ?_
     intro a129 hE e193 kp
     replace e191 := kt kp e191
     refine sd 194 hE k (Z06 (Z0x rfl e191 e193) (decide_eq_false (by omega))) ?_
     intro a130 hE e194 kp
     refine wpList_nil ?_
     replace e3 := hE.g e3; replace e6 := hE.g e6; replace e7 := hE.g e7; replace e20 := hE.g e20
     replace k := k.env hE
     clear hE
     refine Z01 ?_
     refine Z05 e194 rfl ?_
     refine wp_exit ?_
     refine Z0o ?_
     refine Z0o ?_
     refine Z15 ?_
     refine Z01 (wp_seq ?_)
     refine wp_region_lit ?_
     have hE := Env.refl a130 [2]
     refine sd 2 hE k (Z00 rfl rfl) ?_
     intro a131 hE e2 kp
     refine wpList_nil ?_
     replace k := k.env hE
     clear hE e3 e6 e7 e20 e194
     refine Z01 ?_
     refine wp_ret ?_
     refine Z0n rfl k e2 ?_
     exact ⟨rfl, O.below⟩
 have hltI : (i : Int) < (n1 : Int) := by omega
 obtain ⟨x, hx⟩ : ∃ x, xs[i]? = some x := ⟨_, List.getElem?_eq_getElem (by omega)⟩
 obtain ⟨b, o, rfl, _, hc⟩ := (hrow.below O.below) i x hx
 obtain ⟨kd, at_, ch⟩ := x
 have d0 : w23.cell? ⟨b, o + i * 3, none⟩ = some (.int .i64 kd) := by have := hc 0 _ rfl; simpa using this
 have d1 : w23.cell? ⟨b, o + i * 3 + 1, none⟩ = some (.int .i64 at_) := hc 1 _ rfl
 have d2 : w23.cell? ⟨b, o + i * 3 + 2, none⟩ = some (.int .i64 ch) := hc 2 _ rfl
 clear hc
 obtain ⟨pl, hpl⟩ : ∃ c, decide (0 ≤ at_ ∧ at_ < 64) = c := ⟨_, rfl⟩

 refine wp_seq ?_
 refine wp_seq ?_
 refine wp_region_lit ?_
 have hE := Env.refl a22 [30, 31, 32, 33, 34, 35, 36, 37]
 refine sm 30 hE k e8 ?_
 intro a132 hE e30 kp
 refine sm 31 hE k e0 ?_
 intro a133 hE e31 kp
 replace e30 := kt kp e30
 refine sd 32 hE k (Z0j Try.underlying79 rfl e31) ?_
 intro a134 hE e32 kp
 replace e30 := kt kp e30
 refine sd 33 hE k (Z06 (Z0x rfl e30 e32) (decide_eq_true (by omega))) ?_
 intro a135 hE e33 kp
 refine sd 34 hE k (Z03 rfl e33) ?_
 intro a136 hE e34 kp
 apply Z04 35 hE k rfl rfl rfl rfl rfl e34
 case h =>
  exact Z03 rfl (hE.g e8)
 intro a137 hE e35 kp
 replace e34 := kt kp e34
 apply Z04 36 hE k rfl rfl rfl rfl rfl e34
 case h =>
  exact Z06 (Z0x rfl e35 rfl) (decide_eq_true (by omega))
 intro a138 hE e36 kp
 replace e34 := kt kp e34
 refine sd 37 hE k (Z0a rfl e34 e36) ?_
 intro a139 hE e37 kp
 refine wpList_nil ?_
 replace e0 := hE.g e0; replace e3 := hE.g e3; replace e4 := hE.g e4; replace e5 := hE.g e5; replace e6 := hE.g e6; replace e7 := hE.g e7; replace e8 := hE.g e8
 replace k := k.env hE
 clear hE
 refine Z01 ?_
 refine Z0b e37 rfl ?_
 refine wp_skip ?_
 refine Z01 (wp_seq ?_)
 refine wp_block ?_
 refine wp_seq ?_
 refine wp_region_lit ?_
 have hE := Env.refl a139 [40, 41, 42, 43, 9]
 refine sm 40 hE k e0 ?_
 intro a140 hE e40 kp
 refine sm 41 hE k e8 ?_
 intro a141 hE e41 kp
 replace e40 := kt kp e40
 apply Z02 42 hE k rfl rfl rfl rfl
 case h =>
  simp [go_sem, ↓IntWalk.iteOmega, ev e40, ev e41]
  with_reducible rfl
 intro a142 hE e42 kp
 apply Z02 43 hE k rfl rfl rfl rfl
 case h =>
  simp [go_sem, ↓IntWalk.iteOmega, ev e42, d0, d1, d2]
  with_reducible rfl
 intro a143 hE e43 kp
 refine Z0m O (cs := #[.int .i64 0, .int .i64 0, .int .i64 0]) (t := 82) 9 hE k rfl (by rfl) (by rfl) rfl (by simp [go_sem, ↓IntWalk.iteOmega]) ?_
 clear O
 intro xb a144 w145 O hE e9 kp
 replace e43 := kt kp e43
 have q0 : w145.cell? ⟨xb, 0, none⟩ = some (.int .i64 0) := (OwnT.blk O 0 rfl).cell 0
 have z0 : w145.frozen? ⟨xb, 0, none⟩ = false := (OwnT.blk O 0 rfl).frozen 0
 have q1 : w145.cell? ⟨xb, 1, none⟩ = some (.int .i64 0) := (OwnT.blk O 0 rfl).cell 1
 have z1 : w145.frozen? ⟨xb, 1, none⟩ = false := (OwnT.blk O 0 rfl).frozen 1
 have q2 : w145.cell? ⟨xb, 2, none⟩ = some (.int .i64 0) := (OwnT.blk O 0 rfl).cell 2
 have z2 : w145.frozen? ⟨xb, 2, none⟩ = false := (OwnT.blk O 0 rfl).frozen 2
 refine Z0h (w' := (((w145.setCell ⟨xb, 0, none⟩ (.int .i64 kd)).setCell ⟨xb, 1, none⟩ (.int .i64 at_)).setCell ⟨xb, 2, none⟩ (.int .i64 ch))) hE rfl rfl (by simp [go_sem, ↓IntWalk.iteOmega, ev e9, ev e43, q0, z0, q1, z1, q2, z2]) ?_
 replace O := OwnT.push 0 rfl ((((OwnT.pull O 0 rfl).set 0 (.int .i64 kd)).set 1 (.int .i64 at_)).set 2 (.int .i64 ch))
 clear q0 z0 q1 z1 q2 z2
 generalize (((w145.setCell ⟨xb, 0, none⟩ (.int .i64 kd)).setCell ⟨xb, 1, none⟩ (.int .i64 at_)).setCell ⟨xb, 2, none⟩ (.int .i64 ch)) = w146 at O ⊢
 replace O : OwnT _ _ ((tBlk xb 82 #[.int .i64 kd, .int .i64 at_, .int .i64 ch]) :: (tBlk sb 28 #[.slice B N.length cap, .int .i64 511]) :: (tRow 125 2 (.slice B N.length cap) N.length (leafV vs N)) :: (tPool vs N) :: (tBlk ub 71 (rwA u)) :: (tRow 3 1 (.slice Br n cr) n (ints (hs.map (·.1)))) :: (tRow 71 64 (.slice Bw n cw) n (rowsC (hs.map (·.2.2)))) :: []) w146 := O
 refine wpList_nil ?_
 replace e0 := hE.g e0; replace e3 := hE.g e3; replace e4 := hE.g e4; replace e5 := hE.g e5; replace e6 := hE.g e6; replace e7 := hE.g e7; replace e8 := hE.g e8
 replace k := k.env hE
 clear hE e37 e43
 refine Z01 (wp_seq ?_)
 refine wp_region_lit ?_
 have hE := Env.refl a144 [10]
 refine sd 10 hE k (Z00 rfl rfl) ?_
 intro a147 hE e10 kp
 refine wpList_nil ?_
 replace e0 := hE.g e0; replace e3 := hE.g e3; replace e4 := hE.g e4; replace e5 := hE.g e5; replace e6 := hE.g e6; replace e7 := hE.g e7; replace e8 := hE.g e8; replace e9 := hE.g e9
 replace k := k.env hE
 clear hE e10
 refine Z01 (wp_seq ?_)
 refine wp_region_lit ?_
 have hE := Env.refl a147 [11]
 refine sd 11 hE k (Z00 rfl rfl) ?_
 intro a148 hE e11 kp
 refine wpList_nil ?_
 replace e0 := hE.g e0; replace e3 := hE.g e3; replace e4 := hE.g e4; replace e5 := hE.g e5; replace e6 := hE.g e6; replace e7 := hE.g e7; replace e8 := hE.g e8; replace e9 := hE.g e9
 replace k := k.env hE
 clear hE e11
 refine Z01 (wp_seq ?_)
 refine wp_region_lit ?_
 have hE := Env.refl a148 [44, 45, 46, 47, 12]
 apply Z02 44 hE k rfl rfl rfl rfl
 case h =>
  simp [go_sem, ↓IntWalk.iteOmega, ev (hE.g e9)]
  with_reducible rfl
 intro a149 hE e44 kp
 apply Z02 45 hE k rfl rfl rfl rfl
 case h =>
  have q0 : w146.cell? ⟨xb, 1, none⟩ = some (.int .i64 at_) := (OwnT.blk O 0 rfl).cell 1
  simp [go_sem, ↓IntWalk.iteOmega, ev e44, q0]
  with_reducible rfl
 intro a150 hE e45 kp
 apply Z08 46 hE k rfl (by rfl) (by rfl) rfl
 case h =>
  simp [go_sem, ↓IntWalk.iteOmega, ev e45]
  with_reducible exact ⟨rfl, rfl⟩
 case hc => exact Z44 hpl _
 rintro e w152 ⟨rfl, RE⟩
 replace O := OwnT.ext O RE
 refine ⟨_, rfl, ?_⟩
 intro a151 hE e46 kp
 refine sd 47 hE k (Z0u rfl e46) ?_
 intro a153 hE e47 kp
 refine sd 12 hE k (Z00 rfl e47) ?_
 intro a154 hE e12 kp
 refine wpList_nil ?_
 replace e0 := hE.g e0; replace e3 := hE.g e3; replace e4 := hE.g e4; replace e5 := hE.g e5; replace e6 := hE.g e6; replace e7 := hE.g e7; replace e8 := hE.g e8; replace e9 := hE.g e9
 replace k := k.env hE
 clear hE
 refine Z01 ?_
 clear d0 d1 d2
 replace O : OwnT _ _ ((tBlk sb 28 #[.slice B N.length cap, .int .i64 511]) :: (tRow 125 2 (.slice B N.length cap) N.length (leafV vs N)) :: (tPool vs N) :: (tBlk ub 71 (rwA u)) :: (tRow 3 1 (.slice Br n cr) n (ints (hs.map (·.1)))) :: (tRow 71 64 (.slice Bw n cw) n (rowsC (hs.map (·.2.2)))) :: (tBlk xb 82 #[.int .i64 kd, .int .i64 at_, .int .i64 ch]) :: []) w152 := OwnT.pickR (L := [_, _, _, _, _, _, _]) (R := []) O [1, 2, 3, 4, 5, 6, 0] (by decide)
 refine wp_seq ?_
 refine wp_region_lit ?_
 have hE := Env.refl a154 [48, 13]
 refine sd 48 hE k (Z4v rfl (hE.g e5) (OwnT.blk O 3 rfl)) ?_
 intro a155 hE e48 kp
 apply Z1n 13 hE k rfl (by rfl) (by rfl) rfl
 case h =>
  exact Z3s rfl
 intro a156 hE e13 kp
 replace e48 := kt kp e48
 obtain ⟨wb, hub⟩ : ∃ b, w152.heap.size = b := ⟨_, rfl⟩
 replace O := OwnT.new O 71 (rwA fun _ => 0)
 rw [hub] at O e13
 clear hub
 generalize w152.alloc (.cells (rwA fun _ => 0) 71) = wz at O ⊢
 refine Z89 rfl rfl _ _ rfl e13 e48 (OwnT.b0 O) ?_
 replace O := OwnT.setRowB O (rwA u)
 generalize World.setRow wz wb (rwA u) = wy at O ⊢
 refine wpList_nil ?_
 replace e0 := hE.g e0; replace e3 := hE.g e3; replace e4 := hE.g e4; replace e5 := hE.g e5; replace e6 := hE.g e6; replace e7 := hE.g e7; replace e8 := hE.g e8; replace e9 := hE.g e9; replace e12 := hE.g e12
 replace k := k.env hE
 clear hE
 refine Z01 ?_
 replace O : OwnT _ _ ((tBlk sb 28 #[.slice B N.length cap, .int .i64 511]) :: (tRow 125 2 (.slice B N.length cap) N.length (leafV vs N)) :: (tPool vs N) :: (tBlk ub 71 (rwA u)) :: (tRow 3 1 (.slice Br n cr) n (ints (hs.map (·.1)))) :: (tRow 71 64 (.slice Bw n cw) n (rowsC (hs.map (·.2.2)))) :: (tBlk wb 71 (rwA u)) :: (tBlk xb 82 #[.int .i64 kd, .int .i64 at_, .int .i64 ch]) :: []) wy := OwnT.pickR (L := [_, _, _, _, _, _, _, _]) (R := []) O [1, 2, 3, 4, 5, 6, 0, 7] (by decide)
 refine wp_cutF (fun a w => Fr 223 a ∧ a.eval (.tmp 0) = .slice (some ⟨b, o, none⟩) n1 cp ∧ a.eval (.tmp 3) = .pointer (some ⟨sb, 0, none⟩) ∧ a.eval (.tmp 4) = .int .i64 ↑rt ∧ a.eval (.tmp 5) = .pointer (some ⟨ub, 0, none⟩) ∧ a.eval (.tmp 6) = .slice Br n cr ∧ a.eval (.tmp 7) = .slice Bw n cw ∧ a.eval (.tmp 8) = .int .i64 ↑i ∧ a.eval (.tmp 13) = .pointer (some ⟨wb, 0, none⟩) ∧ ∃ (r2 er : Int) (bd : Bool) (P2 : List Pr) (u2 : Nat → Nat) (N2 : List Nd) (B2 : Option Addr) (cap2 : Nat) (vs2 : List Value), a.eval (.tmp 10) = .int .i64 r2 ∧ a.eval (.tmp 11) = .int .i64 er ∧ a.eval (.tmp 12) = .bool bd ∧ (∃ M, N2 = N ++ M) ∧ ((bd = true ∧ er = 1 ∧ r2 = 0 ∧ N2 = N) ∨ (bd = false ∧ er = 0 ∧ N2.length + 2 * P2.length ≤ 7 * (i + 1) ∧ P2.all enOk = true ∧ Rw P2 u2 ∧ ∃ r : Nat, r2 = r ∧ Tre N2 r (8 + i + 1) P2)) ∧ OwnT W0.heap.size W0 ((tBlk sb 28 #[.slice B2 N2.length cap2, .int .i64 511]) :: (tRow 125 2 (.slice B2 N2.length cap2) N2.length (leafV vs2 N2)) :: (tPool vs2 N2) :: (tBlk ub 71 (rwA u)) :: (tRow 3 1 (.slice Br n cr) n (ints (hs.map (·.1)))) :: (tRow 71 64 (.slice Bw n cw) n (rowsC (hs.map (·.2.2)))) :: (tBlk wb 71 (rwA u2)) :: []) w) ?_ ?_
 · skip
   by_cases hk4 : kd = 4
   · subst hk4
     replace O : OwnT _ _ ((tBlk sb 28 #[.slice B N.length cap, .int .i64 511]) :: (tRow 125 2 (.slice B N.length cap) N.length (leafV vs N)) :: (tPool vs N) :: (tBlk ub 71 (rwA u)) :: (tRow 3 1 (.slice Br n cr) n (ints (hs.map (·.1)))) :: (tRow 71 64 (.slice Bw n cw) n (rowsC (hs.map (·.2.2)))) :: (tBlk wb 71 (rwA u)) :: (tBlk xb 82 #[.int .i64 4, .int .i64 at_, .int .i64 ch]) :: []) wy := O
     cases pl with
     | false =>
      simp only [Bool.not_false] at e12
      have hbad : ¬ (0 ≤ at_ ∧ at_ < 64) := of_decide_eq_false hpl
      refine wp_seq ?_
      refine wp_region_lit ?_
      have hE := Env.refl a156 [49, 50]
      apply Z02 49 hE k rfl rfl rfl rfl
      case h =>
       simp [go_sem, ↓IntWalk.iteOmega, ev (hE.g e9)]
       with_reducible rfl
      intro a158 hE e49 kp
      apply Z02 50 hE k rfl rfl rfl rfl
      case h =>
       have q0 : wy.cell? ⟨xb, 0, none⟩ = some (.int .i64 4) := (OwnT.blk O 7 rfl).cell 0
       simp [go_sem, ↓IntWalk.iteOmega, ev e49, q0]
       with_reducible rfl
      intro a159 hE e50 kp
      refine wpList_nil ?_
      replace e0 := hE.g e0; replace e3 := hE.g e3; replace e4 := hE.g e4; replace e5 := hE.g e5; replace e6 := hE.g e6; replace e7 := hE.g e7; replace e8 := hE.g e8; replace e9 := hE.g e9; replace e12 := hE.g e12; replace e13 := hE.g e13
      replace k := k.env hE
      clear hE
      refine Z01 ?_
      refine wp_block ?_
      refine wp_seq ?_
      refine wp_region_lit ?_
      have hE := Env.refl a159 [77, 76]
      refine sd 77 hE k (Z06 (Z0k rfl (hE.g e50) rfl) (decide_eq_true rfl)) ?_
      intro a160 hE e77 kp
      refine sd 76 hE k (Z00 rfl e77) ?_
      intro a161 hE e76 kp
      refine wpList_nil ?_
      replace e0 := hE.g e0; replace e3 := hE.g e3; replace e4 := hE.g e4; replace e5 := hE.g e5; replace e6 := hE.g e6; replace e7 := hE.g e7; replace e8 := hE.g e8; replace e9 := hE.g e9; replace e12 := hE.g e12; replace e13 := hE.g e13; replace e50 := hE.g e50
      replace k := k.env hE
      clear hE
      refine Z01 ?_
      refine Z0b e76 rfl ?_
      refine wp_seq ?_
      refine wp_region_lit ?_
      have hE := Env.refl a161 [79, 80, 81, 82, 83, 84, 78, 85, 86, 10, 11]
      refine sm 79 hE k e3 ?_
      intro a162 hE e79 kp
      apply Z02 80 hE k rfl rfl rfl rfl
      case h =>
       simp [go_sem, ↓IntWalk.iteOmega, ev e79]
       with_reducible rfl
      intro a163 hE e80 kp
      refine sm 81 hE k e4 ?_
      intro a164 hE e81 kp
      replace e80 := kt kp e80
      apply Z02 82 hE k rfl rfl rfl rfl
      case h =>
       simp [go_sem, ↓IntWalk.iteOmega, ev (hE.g e9)]
       with_reducible rfl
      intro a165 hE e82 kp
      replace e80 := kt kp e80; replace e81 := kt kp e81
      apply Z02 83 hE k rfl rfl rfl rfl
      case h =>
       have q0 : wy.cell? ⟨xb, 1, none⟩ = some (.int .i64 at_) := (OwnT.blk O 7 rfl).cell 1
       simp [go_sem, ↓IntWalk.iteOmega, ev e82, q0]
       with_reducible rfl
      intro a166 hE e83 kp
      replace e80 := kt kp e80; replace e81 := kt kp e81
      apply Z08 84 hE k rfl (by rfl) (by rfl) rfl
      case h =>
       simp [go_sem, ↓IntWalk.iteOmega, ev e80, ev e81, ev e83]
       with_reducible exact ⟨rfl, rfl⟩
      case hc => exact Z7g at_ _ hbad
      rintro e w168 ⟨rfl, RE⟩
      replace O := OwnT.ext O RE
      refine ⟨_, rfl, ?_⟩
      intro a167 hE e84 kp
      refine sd 78 hE k (Z03 rfl e84) ?_
      intro a169 hE e78 kp
      apply Z02 85 hE k rfl rfl rfl rfl
      case h =>
       simp [go_sem, ↓IntWalk.iteOmega, ev e78]
       with_reducible rfl
      intro a170 hE e85 kp
      replace e78 := kt kp e78
      apply Z02 86 hE k rfl rfl rfl rfl
      case h =>
       simp [go_sem, ↓IntWalk.iteOmega, ev e78]
       with_reducible rfl
      intro a171 hE e86 kp
      replace e85 := kt kp e85
      refine sd 10 hE k (Z00 rfl e85) ?_
      intro a172 hE e10 kp
      replace e86 := kt kp e86
      refine sd 11 hE k (Z00 rfl e86) ?_
      intro a173 hE e11 kp
      replace e10 := kt kp e10
      refine wpList_nil ?_
      replace e0 := hE.g e0; replace e3 := hE.g e3; replace e4 := hE.g e4; replace e5 := hE.g e5; replace e6 := hE.g e6; replace e7 := hE.g e7; replace e8 := hE.g e8; replace e9 := hE.g e9; replace e12 := hE.g e12; replace e13 := hE.g e13
      replace k := k.env hE
      clear hE e50 e76
      refine Z01 (wp_seq ?_)
      refine wp_region_lit ?_
      have hE := Env.refl a173 [87, 88]
      refine sm 87 hE k e12 ?_
      intro a174 hE e87 kp
      refine sd 88 hE k (Z0u rfl e87) ?_
      intro a175 hE e88 kp
      refine wpList_nil ?_
      replace e0 := hE.g e0; replace e3 := hE.g e3; replace e4 := hE.g e4; replace e5 := hE.g e5; replace e6 := hE.g e6; replace e7 := hE.g e7; replace e8 := hE.g e8; replace e9 := hE.g e9; replace e10 := hE.g e10; replace e11 := hE.g e11; replace e12 := hE.g e12; replace e13 := hE.g e13
      replace k := k.env hE
      clear hE
      refine Z01 ?_
      refine Z05 e88 rfl ?_
      refine wp_skip ?_
      refine Z0i ?_
      refine Z01 ?_
      exact ⟨k, e0, e3, e4, e5, e6, e7, e8, e13, 0, 1, true, P, u, N, B, cap, vs, e10, e11, e12, ⟨[], by simp⟩, .inl ⟨rfl, rfl, rfl, rfl⟩, (OwnT.pickR (L := [_, _, _, _, _, _, _, _]) (R := []) O [0, 1, 2, 3, 4, 5, 6] (by decide))⟩
     | true =>
      simp only [Bool.not_true] at e12
      have hgood : 0 ≤ at_ ∧ at_ < 64 := of_decide_eq_true hpl
      obtain ⟨ky, rfl⟩ : ∃ k : Nat, at_ = k := ⟨at_.toNat, by omega⟩
      have hk : ky < 64 := by omega
      have hkI : (ky : Int) < 64 := by omega
      refine wp_seq ?_
      refine wp_region_lit ?_
      have hE := Env.refl a156 [49, 50]
      apply Z02 49 hE k rfl rfl rfl rfl
      case h =>
       simp [go_sem, ↓IntWalk.iteOmega, ev (hE.g e9)]
       with_reducible rfl
      intro a176 hE e49 kp
      apply Z02 50 hE k rfl rfl rfl rfl
      case h =>
       have q0 : wy.cell? ⟨xb, 0, none⟩ = some (.int .i64 4) := (OwnT.blk O 7 rfl).cell 0
       simp [go_sem, ↓IntWalk.iteOmega, ev e49, q0]
       with_reducible rfl
      intro a177 hE e50 kp
      refine wpList_nil ?_
      replace e0 := hE.g e0; replace e3 := hE.g e3; replace e4 := hE.g e4; replace e5 := hE.g e5; replace e6 := hE.g e6; replace e7 := hE.g e7; replace e8 := hE.g e8; replace e9 := hE.g e9; replace e12 := hE.g e12; replace e13 := hE.g e13
      replace k := k.env hE
      clear hE
      refine Z01 ?_
      refine wp_block ?_
      refine wp_seq ?_
      refine wp_region_lit ?_
      have hE := Env.refl a177 [77, 76]
      refine sd 77 hE k (Z06 (Z0k rfl (hE.g e50) rfl) (decide_eq_true rfl)) ?_
      intro a178 hE e77 kp
      refine sd 76 hE k (Z00 rfl e77) ?_
      intro a179 hE e76 kp
      refine wpList_nil ?_
      replace e0 := hE.g e0; replace e3 := hE.g e3; replace e4 := hE.g e4; replace e5 := hE.g e5; replace e6 := hE.g e6; replace e7 := hE.g e7; replace e8 := hE.g e8; replace e9 := hE.g e9; replace e12 := hE.g e12; replace e13 := hE.g e13; replace e50 := hE.g e50
      replace k := k.env hE
      clear hE
      refine Z01 ?_
      refine Z0b e76 rfl ?_
      refine wp_seq ?_
      refine wp_region_lit ?_
      have hE := Env.refl a179 [79, 80, 81, 82, 83, 84, 78, 85, 86, 10, 11]
      refine sm 79 hE k e3 ?_
      intro a180 hE e79 kp
      apply Z02 80 hE k rfl rfl rfl rfl
      case h =>
       simp [go_sem, ↓IntWalk.iteOmega, ev e79]
       with_reducible rfl
      intro a181 hE e80 kp
      refine sm 81 hE k e4 ?_
      intro a182 hE e81 kp
      replace e80 := kt kp e80
      apply Z02 82 hE k rfl rfl rfl rfl
      case h =>
       simp [go_sem, ↓IntWalk.iteOmega, ev (hE.g e9)]
       with_reducible rfl
      intro a183 hE e82 kp
      replace e80 := kt kp e80; replace e81 := kt kp e81
      apply Z02 83 hE k rfl rfl rfl rfl
      case h =>
       have q0 : wy.cell? ⟨xb, 1, none⟩ = some (.int .i64 ↑ky) := (OwnT.blk O 7 rfl).cell 1
       simp [go_sem, ↓IntWalk.iteOmega, ev e82, q0]
       with_reducible rfl
      intro a184 hE e83 kp
      replace e80 := kt kp e80; replace e81 := kt kp e81
      apply Z08 84 hE k rfl (by rfl) (by rfl) rfl
      case h =>
       simp [go_sem, ↓IntWalk.iteOmega, ev e80, ev e81, ev e83]
       with_reducible exact ⟨rfl, rfl⟩
      case hc => exact mClear (R := _ :: _ :: _ :: _ :: _ :: []) (ky := ky) _ O hT (by omega) hk
      clear O
      rintro e w186 ⟨N2, r2, ok, er, B2, cap2, vs2, rfl, O, hDL⟩
      refine ⟨_, rfl, ?_⟩
      intro a185 hE e84 kp
      refine sd 78 hE k (Z03 rfl e84) ?_
      intro a187 hE e78 kp
      apply Z02 85 hE k rfl rfl rfl rfl
      case h =>
       simp [go_sem, ↓IntWalk.iteOmega, ev e78]
       with_reducible rfl
      intro a188 hE e85 kp
      replace e78 := kt kp e78
      apply Z02 86 hE k rfl rfl rfl rfl
      case h =>
       simp [go_sem, ↓IntWalk.iteOmega, ev e78]
       with_reducible rfl
      intro a189 hE e86 kp
      replace e85 := kt kp e85
      refine sd 10 hE k (Z00 rfl e85) ?_
      intro a190 hE e10 kp
      replace e86 := kt kp e86
      refine sd 11 hE k (Z00 rfl e86) ?_
      intro a191 hE e11 kp
      replace e10 := kt kp e10
      refine wpList_nil ?_
      replace e0 := hE.g e0; replace e3 := hE.g e3; replace e4 := hE.g e4; replace e5 := hE.g e5; replace e6 := hE.g e6; replace e7 := hE.g e7; replace e8 := hE.g e8; replace e9 := hE.g e9; replace e12 := hE.g e12; replace e13 := hE.g e13
      replace k := k.env hE
      clear hE e50 e76
      refine Z01 (wp_seq ?_)
      refine wp_region_lit ?_
      have hE := Env.refl a191 [87, 88]
      refine sm 87 hE k e12 ?_
      intro a192 hE e87 kp
      refine sd 88 hE k (Z0u rfl e87) ?_
      intro a193 hE e88 kp
      refine wpList_nil ?_
      replace e0 := hE.g e0; replace e3 := hE.g e3; replace e4 := hE.g e4; replace e5 := hE.g e5; replace e6 := hE.g e6; replace e7 := hE.g e7; replace e8 := hE.g e8; replace e9 := hE.g e9; replace e10 := hE.g e10; replace e11 := hE.g e11; replace e12 := hE.g e12; replace e13 := hE.g e13
      replace k := k.env hE
      clear hE
      refine Z01 ?_
      refine Z0b e88 rfl ?_
      obtain ⟨⟨M, rfl, hM⟩, hDL⟩ := hDL
      have hX : er = 0 ∧ ∃ r : Nat, r2 = r ∧ Tre (N ++ M) r (8 + i + 1) (delP ky P) := by
       rcases hDL with ⟨h1, h2, h3, h4, h5⟩ | ⟨h1, -, -, -, h2⟩ | ⟨h1, h2, h3, r, h4, h5⟩
       · exact ⟨h1, rt, h3, by rw [del_none h5]; exact (hT.mono M).le (by omega)⟩
       · exact absurd ⟨by omega, by omega⟩ h2
       · exact ⟨h1, r, h4, h5.le (by omega)⟩
      clear hDL
      have hdl : (delP ky P).length ≤ P.length := Z5d

      have hcw : w186.cell? ⟨wb, ky, none⟩ = some (.int .i64 ((u) ky : Nat)) := by rw [(OwnT.blk O 6 rfl).cell, Z29 (u) (by omega)]
      have hzw : w186.frozen? ⟨wb, ky, none⟩ = false := (OwnT.blk O 6 rfl).frozen ky
      refine wp_region_lit ?_
      have hE := Env.refl a193 [89, 90, 91]
      apply Z02 89 hE k rfl rfl rfl rfl
      case h =>
       simp [go_sem, ↓IntWalk.iteOmega, ev (hE.g e9)]
       with_reducible rfl
      intro a194 hE e89 kp
      apply Z02 90 hE k rfl rfl rfl rfl
      case h =>
       have q0 : w186.cell? ⟨xb, 1, none⟩ = some (.int .i64 ↑ky) := (OwnT.blk O 7 rfl).cell 1
       simp [go_sem, ↓IntWalk.iteOmega, ev e89, q0]
       with_reducible rfl
      intro a195 hE e90 kp
      apply Z02 91 hE k rfl rfl rfl rfl
      case h =>
       simp [go_sem, ↓IntWalk.iteOmega, ev (hE.g e13), ev e90]
       with_reducible rfl
      intro a196 hE e91 kp
      refine Z0h (w' := (w186.setCell ⟨wb, ky, none⟩ (.int .i64 ((0 : Nat) : Int)))) hE rfl rfl ?_ ?_
      · simp [go_sem, ↓IntWalk.iteOmega, ev e91, hcw, hzw]
      replace O := OwnT.push (L := [_, _, _, _, _, _, _, _]) 6 rfl ((OwnT.pull O 6 rfl).set ky (.int .i64 ((0 : Nat) : Int)))
      clear hcw hzw
      rw [Z3l u 0 hk] at O
      generalize (w186.setCell ⟨wb, ky, none⟩ (.int .i64 ((0 : Nat) : Int))) = w197 at O ⊢
      refine wpList_nil ?_
      replace e0 := hE.g e0; replace e3 := hE.g e3; replace e4 := hE.g e4; replace e5 := hE.g e5; replace e6 := hE.g e6; replace e7 := hE.g e7; replace e8 := hE.g e8; replace e10 := hE.g e10; replace e11 := hE.g e11; replace e12 := hE.g e12; replace e13 := hE.g e13
      replace k := k.env hE
      clear hE e9 e88 e91
      refine Z0i ?_
      refine Z01 ?_
      exact ⟨k, e0, e3, e4, e5, e6, e7, e8, e13, r2, er, false, delP ky P, _, N ++ M, B2, cap2, vs2, e10, e11, e12, ⟨M, rfl⟩, .inr ⟨rfl, hX.1, by rw [List.length_append]; omega, Z4b hP, rw_del hU, hX.2⟩, (OwnT.pickR (L := [_, _, _, _, _, _, _, _]) (R := []) O [0, 1, 2, 3, 4, 5, 6] (by decide))⟩
   · skip
     by_cases hk5 : kd = 5
     · subst hk5
       replace O : OwnT _ _ ((tBlk sb 28 #[.slice B N.length cap, .int .i64 511]) :: (tRow 125 2 (.slice B N.length cap) N.length (leafV vs N)) :: (tPool vs N) :: (tBlk ub 71 (rwA u)) :: (tRow 3 1 (.slice Br n cr) n (ints (hs.map (·.1)))) :: (tRow 71 64 (.slice Bw n cw) n (rowsC (hs.map (·.2.2)))) :: (tBlk wb 71 (rwA u)) :: (tBlk xb 82 #[.int .i64 5, .int .i64 at_, .int .i64 ch]) :: []) wy := O
       obtain ⟨k0, hk0⟩ : ∃ k : Nat, max at_ 0 = (k : Int) := ⟨(max at_ 0).toNat, by omega⟩
       by_cases hneg : at_ < 0
       · skip
         refine wp_seq ?_
         refine wp_region_lit ?_
         have hE := Env.refl a156 [49, 50]
         apply Z02 49 hE k rfl rfl rfl rfl
         case h =>
          simp [go_sem, ↓IntWalk.iteOmega, ev (hE.g e9)]
          with_reducible rfl
         intro a198 hE e49 kp
         apply Z02 50 hE k rfl rfl rfl rfl
         case h =>
          have q0 : wy.cell? ⟨xb, 0, none⟩ = some (.int .i64 5) := (OwnT.blk O 7 rfl).cell 0
          simp [go_sem, ↓IntWalk.iteOmega, ev e49, q0]
          with_reducible rfl
         intro a199 hE e50 kp
         refine wpList_nil ?_
         replace e0 := hE.g e0; replace e3 := hE.g e3; replace e4 := hE.g e4; replace e5 := hE.g e5; replace e6 := hE.g e6; replace e7 := hE.g e7; replace e8 := hE.g e8; replace e9 := hE.g e9; replace e12 := hE.g e12; replace e13 := hE.g e13
         replace k := k.env hE
         clear hE
         refine Z01 ?_
         refine wp_block ?_
         refine wp_seq ?_
         refine wp_region_lit ?_
         have hE := Env.refl a199 [77, 76]
         refine sd 77 hE k (Z06 (Z0k rfl (hE.g e50) rfl) (decide_eq_false hk4)) ?_
         intro a200 hE e77 kp
         refine sd 76 hE k (Z00 rfl e77) ?_
         intro a201 hE e76 kp
         refine wpList_nil ?_
         replace e0 := hE.g e0; replace e3 := hE.g e3; replace e4 := hE.g e4; replace e5 := hE.g e5; replace e6 := hE.g e6; replace e7 := hE.g e7; replace e8 := hE.g e8; replace e9 := hE.g e9; replace e12 := hE.g e12; replace e13 := hE.g e13; replace e50 := hE.g e50
         replace k := k.env hE
         clear hE
         refine Z01 ?_
         refine Z05 e76 rfl ?_
         refine wp_seq ?_
         refine wp_region_lit ?_
         have hE := Env.refl a201 [93, 92]
         refine sd 93 hE k (Z06 (Z0k rfl (hE.g e50) rfl) (decide_eq_true rfl)) ?_
         intro a202 hE e93 kp
         refine sd 92 hE k (Z00 rfl e93) ?_
         intro a203 hE e92 kp
         refine wpList_nil ?_
         replace e0 := hE.g e0; replace e3 := hE.g e3; replace e4 := hE.g e4; replace e5 := hE.g e5; replace e6 := hE.g e6; replace e7 := hE.g e7; replace e8 := hE.g e8; replace e9 := hE.g e9; replace e12 := hE.g e12; replace e13 := hE.g e13
         replace k := k.env hE
         clear hE e50 e76
         refine Z01 ?_
         refine Z0b e92 rfl ?_
         refine wp_seq ?_
         refine wp_region_lit ?_
         have hE := Env.refl a203 [94, 95, 96, 12]
         apply Z02 94 hE k rfl rfl rfl rfl
         case h =>
          simp [go_sem, ↓IntWalk.iteOmega, ev (hE.g e9)]
          with_reducible rfl
         intro a204 hE e94 kp
         apply Z02 95 hE k rfl rfl rfl rfl
         case h =>
          have q0 : wy.cell? ⟨xb, 1, none⟩ = some (.int .i64 at_) := (OwnT.blk O 7 rfl).cell 1
          simp [go_sem, ↓IntWalk.iteOmega, ev e94, q0]
          with_reducible rfl
         intro a205 hE e95 kp
         refine sd 96 hE k (Z06 (Z0x rfl e95 rfl) (decide_eq_true (by omega))) ?_
         intro a206 hE e96 kp
         refine sd 12 hE k (Z00 rfl e96) ?_
         intro a207 hE e12 kp
         refine wpList_nil ?_
         replace e0 := hE.g e0; replace e3 := hE.g e3; replace e4 := hE.g e4; replace e5 := hE.g e5; replace e6 := hE.g e6; replace e7 := hE.g e7; replace e8 := hE.g e8; replace e9 := hE.g e9; replace e13 := hE.g e13
         replace k := k.env hE
         clear hE e92
         refine Z01 (wp_seq ?_)
         refine wp_region_lit ?_
         have hE := Env.refl a207 [97, 14]
         refine Z1s (m := 0) (c := 0) O (cs := #[]) (t := 67) 97 hE k rfl (by rfl) (by rfl) rfl (by simp [go_sem, ↓IntWalk.iteOmega]) ?_
         clear O
         intro ge a208 w209 O hE e97 kp
         refine sd 14 hE k (Z00 rfl e97) ?_
         intro a210 hE e14 kp
         refine wpList_nil ?_
         replace e0 := hE.g e0; replace e3 := hE.g e3; replace e4 := hE.g e4; replace e5 := hE.g e5; replace e6 := hE.g e6; replace e7 := hE.g e7; replace e8 := hE.g e8; replace e9 := hE.g e9; replace e12 := hE.g e12; replace e13 := hE.g e13
         replace k := k.env hE
         clear hE e14
         refine Z01 (wp_seq ?_)
         refine wp_region_lit ?_
         have hE := Env.refl a210 [99, 100, 101, 102, 103, 104, 98, 105, 106, 107, 10, 14, 11]
         refine sm 99 hE k e3 ?_
         intro a211 hE e99 kp
         apply Z02 100 hE k rfl rfl rfl rfl
         case h =>
          simp [go_sem, ↓IntWalk.iteOmega, ev e99]
          with_reducible rfl
         intro a212 hE e100 kp
         refine sm 101 hE k e4 ?_
         intro a213 hE e101 kp
         replace e100 := kt kp e100
         apply Z02 102 hE k rfl rfl rfl rfl
         case h =>
          simp [go_sem, ↓IntWalk.iteOmega, ev (hE.g e9)]
          with_reducible rfl
         intro a214 hE e102 kp
         replace e100 := kt kp e100; replace e101 := kt kp e101
         apply Z02 103 hE k rfl rfl rfl rfl
         case h =>
          have q0 : w209.cell? ⟨xb, 1, none⟩ = some (.int .i64 at_) := (OwnT.blk O 8 rfl).cell 1
          simp [go_sem, ↓IntWalk.iteOmega, ev e102, q0]
          with_reducible rfl
         intro a215 hE e103 kp
         replace e100 := kt kp e100; replace e101 := kt kp e101
         apply Z08 104 hE k rfl (by rfl) (by rfl) rfl
         case h =>
          simp [go_sem, ↓IntWalk.iteOmega, ev e100, ev e101, ev e103]
          with_reducible exact ⟨rfl, rfl⟩
         case hc => exact mTrim_bad at_ _ (by omega)
         rintro e w217 ⟨rfl, RE⟩
         replace O := OwnT.ext O RE
         refine ⟨_, rfl, ?_⟩
         intro a216 hE e104 kp
         refine sd 98 hE k (Z03 rfl e104) ?_
         intro a218 hE e98 kp
         apply Z02 105 hE k rfl rfl rfl rfl
         case h =>
          simp [go_sem, ↓IntWalk.iteOmega, ev e98]
          with_reducible rfl
         intro a219 hE e105 kp
         replace e98 := kt kp e98
         apply Z02 106 hE k rfl rfl rfl rfl
         case h =>
          simp [go_sem, ↓IntWalk.iteOmega, ev e98]
          with_reducible rfl
         intro a220 hE e106 kp
         replace e98 := kt kp e98; replace e105 := kt kp e105
         apply Z02 107 hE k rfl rfl rfl rfl
         case h =>
          simp [go_sem, ↓IntWalk.iteOmega, ev e98]
          with_reducible rfl
         intro a221 hE e107 kp
         replace e105 := kt kp e105; replace e106 := kt kp e106
         refine sd 10 hE k (Z00 rfl e105) ?_
         intro a222 hE e10 kp
         replace e106 := kt kp e106; replace e107 := kt kp e107
         refine sd 14 hE k (Z00 rfl e106) ?_
         intro a223 hE e14 kp
         replace e107 := kt kp e107; replace e10 := kt kp e10
         refine sd 11 hE k (Z00 rfl e107) ?_
         intro a224 hE e11 kp
         replace e10 := kt kp e10; replace e14 := kt kp e14
         refine wpList_nil ?_
         replace e0 := hE.g e0; replace e3 := hE.g e3; replace e4 := hE.g e4; replace e5 := hE.g e5; replace e6 := hE.g e6; replace e7 := hE.g e7; replace e8 := hE.g e8; replace e9 := hE.g e9; replace e12 := hE.g e12; replace e13 := hE.g e13
         replace k := k.env hE
         clear hE
         refine Z01 ?_
         replace O : OwnT _ _ ((tBlk sb 28 #[.slice B N.length cap, .int .i64 511]) :: (tRow 125 2 (.slice B N.length cap) N.length (leafV vs N)) :: (tPool vs N) :: (tBlk ub 71 (rwA u)) :: (tRow 3 1 (.slice Br n cr) n (ints (hs.map (·.1)))) :: (tRow 71 64 (.slice Bw n cw) n (rowsC (hs.map (·.2.2)))) :: (tBlk wb 71 (rwA u)) :: (tBlk xb 82 #[.int .i64 5, .int .i64 at_, .int .i64 ch]) :: []) w217 := OwnT.pickR (L := [_, _, _, _, _, _, _, _, _]) (R := []) O [1, 2, 3, 4, 5, 6, 7, 8] (by decide)
         refine wp_seq ?_
         refine wp_region_lit ?_
         have hE := Env.refl a224 [108, 15]
         refine sd 108 hE k (Z5v rfl) ?_
         intro a226 hE e108 kp
         apply Z1n 15 hE k rfl (by rfl) (by rfl) rfl
         case h =>
          exact Z3s rfl
         intro a227 hE e15 kp
         replace e108 := kt kp e108
         obtain ⟨gb, hub⟩ : ∃ b, w217.heap.size = b := ⟨_, rfl⟩
         replace O := OwnT.new O 71 (rwA fun _ => 0)
         rw [hub] at O e15
         clear hub
         generalize w217.alloc (.cells (rwA fun _ => 0) 71) = wz225 at O ⊢
         refine Z4y rfl rfl _ _ _ rfl e15 e108 (OwnT.b0 O) (by rw [Z1h]; kernel_rfl) (Z41 _) ?_
         refine wpList_nil ?_
         replace e0 := hE.g e0; replace e3 := hE.g e3; replace e4 := hE.g e4; replace e5 := hE.g e5; replace e6 := hE.g e6; replace e7 := hE.g e7; replace e8 := hE.g e8; replace e9 := hE.g e9; replace e10 := hE.g e10; replace e11 := hE.g e11; replace e12 := hE.g e12; replace e13 := hE.g e13; replace e14 := hE.g e14
         replace k := k.env hE
         clear hE
         refine Z01 ?_
         replace O : OwnT _ _ ((tBlk sb 28 #[.slice B N.length cap, .int .i64 511]) :: (tRow 125 2 (.slice B N.length cap) N.length (leafV vs N)) :: (tPool vs N) :: (tBlk ub 71 (rwA u)) :: (tRow 3 1 (.slice Br n cr) n (ints (hs.map (·.1)))) :: (tRow 71 64 (.slice Bw n cw) n (rowsC (hs.map (·.2.2)))) :: (tBlk wb 71 (rwA u)) :: (tBlk xb 82 #[.int .i64 5, .int .i64 at_, .int .i64 ch]) :: (tBlk gb 71 (rwA fun _ => 0)) :: []) wz225 := OwnT.pickR (L := [_, _, _, _, _, _, _, _, _]) (R := []) O [1, 2, 3, 4, 5, 6, 7, 8, 0] (by decide)
         refine wp_seq ?_
         refine wp_seq ?_
         refine wp_region_lit ?_
         have hE := Env.refl a227 [109, 110, 111, 16]
         apply Z02 109 hE k rfl rfl rfl rfl
         case h =>
          simp [go_sem, ↓IntWalk.iteOmega, ev (hE.g e9)]
          with_reducible rfl
         intro a229 hE e109 kp
         apply Z02 110 hE k rfl rfl rfl rfl
         case h =>
          have q0 : wz225.cell? ⟨xb, 1, none⟩ = some (.int .i64 at_) := (OwnT.blk O 7 rfl).cell 1
          simp [go_sem, ↓IntWalk.iteOmega, ev e109, q0]
          with_reducible rfl
         intro a230 hE e110 kp
         refine sd 111 hE k (Z1a (v := .int .i64 (k0 : Int)) (Z7s rfl e110 rfl) (Z0z hk0)) ?_
         intro a231 hE e111 kp
         refine sd 16 hE k (Z00 rfl e111) ?_
         intro a232 hE e16 kp
         refine wpList_nil ?_
         replace e0 := hE.g e0; replace e3 := hE.g e3; replace e4 := hE.g e4; replace e5 := hE.g e5; replace e6 := hE.g e6; replace e7 := hE.g e7; replace e8 := hE.g e8; replace e10 := hE.g e10; replace e11 := hE.g e11; replace e12 := hE.g e12; replace e13 := hE.g e13; replace e14 := hE.g e14; replace e15 := hE.g e15
         replace k := k.env hE
         clear hE e9
         refine Z01 ?_
         refine wp_block ?_
         have hg0 := Z4t k0 u
         have hw0 := Z4r k0 u
         replace O : OwnT W0.heap.size W0 ((tBlk sb 28 #[.slice B N.length cap, .int .i64 511]) :: (tRow 125 2 (.slice B N.length cap) N.length (leafV vs N)) :: (tPool vs N) :: (tBlk ub 71 (rwA u)) :: (tRow 3 1 (.slice Br n cr) n (ints (hs.map (·.1)))) :: (tRow 71 64 (.slice Bw n cw) n (rowsC (hs.map (·.2.2)))) :: (tBlk wb 71 (rwA (keepU k0 k0 u))) :: (tBlk xb 82 #[.int .i64 5, .int .i64 at_, .int .i64 ch]) :: (tBlk gb 71 (rwA (goneU k0 k0 u))) :: []) wz225 := by rw [hg0, hw0]; exact O
         clear hg0 hw0
         refine wp_loop (fun a w => Fr 223 a ∧ a.eval (.tmp 0) = .slice (some ⟨b, o, none⟩) n1 cp ∧ a.eval (.tmp 3) = .pointer (some ⟨sb, 0, none⟩) ∧ a.eval (.tmp 4) = .int .i64 ↑rt ∧ a.eval (.tmp 5) = .pointer (some ⟨ub, 0, none⟩) ∧ a.eval (.tmp 6) = .slice Br n cr ∧ a.eval (.tmp 7) = .slice Bw n cw ∧ a.eval (.tmp 8) = .int .i64 ↑i ∧ a.eval (.tmp 10) = .int .i64 0 ∧ a.eval (.tmp 11) = .int .i64 1 ∧ a.eval (.tmp 12) = .bool true ∧ a.eval (.tmp 13) = .pointer (some ⟨wb, 0, none⟩) ∧ a.eval (.tmp 14) = .slice none 0 0 ∧ a.eval (.tmp 15) = .pointer (some ⟨gb, 0, none⟩) ∧ ∃ (q : Nat), a.eval (.tmp 16) = .int .i64 ↑q ∧ k0 ≤ q ∧ OwnT W0.heap.size W0 ((tBlk sb 28 #[.slice B N.length cap, .int .i64 511]) :: (tRow 125 2 (.slice B N.length cap) N.length (leafV vs N)) :: (tPool vs N) :: (tBlk ub 71 (rwA u)) :: (tRow 3 1 (.slice Br n cr) n (ints (hs.map (·.1)))) :: (tRow 71 64 (.slice Bw n cw) n (rowsC (hs.map (·.2.2)))) :: (tBlk wb 71 (rwA (keepU k0 q u))) :: (tBlk xb 82 #[.int .i64 5, .int .i64 at_, .int .i64 ch]) :: (tBlk gb 71 (rwA (goneU k0 q u))) :: []) w) (fun a w => 64 - (intOf (a.eval (.tmp 16))).toNat) ?_ ?_
         · exact ⟨k, e0, e3, e4, e5, e6, e7, e8, e10, e11, e12, e13, e14, e15, k0, e16, Nat.le_refl _, O⟩
         intro a233 w234 hI
         clear k e0 e3 e4 e5 e6 e7 e8 e10 e11 e12 e13 e14 e15
         obtain ⟨k, e0, e3, e4, e5, e6, e7, e8, e10, e11, e12, e13, e14, e15, h_⟩ := hI
         clear O e16
         obtain ⟨q, e16, hq, O⟩ := h_
         have mq := e16
         by_cases hltq : q < 64
         · have hltqI : (q : Int) < 64 := by omega
           have hcu : w234.cell? ⟨ub, q, none⟩ = some (.int .i64 (u q : Nat)) := by rw [(OwnT.blk O 3 rfl).cell, Z29 u hltq]
           have hcg : w234.cell? ⟨gb, q, none⟩ = some (.int .i64 (goneU k0 q u q : Nat)) := by rw [(OwnT.blk O 8 rfl).cell, Z29 _ hltq]
           have hzg : w234.frozen? ⟨gb, q, none⟩ = false := (OwnT.blk O 8 rfl).frozen q
           refine wp_seq ?_
           refine wp_seq ?_
           refine wp_region_lit ?_
           have hE := Env.refl a233 [112, 113]
           refine sm 112 hE k e16 ?_
           intro a235 hE e112 kp
           refine sd 113 hE k (Z06 (Z0x rfl e112 rfl) (decide_eq_true (by omega))) ?_
           intro a236 hE e113 kp
           refine wpList_nil ?_
           replace e0 := hE.g e0; replace e3 := hE.g e3; replace e4 := hE.g e4; replace e5 := hE.g e5; replace e6 := hE.g e6; replace e7 := hE.g e7; replace e8 := hE.g e8; replace e10 := hE.g e10; replace e11 := hE.g e11; replace e12 := hE.g e12; replace e13 := hE.g e13; replace e14 := hE.g e14; replace e15 := hE.g e15; replace e16 := hE.g e16
           replace k := k.env hE
           clear hE
           refine Z01 ?_
           refine Z0b e113 rfl ?_
           refine wp_skip ?_
           refine Z01 (wp_seq ?_)
           refine wp_block ?_
           refine wp_seq ?_
           refine wp_region_lit ?_
           have hE := Env.refl a236 [116, 117, 118, 119, 120]
           refine sm 116 hE k e16 ?_
           intro a237 hE e116 kp
           refine sm 117 hE k e16 ?_
           intro a238 hE e117 kp
           replace e116 := kt kp e116
           apply Z02 118 hE k rfl rfl rfl rfl
           case h =>
            simp [go_sem, ↓IntWalk.iteOmega, ev (hE.g e5), ev e117]
            with_reducible rfl
           intro a239 hE e118 kp
           replace e116 := kt kp e116
           apply Z02 119 hE k rfl rfl rfl rfl
           case h =>
            simp [go_sem, ↓IntWalk.iteOmega, ev e118, hcu]
            with_reducible rfl
           intro a240 hE e119 kp
           replace e116 := kt kp e116
           apply Z02 120 hE k rfl rfl rfl rfl
           case h =>
            simp [go_sem, ↓IntWalk.iteOmega, ev (hE.g e15), ev e116]
            with_reducible rfl
           intro a241 hE e120 kp
           replace e119 := kt kp e119
           refine Z0h (w' := (w234.setCell ⟨gb, q, none⟩ (.int .i64 ((u q : Nat) : Int)))) hE rfl rfl ?_ ?_
           · simp [go_sem, ↓IntWalk.iteOmega, ev e119, ev e120, hcg, hzg]
           replace O := OwnT.push (L := [_, _, _, _, _, _, _, _, _]) 8 rfl ((OwnT.pull O 8 rfl).set q (.int .i64 ((u q : Nat) : Int)))
           clear hcg hzg hcu
           rw [Z3l _ (u q) hltq, Z4u u hq] at O
           generalize (w234.setCell ⟨gb, q, none⟩ (.int .i64 ((u q : Nat) : Int))) = w242 at O ⊢
           refine wpList_nil ?_
           replace e0 := hE.g e0; replace e3 := hE.g e3; replace e4 := hE.g e4; replace e5 := hE.g e5; replace e6 := hE.g e6; replace e7 := hE.g e7; replace e8 := hE.g e8; replace e10 := hE.g e10; replace e11 := hE.g e11; replace e12 := hE.g e12; replace e13 := hE.g e13; replace e14 := hE.g e14; replace e15 := hE.g e15; replace e16 := hE.g e16
           replace k := k.env hE
           clear hE e113 e119 e120
           refine Z01 ?_
           have hcw : w242.cell? ⟨wb, q, none⟩ = some (.int .i64 (keepU k0 q u q : Nat)) := by rw [(OwnT.blk O 6 rfl).cell, Z29 _ hltq]
           have hzw : w242.frozen? ⟨wb, q, none⟩ = false := (OwnT.blk O 6 rfl).frozen q
           refine wp_region_lit ?_
           have hE := Env.refl a241 [121, 122]
           refine sm 121 hE k e16 ?_
           intro a243 hE e121 kp
           apply Z02 122 hE k rfl rfl rfl rfl
           case h =>
            simp [go_sem, ↓IntWalk.iteOmega, ev (hE.g e13), ev e121]
            with_reducible rfl
           intro a244 hE e122 kp
           refine Z0h (w' := (w242.setCell ⟨wb, q, none⟩ (.int .i64 ((0 : Nat) : Int)))) hE rfl rfl ?_ ?_
           · simp [go_sem, ↓IntWalk.iteOmega, ev e122, hcw, hzw]
           replace O := OwnT.push (L := [_, _, _, _, _, _, _, _, _]) 6 rfl ((OwnT.pull O 6 rfl).set q (.int .i64 ((0 : Nat) : Int)))
           clear hcw hzw
           rw [Z3l _ 0 hltq, Z4s u hq] at O
           generalize (w242.setCell ⟨wb, q, none⟩ (.int .i64 ((0 : Nat) : Int))) = w245 at O ⊢
           refine wpList_nil ?_
           replace e0 := hE.g e0; replace e3 := hE.g e3; replace e4 := hE.g e4; replace e5 := hE.g e5; replace e6 := hE.g e6; replace e7 := hE.g e7; replace e8 := hE.g e8; replace e10 := hE.g e10; replace e11 := hE.g e11; replace e12 := hE.g e12; replace e13 := hE.g e13; replace e14 := hE.g e14; replace e15 := hE.g e15; replace e16 := hE.g e16
           replace k := k.env hE
           clear hE e122
           refine Z0i ?_
           refine Z01 ?_
           refine wp_region_lit ?_
           have hE := Env.refl a244 [114, 115, 16]
           refine sd 114 hE k (Z03 rfl e16) ?_
           intro a246 hE e114 kp
           replace e16 := kt kp e16
           refine sd 115 hE k (Z12 rfl e114 rfl (by omega)) ?_
           intro a247 hE e115 kp
           replace e16 := kt kp e16
           refine sd 16 hE k (Z00 rfl e115) ?_
           intro a248 hE e16 kp
           refine wpList_nil ?_
           replace e0 := hE.g e0; replace e3 := hE.g e3; replace e4 := hE.g e4; replace e5 := hE.g e5; replace e6 := hE.g e6; replace e7 := hE.g e7; replace e8 := hE.g e8; replace e10 := hE.g e10; replace e11 := hE.g e11; replace e12 := hE.g e12; replace e13 := hE.g e13; replace e14 := hE.g e14; replace e15 := hE.g e15
           replace k := k.env hE
           clear hE
           refine Z01 ?_
           refine ⟨⟨k, e0, e3, e4, e5, e6, e7, e8, e10, e11, e12, e13, e14, e15, q + 1, e16, by omega, O⟩, ?_⟩
           rw [e16, mq]; simp only [intOf]; omega
         · clear mq
           refine wp_seq ?_
           refine wp_seq ?_
           refine wp_region_lit ?_
           have hE := Env.refl a233 [112, 113]
           refine sm 112 hE k e16 ?_
           intro a249 hE e112 kp
           refine sd 113 hE k (Z06 (Z0x rfl e112 rfl) (decide_eq_false (by omega))) ?_
           intro a250 hE e113 kp
           refine wpList_nil ?_
           replace e0 := hE.g e0; replace e3 := hE.g e3; replace e4 := hE.g e4; replace e5 := hE.g e5; replace e6 := hE.g e6; replace e7 := hE.g e7; replace e8 := hE.g e8; replace e10 := hE.g e10; replace e11 := hE.g e11; replace e12 := hE.g e12; replace e13 := hE.g e13; replace e14 := hE.g e14; replace e15 := hE.g e15; replace e16 := hE.g e16
           replace k := k.env hE
           clear hE
           refine Z01 ?_
           refine Z05 e113 rfl ?_
           refine wp_exit ?_
           refine Z0o ?_
           refine Z0o ?_
           refine Z15 ?_
           refine Z01 (wp_seq ?_)
           refine wp_region_lit ?_
           have hE := Env.refl a250 [123, 124, 125, 126, 127, 128, 129, 130, 131, 132, 133, 134, 135, 136, 137, 138, 139]
           refine sm 123 hE k e11 ?_
           intro a251 hE e123 kp
           refine sd 124 hE k (Z0k rfl e123 rfl) ?_
           intro a252 hE e124 kp
           refine sd 125 hE k (Z03 rfl e124) ?_
           intro a253 hE e125 kp
           refine Z09 126 hE k rfl (by rfl) (by rfl) rfl rfl (.inl e125) ?_
           intro a254 hE e126 kp
           replace e125 := kt kp e125
           refine Z09 127 hE k rfl (by rfl) (by rfl) rfl rfl (.inl e125) ?_
           intro a255 hE e127 kp
           replace e125 := kt kp e125; replace e126 := kt kp e126
           refine Z09 128 hE k rfl (by rfl) (by rfl) rfl rfl (.inl e125) ?_
           intro a256 hE e128 kp
           replace e125 := kt kp e125
           refine Z09 129 hE k rfl (by rfl) (by rfl) rfl rfl (.inl e125) ?_
           intro a257 hE e129 kp
           replace e125 := kt kp e125
           refine sd 130 hE k (Z07 rfl e125 rfl) ?_
           intro a258 hE e130 kp
           refine sd 131 hE k (Z03 rfl e130) ?_
           intro a259 hE e131 kp
           apply Z04 132 hE k rfl rfl rfl rfl rfl e131
           case h =>
            exact Z03 rfl (hE.g e11)
           intro a260 hE e132 kp
           replace e131 := kt kp e131
           apply Z04 133 hE k rfl rfl rfl rfl rfl e131
           case h =>
            exact Z0v rfl e132 rfl
           intro a261 hE e133 kp
           replace e131 := kt kp e131
           apply Z04 134 hE k rfl rfl rfl rfl rfl e131
           case h =>
            exact Z03 rfl e133
           intro a262 hE e134 kp
           replace e131 := kt kp e131
           apply Z04 135 hE k rfl rfl rfl rfl rfl e134
           case h =>
            exact Z03 rfl (hE.g e14)
           intro a263 hE e135 kp
           replace e131 := kt kp e131; replace e134 := kt kp e134
           apply Z04 136 hE k rfl rfl rfl rfl rfl e134
           case h =>
            exact Z0j Try.underlying65 rfl e135
           intro a264 hE e136 kp
           replace e131 := kt kp e131; replace e134 := kt kp e134
           apply Z04 137 hE k rfl rfl rfl rfl rfl e134
           case h =>
            exact Z0v rfl e136 rfl
           intro a265 hE e137 kp
           replace e131 := kt kp e131; replace e134 := kt kp e134
           apply Z04 138 hE k rfl rfl rfl rfl rfl e131
           case h =>
            exact Z0a rfl e134 e137
           intro a266 hE e138 kp
           replace e131 := kt kp e131
           refine sd 139 hE k (Z07 rfl e131 e138) ?_
           intro a267 hE e139 kp
           refine wpList_nil ?_
           replace e0 := hE.g e0; replace e3 := hE.g e3; replace e4 := hE.g e4; replace e5 := hE.g e5; replace e6 := hE.g e6; replace e7 := hE.g e7; replace e8 := hE.g e8; replace e10 := hE.g e10; replace e11 := hE.g e11; replace e12 := hE.g e12; replace e13 := hE.g e13
           replace k := k.env hE
           clear hE e14 e15 e16 e113
           refine Z01 ?_
           refine Z05 e139 rfl ?_
           refine wp_skip ?_
           refine Z0i ?_
           refine Z01 ?_
           exact ⟨k, e0, e3, e4, e5, e6, e7, e8, e13, 0, 1, true, P, keepU k0 q u, N, B, cap, vs, e10, e11, e12, ⟨[], by simp⟩, .inl ⟨rfl, rfl, rfl, rfl⟩, (OwnT.pickR (L := [_, _, _, _, _, _, _, _, _]) (R := []) O [0, 1, 2, 3, 4, 5, 6] (by decide))⟩
       · skip
         obtain rfl : at_ = (k0 : Int) := by omega
         refine wp_seq ?_
         refine wp_region_lit ?_
         have hE := Env.refl a156 [49, 50]
         apply Z02 49 hE k rfl rfl rfl rfl
         case h =>
          simp [go_sem, ↓IntWalk.iteOmega, ev (hE.g e9)]
          with_reducible rfl
         intro a268 hE e49 kp
         apply Z02 50 hE k rfl rfl rfl rfl
         case h =>
          have q0 : wy.cell? ⟨xb, 0, none⟩ = some (.int .i64 5) := (OwnT.blk O 7 rfl).cell 0
          simp [go_sem, ↓IntWalk.iteOmega, ev e49, q0]
          with_reducible rfl
         intro a269 hE e50 kp
         refine wpList_nil ?_
         replace e0 := hE.g e0; replace e3 := hE.g e3; replace e4 := hE.g e4; replace e5 := hE.g e5; replace e6 := hE.g e6; replace e7 := hE.g e7; replace e8 := hE.g e8; replace e9 := hE.g e9; replace e12 := hE.g e12; replace e13 := hE.g e13
         replace k := k.env hE
         clear hE
         refine Z01 ?_
         refine wp_block ?_
         refine wp_seq ?_
         refine wp_region_lit ?_
         have hE := Env.refl a269 [77, 76]
         refine sd 77 hE k (Z06 (Z0k rfl (hE.g e50) rfl) (decide_eq_false hk4)) ?_
         intro a270 hE e77 kp
         refine sd 76 hE k (Z00 rfl e77) ?_
         intro a271 hE e76 kp
         refine wpList_nil ?_
         replace e0 := hE.g e0; replace e3 := hE.g e3; replace e4 := hE.g e4; replace e5 := hE.g e5; replace e6 := hE.g e6; replace e7 := hE.g e7; replace e8 := hE.g e8; replace e9 := hE.g e9; replace e12 := hE.g e12; replace e13 := hE.g e13; replace e50 := hE.g e50
         replace k := k.env hE
         clear hE
         refine Z01 ?_
         refine Z05 e76 rfl ?_
         refine wp_seq ?_
         refine wp_region_lit ?_
         have hE := Env.refl a271 [93, 92]
         refine sd 93 hE k (Z06 (Z0k rfl (hE.g e50) rfl) (decide_eq_true rfl)) ?_
         intro a272 hE e93 kp
         refine sd 92 hE k (Z00 rfl e93) ?_
         intro a273 hE e92 kp
         refine wpList_nil ?_
         replace e0 := hE.g e0; replace e3 := hE.g e3; replace e4 := hE.g e4; replace e5 := hE.g e5; replace e6 := hE.g e6; replace e7 := hE.g e7; replace e8 := hE.g e8; replace e9 := hE.g e9; replace e12 := hE.g e12; replace e13 := hE.g e13
         replace k := k.env hE
         clear hE e50 e76
         refine Z01 ?_
         refine Z0b e92 rfl ?_
         refine wp_seq ?_
         refine wp_region_lit ?_
         have hE := Env.refl a273 [94, 95, 96, 12]
         apply Z02 94 hE k rfl rfl rfl rfl
         case h =>
          simp [go_sem, ↓IntWalk.iteOmega, ev (hE.g e9)]
          with_reducible rfl
         intro a274 hE e94 kp
         apply Z02 95 hE k rfl rfl rfl rfl
         case h =>
          have q0 : wy.cell? ⟨xb, 1, none⟩ = some (.int .i64 ↑k0) := (OwnT.blk O 7 rfl).cell 1
          simp [go_sem, ↓IntWalk.iteOmega, ev e94, q0]
          with_reducible rfl
         intro a275 hE e95 kp
         refine sd 96 hE k (Z06 (Z0x rfl e95 rfl) (decide_eq_false (by omega))) ?_
         intro a276 hE e96 kp
         refine sd 12 hE k (Z00 rfl e96) ?_
         intro a277 hE e12 kp
         refine wpList_nil ?_
         replace e0 := hE.g e0; replace e3 := hE.g e3; replace e4 := hE.g e4; replace e5 := hE.g e5; replace e6 := hE.g e6; replace e7 := hE.g e7; replace e8 := hE.g e8; replace e9 := hE.g e9; replace e13 := hE.g e13
         replace k := k.env hE
         clear hE e92
         refine Z01 (wp_seq ?_)
         refine wp_region_lit ?_
         have hE := Env.refl a277 [97, 14]
         refine Z1s (m := 0) (c := 0) O (cs := #[]) (t := 67) 97 hE k rfl (by rfl) (by rfl) rfl (by simp [go_sem, ↓IntWalk.iteOmega]) ?_
         clear O
         intro ge a278 w279 O hE e97 kp
         refine sd 14 hE k (Z00 rfl e97) ?_
         intro a280 hE e14 kp
         refine wpList_nil ?_
         replace e0 := hE.g e0; replace e3 := hE.g e3; replace e4 := hE.g e4; replace e5 := hE.g e5; replace e6 := hE.g e6; replace e7 := hE.g e7; replace e8 := hE.g e8; replace e9 := hE.g e9; replace e12 := hE.g e12; replace e13 := hE.g e13
         replace k := k.env hE
         clear hE e14
         refine Z01 ?_
         replace O : OwnT _ _ ((tBlk sb 28 #[.slice B N.length cap, .int .i64 511]) :: (tRow 125 2 (.slice B N.length cap) N.length (leafV vs N)) :: (tPool vs N) :: (tBlk ub 71 (rwA u)) :: (tRow 3 1 (.slice Br n cr) n (ints (hs.map (·.1)))) :: (tRow 71 64 (.slice Bw n cw) n (rowsC (hs.map (·.2.2)))) :: (tBlk wb 71 (rwA u)) :: (tBlk xb 82 #[.int .i64 5, .int .i64 ↑k0, .int .i64 ch]) :: []) w279 := OwnT.pickR (L := [_, _, _, _, _, _, _, _, _]) (R := []) O [1, 2, 3, 4, 5, 6, 7, 8] (by decide)
         refine wp_seq ?_
         refine wp_region_lit ?_
         have hE := Env.refl a280 [99, 100, 101, 102, 103, 104, 98, 105, 106, 107, 10, 14, 11]
         refine sm 99 hE k e3 ?_
         intro a281 hE e99 kp
         apply Z02 100 hE k rfl rfl rfl rfl
         case h =>
          simp [go_sem, ↓IntWalk.iteOmega, ev e99]
          with_reducible rfl
         intro a282 hE e100 kp
         refine sm 101 hE k e4 ?_
         intro a283 hE e101 kp
         replace e100 := kt kp e100
         apply Z02 102 hE k rfl rfl rfl rfl
         case h =>
          simp [go_sem, ↓IntWalk.iteOmega, ev (hE.g e9)]
          with_reducible rfl
         intro a284 hE e102 kp
         replace e100 := kt kp e100; replace e101 := kt kp e101
         apply Z02 103 hE k rfl rfl rfl rfl
         case h =>
          have q0 : w279.cell? ⟨xb, 1, none⟩ = some (.int .i64 ↑k0) := (OwnT.blk O 7 rfl).cell 1
          simp [go_sem, ↓IntWalk.iteOmega, ev e102, q0]
          with_reducible rfl
         intro a285 hE e103 kp
         replace e100 := kt kp e100; replace e101 := kt kp e101
         apply Z08 104 hE k rfl (by rfl) (by rfl) rfl
         case h =>
          simp [go_sem, ↓IntWalk.iteOmega, ev e100, ev e101, ev e103]
          with_reducible exact ⟨rfl, rfl⟩
         case hc => exact mTrim (R := _ :: _ :: _ :: _ :: _ :: []) (sz := k0) _ O hT (by omega) (by omega) hP
         rintro e w287 ⟨N2, B2, cap2, vs2, ⟨M, rfl, hM⟩, hTr⟩
         obtain ⟨r, Bl, cl, rfl, O, hT2⟩ := hTr.resolve_left (fun h => h.2.1 ⟨by omega, by omega⟩)
         clear hTr
         refine ⟨_, rfl, ?_⟩
         intro a286 hE e104 kp
         refine sd 98 hE k (Z03 rfl e104) ?_
         intro a288 hE e98 kp
         apply Z02 105 hE k rfl rfl rfl rfl
         case h =>
          simp [go_sem, ↓IntWalk.iteOmega, ev e98]
          with_reducible rfl
         intro a289 hE e105 kp
         replace e98 := kt kp e98
         apply Z02 106 hE k rfl rfl rfl rfl
         case h =>
          simp [go_sem, ↓IntWalk.iteOmega, ev e98]
          with_reducible rfl
         intro a290 hE e106 kp
         replace e98 := kt kp e98; replace e105 := kt kp e105
         apply Z02 107 hE k rfl rfl rfl rfl
         case h =>
          simp [go_sem, ↓IntWalk.iteOmega, ev e98]
          with_reducible rfl
         intro a291 hE e107 kp
         replace e105 := kt kp e105; replace e106 := kt kp e106
         refine sd 10 hE k (Z00 rfl e105) ?_
         intro a292 hE e10 kp
         replace e106 := kt kp e106; replace e107 := kt kp e107
         refine sd 14 hE k (Z00 rfl e106) ?_
         intro a293 hE e14 kp
         replace e107 := kt kp e107; replace e10 := kt kp e10
         refine sd 11 hE k (Z00 rfl e107) ?_
         intro a294 hE e11 kp
         replace e10 := kt kp e10; replace e14 := kt kp e14
         refine wpList_nil ?_
         replace e0 := hE.g e0; replace e3 := hE.g e3; replace e4 := hE.g e4; replace e5 := hE.g e5; replace e6 := hE.g e6; replace e7 := hE.g e7; replace e8 := hE.g e8; replace e9 := hE.g e9; replace e12 := hE.g e12; replace e13 := hE.g e13
         replace k := k.env hE
         clear hE
         refine Z01 ?_
         replace O : OwnT _ _ ((tBlk sb 28 #[.slice B2 (((N ++ M)).length) cap2, .int .i64 511]) :: (tRow 125 2 (.slice B2 ((N ++ M)).length cap2) ((N ++ M)).length (leafV vs2 ((N ++ M)))) :: (tPool vs2 ((N ++ M))) :: (tBlk ub 71 (rwA u)) :: (tRow 3 1 (.slice Br n cr) n (ints (hs.map (·.1)))) :: (tRow 71 64 (.slice Bw n cw) n (rowsC (hs.map (·.2.2)))) :: (tBlk wb 71 (rwA u)) :: (tBlk xb 82 #[.int .i64 5, .int .i64 ↑k0, .int .i64 ch]) :: (tEs (.slice Bl (hiP k0 P).length cl) (hiP k0 P)) :: []) w287 := OwnT.pickR (L := [_, _, _, _, _, _, _, _, _]) (R := []) O [0, 1, 2, 4, 5, 6, 7, 8, 3] (by decide)
         refine wp_seq ?_
         refine wp_region_lit ?_
         have hE := Env.refl a294 [108, 15]
         refine sd 108 hE k (Z5v rfl) ?_
         intro a296 hE e108 kp
         apply Z1n 15 hE k rfl (by rfl) (by rfl) rfl
         case h =>
          exact Z3s rfl
         intro a297 hE e15 kp
         replace e108 := kt kp e108
         obtain ⟨gb, hub⟩ : ∃ b, w287.heap.size = b := ⟨_, rfl⟩
         replace O := OwnT.new O 71 (rwA fun _ => 0)
         rw [hub] at O e15
         clear hub
         generalize w287.alloc (.cells (rwA fun _ => 0) 71) = wz295 at O ⊢
         refine Z4y rfl rfl _ _ _ rfl e15 e108 (OwnT.b0 O) (by rw [Z1h]; kernel_rfl) (Z41 _) ?_
         refine wpList_nil ?_
         replace e0 := hE.g e0; replace e3 := hE.g e3; replace e4 := hE.g e4; replace e5 := hE.g e5; replace e6 := hE.g e6; replace e7 := hE.g e7; replace e8 := hE.g e8; replace e9 := hE.g e9; replace e10 := hE.g e10; replace e11 := hE.g e11; replace e12 := hE.g e12; replace e13 := hE.g e13; replace e14 := hE.g e14
         replace k := k.env hE
         clear hE
         refine Z01 ?_
         replace O : OwnT _ _ ((tBlk sb 28 #[.slice B2 (((N ++ M)).length) cap2, .int .i64 511]) :: (tRow 125 2 (.slice B2 ((N ++ M)).length cap2) ((N ++ M)).length (leafV vs2 ((N ++ M)))) :: (tPool vs2 ((N ++ M))) :: (tBlk ub 71 (rwA u)) :: (tRow 3 1 (.slice Br n cr) n (ints (hs.map (·.1)))) :: (tRow 71 64 (.slice Bw n cw) n (rowsC (hs.map (·.2.2)))) :: (tBlk wb 71 (rwA u)) :: (tBlk xb 82 #[.int .i64 5, .int .i64 ↑k0, .int .i64 ch]) :: (tEs (.slice Bl (hiP k0 P).length cl) (hiP k0 P)) :: (tBlk gb 71 (rwA fun _ => 0)) :: []) wz295 := OwnT.pickR (L := [_, _, _, _, _, _, _, _, _, _]) (R := []) O [1, 2, 3, 4, 5, 6, 7, 8, 9, 0] (by decide)
         refine wp_seq ?_
         refine wp_seq ?_
         refine wp_region_lit ?_
         have hE := Env.refl a297 [109, 110, 111, 16]
         apply Z02 109 hE k rfl rfl rfl rfl
         case h =>
          simp [go_sem, ↓IntWalk.iteOmega, ev (hE.g e9)]
          with_reducible rfl
         intro a299 hE e109 kp
         apply Z02 110 hE k rfl rfl rfl rfl
         case h =>
          have q0 : wz295.cell? ⟨xb, 1, none⟩ = some (.int .i64 ↑k0) := (OwnT.blk O 7 rfl).cell 1
          simp [go_sem, ↓IntWalk.iteOmega, ev e109, q0]
          with_reducible rfl
         intro a300 hE e110 kp
         refine sd 111 hE k (Z1a (v := .int .i64 (k0 : Int)) (Z7s rfl e110 rfl) (Z0z hk0)) ?_
         intro a301 hE e111 kp
         refine sd 16 hE k (Z00 rfl e111) ?_
         intro a302 hE e16 kp
         refine wpList_nil ?_
         replace e0 := hE.g e0; replace e3 := hE.g e3; replace e4 := hE.g e4; replace e5 := hE.g e5; replace e6 := hE.g e6; replace e7 := hE.g e7; replace e8 := hE.g e8; replace e10 := hE.g e10; replace e11 := hE.g e11; replace e12 := hE.g e12; replace e13 := hE.g e13; replace e14 := hE.g e14; replace e15 := hE.g e15
         replace k := k.env hE
         clear hE e9
         refine Z01 ?_
         refine wp_block ?_
         have hg0 := Z4t k0 u
         have hw0 := Z4r k0 u
         replace O : OwnT W0.heap.size W0 ((tBlk sb 28 #[.slice B2 (((N ++ M)).length) cap2, .int .i64 511]) :: (tRow 125 2 (.slice B2 ((N ++ M)).length cap2) ((N ++ M)).length (leafV vs2 ((N ++ M)))) :: (tPool vs2 ((N ++ M))) :: (tBlk ub 71 (rwA u)) :: (tRow 3 1 (.slice Br n cr) n (ints (hs.map (·.1)))) :: (tRow 71 64 (.slice Bw n cw) n (rowsC (hs.map (·.2.2)))) :: (tBlk wb 71 (rwA (keepU k0 k0 u))) :: (tBlk xb 82 #[.int .i64 5, .int .i64 ↑k0, .int .i64 ch]) :: (tEs (.slice Bl (hiP k0 P).length cl) (hiP k0 P)) :: (tBlk gb 71 (rwA (goneU k0 k0 u))) :: []) wz295 := by rw [hg0, hw0]; exact O
         clear hg0 hw0
         refine wp_loop (fun a w => Fr 223 a ∧ a.eval (.tmp 0) = .slice (some ⟨b, o, none⟩) n1 cp ∧ a.eval (.tmp 3) = .pointer (some ⟨sb, 0, none⟩) ∧ a.eval (.tmp 4) = .int .i64 ↑rt ∧ a.eval (.tmp 5) = .pointer (some ⟨ub, 0, none⟩) ∧ a.eval (.tmp 6) = .slice Br n cr ∧ a.eval (.tmp 7) = .slice Bw n cw ∧ a.eval (.tmp 8) = .int .i64 ↑i ∧ a.eval (.tmp 10) = .int .i64 ↑r ∧ a.eval (.tmp 11) = .int .i64 0 ∧ a.eval (.tmp 12) = .bool false ∧ a.eval (.tmp 13) = .pointer (some ⟨wb, 0, none⟩) ∧ a.eval (.tmp 14) = .slice Bl ((hiP k0 P).length) cl ∧ a.eval (.tmp 15) = .pointer (some ⟨gb, 0, none⟩) ∧ ∃ (q : Nat), a.eval (.tmp 16) = .int .i64 ↑q ∧ k0 ≤ q ∧ OwnT W0.heap.size W0 ((tBlk sb 28 #[.slice B2 (((N ++ M)).length) cap2, .int .i64 511]) :: (tRow 125 2 (.slice B2 ((N ++ M)).length cap2) ((N ++ M)).length (leafV vs2 ((N ++ M)))) :: (tPool vs2 ((N ++ M))) :: (tBlk ub 71 (rwA u)) :: (tRow 3 1 (.slice Br n cr) n (ints (hs.map (·.1)))) :: (tRow 71 64 (.slice Bw n cw) n (rowsC (hs.map (·.2.2)))) :: (tBlk wb 71 (rwA (keepU k0 q u))) :: (tBlk xb 82 #[.int .i64 5, .int .i64 ↑k0, .int .i64 ch]) :: (tEs (.slice Bl (hiP k0 P).length cl) (hiP k0 P)) :: (tBlk gb 71 (rwA (goneU k0 q u))) :: []) w) (fun a w => 64 - (intOf (a.eval (.tmp 16))).toNat) ?_ ?_
         · exact ⟨k, e0, e3, e4, e5, e6, e7, e8, e10, e11, e12, e13, e14, e15, k0, e16, Nat.le_refl _, O⟩
         intro a303 w304 hI
         clear k e0 e3 e4 e5 e6 e7 e8 e10 e11 e12 e13 e14 e15
         obtain ⟨k, e0, e3, e4, e5, e6, e7, e8, e10, e11, e12, e13, e14, e15, h_⟩ := hI
         clear O e16
         obtain ⟨q, e16, hq, O⟩ := h_
         have mq := e16
         by_cases hltq : q < 64
         · have hltqI : (q : Int) < 64 := by omega
           have hcu : w304.cell? ⟨ub, q, none⟩ = some (.int .i64 (u q : Nat)) := by rw [(OwnT.blk O 3 rfl).cell, Z29 u hltq]
           have hcg : w304.cell? ⟨gb, q, none⟩ = some (.int .i64 (goneU k0 q u q : Nat)) := by rw [(OwnT.blk O 9 rfl).cell, Z29 _ hltq]
           have hzg : w304.frozen? ⟨gb, q, none⟩ = false := (OwnT.blk O 9 rfl).frozen q
           refine wp_seq ?_
           refine wp_seq ?_
           refine wp_region_lit ?_
           have hE := Env.refl a303 [112, 113]
           refine sm 112 hE k e16 ?_
           intro a305 hE e112 kp
           refine sd 113 hE k (Z06 (Z0x rfl e112 rfl) (decide_eq_true (by omega))) ?_
           intro a306 hE e113 kp
           refine wpList_nil ?_
           replace e0 := hE.g e0; replace e3 := hE.g e3; replace e4 := hE.g e4; replace e5 := hE.g e5; replace e6 := hE.g e6; replace e7 := hE.g e7; replace e8 := hE.g e8; replace e10 := hE.g e10; replace e11 := hE.g e11; replace e12 := hE.g e12; replace e13 := hE.g e13; replace e14 := hE.g e14; replace e15 := hE.g e15; replace e16 := hE.g e16
           replace k := k.env hE
           clear hE
           refine Z01 ?_
           refine Z0b e113 rfl ?_
           refine wp_skip ?_
           refine Z01 (wp_seq ?_)
           refine wp_block ?_
           refine wp_seq ?_
           refine wp_region_lit ?_
           have hE := Env.refl a306 [116, 117, 118, 119, 120]
           refine sm 116 hE k e16 ?_
           intro a307 hE e116 kp
           refine sm 117 hE k e16 ?_
           intro a308 hE e117 kp
           replace e116 := kt kp e116
           apply Z02 118 hE k rfl rfl rfl rfl
           case h =>
            simp [go_sem, ↓IntWalk.iteOmega, ev (hE.g e5), ev e117]
            with_reducible rfl
           intro a309 hE e118 kp
           replace e116 := kt kp e116
           apply Z02 119 hE k rfl rfl rfl rfl
           case h =>
            simp [go_sem, ↓IntWalk.iteOmega, ev e118, hcu]
            with_reducible rfl
           intro a310 hE e119 kp
           replace e116 := kt kp e116
           apply Z02 120 hE k rfl rfl rfl rfl
           case h =>
            simp [go_sem, ↓IntWalk.iteOmega, ev (hE.g e15), ev e116]
            with_reducible rfl
           intro a311 hE e120 kp
           replace e119 := kt kp e119
           refine Z0h (w' := (w304.setCell ⟨gb, q, none⟩ (.int .i64 ((u q : Nat) : Int)))) hE rfl rfl ?_ ?_
           · simp [go_sem, ↓IntWalk.iteOmega, ev e119, ev e120, hcg, hzg]
           replace O := OwnT.push (L := [_, _, _, _, _, _, _, _, _, _]) 9 rfl ((OwnT.pull O 9 rfl).set q (.int .i64 ((u q : Nat) : Int)))
           clear hcg hzg hcu
           rw [Z3l _ (u q) hltq, Z4u u hq] at O
           generalize (w304.setCell ⟨gb, q, none⟩ (.int .i64 ((u q : Nat) : Int))) = w312 at O ⊢
           refine wpList_nil ?_
           replace e0 := hE.g e0; replace e3 := hE.g e3; replace e4 := hE.g e4; replace e5 := hE.g e5; replace e6 := hE.g e6; replace e7 := hE.g e7; replace e8 := hE.g e8; replace e10 := hE.g e10; replace e11 := hE.g e11; replace e12 := hE.g e12; replace e13 := hE.g e13; replace e14 := hE.g e14; replace e15 := hE.g e15; replace e16 := hE.g e16
           replace k := k.env hE
           clear hE e113 e119 e120
           refine Z01 ?_
           have hcw : w312.cell? ⟨wb, q, none⟩ = some (.int .i64 (keepU k0 q u q : Nat)) := by rw [(OwnT.blk O 6 rfl).cell, Z29 _ hltq]
           have hzw : w312.frozen? ⟨wb, q, none⟩ = false := (OwnT.blk O 6 rfl).frozen q
           refine wp_region_lit ?_
           have hE := Env.refl a311 [121, 122]
           refine sm 121 hE k e16 ?_
           intro a313 hE e121 kp
           apply Z02 122 hE k rfl rfl rfl rfl
           case h =>
            simp [go_sem, ↓IntWalk.iteOmega, ev (hE.g e13), ev e121]
            with_reducible rfl
           intro a314 hE e122 kp
           refine Z0h (w' := (w312.setCell ⟨wb, q, none⟩ (.int .i64 ((0 : Nat) : Int)))) hE rfl rfl ?_ ?_
           · simp [go_sem, ↓IntWalk.iteOmega, ev e122, hcw, hzw]
           replace O := OwnT.push (L := [_, _, _, _, _, _, _, _, _, _]) 6 rfl ((OwnT.pull O 6 rfl).set q (.int .i64 ((0 : Nat) : Int)))
           clear hcw hzw
           rw [Z3l _ 0 hltq, Z4s u hq] at O
           generalize (w312.setCell ⟨wb, q, none⟩ (.int .i64 ((0 : Nat) : Int))) = w315 at O ⊢
           refine wpList_nil ?_
           replace e0 := hE.g e0; replace e3 := hE.g e3; replace e4 := hE.g e4; replace e5 := hE.g e5; replace e6 := hE.g e6; replace e7 := hE.g e7; replace e8 := hE.g e8; replace e10 := hE.g e10; replace e11 := hE.g e11; replace e12 := hE.g e12; replace e13 := hE.g e13; replace e14 := hE.g e14; replace e15 := hE.g e15; replace e16 := hE.g e16
           replace k := k.env hE
           clear hE e122
           refine Z0i ?_
           refine Z01 ?_
           refine wp_region_lit ?_
           have hE := Env.refl a314 [114, 115, 16]
           refine sd 114 hE k (Z03 rfl e16) ?_
           intro a316 hE e114 kp
           replace e16 := kt kp e16
           refine sd 115 hE k (Z12 rfl e114 rfl (by omega)) ?_
           intro a317 hE e115 kp
           replace e16 := kt kp e16
           refine sd 16 hE k (Z00 rfl e115) ?_
           intro a318 hE e16 kp
           refine wpList_nil ?_
           replace e0 := hE.g e0; replace e3 := hE.g e3; replace e4 := hE.g e4; replace e5 := hE.g e5; replace e6 := hE.g e6; replace e7 := hE.g e7; replace e8 := hE.g e8; replace e10 := hE.g e10; replace e11 := hE.g e11; replace e12 := hE.g e12; replace e13 := hE.g e13; replace e14 := hE.g e14; replace e15 := hE.g e15
           replace k := k.env hE
           clear hE
           refine Z01 ?_
           refine ⟨⟨k, e0, e3, e4, e5, e6, e7, e8, e10, e11, e12, e13, e14, e15, q + 1, e16, by omega, O⟩, ?_⟩
           rw [e16, mq]; simp only [intOf]; omega
         · clear mq
           have hq64 : 64 ≤ q := by omega
           have hlo := lohi_len k0 P
           have hPl := hT.len
           refine wp_seq ?_
           refine wp_seq ?_
           refine wp_region_lit ?_
           have hE := Env.refl a303 [112, 113]
           refine sm 112 hE k e16 ?_
           intro a319 hE e112 kp
           refine sd 113 hE k (Z06 (Z0x rfl e112 rfl) (decide_eq_false (by omega))) ?_
           intro a320 hE e113 kp
           refine wpList_nil ?_
           replace e0 := hE.g e0; replace e3 := hE.g e3; replace e4 := hE.g e4; replace e5 := hE.g e5; replace e6 := hE.g e6; replace e7 := hE.g e7; replace e8 := hE.g e8; replace e10 := hE.g e10; replace e11 := hE.g e11; replace e12 := hE.g e12; replace e13 := hE.g e13; replace e14 := hE.g e14; replace e15 := hE.g e15; replace e16 := hE.g e16
           replace k := k.env hE
           clear hE
           refine Z01 ?_
           refine Z05 e113 rfl ?_
           refine wp_exit ?_
           refine Z0o ?_
           refine Z0o ?_
           refine Z15 ?_
           refine Z01 (wp_seq ?_)
           refine wp_region_lit ?_
           have hE := Env.refl a320 [123, 124, 125, 126, 127, 128, 129, 130, 131, 132, 133, 134, 135, 136, 137, 138, 139]
           refine sm 123 hE k e11 ?_
           intro a321 hE e123 kp
           refine sd 124 hE k (Z0k rfl e123 rfl) ?_
           intro a322 hE e124 kp
           refine sd 125 hE k (Z03 rfl e124) ?_
           intro a323 hE e125 kp
           apply Z04 126 hE k rfl rfl rfl rfl rfl e125
           case h =>
            exact Z03 rfl (hE.g e14)
           intro a324 hE e126 kp
           replace e125 := kt kp e125
           apply Z04 127 hE k rfl rfl rfl rfl rfl e125
           case h =>
            exact Z4v rfl (hE.g e15) (OwnT.blk O 9 rfl)
           intro a325 hE e127 kp
           replace e125 := kt kp e125; replace e126 := kt kp e126
           apply Z18 128 hE k rfl (by rfl) (by rfl) rfl rfl e125
           case h =>
            simp [go_sem, ↓IntWalk.iteOmega, ev e126, ev e127]
            with_reducible exact ⟨rfl, rfl⟩
           case hc => exact msame (hiP k0 P) (goneU k0 q u) _ rfl (Z4d (OwnT.get O 8 rfl)) (hiP_up hT.up) (Z4b hP) (rw_hi hU hq64) (by omega)
           rintro e w327 ⟨rfl, RE⟩
           replace O := OwnT.ext O RE
           refine ⟨_, rfl, ?_⟩
           intro a326 hE e128 kp
           replace e125 := kt kp e125
           apply Z04 129 hE k rfl rfl rfl rfl rfl e125
           case h =>
            exact Z0u rfl e128
           intro a328 hE e129 kp
           replace e125 := kt kp e125
           refine sd 130 hE k (Z0a rfl e125 e129) ?_
           intro a329 hE e130 kp
           refine sd 131 hE k (Z03 rfl e130) ?_
           intro a330 hE e131 kp
           apply Z04 132 hE k rfl rfl rfl rfl rfl e131
           case h =>
            exact Z03 rfl (hE.g e11)
           intro a331 hE e132 kp
           replace e131 := kt kp e131
           apply Z04 133 hE k rfl rfl rfl rfl rfl e131
           case h =>
            exact Z0v rfl e132 rfl
           intro a332 hE e133 kp
           replace e131 := kt kp e131
           apply Z04 134 hE k rfl rfl rfl rfl rfl e131
           case h =>
            exact Z03 rfl e133
           intro a333 hE e134 kp
           replace e131 := kt kp e131
           refine Z09 135 hE k rfl (by rfl) (by rfl) rfl rfl (.inl e134) ?_
           intro a334 hE e135 kp
           replace e131 := kt kp e131; replace e134 := kt kp e134
           refine Z09 136 hE k rfl (by rfl) (by rfl) rfl rfl (.inl e134) ?_
           intro a335 hE e136 kp
           replace e131 := kt kp e131; replace e134 := kt kp e134
           refine Z09 137 hE k rfl (by rfl) (by rfl) rfl rfl (.inl e134) ?_
           intro a336 hE e137 kp
           replace e131 := kt kp e131; replace e134 := kt kp e134
           apply Z04 138 hE k rfl rfl rfl rfl rfl e131
           case h =>
            exact Z07 rfl e134 rfl
           intro a337 hE e138 kp
           replace e131 := kt kp e131
           refine sd 139 hE k (Z07 rfl e131 e138) ?_
           intro a338 hE e139 kp
           refine wpList_nil ?_
           replace e0 := hE.g e0; replace e3 := hE.g e3; replace e4 := hE.g e4; replace e5 := hE.g e5; replace e6 := hE.g e6; replace e7 := hE.g e7; replace e8 := hE.g e8; replace e10 := hE.g e10; replace e11 := hE.g e11; replace e12 := hE.g e12; replace e13 := hE.g e13
           replace k := k.env hE
           clear hE e14 e15 e16 e113
           refine Z01 ?_
           refine Z05 e139 rfl ?_
           refine wp_skip ?_
           refine Z0i ?_
           refine Z01 ?_
           exact ⟨k, e0, e3, e4, e5, e6, e7, e8, e13, _, 0, false, loP k0 P, keepU k0 q u, N ++ M, B2, cap2, vs2, e10, e11, e12, ⟨M, rfl⟩, .inr ⟨rfl, rfl, by rw [List.length_append]; omega, Z4b hP, rw_lo hU hq64, r, rfl, hT2.le (by omega)⟩, (OwnT.pickR (L := [_, _, _, _, _, _, _, _, _, _]) (R := []) O [0, 1, 2, 3, 4, 5, 6] (by decide))⟩
     · skip
       obtain ⟨cl, hcl⟩ : ∃ c, decide (1 ≤ ch ∧ ch ≤ 1023) = c := ⟨_, rfl⟩
       cases pl with
       | false =>
        simp only [Bool.not_false] at e12
        have hbad : ¬ ((0 ≤ at_ ∧ at_ < 64) ∧ (1 ≤ ch ∧ ch ≤ 1023)) := fun h => of_decide_eq_false hpl h.1
        refine wp_seq ?_
        refine wp_region_lit ?_
        have hE := Env.refl a156 [49, 50]
        apply Z02 49 hE k rfl rfl rfl rfl
        case h =>
         simp [go_sem, ↓IntWalk.iteOmega, ev (hE.g e9)]
         with_reducible rfl
        intro a339 hE e49 kp
        apply Z02 50 hE k rfl rfl rfl rfl
        case h =>
         have q0 : wy.cell? ⟨xb, 0, none⟩ = some (.int .i64 kd) := (OwnT.blk O 7 rfl).cell 0
         simp [go_sem, ↓IntWalk.iteOmega, ev e49, q0]
         with_reducible rfl
        intro a340 hE e50 kp
        refine wpList_nil ?_
        replace e0 := hE.g e0; replace e3 := hE.g e3; replace e4 := hE.g e4; replace e5 := hE.g e5; replace e6 := hE.g e6; replace e7 := hE.g e7; replace e8 := hE.g e8; replace e9 := hE.g e9; replace e12 := hE.g e12; replace e13 := hE.g e13
        replace k := k.env hE
        clear hE
        refine Z01 ?_
        refine wp_block ?_
        refine wp_seq ?_
        refine wp_region_lit ?_
        have hE := Env.refl a340 [77, 76]
        refine sd 77 hE k (Z06 (Z0k rfl (hE.g e50) rfl) (decide_eq_false hk4)) ?_
        intro a341 hE e77 kp
        refine sd 76 hE k (Z00 rfl e77) ?_
        intro a342 hE e76 kp
        refine wpList_nil ?_
        replace e0 := hE.g e0; replace e3 := hE.g e3; replace e4 := hE.g e4; replace e5 := hE.g e5; replace e6 := hE.g e6; replace e7 := hE.g e7; replace e8 := hE.g e8; replace e9 := hE.g e9; replace e12 := hE.g e12; replace e13 := hE.g e13; replace e50 := hE.g e50
        replace k := k.env hE
        clear hE
        refine Z01 ?_
        refine Z05 e76 rfl ?_
        refine wp_seq ?_
        refine wp_region_lit ?_
        have hE := Env.refl a342 [93, 92]
        refine sd 93 hE k (Z06 (Z0k rfl (hE.g e50) rfl) (decide_eq_false hk5)) ?_
        intro a343 hE e93 kp
        refine sd 92 hE k (Z00 rfl e93) ?_
        intro a344 hE e92 kp
        refine wpList_nil ?_
        replace e0 := hE.g e0; replace e3 := hE.g e3; replace e4 := hE.g e4; replace e5 := hE.g e5; replace e6 := hE.g e6; replace e7 := hE.g e7; replace e8 := hE.g e8; replace e9 := hE.g e9; replace e12 := hE.g e12; replace e13 := hE.g e13
        replace k := k.env hE
        clear hE e50 e76
        refine Z01 ?_
        refine Z05 e92 rfl ?_
        refine wp_seq ?_
        refine wp_region_lit ?_
        have hE := Env.refl a344 [51, 52, 53, 54, 55, 56, 57, 12]
        refine sd 51 hE k (Z03 rfl e12) ?_
        intro a345 hE e51 kp
        replace e12 := kt kp e12
        refine sd 52 hE k (Z03 rfl e51) ?_
        intro a346 hE e52 kp
        replace e12 := kt kp e12
        refine Z09 53 hE k rfl (by rfl) (by rfl) rfl rfl (.inl e52) ?_
        intro a347 hE e53 kp
        replace e12 := kt kp e12; replace e52 := kt kp e52
        refine Z09 54 hE k rfl (by rfl) (by rfl) rfl rfl (.inl e52) ?_
        intro a348 hE e54 kp
        replace e12 := kt kp e12; replace e52 := kt kp e52
        refine Z09 55 hE k rfl (by rfl) (by rfl) rfl rfl (.inl e52) ?_
        intro a349 hE e55 kp
        replace e12 := kt kp e12; replace e52 := kt kp e52
        refine Z09 56 hE k rfl (by rfl) (by rfl) rfl rfl (.inl e52) ?_
        intro a350 hE e56 kp
        replace e12 := kt kp e12; replace e52 := kt kp e52
        refine sd 57 hE k (Z0a rfl e52 rfl) ?_
        intro a351 hE e57 kp
        replace e12 := kt kp e12
        refine sd 12 hE k (Z00 rfl e57) ?_
        intro a352 hE e12 kp
        refine wpList_nil ?_
        replace e0 := hE.g e0; replace e3 := hE.g e3; replace e4 := hE.g e4; replace e5 := hE.g e5; replace e6 := hE.g e6; replace e7 := hE.g e7; replace e8 := hE.g e8; replace e9 := hE.g e9; replace e13 := hE.g e13
        replace k := k.env hE
        clear hE e92
        refine Z01 (wp_seq ?_)
        refine wp_region_lit ?_
        have hE := Env.refl a352 [59, 60, 61, 62, 63, 64, 65, 66, 58, 67, 68, 10, 11]
        refine sm 59 hE k e3 ?_
        intro a353 hE e59 kp
        apply Z02 60 hE k rfl rfl rfl rfl
        case h =>
         simp [go_sem, ↓IntWalk.iteOmega, ev e59]
         with_reducible rfl
        intro a354 hE e60 kp
        refine sm 61 hE k e4 ?_
        intro a355 hE e61 kp
        replace e60 := kt kp e60
        apply Z02 62 hE k rfl rfl rfl rfl
        case h =>
         simp [go_sem, ↓IntWalk.iteOmega, ev (hE.g e9)]
         with_reducible rfl
        intro a356 hE e62 kp
        replace e60 := kt kp e60; replace e61 := kt kp e61
        apply Z02 63 hE k rfl rfl rfl rfl
        case h =>
         have q0 : wy.cell? ⟨xb, 1, none⟩ = some (.int .i64 at_) := (OwnT.blk O 7 rfl).cell 1
         simp [go_sem, ↓IntWalk.iteOmega, ev e62, q0]
         with_reducible rfl
        intro a357 hE e63 kp
        replace e60 := kt kp e60; replace e61 := kt kp e61
        apply Z02 64 hE k rfl rfl rfl rfl
        case h =>
         simp [go_sem, ↓IntWalk.iteOmega, ev (hE.g e9)]
         with_reducible rfl
        intro a358 hE e64 kp
        replace e60 := kt kp e60; replace e61 := kt kp e61; replace e63 := kt kp e63
        apply Z02 65 hE k rfl rfl rfl rfl
        case h =>
         have q0 : wy.cell? ⟨xb, 2, none⟩ = some (.int .i64 ch) := (OwnT.blk O 7 rfl).cell 2
         simp [go_sem, ↓IntWalk.iteOmega, ev e64, q0]
         with_reducible rfl
        intro a359 hE e65 kp
        replace e60 := kt kp e60; replace e61 := kt kp e61; replace e63 := kt kp e63
        apply Z08 66 hE k rfl (by rfl) (by rfl) rfl
        case h =>
         simp [go_sem, ↓IntWalk.iteOmega, ev e60, ev e61, ev e63, ev e65]
         with_reducible exact ⟨rfl, rfl⟩
        case hc => exact Z57 at_ ch _ hbad
        rintro e w361 ⟨rfl, RE⟩
        replace O := OwnT.ext O RE
        refine ⟨_, rfl, ?_⟩
        intro a360 hE e66 kp
        refine sd 58 hE k (Z03 rfl e66) ?_
        intro a362 hE e58 kp
        apply Z02 67 hE k rfl rfl rfl rfl
        case h =>
         simp [go_sem, ↓IntWalk.iteOmega, ev e58]
         with_reducible rfl
        intro a363 hE e67 kp
        replace e58 := kt kp e58
        apply Z02 68 hE k rfl rfl rfl rfl
        case h =>
         simp [go_sem, ↓IntWalk.iteOmega, ev e58]
         with_reducible rfl
        intro a364 hE e68 kp
        replace e67 := kt kp e67
        refine sd 10 hE k (Z00 rfl e67) ?_
        intro a365 hE e10 kp
        replace e68 := kt kp e68
        refine sd 11 hE k (Z00 rfl e68) ?_
        intro a366 hE e11 kp
        replace e10 := kt kp e10
        refine wpList_nil ?_
        replace e0 := hE.g e0; replace e3 := hE.g e3; replace e4 := hE.g e4; replace e5 := hE.g e5; replace e6 := hE.g e6; replace e7 := hE.g e7; replace e8 := hE.g e8; replace e9 := hE.g e9; replace e12 := hE.g e12; replace e13 := hE.g e13
        replace k := k.env hE
        clear hE
        refine Z01 (wp_seq ?_)
        refine wp_region_lit ?_
        have hE := Env.refl a366 [69, 70]
        refine sm 69 hE k e12 ?_
        intro a367 hE e69 kp
        refine sd 70 hE k (Z0u rfl e69) ?_
        intro a368 hE e70 kp
        refine wpList_nil ?_
        replace e0 := hE.g e0; replace e3 := hE.g e3; replace e4 := hE.g e4; replace e5 := hE.g e5; replace e6 := hE.g e6; replace e7 := hE.g e7; replace e8 := hE.g e8; replace e9 := hE.g e9; replace e10 := hE.g e10; replace e11 := hE.g e11; replace e12 := hE.g e12; replace e13 := hE.g e13
        replace k := k.env hE
        clear hE
        refine Z01 ?_
        refine Z05 e70 rfl ?_
        refine wp_skip ?_
        refine Z0i ?_
        refine Z01 ?_
        exact ⟨k, e0, e3, e4, e5, e6, e7, e8, e13, 0, 1, true, P, u, N, B, cap, vs, e10, e11, e12, ⟨[], by simp⟩, .inl ⟨rfl, rfl, rfl, rfl⟩, (OwnT.pickR (L := [_, _, _, _, _, _, _, _]) (R := []) O [0, 1, 2, 3, 4, 5, 6] (by decide))⟩
       | true =>
        simp only [Bool.not_true] at e12
        cases cl with
        | false =>
         have hbad : ¬ ((0 ≤ at_ ∧ at_ < 64) ∧ (1 ≤ ch ∧ ch ≤ 1023)) := fun h => of_decide_eq_false hcl h.2
         refine wp_seq ?_
         refine wp_region_lit ?_
         have hE := Env.refl a156 [49, 50]
         apply Z02 49 hE k rfl rfl rfl rfl
         case h =>
          simp [go_sem, ↓IntWalk.iteOmega, ev (hE.g e9)]
          with_reducible rfl
         intro a369 hE e49 kp
         apply Z02 50 hE k rfl rfl rfl rfl
         case h =>
          have q0 : wy.cell? ⟨xb, 0, none⟩ = some (.int .i64 kd) := (OwnT.blk O 7 rfl).cell 0
          simp [go_sem, ↓IntWalk.iteOmega, ev e49, q0]
          with_reducible rfl
         intro a370 hE e50 kp
         refine wpList_nil ?_
         replace e0 := hE.g e0; replace e3 := hE.g e3; replace e4 := hE.g e4; replace e5 := hE.g e5; replace e6 := hE.g e6; replace e7 := hE.g e7; replace e8 := hE.g e8; replace e9 := hE.g e9; replace e12 := hE.g e12; replace e13 := hE.g e13
         replace k := k.env hE
         clear hE
         refine Z01 ?_
         refine wp_block ?_
         refine wp_seq ?_
         refine wp_region_lit ?_
         have hE := Env.refl a370 [77, 76]
         refine sd 77 hE k (Z06 (Z0k rfl (hE.g e50) rfl) (decide_eq_false hk4)) ?_
         intro a371 hE e77 kp
         refine sd 76 hE k (Z00 rfl e77) ?_
         intro a372 hE e76 kp
         refine wpList_nil ?_
         replace e0 := hE.g e0; replace e3 := hE.g e3; replace e4 := hE.g e4; replace e5 := hE.g e5; replace e6 := hE.g e6; replace e7 := hE.g e7; replace e8 := hE.g e8; replace e9 := hE.g e9; replace e12 := hE.g e12; replace e13 := hE.g e13; replace e50 := hE.g e50
         replace k := k.env hE
         clear hE
         refine Z01 ?_
         refine Z05 e76 rfl ?_
         refine wp_seq ?_
         refine wp_region_lit ?_
         have hE := Env.refl a372 [93, 92]
         refine sd 93 hE k (Z06 (Z0k rfl (hE.g e50) rfl) (decide_eq_false hk5)) ?_
         intro a373 hE e93 kp
         refine sd 92 hE k (Z00 rfl e93) ?_
         intro a374 hE e92 kp
         refine wpList_nil ?_
         replace e0 := hE.g e0; replace e3 := hE.g e3; replace e4 := hE.g e4; replace e5 := hE.g e5; replace e6 := hE.g e6; replace e7 := hE.g e7; replace e8 := hE.g e8; replace e9 := hE.g e9; replace e12 := hE.g e12; replace e13 := hE.g e13
         replace k := k.env hE
         clear hE e50 e76
         refine Z01 ?_
         refine Z05 e92 rfl ?_
         refine wp_seq ?_
         refine wp_region_lit ?_
         have hE := Env.refl a374 [51, 52, 53, 54, 55, 56, 57, 12]
         refine sd 51 hE k (Z03 rfl e12) ?_
         intro a375 hE e51 kp
         replace e12 := kt kp e12
         refine sd 52 hE k (Z03 rfl e51) ?_
         intro a376 hE e52 kp
         replace e12 := kt kp e12
         apply Z04 53 hE k rfl rfl rfl rfl rfl e52
         case h =>
          simp [go_sem, ↓IntWalk.iteOmega, ev (hE.g e9)]
          with_reducible rfl
         intro a377 hE e53 kp
         replace e12 := kt kp e12; replace e52 := kt kp e52
         apply Z04 54 hE k rfl rfl rfl rfl rfl e52
         case h =>
          have q0 : wy.cell? ⟨xb, 2, none⟩ = some (.int .i64 ch) := (OwnT.blk O 7 rfl).cell 2
          simp [go_sem, ↓IntWalk.iteOmega, ev e53, q0]
          with_reducible rfl
         intro a378 hE e54 kp
         replace e12 := kt kp e12; replace e52 := kt kp e52
         apply Z18 55 hE k rfl (by rfl) (by rfl) rfl rfl e52
         case h =>
          simp [go_sem, ↓IntWalk.iteOmega, ev e54]
          with_reducible exact ⟨rfl, rfl⟩
         case hc => exact Z5j hcl _
         rintro e w380 ⟨rfl, RE⟩
         replace O := OwnT.ext O RE
         refine ⟨_, rfl, ?_⟩
         intro a379 hE e55 kp
         replace e12 := kt kp e12; replace e52 := kt kp e52
         apply Z04 56 hE k rfl rfl rfl rfl rfl e52
         case h =>
          exact Z0u rfl e55
         intro a381 hE e56 kp
         replace e12 := kt kp e12; replace e52 := kt kp e52
         refine sd 57 hE k (Z07 rfl e52 e56) ?_
         intro a382 hE e57 kp
         replace e12 := kt kp e12
         refine sd 12 hE k (Z00 rfl e57) ?_
         intro a383 hE e12 kp
         refine wpList_nil ?_
         replace e0 := hE.g e0; replace e3 := hE.g e3; replace e4 := hE.g e4; replace e5 := hE.g e5; replace e6 := hE.g e6; replace e7 := hE.g e7; replace e8 := hE.g e8; replace e9 := hE.g e9; replace e13 := hE.g e13
         replace k := k.env hE
         clear hE e92
         refine Z01 (wp_seq ?_)
         refine wp_region_lit ?_
         have hE := Env.refl a383 [59, 60, 61, 62, 63, 64, 65, 66, 58, 67, 68, 10, 11]
         refine sm 59 hE k e3 ?_
         intro a384 hE e59 kp
         apply Z02 60 hE k rfl rfl rfl rfl
         case h =>
          simp [go_sem, ↓IntWalk.iteOmega, ev e59]
          with_reducible rfl
         intro a385 hE e60 kp
         refine sm 61 hE k e4 ?_
         intro a386 hE e61 kp
         replace e60 := kt kp e60
         apply Z02 62 hE k rfl rfl rfl rfl
         case h =>
          simp [go_sem, ↓IntWalk.iteOmega, ev (hE.g e9)]
          with_reducible rfl
         intro a387 hE e62 kp
         replace e60 := kt kp e60; replace e61 := kt kp e61
         apply Z02 63 hE k rfl rfl rfl rfl
         case h =>
          have q0 : w380.cell? ⟨xb, 1, none⟩ = some (.int .i64 at_) := (OwnT.blk O 7 rfl).cell 1
          simp [go_sem, ↓IntWalk.iteOmega, ev e62, q0]
          with_reducible rfl
         intro a388 hE e63 kp
         replace e60 := kt kp e60; replace e61 := kt kp e61
         apply Z02 64 hE k rfl rfl rfl rfl
         case h =>
          simp [go_sem, ↓IntWalk.iteOmega, ev (hE.g e9)]
          with_reducible rfl
         intro a389 hE e64 kp
         replace e60 := kt kp e60; replace e61 := kt kp e61; replace e63 := kt kp e63
         apply Z02 65 hE k rfl rfl rfl rfl
         case h =>
          have q0 : w380.cell? ⟨xb, 2, none⟩ = some (.int .i64 ch) := (OwnT.blk O 7 rfl).cell 2
          simp [go_sem, ↓IntWalk.iteOmega, ev e64, q0]
          with_reducible rfl
         intro a390 hE e65 kp
         replace e60 := kt kp e60; replace e61 := kt kp e61; replace e63 := kt kp e63
         apply Z08 66 hE k rfl (by rfl) (by rfl) rfl
         case h =>
          simp [go_sem, ↓IntWalk.iteOmega, ev e60, ev e61, ev e63, ev e65]
          with_reducible exact ⟨rfl, rfl⟩
         case hc => exact Z57 at_ ch _ hbad
         rintro e w392 ⟨rfl, RE⟩
         replace O := OwnT.ext O RE
         refine ⟨_, rfl, ?_⟩
         intro a391 hE e66 kp
         refine sd 58 hE k (Z03 rfl e66) ?_
         intro a393 hE e58 kp
         apply Z02 67 hE k rfl rfl rfl rfl
         case h =>
          simp [go_sem, ↓IntWalk.iteOmega, ev e58]
          with_reducible rfl
         intro a394 hE e67 kp
         replace e58 := kt kp e58
         apply Z02 68 hE k rfl rfl rfl rfl
         case h =>
          simp [go_sem, ↓IntWalk.iteOmega, ev e58]
          with_reducible rfl
         intro a395 hE e68 kp
         replace e67 := kt kp e67
         refine sd 10 hE k (Z00 rfl e67) ?_
         intro a396 hE e10 kp
         replace e68 := kt kp e68
         refine sd 11 hE k (Z00 rfl e68) ?_
         intro a397 hE e11 kp
         replace e10 := kt kp e10
         refine wpList_nil ?_
         replace e0 := hE.g e0; replace e3 := hE.g e3; replace e4 := hE.g e4; replace e5 := hE.g e5; replace e6 := hE.g e6; replace e7 := hE.g e7; replace e8 := hE.g e8; replace e9 := hE.g e9; replace e12 := hE.g e12; replace e13 := hE.g e13
         replace k := k.env hE
         clear hE
         refine Z01 (wp_seq ?_)
         refine wp_region_lit ?_
         have hE := Env.refl a397 [69, 70]
         refine sm 69 hE k e12 ?_
         intro a398 hE e69 kp
         refine sd 70 hE k (Z0u rfl e69) ?_
         intro a399 hE e70 kp
         refine wpList_nil ?_
         replace e0 := hE.g e0; replace e3 := hE.g e3; replace e4 := hE.g e4; replace e5 := hE.g e5; replace e6 := hE.g e6; replace e7 := hE.g e7; replace e8 := hE.g e8; replace e9 := hE.g e9; replace e10 := hE.g e10; replace e11 := hE.g e11; replace e12 := hE.g e12; replace e13 := hE.g e13
         replace k := k.env hE
         clear hE
         refine Z01 ?_
         refine Z05 e70 rfl ?_
         refine wp_skip ?_
         refine Z0i ?_
         refine Z01 ?_
         exact ⟨k, e0, e3, e4, e5, e6, e7, e8, e13, 0, 1, true, P, u, N, B, cap, vs, e10, e11, e12, ⟨[], by simp⟩, .inl ⟨rfl, rfl, rfl, rfl⟩, (OwnT.pickR (L := [_, _, _, _, _, _, _, _]) (R := []) O [0, 1, 2, 3, 4, 5, 6] (by decide))⟩
        | true =>
         have hgood : 0 ≤ at_ ∧ at_ < 64 := of_decide_eq_true hpl
         have hgoc : 1 ≤ ch ∧ ch ≤ 1023 := of_decide_eq_true hcl
         obtain ⟨ky, rfl⟩ : ∃ k : Nat, at_ = k := ⟨at_.toNat, by omega⟩
         obtain ⟨cv, rfl⟩ : ∃ k : Nat, ch = k := ⟨ch.toNat, by omega⟩
         have hk : ky < 64 := by omega
         have hkI : (ky : Int) < 64 := by omega
         refine wp_seq ?_
         refine wp_region_lit ?_
         have hE := Env.refl a156 [49, 50]
         apply Z02 49 hE k rfl rfl rfl rfl
         case h =>
          simp [go_sem, ↓IntWalk.iteOmega, ev (hE.g e9)]
          with_reducible rfl
         intro a400 hE e49 kp
         apply Z02 50 hE k rfl rfl rfl rfl
         case h =>
          have q0 : wy.cell? ⟨xb, 0, none⟩ = some (.int .i64 kd) := (OwnT.blk O 7 rfl).cell 0
          simp [go_sem, ↓IntWalk.iteOmega, ev e49, q0]
          with_reducible rfl
         intro a401 hE e50 kp
         refine wpList_nil ?_
         replace e0 := hE.g e0; replace e3 := hE.g e3; replace e4 := hE.g e4; replace e5 := hE.g e5; replace e6 := hE.g e6; replace e7 := hE.g e7; replace e8 := hE.g e8; replace e9 := hE.g e9; replace e12 := hE.g e12; replace e13 := hE.g e13
         replace k := k.env hE
         clear hE
         refine Z01 ?_
         refine wp_block ?_
         refine wp_seq ?_
         refine wp_region_lit ?_
         have hE := Env.refl a401 [77, 76]
         refine sd 77 hE k (Z06 (Z0k rfl (hE.g e50) rfl) (decide_eq_false hk4)) ?_
         intro a402 hE e77 kp
         refine sd 76 hE k (Z00 rfl e77) ?_
         intro a403 hE e76 kp
         refine wpList_nil ?_
         replace e0 := hE.g e0; replace e3 := hE.g e3; replace e4 := hE.g e4; replace e5 := hE.g e5; replace e6 := hE.g e6; replace e7 := hE.g e7; replace e8 := hE.g e8; replace e9 := hE.g e9; replace e12 := hE.g e12; replace e13 := hE.g e13; replace e50 := hE.g e50
         replace k := k.env hE
         clear hE
         refine Z01 ?_
         refine Z05 e76 rfl ?_
         refine wp_seq ?_
         refine wp_region_lit ?_
         have hE := Env.refl a403 [93, 92]
         refine sd 93 hE k (Z06 (Z0k rfl (hE.g e50) rfl) (decide_eq_false hk5)) ?_
         intro a404 hE e93 kp
         refine sd 92 hE k (Z00 rfl e93) ?_
         intro a405 hE e92 kp
         refine wpList_nil ?_
         replace e0 := hE.g e0; replace e3 := hE.g e3; replace e4 := hE.g e4; replace e5 := hE.g e5; replace e6 := hE.g e6; replace e7 := hE.g e7; replace e8 := hE.g e8; replace e9 := hE.g e9; replace e12 := hE.g e12; replace e13 := hE.g e13
         replace k := k.env hE
         clear hE e50 e76
         refine Z01 ?_
         refine Z05 e92 rfl ?_
         refine wp_seq ?_
         refine wp_region_lit ?_
         have hE := Env.refl a405 [51, 52, 53, 54, 55, 56, 57, 12]
         refine sd 51 hE k (Z03 rfl e12) ?_
         intro a406 hE e51 kp
         replace e12 := kt kp e12
         refine sd 52 hE k (Z03 rfl e51) ?_
         intro a407 hE e52 kp
         replace e12 := kt kp e12
         apply Z04 53 hE k rfl rfl rfl rfl rfl e52
         case h =>
          simp [go_sem, ↓IntWalk.iteOmega, ev (hE.g e9)]
          with_reducible rfl
         intro a408 hE e53 kp
         replace e12 := kt kp e12; replace e52 := kt kp e52
         apply Z04 54 hE k rfl rfl rfl rfl rfl e52
         case h =>
          have q0 : wy.cell? ⟨xb, 2, none⟩ = some (.int .i64 ↑cv) := (OwnT.blk O 7 rfl).cell 2
          simp [go_sem, ↓IntWalk.iteOmega, ev e53, q0]
          with_reducible rfl
         intro a409 hE e54 kp
         replace e12 := kt kp e12; replace e52 := kt kp e52
         apply Z18 55 hE k rfl (by rfl) (by rfl) rfl rfl e52
         case h =>
          simp [go_sem, ↓IntWalk.iteOmega, ev e54]
          with_reducible exact ⟨rfl, rfl⟩
         case hc => exact Z5j hcl _
         rintro e w411 ⟨rfl, RE⟩
         replace O := OwnT.ext O RE
         refine ⟨_, rfl, ?_⟩
         intro a410 hE e55 kp
         replace e12 := kt kp e12; replace e52 := kt kp e52
         apply Z04 56 hE k rfl rfl rfl rfl rfl e52
         case h =>
          exact Z0u rfl e55
         intro a412 hE e56 kp
         replace e12 := kt kp e12; replace e52 := kt kp e52
         refine sd 57 hE k (Z07 rfl e52 e56) ?_
         intro a413 hE e57 kp
         replace e12 := kt kp e12
         refine sd 12 hE k (Z00 rfl e57) ?_
         intro a414 hE e12 kp
         refine wpList_nil ?_
         replace e0 := hE.g e0; replace e3 := hE.g e3; replace e4 := hE.g e4; replace e5 := hE.g e5; replace e6 := hE.g e6; replace e7 := hE.g e7; replace e8 := hE.g e8; replace e9 := hE.g e9; replace e13 := hE.g e13
         replace k := k.env hE
         clear hE e92
         refine Z01 (wp_seq ?_)
         refine wp_region_lit ?_
         have hE := Env.refl a414 [59, 60, 61, 62, 63, 64, 65, 66, 58, 67, 68, 10, 11]
         refine sm 59 hE k e3 ?_
         intro a415 hE e59 kp
         apply Z02 60 hE k rfl rfl rfl rfl
         case h =>
          simp [go_sem, ↓IntWalk.iteOmega, ev e59]
          with_reducible rfl
         intro a416 hE e60 kp
         refine sm 61 hE k e4 ?_
         intro a417 hE e61 kp
         replace e60 := kt kp e60
         apply Z02 62 hE k rfl rfl rfl rfl
         case h =>
          simp [go_sem, ↓IntWalk.iteOmega, ev (hE.g e9)]
          with_reducible rfl
         intro a418 hE e62 kp
         replace e60 := kt kp e60; replace e61 := kt kp e61
         apply Z02 63 hE k rfl rfl rfl rfl
         case h =>
          have q0 : w411.cell? ⟨xb, 1, none⟩ = some (.int .i64 ↑ky) := (OwnT.blk O 7 rfl).cell 1
          simp [go_sem, ↓IntWalk.iteOmega, ev e62, q0]
          with_reducible rfl
         intro a419 hE e63 kp
         replace e60 := kt kp e60; replace e61 := kt kp e61
         apply Z02 64 hE k rfl rfl rfl rfl
         case h =>
          simp [go_sem, ↓IntWalk.iteOmega, ev (hE.g e9)]
          with_reducible rfl
         intro a420 hE e64 kp
         replace e60 := kt kp e60; replace e61 := kt kp e61; replace e63 := kt kp e63
         apply Z02 65 hE k rfl rfl rfl rfl
         case h =>
          have q0 : w411.cell? ⟨xb, 2, none⟩ = some (.int .i64 ↑cv) := (OwnT.blk O 7 rfl).cell 2
          simp [go_sem, ↓IntWalk.iteOmega, ev e64, q0]
          with_reducible rfl
         intro a421 hE e65 kp
         replace e60 := kt kp e60; replace e61 := kt kp e61; replace e63 := kt kp e63
         apply Z08 66 hE k rfl (by rfl) (by rfl) rfl
         case h =>
          simp [go_sem, ↓IntWalk.iteOmega, ev e60, ev e61, ev e63, ev e65]
          with_reducible exact ⟨rfl, rfl⟩
         case hc => exact mSet (R := _ :: _ :: _ :: _ :: _ :: []) (ky := ky) (ch := cv) _ O hT.norm (by split <;> omega) (by omega) hk (by omega)
         clear O
         rintro e w423 ⟨N2, r2, er, B2, cap2, vs2, rfl, O, hPL⟩
         refine ⟨_, rfl, ?_⟩
         intro a422 hE e66 kp
         refine sd 58 hE k (Z03 rfl e66) ?_
         intro a424 hE e58 kp
         apply Z02 67 hE k rfl rfl rfl rfl
         case h =>
          simp [go_sem, ↓IntWalk.iteOmega, ev e58]
          with_reducible rfl
         intro a425 hE e67 kp
         replace e58 := kt kp e58
         apply Z02 68 hE k rfl rfl rfl rfl
         case h =>
          simp [go_sem, ↓IntWalk.iteOmega, ev e58]
          with_reducible rfl
         intro a426 hE e68 kp
         replace e67 := kt kp e67
         refine sd 10 hE k (Z00 rfl e67) ?_
         intro a427 hE e10 kp
         replace e68 := kt kp e68
         refine sd 11 hE k (Z00 rfl e68) ?_
         intro a428 hE e11 kp
         replace e10 := kt kp e10
         refine wpList_nil ?_
         replace e0 := hE.g e0; replace e3 := hE.g e3; replace e4 := hE.g e4; replace e5 := hE.g e5; replace e6 := hE.g e6; replace e7 := hE.g e7; replace e8 := hE.g e8; replace e9 := hE.g e9; replace e12 := hE.g e12; replace e13 := hE.g e13
         replace k := k.env hE
         clear hE
         refine Z01 (wp_seq ?_)
         refine wp_region_lit ?_
         have hE := Env.refl a428 [69, 70]
         refine sm 69 hE k e12 ?_
         intro a429 hE e69 kp
         refine sd 70 hE k (Z0u rfl e69) ?_
         intro a430 hE e70 kp
         refine wpList_nil ?_
         replace e0 := hE.g e0; replace e3 := hE.g e3; replace e4 := hE.g e4; replace e5 := hE.g e5; replace e6 := hE.g e6; replace e7 := hE.g e7; replace e8 := hE.g e8; replace e9 := hE.g e9; replace e10 := hE.g e10; replace e11 := hE.g e11; replace e12 := hE.g e12; replace e13 := hE.g e13
         replace k := k.env hE
         clear hE
         refine Z01 ?_
         refine Z0b e70 rfl ?_
         obtain ⟨⟨M, rfl, hM⟩, hPL⟩ := hPL
         obtain ⟨rfl, r, rfl, -, -, hT2⟩ := hPL.resolve_left (fun h => h.2.2 (by omega))
         have hil := ins_len (ky, cv) P

         have hcw : w423.cell? ⟨wb, ky, none⟩ = some (.int .i64 ((u) ky : Nat)) := by rw [(OwnT.blk O 6 rfl).cell, Z29 (u) (by omega)]
         have hzw : w423.frozen? ⟨wb, ky, none⟩ = false := (OwnT.blk O 6 rfl).frozen ky
         refine wp_region_lit ?_
         have hE := Env.refl a430 [71, 72, 73, 74, 75]
         apply Z02 71 hE k rfl rfl rfl rfl
         case h =>
          simp [go_sem, ↓IntWalk.iteOmega, ev (hE.g e9)]
          with_reducible rfl
         intro a431 hE e71 kp
         apply Z02 72 hE k rfl rfl rfl rfl
         case h =>
          have q0 : w423.cell? ⟨xb, 1, none⟩ = some (.int .i64 ↑ky) := (OwnT.blk O 7 rfl).cell 1
          simp [go_sem, ↓IntWalk.iteOmega, ev e71, q0]
          with_reducible rfl
         intro a432 hE e72 kp
         apply Z02 73 hE k rfl rfl rfl rfl
         case h =>
          simp [go_sem, ↓IntWalk.iteOmega, ev (hE.g e9)]
          with_reducible rfl
         intro a433 hE e73 kp
         replace e72 := kt kp e72
         apply Z02 74 hE k rfl rfl rfl rfl
         case h =>
          have q0 : w423.cell? ⟨xb, 2, none⟩ = some (.int .i64 ↑cv) := (OwnT.blk O 7 rfl).cell 2
          simp [go_sem, ↓IntWalk.iteOmega, ev e73, q0]
          with_reducible rfl
         intro a434 hE e74 kp
         replace e72 := kt kp e72
         apply Z02 75 hE k rfl rfl rfl rfl
         case h =>
          simp [go_sem, ↓IntWalk.iteOmega, ev (hE.g e13), ev e72]
          with_reducible rfl
         intro a435 hE e75 kp
         replace e74 := kt kp e74
         refine Z0h (w' := (w423.setCell ⟨wb, ky, none⟩ (.int .i64 ((cv : Nat) : Int)))) hE rfl rfl ?_ ?_
         · simp [go_sem, ↓IntWalk.iteOmega, ev e75, ev e74, hcw, hzw]
         replace O := OwnT.push (L := [_, _, _, _, _, _, _, _]) 6 rfl ((OwnT.pull O 6 rfl).set ky (.int .i64 ((cv : Nat) : Int)))
         clear hcw hzw
         rw [Z3l u cv hk] at O
         generalize (w423.setCell ⟨wb, ky, none⟩ (.int .i64 ((cv : Nat) : Int))) = w436 at O ⊢
         refine wpList_nil ?_
         replace e0 := hE.g e0; replace e3 := hE.g e3; replace e4 := hE.g e4; replace e5 := hE.g e5; replace e6 := hE.g e6; replace e7 := hE.g e7; replace e8 := hE.g e8; replace e10 := hE.g e10; replace e11 := hE.g e11; replace e12 := hE.g e12; replace e13 := hE.g e13
         replace k := k.env hE
         clear hE e9 e70 e74 e75
         refine Z0i ?_
         refine Z01 ?_
         exact ⟨k, e0, e3, e4, e5, e6, e7, e8, e13, _, 0, false, insP (ky, cv) P, _, N ++ M, B2, cap2, vs2, e10, e11, e12, ⟨M, rfl⟩, .inr ⟨rfl, rfl, by rw [List.length_append]; omega, ins_ok hP hk (by omega), rw_ins hU, r, rfl, hT2.next (by omega)⟩, (OwnT.pickR (L := [_, _, _, _, _, _, _, _]) (R := []) O [0, 1, 2, 3, 4, 5, 6] (by decide))⟩
 · clear k e0 e3 e4 e5 e6 e7 e8 e9 e12 e13 O
   intro a437 w438 h_
   obtain ⟨k, e0, e3, e4, e5, e6, e7, e8, e13, r2, er, bd, P2, u2, N2, B2, cap2, vs2, e10, e11, e12, hN2, hX, O⟩ := h_
   clear hpl
   rcases hX with ⟨rfl, rfl, rfl, rfl⟩ | ⟨rfl, rfl, hN3, hP2, hU2, r, rfl, hT2⟩
   · skip
     refine wp_seq ?_
     refine wp_seq ?_
     refine wp_region_lit ?_
     have hE := Env.refl a437 [140]
     refine sm 140 hE k e12 ?_
     intro a439 hE e140 kp
     refine wpList_nil ?_
     replace e0 := hE.g e0; replace e3 := hE.g e3; replace e4 := hE.g e4; replace e5 := hE.g e5; replace e6 := hE.g e6; replace e7 := hE.g e7; replace e8 := hE.g e8; replace e10 := hE.g e10; replace e11 := hE.g e11; replace e13 := hE.g e13
     replace k := k.env hE
     clear hE e12
     refine Z01 ?_
     refine Z0b e140 rfl ?_
     refine wp_seq ?_
     refine wp_seq ?_
     refine wp_region_lit ?_
     have hE := Env.refl a439 [141, 142, 143, 144, 145, 146]
     refine sm 141 hE k e11 ?_
     intro a440 hE e141 kp
     refine sd 142 hE k (Z0v rfl e141 rfl) ?_
     intro a441 hE e142 kp
     refine sd 143 hE k (Z03 rfl e142) ?_
     intro a442 hE e143 kp
     apply Z04 144 hE k rfl rfl rfl rfl rfl e143
     case h =>
      exact Z03 rfl (hE.g e10)
     intro a443 hE e144 kp
     replace e143 := kt kp e143
     apply Z04 145 hE k rfl rfl rfl rfl rfl e143
     case h =>
      exact Z0v rfl e144 rfl
     intro a444 hE e145 kp
     replace e143 := kt kp e143
     refine sd 146 hE k (Z07 rfl e143 e145) ?_
     intro a445 hE e146 kp
     refine wpList_nil ?_
     replace e0 := hE.g e0; replace e3 := hE.g e3; replace e4 := hE.g e4; replace e5 := hE.g e5; replace e6 := hE.g e6; replace e7 := hE.g e7; replace e8 := hE.g e8
     replace k := k.env hE
     clear hE e10 e11 e13 e140
     refine Z01 ?_
     refine Z05 e146 rfl ?_
     refine wp_skip ?_
     refine Z01 ?_
     refine wp_exit ?_
     refine Z0o ?_
     refine Z15 ?_
     refine Z01 ?_
     refine wp_region_lit ?_
     have hE := Env.refl a445 [38, 39, 8]
     refine sd 38 hE k (Z03 rfl e8) ?_
     intro a446 hE e38 kp
     replace e8 := kt kp e8
     refine sd 39 hE k (Z12 rfl e38 rfl (by omega)) ?_
     intro a447 hE e39 kp
     replace e8 := kt kp e8
     refine sd 8 hE k (Z00 rfl e39) ?_
     intro a448 hE e8 kp
     refine wpList_nil ?_
     replace e0 := hE.g e0; replace e3 := hE.g e3; replace e4 := hE.g e4; replace e5 := hE.g e5; replace e6 := hE.g e6; replace e7 := hE.g e7
     replace k := k.env hE
     clear hE e146
     refine Z01 ?_
     refine ⟨⟨k, e0, e3, e5, i + 1, rt, n, P, u, hs, Br, cr, Bw, cw, N2, B2, cap2, vs2, e4, e6, e7, e8, by omega, by omega, by omega, hhn, hT.le (by omega), hP, hU, hPast, OwnT.pickR (L := [_, _, _, _, _, _, _]) (R := []) O [0, 1, 2, 3, 4, 5] (by decide)⟩, ?_⟩
     rw [e8, mi]; simp only [intOf]; omega
   · obtain ⟨M, rfl⟩ := hN2
     refine wp_seq ?_
     refine wp_seq ?_
     refine wp_region_lit ?_
     have hE := Env.refl a437 [140]
     refine sm 140 hE k e12 ?_
     intro a449 hE e140 kp
     refine wpList_nil ?_
     replace e0 := hE.g e0; replace e3 := hE.g e3; replace e4 := hE.g e4; replace e5 := hE.g e5; replace e6 := hE.g e6; replace e7 := hE.g e7; replace e8 := hE.g e8; replace e10 := hE.g e10; replace e11 := hE.g e11; replace e13 := hE.g e13
     replace k := k.env hE
     clear hE e12
     refine Z01 ?_
     refine Z05 e140 rfl ?_
     refine wp_skip ?_
     refine Z01 (wp_seq ?_)
     refine wp_seq ?_
     refine wp_region_lit ?_
     have hE := Env.refl a449 [147, 148]
     refine sm 147 hE k e11 ?_
     intro a450 hE e147 kp
     refine sd 148 hE k (Z0k rfl e147 rfl) ?_
     intro a451 hE e148 kp
     refine wpList_nil ?_
     replace e0 := hE.g e0; replace e3 := hE.g e3; replace e4 := hE.g e4; replace e5 := hE.g e5; replace e6 := hE.g e6; replace e7 := hE.g e7; replace e8 := hE.g e8; replace e10 := hE.g e10; replace e11 := hE.g e11; replace e13 := hE.g e13
     replace k := k.env hE
     clear hE e140
     refine Z01 ?_
     refine Z05 e148 rfl ?_
     refine wp_skip ?_
     refine Z01 (wp_seq ?_)
     refine wp_seq ?_
     refine wp_region_lit ?_
     have hE := Env.refl a451 [149, 150]
     refine sm 149 hE k e11 ?_
     intro a452 hE e149 kp
     refine sd 150 hE k (Z0v rfl e149 rfl) ?_
     intro a453 hE e150 kp
     refine wpList_nil ?_
     replace e0 := hE.g e0; replace e3 := hE.g e3; replace e5 := hE.g e5; replace e6 := hE.g e6; replace e7 := hE.g e7; replace e8 := hE.g e8; replace e10 := hE.g e10; replace e13 := hE.g e13
     replace k := k.env hE
     clear hE e4 e11 e148
     refine Z01 ?_
     refine Z05 e150 rfl ?_
     refine wp_skip ?_
     refine Z01 (wp_seq ?_)
     refine wp_region_lit ?_
     have hE := Env.refl a453 [151, 4]
     refine sm 151 hE k e10 ?_
     intro a454 hE e151 kp
     refine sd 4 hE k (Z00 rfl e151) ?_
     intro a455 hE e4 kp
     refine wpList_nil ?_
     replace e0 := hE.g e0; replace e3 := hE.g e3; replace e5 := hE.g e5; replace e6 := hE.g e6; replace e7 := hE.g e7; replace e8 := hE.g e8; replace e13 := hE.g e13
     replace k := k.env hE
     clear hE e10 e150
     refine Z01 (wp_seq ?_)
     refine wp_region_lit ?_
     have hE := Env.refl a455 [152]
     refine sd 152 hE k (Z4v rfl (hE.g e13) (OwnT.blk O 6 rfl)) ?_
     intro a456 hE e152 kp
     refine Z89 rfl rfl _ _ rfl (hE.g e5) e152 (OwnT.blk O 3 rfl) ?_
     replace O := OwnT.push (L := [_, _, _, _, _, _, _]) 3 rfl ((OwnT.pull O 3 rfl).setRowB (rwA u2))
     generalize World.setRow w438 ub (rwA u2) = wv at O ⊢
     refine wpList_nil ?_
     replace e0 := hE.g e0; replace e3 := hE.g e3; replace e4 := hE.g e4; replace e5 := hE.g e5; replace e6 := hE.g e6; replace e7 := hE.g e7; replace e8 := hE.g e8
     replace k := k.env hE
     clear hE e13
     refine Z01 ?_
     replace O : OwnT _ _ ((tRow 3 1 (.slice Br n cr) n (ints (hs.map (·.1)))) :: (tBlk sb 28 #[.slice B2 (((N ++ M)).length) cap2, .int .i64 511]) :: (tRow 125 2 (.slice B2 ((N ++ M)).length cap2) ((N ++ M)).length (leafV vs2 ((N ++ M)))) :: (tPool vs2 ((N ++ M))) :: (tBlk ub 71 (rwA u2)) :: (tRow 71 64 (.slice Bw n cw) n (rowsC (hs.map (·.2.2)))) :: []) wv := OwnT.pickR (L := [_, _, _, _, _, _, _]) (R := []) O [4, 0, 1, 2, 3, 5] (by decide)
     refine wp_seq ?_
     refine wp_region_lit ?_
     have hE := Env.refl a456 [153, 154, 155, 156, 6]
     refine sd 153 hE k (Z03 rfl e6) ?_
     intro a458 hE e153 kp
     replace e6 := kt kp e6
     refine sm 154 hE k e4 ?_
     intro a459 hE e154 kp
     replace e6 := kt kp e6; replace e153 := kt kp e153
     refine Z1s (m := 1) (c := 1) O (cs := #[.int .i64 ↑r]) (t := 3) 155 hE k rfl (by rfl) (by rfl) rfl (by simp [go_sem, ↓IntWalk.iteOmega, ev e154]) ?_
     clear O
     intro g8 a460 w461 O hE e155 kp
     replace e6 := kt kp e6; replace e153 := kt kp e153
     obtain ⟨gr, cr2, w462, hrun, O⟩ := Z2p O elemI8 (by decide) rfl (by intro u hu; simp at hu; subst hu; rfl) (by unfold maxLen; omega) (by omega)
     apply Z1n 156 hE k rfl (by rfl) (by rfl) rfl
     case h => exact Z1r rfl e153 e155 (hrun _)
     clear hrun
     intro a463 hE e156 kp
     replace e6 := kt kp e6
     refine sd 6 hE k (Z00 rfl e156) ?_
     intro a464 hE e6 kp
     refine wpList_nil ?_
     replace e0 := hE.g e0; replace e3 := hE.g e3; replace e4 := hE.g e4; replace e5 := hE.g e5; replace e7 := hE.g e7; replace e8 := hE.g e8
     replace k := k.env hE
     clear hE
     refine Z01 ?_
     rw [← ints_app] at O
     replace O : OwnT _ _ ((tRow 71 64 (.slice Bw n cw) n (rowsC (hs.map (·.2.2)))) :: (tRow 3 1 (.slice (some ⟨gr, 0, none⟩) (n + 1) cr2) (n + 1) (ints (hs.map (·.1) ++ [r]))) :: (tBlk sb 28 #[.slice B2 (((N ++ M)).length) cap2, .int .i64 511]) :: (tRow 125 2 (.slice B2 ((N ++ M)).length cap2) ((N ++ M)).length (leafV vs2 ((N ++ M)))) :: (tPool vs2 ((N ++ M))) :: (tBlk ub 71 (rwA u2)) :: []) w462 := OwnT.pickR (L := [_, _, _, _, _, _]) (R := []) O [5, 0, 1, 2, 3, 4] (by decide)
     replace O : OwnT _ _ ((tRow 71 64 (.slice Bw n cw) n (rowsC (hs.map (·.2.2)))) :: (tRow 3 1 (.slice (some ⟨gr, 0, none⟩) (n + 1) cr2) (n + 1) (ints (hs.map (·.1) ++ [r]))) :: (tBlk sb 28 #[.slice B2 (((N ++ M)).length) cap2, .int .i64 511]) :: (tRow 125 2 (.slice B2 ((N ++ M)).length cap2) ((N ++ M)).length (leafV vs2 ((N ++ M)))) :: (tPool vs2 ((N ++ M))) :: (tBlk ub 71 (rwA u2)) :: []) w462 := O
     refine wp_seq ?_
     refine wp_region_lit ?_
     have hE := Env.refl a464 [157, 158, 159, 160, 7]
     refine sd 157 hE k (Z03 rfl e7) ?_
     intro a465 hE e157 kp
     replace e7 := kt kp e7
     refine sd 158 hE k (Z4v rfl (hE.g e5) (OwnT.blk O 5 rfl)) ?_
     intro a466 hE e158 kp
     replace e7 := kt kp e7; replace e157 := kt kp e157
     apply Z1n 159 hE k rfl (by rfl) (by rfl) rfl
     case h =>
      exact x_bsl rfl e158
     intro a467 hE e159 kp
     replace e7 := kt kp e7; replace e157 := kt kp e157
     obtain ⟨g9, hub⟩ : ∃ b, w462.heap.size = b := ⟨_, rfl⟩
     replace O := OwnT.new O 71 (rwL u2).toArray
     rw [hub] at O e159
     clear hub
     generalize w462.alloc (.cells (rwL u2).toArray 71) = wz at O ⊢
     obtain ⟨gw, cw2, w468, hrun, O⟩ := Z2p O elemRw (by decide) (Z5x u2) (by exact rwL_one u2) (by unfold maxLen; omega) (by omega)
     apply Z1n 160 hE k rfl (by rfl) (by rfl) rfl
     case h => exact Z1r rfl e157 e159 (hrun _)
     clear hrun
     intro a469 hE e160 kp
     replace e7 := kt kp e7
     refine sd 7 hE k (Z00 rfl e160) ?_
     intro a470 hE e7 kp
     refine wpList_nil ?_
     replace e0 := hE.g e0; replace e3 := hE.g e3; replace e4 := hE.g e4; replace e5 := hE.g e5; replace e6 := hE.g e6; replace e8 := hE.g e8
     replace k := k.env hE
     clear hE
     refine Z01 ?_
     rw [← Z8a] at O
     replace O : OwnT _ _ ((tBlk sb 28 #[.slice B2 (((N ++ M)).length) cap2, .int .i64 511]) :: (tRow 125 2 (.slice B2 ((N ++ M)).length cap2) ((N ++ M)).length (leafV vs2 ((N ++ M)))) :: (tPool vs2 ((N ++ M))) :: (tBlk ub 71 (rwA u2)) :: (tRow 3 1 (.slice (some ⟨gr, 0, none⟩) (n + 1) cr2) (n + 1) (ints (hs.map (·.1) ++ [r]))) :: (tRow 71 64 (.slice (some ⟨gw, 0, none⟩) (n + 1) cw2) (n + 1) (rowsC (hs.map (·.2.2) ++ [u2]))) :: []) w468 := OwnT.pickR (L := [_, _, _, _, _, _]) (R := []) O [2, 3, 4, 5, 1, 0] (by decide)
     rw [show hs.map (·.1) ++ [r] = (hs ++ [(r, P2, u2)]).map (·.1) by simp, show hs.map (·.2.2) ++ [u2] = (hs ++ [(r, P2, u2)]).map (·.2.2) by simp] at O
     replace O : OwnT _ _ ((tBlk sb 28 #[.slice B2 (((N ++ M)).length) cap2, .int .i64 511]) :: (tRow 125 2 (.slice B2 ((N ++ M)).length cap2) ((N ++ M)).length (leafV vs2 ((N ++ M)))) :: (tPool vs2 ((N ++ M))) :: (tBlk ub 71 (rwA u2)) :: (tRow 3 1 (.slice (some ⟨gr, 0, none⟩) (n + 1) cr2) (n + 1) (ints ((hs ++ [(r, P2, u2)]).map (·.1)))) :: (tRow 71 64 (.slice (some ⟨gw, 0, none⟩) (n + 1) cw2) (n + 1) (rowsC ((hs ++ [(r, P2, u2)]).map (·.2.2)))) :: []) w468 := O
     refine wp_seq ?_
     refine wp_region_lit ?_
     have hE := Env.refl a470 [17]
     refine sd 17 hE k (Z00 rfl rfl) ?_
     intro a471 hE e17 kp
     refine wpList_nil ?_
     replace e0 := hE.g e0; replace e3 := hE.g e3; replace e4 := hE.g e4; replace e5 := hE.g e5; replace e6 := hE.g e6; replace e7 := hE.g e7; replace e8 := hE.g e8
     replace k := k.env hE
     clear hE
     refine Z01 ?_
     refine wp_block ?_
     refine wp_loop (fun a w => Fr 223 a ∧ a.eval (.tmp 0) = .slice (some ⟨b, o, none⟩) n1 cp ∧ a.eval (.tmp 3) = .pointer (some ⟨sb, 0, none⟩) ∧ a.eval (.tmp 4) = .int .i64 ↑r ∧ a.eval (.tmp 5) = .pointer (some ⟨ub, 0, none⟩) ∧ a.eval (.tmp 6) = .slice (some ⟨gr, 0, none⟩) ((n + 1)) cr2 ∧ a.eval (.tmp 7) = .slice (some ⟨gw, 0, none⟩) ((n + 1)) cw2 ∧ a.eval (.tmp 8) = .int .i64 ↑i ∧ ∃ (kk : Int), a.eval (.tmp 17) = .int .i64 kk ∧ -1 ≤ kk ∧ kk ≤ 65 ∧ OwnT W0.heap.size W0 ((tBlk sb 28 #[.slice B2 (((N ++ M)).length) cap2, .int .i64 511]) :: (tRow 125 2 (.slice B2 ((N ++ M)).length cap2) ((N ++ M)).length (leafV vs2 ((N ++ M)))) :: (tPool vs2 ((N ++ M))) :: (tBlk ub 71 (rwA u2)) :: (tRow 3 1 (.slice (some ⟨gr, 0, none⟩) (n + 1) cr2) (n + 1) (ints ((hs ++ [(r, P2, u2)]).map (·.1)))) :: (tRow 71 64 (.slice (some ⟨gw, 0, none⟩) (n + 1) cw2) (n + 1) (rowsC ((hs ++ [(r, P2, u2)]).map (·.2.2)))) :: []) w) (fun a w => (65 - intOf (a.eval (.tmp 17))).toNat) ?_ ?_
     · exact ⟨k, e0, e3, e4, e5, e6, e7, e8, -1, e17, by omega, by omega, O⟩
     intro a472 w473 hI
     clear k e0 e3 e4 e5 e6 e7 e8
     obtain ⟨k, e0, e3, e4, e5, e6, e7, e8, h_⟩ := hI
     clear O e17
     obtain ⟨kk, e17, hq1, hq2, O⟩ := h_
     have mk_ := e17
     by_cases hltk : kk < 65
     rotate_left
     · skip
       refine wp_seq ?_
       refine wp_seq ?_
       refine wp_region_lit ?_
       have hE := Env.refl a472 [161, 162]
       refine sm 161 hE k e17 ?_
       intro a474 hE e161 kp
       refine sd 162 hE k (Z06 (Z0x rfl e161 rfl) (decide_eq_false (by omega))) ?_
       intro a475 hE e162 kp
       refine wpList_nil ?_
       replace e0 := hE.g e0; replace e3 := hE.g e3; replace e4 := hE.g e4; replace e5 := hE.g e5; replace e6 := hE.g e6; replace e7 := hE.g e7; replace e8 := hE.g e8; replace e17 := hE.g e17
       replace k := k.env hE
       clear hE
       refine Z01 ?_
       refine Z05 e162 rfl ?_
       refine wp_exit ?_
       refine Z0o ?_
       refine Z0o ?_
       refine Z15 ?_
       refine Z0i ?_
       refine Z01 ?_
       refine wp_region_lit ?_
       have hE := Env.refl a475 [38, 39, 8]
       refine sd 38 hE k (Z03 rfl e8) ?_
       intro a476 hE e38 kp
       replace e8 := kt kp e8
       refine sd 39 hE k (Z12 rfl e38 rfl (by omega)) ?_
       intro a477 hE e39 kp
       replace e8 := kt kp e8
       refine sd 8 hE k (Z00 rfl e39) ?_
       intro a478 hE e8 kp
       refine wpList_nil ?_
       replace e0 := hE.g e0; replace e3 := hE.g e3; replace e4 := hE.g e4; replace e5 := hE.g e5; replace e6 := hE.g e6; replace e7 := hE.g e7
       replace k := k.env hE
       clear hE e17 e162
       refine Z01 ?_
       refine ⟨⟨k, e0, e3, e5, i + 1, r, n + 1, P2, u2, hs ++ [(r, P2, u2)], some ⟨gr, 0, none⟩, cr2, some ⟨gw, 0, none⟩, cw2, N ++ M, B2, cap2, vs2, e4, e6, e7, e8, by omega, by omega, by omega, by rw [List.length_append, hhn]; rfl, hT2, hP2, hU2, (hPast.mono M).add (hT2.le (by omega)) hP2 hU2, O⟩, ?_⟩
       rw [e8, mi]; simp only [intOf]; omega
     have hNl : (N ++ M).length ≤ 511 := by omega
     by_cases hpk : 0 ≤ kk ∧ kk < 64
     · obtain ⟨j, rfl⟩ : ∃ j : Nat, kk = j := ⟨kk.toNat, by omega⟩
       have hj : j < 64 := by omega
       have hjI : (j : Int) < 64 := by omega
       have hju := hU2 j hj
       refine wp_seq ?_
       refine wp_seq ?_
       refine wp_region_lit ?_
       have hE := Env.refl a472 [161, 162]
       refine sm 161 hE k e17 ?_
       intro a479 hE e161 kp
       refine sd 162 hE k (Z06 (Z0x rfl e161 rfl) (decide_eq_true (by omega))) ?_
       intro a480 hE e162 kp
       refine wpList_nil ?_
       replace e0 := hE.g e0; replace e3 := hE.g e3; replace e4 := hE.g e4; replace e5 := hE.g e5; replace e6 := hE.g e6; replace e7 := hE.g e7; replace e8 := hE.g e8; replace e17 := hE.g e17
       replace k := k.env hE
       clear hE
       refine Z01 ?_
       refine Z0b e162 rfl ?_
       refine wp_skip ?_
       refine Z01 (wp_seq ?_)
       refine wp_block ?_
       refine wp_seq ?_
       refine wp_region_lit ?_
       have hE := Env.refl a480 [166, 167, 168, 169, 170, 165, 171, 172, 18, 19]
       refine sm 166 hE k e3 ?_
       intro a481 hE e166 kp
       apply Z02 167 hE k rfl rfl rfl rfl
       case h =>
        simp [go_sem, ↓IntWalk.iteOmega, ev e166]
        with_reducible rfl
       intro a482 hE e167 kp
       refine sm 168 hE k e4 ?_
       intro a483 hE e168 kp
       replace e167 := kt kp e167
       refine sm 169 hE k e17 ?_
       intro a484 hE e169 kp
       replace e167 := kt kp e167; replace e168 := kt kp e168
       apply Z08 170 hE k rfl (by rfl) (by rfl) rfl
       case h =>
        simp [go_sem, ↓IntWalk.iteOmega, ev e167, ev e168, ev e169]
        with_reducible exact ⟨rfl, rfl⟩
       case hc => exact mGet (R := _ :: _ :: _ :: []) (ky := j) _ O hT2 hNl hj (ok_le hP2)
       clear O
       rintro e w486 ⟨rfl, O⟩
       refine ⟨.tuple #[.int .i64 (↑(u2 j)), .int .i64 0], by rw [hju], ?_⟩
       intro a485 hE e170 kp
       refine sd 165 hE k (Z03 rfl e170) ?_
       intro a487 hE e165 kp
       apply Z02 171 hE k rfl rfl rfl rfl
       case h =>
        simp [go_sem, ↓IntWalk.iteOmega, ev e165]
        with_reducible rfl
       intro a488 hE e171 kp
       replace e165 := kt kp e165
       apply Z02 172 hE k rfl rfl rfl rfl
       case h =>
        simp [go_sem, ↓IntWalk.iteOmega, ev e165]
        with_reducible rfl
       intro a489 hE e172 kp
       replace e171 := kt kp e171
       refine sd 18 hE k (Z00 rfl e171) ?_
       intro a490 hE e18 kp
       replace e172 := kt kp e172
       refine sd 19 hE k (Z00 rfl e172) ?_
       intro a491 hE e19 kp
       replace e18 := kt kp e18
       refine wpList_nil ?_
       replace e0 := hE.g e0; replace e3 := hE.g e3; replace e4 := hE.g e4; replace e5 := hE.g e5; replace e6 := hE.g e6; replace e7 := hE.g e7; replace e8 := hE.g e8; replace e17 := hE.g e17
       replace k := k.env hE
       clear hE e162
       refine Z01 (wp_seq ?_)
       refine wp_region_lit ?_
       have hE := Env.refl a491 [173, 174, 175]
       refine sm 173 hE k e17 ?_
       intro a492 hE e173 kp
       apply Z08 174 hE k rfl (by rfl) (by rfl) rfl
       case h =>
        simp [go_sem, ↓IntWalk.iteOmega, ev e173]
        with_reducible exact ⟨rfl, rfl⟩
       case hc => exact Z44 (decide_eq_true hpk) _
       rintro e w494 ⟨rfl, RE⟩
       replace O := OwnT.ext O RE
       refine ⟨_, rfl, ?_⟩
       intro a493 hE e174 kp
       refine sd 175 hE k (Z0u rfl e174) ?_
       intro a495 hE e175 kp
       refine wpList_nil ?_
       replace e0 := hE.g e0; replace e3 := hE.g e3; replace e4 := hE.g e4; replace e5 := hE.g e5; replace e6 := hE.g e6; replace e7 := hE.g e7; replace e8 := hE.g e8; replace e17 := hE.g e17; replace e18 := hE.g e18; replace e19 := hE.g e19
       replace k := k.env hE
       clear hE
       refine Z01 ?_
       refine Z05 e175 rfl ?_
       have hcu : w494.cell? ⟨ub, j, none⟩ = some (.int .i64 (u2 j : Nat)) := by rw [(OwnT.blk O 3 rfl).cell, Z29 u2 hj]
       refine wp_seq ?_
       refine wp_region_lit ?_
       have hE := Env.refl a495 [182, 183, 184, 185, 186, 187, 188, 189, 190]
       refine sm 182 hE k e19 ?_
       intro a496 hE e182 kp
       refine sd 183 hE k (Z0v rfl e182 rfl) ?_
       intro a497 hE e183 kp
       refine sd 184 hE k (Z03 rfl e183) ?_
       intro a498 hE e184 kp
       apply Z04 185 hE k rfl rfl rfl rfl rfl e184
       case h =>
        exact Z03 rfl (hE.g e18)
       intro a499 hE e185 kp
       replace e184 := kt kp e184
       apply Z04 186 hE k rfl rfl rfl rfl rfl e184
       case h =>
        exact Z03 rfl (hE.g e17)
       intro a500 hE e186 kp
       replace e184 := kt kp e184; replace e185 := kt kp e185
       apply Z04 187 hE k rfl rfl rfl rfl rfl e184
       case h =>
        simp [go_sem, ↓IntWalk.iteOmega, ev (hE.g e5), ev e186]
        with_reducible rfl
       intro a501 hE e187 kp
       replace e184 := kt kp e184; replace e185 := kt kp e185
       apply Z04 188 hE k rfl rfl rfl rfl rfl e184
       case h =>
        simp [go_sem, ↓IntWalk.iteOmega, ev e187, hcu]
        with_reducible rfl
       intro a502 hE e188 kp
       replace e184 := kt kp e184; replace e185 := kt kp e185
       apply Z04 189 hE k rfl rfl rfl rfl rfl e184
       case h =>
        exact Z06 (Z0v rfl e185 e188) (decide_eq_false (by omega))
       intro a503 hE e189 kp
       replace e184 := kt kp e184
       refine sd 190 hE k (Z07 rfl e184 e189) ?_
       intro a504 hE e190 kp
       refine wpList_nil ?_
       replace e0 := hE.g e0; replace e3 := hE.g e3; replace e4 := hE.g e4; replace e5 := hE.g e5; replace e6 := hE.g e6; replace e7 := hE.g e7; replace e8 := hE.g e8; replace e17 := hE.g e17
       replace k := k.env hE
       clear hE e18 e19 e175
       refine Z01 ?_
       refine Z05 e190 rfl ?_
       refine wp_skip ?_
       refine Z0i ?_
       refine Z01 ?_
       refine wp_region_lit ?_
       have hE := Env.refl a504 [163, 164, 17]
       refine sd 163 hE k (Z03 rfl e17) ?_
       intro a505 hE e163 kp
       replace e17 := kt kp e17
       refine sd 164 hE k (Z12 rfl e163 rfl (by omega)) ?_
       intro a506 hE e164 kp
       replace e17 := kt kp e17
       refine sd 17 hE k (Z00 rfl e164) ?_
       intro a507 hE e17 kp
       refine wpList_nil ?_
       replace e0 := hE.g e0; replace e3 := hE.g e3; replace e4 := hE.g e4; replace e5 := hE.g e5; replace e6 := hE.g e6; replace e7 := hE.g e7; replace e8 := hE.g e8
       replace k := k.env hE
       clear hE e190
       refine Z01 ?_
       refine ⟨⟨k, e0, e3, e4, e5, e6, e7, e8, _, e17, by omega, by omega, O⟩, ?_⟩
       rw [e17, mk_]; simp only [intOf]; omega
     · skip
       refine wp_seq ?_
       refine wp_seq ?_
       refine wp_region_lit ?_
       have hE := Env.refl a472 [161, 162]
       refine sm 161 hE k e17 ?_
       intro a508 hE e161 kp
       refine sd 162 hE k (Z06 (Z0x rfl e161 rfl) (decide_eq_true (by omega))) ?_
       intro a509 hE e162 kp
       refine wpList_nil ?_
       replace e0 := hE.g e0; replace e3 := hE.g e3; replace e4 := hE.g e4; replace e5 := hE.g e5; replace e6 := hE.g e6; replace e7 := hE.g e7; replace e8 := hE.g e8; replace e17 := hE.g e17
       replace k := k.env hE
       clear hE
       refine Z01 ?_
       refine Z0b e162 rfl ?_
       refine wp_skip ?_
       refine Z01 (wp_seq ?_)
       refine wp_block ?_
       refine wp_seq ?_
       refine wp_region_lit ?_
       have hE := Env.refl a509 [166, 167, 168, 169, 170, 165, 171, 172, 18, 19]
       refine sm 166 hE k e3 ?_
       intro a510 hE e166 kp
       apply Z02 167 hE k rfl rfl rfl rfl
       case h =>
        simp [go_sem, ↓IntWalk.iteOmega, ev e166]
        with_reducible rfl
       intro a511 hE e167 kp
       refine sm 168 hE k e4 ?_
       intro a512 hE e168 kp
       replace e167 := kt kp e167
       refine sm 169 hE k e17 ?_
       intro a513 hE e169 kp
       replace e167 := kt kp e167; replace e168 := kt kp e168
       apply Z08 170 hE k rfl (by rfl) (by rfl) rfl
       case h =>
        simp [go_sem, ↓IntWalk.iteOmega, ev e167, ev e168, ev e169]
        with_reducible exact ⟨rfl, rfl⟩
       case hc => exact mGet_bad kk _ hpk
       rintro e w515 ⟨rfl, RE⟩
       replace O := OwnT.ext O RE
       refine ⟨_, rfl, ?_⟩
       intro a514 hE e170 kp
       refine sd 165 hE k (Z03 rfl e170) ?_
       intro a516 hE e165 kp
       apply Z02 171 hE k rfl rfl rfl rfl
       case h =>
        simp [go_sem, ↓IntWalk.iteOmega, ev e165]
        with_reducible rfl
       intro a517 hE e171 kp
       replace e165 := kt kp e165
       apply Z02 172 hE k rfl rfl rfl rfl
       case h =>
        simp [go_sem, ↓IntWalk.iteOmega, ev e165]
        with_reducible rfl
       intro a518 hE e172 kp
       replace e171 := kt kp e171
       refine sd 18 hE k (Z00 rfl e171) ?_
       intro a519 hE e18 kp
       replace e172 := kt kp e172
       refine sd 19 hE k (Z00 rfl e172) ?_
       intro a520 hE e19 kp
       replace e18 := kt kp e18
       refine wpList_nil ?_
       replace e0 := hE.g e0; replace e3 := hE.g e3; replace e4 := hE.g e4; replace e5 := hE.g e5; replace e6 := hE.g e6; replace e7 := hE.g e7; replace e8 := hE.g e8; replace e17 := hE.g e17
       replace k := k.env hE
       clear hE e162
       refine Z01 (wp_seq ?_)
       refine wp_region_lit ?_
       have hE := Env.refl a520 [173, 174, 175]
       refine sm 173 hE k e17 ?_
       intro a521 hE e173 kp
       apply Z08 174 hE k rfl (by rfl) (by rfl) rfl
       case h =>
        simp [go_sem, ↓IntWalk.iteOmega, ev e173]
        with_reducible exact ⟨rfl, rfl⟩
       case hc => exact Z44 (decide_eq_false hpk) _
       rintro e w523 ⟨rfl, RE⟩
       replace O := OwnT.ext O RE
       refine ⟨_, rfl, ?_⟩
       intro a522 hE e174 kp
       refine sd 175 hE k (Z0u rfl e174) ?_
       intro a524 hE e175 kp
       refine wpList_nil ?_
       replace e0 := hE.g e0; replace e3 := hE.g e3; replace e4 := hE.g e4; replace e5 := hE.g e5; replace e6 := hE.g e6; replace e7 := hE.g e7; replace e8 := hE.g e8; replace e17 := hE.g e17; replace e18 := hE.g e18; replace e19 := hE.g e19
       replace k := k.env hE
       clear hE
       refine Z01 ?_
       refine Z0b e175 rfl ?_
       refine wp_seq ?_
       refine wp_region_lit ?_
       have hE := Env.refl a524 [176, 177, 178, 179, 180, 181]
       refine sm 176 hE k e19 ?_
       intro a525 hE e176 kp
       refine sd 177 hE k (Z0v rfl e176 rfl) ?_
       intro a526 hE e177 kp
       refine sd 178 hE k (Z03 rfl e177) ?_
       intro a527 hE e178 kp
       apply Z04 179 hE k rfl rfl rfl rfl rfl e178
       case h =>
        exact Z03 rfl (hE.g e18)
       intro a528 hE e179 kp
       replace e178 := kt kp e178
       apply Z04 180 hE k rfl rfl rfl rfl rfl e178
       case h =>
        exact Z0v rfl e179 rfl
       intro a529 hE e180 kp
       replace e178 := kt kp e178
       refine sd 181 hE k (Z07 rfl e178 e180) ?_
       intro a530 hE e181 kp
       refine wpList_nil ?_
       replace e0 := hE.g e0; replace e3 := hE.g e3; replace e4 := hE.g e4; replace e5 := hE.g e5; replace e6 := hE.g e6; replace e7 := hE.g e7; replace e8 := hE.g e8; replace e17 := hE.g e17
       replace k := k.env hE
       clear hE e18 e19 e175
       refine Z01 ?_
       refine Z05 e181 rfl ?_
       refine wp_skip ?_
       refine Z0i ?_
       refine Z01 ?_
       refine wp_region_lit ?_
       have hE := Env.refl a530 [163, 164, 17]
       refine sd 163 hE k (Z03 rfl e17) ?_
       intro a531 hE e163 kp
       replace e17 := kt kp e17
       refine sd 164 hE k (Z12 rfl e163 rfl (by omega)) ?_
       intro a532 hE e164 kp
       replace e17 := kt kp e17
       refine sd 17 hE k (Z00 rfl e164) ?_
       intro a533 hE e17 kp
       refine wpList_nil ?_
       replace e0 := hE.g e0; replace e3 := hE.g e3; replace e4 := hE.g e4; replace e5 := hE.g e5; replace e6 := hE.g e6; replace e7 := hE.g e7; replace e8 := hE.g e8
       replace k := k.env hE
       clear hE e181
       refine Z01 ?_
       refine ⟨⟨k, e0, e3, e4, e5, e6, e7, e8, _, e17, by omega, by omega, O⟩, ?_⟩
       rw [e17, mk_]; simp only [intOf]; omega
theorem mapsExact_walk (w : World) (v0 : Value) (h0 : Arg Try.prog w 79 v0) :
 Calls Try.prog 9 #[v0] w fun e w' => e = .returned (.bool true) ∧ Below w.heap.size w w' := by
 obtain ⟨A, n1, c1, xs, rfl, _, _, a3, -, a5⟩ := arg_acts h0
 exact Z65 xs w a3 a5
end Go.Proofs.Ytngehbhhpkkijaa
