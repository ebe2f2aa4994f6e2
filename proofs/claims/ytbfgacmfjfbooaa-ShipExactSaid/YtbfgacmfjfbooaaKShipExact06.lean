/- The walk of diff.Of. -/
import Derived.Test.YtbfgacmfjfbooaaKShipExact05
import Derived.Test.YtbfgacmfjfbooaaKShipExact00
import Derived.Deep.CutBlock
import Derived.RegionTactic
import Derived.Deep.RegionWith
import Derived.Maps.AppendAt
namespace Go.Proofs.Ytbfgacmfjfbooaa
attribute [local simp] BigFrame.eval_const BigFrame.eval_global BigFrame.eval_func
set_option linter.unusedVariables false
set_option linter.unusedSimpArgs false
open Go.RowKit

def flatX (L : List (Nat × ByteArray)) : List Value := L.flatMap fun x => [.int .i64 (x.1 : Int), .string x.2]
theorem Z5k (L : List (Nat × ByteArray)) : (flatX L).length = L.length * 2 := by
  induction L with
  | nil => rfl
  | cons x L ih => simp only [flatX, List.flatMap_cons, List.length_append] at ih ⊢; rw [ih]; simp; omega
theorem Z1s (L M : List (Nat × ByteArray)) : flatX (L ++ M) = flatX L ++ flatX M := by simp [flatX]
theorem infoX : (Try.prog.info? 107).map (fun i => (i.zero, i.size, i.bytes)) = some (some (.agg #[.int .i64 0, .string ByteArray.empty]), 2, 24) := by kernel_rfl

/-- A row of extents of one's own. -/
def Xs (B : Nat) (v : Value) (L : List (Nat × ByteArray)) (w : World) : Prop := w.ownsRow B 107 2 v L.length (flatX L)
theorem Xs.form {B : Nat} {v : Value} {L : List (Nat × ByteArray)} {w : World} (h : Xs B v L w) : ∃ A c, v = .slice A L.length c := by
  rcases h.2 with ⟨hv, h0⟩ | ⟨g, cap, cur, hv, _⟩
  · exact ⟨none, 0, by rw [hv, h0]⟩
  · exact ⟨_, _, hv⟩
theorem Xs.last {B : Nat} {v : Value} {P : List (Nat × ByteArray)} {x : Nat × ByteArray} {w : World} (h : Xs B v (P ++ [x]) w) : ∃ g c, v = .slice (some ⟨g, 0, none⟩) (P.length + 1) c ∧ B ≤ g ∧ g < w.heap.size ∧
    w.cell? ⟨g, P.length * 2, none⟩ = some (.int .i64 (x.1 : Int)) ∧ w.cell? ⟨g, P.length * 2 + 1, none⟩ = some (.string x.2) ∧ w.frozen? ⟨g, P.length * 2 + 1, none⟩ = false ∧
    ∀ d : ByteArray, Xs B v (P ++ [(x.1, d)]) (w.setCell ⟨g, P.length * 2 + 1, none⟩ (.string d)) ∧ w.grownBy (w.setCell ⟨g, P.length * 2 + 1, none⟩ (.string d)) (some g) := by
  have hl : (P ++ [x]).length = P.length + 1 := by simp
  have hx : flatX (P ++ [x]) = flatX P ++ [.int .i64 (x.1 : Int), .string x.2] := by rw [Z1s]; rfl
  obtain ⟨g, c, hv, hB, hlt⟩ : ∃ g c, v = .slice (some ⟨g, 0, none⟩) (P.length + 1) c ∧ B ≤ g ∧ g < w.heap.size := by
    rcases h.2 with ⟨_, h0⟩ | ⟨g, cap, cur, hv, hb, hg, _⟩
    · omega
    · exact ⟨g, cap, by rw [hv, hl], hb, (Array.getElem?_eq_some_iff.1 hg).1⟩
  subst hv
  have h' : w.ownsRow B 107 2 (.slice (some ⟨g, 0, none⟩) (P.length + 1) c) (P.length + 1) (flatX (P ++ [x])) := by unfold Xs at h; rwa [hl] at h
  have hfl := Z5k P
  refine ⟨g, c, rfl, hB, hlt, ?_, ?_, h'.frozenAt _, fun d => ?_⟩
  · rw [h'.cellAt _ (by omega), hx, List.getElem?_append_right (by omega), hfl]
    simp
  · rw [h'.cellAt _ (by omega), hx, List.getElem?_append_right (by omega), hfl]
    simp
  · obtain ⟨s1, s2⟩ := h'.stored (P.length * 2 + 1) (.string d)
    refine ⟨?_, s2⟩
    unfold Xs
    rw [List.length_append, List.length_singleton]
    have : (flatX (P ++ [x])).set (P.length * 2 + 1) (.string d) = flatX (P ++ [(x.1, d)]) := by
      rw [hx, Z1s, List.set_append_right _ _ (by omega), hfl]
      simp [flatX]
    rwa [this] at s1
theorem Xs.below {B : Nat} {v : Value} {L : List (Nat × ByteArray)} {w w' : World} (h : Xs B v L w) (hb : Below w.heap.size w w') : Xs B v L w' :=
  World.ownsRow.kept (row := none) h ⟨hb.os, hb.tape, hb.output, hb.size, fun k hk _ => hb.block k hk⟩ (by cases hv : v.ownBlock <;> simp)
theorem Z3g (wc : World) (k : Nat) (S : ByteArray) : ∀ (j : Nat) (u : Value), [Value.int IntKind.i64 (k : Int), Value.string S][j]? = some u → (wc.alloc (Obj.cells #[Value.int IntKind.i64 (k : Int), Value.string S] 107)).cell? (({ block := wc.heap.size, off := 0 } : Addr).add j) = some u := by
  intro j u hj
  match j, hj with
  | 0, hj => simp at hj; subst hj; simp [Addr.add]
  | 1, hj => simp at hj; subst hj; simp [Addr.add]
theorem Z61 (k : Nat) (S : ByteArray) : ∀ (u : Value), u ∈ [Value.int IntKind.i64 (k : Int), Value.string S] → u.oneCell' = true := by
  intro u hu
  rcases List.mem_cons.1 hu with rfl | hu
  · rfl
  · simp at hu; subst hu; rfl
theorem Xs.drew {B : Nat} {v : Value} {L : List (Nat × ByteArray)} {w : World} (h : Xs B v L w) : Xs B v L w.drew := h

theorem of_bad (a b : ByteArray) (w : World) (h : a.size ≠ b.size ∨ b.size % 16 ≠ 0) (hb : b.size ≤ 140737488355328) :
    Calls Try.prog 20 #[.string a, .string b] w fun e w' => e = .returned (.tuple #[.slice none 0 0, .int .i64 1]) ∧ Ext w w' := by
  by_cases h1 : a.size = b.size
  · have hsz : ((a.size : Int) != (b.size : Int)) = false := by simp; omega
    have hw : decide (b.size % 16 = 0) = false := by simp; omega
    clear h h1
    go_enter Try.func20, Try.ntmps20
    go_wp2_with fail
    refine (Z0o b _ hb).mono ?_
    rw [hw]
    rintro e w1 ⟨rfl, rfl⟩
    go_wp2_with fail
    go_ret2
    exact ⟨rfl, Ext.refl _⟩
  · have hsz : ((a.size : Int) != (b.size : Int)) = true := by simp; omega
    clear h h1
    go_enter Try.func20, Try.ntmps20
    go_wp2_with fail
    go_ret2
    exact ⟨rfl, Ext.refl _⟩

set_option maxRecDepth 100000 in
set_option maxHeartbeats 2000000 in
theorem of_same (a b : ByteArray) (n : Nat) (w : World) (ha : a.size = 16 * n) (hb : b.size = 16 * n) (hn : n ≤ 1000000) :
    Calls Try.prog 20 #[.string a, .string b] w fun e w' => ∃ v, e = .returned (.tuple #[v, .int .i64 0]) ∧ Xs w.heap.size v (ofTo a b n) w' ∧ Below w.heap.size w w' := by
  obtain ⟨i0, hi, hz0, hz1, hz2⟩ := info_parts infoX
  have hdiv : (b.size : Int) / 16 = (n : Int) := by omega
  have hw : decide (b.size % 16 = 0) = true := by simp; omega
  have hsz : ((a.size : Int) != (b.size : Int)) = false := by simp; omega
  have Ha := Lib.hid ha
  have Hb := Lib.hid hb
  have ha2 : a.size ≤ 16000000 := by omega
  have hb2 : b.size ≤ 16000000 := by omega
  clear ha hb
  go_enter Try.func20, Try.ntmps20
  go_wp2_with fail
  refine (Z0o b _ (by omega)).mono ?_
  rw [hw]
  rintro e w5 ⟨rfl, rfl⟩
  clear hw hsz
  go_upto_region 5 with fail
  go_loopw [6, 7, 8, 9, 23] (fun v _ _ _ i wr => ∃ (k : Nat), k ≤ n ∧ i = .int .i64 k ∧ Xs w.heap.size v (ofTo a b k) wr ∧ Below w.heap.size w wr) (fun _ _ _ _ i _ => n - (intOf i).toNat)
  case atStart => exact ⟨0, by omega, rfl, World.ownsRow_nil _ _ _ _, by (repeat (first | with_reducible exact Below.refl _ _ | with_reducible assumption | with_reducible apply Below.drew | with_reducible apply Z0b | (with_reducible refine Z0k ?_ ?_; focus ((try simp); (try omega); done)) | (with_reducible refine Z0l ?_ ?_; focus ((try simp); (try omega); done))))⟩
  case round =>
    obtain ⟨k, hk, rfl, hX, hbl⟩ := hrel
    have hzz := hbl.size
    have hlk := Z13 a b k
    by_cases hlt : k < n
    · have hsb : (k + 1) * 16 ≤ b.size := by rw [Hb.out]; omega
      have hsa : (k + 1) * 16 ≤ a.size := by rw [Ha.out]; omega
      obtain ⟨S, hS⟩ : ∃ S, secB b k = S := ⟨_, rfl⟩
      obtain ⟨S', hS'⟩ : ∃ S', secB a k = S' := ⟨_, rfl⟩
      have Sb : ∀ W : World, Calls Try.prog 42 #[.string b, .int .i64 k] W fun e w' => e = .returned (.string S) ∧ W = w' := by
        intro W; rw [← hS]; exact Z3t b k W (by omega) hsb
      have Sa : ∀ W : World, Calls Try.prog 42 #[.string a, .int .i64 k] W fun e w' => e = .returned (.string S') ∧ W = w' := by
        intro W; rw [← hS']; exact Z3t a k W (by omega) hsa
      have hnext : ofTo a b (k + 1) = if S = S' then ofTo a b k else laid (ofTo a b k) k S := by rw [ofTo, hS, hS']
      have hSs : S.size = 16 := by rw [← hS]; unfold secB; rw [ByteArray.size_extract]; omega
      have hSb := Lib.hid Sb
      have hSa := Lib.hid Sa
      clear hsb hsa Sb Sa hS hS'
      have hbd := (Z0t a b n k Hb.out hk).1
      generalize ofTo a b k = L at hX hlk hnext hbd
      by_cases hSS : S = S'
      · rw [if_pos hSS] at hnext
        subst hSS
        have Hn := Lib.hid hnext
        obtain ⟨A, c, hv⟩ := hX.form
        subst hv
        have HX := Lib.hid hX
        clear hnext hX
        generalize hLl : L.length = len at hlk HX ⊢
        clear hLl
        go_wp2_with fail
        refine (hSb.out _).mono ?_
        rintro e w5 ⟨rfl, rfl⟩
        go_wp2_with fail
        refine (hSa.out _).mono ?_
        rintro e w5 ⟨rfl, rfl⟩
        go_wp2_with fail
        go_roundw
        case rel => exact ⟨k + 1, by omega, by go_num, by rw [Hn.out]; exact HX.out, hbl⟩
        case measure => simp [intOf]; omega
      · rw [if_neg hSS] at hnext
        have hne := Z81 hSS
        clear hSS
        rcases List.eq_nil_or_concat L with rfl | ⟨P, x, rfl⟩
        · have Hn := Lib.hid hnext
          obtain ⟨A, c, hv⟩ := hX.form
          subst hv
          clear hnext
          go_wp2_with fail
          refine (hSb.out _).mono ?_
          rintro e w5 ⟨rfl, rfl⟩
          go_wp2_with fail
          refine (hSa.out _).mono ?_
          rintro e w5 ⟨rfl, rfl⟩
          go_upto_region 11 with fail
          refine Z06 (R := Ext) (w0 := wr) [[], [0], [0, 1], [0, 1, 2], [0, 1, 2], [0, 1, 2, 3, 4], [0, 1, 2, 3, 4, 5], [0, 1, 2, 3, 4, 5, 6], [0, 1, 2], [0, 1, 2], [0, 1, 2, 8, 9], [0, 1, 2, 8, 9, 10], [0, 1, 2, 8, 9, 10, 11], [0, 1, 2, 3, 4, 5, 6, 7, 8, 9, 10, 11, 12], [0, 1, 2], [0, 1, 2, 3, 4, 5, 6, 7, 8, 9, 10, 11, 12, 13, 14], [0, 1, 2, 3, 4, 5, 6, 7, 8, 9, 10, 11, 12, 13, 14, 15], [0, 1, 2, 3, 4, 5, 6, 7, 8, 9, 10, 11, 12, 13, 14, 15, 16]] [45, 46, 47, 48, 49, 50, 51, 52, 53, 54, 55, 56, 57, 58, 59, 60, 61, 44] Ext.refl (fun _ _ _ => Ext.trans) (Ext.drew _) (by kernel_rfl) ?_
          apply Build.det 45 Ext.refl (by rfl) (by rfl) rfl
          case h =>
            intro ax wx hE hR hF
            have e9 : ax.eval (.tmp 9) = .int .i64 (-1) := hE.eval 9 (by rfl) rfl
            simp [go_sem, ↓IntWalk.iteOmega, ev e9]
            with_reducible rfl
          apply Build.det 46 Ext.refl (by rfl) (by rfl) rfl
          case h =>
            intro ax wx hE hR hF
            have e45 := hF 0 (det 45 _) (by decide) (.head _)
            simp [go_sem, ↓IntWalk.iteOmega, ev e45]
            with_reducible rfl
          apply Build.det 47 Ext.refl (by rfl) (by rfl) rfl
          case h =>
            intro ax wx hE hR hF
            have e46 := hF 1 (det 46 _) (by decide) (.head _)
            simp [go_sem, ↓IntWalk.iteOmega, ev e46]
            with_reducible rfl
          refine Build.skip 48 (by rfl) (by rfl) rfl rfl ?_ ?_
          · intro ax wx hE hR hF
            have e47 := hF 2 (det 47 _) (by decide) (.head _)
            exact e47
          refine Build.skip 49 (by rfl) (by rfl) rfl rfl ?_ ?_
          · intro ax wx hE hR hF
            have e47 := hF 2 (det 47 _) (by decide) (.tail _ (.head _))
            exact e47
          refine Build.skip 50 (by rfl) (by rfl) rfl rfl ?_ ?_
          · intro ax wx hE hR hF
            have e47 := hF 2 (det 47 _) (by decide) (.tail _ (.tail _ (.head _)))
            exact e47
          refine Build.skip 51 (by rfl) (by rfl) rfl rfl ?_ ?_
          · intro ax wx hE hR hF
            have e47 := hF 2 (det 47 _) (by decide) (.tail _ (.tail _ (.tail _ (.head _))))
            exact e47
          refine Build.skip 52 (by rfl) (by rfl) rfl rfl ?_ ?_
          · intro ax wx hE hR hF
            have e47 := hF 2 (det 47 _) (by decide) (mem4 (.head _))
            exact e47
          refine Build.skip 53 (by rfl) (by rfl) rfl rfl ?_ ?_
          · intro ax wx hE hR hF
            have e47 := hF 2 (det 47 _) (by decide) (mem4 (.tail _ (.head _)))
            exact e47
          refine Build.skip 54 (by rfl) (by rfl) rfl rfl ?_ ?_
          · intro ax wx hE hR hF
            have e47 := hF 2 (det 47 _) (by decide) (mem4 (.tail _ (.tail _ (.head _))))
            exact e47
          refine Build.skip 55 (by rfl) (by rfl) rfl rfl ?_ ?_
          · intro ax wx hE hR hF
            have e47 := hF 2 (det 47 _) (by decide) (mem4 (.tail _ (.tail _ (.tail _ (.head _)))))
            exact e47
          refine Build.skip 56 (by rfl) (by rfl) rfl rfl ?_ ?_
          · intro ax wx hE hR hF
            have e47 := hF 2 (det 47 _) (by decide) (mem4 (mem4 (.head _)))
            exact e47
          refine Build.skip 57 (by rfl) (by rfl) rfl rfl ?_ ?_
          · intro ax wx hE hR hF
            have e47 := hF 2 (det 47 _) (by decide) (mem4 (mem4 (.tail _ (.head _))))
            exact e47
          refine Build.skip 58 (by rfl) (by rfl) rfl rfl ?_ ?_
          · intro ax wx hE hR hF
            have e47 := hF 2 (det 47 _) (by decide) (mem4 (mem4 (.tail _ (.tail _ (.head _)))))
            exact e47
          refine Build.skip 59 (by rfl) (by rfl) rfl rfl ?_ ?_
          · intro ax wx hE hR hF
            have e47 := hF 2 (det 47 _) (by decide) (mem4 (mem4 (.tail _ (.tail _ (.tail _ (.head _))))))
            exact e47
          refine Build.skip 60 (by rfl) (by rfl) rfl rfl ?_ ?_
          · intro ax wx hE hR hF
            have e47 := hF 2 (det 47 _) (by decide) (mem4 (mem4 (mem4 (.head _))))
            exact e47
          apply Build.det 61 Ext.refl (by rfl) (by rfl) rfl
          case h =>
            intro ax wx hE hR hF
            have e47 := hF 2 (det 47 _) (by decide) (mem4 (mem4 (mem4 (.tail _ (.head _)))))
            have e60 := hF 15 (det 60 _) (by decide) (.head _)
            simp [go_sem, ↓IntWalk.iteOmega, ev e47, ev e60]
            with_reducible rfl
          apply Build.det 44 Ext.refl (by rfl) (by rfl) rfl
          case h =>
            intro ax wx hE hR hF
            have e61 := hF 16 (det 61 _) (by decide) (.head _)
            simp [go_sem, ↓IntWalk.iteOmega, ev e61]
            with_reducible rfl
          apply Build.stop
          refine ⟨by kernel_rfl, .inl ⟨rfl, ?_⟩⟩
          intro ax w2 hE R2 hF
          have e45 := hF 0 (det 45 _) (mem16 (.tail _ (.head _)))
          have e46 := hF 1 (det 46 _) (mem16 (.head _))
          have e47 := hF 2 (det 47 _) (mem4 (mem4 (mem4 (.tail _ (.tail _ (.tail _ (.head _)))))))
          have e48 := hF 3 (det 48 _) (mem4 (mem4 (mem4 (.tail _ (.tail _ (.head _))))))
          have e49 := hF 4 (det 49 _) (mem4 (mem4 (mem4 (.tail _ (.head _)))))
          have e50 := hF 5 (det 50 _) (mem4 (mem4 (mem4 (.head _))))
          have e51 := hF 6 (det 51 _) (mem4 (mem4 (.tail _ (.tail _ (.tail _ (.head _))))))
          have e52 := hF 7 (det 52 _) (mem4 (mem4 (.tail _ (.tail _ (.head _)))))
          have e53 := hF 8 (det 53 _) (mem4 (mem4 (.tail _ (.head _))))
          have e54 := hF 9 (det 54 _) (mem4 (mem4 (.head _)))
          have e55 := hF 10 (det 55 _) (mem4 (.tail _ (.tail _ (.tail _ (.head _)))))
          have e56 := hF 11 (det 56 _) (mem4 (.tail _ (.tail _ (.head _))))
          have e57 := hF 12 (det 57 _) (mem4 (.tail _ (.head _)))
          have e58 := hF 13 (det 58 _) (mem4 (.head _))
          have e59 := hF 14 (det 59 _) (.tail _ (.tail _ (.tail _ (.head _))))
          have e60 := hF 15 (det 60 _) (.tail _ (.tail _ (.head _)))
          have e61 := hF 16 (det 61 _) (.tail _ (.head _))
          have e44 := hF 17 (det 44 _) (.head _)
          rw [AllEq.frame (D := [45, 46, 47, 48, 49, 50, 51, 52, 53, 54, 55, 56, 57, 58, 59, 60, 61, 44]) (AllEq.cons e45 (AllEq.cons e46 (AllEq.cons e47 (AllEq.cons e48 (AllEq.cons e49 (AllEq.cons e50 (AllEq.cons e51 (AllEq.cons e52 (AllEq.cons e53 (AllEq.cons e54 (AllEq.cons e55 (AllEq.cons e56 (AllEq.cons e57 (AllEq.cons e58 (AllEq.cons e59 (AllEq.cons e60 (AllEq.cons e61 (AllEq.cons e44 (AllEq.nil))))))))))))))))))) hE rfl]
          clear hF hE e45 e46 e47 e48 e49 e50 e51 e52 e53 e54 e55 e56 e57 e58 e59 e60 e61 e44
          simp only [List.foldl_cons, List.foldl_nil, Act.put, List.setIfInBounds_toArray, List.set_cons_succ, List.set_cons_zero]
          have hb2' := hbl.trans (R2.mono hzz)
          have hz2' := hb2'.size
          have hX2 : Xs w.heap.size (.slice A 0 c) [] w2 := hX.below R2
          clear hX hbl R2 hzz
          go_wp2_with (at_builtin; refine wpList_append_own_at _ rfl _ _ 65 rfl w.heap.size 107 i0 _ 2 24 Try.underlying65 hi hz0 hz1 hz2 rfl (by decide) _ 0 [] rfl (World.ownsRow.alloc hX2 _) ⟨w2.heap.size, 0, none⟩ 1 1 [.int .i64 k, .string S] rfl rfl (Z3g w2 k S) (Z61 k S) ?c3 ?c4 ?c5 ?_)
          case c3 => unfold maxLen; omega
          case c4 => omega
          case c5 => simp; omega
          intro v' w3 hown' hgrow _ _
          have hb4 : Below w.heap.size w w3 := (hb2'.alloc hz2' _).grown hgrow (by simp; omega) (fun j hj => (World.ownsRow.lt hX2 j hj).1)
          have hX4 : Xs w.heap.size v' [(k, S)] w3 := by simpa [Xs, flatX] using hown'
          clear hown' hgrow hX2 hb2'
          go_wp2_with fail
          go_roundw
          case rel => exact ⟨k + 1, by omega, by go_num, by rw [Hn.out]; exact hX4, hb4⟩
          case measure => simp [intOf]; omega
        · rw [List.concat_eq_append] at hnext hX hbd
          rw [Z1a] at hnext
          have hx := hbd x (by simp)
          obtain ⟨xa, xd⟩ := x
          simp only at hx
          obtain ⟨g, c, hv, hBg, hglt, c0, c1, -, -⟩ := hX.last
          subst hv
          simp only at c0 c1
          obtain ⟨Z, hZ⟩ : ∃ Z, xd.size / 16 = Z := ⟨_, rfl⟩
          have hx1 : xa ≤ 1000000 := by omega
          have hx2 : Z ≤ 1000000 := by omega
          have hx3 : xd.size ≤ 16000000 := by omega
          have HS : ∀ W : World, Calls Try.prog 43 #[.agg #[.int .i64 (xa : Int), .string xd]] W fun e w' => e = .returned (.int .i64 (Z : Int)) ∧ Ext W w' := by
            intro W; rw [← hZ]; exact Z4b _ _ W (by omega)
          have hHS := Lib.hid HS
          simp only [hZ] at hnext
          have HXX := Lib.hid (fun (W : World) (h : Ext wr W) => hX.below h)
          have HC := Lib.hid (fun (W : World) (h : Ext wr W) => And.intro ((bcell h).1 g (P.length * 2) hglt |>.trans c0) ((bcell h).1 g (P.length * 2 + 1) hglt |>.trans c1))
          clear HS hZ hbd hX
          have hp : P.length ≤ 1000000 := by simp at hlk; omega
          have hidx : ((P.length + 1 : Nat) : Int) - 1 = (P.length : Int) := by omega
          clear hlk
          generalize hP : P.length = p at c0 c1 hp hidx HC ⊢
          have HP := Lib.hid hP
          clear hP
          have hwz : IntKind.i64.wrap ((xa : Int) + (Z : Int)) = (xa : Int) + (Z : Int) := IntWalk.i64_in _ (by omega)
          go_wp2_with fail
          refine (hSb.out _).mono ?_
          rintro e w5 ⟨rfl, rfl⟩
          go_wp2_with fail
          refine (hSa.out _).mono ?_
          rintro e w5 ⟨rfl, rfl⟩
          go_upto_region 11 with fail
          by_cases hm : xa + Z = k
          · have hdec : ((xa : Int) + (Z : Int) == (k : Int)) = true := by rw [beq_iff_eq]; omega
            rw [if_pos hm] at hnext
            have Hn := Lib.hid hnext
            clear hnext hm
            refine Z06 (R := Ext) (w0 := wr) [[], [0], [0, 1], [0, 1, 2], [0, 1, 2], [0, 1, 2, 3, 4], [0, 1, 2, 3, 4, 5], [0, 1, 2, 3, 4, 5, 6], [0, 1, 2], [0, 1, 2], [0, 1, 2, 8, 9], [0, 1, 2, 8, 9, 10], [0, 1, 2, 8, 9, 10, 11], [0, 1, 2, 3, 4, 5, 6, 7, 8, 9, 10, 11, 12], [0, 1, 2], [0, 1, 2, 3, 4, 5, 6, 7, 8, 9, 10, 11, 12, 13, 14], [0, 1, 2, 3, 4, 5, 6, 7, 8, 9, 10, 11, 12, 13, 14, 15], [0, 1, 2, 3, 4, 5, 6, 7, 8, 9, 10, 11, 12, 13, 14, 15, 16]] [45, 46, 47, 48, 49, 50, 51, 52, 53, 54, 55, 56, 57, 58, 59, 60, 61, 44] Ext.refl (fun _ _ _ => Ext.trans) (Ext.drew _) (by kernel_rfl) ?_
            apply Build.det 45 Ext.refl (by rfl) (by rfl) rfl
            case h =>
              intro ax wx hE hR hF
              have e9 : ax.eval (.tmp 9) = .int .i64 p := hE.eval 9 (by rfl) rfl
              simp [go_sem, ↓IntWalk.iteOmega, ev e9, hwz, hdec]
              with_reducible rfl
            apply Build.det 46 Ext.refl (by rfl) (by rfl) rfl
            case h =>
              intro ax wx hE hR hF
              have e45 := hF 0 (det 45 _) (by decide) (.head _)
              simp [go_sem, ↓IntWalk.iteOmega, ev e45, hwz, hdec]
              with_reducible rfl
            apply Build.det 47 Ext.refl (by rfl) (by rfl) rfl
            case h =>
              intro ax wx hE hR hF
              have e46 := hF 1 (det 46 _) (by decide) (.head _)
              simp [go_sem, ↓IntWalk.iteOmega, ev e46, hwz, hdec]
              with_reducible rfl
            apply Build.detg 48 Ext.refl (by rfl) (by rfl) rfl rfl
            case h =>
              intro ax wx hE hR hF
              have e6 : ax.eval (.tmp 6) = .slice (some ⟨g, 0, none⟩) (p + 1) c := hE.eval 6 (by rfl) rfl
              have e47 := hF 2 (det 47 _) (by decide) (.head _)
              refine ⟨e47, ?_⟩
              simp [go_sem, ↓IntWalk.iteOmega, ev e6, ev e47, hwz, hdec]
              with_reducible rfl
            apply Build.detg 49 Ext.refl (by rfl) (by rfl) rfl rfl
            case h =>
              intro ax wx hE hR hF
              have e9 : ax.eval (.tmp 9) = .int .i64 p := hE.eval 9 (by rfl) rfl
              have e47 := hF 2 (det 47 _) (by decide) (.tail _ (.head _))
              refine ⟨e47, ?_⟩
              simp [go_sem, ↓IntWalk.iteOmega, ev e9, ev e47, hwz, hdec]
              with_reducible rfl
            apply Build.detg 50 Ext.refl (by rfl) (by rfl) rfl rfl
            case h =>
              intro ax wx hE hR hF
              have e47 := hF 2 (det 47 _) (by decide) (.tail _ (.tail _ (.head _)))
              have e48 := hF 3 (det 48 _) (by decide) (.tail _ (.head _))
              have e49 := hF 4 (det 49 _) (by decide) (.head _)
              refine ⟨e47, ?_⟩
              simp [go_sem, ↓IntWalk.iteOmega, ev e47, ev e48, ev e49, hwz, hdec]
              with_reducible rfl
            apply Build.detg 51 Ext.refl (by rfl) (by rfl) rfl rfl
            case h =>
              intro ax wx hE hR hF
              have e47 := hF 2 (det 47 _) (by decide) (.tail _ (.tail _ (.tail _ (.head _))))
              have e50 := hF 5 (det 50 _) (by decide) (.head _)
              refine ⟨e47, ?_⟩
              simp [go_sem, ↓IntWalk.iteOmega, ev e47, ev e50, hwz, hdec]
              with_reducible rfl
            apply Build.detg 52 Ext.refl (by rfl) (by rfl) rfl rfl
            case h =>
              intro ax wx hE hR hF
              have e47 := hF 2 (det 47 _) (by decide) (mem4 (.head _))
              have e51 := hF 6 (det 51 _) (by decide) (.head _)
              have p0 := (HC.out _ hR).1; have p1 := (HC.out _ hR).2
              refine ⟨e47, ?_⟩
              simp [go_sem, ↓IntWalk.iteOmega, ev e47, ev e51, hwz, hdec, p0, p1]
              with_reducible rfl
            apply Build.detg 53 Ext.refl (by rfl) (by rfl) rfl rfl
            case h =>
              intro ax wx hE hR hF
              have e6 : ax.eval (.tmp 6) = .slice (some ⟨g, 0, none⟩) (p + 1) c := hE.eval 6 (by rfl) rfl
              have e47 := hF 2 (det 47 _) (by decide) (mem4 (.tail _ (.head _)))
              refine ⟨e47, ?_⟩
              simp [go_sem, ↓IntWalk.iteOmega, ev e6, ev e47, hwz, hdec]
              with_reducible rfl
            apply Build.detg 54 Ext.refl (by rfl) (by rfl) rfl rfl
            case h =>
              intro ax wx hE hR hF
              have e9 : ax.eval (.tmp 9) = .int .i64 p := hE.eval 9 (by rfl) rfl
              have e47 := hF 2 (det 47 _) (by decide) (mem4 (.tail _ (.tail _ (.head _))))
              refine ⟨e47, ?_⟩
              simp [go_sem, ↓IntWalk.iteOmega, ev e9, ev e47, hwz, hdec]
              with_reducible rfl
            apply Build.detg 55 Ext.refl (by rfl) (by rfl) rfl rfl
            case h =>
              intro ax wx hE hR hF
              have e47 := hF 2 (det 47 _) (by decide) (mem4 (.tail _ (.tail _ (.tail _ (.head _)))))
              have e53 := hF 8 (det 53 _) (by decide) (.tail _ (.head _))
              have e54 := hF 9 (det 54 _) (by decide) (.head _)
              refine ⟨e47, ?_⟩
              simp [go_sem, ↓IntWalk.iteOmega, ev e47, ev e53, ev e54, hwz, hdec]
              with_reducible rfl
            apply Build.detg 56 Ext.refl (by rfl) (by rfl) rfl rfl
            case h =>
              intro ax wx hE hR hF
              have e47 := hF 2 (det 47 _) (by decide) (mem4 (mem4 (.head _)))
              have e55 := hF 10 (det 55 _) (by decide) (.head _)
              have p0 := (HC.out _ hR).1; have p1 := (HC.out _ hR).2
              refine ⟨e47, ?_⟩
              simp [go_sem, ↓IntWalk.iteOmega, ev e47, ev e55, hwz, hdec, p0, p1]
              with_reducible rfl
            apply Build.callg 57 Ext.refl (by rfl) (by rfl) rfl rfl
            case h =>
              intro ax wx hE hR hF
              have e47 := hF 2 (det 47 _) (by decide) (mem4 (mem4 (.tail _ (.head _))))
              have e56 := hF 11 (det 56 _) (by decide) (.head _)
              refine ⟨e47, ?_⟩
              simp [go_sem, ↓IntWalk.iteOmega, ev e47, ev e56, hwz, hdec]
              with_reducible exact ⟨rfl, rfl⟩
            case hc => intro wx hR; with_reducible exact hHS.out wx
            apply Build.detg 58 Ext.refl (by rfl) (by rfl) rfl rfl
            case h =>
              intro ax wx hE hR hF
              have e47 := hF 2 (det 47 _) (by decide) (mem4 (mem4 (.tail _ (.tail _ (.head _)))))
              have e52 := hF 7 (det 52 _) (by decide) (mem4 (.tail _ (.head _)))
              have e57 := hF 12 (det 57 _) (by decide) (.head _)
              refine ⟨e47, ?_⟩
              simp [go_sem, ↓IntWalk.iteOmega, ev e47, ev e52, ev e57, hwz, hdec]
              with_reducible rfl
            apply Build.detg 59 Ext.refl (by rfl) (by rfl) rfl rfl
            case h =>
              intro ax wx hE hR hF
              have e7 : ax.eval (.tmp 7) = .int .i64 k := hE.eval 7 (by rfl) rfl
              have e47 := hF 2 (det 47 _) (by decide) (mem4 (mem4 (.tail _ (.tail _ (.tail _ (.head _))))))
              refine ⟨e47, ?_⟩
              simp [go_sem, ↓IntWalk.iteOmega, ev e7, ev e47, hwz, hdec]
              with_reducible rfl
            apply Build.detg 60 Ext.refl (by rfl) (by rfl) rfl rfl
            case h =>
              intro ax wx hE hR hF
              have e47 := hF 2 (det 47 _) (by decide) (mem4 (mem4 (mem4 (.head _))))
              have e58 := hF 13 (det 58 _) (by decide) (.tail _ (.head _))
              have e59 := hF 14 (det 59 _) (by decide) (.head _)
              refine ⟨e47, ?_⟩
              simp [go_sem, ↓IntWalk.iteOmega, ev e47, ev e58, ev e59, hwz, hdec]
              with_reducible rfl
            apply Build.det 61 Ext.refl (by rfl) (by rfl) rfl
            case h =>
              intro ax wx hE hR hF
              have e47 := hF 2 (det 47 _) (by decide) (mem4 (mem4 (mem4 (.tail _ (.head _)))))
              have e60 := hF 15 (det 60 _) (by decide) (.head _)
              simp [go_sem, ↓IntWalk.iteOmega, ev e47, ev e60, hwz, hdec]
              with_reducible rfl
            apply Build.det 44 Ext.refl (by rfl) (by rfl) rfl
            case h =>
              intro ax wx hE hR hF
              have e61 := hF 16 (det 61 _) (by decide) (.head _)
              simp [go_sem, ↓IntWalk.iteOmega, ev e61, hwz, hdec]
              with_reducible rfl
            apply Build.stop
            refine ⟨by kernel_rfl, .inl ⟨rfl, ?_⟩⟩
            intro ax w2 hE R2 hF
            have e45 := hF 0 (det 45 _) (mem16 (.tail _ (.head _)))
            have e46 := hF 1 (det 46 _) (mem16 (.head _))
            have e47 := hF 2 (det 47 _) (mem4 (mem4 (mem4 (.tail _ (.tail _ (.tail _ (.head _)))))))
            have e48 := hF 3 (det 48 _) (mem4 (mem4 (mem4 (.tail _ (.tail _ (.head _))))))
            have e49 := hF 4 (det 49 _) (mem4 (mem4 (mem4 (.tail _ (.head _)))))
            have e50 := hF 5 (det 50 _) (mem4 (mem4 (mem4 (.head _))))
            have e51 := hF 6 (det 51 _) (mem4 (mem4 (.tail _ (.tail _ (.tail _ (.head _))))))
            have e52 := hF 7 (det 52 _) (mem4 (mem4 (.tail _ (.tail _ (.head _)))))
            have e53 := hF 8 (det 53 _) (mem4 (mem4 (.tail _ (.head _))))
            have e54 := hF 9 (det 54 _) (mem4 (mem4 (.head _)))
            have e55 := hF 10 (det 55 _) (mem4 (.tail _ (.tail _ (.tail _ (.head _)))))
            have e56 := hF 11 (det 56 _) (mem4 (.tail _ (.tail _ (.head _))))
            have e57 := hF 12 (det 57 _) (mem4 (.tail _ (.head _)))
            have e58 := hF 13 (det 58 _) (mem4 (.head _))
            have e59 := hF 14 (det 59 _) (.tail _ (.tail _ (.tail _ (.head _))))
            have e60 := hF 15 (det 60 _) (.tail _ (.tail _ (.head _)))
            have e61 := hF 16 (det 61 _) (.tail _ (.head _))
            have e44 := hF 17 (det 44 _) (.head _)
            rw [AllEq.frame (D := [45, 46, 47, 48, 49, 50, 51, 52, 53, 54, 55, 56, 57, 58, 59, 60, 61, 44]) (AllEq.cons e45 (AllEq.cons e46 (AllEq.cons e47 (AllEq.cons e48 (AllEq.cons e49 (AllEq.cons e50 (AllEq.cons e51 (AllEq.cons e52 (AllEq.cons e53 (AllEq.cons e54 (AllEq.cons e55 (AllEq.cons e56 (AllEq.cons e57 (AllEq.cons e58 (AllEq.cons e59 (AllEq.cons e60 (AllEq.cons e61 (AllEq.cons e44 (AllEq.nil))))))))))))))))))) hE rfl]
            clear hF hE e45 e46 e47 e48 e49 e50 e51 e52 e53 e54 e55 e56 e57 e58 e59 e60 e61 e44
            simp only [List.foldl_cons, List.foldl_nil, Act.put, List.setIfInBounds_toArray, List.set_cons_succ, List.set_cons_zero]
            have hb2' := hbl.trans (R2.mono hzz)
            have hz2' := hb2'.size
            have hX2 := HXX.out _ R2
            clear hbl R2 hzz c0 c1 HXX HC hHS hwz hdec
            obtain ⟨g', c', hv, hBg', hglt', c0', c1', f1', hst⟩ := hX2.last
            cases hv
            obtain ⟨hst1, hst2⟩ := hst (xd ++ S)
            have Hst := Lib.hid hst1
            have Hgr := Lib.hid (hb2'.grown hst2 hz2' (fun j hj => by injection hj with hj; omega))
            have HP' := HP.out
            rw [HP'] at c0' c1' f1' Hst Hgr
            clear hst hst1 hst2 HP' hX2
            simp only at c0' c1'
            have hcs : xd.size + S.size ≤ 20000000 := by omega
            go_wp2_with fail
            go_roundw
            case rel => exact ⟨k + 1, by omega, by go_num, by rw [Hn.out]; exact Hst.out, Hgr.out⟩
            case measure => simp [intOf]; omega
          · have hdec : ((xa : Int) + (Z : Int) == (k : Int)) = false := by rw [beq_eq_false_iff_ne]; omega
            rw [if_neg hm] at hnext
            have Hn := Lib.hid hnext
            clear hnext hm
            refine Z06 (R := Ext) (w0 := wr) [[], [0], [0, 1], [0, 1, 2], [0, 1, 2], [0, 1, 2, 3, 4], [0, 1, 2, 3, 4, 5], [0, 1, 2, 3, 4, 5, 6], [0, 1, 2], [0, 1, 2], [0, 1, 2, 8, 9], [0, 1, 2, 8, 9, 10], [0, 1, 2, 8, 9, 10, 11], [0, 1, 2, 3, 4, 5, 6, 7, 8, 9, 10, 11, 12], [0, 1, 2], [0, 1, 2, 3, 4, 5, 6, 7, 8, 9, 10, 11, 12, 13, 14], [0, 1, 2, 3, 4, 5, 6, 7, 8, 9, 10, 11, 12, 13, 14, 15], [0, 1, 2, 3, 4, 5, 6, 7, 8, 9, 10, 11, 12, 13, 14, 15, 16]] [45, 46, 47, 48, 49, 50, 51, 52, 53, 54, 55, 56, 57, 58, 59, 60, 61, 44] Ext.refl (fun _ _ _ => Ext.trans) (Ext.drew _) (by kernel_rfl) ?_
            apply Build.det 45 Ext.refl (by rfl) (by rfl) rfl
            case h =>
              intro ax wx hE hR hF
              have e9 : ax.eval (.tmp 9) = .int .i64 p := hE.eval 9 (by rfl) rfl
              simp [go_sem, ↓IntWalk.iteOmega, ev e9, hwz, hdec]
              with_reducible rfl
            apply Build.det 46 Ext.refl (by rfl) (by rfl) rfl
            case h =>
              intro ax wx hE hR hF
              have e45 := hF 0 (det 45 _) (by decide) (.head _)
              simp [go_sem, ↓IntWalk.iteOmega, ev e45, hwz, hdec]
              with_reducible rfl
            apply Build.det 47 Ext.refl (by rfl) (by rfl) rfl
            case h =>
              intro ax wx hE hR hF
              have e46 := hF 1 (det 46 _) (by decide) (.head _)
              simp [go_sem, ↓IntWalk.iteOmega, ev e46, hwz, hdec]
              with_reducible rfl
            apply Build.detg 48 Ext.refl (by rfl) (by rfl) rfl rfl
            case h =>
              intro ax wx hE hR hF
              have e6 : ax.eval (.tmp 6) = .slice (some ⟨g, 0, none⟩) (p + 1) c := hE.eval 6 (by rfl) rfl
              have e47 := hF 2 (det 47 _) (by decide) (.head _)
              refine ⟨e47, ?_⟩
              simp [go_sem, ↓IntWalk.iteOmega, ev e6, ev e47, hwz, hdec]
              with_reducible rfl
            apply Build.detg 49 Ext.refl (by rfl) (by rfl) rfl rfl
            case h =>
              intro ax wx hE hR hF
              have e9 : ax.eval (.tmp 9) = .int .i64 p := hE.eval 9 (by rfl) rfl
              have e47 := hF 2 (det 47 _) (by decide) (.tail _ (.head _))
              refine ⟨e47, ?_⟩
              simp [go_sem, ↓IntWalk.iteOmega, ev e9, ev e47, hwz, hdec]
              with_reducible rfl
            apply Build.detg 50 Ext.refl (by rfl) (by rfl) rfl rfl
            case h =>
              intro ax wx hE hR hF
              have e47 := hF 2 (det 47 _) (by decide) (.tail _ (.tail _ (.head _)))
              have e48 := hF 3 (det 48 _) (by decide) (.tail _ (.head _))
              have e49 := hF 4 (det 49 _) (by decide) (.head _)
              refine ⟨e47, ?_⟩
              simp [go_sem, ↓IntWalk.iteOmega, ev e47, ev e48, ev e49, hwz, hdec]
              with_reducible rfl
            apply Build.detg 51 Ext.refl (by rfl) (by rfl) rfl rfl
            case h =>
              intro ax wx hE hR hF
              have e47 := hF 2 (det 47 _) (by decide) (.tail _ (.tail _ (.tail _ (.head _))))
              have e50 := hF 5 (det 50 _) (by decide) (.head _)
              refine ⟨e47, ?_⟩
              simp [go_sem, ↓IntWalk.iteOmega, ev e47, ev e50, hwz, hdec]
              with_reducible rfl
            apply Build.detg 52 Ext.refl (by rfl) (by rfl) rfl rfl
            case h =>
              intro ax wx hE hR hF
              have e47 := hF 2 (det 47 _) (by decide) (mem4 (.head _))
              have e51 := hF 6 (det 51 _) (by decide) (.head _)
              have p0 := (HC.out _ hR).1; have p1 := (HC.out _ hR).2
              refine ⟨e47, ?_⟩
              simp [go_sem, ↓IntWalk.iteOmega, ev e47, ev e51, hwz, hdec, p0, p1]
              with_reducible rfl
            apply Build.detg 53 Ext.refl (by rfl) (by rfl) rfl rfl
            case h =>
              intro ax wx hE hR hF
              have e6 : ax.eval (.tmp 6) = .slice (some ⟨g, 0, none⟩) (p + 1) c := hE.eval 6 (by rfl) rfl
              have e47 := hF 2 (det 47 _) (by decide) (mem4 (.tail _ (.head _)))
              refine ⟨e47, ?_⟩
              simp [go_sem, ↓IntWalk.iteOmega, ev e6, ev e47, hwz, hdec]
              with_reducible rfl
            apply Build.detg 54 Ext.refl (by rfl) (by rfl) rfl rfl
            case h =>
              intro ax wx hE hR hF
              have e9 : ax.eval (.tmp 9) = .int .i64 p := hE.eval 9 (by rfl) rfl
              have e47 := hF 2 (det 47 _) (by decide) (mem4 (.tail _ (.tail _ (.head _))))
              refine ⟨e47, ?_⟩
              simp [go_sem, ↓IntWalk.iteOmega, ev e9, ev e47, hwz, hdec]
              with_reducible rfl
            apply Build.detg 55 Ext.refl (by rfl) (by rfl) rfl rfl
            case h =>
              intro ax wx hE hR hF
              have e47 := hF 2 (det 47 _) (by decide) (mem4 (.tail _ (.tail _ (.tail _ (.head _)))))
              have e53 := hF 8 (det 53 _) (by decide) (.tail _ (.head _))
              have e54 := hF 9 (det 54 _) (by decide) (.head _)
              refine ⟨e47, ?_⟩
              simp [go_sem, ↓IntWalk.iteOmega, ev e47, ev e53, ev e54, hwz, hdec]
              with_reducible rfl
            apply Build.detg 56 Ext.refl (by rfl) (by rfl) rfl rfl
            case h =>
              intro ax wx hE hR hF
              have e47 := hF 2 (det 47 _) (by decide) (mem4 (mem4 (.head _)))
              have e55 := hF 10 (det 55 _) (by decide) (.head _)
              have p0 := (HC.out _ hR).1; have p1 := (HC.out _ hR).2
              refine ⟨e47, ?_⟩
              simp [go_sem, ↓IntWalk.iteOmega, ev e47, ev e55, hwz, hdec, p0, p1]
              with_reducible rfl
            apply Build.callg 57 Ext.refl (by rfl) (by rfl) rfl rfl
            case h =>
              intro ax wx hE hR hF
              have e47 := hF 2 (det 47 _) (by decide) (mem4 (mem4 (.tail _ (.head _))))
              have e56 := hF 11 (det 56 _) (by decide) (.head _)
              refine ⟨e47, ?_⟩
              simp [go_sem, ↓IntWalk.iteOmega, ev e47, ev e56, hwz, hdec]
              with_reducible exact ⟨rfl, rfl⟩
            case hc => intro wx hR; with_reducible exact hHS.out wx
            apply Build.detg 58 Ext.refl (by rfl) (by rfl) rfl rfl
            case h =>
              intro ax wx hE hR hF
              have e47 := hF 2 (det 47 _) (by decide) (mem4 (mem4 (.tail _ (.tail _ (.head _)))))
              have e52 := hF 7 (det 52 _) (by decide) (mem4 (.tail _ (.head _)))
              have e57 := hF 12 (det 57 _) (by decide) (.head _)
              refine ⟨e47, ?_⟩
              simp [go_sem, ↓IntWalk.iteOmega, ev e47, ev e52, ev e57, hwz, hdec]
              with_reducible rfl
            apply Build.detg 59 Ext.refl (by rfl) (by rfl) rfl rfl
            case h =>
              intro ax wx hE hR hF
              have e7 : ax.eval (.tmp 7) = .int .i64 k := hE.eval 7 (by rfl) rfl
              have e47 := hF 2 (det 47 _) (by decide) (mem4 (mem4 (.tail _ (.tail _ (.tail _ (.head _))))))
              refine ⟨e47, ?_⟩
              simp [go_sem, ↓IntWalk.iteOmega, ev e7, ev e47, hwz, hdec]
              with_reducible rfl
            apply Build.detg 60 Ext.refl (by rfl) (by rfl) rfl rfl
            case h =>
              intro ax wx hE hR hF
              have e47 := hF 2 (det 47 _) (by decide) (mem4 (mem4 (mem4 (.head _))))
              have e58 := hF 13 (det 58 _) (by decide) (.tail _ (.head _))
              have e59 := hF 14 (det 59 _) (by decide) (.head _)
              refine ⟨e47, ?_⟩
              simp [go_sem, ↓IntWalk.iteOmega, ev e47, ev e58, ev e59, hwz, hdec]
              with_reducible rfl
            apply Build.det 61 Ext.refl (by rfl) (by rfl) rfl
            case h =>
              intro ax wx hE hR hF
              have e47 := hF 2 (det 47 _) (by decide) (mem4 (mem4 (mem4 (.tail _ (.head _)))))
              have e60 := hF 15 (det 60 _) (by decide) (.head _)
              simp [go_sem, ↓IntWalk.iteOmega, ev e47, ev e60, hwz, hdec]
              with_reducible rfl
            apply Build.det 44 Ext.refl (by rfl) (by rfl) rfl
            case h =>
              intro ax wx hE hR hF
              have e61 := hF 16 (det 61 _) (by decide) (.head _)
              simp [go_sem, ↓IntWalk.iteOmega, ev e61, hwz, hdec]
              with_reducible rfl
            apply Build.stop
            refine ⟨by kernel_rfl, .inl ⟨rfl, ?_⟩⟩
            intro ax w2 hE R2 hF
            have e45 := hF 0 (det 45 _) (mem16 (.tail _ (.head _)))
            have e46 := hF 1 (det 46 _) (mem16 (.head _))
            have e47 := hF 2 (det 47 _) (mem4 (mem4 (mem4 (.tail _ (.tail _ (.tail _ (.head _)))))))
            have e48 := hF 3 (det 48 _) (mem4 (mem4 (mem4 (.tail _ (.tail _ (.head _))))))
            have e49 := hF 4 (det 49 _) (mem4 (mem4 (mem4 (.tail _ (.head _)))))
            have e50 := hF 5 (det 50 _) (mem4 (mem4 (mem4 (.head _))))
            have e51 := hF 6 (det 51 _) (mem4 (mem4 (.tail _ (.tail _ (.tail _ (.head _))))))
            have e52 := hF 7 (det 52 _) (mem4 (mem4 (.tail _ (.tail _ (.head _)))))
            have e53 := hF 8 (det 53 _) (mem4 (mem4 (.tail _ (.head _))))
            have e54 := hF 9 (det 54 _) (mem4 (mem4 (.head _)))
            have e55 := hF 10 (det 55 _) (mem4 (.tail _ (.tail _ (.tail _ (.head _)))))
            have e56 := hF 11 (det 56 _) (mem4 (.tail _ (.tail _ (.head _))))
            have e57 := hF 12 (det 57 _) (mem4 (.tail _ (.head _)))
            have e58 := hF 13 (det 58 _) (mem4 (.head _))
            have e59 := hF 14 (det 59 _) (.tail _ (.tail _ (.tail _ (.head _))))
            have e60 := hF 15 (det 60 _) (.tail _ (.tail _ (.head _)))
            have e61 := hF 16 (det 61 _) (.tail _ (.head _))
            have e44 := hF 17 (det 44 _) (.head _)
            rw [AllEq.frame (D := [45, 46, 47, 48, 49, 50, 51, 52, 53, 54, 55, 56, 57, 58, 59, 60, 61, 44]) (AllEq.cons e45 (AllEq.cons e46 (AllEq.cons e47 (AllEq.cons e48 (AllEq.cons e49 (AllEq.cons e50 (AllEq.cons e51 (AllEq.cons e52 (AllEq.cons e53 (AllEq.cons e54 (AllEq.cons e55 (AllEq.cons e56 (AllEq.cons e57 (AllEq.cons e58 (AllEq.cons e59 (AllEq.cons e60 (AllEq.cons e61 (AllEq.cons e44 (AllEq.nil))))))))))))))))))) hE rfl]
            clear hF hE e45 e46 e47 e48 e49 e50 e51 e52 e53 e54 e55 e56 e57 e58 e59 e60 e61 e44
            simp only [List.foldl_cons, List.foldl_nil, Act.put, List.setIfInBounds_toArray, List.set_cons_succ, List.set_cons_zero]
            have hb2' := hbl.trans (R2.mono hzz)
            have hz2' := hb2'.size
            have hX2 := HXX.out _ R2
            clear hbl R2 hzz c0 c1 HXX HC hHS hwz hdec
            have hX3 : w2.ownsRow w.heap.size 107 2 (.slice (some ⟨g, 0, none⟩) (p + 1) c) (p + 1) (flatX (P ++ [(xa, xd)])) := by
              have := hX2
              unfold Xs at this
              rw [List.length_append, List.length_singleton, HP.out] at this
              exact this
            clear hX2
            go_wp2_with (at_builtin; refine wpList_append_own_at _ rfl _ _ 65 rfl w.heap.size 107 i0 _ 2 24 Try.underlying65 hi hz0 hz1 hz2 rfl (by decide) _ (p + 1) (flatX (P ++ [(xa, xd)])) rfl (World.ownsRow.alloc hX3 _) ⟨w2.heap.size, 0, none⟩ 1 1 [.int .i64 k, .string S] rfl rfl (Z3g w2 k S) (Z61 k S) ?c3 ?c4 ?c5 ?_)
            case c3 => unfold maxLen; omega
            case c4 => omega
            case c5 => simp; omega
            intro v' w3 hown' hgrow _ _
            have hb4 : Below w.heap.size w w3 := (hb2'.alloc hz2' _).grown hgrow (by simp; omega) (fun j hj => (World.ownsRow.lt hX3 j hj).1)
            have hX4 : Xs w.heap.size v' (P ++ [(xa, xd)] ++ [(k, S)]) w3 := by
              unfold Xs
              rw [List.length_append, List.length_append, List.length_singleton, List.length_singleton, HP.out, Z1s]
              exact hown'
            clear hown' hgrow hX3 hb2'
            go_wp2_with fail
            go_roundw
            case rel => exact ⟨k + 1, by omega, by go_num, by rw [Hn.out]; exact hX4, hb4⟩
            case measure => simp [intOf]; omega
    · obtain rfl : k = n := by omega
      obtain ⟨A, c, hv⟩ := hX.form
      have HX := Lib.hid hX
      rw [hv] at HX
      subst hv
      clear hX
      go_wp2_with fail
      go_ret2
      exact ⟨_, rfl, HX.out, hbl⟩
end Go.Proofs.Ytbfgacmfjfbooaa
