/- The walks of octet: Len, Fill, String of whatever was written, Zeros. -/
import Derived.Test.YtencbdcfcpohaaaDoorWs
import Derived.Test.YtencbdcfcpohaaaDoorGet
import Derived.Test.YtencbdcfcpohaaaDoorShelf
import Derived.Test.YtencbdcfcpohaaaDoorTypedB
namespace Go.Proofs.YtencbdcfcpohaaaDoor
set_option linter.unusedVariables false
set_option linter.unusedSimpArgs false
open Go.RowKit

theorem Wr.form {w : World} {b : Nat} {g : Option Nat} {l : List UInt8} (h : Wr w b g l) : ∃ p ao cap, w.heap[b]? = some (.cells #[p, .slice ao l.length cap] 30 (0, 0)) ∧ l.length ≤ maxLen := by
  obtain ⟨p, hp, v, hbk, hown, hg⟩ : ∃ p, (p = .pointer none ∨ p = .pointer (some ⟨b, 0, none⟩)) ∧ WrP w b g p l := by
    rcases h with h | h
    · exact ⟨_, .inl rfl, h⟩
    · exact ⟨_, .inr rfl, h⟩
  rcases hown.2 with ⟨hv, hz⟩ | ⟨k, cap, cur, fz, hv, _, _, _, hnc, hcm, _⟩
  · exact ⟨p, none, 0, by rw [hbk, hv, hz], by rw [hz]; decide⟩
  · exact ⟨p, _, cap, by rw [hbk, hv], Nat.le_trans hnc hcm⟩
theorem blen_any (b : Nat) (g : Option Nat) (l : List UInt8) (w : World) (h : Wr w b g l) :
    Calls Tryd.prog 38 #[.pointer (some ⟨b, 0, none⟩)] w fun e w' => e = .returned (.int .i64 l.length) ∧ w = w' := by
  obtain ⟨p, ao, cap, hb, hm⟩ := h.form
  have c1 : w.cell? ⟨b, 1, none⟩ = some (.slice ao l.length cap) := Blk.cell hb 1
  clear hb h
  go_enter Tryd.func38, Tryd.ntmps38
  go_wp2
  go_ret
  exact ⟨rfl, rfl⟩
theorem ws_len {A : World} {b : Nat} {L : List UInt8} {w : World} (h : Ws A b L w) :
    Calls Tryd.prog 16 #[.pointer (some ⟨b, 0, none⟩)] w fun e w' => e = .returned (.int .i64 L.length) ∧ w = w' := by
  obtain ⟨g, hW, _⟩ := h
  go_enter Tryd.func16, Tryd.ntmps16
  go_wp2_with fail
  refine (blen_any b g L _ hW).mono ?_
  rintro e w1 ⟨rfl, rfl⟩
  go_wp2_with fail
  go_ret
  exact ⟨rfl, rfl⟩

theorem wrote_alloc {w : World} {b : Nat} {g : Option Nat} (o : Obj) : Wrote w b g g (w.alloc o) :=
  ⟨rfl, rfl, rfl, by simp, fun i hi _ _ => Below.heap_alloc w o i hi, .inl rfl⟩
/-- String of a writer that holds nothing. -/
theorem string_nil (b : Nat) (g : Option Nat) (w : World) (h : Wr w b g []) :
    Calls Tryd.prog 40 #[.pointer (some ⟨b, 0, none⟩)] w fun e w' => e = .returned (.string ⟨#[]⟩) ∧ Wr w' b g [] ∧ Wrote w b g g w' := by
  obtain ⟨p, hp, v, hbk, hown, hg⟩ : ∃ p, (p = .pointer none ∨ p = .pointer (some ⟨b, 0, none⟩)) ∧ WrP w b g p [] := by
    rcases h with h | h
    · exact ⟨_, .inl rfl, h⟩
    · exact ⟨_, .inr rfl, h⟩
  have H := Lib.hid h
  have hUS : ∀ (q : Option Addr) (W : World), (Builtin.unsafeString_ #[101, 3] 9 #[.pointer q, .int .i64 0]).run Tryd.prog W = .ok (.string ⟨#[]⟩) W := fun q W => Lib.run_unsafeString_none (w := W) _ _ _ q
  rcases hown.2 with ⟨rfl, _⟩ | ⟨k, cap, cur, fz, rfl, _, hk, hfz, hnc, hcm, hcs, htake⟩
  · have c1 : w.drew.cell? ⟨b, 1, none⟩ = some (.slice none 0 0) := Blk.cell (w := w.drew) hbk 1
    have hSD : (Builtin.unsafeSliceData_ #[26] 101 #[.slice none 0 0]).run Tryd.prog w.drew = .ok (.pointer none) w.drew := Lib.run_unsafeSliceData_nil _ _ _ _ _
    clear h hbk hown hp hg
    go_enter Tryd.func40, Tryd.ntmps40
    go_wp2
    go_region
    all_goals (go_wp2; go_ret; exact ⟨rfl, H.out.drew, (Wrote.refl w b g).drew⟩)
  · simp only [List.length_nil] at *
    by_cases hc0 : cap = 0
    · subst hc0
      have c1 : w.drew.cell? ⟨b, 1, none⟩ = some (.slice (some ⟨k, 0, none⟩) 0 0) := Blk.cell (w := w.drew) hbk 1
      have hSD : (Builtin.unsafeSliceData_ #[26] 101 #[.slice (some ⟨k, 0, none⟩) 0 0]).run Tryd.prog w.drew = .ok (.pointer (some ⟨w.heap.size, 0, none⟩)) (w.alloc (.view ⟨k, 0, none⟩ 5)).drew :=
        Lib.run_unsafeSliceData_zero (w := w.drew) _ _ 5 Tryd.underlying101 _ _ (5, cur.size) (by have hk' : w.drew.heap[k]? = some (.cells cur 5 fz) := hk; simp [World.shape?, hk'])
      have c2 : (w.alloc (.view ⟨k, 0, none⟩ 5)).cell? ⟨b, 1, none⟩ = some (.slice (some ⟨k, 0, none⟩) 0 0) := Blk.cell (w := w.alloc _) (Blk.alloc hbk _) 1
      clear h hbk hown hp hg htake hk
      go_enter Tryd.func40, Tryd.ntmps40
      go_wp2
      go_region
      all_goals (go_wp2; go_ret; exact ⟨rfl, (H.out.alloc _).drew, (wrote_alloc _).drew⟩)
    · have c1 : w.drew.cell? ⟨b, 1, none⟩ = some (.slice (some ⟨k, 0, none⟩) 0 cap) := Blk.cell (w := w.drew) hbk 1
      have hSD : (Builtin.unsafeSliceData_ #[26] 101 #[.slice (some ⟨k, 0, none⟩) 0 cap]).run Tryd.prog w.drew = .ok (.pointer (some ⟨k, 0, none⟩)) w.drew := Lib.run_unsafeSliceData_row _ _ _ _ _ _ hc0
      clear h hbk hown hp hg htake hk
      go_enter Tryd.func40, Tryd.ntmps40
      go_wp2
      go_region
      all_goals (go_wp2; go_ret; exact ⟨rfl, H.out.drew, (Wrote.refl w b g).drew⟩)

theorem bstring_any (b : Nat) (g : Option Nat) (l : List UInt8) (w : World) (h : Wr w b g l) :
    Calls Tryd.prog 40 #[.pointer (some ⟨b, 0, none⟩)] w fun e w' => e = .returned (.string ⟨l.toArray⟩) ∧ Wr w' b g l ∧ Wrote w b g g w' := by
  by_cases h0 : l = []
  · subst h0; exact string_nil b g w h
  · exact string_some b g l w h h0
theorem ws_str {A : World} {b : Nat} {L : List UInt8} {w : World} (h : Ws A b L w) :
    Calls Tryd.prog 15 #[.pointer (some ⟨b, 0, none⟩)] w fun e w' => e = .returned (.string ⟨L.toArray⟩) ∧ Ws A b L w' := by
  obtain ⟨g, hW, hg, hA, hs⟩ := h
  go_enter Tryd.func15, Tryd.ntmps15
  go_wp2_with fail
  refine (bstring_any b g L _ hW).mono ?_
  rintro e w' ⟨rfl, hW', hK⟩
  have H := Lib.hid (show Ws A b L w' from ⟨g, hW', hK.own_from hs hg, hK.below hA hs (Nat.le_refl _) hg, Nat.le_trans hs hK.size⟩)
  clear hW' hK hW hg hA hs
  go_wp2_with fail
  go_ret
  exact ⟨rfl, H.out⟩

/-- Zeros up to so many bytes. -/
def fillL (L : List UInt8) (n : Int) : List UInt8 := L ++ List.replicate (n - L.length).toNat 0
theorem repeat0 (c : Nat) : Lib.repeatL [0] c = List.replicate c (0 : UInt8) := by
  induction c with
  | zero => rfl
  | succ c ih => rw [Lib.repeatL, ih]; rfl
theorem wrote_ext {w w' : World} {b : Nat} {g : Option Nat} (h : Below w.heap.size w w') : Wrote w b g g w' := ⟨h.os, h.tape, h.output, h.size, fun k hk _ _ => h.block k hk, .inl rfl⟩
set_option maxHeartbeats 1000000 in
theorem fill_any (b : Nat) (g : Option Nat) (L : List UInt8) (n : Int) (w : World) (h : Wr w b g L) (hn : n ≤ 1000000) (hlen : L.length ≤ 1000000) :
    Calls Tryd.prog 14 #[.pointer (some ⟨b, 0, none⟩), .int .i64 n] w fun e w' => e = .returned (.tuple #[]) ∧ ∃ g', Wr w' b g' (fillL L n) ∧ Wrote w b g g' w' := by
  by_cases hlt : (L.length : Int) < n
  · obtain ⟨c, rfl⟩ : ∃ c : Nat, n = L.length + c := ⟨(n - L.length).toNat, by omega⟩
    have e0 : fillL L (L.length + c) = L ++ List.replicate c 0 := by unfold fillL; rw [show ((L.length : Int) + c - L.length).toNat = c by omega]
    rw [e0]
    have h1 : decide ((L.length : Int) < (L.length : Int) + c) = true := by simpa using hlt
    have hsub : IntKind.i64.wrap ((L.length : Int) + c - L.length) = (c : Int) := by rw [IntWalk.i64_in _ (by omega)]; omega
    have hsub2 : IntKind.i64.wrap (c : Int) = (c : Int) := IntWalk.i64_in _ (by omega)
    have HL := Lib.hid (fun (W : World) (hW : Wr W b g L) => (blen_any b g L W hW : Calls Tryd.prog 38 #[.pointer (some ⟨b, 0, none⟩)] W fun e w' => e = .returned (.int .i64 L.length) ∧ W = w'))
    have HR : Hid (∀ W : World, Calls Tryd.prog 39 #[.string ⟨#[0]⟩, .int .i64 c] W fun e w' => e = .returned (.string ⟨(List.replicate c (0 : UInt8)).toArray⟩) ∧ Below W.heap.size W w') := by
      intro W
      have := Tryd.strings_Repeat ⟨#[0]⟩ c W (by omega) (by show 1 * c ≤ _; omega)
      rwa [show (⟨#[0]⟩ : ByteArray).data.toList = [0] from rfl, repeat0] at this
    have HWs : Hid (∀ W : World, Ext w W → Calls Tryd.prog 37 #[.pointer (some ⟨b, 0, none⟩), .string ⟨(List.replicate c (0 : UInt8)).toArray⟩] W fun e w' => e = .returned (.tuple #[.int .i64 c, .nilIface]) ∧ ∃ g', Wr w' b g' (L ++ List.replicate c 0) ∧ Wrote w b g g' w') := by
      intro W hE
      refine (writeString_any b g L ⟨(List.replicate c (0 : UInt8)).toArray⟩ W (h.below hE) (by simp [ByteArray.size]; omega)).mono ?_
      rintro e w' ⟨rfl, g', hW', hK⟩
      exact ⟨by simp [ByteArray.size], g', .inr (by simpa using hW'), (wrote_ext hE).trans hK⟩
    have H := Lib.hid h
    generalize (List.replicate c (0 : UInt8)) = Z at HR HWs ⊢
    clear e0 hlt h
    go_enter Tryd.func14, Tryd.ntmps14
    go_wp2_with fail
    refine (HL.out _ H.out).mono ?_
    rintro e w1 ⟨rfl, rfl⟩
    go_upto_region 1 with fail
    refine wp_typed (R := Ext) (w0 := w) [[], [0], [0, 1], [], [], [4], [4, 5], [4, 5, 6], [3, 4, 5, 6, 7], [3, 4, 5, 6, 7, 8], [0, 1, 2, 3, 4, 5, 6, 7, 8, 9]] [14, 15, 16, 17, 18, 19, 20, 21, 22, 23] Ext.refl (fun _ _ _ => Ext.trans) (Ext.drew _) (by kernel_rfl) ?_
    apply Build.det 14 Ext.refl (by rfl) (by rfl) rfl
    case h =>   -- 0: t14 := Op.move (tmp 0)
      intro ax wx hE hR hF
      have e0 : ax.eval (.tmp 0) = .pointer (some ⟨b, 0, none⟩) := hE.eval 0 (by rfl) rfl
      simp [go_sem, BigFrame.eval_const, BigFrame.eval_global, BigFrame.eval_func, ↓IntWalk.iteOmega, ev e0]
      with_reducible rfl
    apply Build.det 15 Ext.refl (by rfl) (by rfl) rfl
    case h =>   -- 1: t15 := Op.nilCheck (tmp 14)
      intro ax wx hE hR hF
      have e14 : ax.eval (.tmp 14) = _ := hF 0 (det 14 _) (by decide) (.head _)
      simp [go_sem, BigFrame.eval_const, BigFrame.eval_global, BigFrame.eval_func, ↓IntWalk.iteOmega, ev e14]
      with_reducible rfl
    apply Build.det 16 Ext.refl (by rfl) (by rfl) rfl
    case h =>   -- 2: t16 := Op.fieldAddr 30 (tmp 15) 0
      intro ax wx hE hR hF
      have e15 : ax.eval (.tmp 15) = _ := hF 1 (det 15 _) (by decide) (.head _)
      simp [go_sem, BigFrame.eval_const, BigFrame.eval_global, BigFrame.eval_func, ↓IntWalk.iteOmega, ev e15]
      with_reducible rfl
    apply Build.det 17 Ext.refl (by rfl) (by rfl) rfl
    case h =>   -- 3: t17 := Op.move (tmp 1)
      intro ax wx hE hR hF
      have e1 : ax.eval (.tmp 1) = .int .i64 ((L.length : Int) + c) := hE.eval 1 (by rfl) rfl
      simp [go_sem, BigFrame.eval_const, BigFrame.eval_global, BigFrame.eval_func, ↓IntWalk.iteOmega, ev e1]
      with_reducible rfl
    apply Build.det 18 Ext.refl (by rfl) (by rfl) rfl
    case h =>   -- 4: t18 := Op.move (tmp 0)
      intro ax wx hE hR hF
      have e0 : ax.eval (.tmp 0) = .pointer (some ⟨b, 0, none⟩) := hE.eval 0 (by rfl) rfl
      simp [go_sem, BigFrame.eval_const, BigFrame.eval_global, BigFrame.eval_func, ↓IntWalk.iteOmega, ev e0]
      with_reducible rfl
    apply Build.det 19 Ext.refl (by rfl) (by rfl) rfl
    case h =>   -- 5: t19 := Op.nilCheck (tmp 18)
      intro ax wx hE hR hF
      have e18 : ax.eval (.tmp 18) = _ := hF 4 (det 18 _) (by decide) (.head _)
      simp [go_sem, BigFrame.eval_const, BigFrame.eval_global, BigFrame.eval_func, ↓IntWalk.iteOmega, ev e18]
      with_reducible rfl
    apply Build.det 20 Ext.refl (by rfl) (by rfl) rfl
    case h =>   -- 6: t20 := Op.fieldAddr 30 (tmp 19) 0
      intro ax wx hE hR hF
      have e19 : ax.eval (.tmp 19) = _ := hF 5 (det 19 _) (by decide) (.head _)
      simp [go_sem, BigFrame.eval_const, BigFrame.eval_global, BigFrame.eval_func, ↓IntWalk.iteOmega, ev e19]
      with_reducible rfl
    apply Build.call 21 Ext.refl (by rfl) (by rfl) rfl
    case h =>
      intro ax wx hE hR hF
      have e20 : ax.eval (.tmp 20) = _ := hF 6 (det 20 _) (by decide) (.head _)
      simp [go_sem, BigFrame.eval_const, BigFrame.eval_global, BigFrame.eval_func, ↓IntWalk.iteOmega, ev e20]
      with_reducible exact ⟨rfl, rfl⟩
    case hc => intro wx hR; with_reducible exact (HL.out wx (H.out.below hR)).mono (fun e w' h => ⟨h.1, ext_of_same h.2⟩)
    apply Build.det 22 Ext.refl (by rfl) (by rfl) rfl
    case h =>   -- 8: t22 := Op.binOp BinOp.sub 3 (tmp 17) (tmp 21) 3
      intro ax wx hE hR hF
      have e17 : ax.eval (.tmp 17) = _ := hF 3 (det 17 _) (by decide) (.tail _ (.tail _ (.tail _ (.tail _ (.head _)))))
      have e21 : ax.eval (.tmp 21) = _ := hF 7 (det 21 _) (by decide) (.head _)
      simp [go_sem, BigFrame.eval_const, BigFrame.eval_global, BigFrame.eval_func, ↓IntWalk.iteOmega, ev e17, ev e21, hsub, hsub2]
      with_reducible rfl
    apply Build.call 23 Ext.refl (by rfl) (by rfl) rfl
    case h =>
      intro ax wx hE hR hF
      have e22 : ax.eval (.tmp 22) = _ := hF 8 (det 22 _) (by decide) (.head _)
      simp [go_sem, BigFrame.eval_const, BigFrame.eval_global, BigFrame.eval_func, ↓IntWalk.iteOmega, ev e22]
      with_reducible exact ⟨rfl, rfl⟩
    case hc => intro wx hR; with_reducible exact HR.out wx
    apply Build.stop
    refine ⟨by kernel_rfl, .inr ⟨by kernel_rfl, _, rfl, rfl, ?_⟩⟩
    intro ax w2 hE R2 hF
    have e14 : ax.eval (.tmp 14) = _ := hF 0 (det 14 _) (.tail _ (.tail _ (.tail _ (.tail _ (.tail _ (.tail _ (.tail _ (.tail _ (.tail _ (.head _))))))))))
    have e15 : ax.eval (.tmp 15) = _ := hF 1 (det 15 _) (.tail _ (.tail _ (.tail _ (.tail _ (.tail _ (.tail _ (.tail _ (.tail _ (.head _)))))))))
    have e16 : ax.eval (.tmp 16) = _ := hF 2 (det 16 _) (.tail _ (.tail _ (.tail _ (.tail _ (.tail _ (.tail _ (.tail _ (.head _))))))))
    have e17 : ax.eval (.tmp 17) = _ := hF 3 (det 17 _) (.tail _ (.tail _ (.tail _ (.tail _ (.tail _ (.tail _ (.head _)))))))
    have e18 : ax.eval (.tmp 18) = _ := hF 4 (det 18 _) (.tail _ (.tail _ (.tail _ (.tail _ (.tail _ (.head _))))))
    have e19 : ax.eval (.tmp 19) = _ := hF 5 (det 19 _) (.tail _ (.tail _ (.tail _ (.tail _ (.head _)))))
    have e20 : ax.eval (.tmp 20) = _ := hF 6 (det 20 _) (.tail _ (.tail _ (.tail _ (.head _))))
    have e21 : ax.eval (.tmp 21) = _ := hF 7 (det 21 _) (.tail _ (.tail _ (.head _)))
    have e22 : ax.eval (.tmp 22) = _ := hF 8 (det 22 _) (.tail _ (.head _))
    have e23 : ax.eval (.tmp 23) = _ := hF 9 (det 23 _) (.head _)
    rw [AllEq.frame (D := [14, 15, 16, 17, 18, 19, 20, 21, 22, 23]) (AllEq.cons e14 (AllEq.cons e15 (AllEq.cons e16 (AllEq.cons e17 (AllEq.cons e18 (AllEq.cons e19 (AllEq.cons e20 (AllEq.cons e21 (AllEq.cons e22 (AllEq.cons e23 (AllEq.nil))))))))))) hE rfl]
    clear hF hE e14 e15 e16 e17 e18 e19 e20 e21 e22 e23
    simp only [List.foldl_cons, List.foldl_nil, Act.put, List.setIfInBounds_toArray, List.set_cons_succ, List.set_cons_zero]
    refine wp_of_enter (by simp [go_sem]) (HWs.out w2 R2) ?_
    rintro e w3 ⟨rfl, h3⟩
    refine ⟨_, rfl, ?_⟩
    have H3 := Lib.hid h3
    clear h3
    go_wp2_with fail
    go_end0
    exact ⟨rfl, H3.out⟩
  · have e0 : fillL L n = L := by unfold fillL; rw [show (n - L.length).toNat = 0 by omega]; simp
    have h1 : decide ((L.length : Int) < n) = false := by simp; omega
    have H := Lib.hid (show Wr w b g (fillL L n) by rw [e0]; exact h)
    clear e0
    go_enter Tryd.func14, Tryd.ntmps14
    go_wp2_with fail
    refine (blen_any b g L _ h).mono ?_
    rintro e w1 ⟨rfl, rfl⟩
    go_wp2_with fail
    go_end0
    exact ⟨rfl, g, H.out, Wrote.refl _ _ _⟩
theorem ws_fill {A : World} {b : Nat} {L : List UInt8} {w : World} (h : Ws A b L w) (n : Int) (hn : n ≤ 1000000) (hlen : L.length ≤ 1000000) :
    Calls Tryd.prog 14 #[.pointer (some ⟨b, 0, none⟩), .int .i64 n] w fun e w' => e = .returned (.tuple #[]) ∧ Ws A b (fillL L n) w' := by
  obtain ⟨g, hW, hg, hA, hs⟩ := h
  refine (fill_any b g L n w hW hn hlen).mono ?_
  rintro e w' ⟨rfl, g', hW', hK⟩
  exact ⟨rfl, g', hW', hK.own_from hs hg, hK.below hA hs (Nat.le_refl _) hg, Nat.le_trans hs hK.size⟩
end Go.Proofs.YtencbdcfcpohaaaDoor
