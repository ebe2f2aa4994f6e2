/- The walks of octet: Len, Fill, String of whatever was written, Zeros. -/
import Derived.Test.YtencbdcfcpohaaaDoorKLeafBack01
import Derived.Test.YtencbdcfcpohaaaDoorKLeafBack02
import Derived.Test.YtencbdcfcpohaaaDoorKLeafBack03
import Derived.Test.YtencbdcfcpohaaaDoorKLeafBack04
import Derived.RegionTactic
namespace Go.Proofs.YtencbdcfcpohaaaDoor
set_option linter.unusedVariables false
set_option linter.unusedSimpArgs false
open Go.RowKit

theorem Wr.form {w : World} {b : Nat} {g : Option Nat} {l : List UInt8} (h : Wr w b g l) : ∃ p ao cap, w.heap[b]? = some (.cells #[p, .slice ao l.length cap] 30 (0, 0)) ∧ l.length ≤ maxLen := by
  obtain ⟨p, hp, v, hbk, hown, hg⟩ : ∃ p, (p = .pointer none ∨ p = .pointer (some ⟨b, 0, none⟩)) ∧ WrP w b g p l := by
    rcases h with h | h
    · exact ⟨_, .inl rfl, h⟩
    · exact ⟨_, .inr rfl, h⟩
  rcases hown.2 with ⟨hv, hz⟩ | ⟨k, cap, cur, fz, hv, _, _, _, hnc, hcm, _⟩
  · exact ⟨p, none, 0, by rw [hbk, hv, hz], by rw [hz]; decide⟩
  · exact ⟨p, _, cap, by rw [hbk, hv], Nat.le_trans hnc hcm⟩
theorem blen_any (b : Nat) (g : Option Nat) (l : List UInt8) (w : World) (h : Wr w b g l) :
    Calls Tryd.prog 38 #[.pointer (some ⟨b, 0, none⟩)] w fun e w' => e = .returned (.int .i64 l.length) ∧ w = w' := by
  obtain ⟨p, ao, cap, hb, hm⟩ := h.form
  have c1 : w.cell? ⟨b, 1, none⟩ = some (.slice ao l.length cap) := Blk.cell hb 1
  clear hb h
  go_enter Tryd.func38, Tryd.ntmps38
  go_wp2
  go_ret
  exact ⟨rfl, rfl⟩
theorem ws_len {A : World} {b : Nat} {L : List UInt8} {w : World} (h : Ws A b L w) :
    Calls Tryd.prog 16 #[.pointer (some ⟨b, 0, none⟩)] w fun e w' => e = .returned (.int .i64 L.length) ∧ w = w' := by
  obtain ⟨g, hW, _⟩ := h
  go_enter Tryd.func16, Tryd.ntmps16
  go_wp2_with fail
  refine (blen_any b g L _ hW).mono ?_
  rintro e w1 ⟨rfl, rfl⟩
  go_wp2_with fail
  go_ret
  exact ⟨rfl, rfl⟩

theorem wrote_alloc {w : World} {b : Nat} {g : Option Nat} (o : Obj) : Wrote w b g g (w.alloc o) :=
  ⟨rfl, rfl, rfl, by simp, fun i hi _ _ => Below.heap_alloc w o i hi, .inl rfl⟩
/-- String of a writer that holds nothing. -/
theorem string_nil (b : Nat) (g : Option Nat) (w : World) (h : Wr w b g []) :
    Calls Tryd.prog 40 #[.pointer (some ⟨b, 0, none⟩)] w fun e w' => e = .returned (.string ⟨#[]⟩) ∧ Wr w' b g [] ∧ Wrote w b g g w' := by
  obtain ⟨p, hp, v, hbk, hown, hg⟩ : ∃ p, (p = .pointer none ∨ p = .pointer (some ⟨b, 0, none⟩)) ∧ WrP w b g p [] := by
    rcases h with h | h
    · exact ⟨_, .inl rfl, h⟩
    · exact ⟨_, .inr rfl, h⟩
  have H := Lib.hid h
  have hUS : ∀ (q : Option Addr) (W : World), (Builtin.unsafeString_ #[101, 3] 9 #[.pointer q, .int .i64 0]).run Tryd.prog W = .ok (.string ⟨#[]⟩) W := fun q W => Lib.run_unsafeString_none (w := W) _ _ _ q
  rcases hown.2 with ⟨rfl, _⟩ | ⟨k, cap, cur, fz, rfl, _, hk, hfz, hnc, hcm, hcs, htake⟩
  · have c1 : w.drew.cell? ⟨b, 1, none⟩ = some (.slice none 0 0) := Blk.cell (w := w.drew) hbk 1
    have hSD : (Builtin.unsafeSliceData_ #[26] 101 #[.slice none 0 0]).run Tryd.prog w.drew = .ok (.pointer none) w.drew := Lib.run_unsafeSliceData_nil _ _ _ _ _
    clear h hbk hown hp hg
    go_enter Tryd.func40, Tryd.ntmps40
    go_wp2
    go_region
    all_goals (go_wp2; go_ret; exact ⟨rfl, H.out.drew, (Wrote.refl w b g).drew⟩)
  · simp only [List.length_nil] at *
    by_cases hc0 : cap = 0
    · subst hc0
      have c1 : w.drew.cell? ⟨b, 1, none⟩ = some (.slice (some ⟨k, 0, none⟩) 0 0) := Blk.cell (w := w.drew) hbk 1
      have hSD : (Builtin.unsafeSliceData_ #[26] 101 #[.slice (some ⟨k, 0, none⟩) 0 0]).run Tryd.prog w.drew = .ok (.pointer (some ⟨w.heap.size, 0, none⟩)) (w.alloc (.view ⟨k, 0, none⟩ 5)).drew :=
        Lib.run_unsafeSliceData_zero (w := w.drew) _ _ 5 Tryd.underlying101 _ _ (5, cur.size) (by have hk' : w.drew.heap[k]? = some (.cells cur 5 fz) := hk; simp [World.shape?, hk'])
      have c2 : (w.alloc (.view ⟨k, 0, none⟩ 5)).cell? ⟨b, 1, none⟩ = some (.slice (some ⟨k, 0, none⟩) 0 0) := Blk.cell (w := w.alloc _) (Blk.alloc hbk _) 1
      clear h hbk hown hp hg htake hk
      go_enter Tryd.func40, Tryd.ntmps40
      go_wp2
      go_region
      all_goals (go_wp2; go_ret; exact ⟨rfl, (H.out.alloc _).drew, (wrote_alloc _).drew⟩)
    · have c1 : w.drew.cell? ⟨b, 1, none⟩ = some (.slice (some ⟨k, 0, none⟩) 0 cap) := Blk.cell (w := w.drew) hbk 1
      have hSD : (Builtin.unsafeSliceData_ #[26] 101 #[.slice (some ⟨k, 0, none⟩) 0 cap]).run Tryd.prog w.drew = .ok (.pointer (some ⟨k, 0, none⟩)) w.drew := Lib.run_unsafeSliceData_row _ _ _ _ _ _ hc0
      clear h hbk hown hp hg htake hk
      go_enter Tryd.func40, Tryd.ntmps40
      go_wp2
      go_region
      all_goals (go_wp2; go_ret; exact ⟨rfl, H.out.drew, (Wrote.refl w b g).drew⟩)

theorem bstring_any (b : Nat) (g : Option Nat) (l : List UInt8) (w : World) (h : Wr w b g l) :
    Calls Tryd.prog 40 #[.pointer (some ⟨b, 0, none⟩)] w fun e w' => e = .returned (.string ⟨l.toArray⟩) ∧ Wr w' b g l ∧ Wrote w b g g w' := by
  by_cases h0 : l = []
  · subst h0; exact string_nil b g w h
  · exact string_some b g l w h h0
theorem ws_str {A : World} {b : Nat} {L : List UInt8} {w : World} (h : Ws A b L w) :
    Calls Tryd.prog 15 #[.pointer (some ⟨b, 0, none⟩)] w fun e w' => e = .returned (.string ⟨L.toArray⟩) ∧ Ws A b L w' := by
  obtain ⟨g, hW, hg, hA, hs⟩ := h
  go_enter Tryd.func15, Tryd.ntmps15
  go_wp2_with fail
  refine (bstring_any b g L _ hW).mono ?_
  rintro e w' ⟨rfl, hW', hK⟩
  have H := Lib.hid (show Ws A b L w' from ⟨g, hW', hK.own_from hs hg, hK.below hA hs (Nat.le_refl _) hg, Nat.le_trans hs hK.size⟩)
  clear hW' hK hW hg hA hs
  go_wp2_with fail
  go_ret
  exact ⟨rfl, H.out⟩

/-- Zeros up to so many bytes. -/
def fillL (L : List UInt8) (n : Int) : List UInt8 := L ++ List.replicate (n - L.length).toNat 0
theorem repeat0 (c : Nat) : Lib.repeatL [0] c = List.replicate c (0 : UInt8) := by
  induction c with
  | zero => rfl
  | succ c ih => rw [Lib.repeatL, ih]; rfl
theorem wrote_ext {w w' : World} {b : Nat} {g : Option Nat} (h : Below w.heap.size w w') : Wrote w b g g w' := ⟨h.os, h.tape, h.output, h.size, fun k hk _ _ => h.block k hk, .inl rfl⟩
set_option maxHeartbeats 1000000 in
theorem fill_any (b : Nat) (g : Option Nat) (L : List UInt8) (n : Int) (w : World) (h : Wr w b g L) (hn : n ≤ 1000000) (hlen : L.length ≤ 1000000) :
    Calls Tryd.prog 14 #[.pointer (some ⟨b, 0, none⟩), .int .i64 n] w fun e w' => e = .returned (.tuple #[]) ∧ ∃ g', Wr w' b g' (fillL L n) ∧ Wrote w b g g' w' := by
  by_cases hlt : (L.length : Int) < n
  · obtain ⟨c, rfl⟩ : ∃ c : Nat, n = L.length + c := ⟨(n - L.length).toNat, by omega⟩
    have e0 : fillL L (L.length + c) = L ++ List.replicate c 0 := by unfold fillL; rw [show ((L.length : Int) + c - L.length).toNat = c by omega]
    rw [e0]
    have h1 : decide ((L.length : Int) < (L.length : Int) + c) = true := by simpa using hlt
    have hsub : IntKind.i64.wrap ((L.length : Int) + c - L.length) = (c : Int) := by rw [IntWalk.i64_in _ (by omega)]; omega
    have hsub2 : IntKind.i64.wrap (c : Int) = (c : Int) := IntWalk.i64_in _ (by omega)
    have HL := Lib.hid (fun (W : World) (hW : Wr W b g L) => (blen_any b g L W hW : Calls Tryd.prog 38 #[.pointer (some ⟨b, 0, none⟩)] W fun e w' => e = .returned (.int .i64 L.length) ∧ W = w'))
    have HR : Hid (∀ W : World, Calls Tryd.prog 39 #[.string ⟨#[0]⟩, .int .i64 c] W fun e w' => e = .returned (.string ⟨(List.replicate c (0 : UInt8)).toArray⟩) ∧ Below W.heap.size W w') := by
      intro W
      have := Tryd.strings_Repeat ⟨#[0]⟩ c W (by omega) (by show 1 * c ≤ _; omega)
      rwa [show (⟨#[0]⟩ : ByteArray).data.toList = [0] from rfl, repeat0] at this
    have HWs : Hid (∀ W : World, Ext w W → Calls Tryd.prog 37 #[.pointer (some ⟨b, 0, none⟩), .string ⟨(List.replicate c (0 : UInt8)).toArray⟩] W fun e w' => e = .returned (.tuple #[.int .i64 c, .nilIface]) ∧ ∃ g', Wr w' b g' (L ++ List.replicate c 0) ∧ Wrote w b g g' w') := by
      intro W hE
      refine (writeString_any b g L ⟨(List.replicate c (0 : UInt8)).toArray⟩ W (h.below hE) (by simp [ByteArray.size]; omega)).mono ?_
      rintro e w' ⟨rfl, g', hW', hK⟩
      exact ⟨by simp [ByteArray.size], g', .inr (by simpa using hW'), (wrote_ext hE).trans hK⟩
    have H := Lib.hid h
    generalize (List.replicate c (0 : UInt8)) = Z at HR HWs ⊢
    clear e0 hlt h
    go_enter Tryd.func14, Tryd.ntmps14
    go_wp2_with fail
    refine (HL.out _ H.out).mono ?_
    rintro e w1 ⟨rfl, rfl⟩
    go_upto_region 1 with fail
    refine wp_typed (R := Ext) (w0 := w) [[], [0], [0, 1], [], [], [4], [4, 5], [4, 5, 6], [3, 4, 5, 6, 7], [3, 4, 5, 6, 7, 8], [0, 1, 2, 3, 4, 5, 6, 7, 8, 9]] [14, 15, 16, 17, 18, 19, 20, 21, 22, 23] Ext.refl (fun _ _ _ => Ext.trans) (Ext.drew _) (by kernel_rfl) ?_
    apply Build.det 14 Ext.refl (by rfl) (by rfl) rfl
    case h =>   -- 0: t14 := Op.move (tmp 0)
      intro ax wx hE hR hF
      have e0 : ax.eval (.tmp 0) = .pointer (some ⟨b, 0, none⟩) := hE.eval 0 (by rfl) rfl
      simp [go_sem, BigFrame.eval_const, BigFrame.eval_global, BigFrame.eval_func, ↓IntWalk.iteOmega, ev e0]
      with_reducible rfl
    apply Build.det 15 Ext.refl (by rfl) (by rfl) rfl
    case h =>   -- 1: t15 := Op.nilCheck (tmp 14)
      intro ax wx hE hR hF
      have e14 : ax.eval (.tmp 14) = _ := hF 0 (det 14 _) (by decide) (.head _)
      simp [go_sem, BigFrame.eval_const, BigFrame.eval_global, BigFrame.eval_func, ↓IntWalk.iteOmega, ev e14]
      with_reducible rfl
    apply Build.det 16 Ext.refl (by rfl) (by rfl) rfl
    case h =>   -- 2: t16 := Op.fieldAddr 30 (tmp 15) 0
      intro ax wx hE hR hF
      have e15 : ax.eval (.tmp 15) = _ := hF 1 (det 15 _) (by decide) (.head _)
      simp [go_sem, BigFrame.eval_const, BigFrame.eval_global, BigFrame.eval_func, ↓IntWalk.iteOmega, ev e15]
      with_reducible rfl
    apply Build.det 17 Ext.refl (by rfl) (by rfl) rfl
    case h =>   -- 3: t17 := Op.move (tmp 1)
      intro ax wx hE hR hF
      have e1 : ax.eval (.tmp 1) = .int .i64 ((L.length : Int) + c) := hE.eval 1 (by rfl) rfl
      simp [go_sem, BigFrame.eval_const, BigFrame.eval_global, BigFrame.eval_func, ↓IntWalk.iteOmega, ev e1]
      with_reducible rfl
    apply Build.det 18 Ext.refl (by rfl) (by rfl) rfl
    case h =>   -- 4: t18 := Op.move (tmp 0)
      intro ax wx hE hR hF
      have e0 : ax.eval (.tmp 0) = .pointer (some ⟨b, 0, none⟩) := hE.eval 0 (by rfl) rfl
      simp [go_sem, BigFrame.eval_const, BigFrame.eval_global, BigFrame.eval_func, ↓IntWalk.iteOmega, ev e0]
      with_reducible rfl
    apply Build.det 19 Ext.refl (by rfl) (by rfl) rfl
    case h =>   -- 5: t19 := Op.nilCheck (tmp 18)
      intro ax wx hE hR hF
      have e18 : ax.eval (.tmp 18) = _ := hF 4 (det 18 _) (by decide) (.head _)
      simp [go_sem, BigFrame.eval_const, BigFrame.eval_global, BigFrame.eval_func, ↓IntWalk.iteOmega, ev e18]
      with_reducible rfl
    apply Build.det 20 Ext.refl (by rfl) (by rfl) rfl
    case h =>   -- 6: t20 := Op.fieldAddr 30 (tmp 19) 0
      intro ax wx hE hR hF
      have e19 : ax.eval (.tmp 19) = _ := hF 5 (det 19 _) (by decide) (.head _)
      simp [go_sem, BigFrame.eval_const, BigFrame.eval_global, BigFrame.eval_func, ↓IntWalk.iteOmega, ev e19]
      with_reducible rfl
    apply Build.call 21 Ext.refl (by rfl) (by rfl) rfl
    case h =>
      intro ax wx hE hR hF
      have e20 : ax.eval (.tmp 20) = _ := hF 6 (det 20 _) (by decide) (.head _)
      simp [go_sem, BigFrame.eval_const, BigFrame.eval_global, BigFrame.eval_func, ↓IntWalk.iteOmega, ev e20]
      with_reducible exact ⟨rfl, rfl⟩
    case hc => intro wx hR; with_reducible exact (HL.out wx (H.out.below hR)).mono (fun e w' h => ⟨h.1, ext_of_same h.2⟩)
    apply Build.det 22 Ext.refl (by rfl) (by rfl) rfl
    case h =>   -- 8: t22 := Op.binOp BinOp.sub 3 (tmp 17) (tmp 21) 3
      intro ax wx hE hR hF
      have e17 : ax.eval (.tmp 17) = _ := hF 3 (det 17 _) (by decide) (.tail _ (.tail _ (.tail _ (.tail _ (.head _)))))
      have e21 : ax.eval (.tmp 21) = _ := hF 7 (det 21 _) (by decide) (.head _)
      simp [go_sem, BigFrame.eval_const, BigFrame.eval_global, BigFrame.eval_func, ↓IntWalk.iteOmega, ev e17, ev e21, hsub, hsub2]
      with_reducible rfl
    apply Build.call 23 Ext.refl (by rfl) (by rfl) rfl
    case h =>
      intro ax wx hE hR hF
      have e22 : ax.eval (.tmp 22) = _ := hF 8 (det 22 _) (by decide) (.head _)
      simp [go_sem, BigFrame.eval_const, BigFrame.eval_global, BigFrame.eval_func, ↓IntWalk.iteOmega, ev e22]
      with_reducible exact ⟨rfl, rfl⟩
    case hc => intro wx hR; with_reducible exact HR.out wx
    apply Build.stop
    refine ⟨by kernel_rfl, .inr ⟨by kernel_rfl, _, rfl, rfl, ?_⟩⟩
    intro ax w2 hE R2 hF
    have e14 : ax.eval (.tmp 14) = _ := hF 0 (det 14 _) (.tail _ (.tail _ (.tail _ (.tail _ (.tail _ (.tail _ (.tail _ (.tail _ (.tail _ (.head _))))))))))
    have e15 : ax.eval (.tmp 15) = _ := hF 1 (det 15 _) (.tail _ (.tail _ (.tail _ (.tail _ (.tail _ (.tail _ (.tail _ (.tail _ (.head _)))))))))
    have e16 : ax.eval (.tmp 16) = _ := hF 2 (det 16 _) (.tail _ (.tail _ (.tail _ (.tail _ (.tail _ (.tail _ (.tail _ (.head _))))))))
    have e17 : ax.eval (.tmp 17) = _ := hF 3 (det 17 _) (.tail _ (.tail _ (.tail _ (.tail _ (.tail _ (.tail _ (.head _)))))))
    have e18 : ax.eval (.tmp 18) = _ := hF 4 (det 18 _) (.tail _ (.tail _ (.tail _ (.tail _ (.tail _ (.head _))))))
    have e19 : ax.eval (.tmp 19) = _ := hF 5 (det 19 _) (.tail _ (.tail _ (.tail _ (.tail _ (.head _)))))
    have e20 : ax.eval (.tmp 20) = _ := hF 6 (det 20 _) (.tail _ (.tail _ (.tail _ (.head _))))
    have e21 : ax.eval (.tmp 21) = _ := hF 7 (det 21 _) (.tail _ (.tail _ (.head _)))
    have e22 : ax.eval (.tmp 22) = _ := hF 8 (det 22 _) (.tail _ (.head _))
    have e23 : ax.eval (.tmp 23) = _ := hF 9 (det 23 _) (.head _)
    rw [AllEq.frame (D := [14, 15, 16, 17, 18, 19, 20, 21, 22, 23]) (AllEq.cons e14 (AllEq.cons e15 (AllEq.cons e16 (AllEq.cons e17 (AllEq.cons e18 (AllEq.cons e19 (AllEq.cons e20 (AllEq.cons e21 (AllEq.cons e22 (AllEq.cons e23 (AllEq.nil))))))))))) hE rfl]
    clear hF hE e14 e15 e16 e17 e18 e19 e20 e21 e22 e23
    simp only [List.foldl_cons, List.foldl_nil, Act.put, List.setIfInBounds_toArray, List.set_cons_succ, List.set_cons_zero]
    refine wp_of_enter (by simp [go_sem]) (HWs.out w2 R2) ?_
    rintro e w3 ⟨rfl, h3⟩
    refine ⟨_, rfl, ?_⟩
    have H3 := Lib.hid h3
    clear h3
    go_wp2_with fail
    go_end0
    exact ⟨rfl, H3.out⟩
  · have e0 : fillL L n = L := by unfold fillL; rw [show (n - L.length).toNat = 0 by omega]; simp
    have h1 : decide ((L.length : Int) < n) = false := by simp; omega
    have H := Lib.hid (show Wr w b g (fillL L n) by rw [e0]; exact h)
    clear e0
    go_enter Tryd.func14, Tryd.ntmps14
    go_wp2_with fail
    refine (blen_any b g L _ h).mono ?_
    rintro e w1 ⟨rfl, rfl⟩
    go_wp2_with fail
    go_end0
    exact ⟨rfl, g, H.out, Wrote.refl _ _ _⟩
theorem ws_fill {A : World} {b : Nat} {L : List UInt8} {w : World} (h : Ws A b L w) (n : Int) (hn : n ≤ 1000000) (hlen : L.length ≤ 1000000) :
    Calls Tryd.prog 14 #[.pointer (some ⟨b, 0, none⟩), .int .i64 n] w fun e w' => e = .returned (.tuple #[]) ∧ Ws A b (fillL L n) w' := by
  obtain ⟨g, hW, hg, hA, hs⟩ := h
  refine (fill_any b g L n w hW hn hlen).mono ?_
  rintro e w' ⟨rfl, g', hW', hK⟩
  exact ⟨rfl, g', hW', hK.own_from hs hg, hK.below hA hs (Nat.le_refl _) hg, Nat.le_trans hs hK.size⟩
end Go.Proofs.YtencbdcfcpohaaaDoor

/- A reader of one's own. -/
namespace Go.Proofs.YtencbdcfcpohaaaDoor
set_option linter.unusedVariables false
set_option linter.unusedSimpArgs false
open Go.RowKit

/-- The reader's states: what is left, and whether there were too few bytes. -/
structure Rs (A : World) (b : Nat) (st : List UInt8 × Bool) (w : World) : Prop where
  blk : Blk w b 86 (rdr ⟨st.1.toArray⟩ st.2)
  below : Below b A w
theorem Rs.size {A w : World} {b : Nat} {st : List UInt8 × Bool} (h : Rs A b st w) : b < w.heap.size := h.blk.lt
theorem Rs.call {A w w' : World} {b : Nat} {st : List UInt8 × Bool} (h : Rs A b st w) (hb : Below w.heap.size w w') : Rs A b st w' :=
  ⟨h.blk.below hb h.size, h.below.trans (hb.mono (Nat.le_of_lt h.size))⟩
theorem Rs.alloc {A w : World} {b : Nat} {st : List UInt8 × Bool} (h : Rs A b st w) (o : Obj) : Rs A b st (w.alloc o) := ⟨h.blk.alloc o, h.below.alloc (Nat.le_of_lt h.size) o⟩
theorem Rs.set_ {A w : World} {b : Nat} {st : List UInt8 × Bool} (h : Rs A b st w) {p : Addr} (u : Value) (hp : b < p.block) : Rs A b st (w.setCell p u) := ⟨h.blk.far (by omega) u, h.below.setCell (by omega) u⟩
theorem rs_of (s : ByteArray) (w : World) : Calls Tryd.prog 17 #[.string s] w fun e w' => e = .returned (.pointer (some ⟨w.heap.size, 0, none⟩)) ∧ Rs w w.heap.size (s.data.toList, false) w' := by
  refine (of_any s w).mono ?_
  rintro e w' ⟨rfl, hU⟩
  refine ⟨rfl, by simpa using hU.blk, ?_⟩
  have := hU.grown
  exact ⟨this.os, this.tape, this.output, this.size, fun i hi => this.block i hi (by simp; omega)⟩
/-- A number is read; of other blocks none turns. -/
theorem rs_get {A : World} {b : Nat} {st : List UInt8 × Bool} {w : World} (h : Rs A b st w) (k : Nat) (h1 : 1 ≤ k) (h8 : k ≤ 8) (hs : st.1.length ≤ 1000000) :
    Calls Tryd.prog 18 #[.pointer (some ⟨b, 0, none⟩), .int .i64 k] w fun e w' => e = .returned (.int .u64 (getN st k).1) ∧ Rs A b (getN st k).2 w' ∧ (∀ x t cs, x ≠ b → Blk w x t cs → Blk w' x t cs) ∧ w.heap.size ≤ w'.heap.size := by
  refine (get_any b st k w h1 h8 h.blk hs).mono ?_
  rintro e w' ⟨rfl, hU⟩
  refine ⟨rfl, ⟨hU.blk, ?_⟩, fun x t cs hx hl => hl.grown hU.grown (by simpa using hx), hU.grown.size⟩
  exact h.below.grown hU.grown (Nat.le_of_lt h.size) (fun k e => by injection e with e; omega)
theorem rs_end_yes {A : World} {b : Nat} {w : World} (h : Rs A b ([], false) w) :
    Calls Tryd.prog 24 #[.pointer (some ⟨b, 0, none⟩)] w fun e w' => e = .returned (.int .i64 0) ∧ w = w' :=
  end_yes b _ w h.blk rfl
theorem rs_end_no {A : World} {b : Nat} {st : List UInt8 × Bool} {w : World} (h : Rs A b st w) (h0 : st ≠ ([], false)) :
    Calls Tryd.prog 24 #[.pointer (some ⟨b, 0, none⟩)] w fun e w' => e = .returned (.int .i64 3) ∧ w = w' := by
  refine end_no b _ _ w h.blk (fun hs he => h0 ?_)
  have : st.1.toArray.size = 0 := he
  rw [List.size_toArray] at this
  exact Prod.ext (List.eq_nil_of_length_eq_zero this) hs
end Go.Proofs.YtencbdcfcpohaaaDoor

/- The walks of octet: Zeros, Take of whatever number, receivers that are nil. -/
namespace Go.Proofs.YtencbdcfcpohaaaDoor
set_option linter.unusedVariables false
set_option linter.unusedSimpArgs false
open Go.RowKit

theorem trimB_nil (l : List UInt8) : Lib.trimB l 0 = [] ↔ ∀ x ∈ l, x = 0 := by
  have hd : ∀ m : List UInt8, m.dropWhile (· == 0) = [] ↔ ∀ x ∈ m, x = 0 := by
    intro m
    induction m with
    | nil => simp
    | cons x m ih =>
      by_cases hx : x = 0
      · subst hx; simp [ih]
      · simp [List.dropWhile_cons, hx]
  unfold Lib.trimB Lib.trimLeftB Lib.trimRightB
  rw [hd]
  have hm : ∀ m : List UInt8, (∀ x ∈ m.dropWhile (· == 0), x = 0) ↔ ∀ x ∈ m, x = 0 := by
    intro m
    induction m with
    | nil => simp
    | cons x m ih =>
      by_cases hx : x = 0
      · subst hx; simpa using ih
      · simp [List.dropWhile_cons, hx]
  have := hm l.reverse
  simpa using this

/-- All is zeros; nothing is left. -/
theorem rs_zeros {A : World} {b : Nat} {st : List UInt8 × Bool} {w : World} (h : Rs A b st w) (hs : st.1.length ≤ 1000000) :
    Calls Tryd.prog 23 #[.pointer (some ⟨b, 0, none⟩)] w fun e w' => e = .returned (.bool (st.1.all (· == 0))) ∧ Rs A b ([], st.2) w' := by
  obtain ⟨l, sh⟩ := st
  obtain ⟨hb, hA⟩ := h
  have c0 : w.cell? ⟨b, 0, none⟩ = some (.string ⟨l.toArray⟩) := hb.cell 0
  have f0 : w.frozen? ⟨b, 0, none⟩ = false := hb.frozen 0
  have hT : ∀ W : World, Calls Tryd.prog 41 #[.string ⟨l.toArray⟩, .string ⟨#[0]⟩] W fun e w' => e = .returned (.string ⟨(Lib.trimB l 0).toArray⟩) ∧ (w' = W ∨ w' = W.drew) :=
    fun W => Tryd.strings_Trim_one ⟨l.toArray⟩ 0 (by decide) W (by show l.toArray.size ≤ _; simp at hs ⊢; omega)
  have H2 : Rs A b ([], sh) (w.setCell ⟨b, 0, none⟩ (.string ⟨#[]⟩)) := ⟨by have := hb.set_ 0 (.string ⟨#[]⟩); simpa [rdr] using this, hA.setCell (Nat.le_refl _) _⟩
  have HH := Lib.hid H2
  have HT := Lib.hid hT
  have hz : l.all (· == 0) = decide (Lib.trimB l 0 = []) := by
    rw [Bool.eq_iff_iff, decide_eq_true_iff, trimB_nil, List.all_eq_true]
    simp
  simp only [hz]
  clear hz hb hA hT H2
  generalize Lib.trimB l 0 = Z at HT ⊢
  go_enter Tryd.func23, Tryd.ntmps23
  go_wp2_with fail
  refine (HT.out _).mono ?_
  rintro e w2 ⟨rfl, hw⟩
  have hR : Rs A b ([], sh) w2 := by
    rcases hw with rfl | rfl
    · exact HH.out
    · exact ⟨HH.out.blk, HH.out.below.drew⟩
  have HR := Lib.hid hR
  clear hw hR
  go_wp2_with fail
  go_ret
  exact ⟨ret_bool (by cases Z <;> simp), HR.out⟩

/-- What a reader has left behind so many bytes, and those. -/
def takeN (st : List UInt8 × Bool) (n : Int) : List UInt8 × (List UInt8 × Bool) :=
  if n < 0 then ([], st) else if n.toNat ≤ st.1.length then (st.1.take n.toNat, (st.1.drop n.toNat, st.2)) else ([], ([], true))
theorem rs_take {A : World} {b : Nat} {st : List UInt8 × Bool} {w : World} (h : Rs A b st w) (n : Int) (hn : n ≤ 9223372036854775807) (hs : st.1.length ≤ 1000000) :
    Calls Tryd.prog 22 #[.pointer (some ⟨b, 0, none⟩), .int .i64 n] w fun e w' => e = .returned (.string ⟨(takeN st n).1.toArray⟩) ∧ Rs A b (takeN st n).2 w' ∧ (∀ x t cs, x ≠ b → Blk w x t cs → Blk w' x t cs) ∧ w.heap.size ≤ w'.heap.size := by
  have hsz : (⟨st.1.toArray⟩ : ByteArray).size = st.1.length := by show st.1.toArray.size = _; simp
  unfold takeN
  by_cases h0 : n < 0
  · rw [if_pos h0]
    refine (take_neg b ⟨#[]⟩ false n w h0).mono ?_
    rintro e w' ⟨rfl, rfl⟩
    exact ⟨rfl, h, fun _ _ _ _ hx => hx, Nat.le_refl _⟩
  · rw [if_neg h0]
    obtain ⟨k, rfl⟩ : ∃ k : Nat, n = k := ⟨n.toNat, by omega⟩
    simp only [Int.toNat_natCast]
    have fin : ∀ {s : ByteArray} {l' : List UInt8} {sh : Bool} {w' : World}, s = ⟨l'.toArray⟩ → Upd w b 86 (rdr s sh) w' → Rs A b (l', sh) w' ∧ (∀ x t cs, x ≠ b → Blk w x t cs → Blk w' x t cs) ∧ w.heap.size ≤ w'.heap.size := by
      intro s l' sh w' hs' hU
      subst hs'
      exact ⟨⟨hU.blk, h.below.grown hU.grown (Nat.le_of_lt h.size) (fun k e => by injection e with e; omega)⟩, fun x t cs hx hl => hl.grown hU.grown (by simpa using hx), hU.grown.size⟩
    by_cases hle : k ≤ st.1.length
    · rw [if_pos hle]
      refine (take_yes b ⟨st.1.toArray⟩ st.2 k w h.blk (by omega) (by omega)).mono ?_
      rintro e w' ⟨rfl, hU⟩
      have e : (⟨st.1.toArray⟩ : ByteArray).extract k (⟨st.1.toArray⟩ : ByteArray).size = ⟨(st.1.drop k).toArray⟩ := by
        apply str_ext
        rw [Lib.extract_data, hsz]
        exact List.take_of_length_le (by simp)
      exact ⟨by rw [cut_eq _ k (by omega)], fin e hU⟩
    · rw [if_neg hle]
      refine (take_short b ⟨st.1.toArray⟩ st.2 k w h.blk (by omega) (by omega)).mono ?_
      rintro e w' ⟨rfl, hU⟩
      exact ⟨rfl, fin rfl hU⟩

/-- The end: nothing is left, and there were enough. -/
def endE (st : List UInt8 × Bool) : Int := if st = ([], false) then 0 else 3
theorem rs_end {A : World} {b : Nat} {st : List UInt8 × Bool} {w : World} (h : Rs A b st w) :
    Calls Tryd.prog 24 #[.pointer (some ⟨b, 0, none⟩)] w fun e w' => e = .returned (.int .i64 (endE st)) ∧ w = w' := by
  unfold endE
  by_cases h0 : st = ([], false)
  · rw [if_pos h0]; subst h0; exact rs_end_yes h
  · rw [if_neg h0]; exact rs_end_no h h0
end Go.Proofs.YtencbdcfcpohaaaDoor

/- A writer and a reader beside each other; the numbers that the statements on octets fix. -/
namespace Go.Proofs.YtencbdcfcpohaaaDoor
set_option linter.unusedVariables false
set_option linter.unusedSimpArgs false
open Go.RowKit

/-- All is zeros; nothing is left. -/
theorem u_zeros {b : Nat} {st : List UInt8 × Bool} {w : World} (h : Blk w b 86 (rdr ⟨st.1.toArray⟩ st.2)) (hs : st.1.length ≤ 1000000) :
    Calls Tryd.prog 23 #[.pointer (some ⟨b, 0, none⟩)] w fun e w' => e = .returned (.bool (st.1.all (· == 0))) ∧ Upd w b 86 (rdr ⟨#[]⟩ st.2) w' := by
  obtain ⟨l, sh⟩ := st
  have hb := h
  have c0 : w.cell? ⟨b, 0, none⟩ = some (.string ⟨l.toArray⟩) := hb.cell 0
  have f0 : w.frozen? ⟨b, 0, none⟩ = false := hb.frozen 0
  have hT : ∀ W : World, Calls Tryd.prog 41 #[.string ⟨l.toArray⟩, .string ⟨#[0]⟩] W fun e w' => e = .returned (.string ⟨(Lib.trimB l 0).toArray⟩) ∧ (w' = W ∨ w' = W.drew) :=
    fun W => Tryd.strings_Trim_one ⟨l.toArray⟩ 0 (by decide) W (by show l.toArray.size ≤ _; simp at hs ⊢; omega)
  have H2 : Upd w b 86 (rdr ⟨#[]⟩ sh) (w.setCell ⟨b, 0, none⟩ (.string ⟨#[]⟩)) := (Upd.refl hb).set 0 _
  have HH := Lib.hid H2
  have HT := Lib.hid hT
  have hz : l.all (· == 0) = decide (Lib.trimB l 0 = []) := by
    rw [Bool.eq_iff_iff, decide_eq_true_iff, trimB_nil, List.all_eq_true]
    simp
  simp only [hz]
  clear hz hb h hT H2
  generalize Lib.trimB l 0 = Z at HT ⊢
  go_enter Tryd.func23, Tryd.ntmps23
  go_wp2_with fail
  refine (HT.out _).mono ?_
  rintro e w2 ⟨rfl, hw⟩
  have hR : Upd w b 86 (rdr ⟨#[]⟩ sh) w2 := by
    rcases hw with rfl | rfl
    · exact HH.out
    · exact HH.out.drew
  have HR := Lib.hid hR
  clear hw hR
  go_wp2_with fail
  go_ret
  exact ⟨ret_bool (by cases Z <;> simp), HR.out⟩


theorem u_take {b : Nat} {st : List UInt8 × Bool} {w : World} (h : Blk w b 86 (rdr ⟨st.1.toArray⟩ st.2)) (n : Int) (hn : n ≤ 9223372036854775807) (hs : st.1.length ≤ 1000000) :
    Calls Tryd.prog 22 #[.pointer (some ⟨b, 0, none⟩), .int .i64 n] w fun e w' => e = .returned (.string ⟨(takeN st n).1.toArray⟩) ∧ Upd w b 86 (rdr ⟨(takeN st n).2.1.toArray⟩ (takeN st n).2.2) w' := by
  have hsz : (⟨st.1.toArray⟩ : ByteArray).size = st.1.length := by show st.1.toArray.size = _; simp
  unfold takeN
  by_cases h0 : n < 0
  · rw [if_pos h0]
    refine (take_neg b ⟨#[]⟩ false n w h0).mono ?_
    rintro e w' ⟨rfl, rfl⟩
    exact ⟨rfl, Upd.refl h⟩
  · rw [if_neg h0]
    obtain ⟨k, rfl⟩ : ∃ k : Nat, n = k := ⟨n.toNat, by omega⟩
    simp only [Int.toNat_natCast]
    by_cases hle : k ≤ st.1.length
    · rw [if_pos hle]
      refine (take_yes b ⟨st.1.toArray⟩ st.2 k w h (by omega) (by omega)).mono ?_
      rintro e w' ⟨rfl, hU⟩
      have e : (⟨st.1.toArray⟩ : ByteArray).extract k (⟨st.1.toArray⟩ : ByteArray).size = ⟨(st.1.drop k).toArray⟩ := by
        apply str_ext
        rw [Lib.extract_data, hsz]
        exact List.take_of_length_le (by simp)
      rw [e] at hU
      exact ⟨by rw [cut_eq _ k (by omega)], hU⟩
    · rw [if_neg hle]
      exact take_short b ⟨st.1.toArray⟩ st.2 k w h (by omega) (by omega)
theorem u_end {b : Nat} {st : List UInt8 × Bool} {w : World} (h : Blk w b 86 (rdr ⟨st.1.toArray⟩ st.2)) :
    Calls Tryd.prog 24 #[.pointer (some ⟨b, 0, none⟩)] w fun e w' => e = .returned (.int .i64 (endE st)) ∧ w = w' :=
  rs_end (A := w) ⟨h, Below.refl _ _⟩

/-- The reader's deeds leave the writer. -/
theorem Ws.reader {A w w' : World} {b b2 : Nat} {L : List UInt8} {cs cs' : Array Value} (h : Ws A b L w) (h2 : Blk w b2 86 cs) (hb : b < b2) (hU : Upd w b2 86 cs' w') : Ws A b L w' := by
  obtain ⟨g, hW, hg, hA, hs⟩ := h
  have hne : ∀ k, g = some k → k ≠ b2 := by
    intro k hk e
    subst e
    obtain ⟨v, hown, hv⟩ : ∃ v, w.ownsRowF 0 5 1 v L.length (Lib.byteCells L) ∧ v.ownBlock = g := by
      rcases hW with ⟨v, _, h3, h4⟩ | ⟨v, _, h3, h4⟩
      · exact ⟨v, h3, h4⟩
      · exact ⟨v, h3, h4⟩
    exact Lib.ownBlock_neF hown h2 (by decide) (by rw [hv, hk])
  refine ⟨g, hW.keep (hU.grown.block b hW.lt (by simp; omega)) (fun k hk => hU.grown.block k (hW.own_lt k hk) (by simpa using hne k hk)), hg, hA.grown hU.grown hs (fun k e => by injection e with e; omega), Nat.le_trans hs hU.grown.size⟩
theorem Wr.apart {w : World} {b b2 : Nat} {g : Option Nat} {L : List UInt8} {cs : Array Value} {t : TypeId} (hW : Wr w b g L) (h2 : Blk w b2 t cs) (ht : t ≠ 5) : g ≠ some b2 := by
  intro hk
  obtain ⟨v, hown, hv⟩ : ∃ v, w.ownsRowF 0 5 1 v L.length (Lib.byteCells L) ∧ v.ownBlock = g := by
    rcases hW with ⟨v, _, h3, h4⟩ | ⟨v, _, h3, h4⟩
    · exact ⟨v, h3, h4⟩
    · exact ⟨v, h3, h4⟩
  exact Lib.ownBlock_neF hown h2 ht (by rw [hv, hk])
/-- String, and another block stays. -/
theorem ws_str2 {A : World} {b b2 : Nat} {L : List UInt8} {w : World} {t : TypeId} {cs : Array Value} (h : Ws A b L w) (h2 : Blk w b2 t cs) (ht : t ≠ 5) (hb : b2 ≠ b) :
    Calls Tryd.prog 15 #[.pointer (some ⟨b, 0, none⟩)] w fun e w' => e = .returned (.string ⟨L.toArray⟩) ∧ Ws A b L w' ∧ Blk w' b2 t cs := by
  obtain ⟨g, hW, hg, hA, hs⟩ := h
  have hne := hW.apart h2 ht
  go_enter Tryd.func15, Tryd.ntmps15
  go_wp2_with fail
  refine (bstring_any b g L _ hW).mono ?_
  rintro e w' ⟨rfl, hW', hK⟩
  have H := Lib.hid (show Ws A b L w' from ⟨g, hW', hK.own_from hs hg, hK.below hA hs (Nat.le_refl _) hg, Nat.le_trans hs hK.size⟩)
  have H2 : Blk w' b2 t cs := (hK.block b2 h2.lt hb (fun e => hne e.symm)).trans h2
  have H2 := Lib.hid H2
  clear hW' hK hW hg hA hs h2 hne
  go_wp2_with fail
  go_ret
  exact ⟨rfl, H.out, H2.out⟩
set_option maxHeartbeats 4000000 in
theorem awake1 (w : World) : Calls Tryd.prog 10 #[] w fun e w' => e = .returned (.bool true) ∧ Below w.heap.size w w' := by
  have hst : ((⟨#[2, 1, 97, 0, 0]⟩ : ByteArray).toList == [2, 1, 97, 0, 0]) = true := by rw [ByteArray.toList_eq]; decide +kernel
  have h97 : ((⟨#[97]⟩ : ByteArray).toList == [97]) = true := by rw [ByteArray.toList_eq]; decide +kernel
  have W0 : Ws w w.heap.size [] (w.alloc (.cells #[.pointer none, .slice none 0 0] 30)) := Ws.new_ rfl
  go_enter Tryd.func10, Tryd.ntmps10
  go_wp2_with fail
  refine (ws_put W0 258 2 2 (by decide) (by decide) (by simp)).mono ?_
  rintro e w1 ⟨rfl, W1⟩
  rw [show ([] ++ le 258 2 : List UInt8) = [2, 1] by decide] at W1
  clear W0
  go_wp2_with fail
  refine (ws_text W1 ⟨#[97]⟩ (by simp [ByteArray.size])).mono ?_
  rintro e w2 ⟨rfl, W2⟩
  rw [show ([2, 1] ++ (⟨#[97]⟩ : ByteArray).data.toList : List UInt8) = [2, 1, 97] by decide] at W2
  clear W1
  go_wp2_with fail
  refine (ws_fill W2 5 (by decide) (by simp)).mono ?_
  rintro e w3 ⟨rfl, W3⟩
  rw [show (fillL [2, 1, 97] 5 : List UInt8) = [2, 1, 97, 0, 0] by decide] at W3
  clear W2
  go_wp2_with fail
  refine (ws_str W3).mono ?_
  rintro e w4 ⟨rfl, W4⟩
  clear W3
  go_wp2_with fail
  refine (of_any ⟨#[2, 1, 97, 0, 0]⟩ w4).mono ?_
  rintro e w5 ⟨rfl, U5⟩
  have hbb : w.heap.size < w4.heap.size := W4.size
  have W5 : Ws w w.heap.size [2, 1, 97, 0, 0] w5 := W4.call (by
    have := U5.grown
    exact ⟨this.os, this.tape, this.output, this.size, fun i hi => this.block i hi (by simp; omega)⟩)
  have R5 := U5.blk
  clear W4 U5
  generalize w4.heap.size = b2 at R5 hbb ⊢
  go_wp2_with fail
  refine (ws_str2 W5 R5 (by decide) (by omega)).mono ?_
  rintro e w6 ⟨rfl, W6, R6⟩
  clear W5 R5
  go_wp2_with fail
  refine (ws_len W6).mono ?_
  rintro e w7 ⟨rfl, rfl⟩
  go_wp2_with fail
  refine (get_any b2 ([2, 1, 97, 0, 0], false) 2 w6 (by decide) (by decide) R6 (by decide)).mono ?_
  rw [show getN ([2, 1, 97, 0, 0], false) 2 = (258, ([97, 0, 0], false)) by decide]
  rintro e w8 ⟨rfl, U8⟩
  have W8 := W6.reader R6 hbb U8
  have R8 := U8.blk
  clear W6 R6 U8
  go_wp2_with fail
  refine (u_take (st := ([97, 0, 0], false)) R8 1 (by decide) (by decide)).mono ?_
  rw [show takeN ([97, 0, 0], false) 1 = ([97], ([0, 0], false)) by decide]
  rintro e w9 ⟨rfl, U9⟩
  have W9 := W8.reader R8 hbb U9
  have R9 := U9.blk
  clear W8 R8 U9
  go_wp2_with fail
  refine (u_end (st := ([0, 0], false)) R9).mono ?_
  rw [show endE ([0, 0], false) = 3 by decide]
  rintro e w10 ⟨rfl, rfl⟩
  go_wp2_with fail
  refine (u_zeros (st := ([0, 0], false)) R9 (by decide)).mono ?_
  rintro e w11 ⟨rfl, U11⟩
  have W11 := W9.reader R9 hbb U11
  have R11 : Blk w11 b2 86 (rdr ⟨([] : List UInt8).toArray⟩ false) := U11.blk
  clear W9 R9 U11
  go_wp2_with fail
  refine (u_end (st := ([], false)) R11).mono ?_
  rw [show endE ([], false) = 0 by decide]
  rintro e w12 ⟨rfl, rfl⟩
  go_wp2_with fail
  refine (get_any b2 ([], false) 1 w11 (by decide) (by decide) R11 (by decide)).mono ?_
  rw [show getN ([], false) 1 = (0, ([], true)) by decide]
  rintro e w13 ⟨rfl, U13⟩
  have W13 := W11.reader R11 hbb U13
  have R13 := U13.blk
  clear W11 R11 U13
  go_wp2_with fail
  refine (u_end (st := ([], true)) R13).mono ?_
  rw [show endE ([], true) = 3 by decide]
  rintro e w14 ⟨rfl, rfl⟩
  have hB := W13.below_
  clear W13 R13
  go_wp2_with fail
  go_ret
  exact ⟨rfl, hB⟩
end Go.Proofs.YtencbdcfcpohaaaDoor

/- Two writers of one's own. -/
namespace Go.Proofs.YtencbdcfcpohaaaDoor
set_option linter.unusedVariables false
set_option linter.unusedSimpArgs false
open Go.RowKit

theorem ostring_any (b : Nat) (g : Option Nat) (l : List UInt8) (w : World) (h : Wr w b g l) :
    Calls Tryd.prog 15 #[.pointer (some ⟨b, 0, none⟩)] w fun e w' => e = .returned (.string ⟨l.toArray⟩) ∧ Wr w' b g l ∧ Wrote w b g g w' := by
  go_enter Tryd.func15, Tryd.ntmps15
  go_wp2_with fail
  refine (bstring_any b g l _ h).mono ?_
  rintro e w' ⟨rfl, hW', hK⟩
  have H := Lib.hid hW'
  have H2 := Lib.hid hK
  clear hW' hK h
  go_wp2_with fail
  go_ret
  exact ⟨rfl, H.out, H2.out⟩
theorem olen_any (b : Nat) (g : Option Nat) (l : List UInt8) (w : World) (h : Wr w b g l) :
    Calls Tryd.prog 16 #[.pointer (some ⟨b, 0, none⟩)] w fun e w' => e = .returned (.int .i64 l.length) ∧ w = w' := by
  go_enter Tryd.func16, Tryd.ntmps16
  go_wp2_with fail
  refine (blen_any b g l _ h).mono ?_
  rintro e w1 ⟨rfl, rfl⟩
  go_wp2_with fail
  go_ret
  exact ⟨rfl, rfl⟩

/-- Two writers from B on; below B the world is as A. -/
def W2 (A : World) (B b b' : Nat) (L L' : List UInt8) (w : World) : Prop :=
  ∃ g g', Wr w b g L ∧ Wr w b' g' L' ∧ (g ≠ g' ∨ g = none) ∧ (∀ k, g = some k → B ≤ k) ∧ (∀ k, g' = some k → B ≤ k) ∧ g ≠ some b' ∧ g' ≠ some b ∧ Below B A w ∧ B ≤ w.heap.size ∧ B ≤ b ∧ B ≤ b' ∧ b ≠ b'
section
variable {A w w' : World} {B b b' : Nat} {L L' : List UInt8}
theorem W2.symm (h : W2 A B b b' L L' w) : W2 A B b' b L' L w := by
  obtain ⟨g, g', h1, h2, h3, h4, h5, h6, h7, h8, h9, h10, h11, h12⟩ := h
  refine ⟨g', g, h2, h1, ?_, h5, h4, h7, h6, h8, h9, h11, h10, fun e => h12 e.symm⟩
  rcases h3 with h3 | h3
  · exact .inl fun e => h3 e.symm
  · by_cases e : g' = none
    · exact .inr e
    · exact .inl (by rw [h3]; exact e)
theorem W2.below (h : W2 A B b b' L L' w) : Below B A w := by
  obtain ⟨g, g', h1, h2, h3, h4, h5, h6, h7, h8, h9, h10, h11, h12⟩ := h
  exact h8
theorem W2.call (h : W2 A B b b' L L' w) (hb : Below w.heap.size w w') : W2 A B b b' L L' w' := by
  obtain ⟨g, g', h1, h2, h3, h4, h5, h6, h7, h8, h9, h10, h11, h12⟩ := h
  exact ⟨g, g', h1.below hb, h2.below hb, h3, h4, h5, h6, h7, h8.trans (hb.mono h9), Nat.le_trans h9 hb.size, h10, h11, h12⟩
theorem W2.drew (h : W2 A B b b' L L' w) : W2 A B b b' L L' w.drew := h.call (Ext.drew w)
theorem W2.first (h : W2 A B b b' L L' w) {f : FuncId} {args : Array Value} {v : Value} {L1 : List UInt8}
    (hc : ∀ g, Wr w b g L → Calls Tryd.prog f args w fun e w' => e = .returned v ∧ ∃ g1, Wr w' b g1 L1 ∧ Wrote w b g g1 w') : Calls Tryd.prog f args w fun e w' => e = .returned v ∧ W2 A B b b' L1 L' w' := by
  obtain ⟨g, g', h1, h2, h3, h4, h5, h6, h7, h8, h9, h10, h11, h12⟩ := h
  refine (hc g h1).mono ?_
  rintro e w' ⟨rfl, g1, hW, hK⟩
  have hb' := h2.lt
  refine ⟨rfl, g1, g', hW, h2.other hK (fun e => h12 e.symm) h6 h7 ?_, ?_, hK.own_from h9 h4, h5, ?_, h7, hK.below h8 h9 h10 h4, Nat.le_trans h9 hK.size, h10, h11, h12⟩
  · rcases h3 with h3 | h3
    · exact .inl fun e => h3 e.symm
    · by_cases e : g' = none
      · exact .inr e
      · exact .inl (by rw [h3]; exact e)
  · rcases hK.own with rfl | ⟨k, rfl, hk⟩
    · exact h3
    · refine .inl fun e => ?_
      have := h2.own_lt k e.symm
      omega
  · rcases hK.own with rfl | ⟨k, rfl, hk⟩
    · exact h6
    · intro e; injection e with e; omega
theorem W2.second (h : W2 A B b b' L L' w) {f : FuncId} {args : Array Value} {v : Value} {L1 : List UInt8}
    (hc : ∀ g, Wr w b' g L' → Calls Tryd.prog f args w fun e w' => e = .returned v ∧ ∃ g1, Wr w' b' g1 L1 ∧ Wrote w b' g g1 w') : Calls Tryd.prog f args w fun e w' => e = .returned v ∧ W2 A B b b' L L1 w' :=
  (h.symm.first hc).mono fun e w' h => ⟨h.1, h.2.symm⟩
theorem W2.put1 (h : W2 A B b b' L L' w) (n : Nat) (size : Int) (k : Nat) (hk : clampSize size = k) (hn : n < 18446744073709551616) (hlen : L.length + 8 ≤ 140737488355328) :
    Calls Tryd.prog 11 #[.pointer (some ⟨b, 0, none⟩), .int .u64 n, .int .i64 size] w fun e w' => e = .returned (.tuple #[]) ∧ W2 A B b b' (L ++ le n k) L' w' := by
  subst hk
  exact h.first fun g hW => put_any b g L n size w hn hW hlen
theorem W2.put2 (h : W2 A B b b' L L' w) (n : Nat) (size : Int) (k : Nat) (hk : clampSize size = k) (hn : n < 18446744073709551616) (hlen : L'.length + 8 ≤ 140737488355328) :
    Calls Tryd.prog 11 #[.pointer (some ⟨b', 0, none⟩), .int .u64 n, .int .i64 size] w fun e w' => e = .returned (.tuple #[]) ∧ W2 A B b b' L (L' ++ le n k) w' := by
  subst hk
  exact h.second fun g hW => put_any b' g L' n size w hn hW hlen
theorem W2.str1 (h : W2 A B b b' L L' w) : Calls Tryd.prog 15 #[.pointer (some ⟨b, 0, none⟩)] w fun e w' => e = .returned (.string ⟨L.toArray⟩) ∧ W2 A B b b' L L' w' :=
  h.first fun g hW => (ostring_any b g L w hW).mono fun e w' h => ⟨h.1, g, h.2⟩
theorem W2.str2 (h : W2 A B b b' L L' w) : Calls Tryd.prog 15 #[.pointer (some ⟨b', 0, none⟩)] w fun e w' => e = .returned (.string ⟨L'.toArray⟩) ∧ W2 A B b b' L L' w' :=
  h.second fun g hW => (ostring_any b' g L' w hW).mono fun e w' h => ⟨h.1, g, h.2⟩
theorem W2.len1 (h : W2 A B b b' L L' w) : Calls Tryd.prog 16 #[.pointer (some ⟨b, 0, none⟩)] w fun e w' => e = .returned (.int .i64 L.length) ∧ w = w' := by
  obtain ⟨g, g', h1, _⟩ := h
  exact olen_any b g L w h1
theorem W2.len2 (h : W2 A B b b' L L' w) : Calls Tryd.prog 16 #[.pointer (some ⟨b', 0, none⟩)] w fun e w' => e = .returned (.int .i64 L'.length) ∧ w = w' := h.symm.len1
theorem W2.new_ (w : World) : W2 w w.heap.size w.heap.size (w.heap.size + 1) [] [] ((w.alloc (.cells #[.pointer none, .slice none 0 0] 30)).alloc (.cells #[.pointer none, .slice none 0 0] 30)) :=
  ⟨none, none, (Wr.new_ rfl).alloc _, Wr.new_ (by simp), .inr rfl, (fun k e => by cases e), (fun k e => by cases e), (by intro e; cases e), (by intro e; cases e), ((Below.refl _ _).alloc (Nat.le_refl _) _).alloc (by simp) _, by simp; omega, Nat.le_refl _, by omega, by omega⟩
end
end Go.Proofs.YtencbdcfcpohaaaDoor
