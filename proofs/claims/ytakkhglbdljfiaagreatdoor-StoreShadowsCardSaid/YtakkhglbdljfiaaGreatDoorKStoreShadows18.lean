/- A writer of the call's own: what lies below it has not turned. -/
import Derived.Test.YtakkhglbdljfiaaGreatDoorKStoreShadows16
import Derived.Test.YtakkhglbdljfiaaGreatDoorKStoreShadows17
import Derived.Test.YtakkhglbdljfiaaGreatDoorKStoreShadows07
import Derived.Test.YtakkhglbdljfiaaGreatDoorKStoreShadows01
import Derived.Test.YtakkhglbdljfiaaGreatDoorKStoreShadows14
import Derived.Test.YtakkhglbdljfiaaGreatDoorKStoreShadows15
namespace Go.Proofs.YtakkhglbdljfiaaGreatDoor
set_option linter.unusedVariables false
set_option linter.unusedSimpArgs false
open Go.RowKit

/-- Block b is a writer that holds L; below b the world is as A. -/
def Ws (A : World) (b : Nat) (L : List UInt8) (w : World) : Prop := ∃ g, Wr w b g L ∧ (∀ k, g = some k → b ≤ k) ∧ Below b A w ∧ b ≤ w.heap.size
section
variable {A w w' : World} {b : Nat} {L : List UInt8}
theorem Ws.new_ {b : Nat} (hb : b = A.heap.size) : Ws A b [] (A.alloc (.cells #[.pointer none, .slice none 0 0] 132)) :=
  ⟨none, Wr.new_ hb, (fun k e => by cases e), by subst hb; exact Below.alloc (Below.refl _ _) (Nat.le_refl _) _, by subst hb; simp⟩
theorem Ws.blk (h : Ws A b L w) {k : Nat} {t : TypeId} {cs : Array Value} (hk : Blk A k t cs) (hb : k < b) : Blk w k t cs := by
  obtain ⟨g, _, _, hA, _⟩ := h
  exact hk.below hA hb
theorem Ws.below_ (h : Ws A b L w) : Below b A w := by
  obtain ⟨g, _, _, hA, _⟩ := h
  exact hA
theorem Ws.size (h : Ws A b L w) : b < w.heap.size := by
  obtain ⟨g, hW, _, _, hs⟩ := h
  exact hW.lt
theorem Ws.drew (h : Ws A b L w) : Ws A b L w.drew := by
  obtain ⟨g, hW, hg, hA, hs⟩ := h
  exact ⟨g, hW.drew, hg, hA.drew, hs⟩
theorem Ws.alloc (h : Ws A b L w) (o : Obj) : Ws A b L (w.alloc o) := by
  obtain ⟨g, hW, hg, hA, hs⟩ := h
  exact ⟨g, hW.alloc o, hg, hA.alloc hs o, by simp; omega⟩
theorem Ws.call (h : Ws A b L w) (hb : Below w.heap.size w w') : Ws A b L w' := by
  obtain ⟨g, hW, hg, hA, hs⟩ := h
  exact ⟨g, hW.below hb, hg, hA.trans (hb.mono hs), Nat.le_trans hs hb.size⟩
theorem Ws.wrote (h : Ws A b L w) {L' : List UInt8} (hh : ∀ g, Wr w b g L → (∃ g', Wr w' b g' L' ∧ Wrote w b g g' w')) : Ws A b L' w' := by
  obtain ⟨g, hW, hg, hA, hs⟩ := h
  obtain ⟨g', hW', hK⟩ := hh g hW
  exact ⟨g', hW', hK.own_from hs hg, hK.below hA hs (Nat.le_refl _) hg, Nat.le_trans hs hK.size⟩
end

theorem Z4z {A : World} {b : Nat} {L : List UInt8} {w : World} (h : Ws A b L w) (n : Nat) (size : Int) (k : Nat) (hk : clampSize size = k) (hn : n < 18446744073709551616) (hlen : L.length + 8 ≤ 140737488355328) :
    Calls Tryz.prog 75 #[.pointer (some ⟨b, 0, none⟩), .int .u64 n, .int .i64 size] w fun e w' => e = .returned (.tuple #[]) ∧ Ws A b (L ++ le n k) w' := by
  subst hk
  obtain ⟨g, hW, hg, hA, hs⟩ := h
  refine (Z7c b g L n size w hn hW hlen).mono ?_
  rintro e w' ⟨rfl, g', hW', hK⟩
  exact ⟨rfl, g', hW', hK.own_from hs hg, hK.below hA hs (Nat.le_refl _) hg, Nat.le_trans hs hK.size⟩
theorem ws_string {A : World} {b : Nat} {L : List UInt8} {w : World} (h : Ws A b L w) (h0 : L ≠ []) :
    Calls Tryz.prog 77 #[.pointer (some ⟨b, 0, none⟩)] w fun e w' => e = .returned (.string ⟨L.toArray⟩) ∧ Ws A b L w' := by
  obtain ⟨g, hW, hg, hA, hs⟩ := h
  refine (Z3w b g L w hW h0).mono ?_
  rintro e w' ⟨rfl, hW', hK⟩
  exact ⟨rfl, g, hW', hK.own_from hs hg, hK.below hA hs (Nat.le_refl _) hg, Nat.le_trans hs hK.size⟩
end Go.Proofs.YtakkhglbdljfiaaGreatDoor

/- The walks of octet: Len, Fill, String of whatever was written, Zeros. -/
namespace Go.Proofs.YtakkhglbdljfiaaGreatDoor
attribute [local simp] BigFrame.eval_const BigFrame.eval_global BigFrame.eval_func
set_option linter.unusedVariables false
set_option linter.unusedSimpArgs false
open Go.RowKit

theorem Wr.form {w : World} {b : Nat} {g : Option Nat} {l : List UInt8} (h : Wr w b g l) : ∃ p ao cap, w.heap[b]? = some (.cells #[p, .slice ao l.length cap] 132 (0, 0)) ∧ l.length ≤ maxLen := by
  obtain ⟨p, hp, v, hbk, hown, hg⟩ : ∃ p, (p = .pointer none ∨ p = .pointer (some ⟨b, 0, none⟩)) ∧ WrP w b g p l := by
    rcases h with h | h
    · exact ⟨_, .inl rfl, h⟩
    · exact ⟨_, .inr rfl, h⟩
  rcases hown.2 with ⟨hv, hz⟩ | ⟨k, cap, cur, fz, hv, _, _, _, hnc, hcm, _⟩
  · exact ⟨p, none, 0, by rw [hbk, hv, hz], by rw [hz]; decide⟩
  · exact ⟨p, _, cap, by rw [hbk, hv], Nat.le_trans hnc hcm⟩
theorem blen_any (b : Nat) (g : Option Nat) (l : List UInt8) (w : World) (h : Wr w b g l) :
    Calls Tryz.prog 85 #[.pointer (some ⟨b, 0, none⟩)] w fun e w' => e = .returned (.int .i64 l.length) ∧ w = w' := by
  obtain ⟨p, ao, cap, hb, hm⟩ := h.form
  have c1 : w.cell? ⟨b, 1, none⟩ = some (.slice ao l.length cap) := Blk.cell hb 1
  clear hb h
  go_enter Tryz.func85, Tryz.ntmps85
  go_wp2
  go_ret
  exact ⟨rfl, rfl⟩
theorem Z76 {w : World} {b : Nat} {g : Option Nat} (o : Obj) : Wrote w b g g (w.alloc o) :=
  ⟨rfl, rfl, rfl, by simp, fun i hi _ _ => Below.heap_alloc w o i hi, .inl rfl⟩
/-- String of a writer that holds nothing. -/
theorem string_nil (b : Nat) (g : Option Nat) (w : World) (h : Wr w b g []) :
    Calls Tryz.prog 86 #[.pointer (some ⟨b, 0, none⟩)] w fun e w' => e = .returned (.string ⟨#[]⟩) ∧ Wr w' b g [] ∧ Wrote w b g g w' := by
  obtain ⟨p, hp, v, hbk, hown, hg⟩ : ∃ p, (p = .pointer none ∨ p = .pointer (some ⟨b, 0, none⟩)) ∧ WrP w b g p [] := by
    rcases h with h | h
    · exact ⟨_, .inl rfl, h⟩
    · exact ⟨_, .inr rfl, h⟩
  have H := Lib.hid h
  have hUS : ∀ (q : Option Addr) (W : World), (Builtin.unsafeString_ #[167, 3] 9 #[.pointer q, .int .i64 0]).run Tryz.prog W = .ok (.string ⟨#[]⟩) W := fun q W => Lib.run_unsafeString_none (w := W) _ _ _ q
  rcases hown.2 with ⟨rfl, _⟩ | ⟨k, cap, cur, fz, rfl, _, hk, hfz, hnc, hcm, hcs, htake⟩
  · have c1 : w.drew.cell? ⟨b, 1, none⟩ = some (.slice none 0 0) := Blk.cell (w := w.drew) hbk 1
    have hSD : (Builtin.unsafeSliceData_ #[81] 167 #[.slice none 0 0]).run Tryz.prog w.drew = .ok (.pointer none) w.drew := Lib.run_unsafeSliceData_nil _ _ _ _ _
    clear h hbk hown hp hg
    go_enter Tryz.func86, Tryz.ntmps86
    go_wp2
    go_region
    all_goals (go_wp2; go_ret; exact ⟨rfl, H.out.drew, (Wrote.refl w b g).drew⟩)
  · simp only [List.length_nil] at *
    by_cases hc0 : cap = 0
    · subst hc0
      have c1 : w.drew.cell? ⟨b, 1, none⟩ = some (.slice (some ⟨k, 0, none⟩) 0 0) := Blk.cell (w := w.drew) hbk 1
      have hSD : (Builtin.unsafeSliceData_ #[81] 167 #[.slice (some ⟨k, 0, none⟩) 0 0]).run Tryz.prog w.drew = .ok (.pointer (some ⟨w.heap.size, 0, none⟩)) (w.alloc (.view ⟨k, 0, none⟩ 5)).drew :=
        Lib.run_unsafeSliceData_zero (w := w.drew) _ _ 5 Tryz.underlying167 _ _ (5, cur.size) (by have hk' : w.drew.heap[k]? = some (.cells cur 5 fz) := hk; simp [World.shape?, hk'])
      have c2 : (w.alloc (.view ⟨k, 0, none⟩ 5)).cell? ⟨b, 1, none⟩ = some (.slice (some ⟨k, 0, none⟩) 0 0) := Blk.cell (w := w.alloc _) (Blk.alloc hbk _) 1
      clear h hbk hown hp hg htake hk
      go_enter Tryz.func86, Tryz.ntmps86
      go_wp2
      go_region
      all_goals (go_wp2; go_ret; exact ⟨rfl, (H.out.alloc _).drew, (Z76 _).drew⟩)
    · have c1 : w.drew.cell? ⟨b, 1, none⟩ = some (.slice (some ⟨k, 0, none⟩) 0 cap) := Blk.cell (w := w.drew) hbk 1
      have hSD : (Builtin.unsafeSliceData_ #[81] 167 #[.slice (some ⟨k, 0, none⟩) 0 cap]).run Tryz.prog w.drew = .ok (.pointer (some ⟨k, 0, none⟩)) w.drew := Lib.run_unsafeSliceData_row _ _ _ _ _ _ hc0
      clear h hbk hown hp hg htake hk
      go_enter Tryz.func86, Tryz.ntmps86
      go_wp2
      go_region
      all_goals (go_wp2; go_ret; exact ⟨rfl, H.out.drew, (Wrote.refl w b g).drew⟩)

theorem Z7w (b : Nat) (g : Option Nat) (l : List UInt8) (w : World) (h : Wr w b g l) :
    Calls Tryz.prog 86 #[.pointer (some ⟨b, 0, none⟩)] w fun e w' => e = .returned (.string ⟨l.toArray⟩) ∧ Wr w' b g l ∧ Wrote w b g g w' := by
  by_cases h0 : l = []
  · subst h0; exact string_nil b g w h
  · exact Z49 b g l w h h0
theorem ws_str {A : World} {b : Nat} {L : List UInt8} {w : World} (h : Ws A b L w) :
    Calls Tryz.prog 77 #[.pointer (some ⟨b, 0, none⟩)] w fun e w' => e = .returned (.string ⟨L.toArray⟩) ∧ Ws A b L w' := by
  obtain ⟨g, hW, hg, hA, hs⟩ := h
  go_enter Tryz.func77, Tryz.ntmps77
  go_wp2_with fail
  refine (Z7w b g L _ hW).mono ?_
  rintro e w' ⟨rfl, hW', hK⟩
  have H := Lib.hid (show Ws A b L w' from ⟨g, hW', hK.own_from hs hg, hK.below hA hs (Nat.le_refl _) hg, Nat.le_trans hs hK.size⟩)
  clear hW' hK hW hg hA hs
  go_wp2_with fail
  go_ret
  exact ⟨rfl, H.out⟩

/-- Zeros up to so many bytes. -/
def fillL (L : List UInt8) (n : Int) : List UInt8 := L ++ List.replicate (n - L.length).toNat 0
theorem repeat0 (c : Nat) : Lib.repeatL [0] c = List.replicate c (0 : UInt8) := by
  induction c with
  | zero => rfl
  | succ c ih => rw [Lib.repeatL, ih]; rfl
theorem wrote_ext {w w' : World} {b : Nat} {g : Option Nat} (h : Below w.heap.size w w') : Wrote w b g g w' := ⟨h.os, h.tape, h.output, h.size, fun k hk _ _ => h.block k hk, .inl rfl⟩
set_option maxRecDepth 100000 in
set_option maxHeartbeats 1000000 in
theorem fill_any (b : Nat) (g : Option Nat) (L : List UInt8) (n : Int) (w : World) (h : Wr w b g L) (hn : n ≤ 1000000) (hlen : L.length ≤ 1000000) :
    Calls Tryz.prog 116 #[.pointer (some ⟨b, 0, none⟩), .int .i64 n] w fun e w' => e = .returned (.tuple #[]) ∧ ∃ g', Wr w' b g' (fillL L n) ∧ Wrote w b g g' w' := by
  by_cases hlt : (L.length : Int) < n
  · obtain ⟨c, rfl⟩ : ∃ c : Nat, n = L.length + c := ⟨(n - L.length).toNat, by omega⟩
    have e0 : fillL L (L.length + c) = L ++ List.replicate c 0 := by unfold fillL; rw [show ((L.length : Int) + c - L.length).toNat = c by omega]
    rw [e0]
    have h1 : decide ((L.length : Int) < (L.length : Int) + c) = true := by simpa using hlt
    have hsub : IntKind.i64.wrap ((L.length : Int) + c - L.length) = (c : Int) := by rw [IntWalk.i64_in _ (by omega)]; omega
    have hsub2 : IntKind.i64.wrap (c : Int) = (c : Int) := IntWalk.i64_in _ (by omega)
    have HL := Lib.hid (fun (W : World) (hW : Wr W b g L) => (blen_any b g L W hW : Calls Tryz.prog 85 #[.pointer (some ⟨b, 0, none⟩)] W fun e w' => e = .returned (.int .i64 L.length) ∧ W = w'))
    have HR : Hid (∀ W : World, Calls Tryz.prog 47 #[.string ⟨#[0]⟩, .int .i64 c] W fun e w' => e = .returned (.string ⟨(List.replicate c (0 : UInt8)).toArray⟩) ∧ Below W.heap.size W w') := by
      intro W
      have := Tryz.strings_Repeat ⟨#[0]⟩ c W (by omega) (by show 1 * c ≤ _; omega)
      rwa [show (⟨#[0]⟩ : ByteArray).data.toList = [0] from rfl, repeat0] at this
    have HWs : Hid (∀ W : World, Ext w W → Calls Tryz.prog 84 #[.pointer (some ⟨b, 0, none⟩), .string ⟨(List.replicate c (0 : UInt8)).toArray⟩] W fun e w' => e = .returned (.tuple #[.int .i64 c, .nilIface]) ∧ ∃ g', Wr w' b g' (L ++ List.replicate c 0) ∧ Wrote w b g g' w') := by
      intro W hE
      refine (Z29 b g L ⟨(List.replicate c (0 : UInt8)).toArray⟩ W (h.below hE) (by simp [ByteArray.size]; omega)).mono ?_
      rintro e w' ⟨rfl, g', hW', hK⟩
      exact ⟨by simp [ByteArray.size], g', .inr (by simpa using hW'), (wrote_ext hE).trans hK⟩
    have H := Lib.hid h
    generalize (List.replicate c (0 : UInt8)) = Z at HR HWs ⊢
    clear e0 hlt h
    go_enter Tryz.func116, Tryz.ntmps116
    go_wp2_with fail
    refine (HL.out _ H.out).mono ?_
    rintro e w1 ⟨rfl, rfl⟩
    go_upto_region 1 with fail
    refine Z1s (R := Ext) (w0 := w) [[], [0], [0, 1], [], [], [4], [4, 5], [4, 5, 6], [3, 4, 5, 6, 7], [3, 4, 5, 6, 7, 8], [0, 1, 2, 3, 4, 5, 6, 7, 8, 9]] [14, 15, 16, 17, 18, 19, 20, 21, 22, 23] Ext.refl (fun _ _ _ => Ext.trans) (Ext.drew _) (by kernel_rfl) ?_
    apply Build.det 14 Ext.refl (by rfl) (by rfl) rfl
    case h =>
      intro ax wx hE hR hF
      have e0 : ax.eval (.tmp 0) = .pointer (some ⟨b, 0, none⟩) := hE.eval 0 (by rfl) rfl
      simp [go_sem, ↓IntWalk.iteOmega, ev e0]
      with_reducible rfl
    apply Build.det 15 Ext.refl (by rfl) (by rfl) rfl
    case h =>
      intro ax wx hE hR hF
      have e14 := hF 0 (det 14 _) (by decide) (.head _)
      simp [go_sem, ↓IntWalk.iteOmega, ev e14]
      with_reducible rfl
    apply Build.det 16 Ext.refl (by rfl) (by rfl) rfl
    case h =>
      intro ax wx hE hR hF
      have e15 := hF 1 (det 15 _) (by decide) (.head _)
      simp [go_sem, ↓IntWalk.iteOmega, ev e15]
      with_reducible rfl
    apply Build.det 17 Ext.refl (by rfl) (by rfl) rfl
    case h =>
      intro ax wx hE hR hF
      have e1 : ax.eval (.tmp 1) = .int .i64 ((L.length : Int) + c) := hE.eval 1 (by rfl) rfl
      simp [go_sem, ↓IntWalk.iteOmega, ev e1]
      with_reducible rfl
    apply Build.det 18 Ext.refl (by rfl) (by rfl) rfl
    case h =>
      intro ax wx hE hR hF
      have e0 : ax.eval (.tmp 0) = .pointer (some ⟨b, 0, none⟩) := hE.eval 0 (by rfl) rfl
      simp [go_sem, ↓IntWalk.iteOmega, ev e0]
      with_reducible rfl
    apply Build.det 19 Ext.refl (by rfl) (by rfl) rfl
    case h =>
      intro ax wx hE hR hF
      have e18 := hF 4 (det 18 _) (by decide) (.head _)
      simp [go_sem, ↓IntWalk.iteOmega, ev e18]
      with_reducible rfl
    apply Build.det 20 Ext.refl (by rfl) (by rfl) rfl
    case h =>
      intro ax wx hE hR hF
      have e19 := hF 5 (det 19 _) (by decide) (.head _)
      simp [go_sem, ↓IntWalk.iteOmega, ev e19]
      with_reducible rfl
    apply Build.call 21 Ext.refl (by rfl) (by rfl) rfl
    case h =>
      intro ax wx hE hR hF
      have e20 := hF 6 (det 20 _) (by decide) (.head _)
      simp [go_sem, ↓IntWalk.iteOmega, ev e20]
      with_reducible exact ⟨rfl, rfl⟩
    case hc => intro wx hR; with_reducible exact (HL.out wx (H.out.below hR)).mono (fun e w' h => ⟨h.1, Z7s h.2⟩)
    apply Build.det 22 Ext.refl (by rfl) (by rfl) rfl
    case h =>
      intro ax wx hE hR hF
      have e17 := hF 3 (det 17 _) (by decide) (.tail _ (.tail _ (.tail _ (.tail _ (.head _)))))
      have e21 := hF 7 (det 21 _) (by decide) (.head _)
      simp [go_sem, ↓IntWalk.iteOmega, ev e17, ev e21, hsub, hsub2]
      with_reducible rfl
    apply Build.call 23 Ext.refl (by rfl) (by rfl) rfl
    case h =>
      intro ax wx hE hR hF
      have e22 := hF 8 (det 22 _) (by decide) (.head _)
      simp [go_sem, ↓IntWalk.iteOmega, ev e22]
      with_reducible exact ⟨rfl, rfl⟩
    case hc => intro wx hR; with_reducible exact HR.out wx
    apply Build.stop
    refine ⟨by kernel_rfl, .inr ⟨by kernel_rfl, _, rfl, rfl, ?_⟩⟩
    intro ax w2 hE R2 hF
    have e14 := hF 0 (det 14 _) (.tail _ (.tail _ (.tail _ (.tail _ (.tail _ (.tail _ (.tail _ (.tail _ (.tail _ (.head _))))))))))
    have e15 := hF 1 (det 15 _) (.tail _ (.tail _ (.tail _ (.tail _ (.tail _ (.tail _ (.tail _ (.tail _ (.head _)))))))))
    have e16 := hF 2 (det 16 _) (.tail _ (.tail _ (.tail _ (.tail _ (.tail _ (.tail _ (.tail _ (.head _))))))))
    have e17 := hF 3 (det 17 _) (.tail _ (.tail _ (.tail _ (.tail _ (.tail _ (.tail _ (.head _)))))))
    have e18 := hF 4 (det 18 _) (.tail _ (.tail _ (.tail _ (.tail _ (.tail _ (.head _))))))
    have e19 := hF 5 (det 19 _) (.tail _ (.tail _ (.tail _ (.tail _ (.head _)))))
    have e20 := hF 6 (det 20 _) (.tail _ (.tail _ (.tail _ (.head _))))
    have e21 := hF 7 (det 21 _) (.tail _ (.tail _ (.head _)))
    have e22 := hF 8 (det 22 _) (.tail _ (.head _))
    have e23 := hF 9 (det 23 _) (.head _)
    rw [AllEq.frame (D := [14, 15, 16, 17, 18, 19, 20, 21, 22, 23]) (AllEq.cons e14 (AllEq.cons e15 (AllEq.cons e16 (AllEq.cons e17 (AllEq.cons e18 (AllEq.cons e19 (AllEq.cons e20 (AllEq.cons e21 (AllEq.cons e22 (AllEq.cons e23 (AllEq.nil))))))))))) hE rfl]
    clear hF hE e14 e15 e16 e17 e18 e19 e20 e21 e22 e23
    simp only [List.foldl_cons, List.foldl_nil, Act.put, List.setIfInBounds_toArray, List.set_cons_succ, List.set_cons_zero]
    refine Z2s (by simp [go_sem]) (HWs.out w2 R2) ?_
    rintro e w3 ⟨rfl, h3⟩
    refine ⟨_, rfl, ?_⟩
    have H3 := Lib.hid h3
    clear h3
    go_wp2_with fail
    go_end0
    exact ⟨rfl, H3.out⟩
  · have e0 : fillL L n = L := by unfold fillL; rw [show (n - L.length).toNat = 0 by omega]; simp
    have h1 : decide ((L.length : Int) < n) = false := by simp; omega
    have H := Lib.hid (show Wr w b g (fillL L n) by rw [e0]; exact h)
    clear e0
    go_enter Tryz.func116, Tryz.ntmps116
    go_wp2_with fail
    refine (blen_any b g L _ h).mono ?_
    rintro e w1 ⟨rfl, rfl⟩
    go_wp2_with fail
    go_end0
    exact ⟨rfl, g, H.out, Wrote.refl _ _ _⟩
theorem ws_fill {A : World} {b : Nat} {L : List UInt8} {w : World} (h : Ws A b L w) (n : Int) (hn : n ≤ 1000000) (hlen : L.length ≤ 1000000) :
    Calls Tryz.prog 116 #[.pointer (some ⟨b, 0, none⟩), .int .i64 n] w fun e w' => e = .returned (.tuple #[]) ∧ Ws A b (fillL L n) w' := by
  obtain ⟨g, hW, hg, hA, hs⟩ := h
  refine (fill_any b g L n w hW hn hlen).mono ?_
  rintro e w' ⟨rfl, g', hW', hK⟩
  exact ⟨rfl, g', hW', hK.own_from hs hg, hK.below hA hs (Nat.le_refl _) hg, Nat.le_trans hs hK.size⟩
end Go.Proofs.YtakkhglbdljfiaaGreatDoor

/- leaf: Good. -/
namespace Go.Proofs.YtakkhglbdljfiaaGreatDoor
set_option linter.unusedVariables false
set_option linter.unusedSimpArgs false
open Go.RowKit

def farB (v : Nat) : Bool := decide (v < 1) || decide (512 ≤ v)
theorem far_any (k v : Nat) (w : World) : Calls Tryz.prog 88 #[.agg #[.int .u64 k, .int .u64 v]] w fun e w' => e = .returned (.bool (farB v)) ∧ Ext w w' := by
  have hE := Lib.hid (Ext.alloc w (.cells #[.int .u64 k, .int .u64 v] 98))
  by_cases h1 : v < 1
  · have e : farB v = true := by unfold farB; simp [h1]
    rw [e]
    obtain rfl : v = 0 := by omega
    clear e
    go_enter Tryz.func88, Tryz.ntmps88
    go_wp2_with fail
    go_ret
    exact ⟨rfl, hE.out⟩
  · have h1d : decide (v < 1) = false := by simpa using h1
    have h1i : decide ((v : Int) < 1) = false := by rw [decide_eq_false_iff_not]; omega
    have h1z : ¬ v = 0 := by omega
    by_cases h2 : 512 ≤ v
    · have e : farB v = true := by unfold farB; rw [Bool.or_eq_true, decide_eq_true_iff, decide_eq_true_iff]; exact .inr h2
      rw [e]
      have h2i : decide ((512 : Int) ≤ (v : Int)) = true := by rw [decide_eq_true_iff]; omega
      have h2d : decide (512 ≤ v) = true := by rw [decide_eq_true_iff]; omega
      clear e
      go_enter Tryz.func88, Tryz.ntmps88
      go_wp2_with fail
      go_ret
      exact ⟨rfl, hE.out⟩
    · have e : farB v = false := by unfold farB; rw [Bool.or_eq_false_iff, decide_eq_false_iff_not, decide_eq_false_iff_not]; exact ⟨h1, h2⟩
      rw [e]
      have h2i : decide ((512 : Int) ≤ (v : Int)) = false := by rw [decide_eq_false_iff_not]; omega
      have h2d : decide (512 ≤ v) = false := by rw [decide_eq_false_iff_not]; omega
      clear e
      go_enter Tryz.func88, Tryz.ntmps88
      go_wp2_with fail
      go_ret
      exact ⟨rfl, hE.out⟩
set_option maxHeartbeats 1000000 in
theorem index_any (A : Option Addr) (len cap : Nat) (xs : List (Nat × Nat)) (w : World) (hlen : xs.length = len) (hm : len ≤ 1000000) (hrow : Row w A 2 pairC xs) :
    Calls Tryz.prog 114 #[.slice A len cap, .func (.func 88) #[] #[]] w fun e w' => ∃ r : Int, e = .returned (.int .i64 r) ∧ decide (0 ≤ r) = xs.any (fun x => farB x.2) ∧ Ext w w' := by
  go_enter Tryz.func114, Tryz.ntmps114
  go_wp2_with fail
  go_loopw [8] (fun i wr => ∃ j : Nat, i = .int .i64 j ∧ j ≤ len ∧ Ext w wr ∧ Hid ((xs.take j).any (fun x => farB x.2) = false)) (fun i _ => len - (intOf i).toNat)
  case atStart => exact ⟨0, rfl, by omega, Ext.refl _, by simp [Hid]⟩
  case round =>
    obtain ⟨j, rfl, hj, hEx, HJ⟩ := hrel
    by_cases hlt : j < len
    · have hjx : j < xs.length := by omega
      obtain ⟨b0, o0, rfl, hlt0, q0, q1⟩ := hrow.pair_in hEx hjx
      have HF := Lib.hid (fun W => far_any xs[j].1 xs[j].2 W)
      have htk : (xs.take (j + 1)).any (fun x => farB x.2) = ((xs.take j).any (fun x => farB x.2) || farB xs[j].2) := by
        rw [List.take_succ_eq_append_getElem hjx, List.any_append]
        simp only [List.any_cons, List.any_nil, Bool.or_false]
      rw [HJ.out, Bool.false_or] at htk
      have hin : farB xs[j].2 = true → xs.any (fun x => farB x.2) = true := fun h => List.any_eq_true.2 ⟨_, List.getElem_mem hjx, h⟩
      generalize farB xs[j].2 = B at HF htk hin
      have HTK := Lib.hid htk
      have HIN := Lib.hid hin
      clear htk hin
      cases B
      · go_wp2_with fail
        refine (HF.out _).mono ?_
        rintro e w2 ⟨rfl, R2⟩
        go_wp2_with fail
        go_roundw
        case rel => exact ⟨j + 1, by go_num, by omega, hEx.trans R2, HTK.out⟩
        case measure => simp [intOf]; omega
      · go_wp2_with fail
        refine (HF.out _).mono ?_
        rintro e w2 ⟨rfl, R2⟩
        go_wp2_with fail
        go_ret
        exact ⟨(j : Int), rfl, by rw [HIN.out (by trivial), decide_eq_true_iff]; omega, hEx.trans R2⟩
    · have HA : Hid (xs.any (fun x => farB x.2) = false) := by
        have := HJ.out
        rwa [List.take_of_length_le (by omega)] at this
      go_wp2_with fail
      go_ret
      exact ⟨-1, rfl, by rw [HA.out]; decide, hEx⟩
theorem Z70 (A : Option Addr) (len cap : Nat) (xs : List (Nat × Nat)) (w : World) (hlen : xs.length = len) (hm : len ≤ 1000000) (hrow : Row w A 2 pairC xs) :
    Calls Tryz.prog 89 #[.slice A len cap, .func (.func 88) #[] #[]] w fun e w' => e = .returned (.bool (xs.any (fun x => farB x.2))) ∧ Ext w w' := by
  go_enter Tryz.func89, Tryz.ntmps89
  go_wp2_with fail
  refine (index_any A len cap xs _ hlen hm hrow).mono ?_
  rintro e w2 ⟨r, rfl, hr, R2⟩
  have HR := Lib.hid hr
  clear hr
  go_wp2_with fail
  go_ret
  exact ⟨Z13 HR.out, R2⟩
end Go.Proofs.YtakkhglbdljfiaaGreatDoor

/- leaf: Good. -/
namespace Go.Proofs.YtakkhglbdljfiaaGreatDoor
set_option linter.unusedVariables false
set_option linter.unusedSimpArgs false
open Go.RowKit

/-- Whether a node can be. -/
def goodB (lv : Int) (xs : List (Nat × Nat)) : Bool :=
  decide (0 ≤ lv ∧ lv < 8 ∧ xs.length ≤ 15) && (riseB xs && (decide (lv = 0) || (decide (0 < xs.length) && !xs.any (fun x => farB x.2))))
set_option maxHeartbeats 1000000 in
theorem Z63 (lv : Int) (A : Option Addr) (len cap : Nat) (xs : List (Nat × Nat)) (w : World) (hlen : xs.length = len) (hm : len ≤ 1000000) (hrow : Row w A 2 pairC xs) (hx : ∀ x ∈ xs, x.1 < 18446744073709551616) :
    Calls Tryz.prog 48 #[.agg #[.int .i64 lv, .slice A len cap]] w fun e w' => e = .returned (.bool (goodB lv xs)) ∧ Ext w w' := by
  have hE := Ext.alloc w (.cells #[.int .i64 lv, .slice A len cap] 47)
  have hX : Blk (w.alloc (.cells #[.int .i64 lv, .slice A len cap] 47)) w.heap.size 47 #[.int .i64 lv, .slice A len cap] := Blk.new _ _ _
  have HR := Lib.hid (fun W (h : Ext (w.alloc (.cells #[.int .i64 lv, .slice A len cap] 47)) W) => rise_any A len cap xs W hlen hm (hrow.ext (hE.trans h)) hx)
  have HC := Lib.hid (fun W (h : Ext (w.alloc (.cells #[.int .i64 lv, .slice A len cap] 47)) W) => Z70 A len cap xs W hlen hm (hrow.ext (hE.trans h)))
  have HE := Lib.hid hE
  have HX := Lib.hid hX
  have hgd : goodB lv xs = (decide (0 ≤ lv ∧ lv < 8 ∧ len ≤ 15) && (riseB xs && (decide (lv = 0) || (decide (0 < len) && !xs.any (fun x => farB x.2))))) := by unfold goodB; rw [hlen]
  rw [hgd]
  generalize riseB xs = RB at HR ⊢
  generalize xs.any (fun x => farB x.2) = FB at HC ⊢
  clear hE hX hrow hx hgd hlen
  by_cases h1 : 0 ≤ lv ∧ lv < 8 ∧ len ≤ 15
  · rw [decide_eq_true h1, Bool.true_and]
    obtain ⟨ha, hb, hc⟩ := h1
    have d1 : decide (lv < 0) = false := by rw [decide_eq_false_iff_not]; omega
    have d2 : decide (8 ≤ lv) = false := by rw [decide_eq_false_iff_not]; omega
    have d3 : decide ((15 : Int) < (len : Int)) = false := by rw [decide_eq_false_iff_not]; omega
    cases RB
    · rw [Bool.false_and]
      go_enter Tryz.func48, Tryz.ntmps48
      go_wp2_with fail
      refine (HR.out _ (Ext.refl _)).mono ?_
      rintro e w2 ⟨rfl, R2⟩
      go_wp2_with fail
      go_ret
      exact ⟨rfl, HE.out.trans R2⟩
    · rw [Bool.true_and]
      by_cases h0 : lv = 0
      · rw [decide_eq_true h0, Bool.true_or]
        subst h0
        go_enter Tryz.func48, Tryz.ntmps48
        go_wp2_with fail
        refine (HR.out _ (Ext.refl _)).mono ?_
        rintro e w2 ⟨rfl, R2⟩
        have X2 := HX.out.ext R2
        have q0 := X2.cell 0
        have q1 := X2.cell 1
        clear X2
        go_wp2_with fail
        go_ret
        exact ⟨rfl, HE.out.trans R2⟩
      · rw [decide_eq_false h0, Bool.false_or]
        have d4 : (lv == 0) = false := by simpa using h0
        by_cases hl : 0 < len
        · rw [decide_eq_true hl, Bool.true_and]
          have d5 : decide ((0 : Int) < (len : Int)) = true := by rw [decide_eq_true_iff]; omega
          go_enter Tryz.func48, Tryz.ntmps48
          go_wp2_with fail
          refine (HR.out _ (Ext.refl _)).mono ?_
          rintro e w2 ⟨rfl, R2⟩
          have X2 := HX.out.ext R2
          have q0 := X2.cell 0
          have q1 := X2.cell 1
          clear X2
          go_wp2_with fail
          refine (HC.out _ R2).mono ?_
          rintro e w3 ⟨rfl, R3⟩
          go_wp2_with fail
          go_ret
          exact ⟨rfl, (HE.out.trans R2).trans R3⟩
        · rw [decide_eq_false hl, Bool.false_and]
          obtain rfl : len = 0 := by omega
          go_enter Tryz.func48, Tryz.ntmps48
          go_wp2_with fail
          refine (HR.out _ (Ext.refl _)).mono ?_
          rintro e w2 ⟨rfl, R2⟩
          have X2 := HX.out.ext R2
          have q0 := X2.cell 0
          have q1 := X2.cell 1
          clear X2
          go_wp2_with fail
          go_ret
          exact ⟨rfl, HE.out.trans R2⟩
  · rw [decide_eq_false h1, Bool.false_and]
    clear HR HC
    by_cases ha : lv < 0
    · have d1 : decide (lv < 0) = true := by rw [decide_eq_true_iff]; omega
      go_enter Tryz.func48, Tryz.ntmps48
      go_wp2_with fail
      go_ret
      exact ⟨rfl, HE.out⟩
    · have d1 : decide (lv < 0) = false := by rw [decide_eq_false_iff_not]; omega
      by_cases hb : 8 ≤ lv
      · have d2 : decide (8 ≤ lv) = true := by rw [decide_eq_true_iff]; omega
        go_enter Tryz.func48, Tryz.ntmps48
        go_wp2_with fail
        go_ret
        exact ⟨rfl, HE.out⟩
      · have d2 : decide (8 ≤ lv) = false := by rw [decide_eq_false_iff_not]; omega
        have d3 : decide ((15 : Int) < (len : Int)) = true := by rw [decide_eq_true_iff]; omega
        have hc : 15 < len := by omega
        go_enter Tryz.func48, Tryz.ntmps48
        go_wp2_with fail
        go_ret
        exact ⟨rfl, HE.out⟩
end Go.Proofs.YtakkhglbdljfiaaGreatDoor

/- leaf: a node's bytes; plain. -/
namespace Go.Proofs.YtakkhglbdljfiaaGreatDoor
set_option linter.unusedVariables false
set_option linter.unusedSimpArgs false
open Go.RowKit

/-- The bytes of a row of pairs. -/
def pairsL : List (Nat × Nat) → List UInt8
  | [] => []
  | x :: xs => le x.1 8 ++ (le x.2 8 ++ pairsL xs)
theorem Z1d (xs : List (Nat × Nat)) : (pairsL xs).length = 16 * xs.length := by
  induction xs with
  | nil => rfl
  | cons x xs ih => simp [pairsL, Z0a, ih]; omega
theorem Z4h (xs : List (Nat × Nat)) (x : Nat × Nat) : pairsL (xs ++ [x]) = pairsL xs ++ le x.1 8 ++ le x.2 8 := by
  induction xs with
  | nil => simp [pairsL]
  | cons y xs ih => simp [pairsL, ih]
theorem Z7g (xs : List (Nat × Nat)) {j : Nat} (hj : j < xs.length) : pairsL (xs.take (j + 1)) = pairsL (xs.take j) ++ le xs[j].1 8 ++ le xs[j].2 8 := by
  rw [List.take_add_one, List.getElem?_eq_getElem hj]
  exact Z4h _ _
/-- A node's first four bytes. -/
def hdL (lv n : Nat) : List UInt8 := [] ++ le 76 1 ++ le lv 1 ++ le n 1 ++ le 0 1
theorem Z2l (lv n : Nat) : (hdL lv n).length = 4 := by simp [hdL, Z0a]
/-- A node's bytes ahead of their sum. -/
def leafL (lv : Nat) (xs : List (Nat × Nat)) : List UInt8 := fillL (hdL lv xs.length ++ pairsL xs) 252
theorem Z60 (lv : Nat) (xs : List (Nat × Nat)) : leafL lv xs = hdL lv xs.length ++ pairsL xs ++ List.replicate (248 - 16 * xs.length) 0 := by
  have h : ((252 : Int) - ((4 + 16 * xs.length : Nat) : Int)).toNat = 248 - 16 * xs.length := by omega
  unfold leafL fillL
  rw [List.length_append, Z2l, Z1d, h]
theorem Z1t (lv : Nat) (xs : List (Nat × Nat)) (h : xs.length ≤ 15) : (leafL lv xs).length = 252 := by
  rw [Z60]
  simp only [List.length_append, Z2l, Z1d, List.length_replicate]
  omega
theorem Z5q (lv : Nat) (xs : List (Nat × Nat)) (h : xs.length ≤ 15) : (sealL (leafL lv xs)).length = 256 := by rw [Z1g, Z1t lv xs h]
/-- The pair at a place of a page. -/
def pairAt (l : List UInt8) (i : Nat) : Nat × Nat := (numL ((l.drop (4 + 16 * i)).take 8), numL ((l.drop (12 + 16 * i)).take 8))
def pairsAt (l : List UInt8) (n : Nat) : List (Nat × Nat) := (List.range n).map (pairAt l)
theorem Z0x (l : List UInt8) (n : Nat) : (pairsAt l n).length = n := by simp [pairsAt]
theorem Z3v (l : List UInt8) (n : Nat) : pairsAt l (n + 1) = pairsAt l n ++ [pairAt l n] := by simp [pairsAt, List.range_succ]
theorem pairAt_lt (l : List UInt8) (i : Nat) : (pairAt l i).1 < 18446744073709551616 ∧ (pairAt l i).2 < 18446744073709551616 := by
  have h : ∀ m : List UInt8, numL (m.take 8) < 18446744073709551616 := fun m => by
    have h1 := Z5y (m.take 8)
    have h2 : 256 ^ (m.take 8).length ≤ 256 ^ 8 := Nat.pow_le_pow_right (by decide) (by simp; omega)
    have h3 : (256 : Nat) ^ 8 = 18446744073709551616 := by decide
    omega
  exact ⟨h _, h _⟩
theorem Z5b (l : List UInt8) (n : Nat) : ∀ x ∈ pairsAt l n, x.1 < 18446744073709551616 ∧ x.2 < 18446744073709551616 := by
  intro x hx
  simp only [pairsAt, List.mem_map] at hx
  obtain ⟨i, -, rfl⟩ := hx
  exact pairAt_lt l i
def lvAt (l : List UInt8) : Nat := (l.getD 1 0).toNat
def cntAt (l : List UInt8) : Nat := min (l.getD 2 0).toNat 15
theorem cntAt_le (l : List UInt8) : cntAt l ≤ 15 := Nat.min_le_right _ _
/-- Whether a page is a node's. -/
def readB (l : List UInt8) : Bool :=
  decide (l.length = 256) && (goodB (lvAt l : Nat) (pairsAt l (cntAt l)) && decide (sealL (leafL (lvAt l) (pairsAt l (cntAt l))) = l))

/-- The bytes of pairs are those that the pairs were read from. -/
theorem Z59 (l : List UInt8) (n : Nat) (h : 4 + 16 * n ≤ l.length) : pairsL (pairsAt l n) = (l.drop 4).take (16 * n) := by
  induction n with
  | zero => simp [pairsAt, pairsL]
  | succ n ih =>
    rw [Z3v, Z4h, ih (by omega)]
    have e1 : le (pairAt l n).1 8 = (l.drop (4 + 16 * n)).take 8 := by
      have := Z61 ((l.drop (4 + 16 * n)).take 8)
      rwa [show ((l.drop (4 + 16 * n)).take 8).length = 8 by simp; omega] at this
    have e2 : le (pairAt l n).2 8 = (l.drop (12 + 16 * n)).take 8 := by
      have := Z61 ((l.drop (12 + 16 * n)).take 8)
      rwa [show ((l.drop (12 + 16 * n)).take 8).length = 8 by simp; omega] at this
    rw [e1, e2, show 16 * (n + 1) = 16 * n + 8 + 8 by omega, List.take_add, List.take_add, List.drop_drop, List.drop_drop]
    rw [show 4 + (16 * n + 8) = 12 + 16 * n by omega]

theorem take4 (l : List UInt8) (h : 4 ≤ l.length) : l.take 4 = [l.getD 0 0, l.getD 1 0, l.getD 2 0, l.getD 3 0] := by
  match l, h with
  | a :: b :: c :: d :: r, _ => rfl
theorem le1 (x : UInt8) : le x.toNat 1 = [x] := by
  apply List.ext_getElem (by simp [Z0a])
  intro i h1 h2
  obtain rfl : i = 0 := by simp at h2; omega
  simp [le]

/-- What the code asks of a page that opens, is that it is its node's page. -/
theorem page_is (l : List UInt8) (hl : l.length = 256) (ho : sealL (l.take 252) = l) :
    readB l = (decide (l.getD 0 0 = 76 ∧ l.getD 3 0 = 0 ∧ (l.getD 2 0).toNat ≤ 15) && (((l.take 252).drop (4 + 16 * cntAt l)).all (· == 0) && goodB (lvAt l : Nat) (pairsAt l (cntAt l)))) := by
  unfold readB
  rw [decide_eq_true hl, Bool.true_and, Bool.and_comm (goodB _ _), ← Bool.and_assoc]
  congr 1
  rw [Bool.eq_iff_iff, Bool.and_eq_true, decide_eq_true_iff, decide_eq_true_iff, List.all_eq_true]
  have hn := cntAt_le l
  have hpl : (pairsAt l (cntAt l)).length = cntAt l := Z0x _ _
  have hpr := Z59 l (cntAt l) (by omega)
  have hlv : lvAt l = (l.getD 1 0).toNat := rfl
  have hcn : cntAt l = min (l.getD 2 0).toNat 15 := rfl
  have hlen := Z1t (lvAt l) (pairsAt l (cntAt l)) (by omega)
  have hT : sealL (leafL (lvAt l) (pairsAt l (cntAt l))) = l ↔ leafL (lvAt l) (pairsAt l (cntAt l)) = l.take 252 := by
    constructor
    · intro h
      have := congrArg (List.take 252) h
      rw [← this]
      unfold sealL
      rw [List.take_left' hlen]
    · intro h; rw [h, ho]
  have hsplit : l.take 252 = l.take 4 ++ ((l.drop 4).take (16 * cntAt l) ++ (l.take 252).drop (4 + 16 * cntAt l)) := by
    have e1 : (l.drop 4).take (16 * cntAt l) = ((l.take 252).drop 4).take (16 * cntAt l) := by
      rw [List.drop_take, List.take_take, Nat.min_eq_left (by omega)]
    have e2 : l.take 4 = (l.take 252).take 4 := by rw [List.take_take]; rfl
    have e3 : (l.take 252).drop (4 + 16 * cntAt l) = ((l.take 252).drop 4).drop (16 * cntAt l) := by rw [List.drop_drop]
    rw [e1, e2, e3, List.take_append_drop, List.take_append_drop]
  have hzl : ((l.take 252).drop (4 + 16 * cntAt l)).length = 248 - 16 * cntAt l := by simp; omega
  obtain ⟨Z, hZ⟩ : ∃ Z, (l.take 252).drop (4 + 16 * cntAt l) = Z := ⟨_, rfl⟩
  rw [hZ] at hsplit hzl ⊢
  rw [hT, Z60, hpl, hpr, hsplit, take4 l (by omega), List.append_assoc]
  clear hZ hsplit hT hlen
  generalize cntAt l = n at hn hcn hzl
  rw [hlv]
  have hh : hdL (l.getD 1 0).toNat n = [76, l.getD 1 0, UInt8.ofNat n, 0] := by
    unfold hdL
    rw [le1]
    simp [le]
  rw [hh]
  constructor
  · intro h
    have h1 := (List.append_inj h (by simp)).1
    have h2 := (List.append_inj (List.append_inj h (by simp)).2 rfl).2
    simp only [List.cons.injEq, true_and, and_true] at h1
    obtain ⟨ha, hb, hc⟩ := h1
    refine ⟨⟨ha.symm, hc.symm, ?_⟩, ?_⟩
    · rw [← hb]
      have : (UInt8.ofNat n).toNat = n := by simp; omega
      omega
    · rw [← h2]
      intro x hx
      rw [(List.mem_replicate.1 hx).2]; rfl
  · rintro ⟨⟨ha, hc, hb⟩, hz⟩
    have hnn : n = (l.getD 2 0).toNat := by omega
    rw [ha, hc, hnn]
    have : UInt8.ofNat (l.getD 2 0).toNat = l.getD 2 0 := by simp
    rw [this]
    congr 2
    symm
    rw [List.eq_replicate_iff]
    exact ⟨by rw [hzl, hnn], fun x hx => by simpa using hz x hx⟩
/-- A page that does not open is no node's. -/
theorem Z30 (l : List UInt8) (h : ¬ (l.length = 256 ∧ sealL (l.take 252) = l)) : readB l = false := by
  unfold readB
  by_cases hl : l.length = 256
  · have hs : ¬ sealL (l.take 252) = l := fun e => h ⟨hl, e⟩
    have : ¬ sealL (leafL (lvAt l) (pairsAt l (cntAt l))) = l := by
      intro e
      apply hs
      have hlen := Z1t (lvAt l) (pairsAt l (cntAt l)) (by rw [Z0x]; exact cntAt_le l)
      have := congrArg (List.take 252) e
      rw [← this]
      conv => rhs; rw [← e]
      unfold sealL
      rw [List.take_left' hlen]
    rw [decide_eq_false this, Bool.and_false, Bool.and_false]
  · rw [decide_eq_false hl, Bool.false_and]
end Go.Proofs.YtakkhglbdljfiaaGreatDoor
