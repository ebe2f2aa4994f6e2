/- What a store's device holds, plain. -/
import Derived.Test.YtakkhglbdljfiaaGreatDoorKStoreWhole18
import Derived.Test.YtakkhglbdljfiaaGreatDoorKStoreWhole08
import Derived.Laws.StructEq
import Derived.Test.YtakkhglbdljfiaaGreatDoorKStoreWhole01
import Derived.Test.YtakkhglbdljfiaaGreatDoorKStoreWhole02
namespace Go.Proofs.YtakkhglbdljfiaaGreatDoor
set_option linter.unusedVariables false
set_option linter.unusedSimpArgs false

abbrev noL : Int → Option Sec := fun _ => none
/-- Sector i; page c. -/
abbrev sc (S : List Sec) (i : Nat) : Sec := S.getD i []
def pgS (S : List Sec) (c : Nat) : List UInt8 := readL S noL (16 * c) 16
theorem nowAt_no (S : List Sec) (i : Nat) : nowAt S noL i = sc S i := by
  unfold nowAt
  rw [Option.getD_none, Int.toNat_natCast]
theorem Z4g {S : List Sec} {L : Int → Option Sec} {i : Nat} (h : i < S.length) : sc (nowL S L) i = nowAt S L i := by
  unfold sc
  rw [List.getD, nowL_at h]
  rfl
theorem stepF_at (F : Int → Option Nd) (L : Int → Option Sec) (c : Int) (i : Nat) : stepF F L c i = if ((i / 16 : Nat) : Int) = c then (match F c with | some nd => some (secOf (pgB nd) (i % 16)) | none => L i) else L i := by
  unfold stepF
  cases hF : F c with
  | none => split <;> rfl
  | some nd =>
    show wrS (pgB nd) (16 * c) L 16 i = _
    rw [Z3v]
    by_cases e : ((i / 16 : Nat) : Int) = c
    · rw [if_pos e, if_pos (by omega), show (((i : Nat) : Int) - 16 * c).toNat = i % 16 by omega]
    · rw [if_neg e, if_neg (by omega)]
theorem wrF_at (F : Int → Option Nd) (i : Nat) : ∀ (td : List Int) (L : Int → Option Sec), wrF F L td i = if ((i / 16 : Nat) : Int) ∈ td then (match F ((i / 16 : Nat) : Int) with | some nd => some (secOf (pgB nd) (i % 16)) | none => L i) else L i
  | [], L => by rw [if_neg (by simp)]; rfl
  | c :: r, L => by
    show wrF F (stepF F L c) r i = _
    rw [wrF_at F i r, stepF_at]
    by_cases e : ((i / 16 : Nat) : Int) = c
    · subst e
      simp only [List.mem_cons, true_or, if_true]
      cases F ((i / 16 : Nat) : Int) with
      | none => simp
      | some nd => simp
    · simp only [List.mem_cons, e, false_or, if_false]
theorem wrF_in {F : Int → Option Nd} {td : List Int} {L : Int → Option Sec} {c : Nat} {nd : Nd} (hc : (c : Int) ∈ td) (hF : F c = some nd) {j : Nat} (hj : j < 16) : wrF F L td ((16 * c + j : Nat) : Int) = some (secOf (pgB nd) j) := by
  rw [wrF_at]
  have e1 : (16 * c + j) / 16 = c := by omega
  have e2 : (16 * c + j) % 16 = j := by omega
  rw [e1, e2, if_pos hc, hF]
theorem wrF_out {F : Int → Option Nd} {td : List Int} {L : Int → Option Sec} {c : Nat} (hc : (c : Int) ∉ td) {j : Nat} (hj : j < 16) : wrF F L td ((16 * c + j : Nat) : Int) = L ((16 * c + j : Nat) : Int) := by
  rw [wrF_at]
  have e1 : (16 * c + j) / 16 = c := by omega
  rw [e1, if_neg hc]
theorem Z59 (l : List UInt8) : ∀ k, ((List.range k).map (secOf l)).flatten = l.take (16 * k)
  | 0 => rfl
  | k + 1 => by
    rw [List.range_succ, List.map_append, List.flatten_append, Z59 l k, Nat.mul_succ, List.take_add]
    simp [secOf]
theorem secs_all {l : List UInt8} {k : Nat} (h : l.length = 16 * k) : ((List.range k).map (secOf l)).flatten = l := by
  rw [Z59, ← h, List.take_length]
theorem Z6s (S : List Sec) (c : Nat) : pgS S c = ((List.range 16).map fun j => sc S (16 * c + j)).flatten := by
  unfold pgS readL
  congr 1
/-- Behind a flush. -/
theorem pg_new {S : List Sec} {F : Int → Option Nd} {td : List Int} {c : Nat} {nd : Nd} (hl : 16 * c + 16 ≤ S.length) (hc : (c : Int) ∈ td) (hF : F c = some nd) (hp : (pgB nd).length = 256) : pgS (nowL S (wrF F noL td)) c = pgB nd := by
  rw [Z6s]
  have e : (List.range 16).map (fun j => sc (nowL S (wrF F noL td)) (16 * c + j)) = (List.range 16).map (secOf (pgB nd)) := List.map_congr_left (fun j hj => by
    have hj := List.mem_range.1 hj
    rw [Z4g (by omega)]
    unfold nowAt
    rw [wrF_in hc hF hj]
    rfl)
  rw [e, secs_all (by omega)]
theorem hd_old {S : List Sec} {F : Int → Option Nd} {td : List Int} {o : Nat} (hl : o < S.length) (ho : o < 16) (htd : ∀ c ∈ td, 1 ≤ c) : sc (nowL S (wrF F noL td)) o = sc S o := by
  have h0 : ((0 : Nat) : Int) ∉ td := fun h => by have := htd _ h; omega
  have := wrF_out (F := F) (L := noL) h0 ho
  rw [Nat.mul_zero, Nat.zero_add] at this
  rw [Z4g hl]
  unfold nowAt
  rw [this]
  rfl
/-- A head's write. -/
theorem hd_wr {S : List Sec} {l : List UInt8} {o : Nat} (hl : o < S.length) (hb : l.length = 16) : sc (nowL S (wrS l o noL 1)) o = l := by
  rw [Z4g hl]
  unfold nowAt
  rw [Z3v, if_pos (by omega)]
  show secOf l ((o : Int) - o).toNat = l
  rw [Int.sub_self]
  unfold secOf
  show (l.drop (16 * 0)).take 16 = l
  rw [Nat.mul_zero, List.drop_zero, List.take_of_length_le (by omega)]
theorem Z7y {S : List Sec} {l : List UInt8} {o i : Nat} (hl : i < S.length) (hi : i ≠ o) : sc (nowL S (wrS l o noL 1)) i = sc S i := by
  rw [Z4g hl]
  unfold nowAt
  rw [Z3v, if_neg (by omega)]
  rfl
theorem pg_hd {S : List Sec} {l : List UInt8} {o c : Nat} (hl : 16 * c + 16 ≤ S.length) (ho : o < 16) (hc : 1 ≤ c) : pgS (nowL S (wrS l o noL 1)) c = pgS S c := by
  rw [Z6s, Z6s]
  congr 1
  exact List.map_congr_left (fun j hj => by
    have hj := List.mem_range.1 hj
    exact Z7y (by omega) (by omega))
/-- What a commit leaves. -/
def cmS (S : List Sec) (F : Int → Option Nd) (td : List Int) (o : Nat) (hb : List UInt8) : List Sec := nowL (nowL S (wrF F noL td)) (wrS hb o noL 1)
section
variable {S : List Sec} {F : Int → Option Nd} {td : List Int} {o c : Nat} {hb : List UInt8} {nd : Nd}
theorem cm_new (hl : 16 * c + 16 ≤ S.length) (ho : o < 16) (hc1 : 1 ≤ c) (hc : (c : Int) ∈ td) (hF : F c = some nd) (hp : (pgB nd).length = 256) : pgS (cmS S F td o hb) c = pgB nd := by
  unfold cmS
  rw [pg_hd (by rw [Z26]; exact hl) ho hc1, pg_new hl hc hF hp]
theorem cm_hd (hl : o < S.length) (hb16 : hb.length = 16) : sc (cmS S F td o hb) o = hb := by
  unfold cmS
  exact hd_wr (by rw [Z26]; exact hl) hb16
theorem cm_other {i : Nat} (hl : i < S.length) (hi : i < 16) (hio : i ≠ o) (htd : ∀ c ∈ td, 1 ≤ c) : sc (cmS S F td o hb) i = sc S i := by
  unfold cmS
  rw [Z7y (by rw [Z26]; exact hl) hio, hd_old hl hi htd]
end
theorem heads_read {n : Nat} {S : List Sec} (h : DOk n S noL) (hn : 2 ≤ n) : readL S noL 0 2 = sc S 0 ++ sc S 1 ∧ (sc S 0).length = 16 ∧ (sc S 1).length = 16 := by
  have hl := h.len
  have e0 : sc S 0 = S[0] := by unfold sc; rw [List.getD, List.getElem?_eq_getElem (by omega)]; rfl
  have e1 : sc S 1 = S[1] := by unfold sc; rw [List.getD, List.getElem?_eq_getElem (by omega)]; rfl
  refine ⟨?_, by rw [e0]; exact h.sz _ (List.getElem_mem _), by rw [e1]; exact h.sz _ (List.getElem_mem _)⟩
  rw [Z2n, Z2n]
  show [] ++ nowAt S noL ((0 + 0 : Nat) : Int) ++ nowAt S noL ((0 + 1 : Nat) : Int) = _
  rw [nowAt_no, nowAt_no]
  rfl
theorem Z5k (h : Hd) (ok : h.Ok) : hdRead (hdB h) = ⟨true, h.g.toNat, h.r, h.a, h.b, h.c⟩ := by
  obtain ⟨g, r, a, b, c⟩ := h
  obtain ⟨h1, h2, h3, h4, h5, h6, h7, h8, h9, h10⟩ := ok
  simp only at h1 h2 h3 h4 h5 h6 h7 h8 h9 h10
  obtain ⟨g, rfl⟩ := Int.eq_ofNat_of_zero_le (show 0 ≤ g by omega)
  obtain ⟨r, rfl⟩ := Int.eq_ofNat_of_zero_le h7
  obtain ⟨a, rfl⟩ := Int.eq_ofNat_of_zero_le (show 0 ≤ a by omega)
  obtain ⟨b, rfl⟩ := Int.eq_ofNat_of_zero_le (show 0 ≤ b by omega)
  obtain ⟨c, rfl⟩ := Int.eq_ofNat_of_zero_le (show 0 ≤ c by omega)
  exact Z80 g r a b c ⟨h1, h2, h3, h4, h5, h6, h7, h8, h9, h10⟩
theorem Z7z : hdRead zsec = .none := by
  unfold hdRead
  rw [if_neg]
  rintro ⟨_, h, _⟩
  have hg : hG zsec = 0 := by kernel_rfl
  have h5 := h.2.2.2.2.1
  rw [hg] at h5
  exact absurd h5 (by decide)
theorem hd_of (h : Hd) (ok : h.Ok) : (HeadR.hd ⟨true, h.g.toNat, h.r, h.a, h.b, h.c⟩) = h := by
  unfold HeadR.hd
  have : 0 ≤ h.g := by have := ok.2.2.2.2.1; omega
  obtain ⟨g, r, a, b, c⟩ := h
  simp only at this ⊢
  rw [Int.toNat_of_nonneg this]
/-- The newest of two heads. -/
theorem newL_app {a b : List UInt8} (ha : a.length = 16) : newL (a ++ b) = newest (hdRead a) (hdRead b) := by
  unfold newL
  rw [List.take_append_of_le_length (by omega), List.take_of_length_le (by omega), List.drop_append, List.drop_eq_nil_of_le (by omega), ha, Nat.sub_self, List.nil_append, List.drop_zero]
theorem newest_fst {h : Hd} (ok : h.Ok) {y : HeadR} (hy : y.ok = false ∨ y.g ≤ h.g.toNat) : newest ⟨true, h.g.toNat, h.r, h.a, h.b, h.c⟩ y = (⟨true, h.g.toNat, h.r, h.a, h.b, h.c⟩, 0) := by
  unfold newest
  rw [if_pos ⟨rfl, hy⟩]
theorem newest_snd {h : Hd} (ok : h.Ok) {x : HeadR} (hx : x.ok = false ∨ x.g < h.g.toNat) : newest x ⟨true, h.g.toNat, h.r, h.a, h.b, h.c⟩ = (⟨true, h.g.toNat, h.r, h.a, h.b, h.c⟩, 1) := by
  unfold newest
  rw [if_neg, if_pos rfl]
  rintro ⟨h1, h2 | h2⟩
  · cases h2
  · rcases hx with hx | hx
    · rw [h1] at hx; cases hx
    · exact absurd h2 (by simp only; omega)
end Go.Proofs.YtakkhglbdljfiaaGreatDoor

/- leaf's reference: Pairs. -/
namespace Go.Proofs.YtakkhglbdljfiaaGreatDoor
attribute [local simp] BigFrame.eval_const BigFrame.eval_global BigFrame.eval_func
set_option linter.unusedVariables false
set_option linter.unusedSimpArgs false
open Go.RowKit

theorem Z7s : Tryz.prog.underlying 98 = some (.struct (Tryz.prog.fieldsOf 98)) := by kernel_rfl
theorem pair_held : Tryz.prog.stoodInHeld 98 = false := by kernel_rfl
theorem part_p0 (w : World) (x y : Value) : (part 37 #[x, y] 0).run Tryz.prog w = .ok x w := by kernel_rfl
theorem part_p1 (w : World) (x y : Value) : (part 37 #[x, y] 1).run Tryz.prog w = .ok y w := by kernel_rfl
theorem eq_pair (d : Nat) (a b a' b' : Int) (w : World) : (Op.equalIn (d + 2) 98 (.agg #[.int .u64 a, .int .u64 b]) (.agg #[.int .u64 a', .int .u64 b'])).run Tryz.prog w = .ok ((a == a') && (b == b')) w := by
  have h0 := fun W x y => run_equalIn_int (P := Tryz.prog) W d 37 .u64 .u64 x y Tryz.underlying37
  rw [run_equalIn_struct w (d + 1) _ _ _ Z7s pair_held]
  have hf : (Tryz.prog.fieldsOf 98).toList.map (fun f => (f.name, f.type, f.offset)) = [("Key", 37, 0), ("Val", 37, 1)] := by kernel_rfl
  generalize (Tryz.prog.fieldsOf 98).toList = L at hf ⊢
  obtain ⟨f, g, rfl⟩ : ∃ f g, L = [f, g] := by
    rcases L with _ | ⟨f, _ | ⟨g, _ | ⟨h, L⟩⟩⟩
    · exact absurd (congrArg List.length hf) (by simp)
    · exact absurd (congrArg List.length hf) (by simp)
    · exact ⟨f, g, rfl⟩
    · exact absurd (congrArg List.length hf) (by simp)
  simp only [List.map_cons, List.map_nil, List.cons.injEq, Prod.mk.injEq, and_true] at hf
  obtain ⟨⟨n1, t1, o1⟩, n2, t2, o2⟩ := hf
  by_cases ha : a = a' <;> by_cases hb : b = b' <;> simp [Op.eqFields, n1, n2, t1, t2, o1, o2, Sem.run_bind, Sem.run_ite, part_p0, part_p1, h0, ha, hb]

theorem Row.pair_at {w w' : World} {b o : Nat} {xs : List (Nat × Nat)} (h : Row w (some ⟨b, o, none⟩) 2 pairC xs) (hb : Below w.heap.size w w') {j : Nat} (hj : j < xs.length) : w'.cell? ⟨b, o + j * 2, none⟩ = some (.int .u64 xs[j].1) ∧ w'.cell? ⟨b, o + j * 2 + 1, none⟩ = some (.int .u64 xs[j].2) := by
  obtain ⟨b', o', he, _, h1, h2⟩ := h.pair_in hb hj
  cases he
  exact ⟨h1, h2⟩
theorem pairs_any (A A' : Option Addr) (len cap len' cap' : Nat) (xs ys : List (Nat × Nat)) (w : World) (hlen : xs.length = len) (hlen' : ys.length = len') (hm : len ≤ 1000000) (hm' : len' ≤ 1000000) (hrow : Row w A 2 pairC xs) (hrow' : Row w A' 2 pairC ys) :
    Calls Tryz.prog 62 #[.slice A len cap, .slice A' len' cap'] w fun e w' => e = .returned (.bool (decide (xs = ys))) ∧ Ext w w' := by
  by_cases hl : len = len'
  · have d1 : ((len : Int) == (len' : Int)) = true := by simp [hl]
    have d2 : ((len : Int) != (len' : Int)) = false := by simp [hl]
    subst hl
    go_enter Tryz.func62, Tryz.ntmps62
    go_wp2_with fail
    go_loopw [5] (fun i wr => ∃ j : Nat, i = .int .i64 j ∧ j ≤ len ∧ Ext w wr ∧ Hid (xs.take j = ys.take j)) (fun i _ => len - (intOf i).toNat)
    case atStart => exact ⟨0, rfl, by omega, Ext.refl _, by simp [Hid]⟩
    case round =>
      obtain ⟨j, rfl, hj, hEx, HJ⟩ := hrel
      by_cases hlt : j < len
      · have hjx : j < xs.length := by omega
        have hjy : j < ys.length := by omega
        obtain ⟨b0, o0, rfl, hlt0, -, -⟩ := hrow.pair_in hEx hjx
        obtain ⟨b1, o1, rfl, hlt1, -, -⟩ := hrow'.pair_in hEx hjy
        have HQ := Lib.hid (fun (W : World) (h : Ext wr W) => And.intro (hrow.pair_at (hEx.trans h) hjx) (hrow'.pair_at (hEx.trans h) hjy))
        have HS := Lib.hid (show xs[j] = ys[j] → xs.take (j + 1) = ys.take (j + 1) from fun h => by rw [List.take_succ_eq_append_getElem hjx, List.take_succ_eq_append_getElem hjy, HJ.out, h])
        have HN := Lib.hid (show ¬ xs[j] = ys[j] → decide (xs = ys) = false from fun h => by rw [decide_eq_false_iff_not]; intro e; subst e; exact h rfl)
        generalize xs[j] = x at HQ HS HN
        generalize ys[j] = y at HQ HS HN
        obtain ⟨x0, x1⟩ := x
        obtain ⟨y0, y1⟩ := y
        have heq := fun W => eq_pair 9998 x0 x1 y0 y1 W
        have HEQ := Lib.hid heq
        clear heq
        go_upto_region 6 with fail
        refine Z1f (R := Ext) (w0 := wr) [[], [], [0, 1], [0, 1, 2], [], [], [4, 5], [4, 5, 6], [0, 1, 2, 3, 4, 5, 6, 7]] [17, 18, 19, 20, 21, 22, 23, 24, 25] Ext.refl (fun _ _ _ => Ext.trans) (Ext.drew _) (by kernel_rfl) ?_
        apply Build.det 17 Ext.refl (by rfl) (by rfl) rfl
        case h =>
          intro ax wx hE hR hF
          have e0 : ax.eval (.tmp 0) = .slice (some ⟨b0, o0, none⟩) len cap := hE.eval 0 (by rfl) rfl
          simp [go_sem, ↓IntWalk.iteOmega, ev e0, HEQ.out]
          with_reducible rfl
        apply Build.det 18 Ext.refl (by rfl) (by rfl) rfl
        case h =>
          intro ax wx hE hR hF
          have e5 : ax.eval (.tmp 5) = .int .i64 j := hE.eval 5 (by rfl) rfl
          simp [go_sem, ↓IntWalk.iteOmega, ev e5, HEQ.out]
          with_reducible rfl
        apply Build.det 19 Ext.refl (by rfl) (by rfl) rfl
        case h =>
          intro ax wx hE hR hF
          have e17 := hF 0 (det 17 _) (by decide) (.tail _ (.head _))
          have e18 := hF 1 (det 18 _) (by decide) (.head _)
          simp [go_sem, ↓IntWalk.iteOmega, ev e17, ev e18, HEQ.out]
          with_reducible rfl
        apply Build.det 20 Ext.refl (by rfl) (by rfl) rfl
        case h =>
          intro ax wx hE hR hF
          have e19 := hF 2 (det 19 _) (by decide) (.head _)
          have q0 := (HQ.out _ hR).1.1; have q1 := (HQ.out _ hR).1.2; have q2 := (HQ.out _ hR).2.1; have q3 := (HQ.out _ hR).2.2
          simp [go_sem, ↓IntWalk.iteOmega, ev e19, HEQ.out, q0, q1, q2, q3]
          with_reducible rfl
        apply Build.det 21 Ext.refl (by rfl) (by rfl) rfl
        case h =>
          intro ax wx hE hR hF
          have e1 : ax.eval (.tmp 1) = .slice (some ⟨b1, o1, none⟩) len cap' := hE.eval 1 (by rfl) rfl
          simp [go_sem, ↓IntWalk.iteOmega, ev e1, HEQ.out]
          with_reducible rfl
        apply Build.det 22 Ext.refl (by rfl) (by rfl) rfl
        case h =>
          intro ax wx hE hR hF
          have e5 : ax.eval (.tmp 5) = .int .i64 j := hE.eval 5 (by rfl) rfl
          simp [go_sem, ↓IntWalk.iteOmega, ev e5, HEQ.out]
          with_reducible rfl
        apply Build.det 23 Ext.refl (by rfl) (by rfl) rfl
        case h =>
          intro ax wx hE hR hF
          have e21 := hF 4 (det 21 _) (by decide) (.tail _ (.head _))
          have e22 := hF 5 (det 22 _) (by decide) (.head _)
          simp [go_sem, ↓IntWalk.iteOmega, ev e21, ev e22, HEQ.out]
          with_reducible rfl
        apply Build.det 24 Ext.refl (by rfl) (by rfl) rfl
        case h =>
          intro ax wx hE hR hF
          have e23 := hF 6 (det 23 _) (by decide) (.head _)
          have q0 := (HQ.out _ hR).1.1; have q1 := (HQ.out _ hR).1.2; have q2 := (HQ.out _ hR).2.1; have q3 := (HQ.out _ hR).2.2
          simp [go_sem, ↓IntWalk.iteOmega, ev e23, HEQ.out, q0, q1, q2, q3]
          with_reducible rfl
        apply Build.det 25 Ext.refl (by rfl) (by rfl) rfl
        case h =>
          intro ax wx hE hR hF
          have e20 := hF 3 (det 20 _) (by decide) (.tail _ (.tail _ (.tail _ (.tail _ (.head _)))))
          have e24 := hF 7 (det 24 _) (by decide) (.head _)
          simp [go_sem, ↓IntWalk.iteOmega, ev e20, ev e24, HEQ.out]
          with_reducible rfl
        apply Build.stop
        refine ⟨by kernel_rfl, .inl ⟨rfl, ?_⟩⟩
        intro ax w2 hE R2 hF
        have e17 := hF 0 (det 17 _) (.tail _ (.tail _ (.tail _ (.tail _ (.tail _ (.tail _ (.tail _ (.tail _ (.head _)))))))))
        have e18 := hF 1 (det 18 _) (.tail _ (.tail _ (.tail _ (.tail _ (.tail _ (.tail _ (.tail _ (.head _))))))))
        have e19 := hF 2 (det 19 _) (.tail _ (.tail _ (.tail _ (.tail _ (.tail _ (.tail _ (.head _)))))))
        have e20 := hF 3 (det 20 _) (.tail _ (.tail _ (.tail _ (.tail _ (.tail _ (.head _))))))
        have e21 := hF 4 (det 21 _) (.tail _ (.tail _ (.tail _ (.tail _ (.head _)))))
        have e22 := hF 5 (det 22 _) (.tail _ (.tail _ (.tail _ (.head _))))
        have e23 := hF 6 (det 23 _) (.tail _ (.tail _ (.head _)))
        have e24 := hF 7 (det 24 _) (.tail _ (.head _))
        have e25 := hF 8 (det 25 _) (.head _)
        rw [AllEq.frame (D := [17, 18, 19, 20, 21, 22, 23, 24, 25]) (AllEq.cons e17 (AllEq.cons e18 (AllEq.cons e19 (AllEq.cons e20 (AllEq.cons e21 (AllEq.cons e22 (AllEq.cons e23 (AllEq.cons e24 (AllEq.cons e25 (AllEq.nil)))))))))) hE rfl]
        clear hF hE e17 e18 e19 e20 e21 e22 e23 e24 e25
        simp only [List.foldl_cons, List.foldl_nil, Act.put, List.setIfInBounds_toArray, List.set_cons_succ, List.set_cons_zero]
        have hE2 := hEx.trans R2
        clear HEQ HQ
        by_cases hh : (x0, x1) = (y0, y1)
        · have h1 := (Prod.mk.inj hh).1
          have h2 := (Prod.mk.inj hh).2
          have HT := Lib.hid (HS.out hh)
          clear HN HS hh
          subst h1 h2
          simp only [beq_self_eq_true, Bool.not_true, Bool.or_self]
          go_wp2_with fail
          go_roundw
          case rel => exact ⟨j + 1, by go_num, by omega, hE2, HT.out⟩
          case measure => simp [intOf]; omega
        · have hB : (!((x0 : Int) == (y0 : Int)) || !((x1 : Int) == (y1 : Int))) = true := by
            rw [Bool.or_eq_true, Bool.not_eq_true', Bool.not_eq_true', beq_eq_false_iff_ne, beq_eq_false_iff_ne]
            by_cases h1 : x0 = y0
            · exact .inr (fun h2 => hh (by rw [h1, Int.ofNat.inj h2]))
            · exact .inl (fun h => h1 (Int.ofNat.inj h))
          have HT := Lib.hid (HN.out hh)
          rw [hB]
          clear HN HS hh hB
          go_wp2_with fail
          go_ret
          exact ⟨Z13 HT.out.symm, hE2⟩
      · have HA := Lib.hid (show decide (xs = ys) = true by
          have := HJ.out
          rw [List.take_of_length_le (by omega), List.take_of_length_le (by omega)] at this
          rw [decide_eq_true_iff]; exact this)
        go_wp2_with fail
        go_ret
        exact ⟨Z13 HA.out.symm, hEx⟩
  · have d1 : ((len : Int) == (len' : Int)) = false := by simp; omega
    have d2 : ((len : Int) != (len' : Int)) = true := by simp; omega
    have e : decide (xs = ys) = false := by rw [decide_eq_false_iff_not]; intro h; exact hl (by rw [← hlen, ← hlen', h])
    rw [e]
    clear e
    go_enter Tryz.func62, Tryz.ntmps62
    go_wp2_with fail
    go_ret
    exact ⟨rfl, Ext.refl _⟩
end Go.Proofs.YtakkhglbdljfiaaGreatDoor

/- leaf's reference: Same. -/
namespace Go.Proofs.YtakkhglbdljfiaaGreatDoor
set_option linter.unusedVariables false
set_option linter.unusedSimpArgs false
open Go.RowKit

theorem same_any (lv lv' : Int) (A A' : Option Addr) (len cap len' cap' : Nat) (xs ys : List (Nat × Nat)) (w : World) (hlen : xs.length = len) (hlen' : ys.length = len') (hm : len ≤ 1000000) (hm' : len' ≤ 1000000) (hrow : Row w A 2 pairC xs) (hrow' : Row w A' 2 pairC ys) :
    Calls Tryz.prog 22 #[.agg #[.int .i64 lv, .slice A len cap], .agg #[.int .i64 lv', .slice A' len' cap']] w fun e w' => e = .returned (.bool (decide (lv = lv' ∧ xs = ys))) ∧ Ext w w' := by
  have hE := (Ext.alloc w (.cells #[.int .i64 lv, .slice A len cap] 47)).trans (Ext.alloc _ (.cells #[.int .i64 lv', .slice A' len' cap'] 47))
  have HC := Lib.hid (pairs_any A A' len cap len' cap' xs ys _ hlen hlen' hm hm' (hrow.ext hE) (hrow'.ext hE))
  have HE := Lib.hid hE
  by_cases hl : lv = lv'
  · have e : decide (lv = lv' ∧ xs = ys) = decide (xs = ys) := by simp [hl]
    rw [e]
    generalize decide (xs = ys) = B at HC ⊢
    subst hl
    clear hE e hrow hrow'
    go_enter Tryz.func22, Tryz.ntmps22
    go_wp2_with fail
    refine HC.out.mono ?_
    rintro e w2 ⟨rfl, R2⟩
    have HR := Lib.hid (HE.out.trans R2)
    clear R2 HC
    go_wp2_with fail
    go_ret
    exact ⟨rfl, HR.out⟩
  · have e : decide (lv = lv' ∧ xs = ys) = false := by rw [decide_eq_false_iff_not]; exact fun h => hl h.1
    have d1 : (lv == lv') = false := by simpa using hl
    rw [e]
    clear hE e hrow hrow' HC
    go_enter Tryz.func22, Tryz.ntmps22
    go_wp2_with fail
    go_ret
    exact ⟨rfl, HE.out⟩
open Go.RowKit Go.Maps
/-- 'uint(N)'. -/
def uN (N : Int) : Nat := (IntKind.u64.wrap N).toNat
theorem Z78 (N : Int) (w : World) : (convert 3 26 (.int .i64 N)).run Tryz.prog w = .ok (.int .u64 ((uN N : Nat) : Int)) w := by
  have h : ((uN N : Nat) : Int) = IntKind.u64.wrap N := by
    unfold uN
    have : 0 ≤ IntKind.u64.wrap N := by
      show 0 ≤ N % 18446744073709551616
      omega
    omega
  rw [h]
  simp [convert, run_underlying Tryz.underlying3, run_underlying Tryz.underlying26, Conv.intToInt]
theorem conv_int (m : Nat) (w : World) (h : m ≤ 1000000) : (convert 26 3 (.int .u64 ((m : Nat) : Int))).run Tryz.prog w = .ok (.int .i64 ((m : Nat) : Int)) w := by
  simp [convert, run_underlying Tryz.underlying3, run_underlying Tryz.underlying26, Conv.intToInt, IntWalk.i64_in _ (show -9223372036854775808 ≤ (m : Int) ∧ (m : Int) ≤ 9223372036854775807 by omega)]
section
variable {w : World} {o : Oper} {ρ : Operand → Value} {t u : TypeId} {x y : Operand}
theorem x_remU {m j : Nat} {k : Int} (ho : o.op = .binOp .rem t x y u) (hx : ρ x = .int .u64 (m : Nat)) (hy : ρ y = .int .u64 k) (hk : k = (j : Nat)) (hj : 0 < j) : (execOp ρ o).run Tryz.prog w = .ok (.value (.int .u64 ((m % j : Nat) : Int))) w := by
  subst hk
  refine Z3h ho hx hy ?_
  have h0 : ¬ ((j : Int) = 0) := by omega
  have h2 : (m : Int).tmod (j : Int) = ((m % j : Nat) : Int) := rfl
  simp only [binOp, Op.intDiv, if_neg h0, h2]
  rfl
end
/-- A number of a row of arguments. -/
theorem row1I {w w' : World} {A : Option Addr} {xs : List Int} (h : Row1 w A (Value.int .i64) xs) (hb : Below w.heap.size w w') {i : Nat} {x : Int} (hi : xs[i]? = some x) : ∃ b off, A = some ⟨b, off, none⟩ ∧ w'.cell? ⟨b, off + i, none⟩ = some (.int .i64 x) := by
  obtain ⟨b, o, e, _, hc⟩ := (h.below hb) i x hi
  exact ⟨b, o, e, hc⟩
end Go.Proofs.YtakkhglbdljfiaaGreatDoor

/- store's laws: node, slots (printed by XStH.gen.py). -/
namespace Go.Proofs.YtakkhglbdljfiaaGreatDoor
attribute [local simp] BigFrame.eval_const BigFrame.eval_global BigFrame.eval_func
set_option linter.unusedVariables false
set_option linter.unusedSimpArgs false
open Go.RowKit Go.Maps

theorem Z79 (N : Int) (w : World) : (convert 3 37 (.int .i64 N)).run Tryz.prog w = .ok (.int .u64 ((uN N : Nat) : Int)) w := by
 have h : ((uN N : Nat) : Int) = IntKind.u64.wrap N := by
  unfold uN
  have : 0 ≤ IntKind.u64.wrap N := by
   simp only [IntKind.wrap, IntKind.signed, IntKind.bits]
   exact Int.emod_nonneg _ (by decide)
  omega
 rw [h]
 simp [convert, run_underlying Tryz.underlying3, run_underlying Tryz.underlying37, Conv.intToInt]
theorem uN_lt (N : Int) : uN N < 18446744073709551616 := by
 unfold uN
 have h1 : IntKind.u64.wrap N = N % 18446744073709551616 := by simp [IntKind.wrap, IntKind.signed, IntKind.bits]
 rw [h1]
 have := Int.emod_lt_of_pos N (show (0 : Int) < 18446744073709551616 by decide)
 have := Int.emod_nonneg N (show (18446744073709551616 : Int) ≠ 0 by decide)
 omega
/-- The laws' node. -/
def nodeP (n : Int) : List Pr := [(uN n, uN n)]
theorem Z4q (n : Int) : goodB ((0 : Nat) : Int) (nodeP n) = true := by
 rw [Z4t]
 refine ⟨⟨by decide, by decide, by simp [nodeP]⟩, .inl (by decide), fun i hi => ?_⟩
 have : i = 0 := by simp [nodeP] at hi; exact hi
 subst this
 exact ⟨.inl rfl, .inl (by decide)⟩
theorem Z7v (n : Int) : ∀ x ∈ nodeP n, x.1 < 18446744073709551616 ∧ x.2 < 18446744073709551616 := by
 intro x hx; obtain rfl := List.mem_singleton.1 (show x ∈ [(uN n, uN n)] from hx)
 exact ⟨uN_lt n, uN_lt n⟩
abbrev node (n : Int) : Nd := (0, nodeP n)
theorem Z4p (n : Int) : (pgB (node n)).length = 256 := pgB_len (Z4q n) (Z7v n)
theorem node_back (n : Int) : lvAt (pgB (node n)) = 0 ∧ cntAt (pgB (node n)) = 1 ∧ pairsAt (pgB (node n)) (cntAt (pgB (node n))) = nodeP n ∧ readB (pgB (node n)) = true := Z6t 0 (nodeP n) (Z4q n) (Z7v n) _ rfl
/-- A page that holds a node. -/
theorem Z58 {sb p kb fb mb n cap bm : Nat} {B : Option Addr} {S : List Sec} {h : Hd} {at_ : Int} {K : Int → Bool} {m : Int → Option Value} {F : Int → Option Nd} {vs : List Value} {N : List Nd} {M : Mn} (c : Nat) (x : Int) (nn : Int) (hx : x = (c : Nat)) (W0 : World) (hs : StR sb p h at_ kb fb K m W0) (hd : DiscR p mb B n cap bm S noL W0) (ok : StOk (pgs n) K F vs N m) (hc : 1 ≤ c ∧ c < pgs n) (hF : F x = none) (hmn : (tMn mb M).holds W0) (ha : M.away = false) (hp : pgS S c = pgB (node nn)) :
 Calls Tryz.prog 21 #[.pointer (some ⟨sb, 0, none⟩), .int .i64 x] W0 fun e w' => ∃ (By : Option Addr) (cy : Nat), e = .returned (.tuple #[.agg #[.int .i64 0, .slice By 1 cy], .int .i64 0]) ∧ Row w' By 2 pairC (nodeP nn) ∧ Ext W0 w' := by
 obtain ⟨h1, h2, h3, h4⟩ := node_back nn
 have hpe : readL S noL (16 * c) 16 = pgB (node nn) := hp
 refine (sread_page (M := M) c x W0 hs hd ok (by omega) hF hx hmn ha (by rw [hpe]; exact h4)).mono ?_
 rw [hpe, h1, h3, h2]
 rintro e w' ⟨By, cy, rfl, hr, hE⟩
 exact ⟨By, cy, rfl, hr, hE⟩
theorem same_node {W : World} {By Bz : Option Addr} {cy cz : Nat} {a b : Int} (hy : Row W By 2 pairC (nodeP a)) (hz : Row W Bz 2 pairC (nodeP b)) :
 Calls Tryz.prog 22 #[.agg #[.int .i64 0, .slice By 1 cy], .agg #[.int .i64 0, .slice Bz 1 cz]] W fun e w' => e = .returned (.bool (decide (nodeP a = nodeP b))) ∧ Ext W w' := by
 refine (same_any 0 0 By Bz 1 cy 1 cz (nodeP a) (nodeP b) W rfl rfl (by decide) (by decide) hy hz).mono ?_
 rintro e w' ⟨rfl, hE⟩
 refine ⟨congrArg (fun b => Ending.returned (.bool b)) (decide_eq_decide.2 ?_), hE⟩
 exact ⟨fun h => h.2, fun h => ⟨rfl, h⟩⟩

set_option maxRecDepth 100000 in
set_option maxHeartbeats 8000000 in
theorem Z39 (n : Int) (W0 : World) : Calls Tryz.prog 14 #[.int .i64 n] W0 fun e w' => ∃ g, e = .returned (.agg #[.int .i64 0, .slice (some ⟨g, 0, none⟩) 1 1]) ∧ Row w' (some ⟨g, 0, none⟩) 2 pairC (nodeP n) ∧ Ext W0 w' := by
 have O := OwnT.start W0
 refine Z0c Tryz.func14 rfl 10 rfl (by rfl) ?_
 intro a1 k hargs; have e0 : a1.eval (.tmp 0) = .int .i64 n := hargs 0 _ rfl
 clear hargs; refine wp_seq ?_; refine wp_region_lit ?_
 have hE := Env.refl a1 [2]; refine Z19 O (cs := #[.int .i64 0, .slice none 0 0]) (t := 47) 2 hE k rfl (by rfl) (by rfl) rfl (by simp [go_sem, ↓IntWalk.iteOmega]) ?_
 clear O; intro rb a2 w3 O hE e2 kp; refine wpList_nil ?_; replace e0 := hE.g e0; replace k := k.env hE; clear hE; refine Z00 (wp_seq ?_); refine wp_region_lit ?_
 have hE := Env.refl a2 [3, 4, 5, 6, 7, 8, 9]; refine zm 3 hE k e0 ?_; intro a4 hE e3 kp; refine sd 4 hE k (Z3t rfl e3 (Z79 n _)) ?_; intro a5 hE e4 kp; refine zm 5 hE k e0 ?_; intro a6 hE e5 kp; replace e4 := kt kp e4; refine sd 6 hE k (Z3t rfl e5 (Z79 n _)) ?_; intro a7 hE e6 kp; replace e4 := kt kp e4; apply Z02 7 hE k rfl rfl rfl rfl; case h =>
  simp [go_sem, ↓IntWalk.iteOmega, ev e4, ev e6]
  with_reducible rfl
 intro a8 hE e7 kp; refine Z2f (m := 1) (c := 1) O (cs := #[.int .u64 (↑(uN n)), .int .u64 (↑(uN n))]) (t := 98) 8 hE k rfl (by rfl) (by rfl) rfl (by simp [go_sem, ↓IntWalk.iteOmega, ev e7]) ?_
 clear O; intro pb a9 w10 O hE e8 kp; apply Z02 9 hE k rfl rfl rfl rfl; case h =>
  simp [go_sem, ↓IntWalk.iteOmega, ev e8]
  with_reducible rfl
 intro a11 hE e9 kp; have q0 : w10.cell? ⟨rb, 0, none⟩ = some (.int .i64 0) := (OwnT.blk O 1 rfl).cell 0
 have z0 : w10.frozen? ⟨rb, 0, none⟩ = false := (OwnT.blk O 1 rfl).frozen 0
 have q1 : w10.cell? ⟨rb, 1, none⟩ = some (.slice none 0 0) := (OwnT.blk O 1 rfl).cell 1
 have z1 : w10.frozen? ⟨rb, 1, none⟩ = false := (OwnT.blk O 1 rfl).frozen 1
 refine Z0y (w' := ((w10.setCell ⟨rb, 0, none⟩ (.int .i64 0)).setCell ⟨rb, 1, none⟩ (.slice (some ⟨pb, 0, none⟩) 1 1))) hE rfl rfl (by simp [go_sem, ↓IntWalk.iteOmega, ev (hE.g e2), ev e9, q0, z0, q1, z1]) ?_
 replace O := OwnT.push 1 rfl (((OwnT.pull O 1 rfl).set 0 (.int .i64 0)).set 1 (.slice (some ⟨pb, 0, none⟩) 1 1))
 clear q0 z0 q1 z1; generalize ((w10.setCell ⟨rb, 0, none⟩ (.int .i64 0)).setCell ⟨rb, 1, none⟩ (.slice (some ⟨pb, 0, none⟩) 1 1)) = w12 at O ⊢
 replace O : OwnT _ _ ([tBlk pb 98 #[.int .u64 (↑(uN n)), .int .u64 (↑(uN n))], tBlk rb 47 #[.int .i64 0, .slice (some ⟨pb, 0, none⟩) 1 1]]) w12 := O
 refine wpList_nil ?_; replace e2 := hE.g e2; replace k := k.env hE; clear hE e0 e9; refine Z00 ?_; refine wp_ret ?_
 have hb := OwnT.blk O 0 rfl
 have hrow : Row w12 (some ⟨pb, 0, none⟩) 2 pairC (nodeP n) := by
  intro i x hx; have hi0 : i = 0 := by have := (List.getElem?_eq_some_iff.1 hx).1; simp [nodeP] at this; exact this
  subst hi0
  obtain rfl : (uN n, uN n) = x := by simpa [nodeP] using hx
  refine ⟨pb, 0, rfl, hb.lt, fun j u hu => ?_⟩
  rw [show 0 + 0 * 2 + j = j by omega, hb.cell j, ← Array.getElem?_toList]
  exact hu

 have q0 := OwnT.blk O 1 rfl
 have q0 : w12.cell? ⟨rb, 0, none⟩ = some (.int .i64 0) := (OwnT.blk O 1 rfl).cell 0
 have q1 : w12.cell? ⟨rb, 1, none⟩ = some (.slice (some ⟨pb, 0, none⟩) 1 1) := (OwnT.blk O 1 rfl).cell 1
 refine Z7m rfl k e2 (v := .agg #[.int .i64 0, .slice (some ⟨pb, 0, none⟩) 1 1]) (by simp [go_sem, ↓IntWalk.iteOmega, q0, q1]) ?_
 exact ⟨pb, rfl, hrow, O.below⟩
theorem Z6i (W0 : World) : Calls Tryz.prog 11 #[] W0 fun e w' => e = .returned (.agg #[.int .i64 9, .int .i64 3]) ∧ Ext W0 w' := by
 have O := OwnT.start W0
 refine Z0c Tryz.func11 rfl 2 rfl (by rfl) ?_
 intro a1 k hargs; clear hargs; refine wp_seq ?_; refine wp_region_lit ?_
 have hE := Env.refl a1 [0]; refine Z19 O (cs := #[.int .i64 0, .int .i64 0]) (t := 33) 0 hE k rfl (by rfl) (by rfl) rfl (by simp [go_sem, ↓IntWalk.iteOmega]) ?_
 clear O; intro rb a2 w3 O hE e0 kp; refine wpList_nil ?_; replace k := k.env hE; clear hE; refine Z00 (wp_seq ?_); refine wp_region_lit ?_
 have hE := Env.refl a2 [1]; apply Z02 1 hE k rfl rfl rfl rfl; case h =>
  simp [go_sem, ↓IntWalk.iteOmega]
  with_reducible rfl
 intro a4 hE e1 kp; have q0 : w3.cell? ⟨rb, 0, none⟩ = some (.int .i64 0) := (OwnT.blk O 0 rfl).cell 0
 have z0 : w3.frozen? ⟨rb, 0, none⟩ = false := (OwnT.blk O 0 rfl).frozen 0
 have q1 : w3.cell? ⟨rb, 1, none⟩ = some (.int .i64 0) := (OwnT.blk O 0 rfl).cell 1
 have z1 : w3.frozen? ⟨rb, 1, none⟩ = false := (OwnT.blk O 0 rfl).frozen 1
 refine Z0y (w' := ((w3.setCell ⟨rb, 0, none⟩ (.int .i64 9)).setCell ⟨rb, 1, none⟩ (.int .i64 3))) hE rfl rfl (by simp [go_sem, ↓IntWalk.iteOmega, ev (hE.g e0), ev e1, q0, z0, q1, z1]) ?_
 replace O := OwnT.push 0 rfl (((OwnT.pull O 0 rfl).set 0 (.int .i64 9)).set 1 (.int .i64 3))
 clear q0 z0 q1 z1; generalize ((w3.setCell ⟨rb, 0, none⟩ (.int .i64 9)).setCell ⟨rb, 1, none⟩ (.int .i64 3)) = w5 at O ⊢
 replace O : OwnT _ _ ([tBlk rb 33 #[.int .i64 9, .int .i64 3]]) w5 := O
 refine wpList_nil ?_; replace e0 := hE.g e0; replace k := k.env hE; clear hE e1; refine Z00 ?_; refine wp_ret ?_
 have q0 : w5.cell? ⟨rb, 0, none⟩ = some (.int .i64 9) := (OwnT.blk O 0 rfl).cell 0
 have q1 : w5.cell? ⟨rb, 1, none⟩ = some (.int .i64 3) := (OwnT.blk O 0 rfl).cell 1
 refine Z7m rfl k e0 (v := .agg #[.int .i64 9, .int .i64 3]) (by simp [go_sem, ↓IntWalk.iteOmega, q0, q1]) ?_
 exact ⟨rfl, O.below⟩
end Go.Proofs.YtakkhglbdljfiaaGreatDoor

/- The store at rest: no power goes. -/
namespace Go.Proofs.YtakkhglbdljfiaaGreatDoor
set_option linter.unusedVariables false
set_option linter.unusedSimpArgs false
open Go.RowKit Go.Maps

/-- A formatted device. -/
def fmS (S : List Sec) (L : Int → Option Sec) (h : Hd) : List Sec := nowL S (wrS (hdB h ++ zsec) 0 L 2)
theorem zsec_len : zsec.length = 16 := by unfold zsec; rw [List.length_replicate]
section
variable {S : List Sec} {L : Int → Option Sec} {h : Hd}
theorem fm_len : (fmS S L h).length = S.length := by unfold fmS; rw [Z26]
theorem fm_0 (hl : 2 ≤ S.length) : sc (fmS S L h) 0 = hdB h := by
  unfold fmS
  rw [Z4g (by omega)]
  unfold nowAt
  rw [Z3v, if_pos (by omega)]
  show secOf (hdB h ++ zsec) 0 = hdB h
  unfold secOf
  show ((hdB h ++ zsec).drop (16 * 0)).take 16 = hdB h
  rw [Nat.mul_zero, List.drop_zero, List.take_append_of_le_length (by rw [Z2i]; omega), List.take_of_length_le (by rw [Z2i]; omega)]
theorem fm_1 (hl : 2 ≤ S.length) : sc (fmS S L h) 1 = zsec := by
  unfold fmS
  rw [Z4g (by omega)]
  unfold nowAt
  rw [Z3v, if_pos (by omega)]
  show secOf (hdB h ++ zsec) 1 = zsec
  unfold secOf
  rw [Nat.mul_one, List.drop_append, List.drop_eq_nil_of_le (by rw [Z2i]; omega), Z2i, Nat.sub_self, List.nil_append, List.drop_zero, List.take_of_length_le (by rw [zsec_len]; omega)]
end
theorem Z1u {P : Nat} {F : Int → Option Nd} {xs : List Int} {c : Int} : c ∈ todo P F xs ↔ ((0 ≤ c ∧ c < P) ∧ (F c).isSome = true) ∧ c ∈ xs := by
  unfold todo fL
  rw [List.mem_filter, Z1j, decide_eq_true_iff]
theorem todo_ge {P : Nat} {K : Int → Bool} {F : Int → Option Nd} {vs : List Value} {N : List Nd} {m : Int → Option Value} (ok : StOk P K F vs N m) {xs : List Int} : ∀ c ∈ todo P F xs, 1 ≤ c := by
  intro c hc
  obtain ⟨⟨_, h⟩, _⟩ := Z1u.1 hc
  obtain ⟨nd, h⟩ := Option.isSome_iff_exists.1 h
  exact (ok.fr c nd h).1
/-- The newest of two heads of a device. -/
theorem Z6x {n : Nat} {S : List Sec} (hd : DOk n S noL) (hn : 2 ≤ n) {h h' : Hd} {o : Nat} (ho : o = 0 ∨ o = 1) (ok : h.Ok) (h1 : sc S o = hdB h) (h2 : sc S (1 - o) = zsec ∨ (sc S (1 - o) = hdB h' ∧ h'.Ok ∧ h'.g < h.g)) :
    (newL (readL S noL 0 2)).1.ok = true ∧ (newL (readL S noL 0 2)).1.hd = h ∧ (newL (readL S noL 0 2)).2 = (o : Nat) := by
  obtain ⟨e1, e2, e3⟩ := heads_read hd hn
  rw [e1, newL_app e2]
  have hy : (hdRead (sc S (1 - o))).ok = false ∨ (hdRead (sc S (1 - o))).g < h.g.toNat := by
    rcases h2 with h2 | ⟨h2, h3, h4⟩
    · rw [h2, Z7z]; exact .inl rfl
    · rw [h2, Z5k h' h3]
      refine .inr ?_
      show h'.g.toNat < h.g.toNat
      have := h3.2.2.2.2.1
      omega
  have hr : hdRead (sc S o) = ⟨true, h.g.toNat, h.r, h.a, h.b, h.c⟩ := by rw [h1, Z5k h ok]
  have hh := hd_of h ok
  rcases ho with rfl | rfl
  · rw [hr, newest_fst ok (hy.imp id Nat.le_of_lt)]
    exact ⟨rfl, hh, rfl⟩
  · rw [hr, newest_snd ok hy]
    exact ⟨rfl, hh, rfl⟩
section
variable {H : Nat} {A0 : World} {R : List Thing} {sb p kb fb mb n cap bm : Nat} {B : Option Addr} {S : List Sec} {L : Int → Option Sec} {h : Hd} {at_ : Int} {K : Int → Bool} {m : Int → Option Value} {F : Int → Option Nd} {vs : List Value} {N : List Nd} {M : Mn}
theorem Z3w {c0 : Int} (s0 s1 ch : Int) (w : World) (O : OwnT H A0 (tDisc p mb B n cap bm S L :: tMn mb M :: R) w) (hok : (fmtHd s0 s1 ch).Ok) (hp2 : 2 ≤ pgs n) (hM : M.Ok c0) (hc : c0 ≤ 800000000000) (hF : M.Free) :
    Calls Tryz.prog 9 #[.pointer (some ⟨p, 0, none⟩), .agg #[.int .i64 s0, .int .i64 s1], .int .i64 ch] w fun e w' => ∃ (j sb kb fb : Nat), j ≤ 3 ∧ e = .returned (.tuple #[.pointer (some ⟨sb, 0, none⟩), .int .i64 0]) ∧ OwnT H A0 (stL sb p (fmtHd s0 s1 ch) 0 kb fb (fun _ => false) (fun _ => none) [] [] (tDisc p mb B n cap bm (fmS S L (fmtHd s0 s1 ch)) noL :: tMn mb (M.useN j) :: R)) w' := by
  refine (sformat_go s0 s1 ch w O hok hp2 hM hc).mono ?_
  rintro e w' ⟨j, hj, ⟨sb, kb, fb, rfl, O'⟩ | ⟨hN, _⟩⟩
  · exact ⟨j, sb, kb, fb, hj, rfl, O'⟩
  · exact absurd hF hN
theorem Z6p {A : Option Addr} {ca : Nat} {xs : List Int} {c0 : Int} (o : Nat) (root : Int) (w : World) (O : OwnT H A0 (stL sb p h at_ kb fb K m vs N (tDisc p mb B n cap bm S noL :: tMn mb M :: R)) w) (ok : StOk (pgs n) K F vs N m) (hrow : ∀ W, OwnT H A0 R W → Row1 W A (Value.int .i64) xs) (hn : xs.length ≤ 1000000) (hg : 0 ≤ h.g ∧ h.g ≤ 4294967295) (hat : (at_ = 0 ∧ o = 1) ∨ (at_ = 1 ∧ o = 0)) (hn32 : 2 ≤ n) (hM : M.Ok c0) (hc : c0 ≤ 800000000000) (hok : (nextHd h root).Ok) (hlost : xs.any (lostB (pgs n) K F) = false) (hrt : root = 0 ∨ root ∈ xs) (hF : M.Free) :
    Calls Tryz.prog 19 #[.pointer (some ⟨sb, 0, none⟩), .int .i64 root, .slice A xs.length ca] w fun e w' => ∃ (j : Nat) (m' : Int → Option Value), e = .returned (.int .i64 0) ∧ j ≤ 9100 ∧ OwnT H A0 (stL sb p (nextHd h root) (o : Nat) kb fb (inP (pgs n) xs) m' vs N (tDisc p mb B n cap bm (cmS S F (todo (pgs n) F xs) o (hdB (nextHd h root))) noL :: tMn mb (M.useN j) :: R)) w' ∧ StOk (pgs n) (inP (pgs n) xs) (fun _ => none) vs N m' := by
  have ho : (1 : Int) - at_ = (o : Nat) := by omega
  refine (Z5a root w O ok hrow hn hg rfl (by omega) hn32 hM hc hok hlost hrt).mono ?_
  rintro e w' ⟨c, j, rfl, hj, ⟨rfl, m', O', ok'⟩ | ⟨_, hN, _⟩⟩
  · rw [ho] at O'
    exact ⟨j, m', rfl, hj, O', ok'⟩
  · exact absurd hF hN
theorem sopen_is {h1 : Hd} {at1 : Int} (w : World) (O : OwnT H A0 (tDisc p mb B n cap bm S noL :: tMn mb M :: R) w) (hp2 : 2 ≤ pgs n) (ha : M.away = false) (hx : (newL (readL S noL 0 2)).1.ok = true ∧ (newL (readL S noL 0 2)).1.hd = h1 ∧ (newL (readL S noL 0 2)).2 = at1) :
    Calls Tryz.prog 34 #[.pointer (some ⟨p, 0, none⟩)] w fun e w' => ∃ (sb kb fb : Nat), e = .returned (.tuple #[.pointer (some ⟨sb, 0, none⟩), .int .i64 0]) ∧ OwnT H A0 (stL sb p h1 at1 kb fb (fun _ => false) (fun _ => none) [] [] (tDisc p mb B n cap bm S noL :: tMn mb M :: R)) w' := by
  obtain ⟨h1, h2, h3⟩ := hx
  have := sopen_ok w O hp2 ha h1
  rw [h2, h3] at this
  exact this
/-- A node is added. -/
theorem Z6q (nn : Int) {g : Nat} (w : World) (O : OwnT H A0 (stL sb p h at_ kb fb K m vs N (tDisc p mb B n cap bm S L :: R)) w) (ok : StOk (pgs n) K F vs N m) (hrow : Row w (some ⟨g, 0, none⟩) 2 pairC (nodeP nn)) :
    Calls Tryz.prog 13 #[.pointer (some ⟨sb, 0, none⟩), .agg #[.int .i64 0, .slice (some ⟨g, 0, none⟩) 1 1]] w fun e w' =>
      (∃ (c : Nat) (m' : Int → Option Value) (vs' : List Value) (N' : List Nd), FirstFree (pgs n) K F c ∧ e = .returned (.tuple #[.int .i64 c, .int .i64 0]) ∧ OwnT H A0 (stL sb p h at_ kb fb K m' vs' N' (tDisc p mb B n cap bm S L :: R)) w' ∧ StOk (pgs n) K (putF F c (node nn)) vs' N' m') ∨ (NoFree (pgs n) K F ∧ e = .returned (.tuple #[.int .i64 0, .int .i64 6]) ∧ OwnT H A0 (stL sb p h at_ kb fb K m vs N (tDisc p mb B n cap bm S L :: R)) w') :=
  sadd_any 0 (some ⟨g, 0, none⟩) 1 (nodeP nn) w O ok hrow (by simp [nodeP]) (Z7v nn) (.inr ⟨g, 0, rfl⟩) (Z4q nn)
theorem FirstFree.eq {P : Nat} {K : Int → Bool} {F : Int → Option Nd} {c d : Nat} (h : FirstFree P K F c) (k : FirstFree P K F d) : c = d := by
  rcases Nat.lt_trichotomy c d with e | e | e
  · have := k.2.2.2 c h.1 e
    rw [h.2.2.1] at this
    cases this
  · exact e
  · have := h.2.2.2 d k.1 e
    rw [k.2.2.1] at this
    cases this
theorem FirstFree.some {P : Nat} {K : Int → Bool} {F : Int → Option Nd} {c : Nat} (h : FirstFree P K F c) (k : NoFree P K F) : False := by
  have := k c h.1 h.2.1
  rw [h.2.2.1] at this
  cases this
theorem sadd_at (nn : Int) (c : Nat) (x : Int) (hx : x = (c : Nat)) {g : Nat} (w : World) (O : OwnT H A0 (stL sb p h at_ kb fb K m vs N (tDisc p mb B n cap bm S L :: R)) w) (ok : StOk (pgs n) K F vs N m) (hrow : Row w (some ⟨g, 0, none⟩) 2 pairC (nodeP nn)) (hf : FirstFree (pgs n) K F c) :
    Calls Tryz.prog 13 #[.pointer (some ⟨sb, 0, none⟩), .agg #[.int .i64 0, .slice (some ⟨g, 0, none⟩) 1 1]] w fun e w' =>
      ∃ (m' : Int → Option Value) (vs' : List Value) (N' : List Nd), e = .returned (.tuple #[.int .i64 x, .int .i64 0]) ∧ OwnT H A0 (stL sb p h at_ kb fb K m' vs' N' (tDisc p mb B n cap bm S L :: R)) w' ∧ StOk (pgs n) K (putF F x (node nn)) vs' N' m' := by
  subst hx
  refine (Z6q nn w O ok hrow).mono ?_
  rintro e w' (⟨d, m', vs', N', hd, rfl, O', ok'⟩ | ⟨hn, _⟩)
  · obtain rfl := hf.eq hd
    exact ⟨m', vs', N', rfl, O', ok'⟩
  · exact (hf.some hn).elim
theorem OwnT.graft {L1 L2 : List Thing} {w w' : World} (h : OwnT H A0 L1 w) (k : OwnT w.heap.size w L2 w') : OwnT H A0 (L2 ++ L1) w' := by
  have h1 := h.ext k.below
  refine ⟨h1.below, h1.size, Ths.of fun x hx => ?_, fun x hx i hi => ?_, List.pairwise_append.2 ⟨k.diff, h.diff, fun x hx y hy i hi hj => ?_⟩⟩
  · rcases List.mem_append.1 hx with hx | hx
    · exact k.all.mem hx
    · exact h1.all.mem hx
  · rcases List.mem_append.1 hx with hx | hx
    · have := k.high x hx i hi
      have := h.size
      omega
    · exact h.high x hx i hi
  · have := k.high x hx i hi
    have := h.lt hy hj
    omega
theorem sread_add (x nn : Int) (w : World) (O : OwnT H A0 (stL sb p h at_ kb fb K m vs N (tDisc p mb B n cap bm S L :: R)) w) (ok : StOk (pgs n) K F vs N m) (hF : F x = some (node nn)) :
    Calls Tryz.prog 21 #[.pointer (some ⟨sb, 0, none⟩), .int .i64 x] w fun e w' => ∃ (By : Option Addr) (cy : Nat), e = .returned (.tuple #[.agg #[.int .i64 0, .slice By 1 cy], .int .i64 0]) ∧ OwnT H A0 (tPs (.slice By 1 cy) (nodeP nn) :: stL sb p h at_ kb fb K m vs N (tDisc p mb B n cap bm S L :: R)) w' := by
  refine (sread_own x w (OwnT.stR O) (OwnT.disc (OwnT.pull O 4 rfl)) ok (OwnT.get O 3 rfl) 0 (nodeP nn) hF).mono ?_
  rintro e w' ⟨By, cy, rfl, k⟩
  exact ⟨By, cy, rfl, O.graft k⟩
theorem row1_blk {w : World} {g : Nat} {T : TypeId} {xs : List Int} (h : Blk w g T (xs.map (Value.int .i64)).toArray) : Row1 w (some ⟨g, 0, none⟩) (Value.int .i64) xs := by
  intro i x hx
  refine ⟨g, 0, rfl, h.lt, ?_⟩
  rw [Nat.zero_add, h.cell i]
  simp [hx]
theorem Z2h {W : World} {By Bz : Option Addr} {cy cz : Nat} {a : Int} (hy : Row W By 2 pairC (nodeP a)) (hz : Row W Bz 2 pairC (nodeP a)) :
    Calls Tryz.prog 22 #[.agg #[.int .i64 0, .slice By 1 cy], .agg #[.int .i64 0, .slice Bz 1 cz]] W fun e w' => e = .returned (.bool true) ∧ Ext W w' := by
  refine (same_node hy hz).mono ?_
  rintro e w' ⟨rfl, hE⟩
  rw [decide_eq_true rfl]
  exact ⟨rfl, hE⟩
/-- Where a device's heads are: the committed one is the newest. -/
def HeadsAt (S : List Sec) (h : Hd) (o : Nat) : Prop := (o = 0 ∨ o = 1) ∧ h.Ok ∧ sc S o = hdB h ∧ (sc S (1 - o) = zsec ∨ ∃ h' : Hd, sc S (1 - o) = hdB h' ∧ h'.Ok ∧ h'.g < h.g)
theorem heads_fm {h : Hd} (hl : 2 ≤ S.length) (ok : h.Ok) : HeadsAt (fmS S L h) h 0 := ⟨.inl rfl, ok, fm_0 hl, .inl (fm_1 hl)⟩
theorem heads_cm {h : Hd} {o : Nat} {root : Int} {td : List Int} (hh : HeadsAt S h o) (hl : 2 ≤ S.length) (ok : (nextHd h root).Ok) (htd : ∀ c ∈ td, 1 ≤ c) : HeadsAt (cmS S F td (1 - o) (hdB (nextHd h root))) (nextHd h root) (1 - o) := by
  obtain ⟨h1, h2, h3, h4⟩ := hh
  refine ⟨by omega, ok, cm_hd (by omega) (Z2i _), .inr ⟨h, ?_, h2, ?_⟩⟩
  · rw [show 1 - (1 - o) = o by omega, cm_other (by omega) (by omega) (by omega) htd]
    exact h3
  · show h.g < h.g + 1
    omega
theorem HeadsAt.newest {h : Hd} {o : Nat} (hh : HeadsAt S h o) (hd : DOk n S noL) (hn : 2 ≤ n) : (newL (readL S noL 0 2)).1.ok = true ∧ (newL (readL S noL 0 2)).1.hd = h ∧ (newL (readL S noL 0 2)).2 = (o : Nat) := by
  obtain ⟨h1, h2, h3, h4 | ⟨h', h4⟩⟩ := hh
  · exact Z6x (h' := h) hd hn h1 h2 h3 (.inl h4)
  · exact Z6x hd hn h1 h2 h3 (.inr h4)
/-- A whole commit of a sound store. -/
theorem scommit_at {A : Option Addr} {ca : Nat} {xs : List Int} {c0 : Int} {o : Nat} (root : Int) (w : World) (O : OwnT H A0 (stL sb p h (o : Nat) kb fb K m vs N (tDisc p mb B n cap bm S noL :: tMn mb M :: R)) w) (ok : StOk (pgs n) K F vs N m) (hrow : ∀ W, OwnT H A0 R W → Row1 W A (Value.int .i64) xs) (hn : xs.length ≤ 1000000) (hh : HeadsAt S h o) (hn32 : 2 ≤ n) (hM : M.Ok c0) (hc : c0 ≤ 800000000000) (hok : (nextHd h root).Ok) (hlost : xs.any (lostB (pgs n) K F) = false) (hrt : root = 0 ∨ root ∈ xs) (hF : M.Free) :
    Calls Tryz.prog 19 #[.pointer (some ⟨sb, 0, none⟩), .int .i64 root, .slice A xs.length ca] w fun e w' => ∃ (j : Nat) (m' : Int → Option Value), e = .returned (.int .i64 0) ∧ j ≤ 9100 ∧ OwnT H A0 (stL sb p (nextHd h root) ((1 - o : Nat) : Int) kb fb (inP (pgs n) xs) m' vs N (tDisc p mb B n cap bm (cmS S F (todo (pgs n) F xs) (1 - o) (hdB (nextHd h root))) noL :: tMn mb (M.useN j) :: R)) w' ∧ StOk (pgs n) (inP (pgs n) xs) (fun _ => none) vs N m' ∧ HeadsAt (cmS S F (todo (pgs n) F xs) (1 - o) (hdB (nextHd h root))) (nextHd h root) (1 - o) := by
  have hd := (OwnT.disc (OwnT.pull O 4 rfl)).ok
  have hl := hd.len
  have hx := hh.2.1.2.2.2.2.1
  have hx2 := hh.2.1.2.2.2.2.2.1
  refine (Z6p (1 - o) root w O ok hrow hn (by omega) (by have := hh.1; omega) hn32 hM hc hok hlost hrt hF).mono ?_
  rintro e w' ⟨j, m', rfl, hj, O', ok'⟩
  exact ⟨j, m', rfl, hj, O', ok', heads_cm hh (by omega) hok (todo_ge ok)⟩
end
end Go.Proofs.YtakkhglbdljfiaaGreatDoor
