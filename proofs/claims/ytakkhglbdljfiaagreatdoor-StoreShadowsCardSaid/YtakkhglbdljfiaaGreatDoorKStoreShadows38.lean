/- A head's sector turned: what a reading gives. -/
import Derived.Test.YtakkhglbdljfiaaGreatDoorKStoreShadows27
import Derived.Test.YtakkhglbdljfiaaGreatDoorKStoreShadows17
import Derived.Laws.Bits128
import Derived.Test.YtakkhglbdljfiaaGreatDoorKStoreShadows37
import Derived.Test.YtakkhglbdljfiaaGreatDoorKStoreShadows18
import Derived.Laws.StructEq
import Derived.Test.YtakkhglbdljfiaaGreatDoorKStoreShadows03
import Derived.Test.YtakkhglbdljfiaaGreatDoorKStoreShadows05
namespace Go.Proofs.YtakkhglbdljfiaaGreatDoor
set_option linter.unusedVariables false
set_option linter.unusedSimpArgs false
open Go.RowKit

theorem Z7m (g r a b c : Nat) (h : HeadOk g r a b c) : hG (sealL (headL g r a b c)) = g ∧ hR (sealL (headL g r a b c)) = r ∧ hA (sealL (headL g r a b c)) = a ∧ hB (sealL (headL g r a b c)) = b ∧ hC (sealL (headL g r a b c)) = c := by
  obtain ⟨a1, a2, b1, b2, g1, g2, r1, r2, c1, c2⟩ := h
  have e : sealL (headL g r a b c) = le 84 1 ++ (le c 1 ++ (le a 2 ++ (le b 2 ++ (le g 4 ++ (le r 2 ++ le (crcSum (headL g r a b c)) 4))))) := by simp [sealL, headL]
  rw [e]
  generalize le (crcSum (headL g r a b c)) 4 = Z
  have l1 : (le 84 1).length = 1 := Z0a _ _
  have l2 : (le c 1).length = 1 := Z0a _ _
  have l3 : (le a 2).length = 2 := Z0a _ _
  have l4 : (le b 2).length = 2 := Z0a _ _
  have l5 : (le g 4).length = 4 := Z0a _ _
  have l6 : (le r 2).length = 2 := Z0a _ _
  have nA := Z22 a 2 (by omega)
  have nB := Z22 b 2 (by omega)
  have nG := Z22 g 4 (by omega)
  have nR := Z22 r 2 (by omega)
  have nC := Z22 c 1 (by omega)
  generalize le 84 1 = x1 at l1
  generalize le c 1 = x2 at l2 nC
  generalize le a 2 = x3 at l3 nA
  generalize le b 2 = x4 at l4 nB
  generalize le g 4 = x5 at l5 nG
  generalize le r 2 = x6 at l6 nR
  match x1, l1, x2, l2, x3, l3, x4, l4, x5, l5, x6, l6 with
  | [p1], _, [p2], _, [p3, p4], _, [p5, p6], _, [p7, p8, p9, p10], _, [p11, p12], _ =>
    refine ⟨?_, ?_, ?_, ?_, ?_⟩
    · simpa [hG] using nG
    · simpa [hR] using nR
    · simpa [hA] using nA
    · simpa [hB] using nB
    · simp only [hC]
      rw [Z44] at nC
      simpa using nC
theorem Z7o (g r a b c : Nat) (h : HeadOk g r a b c) : hdRead (sealL (headL g r a b c)) = ⟨true, g, r, a, b, c⟩ := by
  obtain ⟨e1, e2, e3, e4, e5⟩ := Z7m g r a b c h
  unfold hdRead HeadIs headOf
  rw [e1, e2, e3, e4, e5, if_pos ⟨by rw [Z1g, Z1u], h, rfl⟩]
theorem Bytes.far {w : World} {g : Nat} {L : List UInt8} {c : Nat} (h : Bytes w g L c) {p : Addr} (hp : g ≠ p.block) (u : Value) : Bytes (w.setCell p u) g L c := by
  obtain ⟨fz, h1, h2⟩ := h
  exact ⟨fz, (Below.heap_setCell w p u g hp).trans h1, h2⟩
end Go.Proofs.YtakkhglbdljfiaaGreatDoor

/- What a store's device holds, plain. -/
namespace Go.Proofs.YtakkhglbdljfiaaGreatDoor
set_option linter.unusedVariables false
set_option linter.unusedSimpArgs false

abbrev noL : Int → Option Sec := fun _ => none
/-- Sector i; page c. -/
abbrev sc (S : List Sec) (i : Nat) : Sec := S.getD i []
def pgS (S : List Sec) (c : Nat) : List UInt8 := readL S noL (16 * c) 16
theorem Z89 (S : List Sec) (i : Nat) : nowAt S noL i = sc S i := by
  unfold nowAt
  rw [Option.getD_none, Int.toNat_natCast]
theorem Z55 {S : List Sec} {L : Int → Option Sec} {i : Nat} (h : i < S.length) : sc (nowL S L) i = nowAt S L i := by
  unfold sc
  rw [List.getD, nowL_at h]
  rfl
theorem stepF_at (F : Int → Option Nd) (L : Int → Option Sec) (c : Int) (i : Nat) : stepF F L c i = if ((i / 16 : Nat) : Int) = c then (match F c with | some nd => some (secOf (pgB nd) (i % 16)) | none => L i) else L i := by
  unfold stepF
  cases hF : F c with
  | none => split <;> rfl
  | some nd =>
    show wrS (pgB nd) (16 * c) L 16 i = _
    rw [Z3q]
    by_cases e : ((i / 16 : Nat) : Int) = c
    · rw [if_pos e, if_pos (by omega), show (((i : Nat) : Int) - 16 * c).toNat = i % 16 by omega]
    · rw [if_neg e, if_neg (by omega)]
theorem wrF_at (F : Int → Option Nd) (i : Nat) : ∀ (td : List Int) (L : Int → Option Sec), wrF F L td i = if ((i / 16 : Nat) : Int) ∈ td then (match F ((i / 16 : Nat) : Int) with | some nd => some (secOf (pgB nd) (i % 16)) | none => L i) else L i
  | [], L => by rw [if_neg (by simp)]; rfl
  | c :: r, L => by
    show wrF F (stepF F L c) r i = _
    rw [wrF_at F i r, stepF_at]
    by_cases e : ((i / 16 : Nat) : Int) = c
    · subst e
      simp only [List.mem_cons, true_or, if_true]
      cases F ((i / 16 : Nat) : Int) with
      | none => simp
      | some nd => simp
    · simp only [List.mem_cons, e, false_or, if_false]
theorem wrF_in {F : Int → Option Nd} {td : List Int} {L : Int → Option Sec} {c : Nat} {nd : Nd} (hc : (c : Int) ∈ td) (hF : F c = some nd) {j : Nat} (hj : j < 16) : wrF F L td ((16 * c + j : Nat) : Int) = some (secOf (pgB nd) j) := by
  rw [wrF_at]
  have e1 : (16 * c + j) / 16 = c := by omega
  have e2 : (16 * c + j) % 16 = j := by omega
  rw [e1, e2, if_pos hc, hF]
theorem wrF_out {F : Int → Option Nd} {td : List Int} {L : Int → Option Sec} {c : Nat} (hc : (c : Int) ∉ td) {j : Nat} (hj : j < 16) : wrF F L td ((16 * c + j : Nat) : Int) = L ((16 * c + j : Nat) : Int) := by
  rw [wrF_at]
  have e1 : (16 * c + j) / 16 = c := by omega
  rw [e1, if_neg hc]
theorem Z53 (l : List UInt8) : ∀ k, ((List.range k).map (secOf l)).flatten = l.take (16 * k)
  | 0 => rfl
  | k + 1 => by
    rw [List.range_succ, List.map_append, List.flatten_append, Z53 l k, Nat.mul_succ, List.take_add]
    simp [secOf]
theorem secs_all {l : List UInt8} {k : Nat} (h : l.length = 16 * k) : ((List.range k).map (secOf l)).flatten = l := by
  rw [Z53, ← h, List.take_length]
theorem pgS_eq (S : List Sec) (c : Nat) : pgS S c = ((List.range 16).map fun j => sc S (16 * c + j)).flatten := by
  unfold pgS readL
  congr 1
/-- Behind a flush. -/
theorem pg_new {S : List Sec} {F : Int → Option Nd} {td : List Int} {c : Nat} {nd : Nd} (hl : 16 * c + 16 ≤ S.length) (hc : (c : Int) ∈ td) (hF : F c = some nd) (hp : (pgB nd).length = 256) : pgS (nowL S (wrF F noL td)) c = pgB nd := by
  rw [pgS_eq]
  have e : (List.range 16).map (fun j => sc (nowL S (wrF F noL td)) (16 * c + j)) = (List.range 16).map (secOf (pgB nd)) := List.map_congr_left (fun j hj => by
    have hj := List.mem_range.1 hj
    rw [Z55 (by omega)]
    unfold nowAt
    rw [wrF_in hc hF hj]
    rfl)
  rw [e, secs_all (by omega)]
theorem hd_old {S : List Sec} {F : Int → Option Nd} {td : List Int} {o : Nat} (hl : o < S.length) (ho : o < 16) (htd : ∀ c ∈ td, 1 ≤ c) : sc (nowL S (wrF F noL td)) o = sc S o := by
  have h0 : ((0 : Nat) : Int) ∉ td := fun h => by have := htd _ h; omega
  have := wrF_out (F := F) (L := noL) h0 ho
  rw [Nat.mul_zero, Nat.zero_add] at this
  rw [Z55 hl]
  unfold nowAt
  rw [this]
  rfl
/-- A head's write. -/
theorem hd_wr {S : List Sec} {l : List UInt8} {o : Nat} (hl : o < S.length) (hb : l.length = 16) : sc (nowL S (wrS l o noL 1)) o = l := by
  rw [Z55 hl]
  unfold nowAt
  rw [Z3q, if_pos (by omega)]
  show secOf l ((o : Int) - o).toNat = l
  rw [Int.sub_self]
  unfold secOf
  show (l.drop (16 * 0)).take 16 = l
  rw [Nat.mul_zero, List.drop_zero, List.take_of_length_le (by omega)]
theorem hd_else {S : List Sec} {l : List UInt8} {o i : Nat} (hl : i < S.length) (hi : i ≠ o) : sc (nowL S (wrS l o noL 1)) i = sc S i := by
  rw [Z55 hl]
  unfold nowAt
  rw [Z3q, if_neg (by omega)]
  rfl
theorem pg_hd {S : List Sec} {l : List UInt8} {o c : Nat} (hl : 16 * c + 16 ≤ S.length) (ho : o < 16) (hc : 1 ≤ c) : pgS (nowL S (wrS l o noL 1)) c = pgS S c := by
  rw [pgS_eq, pgS_eq]
  congr 1
  exact List.map_congr_left (fun j hj => by
    have hj := List.mem_range.1 hj
    exact hd_else (by omega) (by omega))
/-- What a commit leaves. -/
def cmS (S : List Sec) (F : Int → Option Nd) (td : List Int) (o : Nat) (hb : List UInt8) : List Sec := nowL (nowL S (wrF F noL td)) (wrS hb o noL 1)
section
variable {S : List Sec} {F : Int → Option Nd} {td : List Int} {o c : Nat} {hb : List UInt8} {nd : Nd}
theorem cm_new (hl : 16 * c + 16 ≤ S.length) (ho : o < 16) (hc1 : 1 ≤ c) (hc : (c : Int) ∈ td) (hF : F c = some nd) (hp : (pgB nd).length = 256) : pgS (cmS S F td o hb) c = pgB nd := by
  unfold cmS
  rw [pg_hd (by rw [Z35]; exact hl) ho hc1, pg_new hl hc hF hp]
theorem cm_hd (hl : o < S.length) (hb16 : hb.length = 16) : sc (cmS S F td o hb) o = hb := by
  unfold cmS
  exact hd_wr (by rw [Z35]; exact hl) hb16
theorem cm_other {i : Nat} (hl : i < S.length) (hi : i < 16) (hio : i ≠ o) (htd : ∀ c ∈ td, 1 ≤ c) : sc (cmS S F td o hb) i = sc S i := by
  unfold cmS
  rw [hd_else (by rw [Z35]; exact hl) hio, hd_old hl hi htd]
end
theorem heads_read {n : Nat} {S : List Sec} (h : DOk n S noL) (hn : 2 ≤ n) : readL S noL 0 2 = sc S 0 ++ sc S 1 ∧ (sc S 0).length = 16 ∧ (sc S 1).length = 16 := by
  have hl := h.len
  have e0 : sc S 0 = S[0] := by unfold sc; rw [List.getD, List.getElem?_eq_getElem (by omega)]; rfl
  have e1 : sc S 1 = S[1] := by unfold sc; rw [List.getD, List.getElem?_eq_getElem (by omega)]; rfl
  refine ⟨?_, by rw [e0]; exact h.sz _ (List.getElem_mem _), by rw [e1]; exact h.sz _ (List.getElem_mem _)⟩
  rw [Z2h, Z2h]
  show [] ++ nowAt S noL ((0 + 0 : Nat) : Int) ++ nowAt S noL ((0 + 1 : Nat) : Int) = _
  rw [Z89, Z89]
  rfl
theorem Z5f (h : Hd) (ok : h.Ok) : hdRead (hdB h) = ⟨true, h.g.toNat, h.r, h.a, h.b, h.c⟩ := by
  obtain ⟨g, r, a, b, c⟩ := h
  obtain ⟨h1, h2, h3, h4, h5, h6, h7, h8, h9, h10⟩ := ok
  simp only at h1 h2 h3 h4 h5 h6 h7 h8 h9 h10
  obtain ⟨g, rfl⟩ := Int.eq_ofNat_of_zero_le (show 0 ≤ g by omega)
  obtain ⟨r, rfl⟩ := Int.eq_ofNat_of_zero_le h7
  obtain ⟨a, rfl⟩ := Int.eq_ofNat_of_zero_le (show 0 ≤ a by omega)
  obtain ⟨b, rfl⟩ := Int.eq_ofNat_of_zero_le (show 0 ≤ b by omega)
  obtain ⟨c, rfl⟩ := Int.eq_ofNat_of_zero_le (show 0 ≤ c by omega)
  exact Z7o g r a b c ⟨h1, h2, h3, h4, h5, h6, h7, h8, h9, h10⟩
theorem Z7n : hdRead zsec = .none := by
  unfold hdRead
  rw [if_neg]
  rintro ⟨_, h, _⟩
  have hg : hG zsec = 0 := by kernel_rfl
  have h5 := h.2.2.2.2.1
  rw [hg] at h5
  exact absurd h5 (by decide)
theorem hd_of (h : Hd) (ok : h.Ok) : (HeadR.hd ⟨true, h.g.toNat, h.r, h.a, h.b, h.c⟩) = h := by
  unfold HeadR.hd
  have : 0 ≤ h.g := by have := ok.2.2.2.2.1; omega
  obtain ⟨g, r, a, b, c⟩ := h
  simp only at this ⊢
  rw [Int.toNat_of_nonneg this]
/-- The newest of two heads. -/
theorem newL_app {a b : List UInt8} (ha : a.length = 16) : newL (a ++ b) = newest (hdRead a) (hdRead b) := by
  unfold newL
  rw [List.take_append_of_le_length (by omega), List.take_of_length_le (by omega), List.drop_append, List.drop_eq_nil_of_le (by omega), ha, Nat.sub_self, List.nil_append, List.drop_zero]
theorem newest_fst {h : Hd} (ok : h.Ok) {y : HeadR} (hy : y.ok = false ∨ y.g ≤ h.g.toNat) : newest ⟨true, h.g.toNat, h.r, h.a, h.b, h.c⟩ y = (⟨true, h.g.toNat, h.r, h.a, h.b, h.c⟩, 0) := by
  unfold newest
  rw [if_pos ⟨rfl, hy⟩]
theorem newest_snd {h : Hd} (ok : h.Ok) {x : HeadR} (hx : x.ok = false ∨ x.g < h.g.toNat) : newest x ⟨true, h.g.toNat, h.r, h.a, h.b, h.c⟩ = (⟨true, h.g.toNat, h.r, h.a, h.b, h.c⟩, 1) := by
  unfold newest
  rw [if_neg, if_pos rfl]
  rintro ⟨h1, h2 | h2⟩
  · cases h2
  · rcases hx with hx | hx
    · rw [h1] at hx; cases hx
    · exact absurd h2 (by simp only; omega)
end Go.Proofs.YtakkhglbdljfiaaGreatDoor

/- leaf's reference: Pairs. -/
namespace Go.Proofs.YtakkhglbdljfiaaGreatDoor
attribute [local simp] BigFrame.eval_const BigFrame.eval_global BigFrame.eval_func
set_option linter.unusedVariables false
set_option linter.unusedSimpArgs false
open Go.RowKit

theorem Z7h : Tryz.prog.underlying 98 = some (.struct (Tryz.prog.fieldsOf 98)) := by kernel_rfl
theorem pair_held : Tryz.prog.stoodInHeld 98 = false := by kernel_rfl
theorem part_p0 (w : World) (x y : Value) : (part 37 #[x, y] 0).run Tryz.prog w = .ok x w := by kernel_rfl
theorem part_p1 (w : World) (x y : Value) : (part 37 #[x, y] 1).run Tryz.prog w = .ok y w := by kernel_rfl
theorem eq_pair (d : Nat) (a b a' b' : Int) (w : World) : (Op.equalIn (d + 2) 98 (.agg #[.int .u64 a, .int .u64 b]) (.agg #[.int .u64 a', .int .u64 b'])).run Tryz.prog w = .ok ((a == a') && (b == b')) w := by
  have h0 := fun W x y => run_equalIn_int (P := Tryz.prog) W d 37 .u64 .u64 x y Tryz.underlying37
  rw [run_equalIn_struct w (d + 1) _ _ _ Z7h pair_held]
  have hf : (Tryz.prog.fieldsOf 98).toList.map (fun f => (f.name, f.type, f.offset)) = [("Key", 37, 0), ("Val", 37, 1)] := by kernel_rfl
  generalize (Tryz.prog.fieldsOf 98).toList = L at hf ⊢
  obtain ⟨f, g, rfl⟩ : ∃ f g, L = [f, g] := by
    rcases L with _ | ⟨f, _ | ⟨g, _ | ⟨h, L⟩⟩⟩
    · exact absurd (congrArg List.length hf) (by simp)
    · exact absurd (congrArg List.length hf) (by simp)
    · exact ⟨f, g, rfl⟩
    · exact absurd (congrArg List.length hf) (by simp)
  simp only [List.map_cons, List.map_nil, List.cons.injEq, Prod.mk.injEq, and_true] at hf
  obtain ⟨⟨n1, t1, o1⟩, n2, t2, o2⟩ := hf
  by_cases ha : a = a' <;> by_cases hb : b = b' <;> simp [Op.eqFields, n1, n2, t1, t2, o1, o2, Sem.run_bind, Sem.run_ite, part_p0, part_p1, h0, ha, hb]

theorem Row.pair_at {w w' : World} {b o : Nat} {xs : List (Nat × Nat)} (h : Row w (some ⟨b, o, none⟩) 2 pairC xs) (hb : Below w.heap.size w w') {j : Nat} (hj : j < xs.length) : w'.cell? ⟨b, o + j * 2, none⟩ = some (.int .u64 xs[j].1) ∧ w'.cell? ⟨b, o + j * 2 + 1, none⟩ = some (.int .u64 xs[j].2) := by
  obtain ⟨b', o', he, _, h1, h2⟩ := h.pair_in hb hj
  cases he
  exact ⟨h1, h2⟩
theorem pairs_any (A A' : Option Addr) (len cap len' cap' : Nat) (xs ys : List (Nat × Nat)) (w : World) (hlen : xs.length = len) (hlen' : ys.length = len') (hm : len ≤ 1000000) (hm' : len' ≤ 1000000) (hrow : Row w A 2 pairC xs) (hrow' : Row w A' 2 pairC ys) :
    Calls Tryz.prog 62 #[.slice A len cap, .slice A' len' cap'] w fun e w' => e = .returned (.bool (decide (xs = ys))) ∧ Ext w w' := by
  by_cases hl : len = len'
  · have d1 : ((len : Int) == (len' : Int)) = true := by simp [hl]
    have d2 : ((len : Int) != (len' : Int)) = false := by simp [hl]
    subst hl
    go_enter Tryz.func62, Tryz.ntmps62
    go_wp2_with fail
    go_loopw [5] (fun i wr => ∃ j : Nat, i = .int .i64 j ∧ j ≤ len ∧ Ext w wr ∧ Hid (xs.take j = ys.take j)) (fun i _ => len - (intOf i).toNat)
    case atStart => exact ⟨0, rfl, by omega, Ext.refl _, by simp [Hid]⟩
    case round =>
      obtain ⟨j, rfl, hj, hEx, HJ⟩ := hrel
      by_cases hlt : j < len
      · have hjx : j < xs.length := by omega
        have hjy : j < ys.length := by omega
        obtain ⟨b0, o0, rfl, hlt0, -, -⟩ := hrow.pair_in hEx hjx
        obtain ⟨b1, o1, rfl, hlt1, -, -⟩ := hrow'.pair_in hEx hjy
        have HQ := Lib.hid (fun (W : World) (h : Ext wr W) => And.intro (hrow.pair_at (hEx.trans h) hjx) (hrow'.pair_at (hEx.trans h) hjy))
        have HS := Lib.hid (show xs[j] = ys[j] → xs.take (j + 1) = ys.take (j + 1) from fun h => by rw [List.take_succ_eq_append_getElem hjx, List.take_succ_eq_append_getElem hjy, HJ.out, h])
        have HN := Lib.hid (show ¬ xs[j] = ys[j] → decide (xs = ys) = false from fun h => by rw [decide_eq_false_iff_not]; intro e; subst e; exact h rfl)
        generalize xs[j] = x at HQ HS HN
        generalize ys[j] = y at HQ HS HN
        obtain ⟨x0, x1⟩ := x
        obtain ⟨y0, y1⟩ := y
        have heq := fun W => eq_pair 9998 x0 x1 y0 y1 W
        have HEQ := Lib.hid heq
        clear heq
        go_upto_region 6 with fail
        refine Z1s (R := Ext) (w0 := wr) [[], [], [0, 1], [0, 1, 2], [], [], [4, 5], [4, 5, 6], [0, 1, 2, 3, 4, 5, 6, 7]] [17, 18, 19, 20, 21, 22, 23, 24, 25] Ext.refl (fun _ _ _ => Ext.trans) (Ext.drew _) (by kernel_rfl) ?_
        apply Build.det 17 Ext.refl (by rfl) (by rfl) rfl
        case h =>
          intro ax wx hE hR hF
          have e0 : ax.eval (.tmp 0) = .slice (some ⟨b0, o0, none⟩) len cap := hE.eval 0 (by rfl) rfl
          simp [go_sem, ↓IntWalk.iteOmega, ev e0, HEQ.out]
          with_reducible rfl
        apply Build.det 18 Ext.refl (by rfl) (by rfl) rfl
        case h =>
          intro ax wx hE hR hF
          have e5 : ax.eval (.tmp 5) = .int .i64 j := hE.eval 5 (by rfl) rfl
          simp [go_sem, ↓IntWalk.iteOmega, ev e5, HEQ.out]
          with_reducible rfl
        apply Build.det 19 Ext.refl (by rfl) (by rfl) rfl
        case h =>
          intro ax wx hE hR hF
          have e17 := hF 0 (det 17 _) (by decide) (.tail _ (.head _))
          have e18 := hF 1 (det 18 _) (by decide) (.head _)
          simp [go_sem, ↓IntWalk.iteOmega, ev e17, ev e18, HEQ.out]
          with_reducible rfl
        apply Build.det 20 Ext.refl (by rfl) (by rfl) rfl
        case h =>
          intro ax wx hE hR hF
          have e19 := hF 2 (det 19 _) (by decide) (.head _)
          have q0 := (HQ.out _ hR).1.1; have q1 := (HQ.out _ hR).1.2; have q2 := (HQ.out _ hR).2.1; have q3 := (HQ.out _ hR).2.2
          simp [go_sem, ↓IntWalk.iteOmega, ev e19, HEQ.out, q0, q1, q2, q3]
          with_reducible rfl
        apply Build.det 21 Ext.refl (by rfl) (by rfl) rfl
        case h =>
          intro ax wx hE hR hF
          have e1 : ax.eval (.tmp 1) = .slice (some ⟨b1, o1, none⟩) len cap' := hE.eval 1 (by rfl) rfl
          simp [go_sem, ↓IntWalk.iteOmega, ev e1, HEQ.out]
          with_reducible rfl
        apply Build.det 22 Ext.refl (by rfl) (by rfl) rfl
        case h =>
          intro ax wx hE hR hF
          have e5 : ax.eval (.tmp 5) = .int .i64 j := hE.eval 5 (by rfl) rfl
          simp [go_sem, ↓IntWalk.iteOmega, ev e5, HEQ.out]
          with_reducible rfl
        apply Build.det 23 Ext.refl (by rfl) (by rfl) rfl
        case h =>
          intro ax wx hE hR hF
          have e21 := hF 4 (det 21 _) (by decide) (.tail _ (.head _))
          have e22 := hF 5 (det 22 _) (by decide) (.head _)
          simp [go_sem, ↓IntWalk.iteOmega, ev e21, ev e22, HEQ.out]
          with_reducible rfl
        apply Build.det 24 Ext.refl (by rfl) (by rfl) rfl
        case h =>
          intro ax wx hE hR hF
          have e23 := hF 6 (det 23 _) (by decide) (.head _)
          have q0 := (HQ.out _ hR).1.1; have q1 := (HQ.out _ hR).1.2; have q2 := (HQ.out _ hR).2.1; have q3 := (HQ.out _ hR).2.2
          simp [go_sem, ↓IntWalk.iteOmega, ev e23, HEQ.out, q0, q1, q2, q3]
          with_reducible rfl
        apply Build.det 25 Ext.refl (by rfl) (by rfl) rfl
        case h =>
          intro ax wx hE hR hF
          have e20 := hF 3 (det 20 _) (by decide) (.tail _ (.tail _ (.tail _ (.tail _ (.head _)))))
          have e24 := hF 7 (det 24 _) (by decide) (.head _)
          simp [go_sem, ↓IntWalk.iteOmega, ev e20, ev e24, HEQ.out]
          with_reducible rfl
        apply Build.stop
        refine ⟨by kernel_rfl, .inl ⟨rfl, ?_⟩⟩
        intro ax w2 hE R2 hF
        have e17 := hF 0 (det 17 _) (.tail _ (.tail _ (.tail _ (.tail _ (.tail _ (.tail _ (.tail _ (.tail _ (.head _)))))))))
        have e18 := hF 1 (det 18 _) (.tail _ (.tail _ (.tail _ (.tail _ (.tail _ (.tail _ (.tail _ (.head _))))))))
        have e19 := hF 2 (det 19 _) (.tail _ (.tail _ (.tail _ (.tail _ (.tail _ (.tail _ (.head _)))))))
        have e20 := hF 3 (det 20 _) (.tail _ (.tail _ (.tail _ (.tail _ (.tail _ (.head _))))))
        have e21 := hF 4 (det 21 _) (.tail _ (.tail _ (.tail _ (.tail _ (.head _)))))
        have e22 := hF 5 (det 22 _) (.tail _ (.tail _ (.tail _ (.head _))))
        have e23 := hF 6 (det 23 _) (.tail _ (.tail _ (.head _)))
        have e24 := hF 7 (det 24 _) (.tail _ (.head _))
        have e25 := hF 8 (det 25 _) (.head _)
        rw [AllEq.frame (D := [17, 18, 19, 20, 21, 22, 23, 24, 25]) (AllEq.cons e17 (AllEq.cons e18 (AllEq.cons e19 (AllEq.cons e20 (AllEq.cons e21 (AllEq.cons e22 (AllEq.cons e23 (AllEq.cons e24 (AllEq.cons e25 (AllEq.nil)))))))))) hE rfl]
        clear hF hE e17 e18 e19 e20 e21 e22 e23 e24 e25
        simp only [List.foldl_cons, List.foldl_nil, Act.put, List.setIfInBounds_toArray, List.set_cons_succ, List.set_cons_zero]
        have hE2 := hEx.trans R2
        clear HEQ HQ
        by_cases hh : (x0, x1) = (y0, y1)
        · have h1 := (Prod.mk.inj hh).1
          have h2 := (Prod.mk.inj hh).2
          have HT := Lib.hid (HS.out hh)
          clear HN HS hh
          subst h1 h2
          simp only [beq_self_eq_true, Bool.not_true, Bool.or_self]
          go_wp2_with fail
          go_roundw
          case rel => exact ⟨j + 1, by go_num, by omega, hE2, HT.out⟩
          case measure => simp [intOf]; omega
        · have hB : (!((x0 : Int) == (y0 : Int)) || !((x1 : Int) == (y1 : Int))) = true := by
            rw [Bool.or_eq_true, Bool.not_eq_true', Bool.not_eq_true', beq_eq_false_iff_ne, beq_eq_false_iff_ne]
            by_cases h1 : x0 = y0
            · exact .inr (fun h2 => hh (by rw [h1, Int.ofNat.inj h2]))
            · exact .inl (fun h => h1 (Int.ofNat.inj h))
          have HT := Lib.hid (HN.out hh)
          rw [hB]
          clear HN HS hh hB
          go_wp2_with fail
          go_ret
          exact ⟨Z13 HT.out.symm, hE2⟩
      · have HA := Lib.hid (show decide (xs = ys) = true by
          have := HJ.out
          rw [List.take_of_length_le (by omega), List.take_of_length_le (by omega)] at this
          rw [decide_eq_true_iff]; exact this)
        go_wp2_with fail
        go_ret
        exact ⟨Z13 HA.out.symm, hEx⟩
  · have d1 : ((len : Int) == (len' : Int)) = false := by simp; omega
    have d2 : ((len : Int) != (len' : Int)) = true := by simp; omega
    have e : decide (xs = ys) = false := by rw [decide_eq_false_iff_not]; intro h; exact hl (by rw [← hlen, ← hlen', h])
    rw [e]
    clear e
    go_enter Tryz.func62, Tryz.ntmps62
    go_wp2_with fail
    go_ret
    exact ⟨rfl, Ext.refl _⟩
end Go.Proofs.YtakkhglbdljfiaaGreatDoor

/- leaf's reference: Same. -/
namespace Go.Proofs.YtakkhglbdljfiaaGreatDoor
set_option linter.unusedVariables false
set_option linter.unusedSimpArgs false
open Go.RowKit

theorem same_any (lv lv' : Int) (A A' : Option Addr) (len cap len' cap' : Nat) (xs ys : List (Nat × Nat)) (w : World) (hlen : xs.length = len) (hlen' : ys.length = len') (hm : len ≤ 1000000) (hm' : len' ≤ 1000000) (hrow : Row w A 2 pairC xs) (hrow' : Row w A' 2 pairC ys) :
    Calls Tryz.prog 22 #[.agg #[.int .i64 lv, .slice A len cap], .agg #[.int .i64 lv', .slice A' len' cap']] w fun e w' => e = .returned (.bool (decide (lv = lv' ∧ xs = ys))) ∧ Ext w w' := by
  have hE := (Ext.alloc w (.cells #[.int .i64 lv, .slice A len cap] 47)).trans (Ext.alloc _ (.cells #[.int .i64 lv', .slice A' len' cap'] 47))
  have HC := Lib.hid (pairs_any A A' len cap len' cap' xs ys _ hlen hlen' hm hm' (hrow.ext hE) (hrow'.ext hE))
  have HE := Lib.hid hE
  by_cases hl : lv = lv'
  · have e : decide (lv = lv' ∧ xs = ys) = decide (xs = ys) := by simp [hl]
    rw [e]
    generalize decide (xs = ys) = B at HC ⊢
    subst hl
    clear hE e hrow hrow'
    go_enter Tryz.func22, Tryz.ntmps22
    go_wp2_with fail
    refine HC.out.mono ?_
    rintro e w2 ⟨rfl, R2⟩
    have HR := Lib.hid (HE.out.trans R2)
    clear R2 HC
    go_wp2_with fail
    go_ret
    exact ⟨rfl, HR.out⟩
  · have e : decide (lv = lv' ∧ xs = ys) = false := by rw [decide_eq_false_iff_not]; exact fun h => hl h.1
    have d1 : (lv == lv') = false := by simpa using hl
    rw [e]
    clear hE e hrow hrow' HC
    go_enter Tryz.func22, Tryz.ntmps22
    go_wp2_with fail
    go_ret
    exact ⟨rfl, HE.out⟩
end Go.Proofs.YtakkhglbdljfiaaGreatDoor

/- Numbers turned: int to uint and back, the rest of a uint. -/
namespace Go.Proofs.YtakkhglbdljfiaaGreatDoor
set_option linter.unusedVariables false
set_option linter.unusedSimpArgs false
open Go.RowKit Go.Maps
/-- 'uint(N)'. -/
def uN (N : Int) : Nat := (IntKind.u64.wrap N).toNat
theorem conv_uint (N : Int) (w : World) : (convert 3 26 (.int .i64 N)).run Tryz.prog w = .ok (.int .u64 ((uN N : Nat) : Int)) w := by
  have h : ((uN N : Nat) : Int) = IntKind.u64.wrap N := by
    unfold uN
    have : 0 ≤ IntKind.u64.wrap N := by
      show 0 ≤ N % 18446744073709551616
      omega
    omega
  rw [h]
  simp [convert, run_underlying Tryz.underlying3, run_underlying Tryz.underlying26, Conv.intToInt]
theorem conv_int (m : Nat) (w : World) (h : m ≤ 1000000) : (convert 26 3 (.int .u64 ((m : Nat) : Int))).run Tryz.prog w = .ok (.int .i64 ((m : Nat) : Int)) w := by
  simp [convert, run_underlying Tryz.underlying3, run_underlying Tryz.underlying26, Conv.intToInt, IntWalk.i64_in _ (show -9223372036854775808 ≤ (m : Int) ∧ (m : Int) ≤ 9223372036854775807 by omega)]
section
variable {w : World} {o : Oper} {ρ : Operand → Value} {t u : TypeId} {x y : Operand}
theorem x_remU {m j : Nat} {k : Int} (ho : o.op = .binOp .rem t x y u) (hx : ρ x = .int .u64 (m : Nat)) (hy : ρ y = .int .u64 k) (hk : k = (j : Nat)) (hj : 0 < j) : (execOp ρ o).run Tryz.prog w = .ok (.value (.int .u64 ((m % j : Nat) : Int))) w := by
  subst hk
  refine Z3b ho hx hy ?_
  have h0 : ¬ ((j : Int) = 0) := by omega
  have h2 : (m : Int).tmod (j : Int) = ((m % j : Nat) : Int) := rfl
  simp only [binOp, Op.intDiv, if_neg h0, h2]
  rfl
end
theorem row1B {w w' : World} {A : Option Addr} {xs : List Bool} (h : Row1 w A Value.bool xs) (hb : Below w.heap.size w w') {i : Nat} {x : Bool} (hi : xs[i]? = some x) : ∃ b off, A = some ⟨b, off, none⟩ ∧ w'.cell? ⟨b, off + i, none⟩ = some (.bool x) := by
  obtain ⟨b, o, e, _, hc⟩ := (h.below hb) i x hi
  exact ⟨b, o, e, hc⟩
end Go.Proofs.YtakkhglbdljfiaaGreatDoor
