/- Reflection: the moves of a walk: calls, results, loops, new blocks, operations shown by hand. No function of the program in sight. -/
import Derived.Test.YtbfgacmfjfbooaaKShipExact02
import Derived.Test.YtbfgacmfjfbooaaKShipExact00
import Derived.Maps.RangeWalk
import Derived.Maps.Ext
import Derived.Lib.SlMapFilter
import Derived.ProofKit
import Derived.OpenShut
import Derived.ChangeOld
import Derived.Deep.Fields
import Derived.Lib.FrozenHead2
import Derived.Test.YtbfgacmfjfbooaaKShipExact01
namespace Go.Proofs.Ytbfgacmfjfbooaa
set_option linter.unusedVariables false
set_option linter.unusedSimpArgs false
open Go.RowKit

def app2 : List Value → List Value → Option (List Value)
  | [], r => some r
  | x :: l, r => match app2 l r with
    | some z => some (x :: z)
    | none => none
theorem Z2n : ∀ (l r z : List Value), app2 l r = some z → z = l ++ r
  | [], r, z, h => by simp [app2] at h; subst h; rfl
  | x :: l, r, z, h => by
    simp only [app2] at h
    cases h1 : app2 l r with
    | none => rw [h1] at h; cases h
    | some z' => rw [h1] at h; cases h; rw [Z2n l r z' h1]; rfl
/-- A call at place i: function, arguments, slot. -/
def clV (m : Mp) (ops : List Oper) (fr : List Nat) (i : Nat) (hs : List Ht) : Option (FuncId × List Value × Nat × List Prop) := match nthT ops i with
  | some ⟨some d, .call ⟨.value x, ⟨xs⟩, _⟩, _, _, _, g⟩ => match memN fr i with
    | true => none
    | false => match gd m ops g hs [] with
      | some (true, _, vc) => match opv m x with
        | some (.func (.func f) ⟨fs⟩ ⟨cs⟩) => match ovs m xs with
          | some vs => match app2 vs cs with
            | some us => match app2 fs us with
              | some zs => some (f, zs, d, vc)
              | none => none
            | none => none
          | none => none
        | _ => none
      | _ => none
  | _ => none
def okCall (P : Program) (f : FuncId) : Bool := match P.funcs[f]? with
  | some fn => fn.body.isSome && !(fn.name == "runtime.NumGoroutine")
  | none => false
def subM (m : Mp) : Mp → Prop
  | [] => True
  | (t, v) :: l => lookM m t = some v ∧ subM m l
section
variable {P : Program} {fn : Func} {R : Ending → World → Prop} {T : TbG} {H n : Nat} {A : World} {m m' : Mp} {a : Act} {w : World} {ops : List Oper} {fr is : List Nat} {LI : List Thing} {ks : List Kf} {L L' : List Thing} {i : Nat} {hs : List Ht} {vc : List Prop}
theorem Al.sub (M : Al a m) : ∀ {l : Mp}, subM m l → Al a l
  | [], _, t, v, h => by simp [lookM] at h
  | (u, x) :: l, h, t, v, hl => by
    simp only [lookM] at hl
    split at hl
    · rename_i hb
      obtain rfl := Nat.eq_of_beq_eq_true hb
      cases hl
      exact M _ _ h.1
    · exact Al.sub M h.2 t v hl
theorem Z6r {f : FuncId} {o : Oper} {x : Operand} {xs : List Operand} {ts : Array TypeId} {fs cs vs : List Value} {ρ : Operand → Value} (hok : okCall P f = true) (ho : o.op = .call ⟨.value x, ⟨xs⟩, ts⟩) (hx : ρ x = .func (.func f) ⟨fs⟩ ⟨cs⟩) (hv : xs.map ρ = vs) :
    (execOp ρ o).run P w = .ok (.enter f ⟨fs ++ (vs ++ cs)⟩) w := by
  unfold okCall at hok
  cases hf : P.funcs[f]? with
  | none => rw [hf] at hok; cases hok
  | some g =>
    rw [hf] at hok
    simp only [Bool.and_eq_true, Bool.not_eq_true'] at hok
    have hb : g.body.isNone = false := by cases hg : g.body <;> simp_all
    unfold execOp
    simp only [ho, resolve, hx, Deferred.ofValue, Sem.run_bind, Sem.run_pure, Result.andThen_ok, invoke, callFunc]
    have hn : ¬ g.name = "runtime.NumGoroutine" := by simpa using hok.2
    have hb2 : ¬ g.body = none := fun h => by rw [h] at hb; cases hb
    simp [hf, hn, hb2, hv]
theorem clG {f : FuncId} {args : List Value} {d : Nat} {S : Ending → World → Prop} (h : Hold H A L n m (.s ops fr LI (i :: is)) a w) (hs : List Ht) (e : clV m ops fr i hs = some (f, args, d, vc)) (hc : Calls P f ⟨args⟩ w S)
    (hn : ∀ e w', S e w' → ∃ v, e = .returned v ∧ ∃ L', OwnT H A L' w' ∧ Ths w' LI ∧ ∀ a', Hold H A L' n ((d, v) :: m) (.s ops fr LI is) a' w' → At P fn R ks (.s ops fr LI is) a' w')
    (hv : AllP vc := by trivial) (hok : okCall P f = true := by kernel_rfl) (hb : Nat.blt d n = true := by rfl) : At P fn R ks (.s ops fr LI (i :: is)) a w := by
  unfold clV at e
  split at e
  case h_2 => cases e
  rename_i d' x xs ts ty pos af g hi
  split at e
  case h_1 => cases e
  rename_i hm
  split at e
  case h_2 => cases e
  rename_i hs' vc' hg
  split at e
  case h_2 => cases e
  rename_i f' fs cs hx
  split at e
  case h_2 => cases e
  rename_i vs hvs
  split at e
  case h_2 => cases e
  rename_i us hus
  split at e
  case h_2 => cases e
  rename_i zs hzs
  cases e
  obtain ⟨-, hw⟩ := Z3n (o := ⟨some d, .call ⟨.value x, ⟨xs⟩, ts⟩, ty, pos, af, g⟩) hg hv
  rw [Z08] at hi
  have hi' : (⟨ops⟩ : Array Oper)[i]? = some ⟨some d, .call ⟨.value x, ⟨xs⟩, ts⟩, ty, pos, af, g⟩ := by simpa using hi
  have hrun := Z6r (P := P) (w := w) (o := ⟨some d, .call ⟨.value x, ⟨xs⟩, ts⟩, ty, pos, af, g⟩) (ρ := a.eval) hok rfl (h.M.opv _ _ hx) (Z58 h.M.opv _ _ hvs)
  rw [← Z2n _ _ _ hus, ← Z2n _ _ _ hzs] at hrun
  refine ⟨_, hi', ?_⟩
  rw [hm]
  unfold wpOp
  simp only [hi', hw a h.M, if_true]
  refine .inl (Z5p hrun hc fun e w'' hS => ?_)
  obtain ⟨v, he, L', hO, hI, hnx⟩ := hn e w'' hS
  exact ⟨v, he, hI, hnx _ ⟨hO, h.k.put _ _, h.M.put h.k hb v, hI⟩⟩
/-- An operation shown by hand: its value, and the world behind it. -/
theorem spG {o : Oper} {d : Nat} {v : Value} {w' : World} (h : Hold H A L n m (.s ops fr LI (i :: is)) a w) (hs : List Ht) (ho : nthT ops i = some o) (hd : o.dst = some d) (e : gd m ops o.guard hs [] = some (true, hs, vc)) (hr : (execOp a.eval o).run P w = .ok (.value v) w') (O : OwnT H A L' w') (hI : Ths w' LI)
    (hn : ∀ a', Hold H A L' n ((d, v) :: m) (.s ops fr LI is) a' w' → At P fn R ks (.s ops fr LI is) a' w') (hm : memN fr i = false := by rfl) (hv : AllP vc := by trivial) (hb : Nat.blt d n = true := by rfl) : At P fn R ks (.s ops fr LI (i :: is)) a w := by
  obtain ⟨-, hw⟩ := Z3n (o := o) e hv
  rw [Z08] at ho
  have hi' : (⟨ops⟩ : Array Oper)[i]? = some o := by simpa using ho
  refine ⟨_, hi', ?_⟩
  rw [hm]
  unfold wpOp
  simp only [hi', hw a h.M, if_true]
  refine .inl (Z0m hr ⟨hI, ?_⟩)
  rw [hd]
  exact hn _ ⟨O, h.k.put _ _, h.M.put h.k hb v, hI⟩
/-- .. without a slot. -/
theorem suG {o : Oper} {w' : World} (h : Hold H A L n m (.s ops fr LI (i :: is)) a w) (hs : List Ht) (ho : nthT ops i = some o) (hd : o.dst = none) (e : gd m ops o.guard hs [] = some (true, hs, vc)) (hr : (execOp a.eval o).run P w = .ok .skip w') (O : OwnT H A L' w') (hI : Ths w' LI)
    (hn : ∀ a', Hold H A L' n m (.s ops fr LI is) a' w' → At P fn R ks (.s ops fr LI is) a' w') (hm : memN fr i = false := by rfl) (hv : AllP vc := by trivial) : At P fn R ks (.s ops fr LI (i :: is)) a w := by
  obtain ⟨-, hw⟩ := Z3n (o := o) e hv
  rw [Z08] at ho
  have hi' : (⟨ops⟩ : Array Oper)[i]? = some o := by simpa using ho
  refine ⟨_, hi', ?_⟩
  rw [hm]
  unfold wpOp
  simp only [hi', hw a h.M, if_true]
  refine .inl (Z3q hr ⟨hI, ?_⟩)
  rw [hd]
  exact hn _ ⟨O, h.k, h.M, hI⟩
/-! New blocks. -/
/-- A block that is made: its type, its cells; a slice of so many (none: a pointer). -/
def nwV (T : TbG) (m : Mp) (op : Op) : Option (TypeId × List Value) := match op with
  | .alloc t => match nthT T t with
    | some (_, some z, _) => match cellsV z with
      | some cs => some (t, cs)
      | none => none
    | _ => none
  | .box t x => match opv m x with
    | some v => match cellsV v with
      | some cs => some (t, cs)
      | none => none
    | none => none
  | _ => none
theorem nwV_run {o : Oper} {t : TypeId} {cs : List Value} (hT : TOk P T) (e : nwV T m o.op = some (t, cs)) (M : Al a m) (w : World) : (execOp a.eval o).run P w = .ok (.value (.pointer (some ⟨w.heap.size, 0, none⟩))) (w.alloc (.cells ⟨cs⟩ t)) := by
  unfold nwV at e
  split at e
  · rename_i t0 ho
    split at e
    case h_2 => cases e
    rename_i td z zn hd
    split at e
    case h_2 => cases e
    rename_i cs' hc
    cases e
    have hz := Z5n (P := P) ((hT.at_ _ _ hd).2.2.1 z rfl) w
    unfold execOp
    simp only [ho, Instr.alloc, Sem.run_bind, hz, Result.andThen_ok]
    simp [newVar, newRow, Z0r hc]
  · rename_i t0 x ho
    split at e
    case h_2 => cases e
    rename_i v hv
    split at e
    case h_2 => cases e
    rename_i cs' hc
    cases e
    unfold execOp
    simp [ho, Instr.box, M.opv _ _ hv, newVar, newRow, Z0r hc]
  · cases e
theorem Ths.ext {w' : World} : ∀ {LI : List Thing}, Ths w LI → Ext w w' → Ths w' LI
  | [], _, _ => trivial
  | T :: LI, h, k => ⟨T.chg h.1 (Chg.of_ext k []) (by simp), Ths.ext h.2 k⟩
/-! Results. -/
def resL (T : TbG) (m : Mp) (L : List Thing) : List ResultVar → List Ht → List Prop → Option (List Value × List Prop)
  | [], _, vc => some ([], vc)
  | .tmp t :: rs, hs, vc => match lookM m t with
    | some v => match resL T m L rs hs vc with
      | some (vs, vc) => some (v :: vs, vc)
      | none => none
    | none => none
  | .cell t ty :: rs, hs, vc => match lookM m t with
    | some p => match exLd T L ty p hs vc with
      | some (v, hs, vc) => match resL T m L rs hs vc with
        | some (vs, vc) => some (v :: vs, vc)
        | none => none
      | none => none
    | none => none
def retV (T : TbG) (m : Mp) (L : List Thing) (rs : List ResultVar) (hs : List Ht) : Option (Value × List Prop) := match resL T m L rs hs [] with
  | some ([v], vc) => some (v, vc)
  | some ([], vc) => some (.tuple ⟨[]⟩, vc)
  | some (x :: y :: vs, vc) => some (.tuple ⟨x :: y :: vs⟩, vc)
  | none => none
theorem exLd_ld {t : TypeId} {p v : Value} {hs' : List Ht} {vc' : List Prop} (hT : TOk P T) (e : exLd T L t p hs vc = some (v, hs', vc')) (hv : AllP vc') : AllP vc ∧ ∃ ad, p = .pointer (some ad) ∧ ∀ w, Ths w L → (loadVar t ad).run P w = .ok v w := by
  have hp : ∃ ad, p = .pointer (some ad) := by
    unfold exLd at e
    split at e
    · exact ⟨_, rfl⟩
    · cases e
  obtain ⟨ad, rfl⟩ := hp
  have hg := exLd_ok (P := P) (o := ⟨none, .load t (.const (.pointer (some ad))), 0, "", #[], none⟩) (ρ := fun x => match x with | .const c => c | _ => undef) (L := L) (vc := vc) (hs := hs) (x := .const (.pointer (some ad))) hT rfl rfl v hs' vc' e hv
  refine ⟨hg.1, ad, rfl, fun w hw => ?_⟩
  have h1 := hg.2 w hw
  unfold execOp at h1
  simp only [Instr.loadAt, Instr.sureAddr, Sem.run_bind, Sem.run_pure, Result.andThen_ok] at h1
  cases h2 : (loadVar t ad).run P w with
  | ok v' w' => rw [h2] at h1; simp at h1; rw [h1.1, h1.2]
  | halt x w' => rw [h2] at h1; simp at h1
def resF (tmps : Array Value) (r : ResultVar) : Sem Value := match r with
  | .tmp t => pure (tmps.getD t undef)
  | .cell x t => do loadVar t (← asAddr (tmps.getD x undef))
theorem Z7c (fn : Func) (tmps : Array Value) : results fn tmps = (do
  let vs ← fn.results.mapM (resF tmps)
  pure (if h : vs.size = 1 then vs[0] else .tuple vs)) := rfl
theorem Z4f (hT : TOk P T) : ∀ (rs : List ResultVar) (hs : List Ht) (vc : List Prop) (vs : List Value) (vc' : List Prop), resL T m L rs hs vc = some (vs, vc') → AllP vc' →
    AllP vc ∧ ∀ a w, Al a m → Ths w L → (rs.mapM (resF a.tmps)).run P w = .ok vs w
  | [], hs, vc, vs, vc', e, hv => by
    simp only [resL] at e
    cases e
    exact ⟨hv, fun a w _ _ => by simp⟩
  | .tmp t :: rs, hs, vc, vs, vc', e, hv => by
    simp only [resL] at e
    split at e
    case h_2 => cases e
    rename_i v hl
    split at e
    case h_2 => cases e
    rename_i vs' vc2 h1
    cases e
    obtain ⟨h2, h3⟩ := Z4f hT rs hs vc vs' vc' h1 hv
    refine ⟨h2, fun a w M hw => ?_⟩
    have h4 : a.tmps.getD t undef = v := M t v hl
    have h5 : (resF a.tmps (.tmp t)).run P w = .ok v w := by simp [resF, ← h4]
    rw [List.mapM_cons]
    simp only [Sem.run_bind, Sem.run_pure, Result.andThen_ok, h3 a w M hw, h5]
  | .cell x t :: rs, hs, vc, vs, vc', e, hv => by
    simp only [resL] at e
    split at e
    case h_2 => cases e
    rename_i p hl
    split at e
    case h_2 => cases e
    rename_i v hs2 vc2 h1
    split at e
    case h_2 => cases e
    rename_i vs' vc3 h5
    cases e
    obtain ⟨h2, h3⟩ := Z4f hT rs hs2 vc2 vs' vc' h5 hv
    obtain ⟨h6, ad, rfl, h7⟩ := exLd_ld hT h1 h2
    refine ⟨h6, fun a w M hw => ?_⟩
    have h4 : a.tmps.getD x undef = .pointer (some ad) := M x _ hl
    have h8 : (resF a.tmps (.cell x t)).run P w = .ok v w := by simp only [resF, h4, asAddr, Sem.run_bind, Sem.run_pure, Result.andThen_ok, h7 w hw]
    rw [List.mapM_cons]
    simp only [Sem.run_bind, Sem.run_pure, Result.andThen_ok, h3 a w M hw, h8]
theorem rt_run {v : Value} (hT : TOk P T) (e : retV T m L fn.results.toList hs = some (v, vc)) (hv : AllP vc) (M : Al a m) (hw : Ths w L) : (results fn a.tmps).run P w = .ok v w := by
  unfold retV at e
  have key : ∀ vs vc', resL T m L fn.results.toList hs [] = some (vs, vc') → AllP vc' → (results fn a.tmps).run P w = .ok (if h : vs.length = 1 then vs[0] else .tuple ⟨vs⟩) w := fun vs vc' h1 h2 => by
    have h3 := (Z4f (P := P) hT _ _ _ _ _ h1 h2).2 a w M hw
    rw [Z7c, Array.mapM_eq_mapM_toList]
    simp only [Sem.run_bind, Sem.run_map, Sem.run_pure, h3, Result.andThen_ok]
    simp
  split at e
  · rename_i h1; cases e; rw [key _ _ h1 hv]; rfl
  · rename_i h1; cases e; rw [key _ _ h1 hv]; rfl
  · rename_i h1; cases e; rw [key _ _ h1 hv]; rfl
  · cases e
/-- The end of a function. -/
theorem rtG {v : Value} (hT : TOk P T) (h : Hold H A L n m (.x .ret) a w) (hs : List Ht) (e : retV T m L fn.results.toList hs = some (v, vc)) (hv : AllP vc) (hr : R (.returned v) w) : At P fn R [] (.x .ret) a w := ⟨h.k.defers, v, rt_run hT e hv h.M h.O.all, hr⟩
/-! Loops. -/
def Lp (H n : Nat) (A : World) {G : Type} (m' : G → Mp) (L' : G → List Thing) (φ : G → Prop) (μ : G → Nat) (N : Nat) (a : Act) (w : World) : Prop := ∃ g, μ g < N ∧ φ g ∧ OwnT H A (L' g) w ∧ Fr n a ∧ Al a (m' g)
theorem lpG {G : Type} {c : Code} (m' : G → Mp) (L' : G → List Thing) (φ : G → Prop) (μ : G → Nat) (g0 : G) (h : Hold H A L n m (.c (.loop c)) a w) (hm : subM m (m' g0)) (hL : OwnT H A (L' g0) w) (hφ : φ g0)
    (hn : ∀ g, φ g → ∀ a w, Hold H A (L' g) n (m' g) (.c c) a w → At P fn R (.lp (Lp H n A m' L' φ μ (μ g)) :: ks) (.c c) a w) : At P fn R ks (.c (.loop c)) a w := by
  refine wp_loop_ghost (fun N a w => ∃ g, μ g = N ∧ φ g ∧ OwnT H A (L' g) w ∧ Fr n a ∧ Al a (m' g)) (μ g0) ⟨g0, rfl, hφ, hL, h.k, h.M.sub hm⟩ ?_
  rintro N a w ⟨g, rfl, h1, h2, h3, h4⟩
  refine Go.wp_mono (hn g h1 a w ⟨h2, h3, h4, trivial⟩) fun e a' w' hq => ?_
  cases e with
  | normal =>
    obtain ⟨g', h5, h6, h7, h8, h9⟩ := hq
    exact ⟨μ g', h5, g', rfl, h6, h7, h8, h9⟩
  | _ => exact hq
/-- The end of a round. -/
theorem reG {G : Type} {m' : G → Mp} {L' : G → List Thing} {φ : G → Prop} {μ : G → Nat} {N : Nat} (g : G) (h : Hold H A L n m (.x .normal) a w) (hm : subM m (m' g)) (hL : OwnT H A (L' g) w) (hφ : φ g) (hμ : μ g < N) : At P fn R (.lp (Lp H n A m' L' φ μ N) :: ks) (.x .normal) a w :=
  ⟨g, hμ, hφ, hL, h.k, h.M.sub hm⟩
end

def tt : TbG := [
 (.oth, none, 1),
 (.fu, none, 1),
 (.i .i64, some (.int .i64 0), 1),
 (.i .i64, some (.int .i64 0), 1),
 (.bo, some (.bool false), 1),
 (.i .u8, some (.int .u8 0), 1),
 (.i .u8, some (.int .u8 0), 1),
 (.st 4 [(0, 1, false), (1, 1, false), (2, 1, false), (3, 1, false)], some (.agg #[.int .i64 0, .int .i64 0, .bool false, .int .u8 0]), 4),
 (.st 4 [(0, 1, false), (1, 1, false), (2, 1, false), (3, 1, false)], some (.agg #[.int .i64 0, .int .i64 0, .bool false, .int .u8 0]), 4),
 (.str, some (.string ByteArray.empty), 1),
 (.str, some (.string ByteArray.empty), 1),
 (.str, some (.string ByteArray.empty), 1),
 (.i .u64, some (.int .u64 0), 1),
 (.st 2 [(0, 1, false), (1, 1, false)], some (.agg #[.string ByteArray.empty, .int .u64 0]), 2),
 (.st 2 [(0, 1, false), (1, 1, false)], some (.agg #[.string ByteArray.empty, .int .u64 0]), 2),
 (.pt, some (.pointer none), 1),
 (.pt, some (.pointer none), 1),
 (.pt, some (.pointer none), 1),
 (.st 1 [(0, 1, false)], some (.agg #[.pointer none]), 1),
 (.st 1 [(0, 1, false)], some (.agg #[.pointer none]), 1),
 (.itf, some (.nilIface), 1),
 (.i .i32, some (.int .i32 0), 1),
 (.fu, none, 1),
 (.i .i64, some (.int .i64 0), 1),
 (.oth, none, 1),
 (.fu, none, 1),
 (.fu, none, 1),
 (.i .u32, some (.int .u32 0), 1),
 (.sl 2 true, some (.slice none 0 0), 1),
 (.st 5 [(0, 1, false), (1, 1, false), (2, 1, false), (3, 1, false), (4, 1, false)], some (.agg #[.int .i64 0, .int .i64 0, .int .u32 0, .int .u32 0, .slice none 0 0]), 5),
 (.st 5 [(0, 1, false), (1, 1, false), (2, 1, false), (3, 1, false), (4, 1, false)], some (.agg #[.int .i64 0, .int .i64 0, .int .u32 0, .int .u32 0, .slice none 0 0]), 5),
 (.fu, none, 1),
 (.st 4 [(0, 1, false), (1, 1, false), (2, 1, false), (3, 1, false)], some (.agg #[.int .i64 0, .int .i64 0, .int .u32 0, .int .u32 0]), 4),
 (.st 4 [(0, 1, false), (1, 1, false), (2, 1, false), (3, 1, false)], some (.agg #[.int .i64 0, .int .i64 0, .int .u32 0, .int .u32 0]), 4),
 (.oth, none, 1),
 (.fu, none, 1),
 (.fu, none, 1),
 (.oth, none, 1),
 (.fu, none, 1),
 (.oth, none, 1),
 (.fu, none, 1),
 (.fu, none, 1),
 (.sl 2 true, some (.slice none 0 0), 1),
 (.sl 1 false, some (.slice none 0 0), 1),
 (.sl 2 true, some (.slice none 0 0), 1),
 (.st 2 [(0, 1, false), (1, 1, false)], some (.agg #[.int .i64 0, .slice none 0 0]), 2),
 (.st 2 [(0, 1, false), (1, 1, false)], some (.agg #[.int .i64 0, .slice none 0 0]), 2),
 (.pt, some (.pointer none), 1),
 (.st 2 [(0, 1, false), (1, 1, false)], some (.agg #[.slice none 0 0, .int .i64 0]), 2),
 (.st 2 [(0, 1, false), (1, 1, false)], some (.agg #[.slice none 0 0, .int .i64 0]), 2),
 (.sl 2 true, some (.slice none 0 0), 1),
 (.oth, none, 1),
 (.fu, none, 1),
 (.oth, none, 1),
 (.fu, none, 1),
 (.sl 2 true, some (.slice none 0 0), 1),
 (.oth, none, 1),
 (.fu, none, 1),
 (.st 2 [(0, 1, false), (1, 1, false)], some (.agg #[.int .i64 0, .int .i64 0]), 2),
 (.st 2 [(0, 1, false), (1, 1, false)], some (.agg #[.int .i64 0, .int .i64 0]), 2),
 (.st 2 [(0, 1, false), (1, 1, false)], some (.agg #[.int .i64 0, .int .i64 0]), 2),
 (.fu, none, 1),
 (.fu, none, 1),
 (.fu, none, 1),
 (.fu, none, 1),
 (.sl 2 true, some (.slice none 0 0), 1),
 (.oth, none, 1),
 (.fu, none, 1),
 (.fu, none, 1),
 (.sl 1 false, some (.slice none 0 0), 1),
 (.fu, none, 1),
 (.i .u64, some (.int .u64 0), 1),
 (.st 2 [(0, 1, false), (1, 1, false)], some (.agg #[.int .i64 0, .string ByteArray.empty]), 2),
 (.st 2 [(0, 1, false), (1, 1, false)], some (.agg #[.int .i64 0, .string ByteArray.empty]), 2),
 (.fu, none, 1),
 (.fu, none, 1),
 (.oth, none, 1),
 (.fu, none, 1),
 (.fu, none, 1),
 (.fu, none, 1),
 (.fu, none, 1),
 (.fu, none, 1),
 (.fu, none, 1),
 (.fu, none, 1),
 (.itf, some (.nilIface), 1),
 (.itf, some (.nilIface), 1),
 (.pt, some (.pointer none), 1),
 (.mp, some (.map none), 1),
 (.mp, some (.map none), 1),
 (.st 2 [(0, 1, false), (1, 1, false)], some (.agg #[.map none, .map none]), 2),
 (.st 2 [(0, 1, false), (1, 1, false)], some (.agg #[.map none, .map none]), 2),
 (.fu, none, 1),
 (.fu, none, 1),
 (.fu, none, 1),
 (.fu, none, 1),
 (.fu, none, 1),
 (.sl 1 false, some (.slice none 0 0), 1),
 (.pt, some (.pointer none), 1),
 (.fu, none, 1),
 (.st 3 [(0, 1, false), (1, 1, false), (2, 1, false)], some (.agg #[.slice none 0 0, .slice none 0 0, .bool false]), 3),
 (.st 3 [(0, 1, false), (1, 1, false), (2, 1, false)], some (.agg #[.slice none 0 0, .slice none 0 0, .bool false]), 3),
 (.fu, none, 1),
 (.st 2 [(0, 1, false), (1, 1, false)], some (.agg #[.int .u64 0, .int .u64 0]), 2),
 (.st 2 [(0, 1, false), (1, 1, false)], some (.agg #[.int .u64 0, .int .u64 0]), 2),
 (.fu, none, 1),
 (.fu, none, 1),
 (.fu, none, 1),
 (.st 2 [(0, 1, false), (1, 1, false)], some (.agg #[.int .i64 0, .string ByteArray.empty]), 2),
 (.fu, none, 1),
 (.pt, some (.pointer none), 1),
 (.st 2 [(0, 1, false), (1, 1, false)], some (.agg #[.pointer none, .slice none 0 0]), 2),
 (.st 2 [(0, 1, false), (1, 1, false)], some (.agg #[.pointer none, .slice none 0 0]), 2),
 (.st 2 [(0, 2, true)], some (.agg #[.pointer none, .slice none 0 0]), 2),
 (.st 2 [(0, 2, true)], some (.agg #[.pointer none, .slice none 0 0]), 2),
 (.fu, none, 1),
 (.sl 1 false, some (.slice none 0 0), 1),
 (.fu, none, 1),
 (.fu, none, 1),
 (.fu, none, 1),
 (.i .u64, some (.int .u64 0), 1),
 (.pt, some (.pointer none), 1),
 (.pt, some (.pointer none), 1),
 (.fu, none, 1),
 (.fu, none, 1),
 (.oth, none, 1),
 (.fu, none, 1),
 (.fu, none, 1),
 (.fu, none, 1),
 (.fu, none, 1),
 (.fu, none, 1),
 (.fu, none, 1),
 (.fu, none, 1),
 (.oth, none, 1),
 (.fu, none, 1),
 (.fu, none, 1),
 (.fu, none, 1),
 (.fu, none, 1),
 (.fu, none, 1),
 (.oth, none, 1),
 (.fu, none, 1),
 (.fu, none, 1),
 (.fu, none, 1),
 (.itf, some (.nilIface), 1),
 (.itf, some (.nilIface), 1),
 (.oth, none, 1),
 (.fu, none, 1),
 (.pt, some (.pointer none), 1),
 (.fu, none, 1),
 (.st 2 [(0, 1, false), (1, 1, false)], some (.agg #[.string ByteArray.empty, .bool false]), 2),
 (.st 2 [(0, 1, false), (1, 1, false)], some (.agg #[.string ByteArray.empty, .bool false]), 2),
 (.fu, none, 1),
 (.fu, none, 1),
 (.oth, none, 1),
 (.fu, none, 1),
 (.pt, some (.pointer none), 1),
 (.fu, none, 1),
 (.st 3 [(0, 1, false), (1, 1, false), (2, 1, false)], some (.agg #[.slice none 0 0, .slice none 0 0, .int .i64 0]), 3),
 (.st 3 [(0, 1, false), (1, 1, false), (2, 1, false)], some (.agg #[.slice none 0 0, .slice none 0 0, .int .i64 0]), 3),
 (.oth, none, 1),
 (.fu, none, 1),
 (.fu, none, 1),
 (.fu, none, 1),
 (.fu, none, 1),
 (.fu, none, 1),
 (.oth, none, 1),
 (.fu, none, 1),
 (.oth, none, 1),
 (.fu, none, 1),
 (.pt, some (.pointer none), 1),
 (.fu, none, 1),
 (.oth, none, 1),
 (.fu, none, 1),
 (.fu, none, 1),
 (.fu, none, 1),
 (.fu, none, 1),
 (.oth, none, 1),
 (.fu, none, 1),
 (.fu, none, 1),
 (.st 4 [(0, 1, false), (1, 1, false), (2, 1, false), (3, 1, false)], some (.agg #[.int .u64 0, .bool false, .int .u64 0, .bool false]), 4),
 (.st 4 [(0, 1, false), (1, 1, false), (2, 1, false), (3, 1, false)], some (.agg #[.int .u64 0, .bool false, .int .u64 0, .bool false]), 4),
 (.fu, none, 1),
 (.i .i64, some (.int .i64 0), 1),
 (.oth, none, 1),
 (.fu, none, 1),
 (.fu, none, 1),
 (.fu, none, 1),
 (.fu, none, 1),
 (.fu, none, 1),
 (.fu, none, 1),
 (.fu, none, 1),
 (.oth, none, 1),
 (.fu, none, 1),
 (.fu, none, 1),
 (.fu, none, 1),
 (.fu, none, 1),
 (.fu, none, 1),
 (.fu, none, 1),
 (.fu, none, 1),
 (.fu, none, 1),
 (.fu, none, 1),
 (.fu, none, 1),
 (.i .u64, some (.int .u64 0), 1),
 (.fu, none, 1),
 (.fu, none, 1),
 (.fu, none, 1),
 (.pt, some (.pointer none), 1),
 (.fu, none, 1),
 (.fu, none, 1),
 (.fu, none, 1),
 (.fu, none, 1),
 (.fu, none, 1),
 (.pt, some (.pointer none), 1),
 (.fu, none, 1),
 (.pt, some (.pointer none), 1),
 (.oth, none, 1),
 (.fu, none, 1),
 (.fu, none, 1),
 (.fu, none, 1),
 (.st 4 [(0, 1, false), (1, 1, false), (2, 1, false), (3, 1, false)], some (.agg #[.pointer none, .pointer none, .pointer none, .string ByteArray.empty]), 4),
 (.st 4 [(0, 1, false), (1, 1, false), (2, 1, false), (3, 1, false)], some (.agg #[.pointer none, .pointer none, .pointer none, .string ByteArray.empty]), 4),
 (.ar 0 0 1 false, some (.agg #[]), 0),
 (.st 0 [(0, 0, true)], some (.agg #[]), 0),
 (.st 0 [(0, 0, true)], some (.agg #[]), 0),
 (.i .u8, some (.int .u8 0), 1),
 (.i .u8, some (.int .u8 0), 1),
 (.fu, none, 1),
 (.i .i32, some (.int .i32 0), 1),
 (.i .i32, some (.int .i32 0), 1),
 (.st 11 [(0, 1, false), (1, 1, false), (2, 1, false), (3, 1, false), (4, 1, false), (5, 1, false), (6, 1, false), (7, 1, false), (8, 1, false), (9, 1, false), (10, 1, false)], none, 11),
 (.st 11 [(0, 1, false), (1, 1, false), (2, 1, false), (3, 1, false), (4, 1, false), (5, 1, false), (6, 1, false), (7, 1, false), (8, 1, false), (9, 1, false), (10, 1, false)], none, 11),
 (.fu, none, 1)]
def zz (P : Program) (d : Td × Option Value × Nat) (t : Nat) : Td × Option Value × Nat := (tdOf P t, match d.2.1 with | some _ => zerP P t | none => none, sizP P t)
def zzL (P : Program) : Nat → TbG → TbG
 | _, [] => []
 | i, d :: l => zz P d i :: zzL P (i + 1) l
def smL (P : Program) : Nat → TbG → Bool
 | _, [] => true
 | i, _ :: l => somP P i && smL P (i + 1) l
theorem zzL_at (P : Program) : ∀ (l : TbG) (i t : Nat) (d : Td × Option Value × Nat), nthT l t = some d → nthT (zzL P i l) t = some (zz P d (i + t))
 | [], _, _, _, h => by simp [nthT] at h
 | x :: l, i, 0, d, h => by simp [nthT] at h; subst h; simp [zzL, nthT]
 | x :: l, i, t + 1, d, h => by
  simp only [nthT] at h
  simp only [zzL, nthT]
  rw [zzL_at P l (i + 1) t d h]
  congr 2
  omega
theorem smL_at (P : Program) : ∀ (l : TbG) (i t : Nat) (d : Td × Option Value × Nat), smL P i l = true → nthT l t = some d → somP P (i + t) = true
 | [], _, _, _, _, h => by simp [nthT] at h
 | x :: l, i, 0, d, hs, h => by simp [smL] at hs; exact hs.1
 | x :: l, i, t + 1, d, hs, h => by
  simp only [nthT] at h
  simp only [smL, Bool.and_eq_true] at hs
  have := smL_at P l (i + 1) t d hs.2 h
  rwa [show i + (t + 1) = i + 1 + t by omega]
theorem tt_zz : zzL Try.prog 0 tt = tt := by kernel_rfl
theorem tt_sm : smL Try.prog 0 tt = true := by kernel_rfl
theorem Z07 : TOk Try.prog tt := ⟨fun t d h => by
 have h1 := zzL_at Try.prog tt 0 t d h
 rw [tt_zz, h] at h1
 rw [Nat.zero_add] at h1
 have h2 : zz Try.prog d t = d := (Option.some.inj h1).symm
 have h3 := smL_at Try.prog tt 0 t d tt_sm h
 rw [Nat.zero_add] at h3
 obtain ⟨d1, d2, d3⟩ := d
 unfold zz at h2
 simp only [Prod.mk.injEq] at h2
 refine ⟨h2.1, h3, fun z hz => ?_, h2.2.2⟩
 have h4 := h2.2.1
 simp only at hz
 subst hz
 exact h4⟩
theorem Z10 : Try.prog.follows .mixedOrders = true := by kernel_rfl

/-- What operation 'idx' leaves: a fact of the slots L and of the world, kept by every step behind it. -/
structure TFactL (R : (Nat → Bool) → World → World → Prop) where
  idx : Nat
  L : List Tmp
  T : Act → World → Prop
  loc : ∀ a a' w, (∀ t ∈ L, a.tmps[t]? = a'.tmps[t]?) → T a w → T a' w
  mono : ∀ l a w w', l idx = true → R l w w' → T a w → T a w'
section
variable {P : Program} {R : (Nat → Bool) → World → World → Prop} {ops : Array Oper} {I : (Nat → Bool) → World → Prop} {a0 : Act} {D : List Tmp} {A : List (List Nat)} {Fs : List (TFactL R)} {m : Nat} {Q : Exit → Act → World → Prop}
abbrev factsL (done : List (Nat × TFactL R)) : List (TFactL R) := done.reverse.map Prod.snd
theorem Z1g (x : Nat × TFactL R) (done : List (Nat × TFactL R)) : factsL (x :: done) = factsL done ++ [x.2] := by simp [factsL]
theorem Z0v (done : List (Nat × TFactL R)) : (factsL done).length = done.length := by simp [factsL]
def plain (Fs : List (TFactL R)) : List (TFact (fun _ _ : World => False)) := Fs.map fun S => ⟨S.L, S.T, S.loc, fun _ _ _ h _ => h.elim⟩
theorem plain_L (Fs : List (TFactL R)) : (plain Fs).map TFact.L = Fs.map TFactL.L := by simp [plain, Function.comp_def]
theorem plain_at {i : Nat} {S : TFactL R} (h : Fs[i]? = some S) : ∃ S', (plain Fs)[i]? = some S' ∧ S'.L = S.L := ⟨_, by rw [plain, List.getElem?_map, h]; rfl, rfl⟩
structure LInv (ops : Array Oper) (I : (Nat → Bool) → World → Prop) (a0 : Act) (D : List Tmp) (Fs : List (TFactL R)) (m : Nat) (listed : Array Bool) (a : Act) (w : World) : Prop where
  sz : listed.size = ops.size
  env : Env a0 D a
  inv : I (fun i => listed.getD i false) w
  closed : ∀ j o, listed.getD j false = true → ops[j]? = some o → ∀ e ∈ o.after, Region.binds .any e = true → listed.getD e.on false = true
  typed : ∀ i S, listed.getD i false = true → Fs[i]? = some S → S.T a w
  un : ∀ i, m ≤ i → listed.getD i false = false

theorem Z5y (hok0 : okB ops D A (Fs.map TFactL.L) m = true) (hidx : ∀ (i : Nat) (S : TFactL R), Fs[i]? = some S → S.idx = i) (hlen : Fs.length = m) (hms : m ≤ ops.size) (hm : ∀ i, m ≤ i → i < ops.size → ∀ j, j < i → j ∈ A.getD i [])
    (hstep : ∀ (k : Nat) (o : Oper) (S : TFactL R), ops[k]? = some o → Fs[k]? = some S → ∀ l a w, Env a0 D a → I l w → l k = false → (∀ i ∈ A.getD k [], l i = true) → (∀ (i : Nat) (S' : TFactL R), i ∈ A.getD k [] → Fs[i]? = some S' → S'.T a w) → opR P ops (R l) (I (upd l k)) o S.T a w)
    (hrr : ∀ l w, R l w w)
    (hend : ∀ l a w, Env a0 D a → I l w → (∀ i, i < m → l i = true) → (∀ (i : Nat) (S : TFactL R), Fs[i]? = some S → S.T a w) → tailWp P ops Q (ops.size - m) m a w) :
    ∀ (fuel : Nat) (listed : Array Bool) (a : Act) (w : World), LInv ops I a0 D Fs m listed a w → listed.toList.count false = fuel → wpAny P .any ops Q fuel listed a w := by
  have hok : okB ops D A ((plain Fs).map TFact.L) m = true := by rw [plain_L]; exact hok0
  intro fuel
  induction fuel with
  | zero =>
    intro listed a w hI h0
    obtain ⟨hr, hx⟩ := Z46 (ops := ops) listed hI.sz h0
    have hmm : m = ops.size := by
      by_cases h : m < ops.size
      · have := hx m h
        rw [hI.un m (Nat.le_refl _)] at this
        cases this
      · omega
    refine ⟨hr, ?_⟩
    have := hend _ a w hI.env hI.inv (fun i hi => hx i (by omega)) (fun i S hS => hI.typed i S (hx i (by have := (List.getElem?_eq_some_iff.1 hS).1; omega)) hS)
    rwa [show ops.size - m = 0 by omega] at this
  | succ fuel ih =>
    intro listed a w hI hcnt
    by_cases hall : ∀ j, j < m → listed.getD j false = true
    · exact tail_any hok hm (fuel + 1) m listed a w (Nat.le_refl _) hms hI.sz hall hI.un hI.closed hcnt (hend _ a w hI.env hI.inv hall (fun i S hS => hI.typed i S (hall i (by have := (List.getElem?_eq_some_iff.1 hS).1; omega)) hS))
    refine ⟨fun hr => (Z3s hok listed hI.sz fuel hcnt hr).elim, fun i hi => ?_⟩
    obtain ⟨hun, o, ho, hpre⟩ := mem_ready.1 hi
    have hio : i < ops.size := (Array.getElem?_eq_some_iff.1 ho).1
    have his : i < listed.size := by have := hI.sz; omega
    have hanc := Z1c hok hI.closed hI.sz i o ho hpre
    have him : i < m := by
      by_cases h : i < m
      · exact h
      · exact (hall (fun j hj => hanc j (hm i (by omega) hio j (by omega)))).elim
    obtain ⟨S, hS⟩ : ∃ S, Fs[i]? = some S := ⟨_, List.getElem?_eq_getElem (by omega)⟩
    have hst := hstep i o S ho hS _ a w hI.env hI.inv (by rw [Z0a his false true]; exact hun) hanc (fun j S' hj hS' => hI.typed j S' (hanc j hj) hS')
    have hnext : ∀ v w', R (fun j => listed.getD j false) w w' → I (upd (fun j => listed.getD j false) i) w' → S.T (a.put o.dst v) w' → LInv ops I a0 D Fs m (listed.setIfInBounds i true) (a.put o.dst v) w' := by
      intro v w' hRw hR hT
      obtain ⟨_, _, h3⟩ := Z5a hok ho
      have h3 := h3 him
      refine ⟨by simpa using hI.sz, ⟨?_, ?_, ?_⟩, by rw [Z78 his]; exact hR, Z45 his ho hpre hI.closed, ?_, ?_⟩
      · rw [← hI.env.size]; cases hd : o.dst <;> simp [Act.put]
      · rw [← hI.env.defers]; cases hd : o.dst <;> simp [Act.put]
      · intro t ht
        rw [← hI.env.keep t ht]
        cases hd : o.dst with
        | none => simp [Act.put]
        | some d =>
          have := (h3 d hd).1
          have hne : d ≠ t := fun e => ht (e ▸ this)
          simp [Act.put, Array.getElem?_setIfInBounds_ne hne]
      · intro j S' hj hS'
        by_cases hji : i = j
        · subst hji
          rw [hS] at hS'
          cases hS'
          exact hT
        · rw [getD_set_ne false hji] at hj
          have hold := S'.mono (fun j => listed.getD j false) _ w w' (by rw [hidx j S' hS']; exact hj) hRw (hI.typed j S' hj hS')
          refine S'.loc _ _ _ (fun t ht => ?_) hold
          cases hd : o.dst with
          | none => simp [Act.put]
          | some d =>
            have hja : i ∉ A.getD j [] := by
              intro hmem
              obtain ⟨oj, hoj⟩ : ∃ oj, ops[j]? = some oj := ⟨_, Array.getElem?_eq_getElem (by have := (List.getElem?_eq_some_iff.1 hS').1; omega)⟩
              have := Z1c hok hI.closed hI.sz j oj hoj (hI.closed j oj hj hoj) i hmem
              rw [Z0a his false true, hun] at this
              cases this
            obtain ⟨S2, hS2, hSL⟩ := plain_at hS'
            have hne : d ≠ t := fun e => (h3 d hd).2 j S2 hS2 (fun e => hji e.symm) hja (by rw [hSL]; exact e ▸ ht)
            simp [Act.put, Array.getElem?_setIfInBounds_ne hne]
      · intro j hj
        have : i ≠ j := by omega
        rw [getD_set_ne false this]
        exact hI.un j hj
    have hk : ∀ v w', R (fun j => listed.getD j false) w w' → I (upd (fun j => listed.getD j false) i) w' → S.T (a.put o.dst v) w' → wpAny P .any ops Q fuel (listed.setIfInBounds i true) (a.put o.dst v) w' :=
      fun v w' hRw hR hT => ih _ _ _ (hnext v w' hRw hR hT) (count_set his hun _ hcnt)
    unfold wpOp
    simp only [ho]
    rcases hst with ⟨hw, hy⟩ | ⟨hw, hJ, hT⟩
    · rw [if_pos hw]
      refine .inl ?_
      unfold YieldsR at hy
      unfold Oper.wp
      generalize (execOp a.eval o).run P w = r at hy ⊢
      cases r with
      | halt x w' => exact hy.elim
      | ok n w' =>
        cases n <;> simp only [Oper.upon] at hy ⊢
        case value v => exact hk v w' hy.1 hy.2.1 hy.2.2
        case skip => exact hk undef w' hy.1 hy.2.1 hy.2.2
        case enter f args =>
          refine hy.mono fun e w'' ⟨v, he, hRw, hR, hT⟩ => ?_
          subst he
          exact hk v w'' hRw hR hT
    · rw [if_neg (by rw [hw]; exact Bool.false_ne_true)]
      exact hk undef w (hrr _ w) hJ hT

inductive BuildL (P : Program) (R : (Nat → Bool) → World → World → Prop) (ops : Array Oper) (I : (Nat → Bool) → World → Prop) (a0 : Act) (D : List Tmp) (A : List (List Nat)) (G : List (Nat × TFactL R) → Prop) : Nat → List Oper → List (Nat × TFactL R) → Prop
  | stop {k : Nat} {os : List Oper} {done : List (Nat × TFactL R)} (h : G done) : BuildL P R ops I a0 D A G k os done
  | step {k : Nat} {o : Oper} {os : List Oper} {done : List (Nat × TFactL R)} (S : TFactL R) (hx : S.idx = k) (h : ∀ l a w, Env a0 D a → I l w → l k = false → (∀ i ∈ A.getD k [], l i = true) → (∀ (i : Nat) (S' : TFactL R), i ∈ A.getD k [] → (i, S') ∈ done → S'.T a w) → opR P ops (R l) (I (upd l k)) o S.T a w)
      (hr : BuildL P R ops I a0 D A G (k + 1) os ((k, S) :: done)) : BuildL P R ops I a0 D A G k (o :: os) done

variable {G : List (Nat × TFactL R) → Prop} {k : Nat} {o : Oper} {os : List Oper} {done : List (Nat × TFactL R)} {d : Tmp} {v : Value}
theorem BuildL.use (hb : BuildL P R ops I a0 D A G k os done) (hk : k = done.length) (hwf : ∀ (i : Nat) (S : TFactL R), (i, S) ∈ done → (factsL done)[i]? = some S) (hxd : ∀ (i : Nat) (S : TFactL R), (factsL done)[i]? = some S → S.idx = i) : ∃ fin : List (Nat × TFactL R), G fin ∧ (∀ (i : Nat) (S : TFactL R), (factsL done)[i]? = some S → (factsL fin)[i]? = some S) ∧
    (∀ (i : Nat) (S : TFactL R), (i, S) ∈ fin → (factsL fin)[i]? = some S) ∧ (∀ (i : Nat) (S : TFactL R), (factsL fin)[i]? = some S → S.idx = i) ∧ done.length ≤ fin.length ∧
    ∀ (i : Nat) (o : Oper) (S : TFactL R), os[i]? = some o → (factsL fin)[k + i]? = some S → ∀ l a w, Env a0 D a → I l w → l (k + i) = false → (∀ j ∈ A.getD (k + i) [], l j = true) → (∀ (j : Nat) (S' : TFactL R), j ∈ A.getD (k + i) [] → (factsL fin)[j]? = some S' → S'.T a w) → opR P ops (R l) (I (upd l (k + i))) o S.T a w := by
  induction hb with
  | stop h =>
    rename_i k os done
    refine ⟨done, h, fun _ _ h => h, hwf, hxd, Nat.le_refl _, fun i o S _ hS => ?_⟩
    rw [List.getElem?_eq_none (by rw [Z0v]; omega)] at hS
    cases hS
  | step S hx h hr ih =>
    rename_i k o os done
    have hpre0 : ∀ (i : Nat) (S' : TFactL R), (factsL done)[i]? = some S' → (factsL ((k, S) :: done))[i]? = some S' := fun i S' hi => by
      have hlt := (List.getElem?_eq_some_iff.1 hi).1
      rw [Z1g, List.getElem?_append_left hlt]; exact hi
    obtain ⟨fin, hG, h1, hw, hxf, h2, h4⟩ := ih (by simp [hk]) (fun i S' hm => by
      rcases List.mem_cons.1 hm with he | hm
      · cases he
        rw [Z1g, hk, ← Z0v done]
        simp
      · exact hpre0 i S' (hwf i S' hm)) (fun i S' hi => by
      rw [Z1g] at hi
      by_cases hlt : i < (factsL done).length
      · rw [List.getElem?_append_left hlt] at hi
        exact hxd i S' hi
      · have hle := (List.getElem?_eq_some_iff.1 hi).1
        rw [List.length_append] at hle
        have hle : i < (factsL done).length + 1 := hle
        have : i = (factsL done).length := by omega
        subst this
        rw [List.getElem?_append_right (Nat.le_refl _), Nat.sub_self] at hi
        simp at hi
        subst hi
        rw [hx, hk, Z0v])
    refine ⟨fin, hG, fun i S' hi => h1 i S' (hpre0 i S' hi), hw, hxf, by simp at h2; omega, ?_⟩
    intro i o' S' hi hS
    cases i with
    | zero =>
      simp at hi
      subst hi
      have : (factsL fin)[k + 0]? = some S := h1 k S (by rw [Z1g, hk, ← Z0v done]; simp)
      rw [this] at hS
      cases hS
      intro l a w hE hR hl hA hF
      exact h l a w hE hR hl hA (fun j S' hj hd => hF j S' hj (h1 j S' (hpre0 j S' (hwf j S' hd))))
    | succ i =>
      have := h4 i o' S' (by simpa using hi) (by rwa [show k + 1 + i = k + (i + 1) by omega])
      intro l a w hE hR hl hA hF
      rw [show k + (i + 1) = k + 1 + i by omega] at hl hA ⊢
      exact this l a w hE hR hl hA (fun j S' hj hd => hF j S' (by rwa [show k + (i + 1) = k + 1 + i by omega]) hd)



/-- Each operation's fact, shown once, and the invariant kept. -/
theorem Z2c {id : Nat} {l : List Oper} {w : World} (Fs : List (TFactL R)) (hidx : ∀ (i : Nat) (S : TFactL R), Fs[i]? = some S → S.idx = i) (A : List (List Nat)) (D : List Tmp) (hf : P.follows .mixedOrders = true) (hok : okB l.toArray D A (Fs.map TFactL.L) Fs.length = true)
    (hm : (decide (Fs.length ≤ l.length) && (List.range l.length).all fun i => decide (i < Fs.length) || (List.range i).all fun j => (A.getD i []).contains j) = true)
    (hw0 : I (fun _ => false) w.drew)
    (hstep : ∀ (k : Nat) (o : Oper) (S : TFactL R), l[k]? = some o → Fs[k]? = some S → ∀ L a w, Env a0 D a → I L w → L k = false → (∀ i ∈ A.getD k [], L i = true) → (∀ (i : Nat) (S' : TFactL R), i ∈ A.getD k [] → Fs[i]? = some S' → S'.T a w) → opR P l.toArray (R L) (I (upd L k)) o S.T a w)
    (hrr : ∀ l w, R l w w)
    (hend : ∀ L a w, Env a0 D a → I L w → (∀ i, i < Fs.length → L i = true) → (∀ (i : Nat) (S : TFactL R), Fs[i]? = some S → S.T a w) → tailWp P l.toArray Q (l.length - Fs.length) Fs.length a w) :
    (Code.region id l.toArray true).wp P Q a0 w := by
  refine wp_region_any hf ?_
  simp only [Bool.and_eq_true, decide_eq_true_eq, List.all_eq_true, List.mem_range, Bool.or_eq_true, List.contains_iff_mem] at hm
  refine Z5y (a0 := a0) (I := I) (Fs := Fs) (A := A) (D := D) (m := Fs.length) hok hidx rfl (by simpa using hm.1) ?_ (by simpa using hstep) hrr (by simpa using hend) _ _ _ _ ?_ (by simp)
  · intro i h1 h2 j hj
    rcases hm.2 i (by simpa using h2) with h | h
    · omega
    · exact h j hj
  · refine ⟨by simp, ⟨rfl, rfl, fun _ _ => rfl⟩, ?_, ?_, ?_, ?_⟩
    · have e : (fun i => (Array.replicate l.toArray.size false).getD i false) = fun _ => false := funext fun i => Z1e _ _
      rw [e]
      exact hw0
    · intro j o hj
      rw [Z1e] at hj
      cases hj
    · intro i S hi
      rw [Z1e] at hi
      cases hi
    · intro i _
      exact Z1e _ _

/-- The slot holds this value. -/
def detL (k : Nat) (d : Tmp) (v : Value) : TFactL R := ⟨k, [d], fun a _ => a.eval (.tmp d) = v, fun a a' _ h e => (Z0f (h d (by simp))).symm.trans e, fun _ _ _ _ _ _ e => e⟩
/-- The slot holds a value of which this holds, from then on. -/
def freshL (k : Nat) (d : Tmp) (φ : Value → World → Prop) (hφ : ∀ l v w w', l k = true → R l w w' → φ v w → φ v w') : TFactL R := ⟨k, [d], fun a w => φ (a.eval (.tmp d)) w, fun a a' w h e => by rw [← Z0f (h d (by simp))]; exact e, fun l a w w' hl hR e => hφ l _ _ _ hl hR e⟩
theorem BuildL.det (d : Tmp) {v : Value} (hrr : ∀ l w, R l w w) (hI : ∀ l w, I l w → I (upd l k) w) (hd : o.dst = some d) (hn : Nat.blt d a0.tmps.size = true) (hg : o.guard = none)
    (h : ∀ l a w, Env a0 D a → I l w → (∀ (i : Nat) (S' : TFactL R), i ∈ A.getD k [] → (i, S') ∈ done → S'.T a w) → (execOp a.eval o).run P w = .ok (.value v) w)
    (hr : BuildL P R ops I a0 D A G (k + 1) os ((k, detL k d v) :: done)) : BuildL P R ops I a0 D A G k (o :: os) done :=
  .step _ rfl (fun l a w hE hR _ _ hF => .inl ⟨Z02 hg, by
    unfold YieldsR
    rw [h l a w hE hR hF]
    exact ⟨hrr l w, hI l w hR, by rw [hd]; exact Z03 (by rw [hE.size]; exact Nat.le_of_ble_eq_true hn)⟩⟩) hr
theorem BuildL.call (d : Tmp) {v : Value} {f : FuncId} {args : Array Value} (hd : o.dst = some d) (hn : Nat.blt d a0.tmps.size = true) (hg : o.guard = none)
    (h : ∀ l a w, Env a0 D a → I l w → (∀ (i : Nat) (S' : TFactL R), i ∈ A.getD k [] → (i, S') ∈ done → S'.T a w) → (execOp a.eval o).run P w = .ok (.enter f args) w)
    (hc : ∀ l w, I l w → l k = false → (∀ i ∈ A.getD k [], l i = true) → Calls P f args w fun e w' => e = .returned v ∧ R l w w' ∧ I (upd l k) w')
    (hr : BuildL P R ops I a0 D A G (k + 1) os ((k, detL k d v) :: done)) : BuildL P R ops I a0 D A G k (o :: os) done :=
  .step _ rfl (fun l a w hE hR hl hA hF => .inl ⟨Z02 hg, by
    unfold YieldsR
    rw [h l a w hE hR hF]
    exact (hc l w hR hl hA).mono fun e w' ⟨he, hRw, hI⟩ => ⟨v, he, hRw, hI, by rw [hd]; exact Z03 (by rw [hE.size]; exact Nat.le_of_ble_eq_true hn)⟩⟩) hr
/-- One that makes something of its own. -/
theorem BuildL.new (d : Tmp) (φ : Value → World → Prop) (hφ : ∀ l v w w', l k = true → R l w w' → φ v w → φ v w') (hd : o.dst = some d) (hn : Nat.blt d a0.tmps.size = true) (hg : o.guard = none)
    (h : ∀ l a w, Env a0 D a → I l w → l k = false → (∀ i ∈ A.getD k [], l i = true) → (∀ (i : Nat) (S' : TFactL R), i ∈ A.getD k [] → (i, S') ∈ done → S'.T a w) → ∃ v w', (execOp a.eval o).run P w = .ok (.value v) w' ∧ R l w w' ∧ I (upd l k) w' ∧ φ v w')
    (hr : BuildL P R ops I a0 D A G (k + 1) os ((k, freshL k d φ hφ) :: done)) : BuildL P R ops I a0 D A G k (o :: os) done :=
  .step _ rfl (fun l a w hE hR hl hA hF => by
    obtain ⟨v, w', h1, h2, h3, h4⟩ := h l a w hE hR hl hA hF
    refine .inl ⟨Z02 hg, ?_⟩
    unfold YieldsR
    rw [h1]
    exact ⟨h2, h3, by rw [hd]; show φ ((a.put (some d) v).eval (.tmp d)) w'; rw [Z03 (by rw [hE.size]; exact Nat.le_of_ble_eq_true hn)]; exact h4⟩) hr
end
open Go.RowKit Go.Maps Go.ChangeMaps Go.MapKept Go.WideShapes
open Go.WideElems (Fit rd rg pl rd_key rd_val rg_of rd_mk other_key)

section
variable {H : Type} {P : Program} {k : TypeId} {R : Value → Option (DataW H × List MemPlace)} {w : World} {b r n : Nat} {D : DataW H} {left : Lit → Bool} {cnt : Nat}

end
open Go.RowKit Go.ChangeShapes Go.WideShapes Go.ChangeAt

/-- These cells read as a value of type t. -/
def Fit (P : Program) (w : World) (t : TypeId) (cs : List Value) : Prop :=
  ∃ (H : Type) (enc : TypeId × Value → H) (fuel : Nat) (x : DataW H × List MemPlace), DataW.trod enc P w 0 (fun _ => true) true fuel t cs = some x

/-- An argument of type t. -/
def Arg (P : Program) (w : World) (t : TypeId) (v : Value) : Prop := Fit P w t v.cells.toList ∧ ∃ r base, Value.okWide P w r base t v

section
variable {P : Program} {w : World} {t : TypeId} {cs : List Value} {v : Value}
theorem Z7m (ht : P.underlying t = some .string) (h : Fit P w t cs) : ∃ s : ByteArray, cs = [.string s] ∧ s.size ≤ maxLen := by
  obtain ⟨H, enc, fuel, x, h⟩ := h
  obtain ⟨n, h1, _, h2⟩ := DataW.trod_string ht h
  exact ⟨n, h1, h2⟩
theorem arg_bool (ht : P.underlying t = some .bool) (h : Arg P w t v) : ∃ b, v = .bool b := by
  obtain ⟨_, r, base, hv⟩ := h
  exact okWide_bool ht hv
theorem Z2m (ht : P.underlying t = some .string) (h : Arg P w t v) : ∃ s : ByteArray, v = .string s ∧ s.size ≤ maxLen := by
  obtain ⟨hf, r, base, hv⟩ := h
  obtain ⟨n, rfl⟩ := okWide_string ht hv
  obtain ⟨m, h1, h2⟩ := Z7m ht hf
  simp [Value.cells] at h1
  subst h1
  exact ⟨n, rfl, h2⟩
end

/-! ### Slices as lists of data: 'Row': element i lies at 'off + i * c', its cells are 'enc x'; 'Row1': elements of one cell. -/
def Row {E : Type} (w : World) (A : Option Addr) (c : Nat) (enc : E → List Value) (xs : List E) : Prop :=
  ∀ i x, xs[i]? = some x → ∃ b off, A = some ⟨b, off, none⟩ ∧ b < w.heap.size ∧ ∀ j u, (enc x)[j]? = some u → w.cell? ⟨b, off + i * c + j, none⟩ = some u
def Row1 {E : Type} (w : World) (A : Option Addr) (enc : E → Value) (xs : List E) : Prop :=
  ∀ i x, xs[i]? = some x → ∃ b off, A = some ⟨b, off, none⟩ ∧ b < w.heap.size ∧ w.cell? ⟨b, off + i, none⟩ = some (enc x)

theorem Row.below {E : Type} {w w' : World} {A : Option Addr} {c : Nat} {enc : E → List Value} {xs : List E} (h : Row w A c enc xs) (hb : Below w.heap.size w w') : Row w' A c enc xs := by
  intro i x hx
  obtain ⟨b, off, hA, hlt, hc⟩ := h i x hx
  exact ⟨b, off, hA, Nat.lt_of_lt_of_le hlt hb.size, fun j u hu => (hb.cell (p := ⟨b, _, none⟩) hlt).trans (hc j u hu)⟩
theorem Row1.below {E : Type} {w w' : World} {A : Option Addr} {enc : E → Value} {xs : List E} (h : Row1 w A enc xs) (hb : Below w.heap.size w w') : Row1 w' A enc xs := by
  intro i x hx
  obtain ⟨b, off, hA, hlt, hc⟩ := h i x hx
  exact ⟨b, off, hA, Nat.lt_of_lt_of_le hlt hb.size, (hb.cell (p := ⟨b, _, none⟩) hlt).trans hc⟩
theorem Row1.at_ {E : Type} {w : World} {A : Option Addr} {enc : E → Value} {xs : List E} (h : Row1 w A enc xs) {i : Nat} (hi : i < xs.length) : ∃ b off, A = some ⟨b, off, none⟩ ∧ b < w.heap.size ∧ w.cell? ⟨b, off + i, none⟩ = some (enc xs[i]) :=
  h i _ (List.getElem?_eq_getElem hi)
theorem Row.at_ {E : Type} {w : World} {A : Option Addr} {c : Nat} {enc : E → List Value} {xs : List E} (h : Row w A c enc xs) {i : Nat} (hi : i < xs.length) : ∃ b off, A = some ⟨b, off, none⟩ ∧ b < w.heap.size ∧ ∀ j u, (enc xs[i])[j]? = some u → w.cell? ⟨b, off + i * c + j, none⟩ = some u :=
  h i _ (List.getElem?_eq_getElem hi)

/-- An element in a later world. -/
theorem Row1.in_ {E : Type} {w w' : World} {A : Option Addr} {enc : E → Value} {xs : List E} (h : Row1 w A enc xs) (hb : Below w.heap.size w w') {i : Nat} (hi : i < xs.length) : ∃ b off, A = some ⟨b, off, none⟩ ∧ b < w.heap.size ∧ w'.cell? ⟨b, off + i, none⟩ = some (enc xs[i]) := by
  obtain ⟨b, off, hA, hlt, hc⟩ := h.at_ hi
  exact ⟨b, off, hA, hlt, (hb.cell (p := ⟨b, _, none⟩) hlt).trans hc⟩
theorem Row.in_ {E : Type} {w w' : World} {A : Option Addr} {c : Nat} {enc : E → List Value} {xs : List E} (h : Row w A c enc xs) (hb : Below w.heap.size w w') {i : Nat} (hi : i < xs.length) : ∃ b off, A = some ⟨b, off, none⟩ ∧ b < w.heap.size ∧ ∀ j u, (enc xs[i])[j]? = some u → w'.cell? ⟨b, off + i * c + j, none⟩ = some u := by
  obtain ⟨b, off, hA, hlt, hc⟩ := h.at_ hi
  exact ⟨b, off, hA, hlt, fun j u hu => (hb.cell (p := ⟨b, _, none⟩) hlt).trans (hc j u hu)⟩

section
variable {P : Program} {w : World} {t e : TypeId} {v : Value} {E : Type}
end
open Go.RowKit Go.ChangeShapes Go.WideShapes Go.ChangeAt Go.Deep

section
variable {P : Program} {w : World} {t : TypeId} {cs : List Value}
end
open Go Go.RowKit Go.Lib

theorem Z2i {w : World} {base base' : Nat} {e : TypeId} {size : Nat} {v : Value} {n : Nat} {xs : List Value} (h : w.ownsRowF base e size v n xs) (hb : base' ≤ base) : w.ownsRowF base' e size v n xs := by
  refine ⟨h.1, ?_⟩
  rcases h.2 with hn | ⟨g, cap, cur, fz, hv, hg, rest⟩
  · exact .inl hn
  · exact .inr ⟨g, cap, cur, fz, hv, Nat.le_trans hb hg, rest⟩
theorem Z3e {w w' : World} {e : TypeId} {size : Nat} {v : Value} {n : Nat} {xs : List Value} (h : w'.ownsRowF w.heap.size e size v n xs) : v.ownBlock = (Value.slice none 0 0).ownBlock ∨ ∃ k, v.ownBlock = some k ∧ w.heap.size ≤ k := by
  rcases h.2 with ⟨rfl, _⟩ | ⟨g, cap, cur, fz, rfl, hg, _⟩
  · exact .inl rfl
  · exact .inr ⟨g, rfl, hg⟩

section
variable {P : Program} (w : World)

theorem Z2l (base : Nat) (t u ty e : TypeId) (i : TypeInfo) (ht : P.underlying t = some (.slice e)) (hu : P.underlying u = some .string) (hi : P.info? e = some i) (hz : i.zero = some (.int .u8 0))
    (hsize : i.size = 1) (hby : i.bytes = 1)
    (v : Value) (n : Nat) (xs : List Value) (hown : w.ownsRowF base e 1 v n xs) (s : ByteArray)
    (h63 : n + s.size ≤ maxLen) (hbytes : n + s.size ≤ 140737488355328) (hbase : base ≤ w.heap.size) :
    ∃ v' w', (Builtin.append_ #[t, u] ty #[v, .string s]).run P w = .ok v' w' ∧ w'.ownsRowF base e 1 v' (n + s.size) (xs ++ strCells s) ∧ w.grownBy w' v.ownBlock ∧
      (v'.ownBlock = v.ownBlock ∨ ∃ k, v'.ownBlock = some k ∧ w.heap.size ≤ k) := by
  rcases hown.2 with ⟨rfl, rfl⟩ | ⟨g, cap, cur, fz, rfl, hbg, hg, hfz, hnc, hcm, hcs, htake⟩
  · -- no row yet: the elder law
    obtain ⟨v', w', h1, h2, h3, h4⟩ := run_append_own_string (P := P) w w.heap.size t u ty e i ht hu hi hz hsize hby (.slice none 0 0) 0 xs ⟨hown.1, .inl ⟨rfl, rfl⟩⟩ s h63 hbytes (Nat.le_refl _)
    exact ⟨v', w', h1, Z2i (World.ownsRowF_of h2) hbase, h3, Z3e (World.ownsRowF_of h2)⟩
  · have hsmall : n + s.size ≤ 9223372036854775807 := by simp only [maxLen] at h63; omega
    have hxl : xs.length = n := by simpa using hown.1
    have hlen : (xs ++ strCells s).length = (n + s.size) * 1 := by rw [List.length_append, hxl, strCells_length, Nat.mul_one]
    by_cases hroom : n + s.size ≤ cap
    · have hcs' : cur.size = cap := by simpa using hcs
      have hr := run_append_room_stringF (P := P) w t u ty e i ht hu hi hsize g n cap cur fz hg (by simpa using hfz) s hroom (by omega)
      refine ⟨_, _, hr, ⟨hlen, .inr ⟨g, cap, _, fz, rfl, hbg, setRow_heap w g cur _ e _ hg, by omega, hroom, hcm, ?_, ?_⟩⟩, ⟨rfl, rfl, rfl, by simp, fun k _ hk => setRow_other w g k _ (fun e => hk (by simp [Value.ownBlock, e]))⟩, .inl rfl⟩
      · simp only [List.size_toArray, List.length_append, List.length_take, List.length_drop, Array.length_toList, strCells_length]
        omega
      · have ht' : cur.toList.take n = xs := by simpa using htake
        rw [ht', ← hlen]
        exact List.take_left
    · have holds : ∀ j u, xs[j]? = some u → w.cell? ((⟨g, 0, none⟩ : Addr).add j) = some u := hown.cells (g := g) rfl
      have hr := run_append_grow_string (P := P) w t u ty e i (.int .u8 0) ht hu hi hz ⟨g, 0, none⟩ n cap xs (by rw [hsize]; simpa using hxl) holds s (by omega) (by omega) (by rw [hby]; exact growslice_fits (by omega) (by omega))
      have hge := grownCap_ge w (n + s.size) cap e
      have hcm2 : grownCap w (n + s.size) cap e ≤ maxLen := grownCap_le_maxLen w (n + s.size) cap e h63
      refine ⟨_, _, hr, ⟨hlen, .inr ⟨w.heap.size, _, _, (0, 0), rfl, hbase, _root_.Go.heap_alloc_new w.drew _, Nat.zero_le _, hge, hcm2, ?_, ?_⟩⟩, ⟨rfl, rfl, rfl, by simp, fun k hk _ => _root_.Go.heap_alloc_old w.drew _ hk⟩, .inr ⟨_, rfl, Nat.le_refl _⟩⟩
      · have hz1 : (Value.int IntKind.u8 0).cells.size = 1 := rfl
        simp only [Array.size_append, List.size_toArray, size_zeroCells, hz1, hxl, strCells_length]
        omega
      · simp only [Array.toList_append, List.append_assoc]
        rw [← List.append_assoc, ← hlen]
        exact List.take_left

theorem Z48 {ops : Array Oper} {rest : List Oper} {o : Oper} {a : Act} {Q : Exit → Act → World → Prop} (hgd : o.guard = none) (sl x : Operand) (t u : TypeId)
    (ho : o.op = .call { callee := .builtin .append, args := #[sl, x], argTypes := #[t, u] })
    (base : Nat) (e : TypeId) (i : TypeInfo) (ht : P.underlying t = some (.slice e)) (hu : P.underlying u = some .string) (hi : P.info? e = some i) (hz : i.zero = some (.int .u8 0))
    (hsize : i.size = 1) (hby : i.bytes = 1)
    (v : Value) (n : Nat) (xs : List Value) (hs : a.eval sl = v) (hown : w.ownsRowF base e 1 v n xs) (s : ByteArray) (hx : a.eval x = .string s)
    (h63 : n + s.size ≤ maxLen) (hbytes : n + s.size ≤ 140737488355328) (hbase : base ≤ w.heap.size)
    (h : ∀ v' w', w'.ownsRowF base e 1 v' (n + s.size) (xs ++ strCells s) → w.grownBy w' v.ownBlock → (v'.ownBlock = v.ownBlock ∨ ∃ k, v'.ownBlock = some k ∧ w.heap.size ≤ k) → wpList P ops Q rest (a.put o.dst v') w') : wpList P ops Q (o :: rest) a w := by
  refine wpList_plain hgd fun K hK => ?_
  obtain ⟨v', w', hr, h2, h3, h4⟩ := Z2l (P := P) w base t u o.type e i ht hu hi hz hsize hby v n xs hown s h63 hbytes hbase
  unfold Oper.wp execOp
  simp only [ho, resolve, invoke, builtin, Sem.run_bind, Sem.run_pure, Result.andThen_ok, List.map_toArray, List.map_cons, List.map_nil, hs, hx, hr]
  exact hK _ _ (h v' w' h2 h3 h4)


theorem Z1k (base : Nat) (t ty e : TypeId) (i : TypeInfo) (z : Value) (size bytes : Nat) (ht : P.underlying t = some (.slice e)) (hi : P.info? e = some i) (hz : i.zero = some z)
    (hsize : i.size = size) (hby : i.bytes = bytes) (hzs : z.cells.size = size) (hsz : 0 < size)
    (v : Value) (n : Nat) (xs : List Value) (hown : w.ownsRowF base e size v n xs)
    (a : Addr) (m c : Nat) (news : List Value) (hl : news.length = m * size) (hnews : ∀ j u, news[j]? = some u → w.cell? (a.add j) = some u) (h1 : ∀ u ∈ news, u.oneCell' = true)
    (h63 : n + m ≤ maxLen) (hbytes : (n + m) * bytes ≤ 140737488355328) (hbase : base ≤ w.heap.size) :
    ∃ v' w', (Builtin.append_ #[t, t] ty #[v, .slice (some a) m c]).run P w = .ok v' w' ∧ w'.ownsRowF base e size v' (n + m) (xs ++ news) ∧ w.grownBy w' v.ownBlock ∧
      (v'.ownBlock = v.ownBlock ∨ ∃ k, v'.ownBlock = some k ∧ w.heap.size ≤ k) := by
  rcases hown.2 with ⟨rfl, rfl⟩ | ⟨g, cap, cur, fz, rfl, hbg, hg, hfz, hnc, hcm, hcs, htake⟩
  · obtain ⟨v', w', r1, r2, r3, r4⟩ := run_append_own (P := P) w w.heap.size t ty e i z size bytes ht hi hz hsize hby hzs hsz (.slice none 0 0) 0 xs ⟨hown.1, .inl ⟨rfl, rfl⟩⟩ a m c news hl hnews h1 h63 hbytes (Nat.le_refl _)
    exact ⟨v', w', r1, Z2i (World.ownsRowF_of r2) hbase, r3, Z3e (World.ownsRowF_of r2)⟩
  · subst hsize
    subst hby
    have hsmall : n + m ≤ 9223372036854775807 := by simp only [maxLen] at h63; omega
    have hlen : (xs ++ news).length = (n + m) * i.size := by rw [List.length_append, hown.1, hl, Nat.add_mul]
    by_cases hroom : n + m ≤ cap
    · have hfit : n * i.size + news.length ≤ cur.size := by rw [hl, hcs, ← Nat.add_mul]; exact Nat.mul_le_mul_right _ hroom
      have hr := run_append_roomF (P := P) w t ty e i ht hi g n cap cur fz hg hfz a m c news hl hnews h1 hroom hfit
      refine ⟨_, _, hr, ⟨hlen, .inr ⟨g, cap, _, fz, rfl, hbg, setRow_heap w g cur _ e _ hg, Nat.le_trans hfz (Nat.mul_le_mul_right _ (Nat.le_add_right n m)), hroom, hcm, ?_, ?_⟩⟩, ⟨rfl, rfl, rfl, by simp, fun k _ hk => setRow_other w g k _ (fun e => hk (by simp [Value.ownBlock, e]))⟩, .inl rfl⟩
      · simp only [List.size_toArray, List.length_append, List.length_take, List.length_drop, Array.length_toList]
        omega
      · rw [htake, ← hlen]
        exact List.take_left
    · have holds : ∀ j u, xs[j]? = some u → w.cell? ((⟨g, 0, none⟩ : Addr).add j) = some u := hown.cells (g := g) rfl
      have hr := run_append_grow (P := P) w t ty e i z ht hi hz ⟨g, 0, none⟩ n cap xs hown.1 holds a m c news hl hnews (by omega) (by omega) (growslice_fits (by omega) hbytes)
      have hge := grownCap_ge w (n + m) cap e
      have hcm2 : grownCap w (n + m) cap e ≤ maxLen := grownCap_le_maxLen w (n + m) cap e h63
      refine ⟨_, _, hr, ⟨hlen, .inr ⟨w.heap.size, _, _, (0, 0), rfl, hbase, _root_.Go.heap_alloc_new w.drew _, Nat.zero_le _, hge, hcm2, ?_, ?_⟩⟩, ⟨rfl, rfl, rfl, by simp, fun k hk _ => _root_.Go.heap_alloc_old w.drew _ hk⟩, .inr ⟨_, rfl, Nat.le_refl _⟩⟩
      · simp only [Array.size_append, List.size_toArray, size_zeroCells, hzs, hown.1, hl, ← Nat.add_mul]
        congr 1
        omega
      · simp only [Array.toList_append, List.append_assoc]
        rw [← List.append_assoc, ← hlen]
        exact List.take_left

theorem Z1m {ops : Array Oper} {rest : List Oper} {o : Oper} {a : Act} {Q : Exit → Act → World → Prop} (hgd : o.guard = none) (s x : Operand) (t : TypeId)
    (ho : o.op = .call { callee := .builtin .append, args := #[s, x], argTypes := #[t, t] })
    (base : Nat) (e : TypeId) (i : TypeInfo) (z : Value) (size bytes : Nat) (ht : P.underlying t = some (.slice e)) (hi : P.info? e = some i) (hz : i.zero = some z)
    (hsize : i.size = size) (hby : i.bytes = bytes) (hzs : z.cells.size = size) (hsz : 0 < size)
    (v : Value) (n : Nat) (xs : List Value) (hs : a.eval s = v) (hown : w.ownsRowF base e size v n xs)
    (ad : Addr) (m c : Nat) (news : List Value) (hx : a.eval x = .slice (some ad) m c) (hl : news.length = m * size) (hnews : ∀ j u, news[j]? = some u → w.cell? (ad.add j) = some u) (h1 : ∀ u ∈ news, u.oneCell' = true)
    (h63 : n + m ≤ maxLen) (hbytes : (n + m) * bytes ≤ 140737488355328) (hbase : base ≤ w.heap.size)
    (h : ∀ v' w', w'.ownsRowF base e size v' (n + m) (xs ++ news) → w.grownBy w' v.ownBlock → (v'.ownBlock = v.ownBlock ∨ ∃ k, v'.ownBlock = some k ∧ w.heap.size ≤ k) → wpList P ops Q rest (a.put o.dst v') w') : wpList P ops Q (o :: rest) a w := by
  refine wpList_plain hgd fun K hK => ?_
  obtain ⟨v', w', hr, h2, h3, h4⟩ := Z1k (P := P) w base t o.type e i z size bytes ht hi hz hsize hby hzs hsz v n xs hown ad m c news hl hnews h1 h63 hbytes hbase
  unfold Oper.wp execOp
  simp only [ho, resolve, invoke, builtin, Sem.run_bind, Sem.run_pure, Result.andThen_ok, List.map_toArray, List.map_cons, List.map_nil, hs, hx, hr]
  exact hK _ _ (h v' w' h2 h3 h4)
end

/-- Blocks of one's own, and a row of one's own apart from them: n elements of c cells. -/
structure ORow (H : Nat) (A : World) (L : List BlkD) (e : TypeId) (c : Nat) (v : Value) (n : Nat) (cs : List Value) (w : World) : Prop where
  own : Own H A L w
  row : w.ownsRowF H e c v n cs
  apart : ∀ x ∈ L, v.ownBlock ≠ some x.1
/-- Blocks of other types than T stay as they are. -/
def KeepT (T : TypeId) (w w' : World) : Prop := ∀ k t cs, t ≠ T → Blk w k t cs → Blk w' k t cs
section
variable {H : Nat} {A w w' : World} {L L1 L2 : List BlkD} {e t T : TypeId} {c n m b : Nat} {v v' : Value} {xs ys : List Value} {cs cs' : Array Value}
theorem KeepT.refl (T : TypeId) (w : World) : KeepT T w w := fun _ _ _ _ h => h
theorem KeepT.of_ext (h : Ext w w') : KeepT T w w' := fun _ _ _ _ hb => hb.ext h
theorem ORow.start (h : Own H A L w) (e : TypeId) (c : Nat) : ORow H A L e c (.slice none 0 0) 0 [] w :=
  ⟨h, World.ownsRowF_nil w H e c, fun _ _ h => by simp [Value.ownBlock] at h⟩
theorem ORow.ext (h : ORow H A L e c v n xs w) (k : Ext w w') : ORow H A L e c v n xs w' :=
  ⟨h.own.ext k, h.row.kept (Z0u k none) (Classical.em _), h.apart⟩
theorem ORow.new (h : ORow H A L e c v n xs w) (t : TypeId) (cs : Array Value) : ORow H A ((w.heap.size, t, cs) :: L) e c v n xs (w.alloc (.cells cs t)) :=
  ⟨h.own.new t cs, h.row.kept (Z0u (Ext.alloc w _) none) (Classical.em _), fun x hx he => by
    rcases List.mem_cons.1 hx with rfl | hx
    · exact absurd (h.row.lt _ he).2 (by simp)
    · exact h.apart x hx he⟩
theorem ORow.put (h : ORow H A L e c v n xs w) (hL : L = L1 ++ (b, t, cs) :: L2) (cs' : Array Value) (hg : w.grownBy w' (some b)) (hb : Blk w' b t cs') : ORow H A (L1 ++ (b, t, cs') :: L2) e c v n xs w' := by
  refine ⟨h.own.put hL cs' hg hb, h.row.kept hg (.inr (h.apart (b, t, cs) (by rw [hL]; simp))), fun x hx => ?_⟩
  subst hL
  rcases List.mem_append.1 hx with hx | hx
  · exact h.apart x (by simp [hx])
  · rcases List.mem_cons.1 hx with rfl | hx
    · exact h.apart (b, t, cs) (by simp)
    · exact h.apart x (by simp [hx])
theorem ORow.set (h : ORow H A L e c v n xs w) (hL : L = L1 ++ (b, t, cs) :: L2) (i : Nat) (u : Value) : ORow H A (L1 ++ (b, t, cs.setIfInBounds i u) :: L2) e c v n xs (w.setCell ⟨b, i, none⟩ u) :=
  h.put hL _ (Z0e (World.grownBy.refl w _) (.inl rfl) u) ((h.own.all.mem (x := (b, t, cs)) (by rw [hL]; simp) : Blk w b t cs).set_ i u)
theorem ORow.grow (h : ORow H A L e c v n xs w) (h2 : w'.ownsRowF H e c v' m ys) (hg : w.grownBy w' v.ownBlock) (h4 : v'.ownBlock = v.ownBlock ∨ ∃ k, v'.ownBlock = some k ∧ w.heap.size ≤ k) : ORow H A L e c v' m ys w' := by
  refine ⟨?_, h2, fun x hx he => ?_⟩
  · cases hv : v.ownBlock with
    | none =>
      rw [hv] at hg
      exact h.own.ext ⟨hg.os, hg.tape, hg.output, hg.size, fun i hi => hg.block i hi (by simp)⟩
    | some g =>
      rw [hv] at hg
      exact h.own.far (h.row.lt g hv).1 (fun x hx e => h.apart x hx (by rw [hv, e])) hg
  · rcases h4 with h4 | ⟨k, h4, hk⟩
    · rw [h4] at he; exact h.apart x hx he
    · rw [h4] at he; injection he with he; have := h.own.lt hx; omega
theorem ORow.tail {x : BlkD} (h : ORow H A (x :: L) e c v n xs w) : ORow H A L e c v n xs w := ⟨h.own.tail, h.row, fun y hy => h.apart y (by simp [hy])⟩
theorem ORow.slice (h : ORow H A L e c v n xs w) : ∃ B cap, v = .slice B n cap := by
  rcases h.row.2 with ⟨rfl, rfl⟩ | ⟨g, cap, cur, fz, rfl, _⟩
  · exact ⟨none, 0, rfl⟩
  · exact ⟨some ⟨g, 0, none⟩, cap, rfl⟩
/-- It is a row of data. -/
theorem Z31 {E : Type} {enc : E → List Value} {c : Nat} (hc : ∀ x, (enc x).length = c) : ∀ (xs : List E) (i : Nat) (x : E) (j : Nat) (u : Value), xs[i]? = some x → (enc x)[j]? = some u → (xs.flatMap enc)[i * c + j]? = some u
  | [], i, x, j, u, h, _ => by simp at h
  | y :: ys, 0, x, j, u, h, hu => by
    simp at h
    subst h
    have hj : j < (enc y).length := (List.getElem?_eq_some_iff.1 hu).1
    rw [List.flatMap_cons, Nat.zero_mul, Nat.zero_add, List.getElem?_append_left hj]
    exact hu
  | y :: ys, i + 1, x, j, u, h, hu => by
    have := Z31 hc ys i x j u (by simpa using h) hu
    rw [List.flatMap_cons, List.getElem?_append_right (by rw [hc, Nat.add_mul]; omega), hc]
    rw [show (i + 1) * c + j - c = i * c + j by rw [Nat.add_mul]; omega]
    exact this
theorem ORow.rows {E : Type} {enc : E → List Value} {zs : List E} (h : ORow H A L e c v n (zs.flatMap enc) w) (hc : ∀ x, (enc x).length = c) (hn : zs.length = n) :
    ∃ B cap, v = .slice B n cap ∧ n ≤ cap ∧ cap ≤ maxLen ∧ Row w B c enc zs := by
  rcases h.row.2 with ⟨rfl, rfl⟩ | ⟨g, cap, cur, fz, rfl, hb, hg, hfz, hcap, hmax, hcs, ht⟩
  · refine ⟨none, 0, rfl, Nat.le_refl _, by decide, fun i x hx => ?_⟩
    have : zs = [] := List.length_eq_zero_iff.1 hn
    subst this
    simp at hx
  · refine ⟨some ⟨g, 0, none⟩, cap, rfl, hcap, hmax, fun i x hx => ⟨g, 0, rfl, (Array.getElem?_eq_some_iff.1 hg).1, fun j u hu => ?_⟩⟩
    have := h.row.cells (g := g) rfl (i * c + j) u (Z31 hc zs i x j u hx hu)
    have hadd : (⟨g, 0, none⟩ : Addr).add (i * c + j) = ⟨g, i * c + j, none⟩ := by unfold Addr.add; split <;> simp_all
    rw [hadd] at this
    rw [Nat.zero_add]
    exact this

variable {P : Program}
/-- append of elements that lie in a block. -/
theorem ORow.append {o : Oper} {a : Act} {K : Act → World → Prop} {Q : Exit → Act → World → Prop} (h : ORow H A L e c v n xs w) (s x : Operand) (t : TypeId)
    (ho : o.op = .call { callee := .builtin .append, args := #[s, x], argTypes := #[t, t] })
    (i : TypeInfo) (z : Value) (bytes : Nat) (ht : P.underlying t = some (.slice e)) (hi : P.info? e = some i) (hz : i.zero = some z)
    (hsize : i.size = c) (hby : i.bytes = bytes) (hzs : z.cells.size = c) (hsz : 0 < c)
    (hs : a.eval s = v) (g m cp : Nat) (news : List Value) (hx : a.eval x = .slice (some ⟨g, 0, none⟩) m cp) (tg : TypeId) (hb : Blk w g tg news.toArray) (hl : news.length = m * c) (h1 : ∀ u ∈ news, u.oneCell' = true)
    (h63 : n + m ≤ maxLen) (hbytes : (n + m) * bytes ≤ 140737488355328)
    (hk : ∀ v' w', ORow H A L e c v' (n + m) (xs ++ news) w' → w.grownBy w' v.ownBlock → K (a.put o.dst v') w') : o.wp P a w K Q := by
  obtain ⟨v', w', hr, h2, h3, h4⟩ := Z1k (P := P) w H t o.type e i z c bytes ht hi hz hsize hby hzs hsz v n xs h.row ⟨g, 0, none⟩ m cp news hl (fun j u hu => by
    have := hb.cell j
    have hadd : (⟨g, 0, none⟩ : Addr).add j = ⟨g, j, none⟩ := by unfold Addr.add; split <;> simp_all
    rw [hadd, this]
    simpa using hu) h1 h63 hbytes h.own.size
  unfold Oper.wp execOp
  simp only [ho, resolve, invoke, builtin, Sem.run_bind, Sem.run_pure, Result.andThen_ok, List.map_toArray, List.map_cons, List.map_nil, hs, hx, hr]
  exact hk _ _ (h.grow h2 h3 h4) h3
end
end Go.Proofs.Ytbfgacmfjfbooaa
