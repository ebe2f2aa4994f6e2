/- The store as things: its block, the committed pages, the new ones. -/
import Derived.Test.YtakkhglbdljfiaaGreatDoorKStoreShadows13
import Derived.Test.YtakkhglbdljfiaaGreatDoorKStoreShadows15
import Derived.Test.YtakkhglbdljfiaaGreatDoorKStoreShadows25
import Derived.Test.YtakkhglbdljfiaaGreatDoorKStoreShadows27
namespace Go.Proofs.YtakkhglbdljfiaaGreatDoor
set_option linter.unusedVariables false
set_option linter.unusedSimpArgs false
open Go.RowKit Go.Maps Go.Sort

/-- A head's fields. -/
structure Hd where
  g : Int
  r : Int
  a : Int
  b : Int
  c : Int
abbrev Hd.v (h : Hd) : Value := headV h.g h.r h.a h.b h.c
def keptV (K : Int → Bool) : Int → Option Value := fun i => if K i then some (.bool true) else none
theorem Z8b (K : Int → Bool) (i : Int) : (keptV K i).isSome = K i := by
  unfold keptV
  cases K i <;> rfl
theorem keptV_get (K : Int → Bool) (i : Int) : (keptV K i).getD (.bool false) = .bool (K i) := by
  unfold keptV
  cases K i <;> rfl
theorem keptV_put (K : Int → Bool) (c : Int) : putV (keptV K) c (.bool true) = keptV (fun i => K i || decide (i = c)) := by
  funext i
  unfold putV keptV
  by_cases e : i = c
  · subst e; simp
  · simp [e]
theorem keptV_none : keptV (fun _ => false) = fun _ => none := rfl
abbrev pgs (n : Nat) : Nat := min (n / 16) 512
/-- What a store says: which pages are committed, which are new; the new ones' nodes lie in a pool. -/
structure StOk (P : Nat) (K : Int → Bool) (F : Int → Option Nd) (vs : List Value) (N : List Nd) (m : Int → Option Value) : Prop where
  le : P ≤ 512
  kr : ∀ c, K c = true → 1 ≤ c ∧ c < P
  fr : ∀ c nd, F c = some nd → 1 ≤ c ∧ c < P
  fg : ∀ c nd, F c = some nd → goodB nd.1 nd.2 = true ∧ ∀ x ∈ nd.2, x.1 < 18446744073709551616 ∧ x.2 < 18446744073709551616
  fm : ∀ c, F c = none → m c = none
  fs : ∀ c nd, F c = some nd → ∃ (i : Nat) (B : Option Addr) (cap : Nat), vs[i]? = some (.slice B nd.2.length cap) ∧ N[i]? = some nd ∧ m c = some (.agg #[.int .i64 (nd.1 : Nat), .slice B nd.2.length cap])
abbrev stB (p : Nat) (h : Hd) (at_ : Int) (kb fb : Nat) : Array Value := #[.pointer (some ⟨p, 0, none⟩), .int .u64 h.g, .int .i64 h.r, .int .i64 h.a, .int .i64 h.b, .int .i64 h.c, .int .i64 at_, .map (some kb), .map (some fb)]
abbrev stL (sb p : Nat) (h : Hd) (at_ : Int) (kb fb : Nat) (K : Int → Bool) (m : Int → Option Value) (vs : List Value) (N : List Nd) (R : List Thing) : List Thing :=
  tBlk sb 102 #[.pointer (some ⟨p, 0, none⟩), .int .u64 h.g, .int .i64 h.r, .int .i64 h.a, .int .i64 h.b, .int .i64 h.c, .int .i64 at_, .map (some kb), .map (some fb)] :: tMap kb 512 (keptV K) :: tMap fb 512 m :: tPool vs N :: R
/-- What is read of a store. -/
structure StR (sb p : Nat) (h : Hd) (at_ : Int) (kb fb : Nat) (K : Int → Bool) (m : Int → Option Value) (w : World) : Prop where
  blk : Blk w sb 102 (stB p h at_ kb fb)
  km : VM w kb 512 (keptV K)
  fm : VM w fb 512 m
section
variable {H : Nat} {A w w' : World} {R : List Thing} {sb p kb fb P : Nat} {h : Hd} {at_ : Int} {K : Int → Bool} {F : Int → Option Nd} {m : Int → Option Value} {vs : List Value} {N : List Nd}
theorem OwnT.stR (O : OwnT H A (stL sb p h at_ kb fb K m vs N R) w) : StR sb p h at_ kb fb K m w := ⟨O.all.1, O.all.2.1, O.all.2.2.1⟩
theorem StR.ext (h1 : StR sb p h at_ kb fb K m w) (k : Ext w w') : StR sb p h at_ kb fb K m w' := ⟨h1.blk.ext k, h1.km.ext k, h1.fm.ext k⟩
theorem StOk.isSome (s : StOk P K F vs N m) (c : Int) : (m c).isSome = (F c).isSome := by
  cases hF : F c with
  | none => rw [s.fm c hF]; rfl
  | some nd =>
    obtain ⟨i, B, cap, _, _, e⟩ := s.fs c nd hF
    rw [e]
    rfl
theorem StOk.wf (s : StOk P K F vs N m) {c : Int} (hc : 1 ≤ c ∧ c < P) : wfV c := Z3r (by omega) (by have := s.le; omega)
theorem Z26 (w : World) : (zeroValue 47).run Tryz.prog w = .ok (.agg #[.int .i64 0, .slice none 0 0]) w := by kernel_rfl
theorem Z4y (w : World) : (zeroValue 4).run Tryz.prog w = .ok (.bool false) w := by kernel_rfl
theorem x_lenM {o : Oper} {ρ : Operand → Value} {x : Operand} {t e : TypeId} {b n : Nat} {m : Int → Option Value} (hM : VM w b n m) (ho : o.op = .call { callee := .builtin .len, args := #[x], argTypes := #[t] }) (hx : ρ x = .map (some b)) (ht : Tryz.prog.underlying t = some (.map 3 e)) (L : List Int) (hnd : L.Nodup) (hL : ∀ x, x ∈ L ↔ wfV x ∧ (m x).isSome = true) :
    (execOp ρ o).run Tryz.prog w = .ok (.value (.int .i64 (L.length : Nat))) w := by
  obtain ⟨D, hown, hD⟩ := hM
  have hp := Z3m hown hD L hnd hL
  have hs : Maps.size D = L.length := by
    rw [hp.length_eq]
    obtain ⟨es, rfl, _⟩ := hown.tidy Z1f
    show es.length = (es.map _).length
    rw [List.length_map]
  have h1 := hown.len ht o.type
  rw [hs] at h1
  unfold execOp
  simp only [ho, resolve, invoke, builtin, Sem.run_bind, Sem.run_pure, Result.andThen_ok, List.map_toArray, List.map_cons, List.map_nil, hx]
  exact congrArg (Result.andThen · _) h1
/-- How many pages are committed, how many are new. -/
def kL (P : Nat) (K : Int → Bool) : List Int := riseN P K
def fL (P : Nat) (F : Int → Option Nd) : List Int := riseN P fun i => (F i).isSome
theorem kL_mem (s : StOk P K F vs N m) (x : Int) : x ∈ kL P K ↔ wfV x ∧ (keptV K x).isSome = true := by
  unfold kL
  rw [Z2c, Z8b]
  constructor
  · rintro ⟨h1, h2⟩
    have := s.le
    exact ⟨Z3r (by omega) (by omega), h2⟩
  · rintro ⟨_, h2⟩
    have := s.kr x h2
    exact ⟨by omega, h2⟩
theorem fL_mem (s : StOk P K F vs N m) (x : Int) : x ∈ fL P F ↔ wfV x ∧ (m x).isSome = true := by
  unfold fL
  rw [Z2c, s.isSome]
  constructor
  · rintro ⟨h1, h2⟩
    have := s.le
    exact ⟨Z3r (by omega) (by omega), h2⟩
  · rintro ⟨_, h2⟩
    obtain ⟨nd, hn⟩ := Option.isSome_iff_exists.1 h2
    have := s.fr x nd hn
    exact ⟨by omega, h2⟩
/-- A new page's node in memory. -/
theorem StOk.node (s : StOk P K F vs N m) (hp : (tPool vs N).holds w) {c : Int} {nd : Nd} (hc : F c = some nd) : ∃ (B : Option Addr) (cap : Nat), m c = some (.agg #[.int .i64 (nd.1 : Nat), .slice B nd.2.length cap]) ∧ nd.2.length ≤ cap ∧ cap ≤ maxLen ∧ Row w B 2 pairC nd.2 ∧ SlB B cap nd.2 := by
  obtain ⟨i, B, cap, h1, h2, h3⟩ := s.fs c nd hc
  obtain ⟨B', cap', e, g1, g2, g3, g4⟩ := Z85 (hp.2 i _ nd h1 h2)
  cases e
  exact ⟨B, cap, h3, g1, g2, g3, g4⟩
end
end Go.Proofs.YtakkhglbdljfiaaGreatDoor
