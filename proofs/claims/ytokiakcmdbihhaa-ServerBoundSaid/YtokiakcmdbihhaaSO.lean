import Derived.Test.YtokiakcmdbihhaaS16
import Derived.Test.YtokiakcmdbihhaaSxRow
import Derived.Test.YtokiakcmdbihhaaRows
open Go Go.Sx Go.Proofs
open Go.ChangeShapes Go.WideShapes Go.ChangeAt Go.RowKit
set_option maxRecDepth 100000
namespace Go.Proofs.Ytokiakcmdbihhaa

theorem Try.own : ownKnob Try.prog.godebug = none := by kernel_rfl
theorem Try.laidOut : laidOutB Try.prog = true := by kernel_rfl
theorem u64_open {H : Type} {enc : TypeId × Value → H} {W : World} {base : Nat} {v : Value} {d : DataW H} {p : List MemPlace} (hv : Value.okWide Try.prog W .any base 22 v) (h : DataW.Trod enc Try.prog W 0 (fun _ => true) true 22 v d p) :
    ∃ x : A64, x.Ok ∧ (∀ n, Go.Sx.Good n x.t) ∧ ∀ ρ : Rho, val ρ x.t = v := by
  obtain ⟨u, h1, h2, h3⟩ := arg_flat (d := 3) (by kernel_rfl) hv h
  have h2' : ∃ m, u = .int .u64 m ∧ IntKind.u64.min ≤ m ∧ m ≤ IntKind.u64.max := @Eq.mp _ _ (by kernel_rfl) h1
  obtain ⟨m, rfl, b1⟩ := h2'
  exact ⟨⟨m⟩, fok_u64 b1, h2, h3⟩
theorem int_open {H : Type} {enc : TypeId × Value → H} {W : World} {base : Nat} {v : Value} {d : DataW H} {p : List MemPlace} (hv : Value.okWide Try.prog W .any base 3 v) (h : DataW.Trod enc Try.prog W 0 (fun _ => true) true 3 v d p) :
    ∃ x : AI, x.Ok ∧ (∀ n, Go.Sx.Good n x.t) ∧ ∀ ρ : Rho, val ρ x.t = v := by
  obtain ⟨u, h1, h2, h3⟩ := arg_flat (d := 3) (by kernel_rfl) hv h
  have h2' : ∃ m, u = .int .i64 m ∧ IntKind.i64.min ≤ m ∧ m ≤ IntKind.i64.max := @Eq.mp _ _ (by kernel_rfl) h1
  obtain ⟨m, rfl, b1⟩ := h2'
  exact ⟨⟨m⟩, fok_i64 b1, h2, h3⟩
theorem open_calls {f : Nat → T} {n : Nat} (h : ∀ j, j < n → FOk Try.prog 3 32 (f j)) :
    ∃ w a c : Nat → Int, ∀ j, j < n → f j = clT (w j) (a j) (c j) ∧ u64 (a j) ∧ u64 (c j) := by
  have hex : ∀ j, ∃ p : Int × Int × Int, j < n → f j = clT p.1 p.2.1 p.2.2 ∧ u64 p.2.1 ∧ u64 p.2.2 := fun j => by
    by_cases hj : j < n
    · have h1 := h j hj
      have h2 : ∃ a r, f j = .cons a r ∧ (∃ m, a = .int .i64 m ∧ IntKind.i64.min ≤ m ∧ m ≤ IntKind.i64.max) ∧ ∃ a2 r2, r = .cons a2 r2 ∧ (∃ m, a2 = .int .u64 m ∧ IntKind.u64.min ≤ m ∧ m ≤ IntKind.u64.max) ∧
          ∃ a3 r3, r2 = .cons a3 r3 ∧ (∃ m, a3 = .int .u64 m ∧ IntKind.u64.min ≤ m ∧ m ≤ IntKind.u64.max) ∧ r3 = .nil := @Eq.mp _ _ (by kernel_rfl) h1
      obtain ⟨_, _, e, ⟨m1, rfl, b1⟩, _, _, rfl, ⟨m2, rfl, b2⟩, _, _, rfl, ⟨m3, rfl, b3⟩, rfl⟩ := h2
      exact ⟨(m1, m2, m3), fun _ => ⟨e, fok_u64 b2, fok_u64 b3⟩⟩
    · exact ⟨(0, 0, 0), fun h => absurd h hj⟩
  obtain ⟨g, hg⟩ := Classical.axiomOfChoice hex
  exact ⟨fun j => (g j).1, fun j => (g j).2.1, fun j => (g j).2.2, hg⟩
theorem cs_open {H : Type} {enc : TypeId × Value → H} {W : World} {base : Nat} {v : Value} {d : DataW H} {p : List MemPlace} (hv : Value.okWide Try.prog W .any base 23 v) (h : DataW.Trod enc Try.prog W 0 (fun _ => true) true 23 v d p) (hw : 0 < W.heap.size) :
    ∃ (x : CS) (pl : Nat × Nat), x.Ok ∧ pl.1 < W.heap.size ∧ (∀ ρ, Holds ρ (wc W pl.1) (x.reg.c 0) pl.2) ∧ (∀ n, Go.Sx.Good n (x.reg.c 0)) ∧ x.reg.own = false ∧ ∀ (ρ : Rho) (r : Nat), ρ r 0 = pl → val ρ (x.v r) = v := by
  obtain ⟨b, len, cap, f, pl, h1, h2, h3, h4, h5, h6, rfl⟩ := arg_slice (d := 3) Try.underlying23 (by kernel_rfl) hv h hw
  obtain ⟨k, q, t, h8⟩ := open_calls (fun j hj => (h4 j hj).1)
  refine ⟨⟨b, 0, len, cap, len, k, q, t⟩, pl, ⟨h1, by show 0 + len ≤ len; omega, fun j hj => by have hj : j < len := hj; dsimp only; rw [Nat.zero_add]; exact (h8 j hj).2⟩, h5, fun ρ j hj => ?_, fun n j hj => ⟨rfl, trivial, trivial, trivial, trivial⟩, rfl, fun ρ r hr => ?_⟩
  · have hc : Try.prog.cellsOf 32 = 3 := by kernel_rfl
    have := h6 ρ j hj
    rw [(h8 j hj).1, hc] at this
    exact this
  · cases b
    · simp only [CS.v, Sx.val, T.cv, cond_false, sc, pla, hr, off, Nat.zero_mul, Nat.add_zero]
    · rfl
end Go.Proofs.Ytokiakcmdbihhaa
