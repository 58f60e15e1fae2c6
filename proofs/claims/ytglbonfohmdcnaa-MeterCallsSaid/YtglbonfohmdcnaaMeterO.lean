import Derived.Test.YtglbonfohmdcnaaMeterC
import Derived.Test.YtglbonfohmdcnaaRows
open Go Go.Sx Go.Proofs
open Go.ChangeShapes Go.WideShapes Go.ChangeAt Go.RowKit
set_option maxRecDepth 100000
namespace Go.Proofs.Ytglbonfohmdcnaa

theorem Try.own : ownKnob Try.prog.godebug = none := by kernel_rfl
theorem Try.laidOut : laidOutB Try.prog = true := by kernel_rfl

/-- A row of calls, read. -/
theorem open_calls {f : Nat → T} {n : Nat} (h : ∀ j, j < n → FOk Try.prog 3 35 (f j)) :
    ∃ core kind times : Nat → Int, ∃ wait : Nat → Bool, (∀ j, i64 (core j) ∧ i64 (kind j) ∧ u64 (times j)) ∧
      ∀ j, j < n → f j = .cons (.int .i64 (core j)) (.cons (.int .i64 (kind j)) (.cons (.int .u64 (times j)) (.cons (.bool (wait j)) .nil))) := by
  have hex : ∀ j, ∃ p : Int × Int × Int × Bool, (i64 p.1 ∧ i64 p.2.1 ∧ u64 p.2.2.1) ∧ (j < n → f j = .cons (.int .i64 p.1) (.cons (.int .i64 p.2.1) (.cons (.int .u64 p.2.2.1) (.cons (.bool p.2.2.2) .nil)))) := fun j => by
    by_cases hj : j < n
    · have h1 := h j hj
      have h2 : ∃ a r, f j = .cons a r ∧ (∃ m, a = .int .i64 m ∧ IntKind.i64.min ≤ m ∧ m ≤ IntKind.i64.max) ∧ ∃ a2 r2, r = .cons a2 r2 ∧ (∃ m, a2 = .int .i64 m ∧ IntKind.i64.min ≤ m ∧ m ≤ IntKind.i64.max) ∧
          ∃ a3 r3, r2 = .cons a3 r3 ∧ (∃ m, a3 = .int .u64 m ∧ IntKind.u64.min ≤ m ∧ m ≤ IntKind.u64.max) ∧ ∃ a4 r4, r3 = .cons a4 r4 ∧ (∃ b, a4 = .bool b) ∧ r4 = .nil := @Eq.mp _ _ (by kernel_rfl) h1
      obtain ⟨_, _, e, ⟨m1, rfl, b1⟩, _, _, rfl, ⟨m2, rfl, b2⟩, _, _, rfl, ⟨m3, rfl, b3⟩, _, _, rfl, ⟨b, rfl⟩, rfl⟩ := h2
      exact ⟨(m1, m2, m3, b), ⟨fok_i64 b1, fok_i64 b2, fok_u64 b3⟩, fun _ => e⟩
    · exact ⟨(0, 0, 0, false), ⟨⟨by decide, by decide⟩, ⟨by decide, by decide⟩, ⟨by decide, by decide⟩⟩, fun h => absurd h hj⟩
  obtain ⟨g, hg⟩ := Classical.axiomOfChoice hex
  exact ⟨fun j => (g j).1, fun j => (g j).2.1, fun j => (g j).2.2.1, fun j => (g j).2.2.2, fun j => (hg j).1, fun j => (hg j).2⟩

theorem cs_open {H : Type} {enc : TypeId × Value → H} {W : World} {base : Nat} {v : Value} {d : DataW H} {p : List MemPlace} (hv : Value.okWide Try.prog W .any base 22 v) (h : DataW.Trod enc Try.prog W 0 (fun _ => true) true 22 v d p) (hw : 0 < W.heap.size) :
    ∃ (x : CS) (pl : Nat × Nat), x.Ok ∧ pl.1 < W.heap.size ∧ (∀ ρ, Holds ρ (wc W pl.1) (x.reg.c 0) pl.2) ∧ (∀ n, Go.Sx.Good n (x.reg.c 0)) ∧ x.reg.own = false ∧ ∀ (ρ : Rho) (r : Nat), ρ r 0 = pl → val ρ (x.t r) = v := by
  obtain ⟨b, len, cap, f, pl, h1, h2, h3, h4, h5, h6, rfl⟩ := arg_slice (d := 3) Try.underlying22 (by kernel_rfl) hv h hw
  obtain ⟨core, kind, times, wait, h7, h8⟩ := open_calls (fun j hj => (h4 j hj).1)
  refine ⟨⟨b, len, cap, core, kind, times, wait⟩, pl, ⟨h1, h2, h7⟩, h5, fun ρ j hj => ?_, fun n j hj => ⟨rfl, trivial, trivial, trivial, trivial, trivial⟩, rfl, fun ρ r hr => ?_⟩
  · have hc : Try.prog.cellsOf 35 = 4 := by kernel_rfl
    have := h6 ρ j hj
    rw [h8 j hj, hc] at this
    exact this
  · cases b
    · simp only [CS.t, Sx.val, T.cv, cond_false, sc, pla, hr, off, Nat.zero_mul, Nat.add_zero]
    · rfl



/-- A row of answers, read. -/
theorem ws_open {H : Type} {enc : TypeId × Value → H} {W : World} {base : Nat} {v : Value} {d : DataW H} {p : List MemPlace} (hv : Value.okWide Try.prog W .any base 23 v) (h : DataW.Trod enc Try.prog W 0 (fun _ => true) true 23 v d p) (hw : 0 < W.heap.size) :
    ∃ (x : WS) (pl : Nat × Nat), (x.nil = true → x.len = 0) ∧ pl.1 < W.heap.size ∧ (∀ ρ, Holds ρ (wc W pl.1) (x.reg.c 0) pl.2) ∧ (∀ n, Go.Sx.Good n (x.reg.c 0)) ∧ x.reg.own = false ∧ ∀ (ρ : Rho) (r : Nat), ρ r 0 = pl → val ρ (x.t r) = v := by
  obtain ⟨b, len, cap, f, pl, h1, h2, h3, h4, h5, h6, rfl⟩ := arg_slice (d := 1) Try.underlying23 (by kernel_rfl) hv h hw
  have hex : ∀ j, ∃ b : Bool, j < len → f j = .bool b := fun j => by
    by_cases hj : j < len
    · have h1 : ∃ b, f j = .bool b := @Eq.mp _ _ (by kernel_rfl) (h4 j hj).1
      obtain ⟨b, e⟩ := h1
      exact ⟨b, fun _ => e⟩
    · exact ⟨false, fun h => absurd h hj⟩
  obtain ⟨g, hg⟩ := Classical.axiomOfChoice hex
  refine ⟨⟨b, len, cap, g⟩, pl, h1, h5, fun ρ j hj => ?_, fun n j hj => ⟨rfl, trivial⟩, rfl, fun ρ r hr => ?_⟩
  · have hc : Try.prog.cellsOf 4 = 1 := by kernel_rfl
    have := h6 ρ j hj
    rw [hg j hj, hc] at this
    exact this
  · cases b
    · simp only [WS.t, Sx.val, T.cv, cond_false, sc, pla, hr, off, Nat.zero_mul, Nat.add_zero]
    · rfl
end Go.Proofs.Ytglbonfohmdcnaa
