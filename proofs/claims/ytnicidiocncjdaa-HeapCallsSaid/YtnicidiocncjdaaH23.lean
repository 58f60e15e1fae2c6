/- Every row of calls, and every question. -/
import Derived.Test.YtnicidiocncjdaaH22
import Derived.Test.YtnicidiocncjdaaRows
import Derived.Test.YtnicidiocncjdaaSxRow
open Go Go.Sx Go.Proofs
open Go.ChangeShapes Go.WideShapes Go.ChangeAt Go.RowKit
set_option maxRecDepth 100000
namespace Go.Proofs.Ytnicidiocncjdaa

theorem Try.own : ownKnob Try.prog.godebug = none := by kernel_rfl
theorem Try.laidOut : laidOutB Try.prog = true := by kernel_rfl
theorem int_open {H : Type} {enc : TypeId × Value → H} {W : World} {base : Nat} {v : Value} {d : DataW H} {p : List MemPlace} (hv : Value.okWide Try.prog W .any base 3 v) (h : DataW.Trod enc Try.prog W 0 (fun _ => true) true 3 v d p) :
    ∃ x : JI, x.Ok ∧ (∀ n, Go.Sx.Good n x.t) ∧ ∀ ρ : Rho, val ρ x.t = v := by
  obtain ⟨u, h1, h2, h3⟩ := arg_flat (d := 3) (by kernel_rfl) hv h
  have h2' : ∃ m, u = .int .i64 m ∧ IntKind.i64.min ≤ m ∧ m ≤ IntKind.i64.max := @Eq.mp _ _ (by kernel_rfl) h1
  obtain ⟨m, rfl, b1⟩ := h2'
  exact ⟨⟨m⟩, fok_i64 b1, h2, h3⟩
theorem open_calls {f : Nat → T} {n : Nat} (h : ∀ j, j < n → FOk Try.prog 3 45 (f j)) :
    ∃ k q t : Nat → Int, ∀ j, j < n → f j = callT (k j) (q j) (t j) ∧ 0 ≤ t j ∧ t j < 18446744073709551616 := by
  have hex : ∀ j, ∃ p : Int × Int × Int, j < n → f j = callT p.1 p.2.1 p.2.2 ∧ 0 ≤ p.2.2 ∧ p.2.2 < 18446744073709551616 := fun j => by
    by_cases hj : j < n
    · have h1 := h j hj
      have h2 : ∃ a r, f j = .cons a r ∧ (∃ m, a = .int .i64 m ∧ IntKind.i64.min ≤ m ∧ m ≤ IntKind.i64.max) ∧ ∃ a2 r2, r = .cons a2 r2 ∧ (∃ m, a2 = .int .i64 m ∧ IntKind.i64.min ≤ m ∧ m ≤ IntKind.i64.max) ∧
          ∃ a3 r3, r2 = .cons a3 r3 ∧ (∃ m, a3 = .int .u64 m ∧ IntKind.u64.min ≤ m ∧ m ≤ IntKind.u64.max) ∧ r3 = .nil := @Eq.mp _ _ (by kernel_rfl) h1
      obtain ⟨_, _, e, ⟨m1, rfl, b1⟩, _, _, rfl, ⟨m2, rfl, b2⟩, _, _, rfl, ⟨m3, rfl, b3, b4⟩, rfl⟩ := h2
      exact ⟨(m1, m2, m3), fun _ => ⟨e, b3, Int.lt_of_le_of_lt b4 (by decide)⟩⟩
    · exact ⟨(0, 0, 0), fun h => absurd h hj⟩
  obtain ⟨g, hg⟩ := Classical.axiomOfChoice hex
  exact ⟨fun j => (g j).1, fun j => (g j).2.1, fun j => (g j).2.2, hg⟩
theorem hcs_open {H : Type} {enc : TypeId × Value → H} {W : World} {base : Nat} {v : Value} {d : DataW H} {p : List MemPlace} (hv : Value.okWide Try.prog W .any base 39 v) (h : DataW.Trod enc Try.prog W 0 (fun _ => true) true 39 v d p) (hw : 0 < W.heap.size) :
    ∃ (x : HCS) (pl : Nat × Nat), x.Ok ∧ pl.1 < W.heap.size ∧ (∀ ρ, Go.Sx.Holds ρ (wc W pl.1) (x.reg.c 0) pl.2) ∧ (∀ n, Go.Sx.Good n (x.reg.c 0)) ∧ x.reg.own = false ∧ ∀ (ρ : Rho) (r : Nat), ρ r 0 = pl → val ρ (x.v r) = v := by
  obtain ⟨b, len, cap, f, pl, h1, h2, h3, h4, h5, h6, rfl⟩ := arg_slice (d := 3) Try.underlying39 (by kernel_rfl) hv h hw
  obtain ⟨k, q, t, h8⟩ := open_calls (fun j hj => (h4 j hj).1)
  refine ⟨⟨b, len, cap, k, q, t⟩, pl, ⟨h1, fun j hj => (h8 j hj).2⟩, h5, fun ρ j hj => ?_, fun n j hj => ⟨rfl, trivial, trivial, trivial, trivial⟩, rfl, fun ρ r hr => ?_⟩
  · have hc : Try.prog.cellsOf 45 = 3 := by kernel_rfl
    have := h6 ρ j hj
    rw [(h8 j hj).1, hc] at this
    exact this
  · cases b
    · simp only [HCS.v, Sx.val, T.cv, cond_false, sc, pla, hr, off, Nat.zero_mul, Nat.add_zero]
    · rfl

theorem hq_spec (X : (HCS × JI)) (hX : (X.1.Ok ∧ X.2.Ok)) : Go.Sx.Spec Try.prog 5 (heapQP.args X) (heapQP.H X) (fun r _ => r = .ret .tt) :=
  @Pat.spec _ heapQP Try.prog (hq_C X) 5 Try.f5 (cfg_tab rfl tHq_ok) Try.func5 X (hq_al X).out (fun r _ => r = .ret .tt) ⟨hX, rfl⟩

set_option maxRecDepth 100000 in
theorem hq_lifted (os : Os) (started : os.Started) (H : Type) (enc : TypeId × Value → H) :
    ReturnsInHanded {} Try.checked os 5 .any (Rows.heapCallsSpec.pre6 enc Try.prog Try.f5 Rows.heapCallsRow.domain false) (Rows.heapCallsSpec.post enc Try.prog Try.f5 false true false false) := by
  refine returnsInHanded_of_change_shaped (C := Try.checked) Try.own started (by kernel_rfl) Try.func5
    (ChangeSpec.witness6 (enc := enc) (C := Try.checked) false ⟨#[], #[.slice none 0 0, .int .i64 0], []⟩ 8 (by kernel_rfl) (by kernel_rfl) (by kernel_rfl) (by kernel_rfl)) ?_
  intro W base args ds gs before hval hW hcnd _ hsh _
  have hsh : W.ShapedOpen Try.prog := hsh
  refine law_post (tb := 4) Try.laidOut rfl (of_decide_eq_true (by kernel_rfl)) rfl (by kernel_rfl) (fun ds hd => ?_) hW ?_
  · match ds, hd with
    | [a0, a1], _ => rfl
  · obtain ⟨p, q, hA, -⟩ := hW
    have hA : DataW.TrodAll enc Try.prog W 0 (fun _ => true) true [39, 3] args.toList ds p := hA
    obtain ⟨v0, v1, d0, d1, p0, p1, e1, rfl, -, h0, h1⟩ := trodAll_two hA
    have hv0 : Value.okWide Try.prog W .any base 39 v0 := hval 0 _ v0 rfl (by rw [e1]; rfl)
    have hv1 : Value.okWide Try.prog W .any base 3 v1 := hval 1 _ v1 rfl (by rw [e1]; rfl)
    obtain ⟨x, pl0, hx, hlt0, hh0, hg0, ho0, hvx0⟩ := hcs_open hv0 h0 (shaped_pos hsh)
    obtain ⟨a, ha, hg1, hvx1⟩ := int_open hv1 h1
    obtain ⟨hk, hown⟩ := hok_ro (W := W) [(x.reg, pl0)] (by
      intro y hy
      simp only [List.mem_cons, List.not_mem_nil, or_false] at hy
      rcases hy with rfl
      · exact ⟨ho0, rfl, hg0, hlt0, hh0⟩)
    exact ⟨_, _, heapQP.args (x, a), hk, hown, by rw [e1]; show [_, _] = _; rw [hvx0 _ 0 rfl, hvx1], by
      intro t ht
      simp only [heapQP, List.mem_cons, List.not_mem_nil, or_false] at ht
      rcases ht with rfl | rfl
      · exact ⟨rfl, fun _ => trivial, fun _ => (show (0 : Nat) < 1 from by decide)⟩
      · exact hg1 _, hq_spec (x, a) ⟨hx, ha⟩⟩

theorem hq_holds : Rows.HeapCallsSaid :=
  OpenClaim.holds_of_wide 5 Try.f5 rfl rfl rfl rfl rfl rfl rfl ⟨rfl, rfl, rfl, rfl, rfl⟩ rfl rfl rfl rfl rfl (by kernel_rfl) Try.func5 (by kernel_rfl)
    (of_decide_eq_true (by kernel_rfl)) (by unfold Func.isWrapper; first | (rw [if_pos (by decide +kernel)]; kernel_rfl) | (rw [if_neg (by decide +kernel)]; exact ⟨rfl, rfl⟩))
    (fun os started H enc _ => hq_lifted os started H enc)

end Go.Proofs.Ytnicidiocncjdaa
