/- A key that is changed is as if it had been pushed so. -/
import Derived.Test.YtnicidiocncjdaaH18
import Derived.Test.YtnicidiocncjdaaSxRow
import Derived.Test.YtnicidiocncjdaaRows
open Go Go.Sx Go.Proofs
open Go.ChangeShapes Go.WideShapes Go.ChangeAt Go.RowKit
set_option maxRecDepth 100000
namespace Go.Proofs.Ytnicidiocncjdaa

theorem Try.own : ownKnob Try.prog.godebug = none := by kernel_rfl
theorem Try.laidOut : laidOutB Try.prog = true := by kernel_rfl
theorem open_u64s {f : Nat → T} {n : Nat} (h : ∀ j, j < n → FOk Try.prog 3 28 (f j)) :
    ∃ g : Nat → Int, ∀ j, j < n → f j = .int .u64 (g j) ∧ 0 ≤ g j ∧ g j < 18446744073709551616 := by
  have hex : ∀ j, ∃ p : Int, j < n → f j = .int .u64 p ∧ 0 ≤ p ∧ p < 18446744073709551616 := fun j => by
    by_cases hj : j < n
    · have h1 := h j hj
      have h2 : ∃ m, f j = .int .u64 m ∧ IntKind.u64.min ≤ m ∧ m ≤ IntKind.u64.max := @Eq.mp _ _ (by kernel_rfl) h1
      obtain ⟨m, e, b1, b2⟩ := h2
      exact ⟨m, fun _ => ⟨e, b1, Int.lt_of_le_of_lt b2 (by decide)⟩⟩
    · exact ⟨0, fun h => absurd h hj⟩
  obtain ⟨g, hg⟩ := Classical.axiomOfChoice hex
  exact ⟨g, hg⟩
theorem ks_open {H : Type} {enc : TypeId × Value → H} {W : World} {base : Nat} {v : Value} {d : DataW H} {p : List MemPlace} (hv : Value.okWide Try.prog W .any base 22 v) (h : DataW.Trod enc Try.prog W 0 (fun _ => true) true 22 v d p) (hw : 0 < W.heap.size) :
    ∃ (x : KS) (pl : Nat × Nat), x.Ok ∧ pl.1 < W.heap.size ∧ (∀ ρ, Go.Sx.Holds ρ (wc W pl.1) (x.reg.c 0) pl.2) ∧ (∀ n, Go.Sx.Good n (x.reg.c 0)) ∧ x.reg.own = false ∧ ∀ (ρ : Rho) (r : Nat), ρ r 0 = pl → val ρ (x.v r) = v := by
  obtain ⟨b, len, cap, f, pl, h1, h2, h3, h4, h5, h6, rfl⟩ := arg_slice (d := 3) Try.underlying22 (by kernel_rfl) hv h hw
  obtain ⟨g, h8⟩ := open_u64s (fun j hj => (h4 j hj).1)
  refine ⟨⟨b, len, cap, g⟩, pl, ⟨h1, fun j hj => (h8 j hj).2⟩, h5, fun ρ j hj => ?_, fun n j hj => ⟨rfl, trivial⟩, rfl, fun ρ r hr => ?_⟩
  · have hc : Try.prog.cellsOf 28 = 1 := by kernel_rfl
    have := h6 ρ j hj
    rw [(h8 j hj).1, hc] at this
    exact this
  · cases b
    · simp only [KS.v, Sx.val, T.cv, cond_false, sc, pla, hr, off, Nat.zero_mul, Nat.add_zero]
    · rfl
theorem jj_open {H : Type} {enc : TypeId × Value → H} {W : World} {base : Nat} {v : Value} {d : DataW H} {p : List MemPlace} (hv : Value.okWide Try.prog W .any base 3 v) (h : DataW.Trod enc Try.prog W 0 (fun _ => true) true 3 v d p) :
    ∃ x : JJ, x.Ok ∧ (∀ n, Go.Sx.Good n x.t) ∧ ∀ ρ : Rho, val ρ x.t = v := by
  obtain ⟨u, h1, h2, h3⟩ := arg_flat (d := 3) (by kernel_rfl) hv h
  have h2' : ∃ m, u = .int .i64 m ∧ IntKind.i64.min ≤ m ∧ m ≤ IntKind.i64.max := @Eq.mp _ _ (by kernel_rfl) h1
  obtain ⟨m, rfl, b1⟩ := h2'
  exact ⟨⟨m⟩, fok_i64 b1, h2, h3⟩
theorem ju_open {H : Type} {enc : TypeId × Value → H} {W : World} {base : Nat} {v : Value} {d : DataW H} {p : List MemPlace} (hv : Value.okWide Try.prog W .any base 28 v) (h : DataW.Trod enc Try.prog W 0 (fun _ => true) true 28 v d p) :
    ∃ x : JU, x.Ok ∧ (∀ n, Go.Sx.Good n x.t) ∧ ∀ ρ : Rho, val ρ x.t = v := by
  obtain ⟨u, h1, h2, h3⟩ := arg_flat (d := 3) (by kernel_rfl) hv h
  have h2' : ∃ m, u = .int .u64 m ∧ IntKind.u64.min ≤ m ∧ m ≤ IntKind.u64.max := @Eq.mp _ _ (by kernel_rfl) h1
  obtain ⟨m, rfl, b1⟩ := h2'
  exact ⟨⟨m⟩, fok_u64 b1, h2, h3⟩
def heapCaP : Pat (KS × JJ × JU) where
  view _ _ := none
  args x := [x.1.v 0, x.2.1.t, x.2.2.t]
  H x := [x.1.reg]
  out x := .need (x.1.Ok ∧ x.2.1.Ok ∧ x.2.2.Ok) (.retq .tt)
theorem hca_spec (X : KS × JJ × JU) (hX : X.1.Ok ∧ X.2.1.Ok ∧ X.2.2.Ok) : Go.Sx.Spec Try.prog 4 (heapCaP.args X) (heapCaP.H X) (fun r _ => r = .ret .tt) := by
  by_cases h : X.1.len = 1
  · exact @Pat.spec _ heapC1P Try.prog (hc1_C X) 4 Try.f4 (cfg_tab rfl tHc1_ok) Try.func4 X (hc1_al X).out (fun r _ => r = .ret .tt) ⟨⟨hX.1, hX.2.1, hX.2.2, h⟩, rfl⟩
  · exact @Pat.spec _ heapCP Try.prog (hc_C X) 4 Try.f4 (cfg_tab rfl tHc_ok) Try.func4 X (hc_al X).out (fun r _ => r = .ret .tt) ⟨⟨hX.1, hX.2.1, hX.2.2, h⟩, rfl⟩

set_option maxRecDepth 100000 in
theorem hca_lifted (os : Os) (started : os.Started) (H : Type) (enc : TypeId × Value → H) :
    ReturnsInHanded {} Try.checked os 4 .any (Rows.heapChangesSpec.pre6 enc Try.prog Try.f4 Rows.heapChangesRow.domain false) (Rows.heapChangesSpec.post enc Try.prog Try.f4 false true false false) := by
  refine returnsInHanded_of_change_shaped (C := Try.checked) Try.own started (by kernel_rfl) Try.func4
    (ChangeSpec.witness6 (enc := enc) (C := Try.checked) false ⟨#[], #[.slice none 0 0, .int .i64 0, .int .u64 0], []⟩ 8 (by kernel_rfl) (by kernel_rfl) (by kernel_rfl) (by kernel_rfl)) ?_
  intro W base args ds gs before hval hW hcnd _ hsh _
  have hsh : W.ShapedOpen Try.prog := hsh
  refine law_post (tb := 4) Try.laidOut rfl (of_decide_eq_true (by kernel_rfl)) rfl (by kernel_rfl) (fun ds hd => ?_) hW ?_
  · match ds, hd with
    | [a0, a1, a2], _ => rfl
  · obtain ⟨p, q, hA, -⟩ := hW
    have hA : DataW.TrodAll enc Try.prog W 0 (fun _ => true) true [22, 3, 28] args.toList ds p := hA
    obtain ⟨v0, v1, v2, d0, d1, d2, p0, p1, p2, e1, rfl, -, h0, h1, h2⟩ := trodAll_three hA
    have hv0 : Value.okWide Try.prog W .any base 22 v0 := hval 0 _ v0 rfl (by rw [e1]; rfl)
    have hv1 : Value.okWide Try.prog W .any base 3 v1 := hval 1 _ v1 rfl (by rw [e1]; rfl)
    have hv2 : Value.okWide Try.prog W .any base 28 v2 := hval 2 _ v2 rfl (by rw [e1]; rfl)
    obtain ⟨x, pl0, hx, hlt0, hh0, hg0, ho0, hvx0⟩ := ks_open hv0 h0 (shaped_pos hsh)
    obtain ⟨a, ha, hg1, hvx1⟩ := jj_open hv1 h1
    obtain ⟨q, hq, hg2, hvx2⟩ := ju_open hv2 h2
    obtain ⟨hk, hown⟩ := hok_ro (W := W) [(x.reg, pl0)] (by
      intro y hy
      simp only [List.mem_cons, List.not_mem_nil, or_false] at hy
      rcases hy with rfl
      · exact ⟨ho0, rfl, hg0, hlt0, hh0⟩)
    exact ⟨_, _, heapCaP.args (x, a, q), hk, hown, by rw [e1]; show [_, _, _] = _; rw [hvx0 _ 0 rfl, hvx1, hvx2], by
      intro t ht
      simp only [heapCaP, List.mem_cons, List.not_mem_nil, or_false] at ht
      rcases ht with rfl | rfl | rfl
      · exact ⟨rfl, fun _ => trivial, fun _ => (show (0 : Nat) < 1 from by decide)⟩
      · exact hg1 _
      · exact hg2 _, hca_spec (x, a, q) ⟨hx, ha, hq⟩⟩

theorem hca_holds : Rows.HeapChangesSaid :=
  OpenClaim.holds_of_wide 4 Try.f4 rfl rfl rfl rfl rfl rfl rfl ⟨rfl, rfl, rfl, rfl, rfl⟩ rfl rfl rfl rfl rfl (by kernel_rfl) Try.func4 (by kernel_rfl)
    (of_decide_eq_true (by kernel_rfl)) (by unfold Func.isWrapper; first | (rw [if_pos (by decide +kernel)]; kernel_rfl) | (rw [if_neg (by decide +kernel)]; exact ⟨rfl, rfl⟩))
    (fun os started H enc _ => hca_lifted os started H enc)

end Go.Proofs.Ytnicidiocncjdaa
