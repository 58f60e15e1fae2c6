/- WordWides: every Mul, Add, Compare and Div answers what the document says, for every input. -/
import Derived.Test.YtaaploablbkilaaLawF
import Derived.Test.YtaaploablbkilaaRows
open Go Go.Sx Go.Proofs
open Go.ChangeShapes Go.WideShapes Go.ChangeAt Go.RowKit
set_option maxRecDepth 100000
namespace Go.Proofs.Ytaaploablbkilaa

theorem wide_open {H : Type} {enc : TypeId × Value → H} {W : World} {base : Nat} {v : Value} {d : DataW H} {p : List MemPlace} (hv : Value.okWide Try.prog W .any base 40 v) (h : DataW.Trod enc Try.prog W 0 (fun _ => true) true 40 v d p) :
    ∃ x : AW, x.Ok ∧ (∀ n, Go.Sx.Good n x.t) ∧ ∀ ρ : Rho, val ρ x.t = v := by
  obtain ⟨u, h1, h2, h3⟩ := arg_flat (d := 3) (by kernel_rfl) hv h
  have h2' : ∃ a r, u = .cons a r ∧ (∃ m, a = .int .u64 m ∧ IntKind.u64.min ≤ m ∧ m ≤ IntKind.u64.max) ∧ ∃ a2 r2, r = .cons a2 r2 ∧ (∃ m, a2 = .int .u64 m ∧ IntKind.u64.min ≤ m ∧ m ≤ IntKind.u64.max) ∧ r2 = .nil := @Eq.mp _ _ (by kernel_rfl) h1
  obtain ⟨_, _, rfl, ⟨m1, rfl, b1⟩, _, _, rfl, ⟨m2, rfl, b2⟩, rfl⟩ := h2'
  exact ⟨⟨m1, m2⟩, ⟨fok_u64 b1, fok_u64 b2⟩, h2, h3⟩
theorem wides_spec (X : (AW × AW × A64 × A64)) (hX : (X.1.Ok ∧ X.2.1.Ok ∧ X.2.2.1.Ok ∧ X.2.2.2.Ok)) : Go.Sx.Spec Try.prog 5 (widesP.args X) (widesP.H X) (fun r _ => r = .ret .tt) :=
  @Pat.spec _ widesP Try.prog (wides_C X) 5 Try.f5 (cfg_tab rfl tWides_ok) Try.func5 X (wides_al X).out (fun r _ => r = .ret .tt) ⟨hX, rfl⟩

set_option maxRecDepth 100000 in
theorem wides_lifted (os : Os) (started : os.Started) (H : Type) (enc : TypeId × Value → H) :
    ReturnsInHanded {} Try.checked os 5 .any (Rows.wordWidesSpec.pre6 enc Try.prog Try.f5 Rows.wordWidesRow.domain false) (Rows.wordWidesSpec.post enc Try.prog Try.f5 false true false false) := by
  refine returnsInHanded_of_change_shaped (C := Try.checked) Try.own started (by kernel_rfl) Try.func5
    (ChangeSpec.witness6 (enc := enc) (C := Try.checked) false ⟨#[], #[.agg #[.int .u64 0, .int .u64 0], .agg #[.int .u64 0, .int .u64 0], .int .u64 0, .int .u64 0], []⟩ 8 (by kernel_rfl) (by kernel_rfl) (by kernel_rfl) (by kernel_rfl)) ?_
  intro W base args ds gs before hval hW hcnd _ hsh _
  have hsh : W.ShapedOpen Try.prog := hsh
  refine law_post (tb := 4) Try.laidOut rfl (of_decide_eq_true (by kernel_rfl)) rfl (by kernel_rfl) (fun ds hd => ?_) hW ?_
  · match ds, hd with
    | [a0, a1, a2, a3], _ => rfl
  · obtain ⟨p, q, hA, -⟩ := hW
    have hA : DataW.TrodAll enc Try.prog W 0 (fun _ => true) true [40, 40, 38, 38] args.toList ds p := hA
    obtain ⟨v0, v1, v2, v3, d0, d1, d2, d3, p0, p1, p2, p3, e1, rfl, -, h0, h1, h2, h3⟩ := trodAll_four hA
    have hv0 : Value.okWide Try.prog W .any base 40 v0 := hval 0 _ v0 rfl (by rw [e1]; rfl)
    have hv1 : Value.okWide Try.prog W .any base 40 v1 := hval 1 _ v1 rfl (by rw [e1]; rfl)
    have hv2 : Value.okWide Try.prog W .any base 38 v2 := hval 2 _ v2 rfl (by rw [e1]; rfl)
    have hv3 : Value.okWide Try.prog W .any base 38 v3 := hval 3 _ v3 rfl (by rw [e1]; rfl)
    obtain ⟨a, ha, hg0, hvx0⟩ := wide_open hv0 h0
    obtain ⟨b, hb, hg1, hvx1⟩ := wide_open hv1 h1
    obtain ⟨x, hx, hg2, hvx2⟩ := u64_open hv2 h2
    obtain ⟨y, hy, hg3, hvx3⟩ := u64_open hv3 h3
    obtain ⟨hk, hown⟩ := hok_ro (W := W) [] (by
      intro y hy
      simp only [List.not_mem_nil] at hy)
    exact ⟨_, _, widesP.args (a, b, x, y), hk, hown, by rw [e1]; show [_, _, _, _] = _; rw [hvx0, hvx1, hvx2, hvx3], by
      intro t ht
      simp only [widesP, List.mem_cons, List.not_mem_nil, or_false] at ht
      rcases ht with rfl | rfl | rfl | rfl
      · exact hg0 _
      · exact hg1 _
      · exact hg2 _
      · exact hg3 _, wides_spec (a, b, x, y) ⟨ha, hb, hx, hy⟩⟩

theorem wides_holds : Rows.WordWidesSaid :=
  OpenClaim.holds_of_wide 5 Try.f5 rfl rfl rfl rfl rfl rfl rfl ⟨rfl, rfl, rfl, rfl, rfl⟩ rfl rfl rfl rfl rfl (by kernel_rfl) Try.func5 (by kernel_rfl)
    (of_decide_eq_true (by kernel_rfl)) (by unfold Func.isWrapper; first | (rw [if_pos (by decide +kernel)]; kernel_rfl) | (rw [if_neg (by decide +kernel)]; exact ⟨rfl, rfl⟩))
    (fun os started H enc _ => wides_lifted os started H enc)

end Go.Proofs.Ytaaploablbkilaa
