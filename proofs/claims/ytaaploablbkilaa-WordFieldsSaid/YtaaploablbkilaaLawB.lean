/- For every input, the law WordFields of the given program returns true: each Field, Put and Extend is as the reference has it. -/
import Derived.Test.YtaaploablbkilaaLawA
import Derived.Test.YtaaploablbkilaaRows
open Go Go.Sx Go.Proofs
open Go.ChangeShapes Go.WideShapes Go.ChangeAt Go.RowKit
set_option maxRecDepth 100000
namespace Go.Proofs.Ytaaploablbkilaa

theorem fields_spec (X : (A32 × A32 × AI × AI)) (hX : (X.1.Ok ∧ X.2.1.Ok ∧ X.2.2.1.Ok ∧ X.2.2.2.Ok)) : Go.Sx.Spec Try.prog 3 (fieldsP.args X) (fieldsP.H X) (fun r _ => r = .ret .tt) :=
  @Pat.spec _ fieldsP Try.prog (fields_C X) 3 Try.f3 (cfg_tab rfl tFields_ok) Try.func3 X (fields_al X).out (fun r _ => r = .ret .tt) ⟨hX, rfl⟩

set_option maxRecDepth 100000 in
theorem fields_lifted (os : Os) (started : os.Started) (H : Type) (enc : TypeId × Value → H) :
    ReturnsInHanded {} Try.checked os 3 .any (Rows.wordFieldsSpec.pre6 enc Try.prog Try.f3 Rows.wordFieldsRow.domain false) (Rows.wordFieldsSpec.post enc Try.prog Try.f3 false true false false) := by
  refine returnsInHanded_of_change_shaped (C := Try.checked) Try.own started (by kernel_rfl) Try.func3
    (ChangeSpec.witness6 (enc := enc) (C := Try.checked) false ⟨#[], #[.int .u32 0, .int .u32 0, .int .i64 0, .int .i64 0], []⟩ 8 (by kernel_rfl) (by kernel_rfl) (by kernel_rfl) (by kernel_rfl)) ?_
  intro W base args ds gs before hval hW hcnd _ hsh _
  have hsh : W.ShapedOpen Try.prog := hsh
  refine law_post (tb := 4) Try.laidOut rfl (of_decide_eq_true (by kernel_rfl)) rfl (by kernel_rfl) (fun ds hd => ?_) hW ?_
  · match ds, hd with
    | [a0, a1, a2, a3], _ => rfl
  · obtain ⟨p, q, hA, -⟩ := hW
    have hA : DataW.TrodAll enc Try.prog W 0 (fun _ => true) true [22, 22, 3, 3] args.toList ds p := hA
    obtain ⟨v0, v1, v2, v3, d0, d1, d2, d3, p0, p1, p2, p3, e1, rfl, -, h0, h1, h2, h3⟩ := trodAll_four hA
    have hv0 : Value.okWide Try.prog W .any base 22 v0 := hval 0 _ v0 rfl (by rw [e1]; rfl)
    have hv1 : Value.okWide Try.prog W .any base 22 v1 := hval 1 _ v1 rfl (by rw [e1]; rfl)
    have hv2 : Value.okWide Try.prog W .any base 3 v2 := hval 2 _ v2 rfl (by rw [e1]; rfl)
    have hv3 : Value.okWide Try.prog W .any base 3 v3 := hval 3 _ v3 rfl (by rw [e1]; rfl)
    obtain ⟨w, hw, hg0, hvx0⟩ := u32_open hv0 h0
    obtain ⟨v, hv, hg1, hvx1⟩ := u32_open hv1 h1
    obtain ⟨a, ha, hg2, hvx2⟩ := int_open hv2 h2
    obtain ⟨n, hn, hg3, hvx3⟩ := int_open hv3 h3
    obtain ⟨hk, hown⟩ := hok_ro (W := W) [] (by
      intro y hy
      simp only [List.not_mem_nil] at hy)
    exact ⟨_, _, fieldsP.args (w, v, a, n), hk, hown, by rw [e1]; show [_, _, _, _] = _; rw [hvx0, hvx1, hvx2, hvx3], by
      intro t ht
      simp only [fieldsP, List.mem_cons, List.not_mem_nil, or_false] at ht
      rcases ht with rfl | rfl | rfl | rfl
      · exact hg0 _
      · exact hg1 _
      · exact hg2 _
      · exact hg3 _, fields_spec (w, v, a, n) ⟨hw, hv, ha, hn⟩⟩

theorem fields_holds : Rows.WordFieldsSaid :=
  OpenClaim.holds_of_wide 3 Try.f3 rfl rfl rfl rfl rfl rfl rfl ⟨rfl, rfl, rfl, rfl, rfl⟩ rfl rfl rfl rfl rfl (by kernel_rfl) Try.func3 (by kernel_rfl)
    (of_decide_eq_true (by kernel_rfl)) (by unfold Func.isWrapper; first | (rw [if_pos (by decide +kernel)]; kernel_rfl) | (rw [if_neg (by decide +kernel)]; exact ⟨rfl, rfl⟩))
    (fun os started H enc _ => fields_lifted os started H enc)

end Go.Proofs.Ytaaploablbkilaa
