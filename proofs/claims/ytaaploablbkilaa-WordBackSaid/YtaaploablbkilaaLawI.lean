/- WordBack: what is put into a field is told by it, and the others are as they were; bytes come back as words, for every input. -/
import Derived.Test.YtaaploablbkilaaLawH
import Derived.Test.YtaaploablbkilaaRows
open Go Go.Sx Go.Proofs
open Go.ChangeShapes Go.WideShapes Go.ChangeAt Go.RowKit
set_option maxRecDepth 100000
namespace Go.Proofs.Ytaaploablbkilaa


theorem back_spec (X : (A32 × A32 × AI × AI × AI)) (hX : (X.1.Ok ∧ X.2.1.Ok ∧ X.2.2.1.Ok ∧ X.2.2.2.1.Ok ∧ X.2.2.2.2.Ok)) : Go.Sx.Spec Try.prog 6 (backP.args X) (backP.H X) (fun r _ => r = .ret .tt) :=
  @Pat.spec _ backP Try.prog (back_C X) 6 Try.f6 (cfg_tab rfl tBack_ok) Try.func6 X (back_al X).out (fun r _ => r = .ret .tt) ⟨hX, rfl⟩

set_option maxRecDepth 100000 in
theorem back_lifted (os : Os) (started : os.Started) (H : Type) (enc : TypeId × Value → H) :
    ReturnsInHanded {} Try.checked os 6 .any (Rows.wordBackSpec.pre6 enc Try.prog Try.f6 Rows.wordBackRow.domain false) (Rows.wordBackSpec.post enc Try.prog Try.f6 false true false false) := by
  refine returnsInHanded_of_change_shaped (C := Try.checked) Try.own started (by kernel_rfl) Try.func6
    (ChangeSpec.witness6 (enc := enc) (C := Try.checked) false ⟨#[], #[.int .u32 0, .int .u32 0, .int .i64 0, .int .i64 0, .int .i64 0], []⟩ 8 (by kernel_rfl) (by kernel_rfl) (by kernel_rfl) (by kernel_rfl)) ?_
  intro W base args ds gs before hval hW hcnd _ hsh _
  have hsh : W.ShapedOpen Try.prog := hsh
  refine law_post (tb := 4) Try.laidOut rfl (of_decide_eq_true (by kernel_rfl)) rfl (by kernel_rfl) (fun ds hd => ?_) hW ?_
  · match ds, hd with
    | [a0, a1, a2, a3, a4], _ => rfl
  · obtain ⟨p, q, hA, -⟩ := hW
    have hA : DataW.TrodAll enc Try.prog W 0 (fun _ => true) true [22, 22, 3, 3, 3] args.toList ds p := hA
    obtain ⟨v0, v1, v2, v3, v4, d0, d1, d2, d3, d4, p0, p1, p2, p3, p4, e1, rfl, -, h0, h1, h2, h3, h4⟩ := trodAll_five hA
    have hv0 : Value.okWide Try.prog W .any base 22 v0 := hval 0 _ v0 rfl (by rw [e1]; rfl)
    have hv1 : Value.okWide Try.prog W .any base 22 v1 := hval 1 _ v1 rfl (by rw [e1]; rfl)
    have hv2 : Value.okWide Try.prog W .any base 3 v2 := hval 2 _ v2 rfl (by rw [e1]; rfl)
    have hv3 : Value.okWide Try.prog W .any base 3 v3 := hval 3 _ v3 rfl (by rw [e1]; rfl)
    have hv4 : Value.okWide Try.prog W .any base 3 v4 := hval 4 _ v4 rfl (by rw [e1]; rfl)
    obtain ⟨w, hw, hg0, hvx0⟩ := u32_open hv0 h0
    obtain ⟨v, hv, hg1, hvx1⟩ := u32_open hv1 h1
    obtain ⟨a, ha, hg2, hvx2⟩ := int_open hv2 h2
    obtain ⟨n, hn, hg3, hvx3⟩ := int_open hv3 h3
    obtain ⟨m, hm, hg4, hvx4⟩ := int_open hv4 h4
    obtain ⟨hk, hown⟩ := hok_ro (W := W) [] (by
      intro y hy
      simp only [List.not_mem_nil] at hy)
    exact ⟨_, _, backP.args (w, v, a, n, m), hk, hown, by rw [e1]; show [_, _, _, _, _] = _; rw [hvx0, hvx1, hvx2, hvx3, hvx4], by
      intro t ht
      simp only [backP, List.mem_cons, List.not_mem_nil, or_false] at ht
      rcases ht with rfl | rfl | rfl | rfl | rfl
      · exact hg0 _
      · exact hg1 _
      · exact hg2 _
      · exact hg3 _
      · exact hg4 _, back_spec (w, v, a, n, m) ⟨hw, hv, ha, hn, hm⟩⟩

theorem back_holds : Rows.WordBackSaid :=
  OpenClaim.holds_of_wide 6 Try.f6 rfl rfl rfl rfl rfl rfl rfl ⟨rfl, rfl, rfl, rfl, rfl⟩ rfl rfl rfl rfl rfl (by kernel_rfl) Try.func6 (by kernel_rfl)
    (of_decide_eq_true (by kernel_rfl)) (by unfold Func.isWrapper; first | (rw [if_pos (by decide +kernel)]; kernel_rfl) | (rw [if_neg (by decide +kernel)]; exact ⟨rfl, rfl⟩))
    (fun os started H enc _ => back_lifted os started H enc)

end Go.Proofs.Ytaaploablbkilaa
