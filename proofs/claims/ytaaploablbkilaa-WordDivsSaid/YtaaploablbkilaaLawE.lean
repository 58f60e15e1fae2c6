/- WordDivs: a number is its quotient many times and the rest, for every input. -/
import Derived.Test.YtaaploablbkilaaLawC
import Derived.Test.YtaaploablbkilaaRows
open Go Go.Sx Go.Proofs
open Go.ChangeShapes Go.WideShapes Go.ChangeAt Go.RowKit
set_option maxRecDepth 100000
namespace Go.Proofs.Ytaaploablbkilaa


theorem divs_spec (X : (A64 × A64 × A64)) (hX : (X.1.Ok ∧ X.2.1.Ok ∧ X.2.2.Ok)) : Go.Sx.Spec Try.prog 7 (u3P.args X) (u3P.H X) (fun r _ => r = .ret .tt) :=
  @Pat.spec _ u3P Try.prog (divs_C X) 7 Try.f7 (cfg_tab rfl tDivs_ok) Try.func7 X (divs_al X).out (fun r _ => r = .ret .tt) ⟨hX, rfl⟩

set_option maxRecDepth 100000 in
theorem divs_lifted (os : Os) (started : os.Started) (H : Type) (enc : TypeId × Value → H) :
    ReturnsInHanded {} Try.checked os 7 .any (Rows.wordDivsSpec.pre6 enc Try.prog Try.f7 Rows.wordDivsRow.domain false) (Rows.wordDivsSpec.post enc Try.prog Try.f7 false true false false) := by
  refine returnsInHanded_of_change_shaped (C := Try.checked) Try.own started (by kernel_rfl) Try.func7
    (ChangeSpec.witness6 (enc := enc) (C := Try.checked) false ⟨#[], #[.int .u64 0, .int .u64 0, .int .u64 0], []⟩ 8 (by kernel_rfl) (by kernel_rfl) (by kernel_rfl) (by kernel_rfl)) ?_
  intro W base args ds gs before hval hW hcnd _ hsh _
  have hsh : W.ShapedOpen Try.prog := hsh
  refine law_post (tb := 4) Try.laidOut rfl (of_decide_eq_true (by kernel_rfl)) rfl (by kernel_rfl) (fun ds hd => ?_) hW ?_
  · match ds, hd with
    | [a0, a1, a2], _ => rfl
  · obtain ⟨p, q, hA, -⟩ := hW
    have hA : DataW.TrodAll enc Try.prog W 0 (fun _ => true) true [38, 38, 38] args.toList ds p := hA
    obtain ⟨v0, v1, v2, d0, d1, d2, p0, p1, p2, e1, rfl, -, h0, h1, h2⟩ := trodAll_three hA
    have hv0 : Value.okWide Try.prog W .any base 38 v0 := hval 0 _ v0 rfl (by rw [e1]; rfl)
    have hv1 : Value.okWide Try.prog W .any base 38 v1 := hval 1 _ v1 rfl (by rw [e1]; rfl)
    have hv2 : Value.okWide Try.prog W .any base 38 v2 := hval 2 _ v2 rfl (by rw [e1]; rfl)
    obtain ⟨a, ha, hg0, hvx0⟩ := u64_open hv0 h0
    obtain ⟨b, hb, hg1, hvx1⟩ := u64_open hv1 h1
    obtain ⟨c, hc, hg2, hvx2⟩ := u64_open hv2 h2
    obtain ⟨hk, hown⟩ := hok_ro (W := W) [] (by
      intro y hy
      simp only [List.not_mem_nil] at hy)
    exact ⟨_, _, u3P.args (a, b, c), hk, hown, by rw [e1]; show [_, _, _] = _; rw [hvx0, hvx1, hvx2], by
      intro t ht
      simp only [u3P, List.mem_cons, List.not_mem_nil, or_false] at ht
      rcases ht with rfl | rfl | rfl
      · exact hg0 _
      · exact hg1 _
      · exact hg2 _, divs_spec (a, b, c) ⟨ha, hb, hc⟩⟩

theorem divs_holds : Rows.WordDivsSaid :=
  OpenClaim.holds_of_wide 7 Try.f7 rfl rfl rfl rfl rfl rfl rfl ⟨rfl, rfl, rfl, rfl, rfl⟩ rfl rfl rfl rfl rfl (by kernel_rfl) Try.func7 (by kernel_rfl)
    (of_decide_eq_true (by kernel_rfl)) (by unfold Func.isWrapper; first | (rw [if_pos (by decide +kernel)]; kernel_rfl) | (rw [if_neg (by decide +kernel)]; exact ⟨rfl, rfl⟩))
    (fun os started H enc _ => divs_lifted os started H enc)

end Go.Proofs.Ytaaploablbkilaa
