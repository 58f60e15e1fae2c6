/- AdmitAnswers: every Right, Demand, Horizon and Borne answers what the document says, for every input. -/
import Derived.Test.YtijpjhelgggmfaaF5
import Derived.Test.YtijpjhelgggmfaaC2
open Go Go.Sx Go.Proofs
open Go.ChangeShapes Go.WideShapes Go.ChangeAt Go.RowKit
set_option maxRecDepth 100000
namespace Go.Proofs.Ytijpjhelgggmfaa


theorem ans_spec (X : (LS × A64)) (hX : (X.1.Ok ∧ X.2.Ok)) : Go.Sx.Spec Try.prog 3 (demsP.args X) (demsP.H X) (fun r _ => r = .ret .tt) :=
  @Pat.spec _ demsP Try.prog (ans_C X) 3 Try.f3 (cfg_tab rfl tAns_ok) Try.func3 X (ans_al X).out (fun r _ => r = .ret .tt) ⟨hX, rfl⟩

set_option maxRecDepth 100000 in
theorem ans_lifted (os : Os) (started : os.Started) (H : Type) (enc : TypeId × Value → H) :
    ReturnsInHanded {} Try.checked os 3 .any (Rows.admitAnswersSpec.pre6 enc Try.prog Try.f3 Rows.admitAnswersRow.domain false) (Rows.admitAnswersSpec.post enc Try.prog Try.f3 false true false false) := by
  refine returnsInHanded_of_change_shaped (C := Try.checked) Try.own started (by kernel_rfl) Try.func3
    (ChangeSpec.witness6 (enc := enc) (C := Try.checked) false ⟨#[], #[.slice none 0 0, .int .u64 0], []⟩ 8 (by kernel_rfl) (by kernel_rfl) (by kernel_rfl) (by kernel_rfl)) ?_
  intro W base args ds gs before hval hW hcnd _ hsh _
  have hsh : W.ShapedOpen Try.prog := hsh
  refine law_post (tb := 4) Try.laidOut rfl (of_decide_eq_true (by kernel_rfl)) rfl (by kernel_rfl) (fun ds hd => ?_) hW ?_
  · match ds, hd with
    | [a0, a1], _ => rfl
  · obtain ⟨p, q, hA, -⟩ := hW
    have hA : DataW.TrodAll enc Try.prog W 0 (fun _ => true) true [22, 23] args.toList ds p := hA
    obtain ⟨v0, v1, d0, d1, p0, p1, e1, rfl, -, h0, h1⟩ := trodAll_two hA
    have hv0 : Value.okWide Try.prog W .any base 22 v0 := hval 0 _ v0 rfl (by rw [e1]; rfl)
    have hv1 : Value.okWide Try.prog W .any base 23 v1 := hval 1 _ v1 rfl (by rw [e1]; rfl)
    obtain ⟨x, pl0, hx, hlt0, hh0, hg0, ho0, hvx0⟩ := ls_open hv0 h0 (shaped_pos hsh)
    obtain ⟨t, ht, hg1, hvx1⟩ := u64_open hv1 h1
    obtain ⟨hk, hown⟩ := hok_ro (W := W) [(x.reg, pl0)] (by
      intro y hy
      simp only [List.mem_cons, List.not_mem_nil, or_false] at hy
      rcases hy with rfl
      · exact ⟨ho0, rfl, hg0, hlt0, hh0⟩)
    exact ⟨_, _, demsP.args (x, t), hk, hown, by rw [e1]; show [_, _] = _; rw [hvx0 _ 0 rfl, hvx1], by
      intro t ht
      simp only [demsP, List.mem_cons, List.not_mem_nil, or_false] at ht
      rcases ht with rfl | rfl
      · exact ⟨rfl, fun _ => trivial, fun _ => (show (0 : Nat) < 1 from by decide)⟩
      · exact hg1 _, ans_spec (x, t) ⟨hx, ht⟩⟩

theorem ans_holds : Rows.AdmitAnswersSaid :=
  OpenClaim.holds_of_wide 3 Try.f3 rfl rfl rfl rfl rfl rfl rfl ⟨rfl, rfl, rfl, rfl, rfl⟩ rfl rfl rfl rfl rfl (by kernel_rfl) Try.func3 (by kernel_rfl)
    (of_decide_eq_true (by kernel_rfl)) (by unfold Func.isWrapper; first | (rw [if_pos (by decide +kernel)]; kernel_rfl) | (rw [if_neg (by decide +kernel)]; exact ⟨rfl, rfl⟩))
    (fun os started H enc _ => ans_lifted os started H enc)

end Go.Proofs.Ytijpjhelgggmfaa
