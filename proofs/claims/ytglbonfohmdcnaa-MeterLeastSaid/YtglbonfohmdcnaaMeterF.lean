/- The statement MeterLeast holds: for every row of calls and every row of answers, whatever their length, the law answers true and leaves its arguments as they were. No conditions. -/
import Derived.Test.YtglbonfohmdcnaaMeterE
import Derived.Test.YtglbonfohmdcnaaMeterO
open Go Go.Sx Go.Proofs
open Go.ChangeShapes Go.WideShapes Go.ChangeAt Go.RowKit
set_option maxRecDepth 100000
namespace Go.Proofs.Ytglbonfohmdcnaa

theorem leastL_spec (X : (CS × WS)) (hX : (X.1.Ok ∧ (X.2.nil = true → X.2.len = 0))) : Go.Sx.Spec Try.prog 5 (leastLP.args X) (leastLP.H X) (fun r _ => r = .ret .tt) :=
  @Pat.spec _ leastLP Try.prog (leastL_C X) 5 Try.f5 (cfg_tab rfl tTop_ok) Try.func5 X (leastL_al X).out (fun r _ => r = .ret .tt) ⟨hX, rfl⟩

set_option maxRecDepth 100000 in
theorem leastL_lifted (os : Os) (started : os.Started) (H : Type) (enc : TypeId × Value → H) :
    ReturnsInHanded {} Try.checked os 5 .any (Rows.meterLeastSpec.pre6 enc Try.prog Try.f5 Rows.meterLeastRow.domain false) (Rows.meterLeastSpec.post enc Try.prog Try.f5 false true false false) := by
  refine returnsInHanded_of_change_shaped (C := Try.checked) Try.own started (by kernel_rfl) Try.func5
    (ChangeSpec.witness6 (enc := enc) (C := Try.checked) false ⟨#[], #[.slice none 0 0, .slice none 0 0], []⟩ 8 (by kernel_rfl) (by kernel_rfl) (by kernel_rfl) (by kernel_rfl)) ?_
  intro W base args ds gs before hval hW hcnd _ hsh _
  have hsh : W.ShapedOpen Try.prog := hsh
  refine law_post (tb := 4) Try.laidOut rfl (of_decide_eq_true (by kernel_rfl)) rfl (by kernel_rfl) (fun ds hd => ?_) hW ?_
  · match ds, hd with
    | [a0, a1], _ => rfl
  · obtain ⟨p, q, hA, -⟩ := hW
    have hA : DataW.TrodAll enc Try.prog W 0 (fun _ => true) true [22, 23] args.toList ds p := hA
    obtain ⟨v0, v1, d0, d1, p0, p1, e1, rfl, -, h0, h1⟩ := trodAll_two hA
    have hv0 : Value.okWide Try.prog W .any base 22 v0 := hval 0 _ v0 rfl (by rw [e1]; rfl)
    have hv1 : Value.okWide Try.prog W .any base 23 v1 := hval 1 _ v1 rfl (by rw [e1]; rfl)
    obtain ⟨x, pl0, hx, hlt0, hh0, hg0, ho0, hvx0⟩ := cs_open hv0 h0 (shaped_pos hsh)
    obtain ⟨w, pl1, hw, hlt1, hh1, hg1, ho1, hvx1⟩ := ws_open hv1 h1 (shaped_pos hsh)
    obtain ⟨hk, hown⟩ := hok_ro (W := W) [(x.reg, pl0), (w.reg, pl1)] (by
      intro y hy
      simp only [List.mem_cons, List.not_mem_nil, or_false] at hy
      rcases hy with rfl | rfl
      · exact ⟨ho0, rfl, hg0, hlt0, hh0⟩
      · exact ⟨ho1, rfl, hg1, hlt1, hh1⟩)
    exact ⟨_, _, leastLP.args (x, w), hk, hown, by rw [e1]; show [_, _] = _; rw [hvx0 _ 0 rfl, hvx1 _ 1 rfl], by
      intro t ht
      simp only [leastLP, List.mem_cons, List.not_mem_nil, or_false] at ht
      rcases ht with rfl | rfl
      · exact ⟨rfl, fun _ => trivial, fun _ => (show (0 : Nat) < 2 from by decide)⟩
      · exact ⟨rfl, fun _ => trivial, fun _ => (show (1 : Nat) < 2 from by decide)⟩, leastL_spec (x, w) ⟨hx, hw⟩⟩

theorem leastL_holds : Rows.MeterLeastSaid :=
  OpenClaim.holds_of_wide 5 Try.f5 rfl rfl rfl rfl rfl rfl rfl ⟨rfl, rfl, rfl, rfl, rfl⟩ rfl rfl rfl rfl rfl (by kernel_rfl) Try.func5 (by kernel_rfl)
    (of_decide_eq_true (by kernel_rfl)) (by unfold Func.isWrapper; first | (rw [if_pos (by decide +kernel)]; kernel_rfl) | (rw [if_neg (by decide +kernel)]; exact ⟨rfl, rfl⟩))
    (fun os started H enc _ => leastL_lifted os started H enc)

end Go.Proofs.Ytglbonfohmdcnaa
