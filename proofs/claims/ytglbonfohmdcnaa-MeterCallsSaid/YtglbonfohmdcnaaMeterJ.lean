/- Every row of calls of the meter, and every question, is answered as the document says. -/
import Derived.Test.YtglbonfohmdcnaaMeterI
import Derived.Test.YtglbonfohmdcnaaMeterO
open Go Go.Sx Go.Proofs
open Go.ChangeShapes Go.WideShapes Go.ChangeAt Go.RowKit
set_option maxRecDepth 100000
namespace Go.Proofs.Ytglbonfohmdcnaa

theorem ji_open {H : Type} {enc : TypeId × Value → H} {W : World} {base : Nat} {v : Value} {d : DataW H} {p : List MemPlace} (hv : Value.okWide Try.prog W .any base 3 v) (h : DataW.Trod enc Try.prog W 0 (fun _ => true) true 3 v d p) :
    ∃ x : JI, x.Ok ∧ (∀ n, Go.Sx.Good n x.t) ∧ ∀ ρ : Rho, val ρ x.t = v := by
  obtain ⟨u, h1, h2, h3⟩ := arg_flat (d := 3) (by kernel_rfl) hv h
  have h2' : ∃ m, u = .int .i64 m ∧ IntKind.i64.min ≤ m ∧ m ≤ IntKind.i64.max := @Eq.mp _ _ (by kernel_rfl) h1
  obtain ⟨m, rfl, b1⟩ := h2'
  exact ⟨⟨m⟩, fok_i64 b1, h2, h3⟩
theorem calls_spec (X : (JI × CS × JI × WS)) (hX : (X.1.Ok ∧ X.2.1.Ok ∧ X.2.2.1.Ok ∧ (X.2.2.2.nil = true → X.2.2.2.len = 0))) : Go.Sx.Spec Try.prog 3 (icP.args X) (icP.H X) (fun r _ => r = .ret .tt) :=
  @Pat.spec _ icP Try.prog (calls_C X) 3 Try.f3 (cfg_tab rfl tIC_ok) Try.func3 X (calls_al X).out (fun r _ => r = .ret .tt) ⟨hX, rfl⟩

set_option maxRecDepth 100000 in
theorem calls_lifted (os : Os) (started : os.Started) (H : Type) (enc : TypeId × Value → H) :
    ReturnsInHanded {} Try.checked os 3 .any (Rows.meterCallsSpec.pre6 enc Try.prog Try.f3 Rows.meterCallsRow.domain false) (Rows.meterCallsSpec.post enc Try.prog Try.f3 false true false false) := by
  refine returnsInHanded_of_change_shaped (C := Try.checked) Try.own started (by kernel_rfl) Try.func3
    (ChangeSpec.witness6 (enc := enc) (C := Try.checked) false ⟨#[], #[.int .i64 0, .slice none 0 0, .int .i64 0, .slice none 0 0], []⟩ 8 (by kernel_rfl) (by kernel_rfl) (by kernel_rfl) (by kernel_rfl)) ?_
  intro W base args ds gs before hval hW hcnd _ hsh _
  have hsh : W.ShapedOpen Try.prog := hsh
  refine law_post (tb := 4) Try.laidOut rfl (of_decide_eq_true (by kernel_rfl)) rfl (by kernel_rfl) (fun ds hd => ?_) hW ?_
  · match ds, hd with
    | [a0, a1, a2, a3], _ => rfl
  · obtain ⟨p, q, hA, -⟩ := hW
    have hA : DataW.TrodAll enc Try.prog W 0 (fun _ => true) true [3, 22, 3, 23] args.toList ds p := hA
    obtain ⟨v0, v1, v2, v3, d0, d1, d2, d3, p0, p1, p2, p3, e1, rfl, -, h0, h1, h2, h3⟩ := trodAll_four hA
    have hv0 : Value.okWide Try.prog W .any base 3 v0 := hval 0 _ v0 rfl (by rw [e1]; rfl)
    have hv1 : Value.okWide Try.prog W .any base 22 v1 := hval 1 _ v1 rfl (by rw [e1]; rfl)
    have hv2 : Value.okWide Try.prog W .any base 3 v2 := hval 2 _ v2 rfl (by rw [e1]; rfl)
    have hv3 : Value.okWide Try.prog W .any base 23 v3 := hval 3 _ v3 rfl (by rw [e1]; rfl)
    obtain ⟨a, ha, hg0, hvx0⟩ := ji_open hv0 h0
    obtain ⟨x, pl1, hx, hlt1, hh1, hg1, ho1, hvx1⟩ := cs_open hv1 h1 (shaped_pos hsh)
    obtain ⟨q, hq, hg2, hvx2⟩ := ji_open hv2 h2
    obtain ⟨w, pl3, hw, hlt3, hh3, hg3, ho3, hvx3⟩ := ws_open hv3 h3 (shaped_pos hsh)
    obtain ⟨hk, hown⟩ := hok_ro (W := W) [(x.reg, pl1), (w.reg, pl3)] (by
      intro y hy
      simp only [List.mem_cons, List.not_mem_nil, or_false] at hy
      rcases hy with rfl | rfl
      · exact ⟨ho1, rfl, hg1, hlt1, hh1⟩
      · exact ⟨ho3, rfl, hg3, hlt3, hh3⟩)
    exact ⟨_, _, icP.args (a, x, q, w), hk, hown, by rw [e1]; show [_, _, _, _] = _; rw [hvx0, hvx1 _ 0 rfl, hvx2, hvx3 _ 1 rfl], by
      intro t ht
      simp only [icP, List.mem_cons, List.not_mem_nil, or_false] at ht
      rcases ht with rfl | rfl | rfl | rfl
      · exact hg0 _
      · exact ⟨rfl, fun _ => trivial, fun _ => (show (0 : Nat) < 2 from by decide)⟩
      · exact hg2 _
      · exact ⟨rfl, fun _ => trivial, fun _ => (show (1 : Nat) < 2 from by decide)⟩, calls_spec (a, x, q, w) ⟨ha, hx, hq, hw⟩⟩

theorem calls_holds : Rows.MeterCallsSaid :=
  OpenClaim.holds_of_wide 3 Try.f3 rfl rfl rfl rfl rfl rfl rfl ⟨rfl, rfl, rfl, rfl, rfl⟩ rfl rfl rfl rfl rfl (by kernel_rfl) Try.func3 (by kernel_rfl)
    (of_decide_eq_true (by kernel_rfl)) (by unfold Func.isWrapper; first | (rw [if_pos (by decide +kernel)]; kernel_rfl) | (rw [if_neg (by decide +kernel)]; exact ⟨rfl, rfl⟩))
    (fun os started H enc _ => calls_lifted os started H enc)

end Go.Proofs.Ytglbonfohmdcnaa
