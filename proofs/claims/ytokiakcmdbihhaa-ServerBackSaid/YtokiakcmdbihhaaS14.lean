/- ServerBack holds: what was charged of a sporadic server's current chunk is usable again by its deadline, for all arguments. -/
import Derived.Test.YtokiakcmdbihhaaS13
import Derived.Test.YtokiakcmdbihhaaSxRow
import Derived.Test.YtokiakcmdbihhaaRows
open Go Go.Sx Go.Proofs
open Go.ChangeShapes Go.WideShapes Go.ChangeAt Go.RowKit
set_option maxRecDepth 100000
namespace Go.Proofs.Ytokiakcmdbihhaa

theorem Try.own : ownKnob Try.prog.godebug = none := by kernel_rfl
theorem Try.laidOut : laidOutB Try.prog = true := by kernel_rfl
theorem u64_open {H : Type} {enc : TypeId × Value → H} {W : World} {base : Nat} {v : Value} {d : DataW H} {p : List MemPlace} (hv : Value.okWide Try.prog W .any base 22 v) (h : DataW.Trod enc Try.prog W 0 (fun _ => true) true 22 v d p) :
    ∃ x : A64, x.Ok ∧ (∀ n, Go.Sx.Good n x.t) ∧ ∀ ρ : Rho, val ρ x.t = v := by
  obtain ⟨u, h1, h2, h3⟩ := arg_flat (d := 3) (by kernel_rfl) hv h
  have h2' : ∃ m, u = .int .u64 m ∧ IntKind.u64.min ≤ m ∧ m ≤ IntKind.u64.max := @Eq.mp _ _ (by kernel_rfl) h1
  obtain ⟨m, rfl, b1⟩ := h2'
  exact ⟨⟨m⟩, fok_u64 b1, h2, h3⟩
def backP : Pat (A64 × A64 × A64 × A64) where
  view _ _ := none
  args x := [x.1.t, x.2.1.t, x.2.2.1.t, x.2.2.2.t]
  H _ := []
  out x := .need (x.1.Ok ∧ x.2.1.Ok ∧ x.2.2.1.Ok ∧ x.2.2.2.Ok) (.retq .tt)
theorem back_spec (X : A64 × A64 × A64 × A64) (hX : X.1.Ok ∧ X.2.1.Ok ∧ X.2.2.1.Ok ∧ X.2.2.2.Ok) : Go.Sx.Spec Try.prog 5 (backP.args X) (backP.H X) (fun r _ => r = .ret .tt) := by
  by_cases h : rngI X.1.v X.2.1.v X.2.2.1.v
  · exact @Pat.spec _ bkP Try.prog (bk_C X) 5 Try.f5 (cfg_tab rfl tBk_ok) Try.func5 X (bk_al X).out (fun r _ => r = .ret .tt) ⟨⟨hX, h⟩, rfl⟩
  · exact @Pat.spec _ bkoP Try.prog (bko_C X) 5 Try.f5 (cfg_tab rfl tBkO_ok) Try.func5 X (bko_al X).out (fun r _ => r = .ret .tt) ⟨⟨hX, fun q => h q.2⟩, rfl⟩

set_option maxRecDepth 100000 in
theorem back_lifted (os : Os) (started : os.Started) (H : Type) (enc : TypeId × Value → H) :
    ReturnsInHanded {} Try.checked os 5 .any (Rows.serverBackSpec.pre6 enc Try.prog Try.f5 Rows.serverBackRow.domain false) (Rows.serverBackSpec.post enc Try.prog Try.f5 false true false false) := by
  refine returnsInHanded_of_change_shaped (C := Try.checked) Try.own started (by kernel_rfl) Try.func5
    (ChangeSpec.witness6 (enc := enc) (C := Try.checked) false ⟨#[], #[.int .u64 0, .int .u64 0, .int .u64 0, .int .u64 0], []⟩ 8 (by kernel_rfl) (by kernel_rfl) (by kernel_rfl) (by kernel_rfl)) ?_
  intro W base args ds gs before hval hW hcnd _ hsh _
  have hsh : W.ShapedOpen Try.prog := hsh
  refine law_post (tb := 4) Try.laidOut rfl (of_decide_eq_true (by kernel_rfl)) rfl (by kernel_rfl) (fun ds hd => ?_) hW ?_
  · match ds, hd with
    | [a0, a1, a2, a3], _ => rfl
  · obtain ⟨p, q, hA, -⟩ := hW
    have hA : DataW.TrodAll enc Try.prog W 0 (fun _ => true) true [22, 22, 22, 22] args.toList ds p := hA
    obtain ⟨v0, v1, v2, v3, d0, d1, d2, d3, p0, p1, p2, p3, e1, rfl, -, h0, h1, h2, h3⟩ := trodAll_four hA
    have hv0 : Value.okWide Try.prog W .any base 22 v0 := hval 0 _ v0 rfl (by rw [e1]; rfl)
    have hv1 : Value.okWide Try.prog W .any base 22 v1 := hval 1 _ v1 rfl (by rw [e1]; rfl)
    have hv2 : Value.okWide Try.prog W .any base 22 v2 := hval 2 _ v2 rfl (by rw [e1]; rfl)
    have hv3 : Value.okWide Try.prog W .any base 22 v3 := hval 3 _ v3 rfl (by rw [e1]; rfl)
    obtain ⟨q, hq, hg0, hvx0⟩ := u64_open hv0 h0
    obtain ⟨t, ht, hg1, hvx1⟩ := u64_open hv1 h1
    obtain ⟨n, hn, hg2, hvx2⟩ := u64_open hv2 h2
    obtain ⟨c, hc, hg3, hvx3⟩ := u64_open hv3 h3
    obtain ⟨hk, hown⟩ := hok_ro (W := W) [] (by
      intro y hy
      simp only [List.not_mem_nil] at hy)
    exact ⟨_, _, backP.args (q, t, n, c), hk, hown, by rw [e1]; show [_, _, _, _] = _; rw [hvx0, hvx1, hvx2, hvx3], by
      intro t ht
      simp only [backP, List.mem_cons, List.not_mem_nil, or_false] at ht
      rcases ht with rfl | rfl | rfl | rfl
      · exact hg0 _
      · exact hg1 _
      · exact hg2 _
      · exact hg3 _, back_spec (q, t, n, c) ⟨hq, ht, hn, hc⟩⟩

theorem back_holds : Rows.ServerBackSaid :=
  OpenClaim.holds_of_wide 5 Try.f5 rfl rfl rfl rfl rfl rfl rfl ⟨rfl, rfl, rfl, rfl, rfl⟩ rfl rfl rfl rfl rfl (by kernel_rfl) Try.func5 (by kernel_rfl)
    (of_decide_eq_true (by kernel_rfl)) (by unfold Func.isWrapper; first | (rw [if_pos (by decide +kernel)]; kernel_rfl) | (rw [if_neg (by decide +kernel)]; exact ⟨rfl, rfl⟩))
    (fun os started H enc _ => back_lifted os started H enc)

end Go.Proofs.Ytokiakcmdbihhaa
