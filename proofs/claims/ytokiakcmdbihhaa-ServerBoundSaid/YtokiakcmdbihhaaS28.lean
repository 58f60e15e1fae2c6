/- ServerBound holds: who takes no more than is usable takes, in any window of t cycles, no more than (t divided by T, and 2) times Q, for all arguments. -/
import Derived.Test.YtokiakcmdbihhaaS24
import Derived.Test.YtokiakcmdbihhaaS25
import Derived.Test.YtokiakcmdbihhaaSO
open Go Go.Sx Go.Proofs
open Go.ChangeShapes Go.WideShapes Go.ChangeAt Go.RowKit
set_option maxRecDepth 100000
namespace Go.Proofs.Ytokiakcmdbihhaa

def boundP : Pat (AI × A64 × A64 × A64 × CS) where
  view _ _ := none
  args x := [x.1.t, x.2.1.t, x.2.2.1.t, x.2.2.2.1.t, x.2.2.2.2.v 0]
  H x := [x.2.2.2.2.reg]
  out x := .need (x.1.Ok ∧ x.2.1.Ok ∧ x.2.2.1.Ok ∧ x.2.2.2.1.Ok ∧ x.2.2.2.2.Ok) (.retq .tt)
theorem bound_spec (X : AI × A64 × A64 × A64 × CS) (hX : X.1.Ok ∧ X.2.1.Ok ∧ X.2.2.1.Ok ∧ X.2.2.2.1.Ok ∧ X.2.2.2.2.Ok) : Go.Sx.Spec Try.prog 3 (boundP.args X) (boundP.H X) (fun r _ => r = .ret .tt) := by
  obtain ⟨⟨k⟩, Y⟩ := X
  by_cases hr : rngI Y.1.v Y.2.1.v Y.2.2.1.v
  · by_cases h1 : k = 1
    · subst h1
      exact @Pat.spec _ bsP2 Try.prog (bs2_C Y) 3 Try.f3 (cfg_tab rfl tBs2_ok) Try.func3 Y (bs2_al Y).out (fun r _ => r = .ret .tt) ⟨⟨hX.2, hr⟩, rfl⟩
    · by_cases h2 : k = 2
      · subst h2
        exact @Pat.spec _ bdP2 Try.prog (bd2_C Y) 3 Try.f3 (cfg_tab rfl tBd2_ok) Try.func3 Y (bd2_al Y).out (fun r _ => r = .ret .tt) ⟨⟨hX.2, hr⟩, rfl⟩
      · exact @Pat.spec _ boP Try.prog (bo_C (⟨k⟩, Y)) 3 Try.f3 (cfg_tab rfl tBkO_ok) Try.func3 (⟨k⟩, Y) (bo_al (⟨k⟩, Y)).out (fun r _ => r = .ret .tt) ⟨⟨hX, fun q => by rcases q.1 with e | e; exact h1 e; exact h2 e⟩, rfl⟩
  · exact @Pat.spec _ boP Try.prog (bo_C (⟨k⟩, Y)) 3 Try.f3 (cfg_tab rfl tBkO_ok) Try.func3 (⟨k⟩, Y) (bo_al (⟨k⟩, Y)).out (fun r _ => r = .ret .tt) ⟨⟨hX, fun q => hr q.2⟩, rfl⟩

set_option maxRecDepth 100000 in
theorem bound_lifted (os : Os) (started : os.Started) (H : Type) (enc : TypeId × Value → H) :
    ReturnsInHanded {} Try.checked os 3 .any (Rows.serverBoundSpec.pre6 enc Try.prog Try.f3 Rows.serverBoundRow.domain false) (Rows.serverBoundSpec.post enc Try.prog Try.f3 false true false false) := by
  refine returnsInHanded_of_change_shaped (C := Try.checked) Try.own started (by kernel_rfl) Try.func3
    (ChangeSpec.witness6 (enc := enc) (C := Try.checked) false ⟨#[], #[.int .i64 0, .int .u64 0, .int .u64 0, .int .u64 0, .slice none 0 0], []⟩ 8 (by kernel_rfl) (by kernel_rfl) (by kernel_rfl) (by kernel_rfl)) ?_
  intro W base args ds gs before hval hW hcnd _ hsh _
  have hsh : W.ShapedOpen Try.prog := hsh
  refine law_post (tb := 4) Try.laidOut rfl (of_decide_eq_true (by kernel_rfl)) rfl (by kernel_rfl) (fun ds hd => ?_) hW ?_
  · match ds, hd with
    | [a0, a1, a2, a3, a4], _ => rfl
  · obtain ⟨p, q, hA, -⟩ := hW
    have hA : DataW.TrodAll enc Try.prog W 0 (fun _ => true) true [3, 22, 22, 22, 23] args.toList ds p := hA
    obtain ⟨v0, v1, v2, v3, v4, d0, d1, d2, d3, d4, p0, p1, p2, p3, p4, e1, rfl, -, h0, h1, h2, h3, h4⟩ := trodAll_five hA
    have hv0 : Value.okWide Try.prog W .any base 3 v0 := hval 0 _ v0 rfl (by rw [e1]; rfl)
    have hv1 : Value.okWide Try.prog W .any base 22 v1 := hval 1 _ v1 rfl (by rw [e1]; rfl)
    have hv2 : Value.okWide Try.prog W .any base 22 v2 := hval 2 _ v2 rfl (by rw [e1]; rfl)
    have hv3 : Value.okWide Try.prog W .any base 22 v3 := hval 3 _ v3 rfl (by rw [e1]; rfl)
    have hv4 : Value.okWide Try.prog W .any base 23 v4 := hval 4 _ v4 rfl (by rw [e1]; rfl)
    obtain ⟨kd, hkd, hg0, hvx0⟩ := int_open hv0 h0
    obtain ⟨q, hq, hg1, hvx1⟩ := u64_open hv1 h1
    obtain ⟨t, ht, hg2, hvx2⟩ := u64_open hv2 h2
    obtain ⟨n, hn, hg3, hvx3⟩ := u64_open hv3 h3
    obtain ⟨x, pl4, hx, hlt4, hh4, hg4, ho4, hvx4⟩ := cs_open hv4 h4 (shaped_pos hsh)
    obtain ⟨hk, hown⟩ := hok_ro (W := W) [(x.reg, pl4)] (by
      intro y hy
      simp only [List.mem_cons, List.not_mem_nil, or_false] at hy
      rcases hy with rfl
      · exact ⟨ho4, rfl, hg4, hlt4, hh4⟩)
    exact ⟨_, _, boundP.args (kd, q, t, n, x), hk, hown, by rw [e1]; show [_, _, _, _, _] = _; rw [hvx0, hvx1, hvx2, hvx3, hvx4 _ 0 rfl], by
      intro t ht
      simp only [boundP, List.mem_cons, List.not_mem_nil, or_false] at ht
      rcases ht with rfl | rfl | rfl | rfl | rfl
      · exact hg0 _
      · exact hg1 _
      · exact hg2 _
      · exact hg3 _
      · exact ⟨rfl, fun _ => trivial, fun _ => (show (0 : Nat) < 1 from by decide)⟩, bound_spec (kd, q, t, n, x) ⟨hkd, hq, ht, hn, hx⟩⟩

theorem bound_holds : Rows.ServerBoundSaid :=
  OpenClaim.holds_of_wide 3 Try.f3 rfl rfl rfl rfl rfl rfl rfl ⟨rfl, rfl, rfl, rfl, rfl⟩ rfl rfl rfl rfl rfl (by kernel_rfl) Try.func3 (by kernel_rfl)
    (of_decide_eq_true (by kernel_rfl)) (by unfold Func.isWrapper; first | (rw [if_pos (by decide +kernel)]; kernel_rfl) | (rw [if_neg (by decide +kernel)]; exact ⟨rfl, rfl⟩))
    (fun os started H enc _ => bound_lifted os started H enc)

end Go.Proofs.Ytokiakcmdbihhaa
