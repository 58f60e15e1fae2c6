/- The statement MeterApart holds: for every row of calls and every call behind it, the law answers true and leaves its arguments as they were. No conditions. -/
import Derived.Test.YtglbonfohmdcnaaMeterG
import Derived.Test.YtglbonfohmdcnaaMeterO
open Go Go.Sx Go.Proofs
open Go.ChangeShapes Go.WideShapes Go.ChangeAt Go.RowKit
set_option maxRecDepth 100000
namespace Go.Proofs.Ytglbonfohmdcnaa

theorem cd_open {H : Type} {enc : TypeId × Value → H} {W : World} {base : Nat} {v : Value} {d : DataW H} {p : List MemPlace} (hv : Value.okWide Try.prog W .any base 35 v) (h : DataW.Trod enc Try.prog W 0 (fun _ => true) true 35 v d p) :
    ∃ x : CD, x.Ok ∧ (∀ n, Go.Sx.Good n x.t) ∧ ∀ ρ : Rho, val ρ x.t = v := by
  obtain ⟨u, h1, h2, h3⟩ := arg_flat (d := 3) (by kernel_rfl) hv h
  have h2' : ∃ a r, u = .cons a r ∧ (∃ m, a = .int .i64 m ∧ IntKind.i64.min ≤ m ∧ m ≤ IntKind.i64.max) ∧ ∃ a2 r2, r = .cons a2 r2 ∧ (∃ m, a2 = .int .i64 m ∧ IntKind.i64.min ≤ m ∧ m ≤ IntKind.i64.max) ∧
          ∃ a3 r3, r2 = .cons a3 r3 ∧ (∃ m, a3 = .int .u64 m ∧ IntKind.u64.min ≤ m ∧ m ≤ IntKind.u64.max) ∧ ∃ a4 r4, r3 = .cons a4 r4 ∧ (∃ b, a4 = .bool b) ∧ r4 = .nil := @Eq.mp _ _ (by kernel_rfl) h1
  obtain ⟨_, _, rfl, ⟨m1, rfl, b1⟩, _, _, rfl, ⟨m2, rfl, b2⟩, _, _, rfl, ⟨m3, rfl, b3⟩, _, _, rfl, ⟨b, rfl⟩, rfl⟩ := h2'
  exact ⟨⟨m1, m2, m3, b⟩, ⟨fok_i64 b1, fok_i64 b2, fok_u64 b3⟩, h2, h3⟩
theorem apart_spec (X : (CS × CD)) (hX : (X.1.Ok ∧ X.2.Ok)) : Go.Sx.Spec Try.prog 6 (apartP.args X) (apartP.H X) (fun r _ => r = .ret .tt) :=
  @Pat.spec _ apartP Try.prog (apart_C X) 6 Try.f6 (cfg_tab rfl tTop_ok) Try.func6 X (apart_al X).out (fun r _ => r = .ret .tt) ⟨hX, rfl⟩

set_option maxRecDepth 100000 in
theorem apart_lifted (os : Os) (started : os.Started) (H : Type) (enc : TypeId × Value → H) :
    ReturnsInHanded {} Try.checked os 6 .any (Rows.meterApartSpec.pre6 enc Try.prog Try.f6 Rows.meterApartRow.domain false) (Rows.meterApartSpec.post enc Try.prog Try.f6 false true false false) := by
  refine returnsInHanded_of_change_shaped (C := Try.checked) Try.own started (by kernel_rfl) Try.func6
    (ChangeSpec.witness6 (enc := enc) (C := Try.checked) false ⟨#[], #[.slice none 0 0, .agg #[.int .i64 0, .int .i64 0, .int .u64 0, .bool false]], []⟩ 8 (by kernel_rfl) (by kernel_rfl) (by kernel_rfl) (by kernel_rfl)) ?_
  intro W base args ds gs before hval hW hcnd _ hsh _
  have hsh : W.ShapedOpen Try.prog := hsh
  refine law_post (tb := 4) Try.laidOut rfl (of_decide_eq_true (by kernel_rfl)) rfl (by kernel_rfl) (fun ds hd => ?_) hW ?_
  · match ds, hd with
    | [a0, a1], _ => rfl
  · obtain ⟨p, q, hA, -⟩ := hW
    have hA : DataW.TrodAll enc Try.prog W 0 (fun _ => true) true [22, 35] args.toList ds p := hA
    obtain ⟨v0, v1, d0, d1, p0, p1, e1, rfl, -, h0, h1⟩ := trodAll_two hA
    have hv0 : Value.okWide Try.prog W .any base 22 v0 := hval 0 _ v0 rfl (by rw [e1]; rfl)
    have hv1 : Value.okWide Try.prog W .any base 35 v1 := hval 1 _ v1 rfl (by rw [e1]; rfl)
    obtain ⟨x, pl0, hx, hlt0, hh0, hg0, ho0, hvx0⟩ := cs_open hv0 h0 (shaped_pos hsh)
    obtain ⟨c, hc, hg1, hvx1⟩ := cd_open hv1 h1
    obtain ⟨hk, hown⟩ := hok_ro (W := W) [(x.reg, pl0)] (by
      intro y hy
      simp only [List.mem_cons, List.not_mem_nil, or_false] at hy
      rcases hy with rfl
      · exact ⟨ho0, rfl, hg0, hlt0, hh0⟩)
    exact ⟨_, _, apartP.args (x, c), hk, hown, by rw [e1]; show [_, _] = _; rw [hvx0 _ 0 rfl, hvx1], by
      intro t ht
      simp only [apartP, List.mem_cons, List.not_mem_nil, or_false] at ht
      rcases ht with rfl | rfl
      · exact ⟨rfl, fun _ => trivial, fun _ => (show (0 : Nat) < 1 from by decide)⟩
      · exact hg1 _, apart_spec (x, c) ⟨hx, hc⟩⟩

theorem apart_holds : Rows.MeterApartSaid :=
  OpenClaim.holds_of_wide 6 Try.f6 rfl rfl rfl rfl rfl rfl rfl ⟨rfl, rfl, rfl, rfl, rfl⟩ rfl rfl rfl rfl rfl (by kernel_rfl) Try.func6 (by kernel_rfl)
    (of_decide_eq_true (by kernel_rfl)) (by unfold Func.isWrapper; first | (rw [if_pos (by decide +kernel)]; kernel_rfl) | (rw [if_neg (by decide +kernel)]; exact ⟨rfl, rfl⟩))
    (fun os started H enc _ => apart_lifted os started H enc)

end Go.Proofs.Ytglbonfohmdcnaa
