/- Every switch that the program answers is answered as the document answers it, and what is borne so is borne with fewer extras, and by the sum at each time. -/
import Derived.Test.YtijpjhelgggmfaaG5
import Derived.Test.YtijpjhelgggmfaaC2
open Go Go.Sx Go.Proofs
open Go.ChangeShapes Go.WideShapes Go.ChangeAt Go.RowKit
set_option maxRecDepth 100000
namespace Go.Proofs.Ytijpjhelgggmfaa

theorem ls_open2 {H : Type} {enc : TypeId × Value → H} {W : World} {base : Nat} {v : Value} {d : DataW H} {p : List MemPlace} (hv : Value.okWide Try.prog W .any base 22 v) (h : DataW.Trod enc Try.prog W 0 (fun _ => true) true 22 v d p) (hw : 0 < W.heap.size) :
    ∃ (x : LS) (pl : Nat × Nat), (x.Ok ∧ x.len ≤ x.cap) ∧ pl.1 < W.heap.size ∧ (∀ ρ, Holds ρ (wc W pl.1) (x.reg.c 0) pl.2) ∧ (∀ n, Go.Sx.Good n (x.reg.c 0)) ∧ x.reg.own = false ∧ ∀ (ρ : Rho) (r : Nat), ρ r 0 = pl → val ρ (x.v r) = v := by
  obtain ⟨b, len, cap, f, pl, h1, h2, h3, h4, h5, h6, rfl⟩ := arg_slice (d := 3) Try.underlying22 (by kernel_rfl) hv h hw
  obtain ⟨k, q, t, h8⟩ := open_loads (fun j hj => (h4 j hj).1)
  refine ⟨⟨b, 0, len, cap, len, k, q, t⟩, pl, ⟨⟨h1, by show 0 + len ≤ len; omega⟩, h3⟩, h5, fun ρ j hj => ?_, fun n j hj => ⟨rfl, trivial, trivial, trivial, trivial⟩, rfl, fun ρ r hr => ?_⟩
  · have hc : Try.prog.cellsOf 40 = 3 := by kernel_rfl
    have := h6 ρ j hj
    rw [h8 j hj, hc] at this
    exact this
  · cases b
    · simp only [LS.v, Sx.val, T.cv, cond_false, sc, pla, hr, off, Nat.zero_mul, Nat.add_zero]
    · rfl

theorem swl_spec (X : (LS × LS)) (hX : ((X.1.Ok ∧ X.1.len ≤ X.1.cap) ∧ X.2.Ok ∧ X.2.len ≤ X.2.cap)) : Go.Sx.Spec Try.prog 8 (swlP.args X) (swlP.H X) (fun r _ => r = .ret .tt) :=
  @Pat.spec _ swlP Try.prog (swl_C X) 8 Try.f8 (cfg_tab rfl tSwl_ok) Try.func8 X (swl_al X).out (fun r _ => r = .ret .tt) ⟨hX, rfl⟩

set_option maxRecDepth 100000 in
theorem swl_lifted (os : Os) (started : os.Started) (H : Type) (enc : TypeId × Value → H) :
    ReturnsInHanded {} Try.checked os 8 .any (Rows.admitSwitchesSpec.pre6 enc Try.prog Try.f8 Rows.admitSwitchesRow.domain false) (Rows.admitSwitchesSpec.post enc Try.prog Try.f8 false true false false) := by
  refine returnsInHanded_of_change_shaped (C := Try.checked) Try.own started (by kernel_rfl) Try.func8
    (ChangeSpec.witness6 (enc := enc) (C := Try.checked) false ⟨#[], #[.slice none 0 0, .slice none 0 0], []⟩ 8 (by kernel_rfl) (by kernel_rfl) (by kernel_rfl) (by kernel_rfl)) ?_
  intro W base args ds gs before hval hW hcnd _ hsh _
  have hsh : W.ShapedOpen Try.prog := hsh
  refine law_post (tb := 4) Try.laidOut rfl (of_decide_eq_true (by kernel_rfl)) rfl (by kernel_rfl) (fun ds hd => ?_) hW ?_
  · match ds, hd with
    | [a0, a1], _ => rfl
  · obtain ⟨p, q, hA, -⟩ := hW
    have hA : DataW.TrodAll enc Try.prog W 0 (fun _ => true) true [22, 22] args.toList ds p := hA
    obtain ⟨v0, v1, d0, d1, p0, p1, e1, rfl, -, h0, h1⟩ := trodAll_two hA
    have hv0 : Value.okWide Try.prog W .any base 22 v0 := hval 0 _ v0 rfl (by rw [e1]; rfl)
    have hv1 : Value.okWide Try.prog W .any base 22 v1 := hval 1 _ v1 rfl (by rw [e1]; rfl)
    obtain ⟨x, pl0, hx, hlt0, hh0, hg0, ho0, hvx0⟩ := ls_open2 hv0 h0 (shaped_pos hsh)
    obtain ⟨y, pl1, hy, hlt1, hh1, hg1, ho1, hvx1⟩ := ls_open2 hv1 h1 (shaped_pos hsh)
    obtain ⟨hk, hown⟩ := hok_ro (W := W) [(x.reg, pl0), (y.reg, pl1)] (by
      intro y hy
      simp only [List.mem_cons, List.not_mem_nil, or_false] at hy
      rcases hy with rfl | rfl
      · exact ⟨ho0, rfl, hg0, hlt0, hh0⟩
      · exact ⟨ho1, rfl, hg1, hlt1, hh1⟩)
    exact ⟨_, _, swlP.args (x, y), hk, hown, by rw [e1]; show [_, _] = _; rw [hvx0 _ 0 rfl, hvx1 _ 1 rfl], by
      intro t ht
      simp only [swlP, List.mem_cons, List.not_mem_nil, or_false] at ht
      rcases ht with rfl | rfl
      · exact ⟨rfl, fun _ => trivial, fun _ => (show (0 : Nat) < 2 from by decide)⟩
      · exact ⟨rfl, fun _ => trivial, fun _ => (show (1 : Nat) < 2 from by decide)⟩, swl_spec (x, y) ⟨hx, hy⟩⟩

theorem swl_holds : Rows.AdmitSwitchesSaid :=
  OpenClaim.holds_of_wide 8 Try.f8 rfl rfl rfl rfl rfl rfl rfl ⟨rfl, rfl, rfl, rfl, rfl⟩ rfl rfl rfl rfl rfl (by kernel_rfl) Try.func8 (by kernel_rfl)
    (of_decide_eq_true (by kernel_rfl)) (by unfold Func.isWrapper; first | (rw [if_pos (by decide +kernel)]; kernel_rfl) | (rw [if_neg (by decide +kernel)]; exact ⟨rfl, rfl⟩))
    (fun os started H enc _ => swl_lifted os started H enc)

end Go.Proofs.Ytijpjhelgggmfaa
