/- WordBytes: every Get, Set and Bytes answers what the document says, for every input. -/
import Derived.Test.YtaaploablbkilaaLawJ
import Derived.Test.YtaaploablbkilaaRows
open Go Go.Sx Go.Proofs
open Go.ChangeShapes Go.WideShapes Go.ChangeAt Go.RowKit
set_option maxRecDepth 100000
namespace Go.Proofs.Ytaaploablbkilaa

theorem bs_open {H : Type} {enc : TypeId × Value → H} {W : World} {base : Nat} {v : Value} {d : DataW H} {p : List MemPlace} (hv : Value.okWide Try.prog W .any base 28 v) (h : DataW.Trod enc Try.prog W 0 (fun _ => true) true 28 v d p) (hw : 0 < W.heap.size) :
    ∃ (x : BS) (pl : Nat × Nat), x.Ok ∧ pl.1 < W.heap.size ∧ (∀ ρ, Holds ρ (wc W pl.1) (x.reg.c 0) pl.2) ∧ (∀ n, Go.Sx.Good n (x.reg.c 0)) ∧ x.reg.own = false ∧ ∀ (ρ : Rho) (r : Nat), ρ r 0 = pl → val ρ (x.t r) = v := by
  obtain ⟨b, len, cap, f, pl, h1, h2, h3, h4, h5, h6, rfl⟩ := arg_slice (d := 1) Try.underlying28 (by kernel_rfl) hv h hw
  have hex : ∀ j, ∃ b : Int, j < len → f j = .int .u8 b ∧ u8 b := fun j => by
    by_cases hj : j < len
    · have h1 : ∃ m, f j = .int .u8 m ∧ IntKind.u8.min ≤ m ∧ m ≤ IntKind.u8.max := @Eq.mp _ _ (by kernel_rfl) (h4 j hj).1
      obtain ⟨m, e, hm⟩ := h1
      exact ⟨m, fun _ => ⟨e, by have h0 : IntKind.u8.min = 0 := rfl; have h9 : IntKind.u8.max = 255 := rfl; unfold u8; omega⟩⟩
    · exact ⟨0, fun h => absurd h hj⟩
  obtain ⟨g, hg⟩ := Classical.axiomOfChoice hex
  refine ⟨⟨b, len, cap, g⟩, pl, ⟨h1, h2, h3, fun j hj => (hg j hj).2⟩, h5, fun ρ j hj => ?_, fun n j hj => ⟨rfl, trivial⟩, rfl, fun ρ r hr => ?_⟩
  · have hc : Try.prog.cellsOf 5 = 1 := by kernel_rfl
    have := h6 ρ j hj
    rw [(hg j hj).1, hc] at this
    exact this
  · cases b
    · simp only [BS.t, Sx.val, T.cv, cond_false, sc, pla, hr, off, Nat.zero_mul, Nat.add_zero]
    · rfl
theorem wl_open {H : Type} {enc : TypeId × Value → H} {W : World} {base : Nat} {v : Value} {d : DataW H} {p : List MemPlace} (hv : Value.okWide Try.prog W .any base 29 v) (h : DataW.Trod enc Try.prog W 0 (fun _ => true) true 29 v d p) (hw : 0 < W.heap.size) :
    ∃ (x : WL) (pl : Nat × Nat), x.Ok ∧ pl.1 < W.heap.size ∧ (∀ ρ, Holds ρ (wc W pl.1) (x.reg.c 0) pl.2) ∧ (∀ n, Go.Sx.Good n (x.reg.c 0)) ∧ x.reg.own = false ∧ ∀ (ρ : Rho) (r : Nat), ρ r 0 = pl → val ρ (x.t r) = v := by
  obtain ⟨b, len, cap, f, pl, h1, h2, h3, h4, h5, h6, rfl⟩ := arg_slice (d := 1) Try.underlying29 (by kernel_rfl) hv h hw
  have hex : ∀ j, ∃ b : Int, (j < len → f j = .int .u32 b) ∧ u32 b := fun j => by
    by_cases hj : j < len
    · have h1 : ∃ m, f j = .int .u32 m ∧ IntKind.u32.min ≤ m ∧ m ≤ IntKind.u32.max := @Eq.mp _ _ (by kernel_rfl) (h4 j hj).1
      obtain ⟨m, e, hm⟩ := h1
      exact ⟨m, fun _ => e, fok_u32 hm⟩
    · exact ⟨0, fun h => absurd h hj, by decide, by decide⟩
  obtain ⟨g, hg⟩ := Classical.axiomOfChoice hex
  refine ⟨⟨b, len, cap, g⟩, pl, ⟨h1, h2, fun j => (hg j).2⟩, h5, fun ρ j hj => ?_, fun n j hj => ⟨rfl, trivial⟩, rfl, fun ρ r hr => ?_⟩
  · have hc : Try.prog.cellsOf 22 = 1 := by kernel_rfl
    have := h6 ρ j hj
    rw [(hg j).1 hj, hc] at this
    exact this
  · cases b
    · simp only [WL.t, Sx.val, T.cv, cond_false, sc, pla, hr, off, Nat.zero_mul, Nat.add_zero]
    · rfl
theorem wbytes_spec (X : (BS × AI × A32 × WL)) (hX : (X.1.Ok ∧ X.2.1.Ok ∧ X.2.2.1.Ok ∧ X.2.2.2.Ok)) : Go.Sx.Spec Try.prog 4 (wbytesP.args X) (wbytesP.H X) (fun r _ => r = .ret .tt) :=
  @Pat.spec _ wbytesP Try.prog (wbytes_C X) 4 Try.f4 (cfg_tab rfl tWB_ok) Try.func4 X (wbytes_al X).out (fun r _ => r = .ret .tt) ⟨hX, rfl⟩

set_option maxRecDepth 100000 in
theorem wbytes_lifted (os : Os) (started : os.Started) (H : Type) (enc : TypeId × Value → H) :
    ReturnsInHanded {} Try.checked os 4 .any (Rows.wordBytesSpec.pre6 enc Try.prog Try.f4 Rows.wordBytesRow.domain false) (Rows.wordBytesSpec.post enc Try.prog Try.f4 false true false false) := by
  refine returnsInHanded_of_change_shaped (C := Try.checked) Try.own started (by kernel_rfl) Try.func4
    (ChangeSpec.witness6 (enc := enc) (C := Try.checked) false ⟨#[], #[.slice none 0 0, .int .i64 0, .int .u32 0, .slice none 0 0], []⟩ 8 (by kernel_rfl) (by kernel_rfl) (by kernel_rfl) (by kernel_rfl)) ?_
  intro W base args ds gs before hval hW hcnd _ hsh _
  have hsh : W.ShapedOpen Try.prog := hsh
  refine law_post (tb := 4) Try.laidOut rfl (of_decide_eq_true (by kernel_rfl)) rfl (by kernel_rfl) (fun ds hd => ?_) hW ?_
  · match ds, hd with
    | [a0, a1, a2, a3], _ => rfl
  · obtain ⟨p, q, hA, -⟩ := hW
    have hA : DataW.TrodAll enc Try.prog W 0 (fun _ => true) true [28, 3, 22, 29] args.toList ds p := hA
    obtain ⟨v0, v1, v2, v3, d0, d1, d2, d3, p0, p1, p2, p3, e1, rfl, -, h0, h1, h2, h3⟩ := trodAll_four hA
    have hv0 : Value.okWide Try.prog W .any base 28 v0 := hval 0 _ v0 rfl (by rw [e1]; rfl)
    have hv1 : Value.okWide Try.prog W .any base 3 v1 := hval 1 _ v1 rfl (by rw [e1]; rfl)
    have hv2 : Value.okWide Try.prog W .any base 22 v2 := hval 2 _ v2 rfl (by rw [e1]; rfl)
    have hv3 : Value.okWide Try.prog W .any base 29 v3 := hval 3 _ v3 rfl (by rw [e1]; rfl)
    obtain ⟨x, pl0, hx, hlt0, hh0, hg0, ho0, hvx0⟩ := bs_open hv0 h0 (shaped_pos hsh)
    obtain ⟨a, ha, hg1, hvx1⟩ := int_open hv1 h1
    obtain ⟨w, hw, hg2, hvx2⟩ := u32_open hv2 h2
    obtain ⟨l, pl3, hl, hlt3, hh3, hg3, ho3, hvx3⟩ := wl_open hv3 h3 (shaped_pos hsh)
    obtain ⟨hk, hown⟩ := hok_ro (W := W) [(x.reg, pl0), (l.reg, pl3)] (by
      intro y hy
      simp only [List.mem_cons, List.not_mem_nil, or_false] at hy
      rcases hy with rfl | rfl
      · exact ⟨ho0, rfl, hg0, hlt0, hh0⟩
      · exact ⟨ho3, rfl, hg3, hlt3, hh3⟩)
    exact ⟨_, _, wbytesP.args (x, a, w, l), hk, hown, by rw [e1]; show [_, _, _, _] = _; rw [hvx0 _ 0 rfl, hvx1, hvx2, hvx3 _ 1 rfl], by
      intro t ht
      simp only [wbytesP, List.mem_cons, List.not_mem_nil, or_false] at ht
      rcases ht with rfl | rfl | rfl | rfl
      · exact ⟨rfl, fun _ => trivial, fun _ => (show (0 : Nat) < 2 from by decide)⟩
      · exact hg1 _
      · exact hg2 _
      · exact ⟨rfl, fun _ => trivial, fun _ => (show (1 : Nat) < 2 from by decide)⟩, wbytes_spec (x, a, w, l) ⟨hx, ha, hw, hl⟩⟩

theorem wbytes_holds : Rows.WordBytesSaid :=
  OpenClaim.holds_of_wide 4 Try.f4 rfl rfl rfl rfl rfl rfl rfl ⟨rfl, rfl, rfl, rfl, rfl⟩ rfl rfl rfl rfl rfl (by kernel_rfl) Try.func4 (by kernel_rfl)
    (of_decide_eq_true (by kernel_rfl)) (by unfold Func.isWrapper; first | (rw [if_pos (by decide +kernel)]; kernel_rfl) | (rw [if_neg (by decide +kernel)]; exact ⟨rfl, rfl⟩))
    (fun os started H enc _ => wbytes_lifted os started H enc)

end Go.Proofs.Ytaaploablbkilaa
