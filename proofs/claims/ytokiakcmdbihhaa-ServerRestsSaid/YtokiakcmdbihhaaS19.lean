/- ServerRests holds: a server from which nothing was taken has all of its budget usable, at any time, woken or not, for all arguments. -/
import Derived.Test.YtokiakcmdbihhaaS15
import Derived.Test.YtokiakcmdbihhaaSO
open Go Go.Sx Go.Proofs
open Go.ChangeShapes Go.WideShapes Go.ChangeAt Go.RowKit
set_option maxRecDepth 100000
namespace Go.Proofs.Ytokiakcmdbihhaa

theorem open_nums {f : Nat → T} {n : Nat} (h : ∀ j, j < n → FOk Try.prog 3 22 (f j)) : ∃ w : Nat → Int, ∀ j, j < n → f j = .int .u64 (w j) ∧ u64 (w j) := by
  have hex : ∀ j, ∃ p : Int, j < n → f j = .int .u64 p ∧ u64 p := fun j => by
    by_cases hj : j < n
    · have h1 := h j hj
      have h2 : ∃ m, f j = .int .u64 m ∧ IntKind.u64.min ≤ m ∧ m ≤ IntKind.u64.max := @Eq.mp _ _ (by kernel_rfl) h1
      obtain ⟨m, e, b⟩ := h2
      exact ⟨m, fun _ => ⟨e, fok_u64 b⟩⟩
    · exact ⟨0, fun h => absurd h hj⟩
  obtain ⟨g, hg⟩ := Classical.axiomOfChoice hex
  exact ⟨g, hg⟩
theorem us_open {H : Type} {enc : TypeId × Value → H} {W : World} {base : Nat} {v : Value} {d : DataW H} {p : List MemPlace} (hv : Value.okWide Try.prog W .any base 30 v) (h : DataW.Trod enc Try.prog W 0 (fun _ => true) true 30 v d p) (hw : 0 < W.heap.size) :
    ∃ (x : US) (pl : Nat × Nat), x.Ok ∧ pl.1 < W.heap.size ∧ (∀ ρ, Holds ρ (wc W pl.1) (x.reg.c 0) pl.2) ∧ (∀ n, Go.Sx.Good n (x.reg.c 0)) ∧ x.reg.own = false ∧ ∀ (ρ : Rho) (r : Nat), ρ r 0 = pl → val ρ (x.v r) = v := by
  obtain ⟨b, len, cap, f, pl, h1, h2, h3, h4, h5, h6, rfl⟩ := arg_slice (d := 3) Try.underlying30 (by kernel_rfl) hv h hw
  obtain ⟨w, h8⟩ := open_nums (fun j hj => (h4 j hj).1)
  refine ⟨⟨b, 0, len, cap, len, w⟩, pl, ⟨h1, by show 0 + len ≤ len; omega, fun j hj => by have hj : j < len := hj; dsimp only; rw [Nat.zero_add]; exact (h8 j hj).2⟩, h5, fun ρ j hj => ?_, fun n j hj => ⟨rfl, trivial⟩, rfl, fun ρ r hr => ?_⟩
  · have hc : Try.prog.cellsOf 22 = 1 := by kernel_rfl
    have := h6 ρ j hj
    rw [(h8 j hj).1, hc] at this
    exact this
  · cases b
    · simp only [US.v, Sx.val, T.cv, cond_false, sc, pla, hr, off, Nat.zero_mul, Nat.add_zero]
    · rfl
def restsP : Pat (AI × A64 × A64 × A64 × US) where
  view _ _ := none
  args x := [x.1.t, x.2.1.t, x.2.2.1.t, x.2.2.2.1.t, x.2.2.2.2.v 0]
  H x := [x.2.2.2.2.reg]
  out x := .need (x.1.Ok ∧ x.2.1.Ok ∧ x.2.2.1.Ok ∧ x.2.2.2.1.Ok ∧ x.2.2.2.2.Ok) (.retq .tt)
theorem rests_spec (X : AI × A64 × A64 × A64 × US) (hX : X.1.Ok ∧ X.2.1.Ok ∧ X.2.2.1.Ok ∧ X.2.2.2.1.Ok ∧ X.2.2.2.2.Ok) : Go.Sx.Spec Try.prog 7 (restsP.args X) (restsP.H X) (fun r _ => r = .ret .tt) := by
  obtain ⟨⟨k⟩, Y⟩ := X
  by_cases hr : rngI Y.1.v Y.2.1.v Y.2.2.1.v
  · by_cases h1 : k = 1
    · subst h1
      exact @Pat.spec _ rsP Try.prog (rs_C Y) 7 Try.f7 (cfg_tab rfl tRs_ok) Try.func7 Y (rs_al Y).out (fun r _ => r = .ret .tt) ⟨⟨hX.2, hr⟩, rfl⟩
    · by_cases h2 : k = 2
      · subst h2
        exact @Pat.spec _ rdP Try.prog (rd_C Y) 7 Try.f7 (cfg_tab rfl tRd_ok) Try.func7 Y (rd_al Y).out (fun r _ => r = .ret .tt) ⟨⟨hX.2, hr⟩, rfl⟩
      · exact @Pat.spec _ roP Try.prog (ro_C (⟨k⟩, Y)) 7 Try.f7 (cfg_tab rfl tBkO_ok) Try.func7 (⟨k⟩, Y) (ro_al (⟨k⟩, Y)).out (fun r _ => r = .ret .tt) ⟨⟨hX, fun q => by rcases q.1 with e | e; exact h1 e; exact h2 e⟩, rfl⟩
  · exact @Pat.spec _ roP Try.prog (ro_C (⟨k⟩, Y)) 7 Try.f7 (cfg_tab rfl tBkO_ok) Try.func7 (⟨k⟩, Y) (ro_al (⟨k⟩, Y)).out (fun r _ => r = .ret .tt) ⟨⟨hX, fun q => hr q.2⟩, rfl⟩

set_option maxRecDepth 100000 in
theorem rests_lifted (os : Os) (started : os.Started) (H : Type) (enc : TypeId × Value → H) :
    ReturnsInHanded {} Try.checked os 7 .any (Rows.serverRestsSpec.pre6 enc Try.prog Try.f7 Rows.serverRestsRow.domain false) (Rows.serverRestsSpec.post enc Try.prog Try.f7 false true false false) := by
  refine returnsInHanded_of_change_shaped (C := Try.checked) Try.own started (by kernel_rfl) Try.func7
    (ChangeSpec.witness6 (enc := enc) (C := Try.checked) false ⟨#[], #[.int .i64 0, .int .u64 0, .int .u64 0, .int .u64 0, .slice none 0 0], []⟩ 8 (by kernel_rfl) (by kernel_rfl) (by kernel_rfl) (by kernel_rfl)) ?_
  intro W base args ds gs before hval hW hcnd _ hsh _
  have hsh : W.ShapedOpen Try.prog := hsh
  refine law_post (tb := 4) Try.laidOut rfl (of_decide_eq_true (by kernel_rfl)) rfl (by kernel_rfl) (fun ds hd => ?_) hW ?_
  · match ds, hd with
    | [a0, a1, a2, a3, a4], _ => rfl
  · obtain ⟨p, q, hA, -⟩ := hW
    have hA : DataW.TrodAll enc Try.prog W 0 (fun _ => true) true [3, 22, 22, 22, 30] args.toList ds p := hA
    obtain ⟨v0, v1, v2, v3, v4, d0, d1, d2, d3, d4, p0, p1, p2, p3, p4, e1, rfl, -, h0, h1, h2, h3, h4⟩ := trodAll_five hA
    have hv0 : Value.okWide Try.prog W .any base 3 v0 := hval 0 _ v0 rfl (by rw [e1]; rfl)
    have hv1 : Value.okWide Try.prog W .any base 22 v1 := hval 1 _ v1 rfl (by rw [e1]; rfl)
    have hv2 : Value.okWide Try.prog W .any base 22 v2 := hval 2 _ v2 rfl (by rw [e1]; rfl)
    have hv3 : Value.okWide Try.prog W .any base 22 v3 := hval 3 _ v3 rfl (by rw [e1]; rfl)
    have hv4 : Value.okWide Try.prog W .any base 30 v4 := hval 4 _ v4 rfl (by rw [e1]; rfl)
    obtain ⟨kd, hkd, hg0, hvx0⟩ := int_open hv0 h0
    obtain ⟨q, hq, hg1, hvx1⟩ := u64_open hv1 h1
    obtain ⟨t, ht, hg2, hvx2⟩ := u64_open hv2 h2
    obtain ⟨n, hn, hg3, hvx3⟩ := u64_open hv3 h3
    obtain ⟨x, pl4, hx, hlt4, hh4, hg4, ho4, hvx4⟩ := us_open hv4 h4 (shaped_pos hsh)
    obtain ⟨hk, hown⟩ := hok_ro (W := W) [(x.reg, pl4)] (by
      intro y hy
      simp only [List.mem_cons, List.not_mem_nil, or_false] at hy
      rcases hy with rfl
      · exact ⟨ho4, rfl, hg4, hlt4, hh4⟩)
    exact ⟨_, _, restsP.args (kd, q, t, n, x), hk, hown, by rw [e1]; show [_, _, _, _, _] = _; rw [hvx0, hvx1, hvx2, hvx3, hvx4 _ 0 rfl], by
      intro t ht
      simp only [restsP, List.mem_cons, List.not_mem_nil, or_false] at ht
      rcases ht with rfl | rfl | rfl | rfl | rfl
      · exact hg0 _
      · exact hg1 _
      · exact hg2 _
      · exact hg3 _
      · exact ⟨rfl, fun _ => trivial, fun _ => (show (0 : Nat) < 1 from by decide)⟩, rests_spec (kd, q, t, n, x) ⟨hkd, hq, ht, hn, hx⟩⟩

theorem rests_holds : Rows.ServerRestsSaid :=
  OpenClaim.holds_of_wide 7 Try.f7 rfl rfl rfl rfl rfl rfl rfl ⟨rfl, rfl, rfl, rfl, rfl⟩ rfl rfl rfl rfl rfl (by kernel_rfl) Try.func7 (by kernel_rfl)
    (of_decide_eq_true (by kernel_rfl)) (by unfold Func.isWrapper; first | (rw [if_pos (by decide +kernel)]; kernel_rfl) | (rw [if_neg (by decide +kernel)]; exact ⟨rfl, rfl⟩))
    (fun os started H enc _ => rests_lifted os started H enc)

end Go.Proofs.Ytokiakcmdbihhaa
