/- The statement MeterSums holds: for every row of calls, whatever its length and content, the law answers true and leaves its argument as it was. No conditions. -/
import Derived.Test.YtglbonfohmdcnaaMeterC
import Derived.Test.YtglbonfohmdcnaaRows
open Go Go.Sx Go.Proofs
open Go.ChangeShapes Go.WideShapes Go.ChangeAt Go.RowKit
set_option maxRecDepth 100000
namespace Go.Proofs.Ytglbonfohmdcnaa

theorem Try.own : ownKnob Try.prog.godebug = none := by kernel_rfl
theorem Try.laidOut : laidOutB Try.prog = true := by kernel_rfl

/-- A row of calls, read. -/
theorem open_calls {f : Nat → T} {n : Nat} (h : ∀ j, j < n → FOk Try.prog 3 35 (f j)) :
    ∃ core kind times : Nat → Int, ∃ wait : Nat → Bool, (∀ j, i64 (core j) ∧ i64 (kind j) ∧ u64 (times j)) ∧
      ∀ j, j < n → f j = .cons (.int .i64 (core j)) (.cons (.int .i64 (kind j)) (.cons (.int .u64 (times j)) (.cons (.bool (wait j)) .nil))) := by
  have hex : ∀ j, ∃ p : Int × Int × Int × Bool, (i64 p.1 ∧ i64 p.2.1 ∧ u64 p.2.2.1) ∧ (j < n → f j = .cons (.int .i64 p.1) (.cons (.int .i64 p.2.1) (.cons (.int .u64 p.2.2.1) (.cons (.bool p.2.2.2) .nil)))) := fun j => by
    by_cases hj : j < n
    · have h1 := h j hj
      have h2 : ∃ a r, f j = .cons a r ∧ (∃ m, a = .int .i64 m ∧ IntKind.i64.min ≤ m ∧ m ≤ IntKind.i64.max) ∧ ∃ a2 r2, r = .cons a2 r2 ∧ (∃ m, a2 = .int .i64 m ∧ IntKind.i64.min ≤ m ∧ m ≤ IntKind.i64.max) ∧
          ∃ a3 r3, r2 = .cons a3 r3 ∧ (∃ m, a3 = .int .u64 m ∧ IntKind.u64.min ≤ m ∧ m ≤ IntKind.u64.max) ∧ ∃ a4 r4, r3 = .cons a4 r4 ∧ (∃ b, a4 = .bool b) ∧ r4 = .nil := @Eq.mp _ _ (by kernel_rfl) h1
      obtain ⟨_, _, e, ⟨m1, rfl, b1⟩, _, _, rfl, ⟨m2, rfl, b2⟩, _, _, rfl, ⟨m3, rfl, b3⟩, _, _, rfl, ⟨b, rfl⟩, rfl⟩ := h2
      exact ⟨(m1, m2, m3, b), ⟨fok_i64 b1, fok_i64 b2, fok_u64 b3⟩, fun _ => e⟩
    · exact ⟨(0, 0, 0, false), ⟨⟨by decide, by decide⟩, ⟨by decide, by decide⟩, ⟨by decide, by decide⟩⟩, fun h => absurd h hj⟩
  obtain ⟨g, hg⟩ := Classical.axiomOfChoice hex
  exact ⟨fun j => (g j).1, fun j => (g j).2.1, fun j => (g j).2.2.1, fun j => (g j).2.2.2, fun j => (hg j).1, fun j => (hg j).2⟩

theorem sums_spec (x : CS) (hx : x.Ok) : Go.Sx.Spec Try.prog 4 [x.t 0] [x.reg] (fun r _ => r = .ret .tt) :=
  @Pat.spec _ sumsP Try.prog (sums_C x) 4 Try.f4 (cfg_tab rfl tTop_ok) Try.func4 x (sums_al x).out (fun r _ => r = .ret .tt) ⟨hx, rfl⟩

theorem cs_open {H : Type} {enc : TypeId × Value → H} {W : World} {base : Nat} {v : Value} {d : DataW H} {p : List MemPlace} (hv : Value.okWide Try.prog W .any base 22 v) (h : DataW.Trod enc Try.prog W 0 (fun _ => true) true 22 v d p) (hw : 0 < W.heap.size) :
    ∃ (x : CS) (pl : Nat × Nat), x.Ok ∧ pl.1 < W.heap.size ∧ (∀ ρ, Holds ρ (wc W pl.1) (x.reg.c 0) pl.2) ∧ ∀ (ρ : Rho) (r : Nat), ρ r 0 = pl → val ρ (x.t r) = v := by
  obtain ⟨b, len, cap, f, pl, h1, h2, h3, h4, h5, h6, rfl⟩ := arg_slice (d := 3) Try.underlying22 (by kernel_rfl) hv h hw
  obtain ⟨core, kind, times, wait, h7, h8⟩ := open_calls (fun j hj => (h4 j hj).1)
  refine ⟨⟨b, len, cap, core, kind, times, wait⟩, pl, ⟨h1, h2, h7⟩, h5, fun ρ j hj => ?_, fun ρ r hr => ?_⟩
  · have hc : Try.prog.cellsOf 35 = 4 := by kernel_rfl
    have := h6 ρ j hj
    rw [h8 j hj, hc] at this
    exact this
  · cases b
    · simp only [CS.t, Sx.val, T.cv, cond_false, sc, pla, hr, off, Nat.zero_mul, Nat.add_zero]
    · rfl

set_option maxRecDepth 100000 in
theorem sums_lifted (os : Os) (started : os.Started) (H : Type) (enc : TypeId × Value → H) :
    ReturnsInHanded {} Try.checked os 4 .any (Rows.meterSumsSpec.pre6 enc Try.prog Try.f4 Rows.meterSumsRow.domain false) (Rows.meterSumsSpec.post enc Try.prog Try.f4 false true false false) := by
  refine returnsInHanded_of_change_shaped (C := Try.checked) Try.own started (by kernel_rfl) Try.func4
    (ChangeSpec.witness6 (enc := enc) (C := Try.checked) false ⟨#[], #[.slice none 0 0], []⟩ 8 (by kernel_rfl) (by kernel_rfl) (by kernel_rfl) (by kernel_rfl)) ?_
  intro W base args ds gs before hval hW hcnd _ hsh _
  have hsh : W.ShapedOpen Try.prog := hsh
  refine law_post (tb := 4) Try.laidOut rfl (of_decide_eq_true (by kernel_rfl)) rfl (by kernel_rfl) (fun ds hd => ?_) hW ?_
  · match ds, hd with
    | [a], _ => rfl
  · obtain ⟨p, q, hA, -⟩ := hW
    have hA : DataW.TrodAll enc Try.prog W 0 (fun _ => true) true [22] args.toList ds p := hA
    obtain ⟨v0, d0, e1, rfl, h0⟩ := trodAll_one hA
    have hv0 : Value.okWide Try.prog W .any base 22 v0 := hval 0 _ v0 rfl (by rw [e1]; rfl)
    obtain ⟨x, pl, hx, hlt, hh, hvx⟩ := cs_open hv0 h0 (shaped_pos hsh)
    obtain ⟨hk, hown⟩ := hok_ro (W := W) [(x.reg, pl)] (by
      intro y hy
      simp only [List.mem_singleton] at hy
      subst hy
      exact ⟨rfl, rfl, fun n j hj => ⟨rfl, trivial, trivial, trivial, trivial, trivial⟩, hlt, hh⟩)
    exact ⟨_, _, [x.t 0], hk, hown, by rw [e1]; simp only [List.map_cons, List.map_nil]; rw [hvx _ 0 rfl], fun t ht => by
      simp only [List.mem_singleton] at ht
      subst ht
      exact ⟨rfl, fun _ => trivial, fun _ => Nat.zero_lt_one⟩, sums_spec x hx⟩

theorem sums_holds : Rows.MeterSumsSaid :=
  OpenClaim.holds_of_wide 4 Try.f4 rfl rfl rfl rfl rfl rfl rfl ⟨rfl, rfl, rfl, rfl, rfl⟩ rfl rfl rfl rfl rfl (by kernel_rfl) Try.func4 (by kernel_rfl)
    (of_decide_eq_true (by kernel_rfl)) (by unfold Func.isWrapper; first | (rw [if_pos (by decide +kernel)]; kernel_rfl) | (rw [if_neg (by decide +kernel)]; exact ⟨rfl, rfl⟩))
    (fun os started H enc _ => sums_lifted os started H enc)
end Go.Proofs.Ytglbonfohmdcnaa
