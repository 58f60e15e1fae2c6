/- Every Done of the program answers as the document's Done does, whatever the registers, the effect and the value. -/
import Derived.Test.YtjofnajamlmllaaDoorI9
open Go Go.Sx Go.Proofs
open Go.ChangeShapes Go.WideShapes Go.ChangeAt Go.RowKit
set_option maxRecDepth 100000
namespace Go.Proofs.YtjofnajamlmllaaDoor
theorem dones_spec (X : (AS × EF × A32)) (hX : (X.1.Ok ∧ X.2.1.Ok ∧ X.2.2.Ok)) : Go.Sx.Spec Tryd.prog 3 (lawDoneP.args X) (lawDoneP.H X) (fun r _ => r = .ret .tt) :=
  @Pat.spec _ lawDoneP Tryd.prog (dones_C X) 3 Tryd.f3 (cfg_tab rfl tLd_ok) Tryd.func3 X (dones_al X).out (fun r _ => r = .ret .tt) ⟨hX, rfl⟩

set_option maxRecDepth 100000 in
theorem dones_lifted (os : Os) (started : os.Started) (H : Type) (enc : TypeId × Value → H) :
    ReturnsInHanded {} Tryd.checked os 3 .any (fun w args => (Rows.aluDonesSpec.pre enc Tryd.prog Tryd.f3 Rows.aluDonesRow.domain false w args ∧ laidMetH Tryd.prog Rows.aluDonesRow.laid w) ∧ sizedMet enc Tryd.prog Tryd.f3 (OpenSpec.ofChange Rows.aluDonesSpec) false w args) (Rows.aluDonesSpec.post enc Tryd.prog Tryd.f3 false true false false) := by
  refine returnsInHanded_of_change_laid (C := Tryd.checked) Tryd.own started (by kernel_rfl) Tryd.func3
    (ChangeSpec.witness_shaped (enc := enc) (C := Tryd.checked) (os := os) (X := fun w _ => laidMetH Tryd.prog Rows.aluDonesRow.laid w) false (laidStart Tryd.prog 0 Go.Pinned.utf8First os) #[.agg #[.int .u32 0, .int .u32 0, .int .u32 0, .int .u32 0, .int .u32 0, .int .u32 0, .int .u32 0, .int .u32 0, .int .u32 0, .int .u32 0, .int .u32 0, .int .u32 0, .int .u32 0, .int .u32 0, .int .u32 0, .int .u32 0, .int .u32 0], .agg #[.int .i64 0, .int .i64 0, .int .u32 0, .int .u32 0], .int .u32 0] 8 rfl (World.shaped_of_RefB (by kernel_rfl) (by kernel_rfl)) (by kernel_rfl) (by kernel_rfl) (by kernel_rfl)
      (laidMetH_of_parts3 (fuel := 8) (laidMet_of_run' 8 (by kernel_rfl) (by kernel_rfl)) (by kernel_rfl) (by kernel_rfl))) ?_
  intro W base args ds gs before hval hW hL hsh
  refine law_post (tb := 4) Tryd.laidOut rfl (of_decide_eq_true (by kernel_rfl)) rfl (by kernel_rfl) (fun ds hd => ?_) hW ?_
  · match ds, hd with
    | [a0, a1, a2], _ => rfl
  · obtain ⟨p, q, hA, -⟩ := hW
    have hA : DataW.TrodAll enc Tryd.prog W 0 (fun _ => true) true [25, 27, 22] args.toList ds p := hA
    obtain ⟨v0, v1, v2, d0, d1, d2, p0, p1, p2, e1, rfl, -, h0, h1, h2⟩ := trodAll_three hA
    have hv0 : Value.okWide Tryd.prog W .any base 25 v0 := hval 0 _ v0 rfl (by rw [e1]; rfl)
    have hv1 : Value.okWide Tryd.prog W .any base 27 v1 := hval 1 _ v1 rfl (by rw [e1]; rfl)
    have hv2 : Value.okWide Tryd.prog W .any base 22 v2 := hval 2 _ v2 rfl (by rw [e1]; rfl)
    obtain ⟨s, hs, hg0, hvx0⟩ := st_open hv0 h0
    obtain ⟨e, he, hg1, hvx1⟩ := ef_open hv1 h1
    obtain ⟨v, hv, hg2, hvx2⟩ := u32_open hv2 h2
    obtain ⟨hk, hown⟩ := hok_ro (W := W) [] (by
      intro y hy
      simp only [List.not_mem_nil] at hy)
    exact ⟨_, _, lawDoneP.args (s, e, v), hk, gok_start hL hsh hown, hown, by rw [e1]; show [_, _, _] = _; rw [hvx0, hvx1, hvx2], by
      intro t ht
      simp only [lawDoneP, List.mem_cons, List.not_mem_nil, or_false] at ht
      rcases ht with rfl | rfl | rfl
      · exact hg0 _
      · exact hg1 _
      · exact hg2 _, dones_spec (s, e, v) ⟨hs, he, hv⟩⟩

theorem dones_holds : Rows.AluDonesSaid :=
  OpenClaim.holds_of_wide 3 Tryd.f3 rfl rfl rfl rfl rfl rfl rfl ⟨rfl, rfl, rfl, rfl, rfl⟩ rfl rfl rfl rfl rfl (by kernel_rfl) Tryd.func3 (by kernel_rfl)
    (of_decide_eq_true (by kernel_rfl)) (by unfold Func.isWrapper; first | (rw [if_pos (by decide +kernel)]; kernel_rfl) | (rw [if_neg (by decide +kernel)]; exact ⟨rfl, rfl⟩))
    (fun os started H enc _ => dones_lifted os started H enc)
theorem dones_card : Rows.AluDonesCardSaid :=
  Claim7.holds_tied_plain_at .later [] [.data, .data, .data, .data, .sentinel, .sentinel, .pinned] true (true, "12a61791ac949244444552d654de7188575cb29a533056da1f7b28dd766461c2") true dones_holds (fun _ h => by cases h) (by kernel_rfl) (fun _ h => by cases h) aluDones_row_tie rfl ⟨rfl, rfl⟩ (by kernel_rfl) rfl
    (fun f fn hf hfn => by
      obtain rfl : f = 3 := Option.some.inj ((show Tryd.prog.funcNamed "warder/warderlaw03.AluDones" = some 3 by kernel_rfl).symm.trans hf) |>.symm
      obtain rfl : fn = Tryd.f3 := (Option.some.inj (Tryd.func3.symm.trans hfn)).symm
      exact ⟨by kernel_rfl, fun j t ht => by
        rw [Tryd.params3] at ht
        have hm : t ∈ [25, 27, 22] := by simpa using Array.mem_of_getElem? ht
        have hall : ([25, 27, 22].all fun u => !Tryd.pinned.checked.prog.wantsStandIn u) = true := by kernel_rfl
        have := List.all_eq_true.1 hall t hm
        simpa using this⟩)
    (by kernel_rfl)

end Go.Proofs.YtjofnajamlmllaaDoor
