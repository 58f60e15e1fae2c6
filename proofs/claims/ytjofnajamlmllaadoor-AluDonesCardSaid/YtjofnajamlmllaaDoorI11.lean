import Derived.Test.YtjofnajamlmllaaDoorI10
open Go Go.Sx Go.Proofs
set_option maxRecDepth 100000
namespace Go.Proofs.YtjofnajamlmllaaDoor
open Go.RowKit Go.Shelf Go.Isa
attribute [local go_sem] Oper.semAt_some

/-- What is known of the package variables, of a world alone. -/
def GW (W : World) : Prop := ∀ x ∈ globs, ∃ o, W.heap[x.1]? = some o ∧ x.2 o
theorem GW.of {ρ : Rho} {H : List Reg} {W : World} (h : GOk ρ H W) : GW W := fun x hx => (h x hx).1
theorem GW.ok {W : World} (h : GW W) (ρ : Rho) (H : List Reg) (hn : ∀ g ∈ H, g.own = false) : GOk ρ H W := fun x hx => ⟨h x hx, fun r g i e _ ho => by
  rw [getReg_eq] at e
  rw [hn g (List.mem_of_getElem? e)] at ho; cases ho⟩
theorem GW.lt {W : World} (h : GW W) : ∀ x ∈ globs, x.1 < W.heap.size := fun x hx => by
  obtain ⟨o, ho, _⟩ := h x hx
  exact (Array.getElem?_eq_some_iff.1 ho).1
theorem GW.kept {n : Nat} {W W' : World} (h : GW W) (hl : ∀ x ∈ globs, x.1 < n) (hk : ∀ b, b < n → W'.heap[b]? = W.heap[b]?) : GW W' := fun x hx => by
  obtain ⟨o, ho, hp⟩ := h x hx
  exact ⟨o, (hk _ (hl x hx)).trans ho, hp⟩
theorem below_wrel {c : Ctx} {ρ : Rho} {H : List Reg} {w : World} (h : WRel c ρ H w) (hn : ∀ g ∈ c.H, g.own = false) : Below c.w.heap.size c.w w :=
  ⟨h.os, h.tape, h.out, h.size, fun b hb => h.frame b hb fun r g i hg ho => by
    rw [getReg_eq] at hg
    rw [hn g (List.mem_of_getElem? hg)] at ho; cases ho⟩
theorem hok_nil (ρ : Rho) (w : World) : HOk ρ [] w := (hok_ro (W := w) [] (fun _ h => nomatch h)).1.agree fun r hr => by cases hr
def r0 : Rho := fun _ _ => (0, 0)

theorem read_calls (l : List UInt8) (hl : l.length < 4294967281) (hp : PreRead l) (W : World) (hG : GW W) :
    Calls Tryd.prog 24 #[.string (bs l)] W fun e w' => e = .returned (.tuple #[.agg #[.int .i64 (readX l).op, .int .i64 (readX l).a, .int .i64 (readX l).b, .int .i64 (readX l).imm], .bool (readB l)]) ∧ Below W.heap.size W w' := by
  have h := @Pat.spec _ rdP Tryd.prog (read_C (bs l)) 24 Tryd.f24 (cfg_tab rfl tRd_ok) Tryd.func24 (bs l) (read_al (bs l)).out (fun r H => r = .ret (.tup (.cons (insT (readX l)) (.cons (.bool (readB l)) .nil))) ∧ H = []) ⟨⟨hl, hp⟩, rfl, rfl⟩
  refine (h r0 W (hok_nil _ _) (hG.ok _ _ (fun _ h => nomatch h)) (fun t ht => ?_)).mono ?_
  · simp only [rdP, List.mem_singleton] at ht
    subst ht
    trivial
  · rintro e w' ⟨r, ρ', H', ⟨rfl, rfl⟩, hw, he, _⟩
    exact ⟨he, below_wrel hw (fun _ h => nomatch h)⟩
theorem enc_calls (x : Ins) (hx : Right x) (W : World) (hG : GW W) :
    Calls Tryd.prog 15 #[.agg #[.int .i64 x.op, .int .i64 x.a, .int .i64 x.b, .int .i64 x.imm]] W fun e w' => e = .returned (.tuple #[.int .u32 (encV x), .bool true]) ∧ Below W.heap.size W w' := by
  have hi : insI x := by
    have h := hx
    unfold Right at h
    unfold insI i64
    omega
  have h := @Pat.spec _ encP Tryd.prog (enc_C x) 15 Tryd.f15 (cfg_tab rfl tEnc_ok) Tryd.func15 x (enc_al x).out (fun r H => r = .ret (.tup (.cons (.int .u32 (encV x)) (.cons (.bool true) .nil))) ∧ H = []) ⟨hi, by rw [if_pos hx, decide_eq_true hx], rfl⟩
  refine (h r0 W (hok_nil _ _) (hG.ok _ _ (fun _ h => nomatch h)) (fun t ht => ?_)).mono ?_
  · simp only [encP, List.mem_singleton] at ht
    subst ht
    exact ⟨trivial, trivial, trivial, trivial, trivial⟩
  · rintro e w' ⟨r, ρ', H', ⟨rfl, rfl⟩, hw, he, _⟩
    exact ⟨he, below_wrel hw (fun _ h => nomatch h)⟩
theorem bytes1_calls (v : Int) (hv : u32 v) (blk : Nat) (W : World) (hc : W.cell? ⟨blk, 0, none⟩ = some (.int .u32 v)) (hG : GW W) :
    Calls Tryd.prog 25 #[.slice (some ⟨blk, 0, none⟩) 1 1] W fun e w' => ∃ b, e = .returned (.slice (some ⟨b, 0, none⟩) 4 4) ∧ W.heap.size ≤ b ∧ (∀ j, j < 4 → w'.cell? ⟨b, j, none⟩ = some (.int .u8 (byteF (fun _ => v) j))) ∧ Below W.heap.size W w' := by
  have hlt : blk < W.heap.size := by
    rcases Nat.lt_or_ge blk W.heap.size with h | h
    · exact h
    · simp [World.cell?, Array.getElem?_eq_none h] at hc
  obtain ⟨hk, hno⟩ := hok_ro (W := W) [(wordReg 1 (fun _ => v), (blk, 0))] (by
    intro y hy
    simp only [List.mem_singleton] at hy
    subst hy
    refine ⟨rfl, rfl, fun n j hj => ⟨rfl, trivial⟩, hlt, fun ρ j hj => ?_⟩
    have : j = 0 := by omega
    subst this
    exact hc)
  have h := @Pat.spec _ bytesPt Tryd.prog (bytes_C ⟨1, 1, fun _ => v⟩) 25 Tryd.f25 (cfg_tab rfl tBytes_ok) Tryd.func25 ⟨1, 1, fun _ => v⟩ (bytes_al ⟨1, 1, fun _ => v⟩).out (fun r H => r = .ret (.slice 1 0 [] 0 1 (4 * 1) (4 * 1)) ∧ H = [wordReg 1 (fun _ => v), bReg (4 * 1) (4 * 1) (byteF (fun _ => v))]) ⟨⟨show (1 : Nat) ≤ 1000 by decide, fun _ => hv⟩, rfl, rfl⟩
  refine (h _ W hk (hG.ok _ _ hno) (fun t ht => ?_)).mono ?_
  · simp only [bytesPt, List.mem_singleton] at ht
    subst ht
    show (0 : Nat) < 1
    decide
  · rintro e w' ⟨r, ρ', H', ⟨rfl, rfl⟩, hw, he, _⟩
    have ho := (hw.hok.own 1 _ 0 rfl rfl rfl).1
    have hh := (hw.hok.holds 1 _ 0 rfl rfl).2
    have hn : W.heap.size ≤ (ρ' 1 0).1 := by
      rcases hw.new 1 _ 0 (Nat.le_refl _) rfl rfl with h | ⟨r, g, i, hg, ho, _⟩
      · exact h
      · have hg : getReg [wordReg 1 (fun _ => v)] r = some g := hg
        rw [getReg_eq] at hg
        have : g = wordReg 1 (fun _ => v) := by simpa using List.mem_of_getElem? hg
        rw [this] at ho; cases ho
    have hh : ∀ j, j < 4 * 1 → Holds ρ' (wc w' (ρ' 1 0).1) (.int .u8 (byteF (fun _ => v) j)) ((ρ' 1 0).2 + j * 1) := hh
    refine ⟨(ρ' 1 0).1, ?_, hn, fun j hj => ?_, below_wrel hw hno⟩
    · have he : e = .returned (val ρ' (.slice 1 0 [] 0 1 (4 * 1) (4 * 1))) := he
      rw [he]
      simp only [val, T.cv, sc, pla, off, ho, Nat.zero_mul, Nat.add_zero]
    · have := hh j (by omega)
      rw [ho, Nat.zero_add, Nat.mul_one] at this
      exact this
end Go.Proofs.YtjofnajamlmllaaDoor
