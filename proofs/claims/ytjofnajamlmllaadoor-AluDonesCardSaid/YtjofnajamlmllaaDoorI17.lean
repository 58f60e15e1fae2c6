import Derived.Test.YtjofnajamlmllaaDoorI16
open Go Go.Sx Go.Proofs
set_option maxRecDepth 100000
namespace Go.Proofs.YtjofnajamlmllaaDoor
open Go.RowKit Go.Isa
theorem word_h : ∀ j, j < 28 → (wordL j).head? ≠ some 35 := by decide
theorem skip_line {x : Ins} (h : Right x) : skipL (lineL x) = false := by
  have hp := pieces_line h
  have ho := h.1
  have hn := word_ne x.op.toNat (by omega)
  have hh := word_h x.op.toNat (by omega)
  cases hl : lineL x with
  | nil =>
    rw [hl] at hp
    have : ([] : List UInt8) = wordL x.op.toNat := (List.cons.inj hp).1
    exact absurd this.symm hn
  | cons b t =>
    unfold skipL
    have hb : b ≠ 35 := fun e => by
      subst e
      rw [hl] at hp
      simp only [pieces] at hp
      rw [if_neg (by decide)] at hp
      split at hp
      · exact hh (by rw [← (List.cons.inj hp).1]; rfl)
      · exact hh (by rw [← (List.cons.inj hp).1]; rfl)
    simp [hb]
/-- Lines of instructions, as bytes. -/
def codeL (xs : List Ins) : List Int := xs.flatMap fun x => bytes4 (encV x)
theorem asmL_codes : ∀ (xs : List Ins), (∀ x ∈ xs, Right x) → ∀ t, asmL (xs.map lineL ++ t) = codeL xs ++ asmL t
  | [], _, t => rfl
  | x :: xs, h, t => by
    have hx := h x List.mem_cons_self
    rw [List.map_cons, List.cons_append, asmL, skip_line hx, asmL_codes xs (fun y hy => h y (List.mem_cons_of_mem _ hy)) t, (read_line hx).1]
    simp [codeL]
theorem asm_codes {s : ByteArray} {xs : List Ins} (hx : ∀ x ∈ xs, Right x) (hl : linesOf s = xs.map lineL ++ [[]]) (hs : s.size ≤ 1048576) : asmPre s ∧ asmOk s ∧ asmL (linesOf s) = codeL xs := by
  refine ⟨⟨hs, fun l h => ?_⟩, fun l h => ?_, ?_⟩
  · rw [hl] at h
    rcases List.mem_append.1 h with h | h
    · obtain ⟨x, hm, rfl⟩ := List.mem_map.1 h
      exact .inr (pre_line (hx x hm))
    · rw [List.mem_singleton.1 h]; exact .inl rfl
  · rw [hl] at h
    rcases List.mem_append.1 h with h | h
    · obtain ⟨x, hm, rfl⟩ := List.mem_map.1 h
      unfold okL
      rw [(read_line (hx x hm)).2, Bool.or_true]
    · rw [List.mem_singleton.1 h]; rfl
  · rw [hl, asmL_codes xs hx]
    simp [asmL, skipL]
def text1 : ByteArray := { data := ([108, 105, 32, 114, 49, 32, 51, 10, 108, 105, 32, 114, 50, 32, 48, 10, 97, 100, 100, 32, 114, 50, 32, 114, 50, 32, 114, 49, 10, 97, 100, 100, 105].append [32, 114, 49, 32, 114, 49, 32, 45, 49, 10, 98, 110, 101, 32, 114, 49, 32, 114, 48, 32, 45, 50, 10, 115, 116, 32, 114, 50, 32, 114, 48, 32, 56, 10]).toArray }
def ins1 : List Ins := [⟨1, 1, 0, 3⟩, ⟨1, 2, 0, 0⟩, ⟨3, 2, 2, 1⟩, ⟨11, 1, 1, 65535⟩, ⟨17, 1, 0, 65534⟩, ⟨13, 2, 0, 8⟩]
theorem right1 : ∀ x ∈ ins1, Right x := by
  intro x hx
  simp only [ins1, List.mem_cons, List.not_mem_nil, or_false] at hx
  rcases hx with rfl | rfl | rfl | rfl | rfl | rfl <;> decide +kernel
theorem lines1 : linesOf text1 = ins1.map lineL ++ [[]] := by decide +kernel
theorem asm1 : asmPre text1 ∧ asmOk text1 ∧ asmL (linesOf text1) = codeL ins1 := asm_codes right1 lines1 (by decide +kernel)
theorem asmN1 : asmN text1 = 24 := by
  unfold asmN
  rw [asm1.2.2]
  decide +kernel
theorem asmB1 : asmB text1 = fun j => (codeL ins1)[j]?.getD 0 := by
  unfold asmB
  rw [asm1.2.2]
theorem bytes1 (j : Nat) (hj : j < 24) : u8 ((codeL ins1)[j]?.getD 0) := by
  have h : ∀ j, j < 24 → 0 ≤ (codeL ins1)[j]?.getD 0 ∧ (codeL ins1)[j]?.getD 0 < 256 := by decide +kernel
  exact h j hj
def code1 (c : Nat) : BS := ⟨false, 24, c, fun j => (codeL ins1)[j]?.getD 0⟩
theorem run1 (c : Nat) : (runA (code1 c) 100 0 as0).1.R 2 = 6 ∧ (runA (code1 c) 100 0 as0).1.pc = 24 ∧ (runA (code1 c) 100 0 as0).2.1 = ⟨3, 0, 8, 6⟩ ∧ (runA (code1 c) 100 0 as0).2.2 = 11 := ⟨by kernel_rfl, by kernel_rfl, by kernel_rfl, by kernel_rfl⟩
end Go.Proofs.YtjofnajamlmllaaDoor
