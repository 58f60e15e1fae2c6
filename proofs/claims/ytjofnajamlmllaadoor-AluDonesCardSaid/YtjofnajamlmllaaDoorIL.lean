import Derived.Test.YtjofnajamlmllaaDoorSxLaid
import Derived.Test.YtjofnajamlmllaaDoorRows
import Derived.Test.YtjofnajamlmllaaDoorCards
import Derived.Test.YtjofnajamlmllaaDoorTie
import Derived.Test.YtjofnajamlmllaaDoorProg
open Go Go.Sx Go.Proofs
set_option maxRecDepth 100000
namespace Go.Proofs.YtjofnajamlmllaaDoor
/-- What the laid variables tell the walks. -/
theorem gok_start {W : World} {ρ : Rho} {H : List Reg} (hl : laidMetH Tryd.prog Rows.aluDonesRow.laid W) (hsh : W.ShapedOpen Tryd.prog) (hown : ∀ g ∈ H, g.own = false) : GOk ρ H W := by
  rw [MakeChecks.laidMetH_plain _ _ _ (by kernel_rfl)] at hl
  have hno : ∀ (b : Nat) r g i, getReg H r = some g → g.has i → g.own = true → (ρ r i).1 ≠ b := fun b r g i h _ ho => by
    rw [getReg_eq] at h
    rw [hown g (List.mem_of_getElem? h)] at ho; cases ho
  intro x hx
  simp only [globs, List.mem_cons, List.not_mem_nil, or_false] at hx
  rcases hx with rfl | rfl
  · exact ⟨isInt_of_cell (cell_of_shapedOpen_int (zero := #[.int .i64 0]) (t := 3) hsh (of_decide_eq_true (by kernel_rfl)) (by kernel_rfl) rfl (by kernel_rfl) (by kernel_rfl) Tryd.underlying3), hno _⟩
  · have h := Lib.tabIs_of_head (name := "internal/strconv.uint64pow10") (k := .u64) (zs := Lib.pow10Tab) (g := 5) (t := 137) (e := 122) (n := 20) (by kernel_rfl) (by kernel_rfl) (by kernel_rfl) (by kernel_rfl) (by kernel_rfl) (by kernel_rfl) (laid_rest (laid_rest hl))
    exact ⟨isRow_of_var (by kernel_rfl) h, hno _⟩
end Go.Proofs.YtjofnajamlmllaaDoor
