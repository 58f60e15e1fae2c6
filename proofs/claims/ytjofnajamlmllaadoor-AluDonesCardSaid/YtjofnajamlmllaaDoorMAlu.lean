import Derived.Test.YtjofnajamlmllaaDoorMIsa3
import Derived.Test.YtjofnajamlmllaaDoorMBits
namespace Go.Isa
/-! What the instructions do. -/
def twoA (op b c : Int) : Int :=
  if op = 3 then (b + c) % 4294967296 else if op = 4 then (b - c) % 4294967296 else if op = 5 then bits .and .u32 b c else if op = 6 then bits .or .u32 b c else if op = 7 then bits .xor .u32 b c
  else if op = 8 then (b * 2 ^ (c % 32).toNat) % 4294967296 else if op = 9 then b / 2 ^ (c % 32).toNat else (b * c) % 4294967296
def takenA (op a b : Int) : Bool := op == 19 || (op == 16 && a == b) || (op == 17 && a != b) || (op == 18 && decide (a < b))
def jumpA (R : Nat → Int) (pc : Int) (x : Ins) : Int :=
  if x.op = 20 then R x.a.toNat else if takenA x.op (R x.a.toNat) (R x.b.toNat) = true then (pc + 4 * sgn x.imm) % 4294967296 else (pc + 4) % 4294967296
def setOps (op : Int) : Bool := (decide (1 ≤ op) && decide (op ≤ 11)) || op == 19
def setA (R : Nat → Int) (pc : Int) (x : Ins) : Int :=
  if x.op = 1 then x.imm else if x.op = 2 then x.imm * 65536 + R x.a.toNat % 65536 else if 3 ≤ x.op ∧ x.op ≤ 10 then twoA x.op (R x.b.toNat) (R x.imm.toNat)
  else if x.op = 11 then (R x.b.toNat + sgn x.imm) % 4294967296 else if x.op = 19 then (pc + 4) % 4294967296 else 0
open Go.Sx in
theorem bits_u32 (o : BinOp) (h : o = .and ∨ o = .or ∨ o = .xor) (a b : Int) : u32 (bits o .u32 a b) := by
  rcases h with rfl | rfl | rfl
  · show u32 (IntKind.u32.wrap _)
    rw [IntKind.wrap_u32]; unfold u32; omega
  · show u32 (IntKind.u32.wrap _)
    rw [IntKind.wrap_u32]; unfold u32; omega
  · show u32 (IntKind.u32.wrap _)
    rw [IntKind.wrap_u32]; unfold u32; omega
open Go.Sx in
theorem two_u32 (op : Int) {b : Int} (c : Int) (hb : u32 b) : u32 (twoA op b c) := by
  unfold twoA
  have hd : u32 (b / 2 ^ (c % 32).toNat) := by
    have h1 := hb.1
    have h2 := hb.2
    have hp : (0 : Int) < 2 ^ (c % 32).toNat := Int.pow_pos (by decide)
    have h3 := Int.ediv_nonneg h1 (Int.le_of_lt hp)
    have h4 := Int.ediv_le_self (2 ^ (c % 32).toNat) h1
    exact ⟨h3, by omega⟩
  have hm : ∀ z : Int, u32 (z % 4294967296) := fun z => by unfold u32; omega
  repeat' split
  all_goals first | exact hm _ | exact hd | exact bits_u32 _ (by simp) _ _
open Go.Sx in
theorem jump_u32 {R : Nat → Int} {pc : Int} {x : Ins} (hR : ∀ j, u32 (R j)) : u32 (jumpA R pc x) := by
  have hm : ∀ z : Int, u32 (z % 4294967296) := fun z => by unfold u32; omega
  unfold jumpA
  repeat' split
  all_goals first | exact hm _ | exact hR _
open Go.Sx in
theorem set_u32 {R : Nat → Int} {pc : Int} {x : Ins} (hR : ∀ j, u32 (R j)) (hx : Right x) : u32 (setA R pc x) := by
  have hm : ∀ z : Int, u32 (z % 4294967296) := fun z => by unfold u32; omega
  have hi := hx.2.2.2.1
  unfold setA
  repeat' split
  all_goals first | exact hm _ | exact two_u32 _ _ (hR _) | (unfold u32; omega)
open Go.Sx in
theorem put_hi {w v : Int} (hw : 0 ≤ w ∧ w < 4294967296) (hv : 0 ≤ v ∧ v ≤ 65535) : putN w 16 16 v = v * 65536 + w % 65536 := by
  unfold putN
  rw [if_pos (by unfold fitsP; omega)]
  obtain ⟨a, rfl⟩ := Int.eq_ofNat_of_zero_le hw.1
  obtain ⟨b, rfl⟩ := Int.eq_ofNat_of_zero_le hv.1
  have h : 2 ^ 16 * b + a % 2 ^ 16 = numOf (putF (a : Int).toNat (16 : Int).toNat (16 : Int).toNat (b : Int).toNat) 32 :=
    numOf_eq (by omega) fun i hi => by
      rw [Nat.testBit_two_pow_mul_add _ (Nat.mod_lt _ (by decide))]
      simp only [Int.toNat_natCast, putF]
      by_cases h : i < 16
      · rw [if_pos h, Nat.testBit_mod_two_pow]
        simp [h]
        intro; omega
      · rw [if_neg h]
        simp [h]
        intro; omega
  rw [← h]
  omega
end Go.Isa
