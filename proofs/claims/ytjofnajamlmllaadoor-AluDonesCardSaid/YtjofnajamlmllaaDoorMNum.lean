import Derived.Laws.BitsAllLaws
import Derived.Laws.Bits64
import Derived.Laws.BitsLemmas
namespace Go.Sx
open Go

def u64 (n : Int) : Prop := 0 ≤ n ∧ n < 18446744073709551616
def i64 (n : Int) : Prop := -9223372036854775808 ≤ n ∧ n < 9223372036854775808

theorem wrap_i64_of {n : Int} (h : i64 n) : IntKind.i64.wrap n = n := by
  rw [IntKind.wrap_i64]; unfold i64 at h; omega
theorem wrap_u64_of {n : Int} (h : u64 n) : IntKind.u64.wrap n = n := by
  rw [IntKind.wrap_u64]; unfold u64 at h; omega

theorem fdiv_pow (a : Int) (n : Nat) : a.fdiv (2 ^ n) = a / 2 ^ n := Int.fdiv_eq_ediv_of_nonneg a (Int.le_of_lt (Int.pow_pos (by decide)))

theorem and_one {x : Int} (h : u64 x) : bits .and .u64 x 1 = x % 2 := by
  obtain ⟨h1, h2⟩ := h
  rw [u64_and x 1 h1 h2 (by decide) (by decide)]
  rw [show (1 : Int).toNat = 1 from rfl, Nat.and_one_is_mod]
  omega

theorem and_mask {x : Int} (k : Nat) (hk : k ≤ 64) (h : u64 x) : bits .and .u64 x (2 ^ k - 1) = x % 2 ^ k := by
  obtain ⟨h1, h2⟩ := h
  have hp : (2 : Int) ^ k = ((2 ^ k : Nat) : Int) := by simp
  have hpos : 0 < (2 : Nat) ^ k := Nat.pow_pos (by decide)
  have hle : (2 : Nat) ^ k ≤ 2 ^ 64 := Nat.pow_le_pow_right (by decide) hk
  have h64 : (2 : Nat) ^ 64 = 18446744073709551616 := by decide
  rw [u64_and x _ h1 h2 (by rw [hp]; omega) (by rw [hp]; omega)]
  have e : ((2 : Int) ^ k - 1).toNat = 2 ^ k - 1 := by rw [hp]; omega
  rw [e, Nat.and_two_pow_sub_one_eq_mod, hp]
  obtain ⟨m, rfl⟩ := Int.eq_ofNat_of_zero_le h1
  simp

theorem and_lo {x : Int} (h : u64 x) : bits .and .u64 x 4294967295 = x % 4294967296 := and_mask 32 (by decide) h

/-- Or of what shares no bit. -/
theorem or_apart {x y : Int} (k : Nat) (hx : 0 ≤ x) (hy : 0 ≤ y) (h : u64 (x * 2 ^ k + y)) (hk : y < 2 ^ k) : bits .or .u64 (x * 2 ^ k) y = x * 2 ^ k + y := by
  obtain ⟨a, rfl⟩ := Int.eq_ofNat_of_zero_le hx
  obtain ⟨b, rfl⟩ := Int.eq_ofNat_of_zero_le hy
  have e : (a : Int) * 2 ^ k = ((a * 2 ^ k : Nat) : Int) := by simp
  unfold u64 at h
  rw [e] at h ⊢
  have hk' : b < 2 ^ k := by
    have : (b : Int) < ((2 ^ k : Nat) : Int) := by simpa using hk
    exact Int.ofNat_lt.1 this
  rw [u64_or _ _ (by omega) (by omega) (by omega) (by omega)]
  simp only [Int.toNat_natCast]
  rw [Nat.mul_comm, ← Nat.two_pow_add_eq_or_of_lt hk']
  simp
end Go.Sx
namespace Go.Sx
theorem mul_b32 {x y : Int} (hx : 0 ≤ x) (hx' : x < 4294967296) (hy : 0 ≤ y) (hy' : y < 4294967296) : 0 ≤ x * y ∧ x * y ≤ 18446744065119617025 := by
  refine ⟨Int.mul_nonneg hx hy, ?_⟩
  have h1 : x * y ≤ 4294967295 * y := Int.mul_le_mul_of_nonneg_right (by omega) hy
  have h2 : 4294967295 * y ≤ 4294967295 * 4294967295 := Int.mul_le_mul_of_nonneg_left (by omega) (by decide)
  omega

theorem pow_add' (n m : Nat) : (2 : Int) ^ (n + m) = 2 ^ n * 2 ^ m := Int.pow_add 2 n m
theorem pow_pos' (n : Nat) : (0 : Int) < 2 ^ n := Int.pow_pos (by decide)
theorem pow_le' {n m : Nat} (h : n ≤ m) : (2 : Int) ^ n ≤ 2 ^ m := by
  obtain ⟨d, rfl⟩ := Nat.exists_eq_add_of_le h
  rw [pow_add']
  have h1 := pow_pos' n
  have h2 := pow_pos' d
  have : (2 : Int) ^ n * 1 ≤ 2 ^ n * 2 ^ d := Int.mul_le_mul_of_nonneg_left (by omega) (by omega)
  omega
theorem pow64 : (2 : Int) ^ 64 = 18446744073709551616 := by decide
theorem pow_lt64 {n : Nat} (h : n < 64) : u64 (2 ^ n) := by
  have h1 := pow_pos' n
  have h2 := pow_le' (show n ≤ 63 by omega)
  have : (2 : Int) ^ 63 = 9223372036854775808 := by decide
  unfold u64
  omega

/-- A shift's width. -/
theorem min64 {n : Nat} (h : n < 64) : min n IntKind.u64.bits = n := by
  have : IntKind.u64.bits = 64 := rfl
  omega

theorem div_u64 {x : Int} (h : u64 x) (n : Nat) : u64 (x / 2 ^ n) := by
  obtain ⟨h1, h2⟩ := h
  refine ⟨Int.ediv_nonneg h1 (Int.le_of_lt (pow_pos' n)), ?_⟩
  have := Int.ediv_le_self (2 ^ n) h1
  omega
end Go.Sx
namespace Go.Sx
open Go
theorem or_apart' {x y : Int} (k : Nat) (hx : 0 ≤ x) (hy : 0 ≤ y) (h : u64 (x * 2 ^ k + y)) (hk : y < 2 ^ k) : bits .or .u64 y (x * 2 ^ k) = x * 2 ^ k + y := by
  have hp := pow_pos' k
  have hxp : 0 ≤ x * 2 ^ k := Int.mul_nonneg hx (by omega)
  rw [← or_apart k hx hy h hk]
  unfold u64 at h
  rw [u64_or _ _ (by omega) (by omega) (by omega) (by omega), u64_or _ _ (by omega) (by omega) (by omega) (by omega), Nat.or_comm]
end Go.Sx
namespace Go.Sx
theorem emod_succ (A : Int) (n : Nat) : A % 2 ^ (n + 1) = A % 2 ^ n + A / 2 ^ n % 2 * 2 ^ n := by
  have hp := pow_pos' n
  rw [show (2 : Int) ^ (n + 1) = 2 ^ n * 2 from Int.pow_succ 2 n]
  generalize (2 : Int) ^ n = p at *
  have h1 := Int.mul_ediv_add_emod A p
  have h2 := Int.emod_nonneg A (show p ≠ 0 by omega)
  have h3 := Int.emod_lt_of_pos A hp
  have h4 := Int.mul_ediv_add_emod (A / p) 2
  have hb : A / p % 2 = 0 ∨ A / p % 2 = 1 := by omega
  have e : A = (A % p + A / p % 2 * p) + (p * 2) * (A / p / 2) := by
    have : p * (2 * (A / p / 2) + A / p % 2) + A % p = A := by rw [h4]; exact h1
    rw [Int.mul_add, ← Int.mul_assoc] at this
    rw [Int.mul_comm (A / p % 2) p]
    omega
  have hr : 0 ≤ A % p + A / p % 2 * p ∧ A % p + A / p % 2 * p < p * 2 := by
    rcases hb with hb | hb <;> rw [hb] <;> omega
  generalize A % p + A / p % 2 * p = r at *
  rw [e, Int.add_mul_emod_self_left]
  exact Int.emod_eq_of_lt hr.1 hr.2
theorem ediv_succ (b : Int) (n : Nat) : b / 2 ^ n = 2 * (b / 2 ^ (n + 1)) + b / 2 ^ n % 2 := by
  rw [show (2 : Int) ^ (n + 1) = 2 ^ n * 2 from Int.pow_succ 2 n, ← Int.ediv_ediv_of_nonneg (Int.le_of_lt (pow_pos' n))]
  omega
theorem toNat_succ {i : Int} (h : 0 ≤ i) : (i + 1).toNat = i.toNat + 1 := by omega
end Go.Sx
