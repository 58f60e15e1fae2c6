import Derived.Test.YtjofnajamlmllaaDoorMNum
namespace Go.Sx
open Go

def u32 (n : Int) : Prop := 0 ≤ n ∧ n < 4294967296
def u8 (n : Int) : Prop := 0 ≤ n ∧ n < 256
theorem wrap_u32_of {n : Int} (h : u32 n) : IntKind.u32.wrap n = n := by
  rw [IntKind.wrap_u32]; unfold u32 at h; omega

theorem u32_nat {x : Nat} (h : x < 4294967296) : u32 (x : Int) := ⟨Int.natCast_nonneg x, Int.ofNat_lt.2 h⟩

/-- A number by its bits. -/
def numOf (f : Nat → Bool) : Nat → Nat
  | 0 => 0
  | i + 1 => numOf f i ||| (if f i then 2 ^ i else 0)
theorem numOf_lt (f : Nat → Bool) : ∀ n, numOf f n < 2 ^ n
  | 0 => Nat.one_pos
  | n + 1 => by
    have ih := numOf_lt f n
    have h : 2 ^ n < 2 ^ (n + 1) := Nat.pow_lt_pow_right (by decide) (by omega)
    refine Nat.or_lt_two_pow (by omega) ?_
    split
    · exact h
    · exact Nat.pow_pos (by decide)
theorem testBit_numOf (f : Nat → Bool) (i : Nat) : ∀ n, (numOf f n).testBit i = (decide (i < n) && f i)
  | 0 => by simp [numOf]
  | n + 1 => by
    simp only [numOf, Nat.testBit_or, testBit_numOf f i n]
    by_cases h : i = n
    · subst h
      cases hf : f i <;> simp
    · have e : (if f n = true then 2 ^ n else 0 : Nat).testBit i = false := by
        split
        · rw [Nat.testBit_two_pow]; simp; omega
        · simp
      rw [e, Bool.or_false]
      congr 1
      exact decide_eq_decide.2 (by omega)
theorem numOf_eq {x n : Nat} {f : Nat → Bool} (hx : x < 2 ^ n) (h : ∀ i, i < n → x.testBit i = f i) : x = numOf f n := by
  apply Nat.eq_of_testBit_eq
  intro i
  rw [testBit_numOf]
  by_cases hi : i < n
  · simp [hi, h i hi]
  · rw [Nat.testBit_lt_two_pow (Nat.lt_of_lt_of_le hx (Nat.pow_le_pow_right (by decide) (by omega)))]
    simp [hi]
theorem numOf_congr {f g : Nat → Bool} {n : Nat} (h : ∀ i, i < n → f i = g i) : numOf f n = numOf g n :=
  numOf_eq (numOf_lt _ _) fun i hi => by rw [testBit_numOf]; simp [hi, h i hi]
theorem bitI (x i : Nat) : ((x : Int) / 2 ^ i % 2) = if x.testBit i then 1 else 0 := by
  have h : (x : Int) / 2 ^ i % 2 = ((x / 2 ^ i % 2 : Nat) : Int) := by simp
  rw [h]
  have := Nat.testBit_eq_decide_div_mod_eq (x := x) (i := i)
  rw [this]
  have h2 := Nat.mod_two_eq_zero_or_one (x / 2 ^ i)
  rcases h2 with h2 | h2 <;> simp [h2]
theorem min32 {n : Nat} (h : n < 32) : min n IntKind.u32.bits = n := Nat.min_eq_left (Nat.le_of_lt h)
theorem min32' {n : Nat} (h : n ≤ 32) : min n IntKind.u32.bits = n := Nat.min_eq_left h
theorem pow32 : (2 : Nat) ^ 32 = 4294967296 := by decide

theorem and_mask32 {x : Int} (k : Nat) (hk : k ≤ 32) (h : u32 x) : bits .and .u32 x (2 ^ k - 1) = ((x.toNat % 2 ^ k : Nat) : Int) := by
  obtain ⟨h1, h2⟩ := h
  have hp : (2 : Int) ^ k = ((2 ^ k : Nat) : Int) := by simp
  have hpos : 0 < (2 : Nat) ^ k := Nat.pow_pos (by decide)
  have hle : (2 : Nat) ^ k ≤ 2 ^ 32 := Nat.pow_le_pow_right (by decide) hk
  rw [pow32] at hle
  rw [u32_and x _ h1 h2 (by rw [hp]; omega) (by rw [hp]; omega)]
  have e : ((2 : Int) ^ k - 1).toNat = 2 ^ k - 1 := by rw [hp]; omega
  rw [e, Nat.and_two_pow_sub_one_eq_mod]

def fitsP (at_ n : Int) : Prop := 1 ≤ n ∧ n ≤ 32 ∧ 0 ≤ at_ ∧ at_ ≤ 32 - n
instance (a n : Int) : Decidable (fitsP a n) := by unfold fitsP; infer_instance
def fieldF (w at_ : Nat) : Nat → Bool := fun j => w.testBit (at_ + j)
def putF (w at_ n v : Nat) : Nat → Bool := fun j => if at_ ≤ j ∧ j < at_ + n then v.testBit (j - at_) else w.testBit j
def extF (v n : Nat) : Nat → Bool := fun j => v.testBit (min j (n - 1))
def fieldN (w at_ n : Int) : Int := if fitsP at_ n then (numOf (fieldF w.toNat at_.toNat) n.toNat : Nat) else 0
def putN (w at_ n v : Int) : Int := if fitsP at_ n then (numOf (putF w.toNat at_.toNat n.toNat v.toNat) 32 : Nat) else w
def extN (v n : Int) : Int := if 1 ≤ n ∧ n ≤ 32 then (numOf (extF v.toNat n.toNat) 32 : Nat) else 0

theorem field_eq (w a n : Nat) : w / 2 ^ a % 2 ^ n = numOf (fieldF w a) n :=
  numOf_eq (Nat.mod_lt _ (Nat.pow_pos (by decide))) fun i hi => by
    rw [Nat.testBit_mod_two_pow, Nat.testBit_div_two_pow]
    simp [hi, fieldF, Nat.add_comm]

theorem put_eq (w a n v : Nat) (hw : w < 4294967296) (h : a + n ≤ 32) :
    (w &&& (4294967295 - (2 ^ n - 1) * 2 ^ a)) ||| (v % 2 ^ n * 2 ^ a) = numOf (putF w a n v) 32 := by
  have hM : (2 ^ n - 1) * 2 ^ a < 2 ^ 32 := by
    have h1 : 2 ^ n * 2 ^ a ≤ 2 ^ 32 := by rw [← Nat.pow_add]; exact Nat.pow_le_pow_right (by decide) (by omega)
    have h2 : (2 ^ n - 1) * 2 ^ a < 2 ^ n * 2 ^ a := Nat.mul_lt_mul_of_pos_right (Nat.sub_lt (Nat.pow_pos (by decide)) (by decide)) (Nat.pow_pos (by decide))
    omega
  have hV : v % 2 ^ n * 2 ^ a < 2 ^ 32 := by
    have h1 : 2 ^ n * 2 ^ a ≤ 2 ^ 32 := by rw [← Nat.pow_add]; exact Nat.pow_le_pow_right (by decide) (by omega)
    have h2 : v % 2 ^ n * 2 ^ a < 2 ^ n * 2 ^ a := Nat.mul_lt_mul_of_pos_right (Nat.mod_lt _ (Nat.pow_pos (by decide))) (Nat.pow_pos (by decide))
    omega
  have e : 4294967295 - (2 ^ n - 1) * 2 ^ a = 2 ^ 32 - ((2 ^ n - 1) * 2 ^ a + 1) := by rw [pow32] at hM ⊢; omega
  refine numOf_eq (Nat.or_lt_two_pow (Nat.lt_of_le_of_lt Nat.and_le_left (by rw [pow32]; exact hw)) hV) fun i hi => ?_
  rw [e, Nat.testBit_or, Nat.testBit_and, Nat.testBit_two_pow_sub_succ hM, Nat.testBit_mul_two_pow, Nat.testBit_mul_two_pow, Nat.testBit_two_pow_sub_one, Nat.testBit_mod_two_pow]
  unfold putF
  by_cases h1 : a ≤ i
  · by_cases h2 : i < a + n
    · have h3 : i - a < n := by omega
      simp [h1, h2, h3, hi]
    · have h3 : ¬ i - a < n := by omega
      simp [h1, h2, h3, hi]
  · simp [h1, hi]

theorem ext_eq (v n : Nat) (hn : 1 ≤ n) (hn' : n ≤ 32) : v % 2 ^ n + (if v.testBit (n - 1) then 4294967296 - 2 ^ n else 0) = numOf (extF v n) 32 := by
  have hlt : v % 2 ^ n < 2 ^ n := Nat.mod_lt _ (Nat.pow_pos (by decide))
  have hle : 2 ^ n ≤ 2 ^ 32 := Nat.pow_le_pow_right (by decide) hn'
  have hsp : 2 ^ n * (2 ^ (32 - n) - 1) = 4294967296 - 2 ^ n := by
    rw [Nat.mul_sub, ← Nat.pow_add, show n + (32 - n) = 32 by omega, pow32, Nat.mul_one]
  rw [pow32] at hle
  refine numOf_eq (by rw [pow32]; split <;> omega) fun i hi => ?_
  unfold extF
  split
  · rename_i ht
    rw [← hsp, Nat.add_comm, Nat.testBit_two_pow_mul_add _ hlt, Nat.testBit_mod_two_pow, Nat.testBit_two_pow_sub_one]
    by_cases h : i < n
    · rw [if_pos h, show min i (n - 1) = i by omega]; simp [h]
    · rw [if_neg h, show min i (n - 1) = n - 1 by omega, ht]; simp; omega
  · rename_i ht
    rw [Nat.add_zero, Nat.testBit_mod_two_pow]
    by_cases h : i < n
    · rw [show min i (n - 1) = i by omega]; simp [h]
    · rw [show min i (n - 1) = n - 1 by omega]; simp [h]; simpa using ht

theorem or_step {f : Nat → Bool} {y : Nat} (hy : y < 32) {b : Bool} (hb : f y = b) : bits .or .u32 ((numOf f y : Nat) : Int) (IntKind.u32.wrap ((if b = true then 1 else 0) * 2 ^ y)) = ((numOf f (y + 1) : Nat) : Int) := by
  subst hb
  have h1 := numOf_lt f y
  have h2 : 2 ^ y ≤ 2 ^ 31 := Nat.pow_le_pow_right (by decide) (show y ≤ 31 by omega)
  have h3 : (2 : Nat) ^ 31 = 2147483648 := by decide
  have e : ((if f y = true then 1 else 0 : Int) * 2 ^ y) = ((if f y = true then 2 ^ y else 0 : Nat) : Int) := by split <;> simp
  have h4 : (if f y = true then 2 ^ y else 0 : Nat) < 4294967296 := by split <;> omega
  rw [e, wrap_u32_of (by unfold u32; omega), u32_or_nat _ _ (by omega) h4]
  rfl
theorem ones32 : ∀ k, k < 33 → (4294967295 : Int) / 2 ^ (32 - k) = 2 ^ k - 1 := by decide +kernel

theorem put_code {W A N V : Nat} (hW : W < 4294967296) (hV : V < 4294967296) (h : A + N ≤ 32) :
    bits .or .u32 (bits .andNot .u32 (W : Int) (IntKind.u32.wrap ((2 ^ N - 1) * 2 ^ A))) (IntKind.u32.wrap (bits .and .u32 (V : Int) (2 ^ N - 1) * 2 ^ A)) = ((numOf (putF W A N V) 32 : Nat) : Int) := by
  have hp : 2 ^ N * 2 ^ A ≤ 4294967296 := by rw [← Nat.pow_add, ← pow32]; exact Nat.pow_le_pow_right (by decide) (by omega)
  have hNp : 0 < 2 ^ N := Nat.pow_pos (by decide)
  have hAp : 0 < 2 ^ A := Nat.pow_pos (by decide)
  have hM : (2 ^ N - 1) * 2 ^ A < 4294967296 := Nat.lt_of_lt_of_le (Nat.mul_lt_mul_of_pos_right (Nat.sub_lt hNp (by decide)) hAp) hp
  have hV2 : V % 2 ^ N * 2 ^ A < 4294967296 := Nat.lt_of_lt_of_le (Nat.mul_lt_mul_of_pos_right (Nat.mod_lt _ hNp) hAp) hp
  have e1 : ((2 : Int) ^ N - 1) * 2 ^ A = (((2 ^ N - 1) * 2 ^ A : Nat) : Int) := by
    rw [Int.natCast_mul, Int.ofNat_sub hNp]; simp
  rw [and_mask32 N (by omega) (u32_nat hV), Int.toNat_natCast, e1, wrap_u32_of (u32_nat hM)]
  have e2 : ((V % 2 ^ N : Nat) : Int) * 2 ^ A = ((V % 2 ^ N * 2 ^ A : Nat) : Int) := by rw [Int.natCast_mul]; simp
  rw [e2, wrap_u32_of (u32_nat hV2), u32_andNot_nat _ _ hW hM, u32_or_nat _ _ (Nat.lt_of_le_of_lt Nat.and_le_left hW) hV2, put_eq W A N V hW h]

theorem top_bit {V N : Nat} (hN : 1 ≤ N) : V.testBit (N - 1) = decide (2 ^ (N - 1) ≤ V % 2 ^ N) := by
  have h2A : 2 ^ N = 2 * 2 ^ (N - 1) := by
    rw [show N = N - 1 + 1 by omega, Nat.pow_succ]; simp [Nat.mul_comm]
  have hr : V % 2 ^ N < 2 ^ N := Nat.mod_lt _ (Nat.pow_pos (by decide))
  have h1 : (V % 2 ^ N).testBit (N - 1) = V.testBit (N - 1) := by
    rw [Nat.testBit_mod_two_pow]; simp; omega
  rw [← h1, Nat.testBit_eq_decide_div_mod_eq]
  have hA : 0 < 2 ^ (N - 1) := Nat.pow_pos (by decide)
  generalize V % 2 ^ N = r at *
  rw [h2A] at hr
  generalize 2 ^ (N - 1) = A at *
  refine decide_eq_decide.2 ⟨fun h => ?_, fun h => ?_⟩
  · refine Nat.le_of_not_lt fun hlt => ?_
    rw [Nat.div_eq_of_lt hlt] at h
    cases h
  · have : r / A = 1 := by
      exact Nat.div_eq_of_lt_le (k := 1) (by omega) (by omega)
    rw [this]
theorem ext_code {V N : Nat} (hN : 1 ≤ N) (hN' : N ≤ 32) : IntKind.u32.wrap ((IntKind.i32.wrap (IntKind.u32.wrap ((V : Int) * 2 ^ (32 - N)))).fdiv (2 ^ (32 - N))) = ((numOf (extF V N) 32 : Nat) : Int) := by
  rw [← ext_eq V N hN hN', top_bit hN]
  have hAB : 2 ^ (N - 1) * 2 ^ (32 - N) = 2147483648 := by rw [← Nat.pow_add, show N - 1 + (32 - N) = 31 by omega]
  have h2A : 2 ^ N = 2 * 2 ^ (N - 1) := by
    rw [show N = N - 1 + 1 by omega, Nat.pow_succ]; simp [Nat.mul_comm]
  have hB : 0 < 2 ^ (32 - N) := Nat.pow_pos (by decide)
  have hr : V % 2 ^ N < 2 ^ N := Nat.mod_lt _ (Nat.pow_pos (by decide))
  have h32 : 2 ^ N * 2 ^ (32 - N) = 4294967296 := by rw [← Nat.pow_add, show N + (32 - N) = 32 by omega]
  have hX : (V * 2 ^ (32 - N)) % 4294967296 = V % 2 ^ N * 2 ^ (32 - N) := by
    rw [← h32, Nat.mul_mod_mul_right]
  have e1 : (V : Int) * 2 ^ (32 - N) = ((V * 2 ^ (32 - N) : Nat) : Int) := by simp
  have e2 : (((V * 2 ^ (32 - N) : Nat) : Int)) % 4294967296 = ((V % 2 ^ N * 2 ^ (32 - N) : Nat) : Int) := by rw [← hX]; rfl
  have e3 : ((2 : Int) ^ (32 - N)) = ((2 ^ (32 - N) : Nat) : Int) := by simp
  rw [IntKind.wrap_u32, IntKind.wrap_u32, IntKind.wrap_i32, e1, e2, fdiv_pow, e3]
  have hle : 2 ^ N ≤ 4294967296 := by rw [← pow32]; exact Nat.pow_le_pow_right (by decide) hN'
  generalize V % 2 ^ N = r at *
  rw [h2A] at hr hle h32 ⊢
  have hA : 0 < 2 ^ (N - 1) := Nat.pow_pos (by decide)
  generalize 2 ^ (N - 1) = A at *
  generalize 2 ^ (32 - N) = B at *
  have hlt : r * B < 2 * A * B := Nat.mul_lt_mul_of_pos_right hr hB
  by_cases h : A ≤ r
  · rw [if_pos (by simpa using h)]
    have h3 : A * B ≤ r * B := Nat.mul_le_mul_right B h
    have e4 : (((r * B : Nat) : Int) + 2147483648) % 4294967296 - 2147483648 = ((r : Int) - 2 * A) * B := by
      have : ((r : Int) - 2 * A) * B = ((r * B : Nat) : Int) - ((2 * A * B : Nat) : Int) := by
        rw [Int.sub_mul]; simp
      rw [this]; omega
    rw [e4, Int.mul_ediv_cancel _ (by omega)]
    omega
  · rw [if_neg (by simpa using h)]
    have h3 : r * B < A * B := Nat.mul_lt_mul_of_pos_right (by omega) hB
    have e4 : (((r * B : Nat) : Int) + 2147483648) % 4294967296 - 2147483648 = (r : Int) * B := by
      rw [← Int.natCast_mul]; omega
    rw [e4, Int.mul_ediv_cancel _ (by omega)]
    omega

theorem or32 {x y k : Nat} (hy : y < 2 ^ k) (h : x * 2 ^ k + y < 4294967296) : bits .or .u32 (y : Int) (IntKind.u32.wrap ((x : Int) * 2 ^ k)) = ((x * 2 ^ k + y : Nat) : Int) := by
  have e : (x : Int) * 2 ^ k = ((x * 2 ^ k : Nat) : Int) := by simp
  rw [e, wrap_u32_of (u32_nat (by omega)), u32_or_nat _ _ (by omega) (by omega), Nat.or_comm]
  have := Nat.two_pow_add_eq_or_of_lt (b := y) hy x
  rw [Nat.mul_comm] at this
  rw [this]
end Go.Sx
