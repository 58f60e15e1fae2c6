import Derived.Test.YtglbonfohmdcnaaSxSpec
import Derived.Test.YtglbonfohmdcnaaMNum
import Derived.Test.YtglbonfohmdcnaaProg
open Go Go.Sx Go.Proofs
set_option maxRecDepth 100000
namespace Go.Proofs.Ytglbonfohmdcnaa
def C0 : Cfg := { Γ := Go.Sx.look [], names := true }
def wT (hi lo : Int) : T := .cons (.int .u64 hi) (.cons (.int .u64 lo) .nil)
def wN (hi lo : Int) : Int := hi * 18446744073709551616 + lo
def wO (n : Int) : T := wT (n / 18446744073709551616) (n % 18446744073709551616)

def mulP : Pat (Int × Int) where
  view | [.int .u64 a, .int .u64 b], _ => some (a, b) | _, _ => none
  args x := [.int .u64 x.1, .int .u64 x.2]
  H _ := []
  out x := .need (u64 x.1 ∧ u64 x.2) (.retq (.tup (.cons (.int .u64 (x.1 * x.2 / 18446744073709551616)) (.cons (.int .u64 (x.1 * x.2 % 18446744073709551616)) .nil))))

def bitP : Pat (Int × Int × Int) where
  view | [.cons (.int .u64 a) (.cons (.int .u64 b) .nil), .int .i64 i], _ => some (a, b, i) | _, _ => none
  args x := [wT x.1 x.2.1, .int .i64 x.2.2]
  H _ := []
  out x := .need ((u64 x.1 ∧ u64 x.2.1) ∧ 0 ≤ x.2.2 ∧ x.2.2 < 128) (.retq (.int .u64 (wN x.1 x.2.1 / 2 ^ x.2.2.toNat % 2)))

def withP : Pat (Int × Int × Int) where
  view | [.cons (.int .u64 a) (.cons (.int .u64 b) .nil), .int .i64 i], _ => some (a, b, i) | _, _ => none
  args x := [wT x.1 x.2.1, .int .i64 x.2.2]
  H _ := []
  out x := .need ((u64 x.1 ∧ u64 x.2.1) ∧ (0 ≤ x.2.2 ∧ x.2.2 < 128) ∧ wN x.1 x.2.1 < 2 ^ x.2.2.toNat) (.retq (wO (wN x.1 x.2.1 + 2 ^ x.2.2.toNat)))

def dblP : Pat (Int × Int) where
  view | [.cons (.int .u64 a) (.cons (.int .u64 b) .nil)], _ => some (a, b) | _, _ => none
  args x := [wT x.1 x.2]
  H _ := []
  out x := .need (u64 x.1 ∧ u64 x.2) (.retq (wO (wN x.1 x.2 * 2 % 340282366920938463463374607431768211456)))

theorem mul_vc : ∀ (a b : Int), (((0 : Int) ≤ a ∧ a < (18446744073709551616 : Int)) ∧ (0 : Int) ≤ b ∧ b < (18446744073709551616 : Int)) ∧ True → ∀ (v : Int), v = (0 : Int) → ∀ (v : Int), v = (0 : Int) → ∀ (v : Int), v = bits BinOp.and
  IntKind.u64 a (4294967295 : Int) → (0 : Int) ≤ (32 : Int) ∧ ∀ (v_1 : Int), v_1 = a.fdiv ((2 : Int) ^ min (Int.toNat (32 : Int)) IntKind.u64.bits) → ∀ (v_2 : Int), v_2 = bits BinOp.and IntKind.u64 b (4294967295 : Int) →
  (0 : Int) ≤ (32 : Int) ∧ ∀ (v_3 : Int), v_3 = b.fdiv ((2 : Int) ^ min (Int.toNat (32 : Int)) IntKind.u64.bits) → ∀ (v_4 : Int), v_4 = IntKind.u64.wrap (v * v_2) → (0 : Int) ≤ (32 : Int) ∧ ∀ (v_5 : Int), v_5 =
  IntKind.u64.wrap (IntKind.u64.wrap (v_1 * v_2) + v_4.fdiv ((2 : Int) ^ min (Int.toNat (32 : Int)) IntKind.u64.bits)) → ∀ (v_6 : Int), v_6 = bits BinOp.and IntKind.u64 v_5 (4294967295 : Int) → (0 : Int) ≤ (32 : Int) ∧ ∀
  (v_7 : Int), v_7 = v_5.fdiv ((2 : Int) ^ min (Int.toNat (32 : Int)) IntKind.u64.bits) → ∀ (v_8 : Int), v_8 = IntKind.u64.wrap (v_6 + IntKind.u64.wrap (v * v_3)) → (0 : Int) ≤ (32 : Int) ∧ ∀ (v : Int), v =
  IntKind.u64.wrap (IntKind.u64.wrap (IntKind.u64.wrap (v_1 * v_3) + v_7) + v_8.fdiv ((2 : Int) ^ min (Int.toNat (32 : Int)) IntKind.u64.bits)) → ∀ (v_9 : Int), v_9 = IntKind.u64.wrap (a * b) → ((0 : Int) ≤ a ∧ a <
  (18446744073709551616 : Int)) ∧ (0 : Int) ≤ b ∧ b < (18446744073709551616 : Int) → (v = a * b / (18446744073709551616 : Int) ∧ v_9 = a * b % (18446744073709551616 : Int) ∧ True) ∧ True ∧ True := by
  rintro a b ⟨⟨⟨ha, ha'⟩, hb, hb'⟩, -⟩ _ _ _ _ x0 h0
  refine ⟨by decide, fun x1 h1 y0 h2 => ⟨by decide, fun y1 h3 w0 h4 => ⟨by decide, fun t h5 w1 h6 => ⟨by decide, fun w2 h7 w3 h8 => ⟨by decide, fun hi h9 lo h10 _ => ?_⟩⟩⟩⟩⟩
  have e32 : min (Int.toNat (32 : Int)) IntKind.u64.bits = 32 := rfl
  have p32 : (2 : Int) ^ 32 = 4294967296 := by decide
  rw [e32, fdiv_pow, p32] at h1 h3 h7
  rw [e32, fdiv_pow, p32] at h5 h9
  rw [and_lo ⟨ha, ha'⟩] at h0
  rw [and_lo ⟨hb, hb'⟩] at h2
  have b1 := mul_b32 (x := x0) (y := y0) (by omega) (by omega) (by omega) (by omega)
  have b2 := mul_b32 (x := x1) (y := y0) (by omega) (by omega) (by omega) (by omega)
  have b3 := mul_b32 (x := x0) (y := y1) (by omega) (by omega) (by omega) (by omega)
  have b4 := mul_b32 (x := x1) (y := y1) (by omega) (by omega) (by omega) (by omega)
  have ea : a = x1 * 4294967296 + x0 := by omega
  have eb : b = y1 * 4294967296 + y0 := by omega
  have hab : a * b = x1 * y1 * 18446744073709551616 + (x1 * y0 + x0 * y1) * 4294967296 + x0 * y0 := by
    rw [ea, eb]
    simp only [Int.add_mul, Int.mul_add]
    have e1 : x1 * 4294967296 * (y1 * 4294967296) = x1 * y1 * 18446744073709551616 := by
      rw [Int.mul_assoc, Int.mul_left_comm 4294967296 y1 4294967296, ← Int.mul_assoc]; rfl
    have e2 : x0 * (y1 * 4294967296) = x0 * y1 * 4294967296 := by rw [← Int.mul_assoc]
    have e3 : x1 * 4294967296 * y0 = x1 * y0 * 4294967296 := by rw [Int.mul_right_comm]
    rw [e1, e2, e3]
    omega
  generalize x0 * y0 = p00 at *
  generalize x1 * y0 = p10 at *
  generalize x0 * y1 = p01 at *
  generalize x1 * y1 = p11 at *
  generalize a * b = ab at *
  rw [IntKind.wrap_u64] at h4 h10
  rw [IntKind.wrap_u64, IntKind.wrap_u64] at h5 h8
  rw [IntKind.wrap_u64, IntKind.wrap_u64, IntKind.wrap_u64] at h9
  have h5' : t = p10 + w0 / 4294967296 := by omega
  have h6' : w1 = t % 4294967296 := by rw [h6]; exact and_lo ⟨by omega, by omega⟩
  have h8' : w3 = w1 + p01 := by omega
  refine ⟨⟨?_, ?_, trivial⟩, trivial, trivial⟩ <;> omega
theorem mul_all (a b : Int) : mulP.vc Try.prog C0 Try.f25 (a, b) := @Eq.mp _ _ (by kernel_rfl) (mul_vc a b)

theorem bit_vc : ∀ (a b i : Int), ((((0 : Int) ≤ a ∧ a < (18446744073709551616 : Int)) ∧ (0 : Int) ≤ b ∧ b < (18446744073709551616 : Int)) ∧ (0 : Int) ≤ i ∧ i < (128 : Int)) ∧ True → ∀ (v : Int), v = (0 : Int) → (decide (i ≥ (64 : Int))
  = true → (0 : Int) ≤ IntKind.u64.wrap (IntKind.i64.wrap (i - (64 : Int))) ∧ ∀ (v : Int), v = bits BinOp.and IntKind.u64 (a.fdiv ((2 : Int) ^ min (IntKind.u64.wrap (IntKind.i64.wrap (i - (64 : Int)))).toNat
  IntKind.u64.bits)) (1 : Int) → (((0 : Int) ≤ a ∧ a < (18446744073709551616 : Int)) ∧ (0 : Int) ≤ b ∧ b < (18446744073709551616 : Int)) ∧ (0 : Int) ≤ i ∧ i < (128 : Int) → v = wN a b / (2 : Int) ^ i.toNat % (2 : Int) ∧
  True ∧ True) ∧ (decide (i ≥ (64 : Int)) = false → (0 : Int) ≤ IntKind.u64.wrap i ∧ ∀ (v : Int), v = bits BinOp.and IntKind.u64 (b.fdiv ((2 : Int) ^ min (IntKind.u64.wrap i).toNat IntKind.u64.bits)) (1 : Int) → (((0 :
  Int) ≤ a ∧ a < (18446744073709551616 : Int)) ∧ (0 : Int) ≤ b ∧ b < (18446744073709551616 : Int)) ∧ (0 : Int) ≤ i ∧ i < (128 : Int) → v = wN a b / (2 : Int) ^ i.toNat % (2 : Int) ∧ True ∧ True) := by
  rintro a b i ⟨⟨⟨⟨ha, ha'⟩, hb, hb'⟩, hi, hi'⟩, -⟩ _ _
  have key : ∀ (x : Int) (n : Nat), u64 x → n < 64 → bits .and .u64 (x.fdiv (2 ^ min n IntKind.u64.bits)) 1 = x / 2 ^ n % 2 := by
    intro x n hx hn
    rw [min64 hn, fdiv_pow, and_one (div_u64 hx n)]
  refine ⟨fun h => ?_, fun h => ?_⟩
  · have h : i ≥ 64 := of_decide_eq_true h
    have e1 : IntKind.u64.wrap (IntKind.i64.wrap (i - 64)) = i - 64 := by
      rw [wrap_i64_of (by unfold i64; omega), wrap_u64_of (by unfold u64; omega)]
    rw [e1]
    refine ⟨by omega, fun v hv _ => ⟨?_, trivial, trivial⟩⟩
    rw [hv, key a _ ⟨ha, ha'⟩ (by omega)]
    have e2 : i.toNat = 64 + (i - 64).toNat := by omega
    rw [e2, pow_add', pow64, ← Int.ediv_ediv_of_nonneg (by decide)]
    congr 2
    unfold wN
    omega
  · have h : ¬ i ≥ 64 := of_decide_eq_false h
    have e1 : IntKind.u64.wrap i = i := wrap_u64_of (by unfold u64; omega)
    rw [e1]
    refine ⟨by omega, fun v hv _ => ⟨?_, trivial, trivial⟩⟩
    rw [hv, key b _ ⟨hb, hb'⟩ (by omega)]
    have hn : i.toNat < 64 := by omega
    generalize i.toNat = n at *
    obtain ⟨d, hd⟩ := Nat.exists_eq_add_of_le (show n + 1 ≤ 64 by omega)
    have e2 : wN a b = b + a * 2 ^ d * 2 * 2 ^ n := by
      unfold wN
      have : (18446744073709551616 : Int) = 2 ^ d * 2 * 2 ^ n := by
        rw [← pow64, hd, pow_add', pow_add', Int.mul_comm, ← Int.mul_assoc, Int.mul_assoc (2 ^ d), Int.mul_comm (2 ^ n)]
        rw [show (2 : Int) ^ 1 = 2 from rfl]
        rw [← Int.mul_assoc]
      rw [this]
      simp only [← Int.mul_assoc]
      omega
    rw [e2, Int.add_mul_ediv_right _ _ (Int.ne_of_gt (pow_pos' n)), Int.add_mul_emod_self_right]
theorem bit_all (a b i : Int) : bitP.vc Try.prog C0 Try.f31 (a, b, i) := @Eq.mp _ _ (by kernel_rfl) (bit_vc a b i)

theorem withb_vc : ∀ (a b i : Int), ((((0 : Int) ≤ a ∧ a < (18446744073709551616 : Int)) ∧ (0 : Int) ≤ b ∧ b < (18446744073709551616 : Int)) ∧ ((0 : Int) ≤ i ∧ i < (128 : Int)) ∧ wN a b < (2 : Int) ^ i.toNat) ∧ True → (decide (i ≥ (64 :
  Int)) = true → (0 : Int) ≤ IntKind.u64.wrap (IntKind.i64.wrap (i - (64 : Int))) ∧ ((((0 : Int) ≤ a ∧ a < (18446744073709551616 : Int)) ∧ (0 : Int) ≤ b ∧ b < (18446744073709551616 : Int)) ∧ ((0 : Int) ≤ i ∧ i < (128 :
  Int)) ∧ wN a b < (2 : Int) ^ i.toNat → (bits BinOp.or IntKind.u64 a (IntKind.u64.wrap ((1 : Int) * (2 : Int) ^ min (IntKind.u64.wrap (IntKind.i64.wrap (i - (64 : Int)))).toNat IntKind.u64.bits)) = (wN a b + (2 : Int) ^
  i.toNat) / (18446744073709551616 : Int) ∧ b = (wN a b + (2 : Int) ^ i.toNat) % (18446744073709551616 : Int) ∧ True) ∧ True ∧ True)) ∧ (decide (i ≥ (64 : Int)) = false → (0 : Int) ≤ IntKind.u64.wrap i ∧ ((((0 : Int) ≤ a ∧
  a < (18446744073709551616 : Int)) ∧ (0 : Int) ≤ b ∧ b < (18446744073709551616 : Int)) ∧ ((0 : Int) ≤ i ∧ i < (128 : Int)) ∧ wN a b < (2 : Int) ^ i.toNat → (a = (wN a b + (2 : Int) ^ i.toNat) / (18446744073709551616 :
  Int) ∧ bits BinOp.or IntKind.u64 b (IntKind.u64.wrap ((1 : Int) * (2 : Int) ^ min (IntKind.u64.wrap i).toNat IntKind.u64.bits)) = (wN a b + (2 : Int) ^ i.toNat) % (18446744073709551616 : Int) ∧ True) ∧ True ∧ True)) := by
  rintro a b i ⟨⟨⟨⟨ha, ha'⟩, hb, hb'⟩, ⟨hi, hi'⟩, hN⟩, -⟩
  refine ⟨fun h => ?_, fun h => ?_⟩
  · have h : i ≥ 64 := of_decide_eq_true h
    have e1 : IntKind.u64.wrap (IntKind.i64.wrap (i - 64)) = i - 64 := by
      rw [wrap_i64_of (by unfold i64; omega), wrap_u64_of (by unfold u64; omega)]
    rw [e1]
    have hn : (i - 64).toNat < 64 := by omega
    have e2 : i.toNat = 64 + (i - 64).toNat := by omega
    rw [min64 hn, e2, pow_add', pow64]
    rw [e2, pow_add', pow64] at hN
    have hp := pow_pos' (i - 64).toNat
    have hq := pow_lt64 hn
    have hq2 : (2 : Int) ^ (i - 64).toNat ≤ 9223372036854775808 := pow_le' (m := 63) (by omega)
    rw [Int.one_mul, wrap_u64_of hq]
    generalize (i - 64).toNat = n at *
    have hlt : a < 2 ^ n := by unfold wN at hN; omega
    refine ⟨by omega, fun _ => ⟨⟨?_, ?_, trivial⟩, trivial, trivial⟩⟩
    · have := or_apart' (x := 1) (y := a) n (by decide) ha (by unfold u64; omega) hlt
      rw [Int.one_mul] at this
      rw [this]
      unfold wN
      omega
    · unfold wN; omega
  · have h : ¬ i ≥ 64 := of_decide_eq_false h
    have e1 : IntKind.u64.wrap i = i := wrap_u64_of (by unfold u64; omega)
    rw [e1]
    have hn : i.toNat < 64 := by omega
    rw [min64 hn]
    have hp := pow_pos' i.toNat
    have hq := pow_lt64 hn
    have hq2 : (2 : Int) ^ i.toNat ≤ 9223372036854775808 := pow_le' (m := 63) (by omega)
    rw [Int.one_mul, wrap_u64_of hq]
    generalize i.toNat = n at *
    have h0 : a = 0 := by unfold wN at hN; omega
    subst h0
    have hlt : b < 2 ^ n := by unfold wN at hN; omega
    have := or_apart' (x := 1) (y := b) n (by decide) hb (by unfold u64; omega) hlt
    rw [Int.one_mul] at this
    refine ⟨by omega, fun _ => ⟨⟨?_, ?_, trivial⟩, trivial, trivial⟩⟩
    · unfold wN; omega
    · rw [this]; unfold wN; omega
theorem withb_all (a b i : Int) : withP.vc Try.prog C0 Try.f32 (a, b, i) := @Eq.mp _ _ (by kernel_rfl) (withb_vc a b i)

theorem dbl_vc : ∀ (a b : Int), (((0 : Int) ≤ a ∧ a < (18446744073709551616 : Int)) ∧ (0 : Int) ≤ b ∧ b < (18446744073709551616 : Int)) ∧ True → (0 : Int) ≤ (1 : Int) ∧ (0 : Int) ≤ (63 : Int) ∧ (0 : Int) ≤ (1 : Int) ∧ (((0 : Int) ≤ a ∧ a
  < (18446744073709551616 : Int)) ∧ (0 : Int) ≤ b ∧ b < (18446744073709551616 : Int) → (bits BinOp.or IntKind.u64 (IntKind.u64.wrap (a * (2 : Int) ^ min (Int.toNat (1 : Int)) IntKind.u64.bits)) (b.fdiv ((2 : Int) ^ min
  (Int.toNat (63 : Int)) IntKind.u64.bits)) = wN a b * (2 : Int) % (340282366920938463463374607431768211456 : Int) / (18446744073709551616 : Int) ∧ IntKind.u64.wrap (b * (2 : Int) ^ min (Int.toNat (1 : Int))
  IntKind.u64.bits) = wN a b * (2 : Int) % (340282366920938463463374607431768211456 : Int) % (18446744073709551616 : Int) ∧ True) ∧ True ∧ True) := by
  rintro a b ⟨⟨⟨ha, ha'⟩, hb, hb'⟩, -⟩
  refine ⟨by decide, by decide, by decide, fun _ => ⟨⟨?_, ?_, trivial⟩, trivial, trivial⟩⟩
  · rw [show min (Int.toNat (1 : Int)) IntKind.u64.bits = 1 from rfl, show min (Int.toNat (63 : Int)) IntKind.u64.bits = 63 from rfl, fdiv_pow, show (2 : Int) ^ 63 = 9223372036854775808 from by decide, IntKind.wrap_u64]
    have := or_apart (x := a % 9223372036854775808) (y := b / 9223372036854775808) 1 (by omega) (by omega) (by unfold u64; omega) (by omega)
    rw [show (2 : Int) ^ 1 = 2 from rfl] at this ⊢
    rw [show a * 2 % 18446744073709551616 = a % 9223372036854775808 * 2 by omega, this]
    unfold wN
    omega
  · rw [show min (Int.toNat (1 : Int)) IntKind.u64.bits = 1 from rfl, IntKind.wrap_u64, show (2 : Int) ^ 1 = 2 from rfl]
    unfold wN
    omega
theorem dbl_all (a b : Int) : dblP.vc Try.prog C0 Try.f29 (a, b) := @Eq.mp _ _ (by kernel_rfl) (dbl_vc a b)

end Go.Proofs.Ytglbonfohmdcnaa
