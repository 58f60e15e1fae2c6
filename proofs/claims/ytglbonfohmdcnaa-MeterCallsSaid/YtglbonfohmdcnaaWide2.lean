import Derived.Test.YtglbonfohmdcnaaSxSpec
import Derived.Test.YtglbonfohmdcnaaWide
open Go Go.Sx Go.Proofs
set_option maxRecDepth 100000
namespace Go.Proofs.Ytglbonfohmdcnaa

theorem bit_ok : SpOk Try.prog 31 bitP.sp := Pat.ok (C := fun _ => C0) (fun _ => cfg_nil rfl) (by kernel_rfl) Try.func31 (fun _ => rfl) fun ⟨a, b, i⟩ => bit_all a b i
theorem with_ok : SpOk Try.prog 32 withP.sp := Pat.ok (C := fun _ => C0) (fun _ => cfg_nil rfl) (by kernel_rfl) Try.func32 (fun _ => rfl) fun ⟨a, b, i⟩ => withb_all a b i
theorem dbl_ok : SpOk Try.prog 29 dblP.sp := Pat.ok (C := fun _ => C0) (fun _ => cfg_nil rfl) (by kernel_rfl) Try.func29 (fun _ => rfl) fun ⟨a, b⟩ => dbl_all a b
theorem mul64_ok : SpOk Try.prog 25 mulP.sp := Pat.ok (C := fun _ => C0) (fun _ => cfg_nil rfl) (by kernel_rfl) Try.func25 (fun _ => rfl) fun ⟨a, b⟩ => mul_all a b

def two128 : Int := 340282366920938463463374607431768211456
structure AddY where
  o : Int
  c : Int
  i : Int
def addFam (a1 a0 b1 b0 : Int) : Fam where
  α := AddY
  I y := (0 ≤ y.i ∧ y.i ≤ 128) ∧ (0 ≤ y.o ∧ y.o < 2 ^ y.i.toNat) ∧ (0 ≤ y.c ∧ y.c ≤ 1) ∧ wN a1 a0 % 2 ^ y.i.toNat + wN b1 b0 % 2 ^ y.i.toNat = y.c * 2 ^ y.i.toNat + y.o
  st y := { sl := mkSl 36 [(2, p0 0), (3, p0 1), (4, p0 2), (5, .ff), (6, p0 3), (7, .int .u64 y.c), (8, .int .i64 y.i)], H := [newReg 56 (wT a1 a0), newReg 56 (wT b1 b0), newReg 56 (wT 0 0), newReg 56 (wO y.o)] }
  μ y := (128 - y.i).toNat
def addP : Pat ((Int × Int) × (Int × Int)) where
  view | [.cons (.int .u64 a) (.cons (.int .u64 b) .nil), .cons (.int .u64 c) (.cons (.int .u64 d) .nil)], _ => some ((a, b), (c, d)) | _, _ => none
  args x := [wT x.1.1 x.1.2, wT x.2.1 x.2.2]
  H _ := []
  out x := .need ((u64 x.1.1 ∧ u64 x.1.2) ∧ u64 x.2.1 ∧ u64 x.2.2) (.retq (.tup (.cons (wO (if wN x.1.1 x.1.2 + wN x.2.1 x.2.2 < two128 then wN x.1.1 x.1.2 + wN x.2.1 x.2.2 else 0)) (.cons (.bool (decide (wN x.1.1 x.1.2 + wN x.2.1 x.2.2 < two128))) .nil))))
def addC (x : (Int × Int) × (Int × Int)) : Cfg := { Γ := Go.Sx.look [(31, bitP.sp), (32, withP.sp)], loops := onlyAt 4 [addFam x.1.1 x.1.2 x.2.1 x.2.2], names := true }

def mulFam (a b : Int) : Fam where
  α := Int × Int
  I y := (-1 ≤ y.2 ∧ y.2 ≤ 63) ∧ y.1 = a * (b / 2 ^ (y.2 + 1).toNat)
  st y := { sl := mkSl 28 [(0, .int .u64 a), (1, .int .u64 b), (4, p0 0), (5, p0 1), (6, .int .i64 y.2)], H := [newReg 56 (wT 0 0), newReg 56 (wO y.1)] }
  μ y := (y.2 + 1).toNat
def rmulP : Pat (Int × Int) where
  view | [.int .u64 a, .int .u64 b], _ => some (a, b) | _, _ => none
  args x := [.int .u64 x.1, .int .u64 x.2]
  H _ := []
  out x := .need (u64 x.1 ∧ u64 x.2) (.retq (wO (x.1 * x.2)))
def rmulC (x : Int × Int) : Cfg := { Γ := Go.Sx.look [(29, dblP.sp), (30, addP.sp)], loops := onlyAt 3 [mulFam x.1 x.2], names := true }

theorem add_vc : ∀ (a1 a0 b1 b0 : Int), ((((0 : Int) ≤ a1 ∧ a1 < (18446744073709551616 : Int)) ∧ (0 : Int) ≤ a0 ∧ a0 < (18446744073709551616 : Int)) ∧ ((0 : Int) ≤ b1 ∧ b1 < (18446744073709551616 : Int)) ∧ (0 : Int) ≤ b0 ∧ b0 <
  (18446744073709551616 : Int)) ∧ True → ∀ (v : Int), v = (0 : Int) → ∀ (v_1 : Int), v_1 = (0 : Int) → (∃ (y : AddY), (((0 : Int) ≤ y.i ∧ y.i ≤ (128 : Int)) ∧ ((0 : Int) ≤ y.o ∧ y.o < (2 : Int) ^ y.i.toNat) ∧ ((0 : Int) ≤
  y.c ∧ y.c ≤ (1 : Int)) ∧ wN a1 a0 % (2 : Int) ^ y.i.toNat + wN b1 b0 % (2 : Int) ^ y.i.toNat = y.c * (2 : Int) ^ y.i.toNat + y.o) ∧ (((True ∧ True) ∧ (True ∧ True) ∧ (True ∧ True) ∧ True ∧ (True ∧ True) ∧ v = y.c ∧ v_1 =
  y.i ∧ True) ∧ ((2 : Nat) ≤ (2 : Nat) ∧ a1 = a1 ∧ a0 = a0 ∧ True) ∧ ((2 : Nat) ≤ (2 : Nat) ∧ b1 = b1 ∧ b0 = b0 ∧ True) ∧ ((2 : Nat) ≤ (2 : Nat) ∧ (0 : Int) = (0 : Int) ∧ (0 : Int) = (0 : Int) ∧ True) ∧ ((2 : Nat) ≤ (2 :
  Nat) ∧ (0 : Int) = y.o / (18446744073709551616 : Int) ∧ (0 : Int) = y.o % (18446744073709551616 : Int) ∧ True) ∧ True) ∧ True) ∧ ∀ (y : AddY), ((0 : Int) ≤ y.i ∧ y.i ≤ (128 : Int)) ∧ ((0 : Int) ≤ y.o ∧ y.o < (2 : Int) ^
  y.i.toNat) ∧ ((0 : Int) ≤ y.c ∧ y.c ≤ (1 : Int)) ∧ wN a1 a0 % (2 : Int) ^ y.i.toNat + wN b1 b0 % (2 : Int) ^ y.i.toNat = y.c * (2 : Int) ^ y.i.toNat + y.o → (decide (y.i < (128 : Int)) = true → (((a1 = a1 ∧ a0 = a0 ∧
  True) ∧ y.i = y.i ∧ True) ∧ True) ∧ ((((0 : Int) ≤ a1 ∧ a1 < (18446744073709551616 : Int)) ∧ (0 : Int) ≤ a0 ∧ a0 < (18446744073709551616 : Int)) ∧ (0 : Int) ≤ y.i ∧ y.i < (128 : Int)) ∧ (((b1 = b1 ∧ b0 = b0 ∧ True) ∧ y.i
  = y.i ∧ True) ∧ True) ∧ ((((0 : Int) ≤ b1 ∧ b1 < (18446744073709551616 : Int)) ∧ (0 : Int) ≤ b0 ∧ b0 < (18446744073709551616 : Int)) ∧ (0 : Int) ≤ y.i ∧ y.i < (128 : Int)) ∧ ∀ (v : Int), v = IntKind.u64.wrap
  (IntKind.u64.wrap (wN a1 a0 / (2 : Int) ^ y.i.toNat % (2 : Int) + wN b1 b0 / (2 : Int) ^ y.i.toNat % (2 : Int)) + y.c) → ((bits BinOp.and IntKind.u64 v (1 : Int) == (1 : Int)) = true → (((y.o / (18446744073709551616 :
  Int) = y.o / (18446744073709551616 : Int) ∧ y.o % (18446744073709551616 : Int) = y.o % (18446744073709551616 : Int) ∧ True) ∧ y.i = y.i ∧ True) ∧ True) ∧ ((((0 : Int) ≤ y.o / (18446744073709551616 : Int) ∧ y.o /
  (18446744073709551616 : Int) < (18446744073709551616 : Int)) ∧ (0 : Int) ≤ y.o % (18446744073709551616 : Int) ∧ y.o % (18446744073709551616 : Int) < (18446744073709551616 : Int)) ∧ ((0 : Int) ≤ y.i ∧ y.i < (128 : Int)) ∧
  wN (y.o / (18446744073709551616 : Int)) (y.o % (18446744073709551616 : Int)) < (2 : Int) ^ y.i.toNat) ∧ (0 : Int) ≤ (1 : Int) ∧ ∀ (v_2 : Int), v_2 = v.fdiv ((2 : Int) ^ min (Int.toNat (1 : Int)) IntKind.u64.bits) → ∀ (v
  : Int), v = IntKind.i64.wrap (y.i + (1 : Int)) → ∃ (y_1 : AddY), (((0 : Int) ≤ y_1.i ∧ y_1.i ≤ (128 : Int)) ∧ ((0 : Int) ≤ y_1.o ∧ y_1.o < (2 : Int) ^ y_1.i.toNat) ∧ ((0 : Int) ≤ y_1.c ∧ y_1.c ≤ (1 : Int)) ∧ wN a1 a0 %
  (2 : Int) ^ y_1.i.toNat + wN b1 b0 % (2 : Int) ^ y_1.i.toNat = y_1.c * (2 : Int) ^ y_1.i.toNat + y_1.o) ∧ (((True ∧ True) ∧ (True ∧ True) ∧ (True ∧ True) ∧ True ∧ (True ∧ True) ∧ v_2 = y_1.c ∧ v = y_1.i ∧ True) ∧ ((2 :
  Nat) ≤ (2 : Nat) ∧ a1 = a1 ∧ a0 = a0 ∧ True) ∧ ((2 : Nat) ≤ (2 : Nat) ∧ b1 = b1 ∧ b0 = b0 ∧ True) ∧ ((2 : Nat) ≤ (2 : Nat) ∧ (0 : Int) = (0 : Int) ∧ (0 : Int) = (0 : Int) ∧ True) ∧ ((2 : Nat) ≤ (2 : Nat) ∧ (wN (y.o /
  (18446744073709551616 : Int)) (y.o % (18446744073709551616 : Int)) + (2 : Int) ^ y.i.toNat) / (18446744073709551616 : Int) = y_1.o / (18446744073709551616 : Int) ∧ (wN (y.o / (18446744073709551616 : Int)) (y.o %
  (18446744073709551616 : Int)) + (2 : Int) ^ y.i.toNat) % (18446744073709551616 : Int) = y_1.o % (18446744073709551616 : Int) ∧ True) ∧ True) ∧ (addFam a1 a0 b1 b0).μ y_1 < (addFam a1 a0 b1 b0).μ y) ∧ ((bits BinOp.and
  IntKind.u64 v (1 : Int) == (1 : Int)) = false → (0 : Int) ≤ (1 : Int) ∧ ∀ (v_2 : Int), v_2 = v.fdiv ((2 : Int) ^ min (Int.toNat (1 : Int)) IntKind.u64.bits) → ∀ (v : Int), v = IntKind.i64.wrap (y.i + (1 : Int)) → ∃ (y_1
  : AddY), (((0 : Int) ≤ y_1.i ∧ y_1.i ≤ (128 : Int)) ∧ ((0 : Int) ≤ y_1.o ∧ y_1.o < (2 : Int) ^ y_1.i.toNat) ∧ ((0 : Int) ≤ y_1.c ∧ y_1.c ≤ (1 : Int)) ∧ wN a1 a0 % (2 : Int) ^ y_1.i.toNat + wN b1 b0 % (2 : Int) ^
  y_1.i.toNat = y_1.c * (2 : Int) ^ y_1.i.toNat + y_1.o) ∧ (((True ∧ True) ∧ (True ∧ True) ∧ (True ∧ True) ∧ True ∧ (True ∧ True) ∧ v_2 = y_1.c ∧ v = y_1.i ∧ True) ∧ ((2 : Nat) ≤ (2 : Nat) ∧ a1 = a1 ∧ a0 = a0 ∧ True) ∧ ((2
  : Nat) ≤ (2 : Nat) ∧ b1 = b1 ∧ b0 = b0 ∧ True) ∧ ((2 : Nat) ≤ (2 : Nat) ∧ (0 : Int) = (0 : Int) ∧ (0 : Int) = (0 : Int) ∧ True) ∧ ((2 : Nat) ≤ (2 : Nat) ∧ y.o / (18446744073709551616 : Int) = y_1.o /
  (18446744073709551616 : Int) ∧ y.o % (18446744073709551616 : Int) = y_1.o % (18446744073709551616 : Int) ∧ True) ∧ True) ∧ (addFam a1 a0 b1 b0).μ y_1 < (addFam a1 a0 b1 b0).μ y)) ∧ (decide (y.i < (128 : Int)) = false →
  (decide (y.c > (0 : Int)) = true → (((0 : Int) ≤ a1 ∧ a1 < (18446744073709551616 : Int)) ∧ (0 : Int) ≤ a0 ∧ a0 < (18446744073709551616 : Int)) ∧ ((0 : Int) ≤ b1 ∧ b1 < (18446744073709551616 : Int)) ∧ (0 : Int) ≤ b0 ∧ b0
  < (18446744073709551616 : Int) → (((0 : Int) = (if wN a1 a0 + wN b1 b0 < two128 then wN a1 a0 + wN b1 b0 else (0 : Int)) / (18446744073709551616 : Int) ∧ (0 : Int) = (if wN a1 a0 + wN b1 b0 < two128 then wN a1 a0 + wN b1
  b0 else (0 : Int)) % (18446744073709551616 : Int) ∧ True) ∧ decide (wN a1 a0 + wN b1 b0 < two128) = false ∧ True) ∧ True ∧ True) ∧ (decide (y.c > (0 : Int)) = false → (((0 : Int) ≤ a1 ∧ a1 < (18446744073709551616 : Int))
  ∧ (0 : Int) ≤ a0 ∧ a0 < (18446744073709551616 : Int)) ∧ ((0 : Int) ≤ b1 ∧ b1 < (18446744073709551616 : Int)) ∧ (0 : Int) ≤ b0 ∧ b0 < (18446744073709551616 : Int) → ((y.o / (18446744073709551616 : Int) = (if wN a1 a0 + wN
  b1 b0 < two128 then wN a1 a0 + wN b1 b0 else (0 : Int)) / (18446744073709551616 : Int) ∧ y.o % (18446744073709551616 : Int) = (if wN a1 a0 + wN b1 b0 < two128 then wN a1 a0 + wN b1 b0 else (0 : Int)) %
  (18446744073709551616 : Int) ∧ True) ∧ decide (wN a1 a0 + wN b1 b0 < two128) = true ∧ True) ∧ True ∧ True)) := by
  simp only [true_and, and_true, eq_self, Nat.le_refl, decide_eq_true_eq, decide_eq_false_iff_not, beq_iff_eq, beq_eq_false_iff_ne, and_self, Int.not_lt, gt_iff_lt, ne_eq]
  rintro a1 a0 b1 b0 ⟨⟨⟨ha1, ha1'⟩, ha0, ha0'⟩, ⟨hb1, hb1'⟩, hb0, hb0'⟩ v hv v1 hv1
  refine ⟨⟨⟨0, 0, 0⟩, ⟨⟨by decide, by decide⟩, ⟨by decide, by decide⟩, ⟨by decide, by decide⟩, ?_⟩, ⟨hv, hv1⟩, by decide, by decide⟩, ?_⟩
  · show wN a1 a0 % 1 + wN b1 b0 % 1 = 0 * 1 + 0
    omega
  rintro ⟨o, c, i⟩ ⟨⟨hi, hi'⟩, ⟨ho, ho'⟩, ⟨hc, hc'⟩, hs⟩
  simp only at hi hi' ho ho' hc hc' hs ⊢
  have hA : 0 ≤ wN a1 a0 ∧ wN a1 a0 < two128 := by unfold wN two128; omega
  have hB : 0 ≤ wN b1 b0 ∧ wN b1 b0 < two128 := by unfold wN two128; omega
  have hoo : wN (o / 18446744073709551616) (o % 18446744073709551616) = o := by unfold wN; omega
  generalize hAe : wN a1 a0 = A at *
  generalize hBe : wN b1 b0 = B at *
  refine ⟨fun hlt => ⟨⟨⟨⟨ha1, ha1'⟩, ha0, ha0'⟩, hi, hlt⟩, ⟨⟨⟨hb1, hb1'⟩, hb0, hb0'⟩, hi, hlt⟩, fun v hv => ?_⟩, fun hge => ?_⟩
  · have hp := pow_pos' i.toNat
    have hq := pow_le' (show i.toNat ≤ 127 by omega)
    rw [show (2 : Int) ^ 127 = 170141183460469231731687303715884105728 from by decide] at hq
    have hsA := emod_succ A i.toNat
    have hsB := emod_succ B i.toNat
    have hx : A / 2 ^ i.toNat % 2 = 0 ∨ A / 2 ^ i.toNat % 2 = 1 := by omega
    have hy : B / 2 ^ i.toNat % 2 = 0 ∨ B / 2 ^ i.toNat % 2 = 1 := by omega
    have hcc : c = 0 ∨ c = 1 := by omega
    have hv' : v = A / 2 ^ i.toNat % 2 + B / 2 ^ i.toNat % 2 + c := by
      rw [hv, wrap_u64_of, wrap_u64_of] <;> unfold u64 <;> (try rw [wrap_u64_of (by unfold u64; omega)]) <;> omega
    clear hv
    rw [and_one (by unfold u64; omega)]
    have e1 : min (Int.toNat (1 : Int)) IntKind.u64.bits = 1 := rfl
    have e2 : IntKind.i64.wrap (i + 1) = i + 1 := wrap_i64_of (by unfold i64; omega)
    have e3 : (i + 1).toNat = i.toNat + 1 := by omega
    rw [e1, fdiv_pow, show (2 : Int) ^ 1 = 2 from rfl, hoo]
    have e4 : (2 : Int) ^ (i.toNat + 1) = 2 ^ i.toNat * 2 := Int.pow_succ 2 _
    generalize A / 2 ^ i.toNat % 2 = x at *
    generalize B / 2 ^ i.toNat % 2 = y at *
    refine ⟨fun hbit => ⟨⟨⟨⟨by omega, by omega⟩, by omega, by omega⟩, ⟨hi, hlt⟩, ho'⟩, by decide, fun v2 hv2 w hw => ?_⟩, fun hbit => ⟨by decide, fun v2 hv2 w hw => ?_⟩⟩
    · rw [e2] at hw
      refine ⟨⟨o + 2 ^ i.toNat, v2, w⟩, ?_, ⟨⟨rfl, rfl⟩, rfl, rfl⟩, by show (128 - w).toNat < (128 - i).toNat; omega⟩
      dsimp only
      refine ⟨⟨by omega, by omega⟩, ⟨by omega, ?_⟩, ⟨by omega, by omega⟩, ?_⟩
      · rw [hw, e3, e4]; omega
      · rw [hw, e3, hsA, hsB, e4]
        generalize 2 ^ i.toNat = p at *
        rcases hx with rfl | rfl <;> rcases hy with rfl | rfl <;> rcases hcc with rfl | rfl <;> simp only [Int.zero_mul, Int.one_mul, Int.zero_add, Int.add_zero, Int.reduceAdd] at * <;> subst hv' <;> first | omega | (subst hv2; omega)
    · rw [e2] at hw
      refine ⟨⟨o, v2, w⟩, ?_, ⟨⟨rfl, rfl⟩, rfl, rfl⟩, by show (128 - w).toNat < (128 - i).toNat; omega⟩
      dsimp only
      refine ⟨⟨by omega, by omega⟩, ⟨by omega, ?_⟩, ⟨by omega, by omega⟩, ?_⟩
      · rw [hw, e3, e4]; omega
      · rw [hw, e3, hsA, hsB, e4]
        generalize 2 ^ i.toNat = p at *
        rcases hx with rfl | rfl <;> rcases hy with rfl | rfl <;> rcases hcc with rfl | rfl <;> simp only [Int.zero_mul, Int.one_mul, Int.zero_add, Int.add_zero, Int.reduceAdd] at * <;> subst hv' <;> first | omega | (subst hv2; omega)
  · have hi128 : i.toNat = 128 := by omega
    rw [hi128, show (2 : Int) ^ 128 = two128 from by decide, Int.emod_eq_of_lt hA.1 hA.2, Int.emod_eq_of_lt hB.1 hB.2] at hs
    rw [hi128, show (2 : Int) ^ 128 = two128 from by decide] at ho'
    unfold two128 at *
    refine ⟨fun hc0 _ => ?_, fun hc0 _ => ?_⟩
    · have hcc : c = 1 := by omega
      subst hcc
      rw [if_neg (by omega)]
      exact ⟨⟨by decide, by decide⟩, by omega⟩
    · have hcc : c = 0 := by omega
      subst hcc
      rw [if_pos (by omega)]
      have : A + B = o := by omega
      rw [this]
      exact ⟨⟨rfl, rfl⟩, by omega⟩
theorem add_all (a1 a0 b1 b0 : Int) : addP.vc Try.prog (addC ((a1, a0), (b1, b0))) Try.f30 ((a1, a0), (b1, b0)) := @Eq.mp _ _ (by kernel_rfl) (add_vc a1 a0 b1 b0)

theorem rmul_vc : ∀ (a b : Int), (((0 : Int) ≤ a ∧ a < (18446744073709551616 : Int)) ∧ (0 : Int) ≤ b ∧ b < (18446744073709551616 : Int)) ∧ True → ∀ (v : Int), v = (63 : Int) → (∃ (y : Int × Int), (((-1 : Int) ≤ y.snd ∧ y.snd ≤ (63 : Int))
  ∧ y.fst = a * (b / (2 : Int) ^ (y.snd + (1 : Int)).toNat)) ∧ ((a = a ∧ b = b ∧ (True ∧ True) ∧ (True ∧ True) ∧ v = y.snd ∧ True) ∧ ((2 : Nat) ≤ (2 : Nat) ∧ (0 : Int) = (0 : Int) ∧ (0 : Int) = (0 : Int) ∧ True) ∧ ((2 :
  Nat) ≤ (2 : Nat) ∧ (0 : Int) = y.fst / (18446744073709551616 : Int) ∧ (0 : Int) = y.fst % (18446744073709551616 : Int) ∧ True) ∧ True) ∧ True) ∧ ∀ (y : Int × Int), ((-1 : Int) ≤ y.snd ∧ y.snd ≤ (63 : Int)) ∧ y.fst = a *
  (b / (2 : Int) ^ (y.snd + (1 : Int)).toNat) → (decide (y.snd ≥ (0 : Int)) = true → (((y.fst / (18446744073709551616 : Int) = y.fst / (18446744073709551616 : Int) ∧ y.fst % (18446744073709551616 : Int) = y.fst %
  (18446744073709551616 : Int) ∧ True) ∧ True) ∧ True) ∧ (((0 : Int) ≤ y.fst / (18446744073709551616 : Int) ∧ y.fst / (18446744073709551616 : Int) < (18446744073709551616 : Int)) ∧ (0 : Int) ≤ y.fst % (18446744073709551616
  : Int) ∧ y.fst % (18446744073709551616 : Int) < (18446744073709551616 : Int)) ∧ (0 : Int) ≤ IntKind.u64.wrap y.snd ∧ ((bits BinOp.and IntKind.u64 (b.fdiv ((2 : Int) ^ min (IntKind.u64.wrap y.snd).toNat IntKind.u64.bits))
  (1 : Int) == (1 : Int)) = true → (((wN (y.fst / (18446744073709551616 : Int)) (y.fst % (18446744073709551616 : Int)) * (2 : Int) % (340282366920938463463374607431768211456 : Int) / (18446744073709551616 : Int) = wN
  (y.fst / (18446744073709551616 : Int)) (y.fst % (18446744073709551616 : Int)) * (2 : Int) % (340282366920938463463374607431768211456 : Int) / (18446744073709551616 : Int) ∧ wN (y.fst / (18446744073709551616 : Int))
  (y.fst % (18446744073709551616 : Int)) * (2 : Int) % (340282366920938463463374607431768211456 : Int) % (18446744073709551616 : Int) = wN (y.fst / (18446744073709551616 : Int)) (y.fst % (18446744073709551616 : Int)) * (2
  : Int) % (340282366920938463463374607431768211456 : Int) % (18446744073709551616 : Int) ∧ True) ∧ ((0 : Int) = (0 : Int) ∧ a = a ∧ True) ∧ True) ∧ True) ∧ ((((0 : Int) ≤ wN (y.fst / (18446744073709551616 : Int)) (y.fst %
  (18446744073709551616 : Int)) * (2 : Int) % (340282366920938463463374607431768211456 : Int) / (18446744073709551616 : Int) ∧ wN (y.fst / (18446744073709551616 : Int)) (y.fst % (18446744073709551616 : Int)) * (2 : Int) %
  (340282366920938463463374607431768211456 : Int) / (18446744073709551616 : Int) < (18446744073709551616 : Int)) ∧ (0 : Int) ≤ wN (y.fst / (18446744073709551616 : Int)) (y.fst % (18446744073709551616 : Int)) * (2 : Int) %
  (340282366920938463463374607431768211456 : Int) % (18446744073709551616 : Int) ∧ wN (y.fst / (18446744073709551616 : Int)) (y.fst % (18446744073709551616 : Int)) * (2 : Int) % (340282366920938463463374607431768211456 :
  Int) % (18446744073709551616 : Int) < (18446744073709551616 : Int)) ∧ ((0 : Int) ≤ (0 : Int) ∧ (0 : Int) < (18446744073709551616 : Int)) ∧ (0 : Int) ≤ a ∧ a < (18446744073709551616 : Int)) ∧ ∀ (v : Int), v =
  IntKind.i64.wrap (y.snd - (1 : Int)) → ∃ (y_1 : Int × Int), (((-1 : Int) ≤ y_1.snd ∧ y_1.snd ≤ (63 : Int)) ∧ y_1.fst = a * (b / (2 : Int) ^ (y_1.snd + (1 : Int)).toNat)) ∧ ((a = a ∧ b = b ∧ (True ∧ True) ∧ (True ∧ True)
  ∧ v = y_1.snd ∧ True) ∧ ((2 : Nat) ≤ (2 : Nat) ∧ (0 : Int) = (0 : Int) ∧ (0 : Int) = (0 : Int) ∧ True) ∧ ((2 : Nat) ≤ (2 : Nat) ∧ (if wN (wN (y.fst / (18446744073709551616 : Int)) (y.fst % (18446744073709551616 : Int)) *
  (2 : Int) % (340282366920938463463374607431768211456 : Int) / (18446744073709551616 : Int)) (wN (y.fst / (18446744073709551616 : Int)) (y.fst % (18446744073709551616 : Int)) * (2 : Int) %
  (340282366920938463463374607431768211456 : Int) % (18446744073709551616 : Int)) + wN (0 : Int) a < two128 then wN (wN (y.fst / (18446744073709551616 : Int)) (y.fst % (18446744073709551616 : Int)) * (2 : Int) %
  (340282366920938463463374607431768211456 : Int) / (18446744073709551616 : Int)) (wN (y.fst / (18446744073709551616 : Int)) (y.fst % (18446744073709551616 : Int)) * (2 : Int) % (340282366920938463463374607431768211456 :
  Int) % (18446744073709551616 : Int)) + wN (0 : Int) a else (0 : Int)) / (18446744073709551616 : Int) = y_1.fst / (18446744073709551616 : Int) ∧ (if wN (wN (y.fst / (18446744073709551616 : Int)) (y.fst %
  (18446744073709551616 : Int)) * (2 : Int) % (340282366920938463463374607431768211456 : Int) / (18446744073709551616 : Int)) (wN (y.fst / (18446744073709551616 : Int)) (y.fst % (18446744073709551616 : Int)) * (2 : Int) %
  (340282366920938463463374607431768211456 : Int) % (18446744073709551616 : Int)) + wN (0 : Int) a < two128 then wN (wN (y.fst / (18446744073709551616 : Int)) (y.fst % (18446744073709551616 : Int)) * (2 : Int) %
  (340282366920938463463374607431768211456 : Int) / (18446744073709551616 : Int)) (wN (y.fst / (18446744073709551616 : Int)) (y.fst % (18446744073709551616 : Int)) * (2 : Int) % (340282366920938463463374607431768211456 :
  Int) % (18446744073709551616 : Int)) + wN (0 : Int) a else (0 : Int)) % (18446744073709551616 : Int) = y_1.fst % (18446744073709551616 : Int) ∧ True) ∧ True) ∧ (mulFam a b).μ y_1 < (mulFam a b).μ y) ∧ ((bits BinOp.and
  IntKind.u64 (b.fdiv ((2 : Int) ^ min (IntKind.u64.wrap y.snd).toNat IntKind.u64.bits)) (1 : Int) == (1 : Int)) = false → ∀ (v : Int), v = IntKind.i64.wrap (y.snd - (1 : Int)) → ∃ (y_1 : Int × Int), (((-1 : Int) ≤ y_1.snd
  ∧ y_1.snd ≤ (63 : Int)) ∧ y_1.fst = a * (b / (2 : Int) ^ (y_1.snd + (1 : Int)).toNat)) ∧ ((a = a ∧ b = b ∧ (True ∧ True) ∧ (True ∧ True) ∧ v = y_1.snd ∧ True) ∧ ((2 : Nat) ≤ (2 : Nat) ∧ (0 : Int) = (0 : Int) ∧ (0 : Int)
  = (0 : Int) ∧ True) ∧ ((2 : Nat) ≤ (2 : Nat) ∧ wN (y.fst / (18446744073709551616 : Int)) (y.fst % (18446744073709551616 : Int)) * (2 : Int) % (340282366920938463463374607431768211456 : Int) / (18446744073709551616 : Int)
  = y_1.fst / (18446744073709551616 : Int) ∧ wN (y.fst / (18446744073709551616 : Int)) (y.fst % (18446744073709551616 : Int)) * (2 : Int) % (340282366920938463463374607431768211456 : Int) % (18446744073709551616 : Int) =
  y_1.fst % (18446744073709551616 : Int) ∧ True) ∧ True) ∧ (mulFam a b).μ y_1 < (mulFam a b).μ y)) ∧ (decide (y.snd ≥ (0 : Int)) = false → ((0 : Int) ≤ a ∧ a < (18446744073709551616 : Int)) ∧ (0 : Int) ≤ b ∧ b <
  (18446744073709551616 : Int) → (y.fst / (18446744073709551616 : Int) = a * b / (18446744073709551616 : Int) ∧ y.fst % (18446744073709551616 : Int) = a * b % (18446744073709551616 : Int) ∧ True) ∧ True ∧ True) := by
  simp only [true_and, and_true, eq_self, Nat.le_refl, decide_eq_true_eq, decide_eq_false_iff_not, beq_iff_eq, beq_eq_false_iff_ne, and_self, Int.not_le, ge_iff_le, ne_eq]
  rintro a b ⟨⟨ha, ha'⟩, hb, hb'⟩ v hv
  refine ⟨⟨(0, 63), ⟨⟨by decide, by decide⟩, ?_⟩, hv, by decide, by decide⟩, ?_⟩
  · show (0 : Int) = a * (b / 18446744073709551616)
    rw [Int.ediv_eq_zero_of_lt hb hb', Int.mul_zero]
  rintro ⟨o, i⟩ ⟨⟨hi, hi'⟩, ho⟩
  simp only at hi hi' ho ⊢
  refine ⟨fun h0 => ?_, fun h0 _ => ?_⟩
  · have e1 : IntKind.u64.wrap i = i := wrap_u64_of (by unfold u64; omega)
    have e2 : IntKind.i64.wrap (i - 1) = i - 1 := wrap_i64_of (by unfold i64; omega)
    have e3 : (i + 1).toNat = i.toNat + 1 := by omega
    have hn : i.toNat < 64 := by omega
    rw [e1, e2, min64 hn, fdiv_pow, and_one (div_u64 ⟨hb, hb'⟩ _)]
    rw [e3] at ho
    have hq := ediv_succ b i.toNat
    have hle := Int.ediv_le_self (2 ^ i.toNat) hb
    have hnn := Int.ediv_nonneg hb (Int.le_of_lt (pow_pos' i.toNat))
    have hnn2 := Int.ediv_nonneg hb (Int.le_of_lt (pow_pos' (i.toNat + 1)))
    generalize hq2 : b / 2 ^ (i.toNat + 1) = q at *
    generalize hbt : b / 2 ^ i.toNat % 2 = t at *
    have hto : t = 0 ∨ t = 1 := by omega
    have hm1 : 0 ≤ a * q := Int.mul_nonneg ha hnn2
    have hm2 : a * q ≤ a * 9223372036854775807 := Int.mul_le_mul_of_nonneg_left (by omega) ha
    have hoN : wN (o / 18446744073709551616) (o % 18446744073709551616) * 2 % 340282366920938463463374607431768211456 = 2 * o := by
      unfold wN
      omega
    have hoN2 : wN (2 * o / 18446744073709551616) (2 * o % 18446744073709551616) = 2 * o := by unfold wN; omega
    have hoN3 : wN 0 a = a := by unfold wN; omega
    have hlt : 2 * o + a < two128 := by unfold two128; omega
    have eN : ∀ w : Int, w = i - 1 → (w + 1).toNat = i.toNat := fun w h => by omega
    rw [hoN, hoN2, hoN3, if_pos hlt]
    unfold two128 at hlt
    refine ⟨⟨⟨by omega, by omega⟩, by omega, by omega⟩, h0, fun hbit => ⟨⟨⟨⟨by omega, by omega⟩, by omega, by omega⟩, ⟨by decide, by decide⟩, ha, ha'⟩, fun w hw => ?_⟩, fun hbit w hw => ?_⟩
    · refine ⟨(2 * o + a, w), ⟨⟨by simp only; omega, by simp only; omega⟩, ?_⟩, ⟨rfl, rfl, rfl⟩, ?_⟩
      · simp only
        rw [eN w hw, hq, hbit, ho, Int.mul_add, Int.mul_one, Int.mul_left_comm]
      · show (w + 1).toNat < (i + 1).toNat
        omega
    · have ht : t = 0 := by omega
      refine ⟨(2 * o, w), ⟨⟨by simp only; omega, by simp only; omega⟩, ?_⟩, ⟨rfl, rfl, rfl⟩, ?_⟩
      · simp only
        rw [eN w hw, hq, ht, ho, Int.add_zero, Int.mul_left_comm]
      · show (w + 1).toNat < (i + 1).toNat
        omega
  · have e : i = -1 := by omega
    subst e
    have : o = a * b := by rw [ho]; show a * (b / 1) = a * b; rw [Int.ediv_one]
    rw [this]
    exact ⟨rfl, rfl⟩
theorem rmul_all (a b : Int) : rmulP.vc Try.prog (rmulC (a, b)) Try.f26 (a, b) := @Eq.mp _ _ (by kernel_rfl) (rmul_vc a b)

end Go.Proofs.Ytglbonfohmdcnaa
