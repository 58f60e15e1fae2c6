import Derived.Test.YtijpjhelgggmfaaSxSpec
import Derived.Test.YtijpjhelgggmfaaWide
open Go Go.Sx Go.Proofs
set_option maxRecDepth 100000
namespace Go.Proofs.Ytijpjhelgggmfaa

theorem bit_ok : SpOk Try.prog 61 bitP.sp := Pat.ok (C := fun _ => C0) (fun _ => cfg_nil rfl) (by kernel_rfl) Try.func61 (fun _ => rfl) fun ⟨a, b, i⟩ => bit_all a b i
theorem with_ok : SpOk Try.prog 71 withP.sp := Pat.ok (C := fun _ => C0) (fun _ => cfg_nil rfl) (by kernel_rfl) Try.func71 (fun _ => rfl) fun ⟨a, b, i⟩ => withb_all a b i
theorem dbl_ok : SpOk Try.prog 69 dblP.sp := Pat.ok (C := fun _ => C0) (fun _ => cfg_nil rfl) (by kernel_rfl) Try.func69 (fun _ => rfl) fun ⟨a, b⟩ => dbl_all a b
theorem mul64_ok : SpOk Try.prog 72 mulP.sp := Pat.ok (C := fun _ => C0) (fun _ => cfg_nil rfl) (by kernel_rfl) Try.func72 (fun _ => rfl) fun ⟨a, b⟩ => mul_all a b

def two128 : Int := 340282366920938463463374607431768211456
structure AddY where
  o : Int
  c : Int
  i : Int
def addFam (a1 a0 b1 b0 : Int) : Fam where
  α := AddY
  I y := (0 ≤ y.i ∧ y.i ≤ 128) ∧ (0 ≤ y.o ∧ y.o < 2 ^ y.i.toNat) ∧ (0 ≤ y.c ∧ y.c ≤ 1) ∧ wN a1 a0 % 2 ^ y.i.toNat + wN b1 b0 % 2 ^ y.i.toNat = y.c * 2 ^ y.i.toNat + y.o
  st y := { sl := mkSl 36 [(2, p0 0), (3, p0 1), (4, p0 2), (5, .ff), (6, p0 3), (7, .int .u64 y.c), (8, .int .i64 y.i)], H := [newReg 64 (wT a1 a0), newReg 64 (wT b1 b0), newReg 64 (wT 0 0), newReg 64 (wO y.o)] }
  μ y := (128 - y.i).toNat
def addP : Pat ((Int × Int) × (Int × Int)) where
  view | [.cons (.int .u64 a) (.cons (.int .u64 b) .nil), .cons (.int .u64 c) (.cons (.int .u64 d) .nil)], _ => some ((a, b), (c, d)) | _, _ => none
  args x := [wT x.1.1 x.1.2, wT x.2.1 x.2.2]
  H _ := []
  out x := .need ((u64 x.1.1 ∧ u64 x.1.2) ∧ u64 x.2.1 ∧ u64 x.2.2) (.retq (.tup (.cons (wO (if wN x.1.1 x.1.2 + wN x.2.1 x.2.2 < two128 then wN x.1.1 x.1.2 + wN x.2.1 x.2.2 else 0)) (.cons (.bool (decide (wN x.1.1 x.1.2 + wN x.2.1 x.2.2 < two128))) .nil))))
def addC (x : (Int × Int) × (Int × Int)) : Cfg := { Γ := Go.Sx.look [(61, bitP.sp), (71, withP.sp)], loops := onlyAt 4 [addFam x.1.1 x.1.2 x.2.1 x.2.2], names := true }

theorem add_vc : ∀ (a1 a0 b1 b0 : Int), ((((0 : Int) ≤ a1 ∧ a1 < (18446744073709551616 : Int)) ∧ (0 : Int) ≤ a0 ∧ a0 < (18446744073709551616 : Int)) ∧ ((0 : Int) ≤ b1 ∧ b1 < (18446744073709551616 : Int)) ∧ (0 : Int) ≤ b0 ∧ b0 <
  (18446744073709551616 : Int)) ∧ True → ∀ (v : Int), v = (0 : Int) → ∀ (v_1 : Int), v_1 = (0 : Int) → (∃ (y : AddY), (((0 : Int) ≤ y.i ∧ y.i ≤ (128 : Int)) ∧ ((0 : Int) ≤ y.o ∧ y.o < (2 : Int) ^ y.i.toNat) ∧ ((0 : Int) ≤
  y.c ∧ y.c ≤ (1 : Int)) ∧ wN a1 a0 % (2 : Int) ^ y.i.toNat + wN b1 b0 % (2 : Int) ^ y.i.toNat = y.c * (2 : Int) ^ y.i.toNat + y.o) ∧ (((True ∧ True) ∧ (True ∧ True) ∧ (True ∧ True) ∧ True ∧ (True ∧ True) ∧ v = y.c ∧ v_1 =
  y.i ∧ True) ∧ ((2 : Nat) ≤ (2 : Nat) ∧ a1 = a1 ∧ a0 = a0 ∧ True) ∧ ((2 : Nat) ≤ (2 : Nat) ∧ b1 = b1 ∧ b0 = b0 ∧ True) ∧ ((2 : Nat) ≤ (2 : Nat) ∧ (0 : Int) = (0 : Int) ∧ (0 : Int) = (0 : Int) ∧ True) ∧ ((2 : Nat) ≤ (2 :
  Nat) ∧ (0 : Int) = y.o / (18446744073709551616 : Int) ∧ (0 : Int) = y.o % (18446744073709551616 : Int) ∧ True) ∧ True) ∧ True) ∧ ∀ (y : AddY), ((0 : Int) ≤ y.i ∧ y.i ≤ (128 : Int)) ∧ ((0 : Int) ≤ y.o ∧ y.o < (2 : Int) ^
  y.i.toNat) ∧ ((0 : Int) ≤ y.c ∧ y.c ≤ (1 : Int)) ∧ wN a1 a0 % (2 : Int) ^ y.i.toNat + wN b1 b0 % (2 : Int) ^ y.i.toNat = y.c * (2 : Int) ^ y.i.toNat + y.o → (decide (y.i < (128 : Int)) = true → (((a1 = a1 ∧ a0 = a0 ∧
  True) ∧ y.i = y.i ∧ True) ∧ True) ∧ ((((0 : Int) ≤ a1 ∧ a1 < (18446744073709551616 : Int)) ∧ (0 : Int) ≤ a0 ∧ a0 < (18446744073709551616 : Int)) ∧ (0 : Int) ≤ y.i ∧ y.i < (128 : Int)) ∧ (((b1 = b1 ∧ b0 = b0 ∧ True) ∧ y.i
  = y.i ∧ True) ∧ True) ∧ ((((0 : Int) ≤ b1 ∧ b1 < (18446744073709551616 : Int)) ∧ (0 : Int) ≤ b0 ∧ b0 < (18446744073709551616 : Int)) ∧ (0 : Int) ≤ y.i ∧ y.i < (128 : Int)) ∧ ∀ (v : Int), v = IntKind.u64.wrap
  (IntKind.u64.wrap (wN a1 a0 / (2 : Int) ^ y.i.toNat % (2 : Int) + wN b1 b0 / (2 : Int) ^ y.i.toNat % (2 : Int)) + y.c) → ((bits BinOp.and IntKind.u64 v (1 : Int) == (1 : Int)) = true → (((y.o / (18446744073709551616 :
  Int) = y.o / (18446744073709551616 : Int) ∧ y.o % (18446744073709551616 : Int) = y.o % (18446744073709551616 : Int) ∧ True) ∧ y.i = y.i ∧ True) ∧ True) ∧ ((((0 : Int) ≤ y.o / (18446744073709551616 : Int) ∧ y.o /
  (18446744073709551616 : Int) < (18446744073709551616 : Int)) ∧ (0 : Int) ≤ y.o % (18446744073709551616 : Int) ∧ y.o % (18446744073709551616 : Int) < (18446744073709551616 : Int)) ∧ ((0 : Int) ≤ y.i ∧ y.i < (128 : Int)) ∧
  wN (y.o / (18446744073709551616 : Int)) (y.o % (18446744073709551616 : Int)) < (2 : Int) ^ y.i.toNat) ∧ (0 : Int) ≤ (1 : Int) ∧ ∀ (v_2 : Int), v_2 = v.fdiv ((2 : Int) ^ min (Int.toNat (1 : Int)) IntKind.u64.bits) → ∀ (v
  : Int), v = IntKind.i64.wrap (y.i + (1 : Int)) → ∃ (y_1 : AddY), (((0 : Int) ≤ y_1.i ∧ y_1.i ≤ (128 : Int)) ∧ ((0 : Int) ≤ y_1.o ∧ y_1.o < (2 : Int) ^ y_1.i.toNat) ∧ ((0 : Int) ≤ y_1.c ∧ y_1.c ≤ (1 : Int)) ∧ wN a1 a0 %
  (2 : Int) ^ y_1.i.toNat + wN b1 b0 % (2 : Int) ^ y_1.i.toNat = y_1.c * (2 : Int) ^ y_1.i.toNat + y_1.o) ∧ (((True ∧ True) ∧ (True ∧ True) ∧ (True ∧ True) ∧ True ∧ (True ∧ True) ∧ v_2 = y_1.c ∧ v = y_1.i ∧ True) ∧ ((2 :
  Nat) ≤ (2 : Nat) ∧ a1 = a1 ∧ a0 = a0 ∧ True) ∧ ((2 : Nat) ≤ (2 : Nat) ∧ b1 = b1 ∧ b0 = b0 ∧ True) ∧ ((2 : Nat) ≤ (2 : Nat) ∧ (0 : Int) = (0 : Int) ∧ (0 : Int) = (0 : Int) ∧ True) ∧ ((2 : Nat) ≤ (2 : Nat) ∧ (wN (y.o /
  (18446744073709551616 : Int)) (y.o % (18446744073709551616 : Int)) + (2 : Int) ^ y.i.toNat) / (18446744073709551616 : Int) = y_1.o / (18446744073709551616 : Int) ∧ (wN (y.o / (18446744073709551616 : Int)) (y.o %
  (18446744073709551616 : Int)) + (2 : Int) ^ y.i.toNat) % (18446744073709551616 : Int) = y_1.o % (18446744073709551616 : Int) ∧ True) ∧ True) ∧ (addFam a1 a0 b1 b0).μ y_1 < (addFam a1 a0 b1 b0).μ y) ∧ ((bits BinOp.and
  IntKind.u64 v (1 : Int) == (1 : Int)) = false → (0 : Int) ≤ (1 : Int) ∧ ∀ (v_2 : Int), v_2 = v.fdiv ((2 : Int) ^ min (Int.toNat (1 : Int)) IntKind.u64.bits) → ∀ (v : Int), v = IntKind.i64.wrap (y.i + (1 : Int)) → ∃ (y_1
  : AddY), (((0 : Int) ≤ y_1.i ∧ y_1.i ≤ (128 : Int)) ∧ ((0 : Int) ≤ y_1.o ∧ y_1.o < (2 : Int) ^ y_1.i.toNat) ∧ ((0 : Int) ≤ y_1.c ∧ y_1.c ≤ (1 : Int)) ∧ wN a1 a0 % (2 : Int) ^ y_1.i.toNat + wN b1 b0 % (2 : Int) ^
  y_1.i.toNat = y_1.c * (2 : Int) ^ y_1.i.toNat + y_1.o) ∧ (((True ∧ True) ∧ (True ∧ True) ∧ (True ∧ True) ∧ True ∧ (True ∧ True) ∧ v_2 = y_1.c ∧ v = y_1.i ∧ True) ∧ ((2 : Nat) ≤ (2 : Nat) ∧ a1 = a1 ∧ a0 = a0 ∧ True) ∧ ((2
  : Nat) ≤ (2 : Nat) ∧ b1 = b1 ∧ b0 = b0 ∧ True) ∧ ((2 : Nat) ≤ (2 : Nat) ∧ (0 : Int) = (0 : Int) ∧ (0 : Int) = (0 : Int) ∧ True) ∧ ((2 : Nat) ≤ (2 : Nat) ∧ y.o / (18446744073709551616 : Int) = y_1.o /
  (18446744073709551616 : Int) ∧ y.o % (18446744073709551616 : Int) = y_1.o % (18446744073709551616 : Int) ∧ True) ∧ True) ∧ (addFam a1 a0 b1 b0).μ y_1 < (addFam a1 a0 b1 b0).μ y)) ∧ (decide (y.i < (128 : Int)) = false →
  (decide (y.c > (0 : Int)) = true → (((0 : Int) ≤ a1 ∧ a1 < (18446744073709551616 : Int)) ∧ (0 : Int) ≤ a0 ∧ a0 < (18446744073709551616 : Int)) ∧ ((0 : Int) ≤ b1 ∧ b1 < (18446744073709551616 : Int)) ∧ (0 : Int) ≤ b0 ∧ b0
  < (18446744073709551616 : Int) → (((0 : Int) = (if wN a1 a0 + wN b1 b0 < two128 then wN a1 a0 + wN b1 b0 else (0 : Int)) / (18446744073709551616 : Int) ∧ (0 : Int) = (if wN a1 a0 + wN b1 b0 < two128 then wN a1 a0 + wN b1
  b0 else (0 : Int)) % (18446744073709551616 : Int) ∧ True) ∧ decide (wN a1 a0 + wN b1 b0 < two128) = false ∧ True) ∧ True ∧ True) ∧ (decide (y.c > (0 : Int)) = false → (((0 : Int) ≤ a1 ∧ a1 < (18446744073709551616 : Int))
  ∧ (0 : Int) ≤ a0 ∧ a0 < (18446744073709551616 : Int)) ∧ ((0 : Int) ≤ b1 ∧ b1 < (18446744073709551616 : Int)) ∧ (0 : Int) ≤ b0 ∧ b0 < (18446744073709551616 : Int) → ((y.o / (18446744073709551616 : Int) = (if wN a1 a0 + wN
  b1 b0 < two128 then wN a1 a0 + wN b1 b0 else (0 : Int)) / (18446744073709551616 : Int) ∧ y.o % (18446744073709551616 : Int) = (if wN a1 a0 + wN b1 b0 < two128 then wN a1 a0 + wN b1 b0 else (0 : Int)) %
  (18446744073709551616 : Int) ∧ True) ∧ decide (wN a1 a0 + wN b1 b0 < two128) = true ∧ True) ∧ True ∧ True)) := by
  simp only [true_and, and_true, eq_self, Nat.le_refl, decide_eq_true_eq, decide_eq_false_iff_not, beq_iff_eq, beq_eq_false_iff_ne, and_self, Int.not_lt, gt_iff_lt, ne_eq]
  rintro a1 a0 b1 b0 ⟨⟨⟨ha1, ha1'⟩, ha0, ha0'⟩, ⟨hb1, hb1'⟩, hb0, hb0'⟩ v hv v1 hv1
  refine ⟨⟨⟨0, 0, 0⟩, ⟨⟨by decide, by decide⟩, ⟨by decide, by decide⟩, ⟨by decide, by decide⟩, ?_⟩, ⟨hv, hv1⟩, by decide, by decide⟩, ?_⟩
  · show wN a1 a0 % 1 + wN b1 b0 % 1 = 0 * 1 + 0
    omega
  rintro ⟨o, c, i⟩ ⟨⟨hi, hi'⟩, ⟨ho, ho'⟩, ⟨hc, hc'⟩, hs⟩
  simp only at hi hi' ho ho' hc hc' hs ⊢
  have hA : 0 ≤ wN a1 a0 ∧ wN a1 a0 < two128 := by unfold wN two128; omega
  have hB : 0 ≤ wN b1 b0 ∧ wN b1 b0 < two128 := by unfold wN two128; omega
  have hoo : wN (o / 18446744073709551616) (o % 18446744073709551616) = o := by unfold wN; omega
  generalize hAe : wN a1 a0 = A at *
  generalize hBe : wN b1 b0 = B at *
  refine ⟨fun hlt => ⟨⟨⟨⟨ha1, ha1'⟩, ha0, ha0'⟩, hi, hlt⟩, ⟨⟨⟨hb1, hb1'⟩, hb0, hb0'⟩, hi, hlt⟩, fun v hv => ?_⟩, fun hge => ?_⟩
  · have hp := pow_pos' i.toNat
    have hq := pow_le' (show i.toNat ≤ 127 by omega)
    rw [show (2 : Int) ^ 127 = 170141183460469231731687303715884105728 from by decide] at hq
    have hsA := emod_succ A i.toNat
    have hsB := emod_succ B i.toNat
    have hx : A / 2 ^ i.toNat % 2 = 0 ∨ A / 2 ^ i.toNat % 2 = 1 := by omega
    have hy : B / 2 ^ i.toNat % 2 = 0 ∨ B / 2 ^ i.toNat % 2 = 1 := by omega
    have hcc : c = 0 ∨ c = 1 := by omega
    have hv' : v = A / 2 ^ i.toNat % 2 + B / 2 ^ i.toNat % 2 + c := by
      rw [hv, wrap_u64_of, wrap_u64_of] <;> unfold u64 <;> (try rw [wrap_u64_of (by unfold u64; omega)]) <;> omega
    clear hv
    rw [and_one (by unfold u64; omega)]
    have e1 : min (Int.toNat (1 : Int)) IntKind.u64.bits = 1 := rfl
    have e2 : IntKind.i64.wrap (i + 1) = i + 1 := wrap_i64_of (by unfold i64; omega)
    have e3 : (i + 1).toNat = i.toNat + 1 := by omega
    rw [e1, fdiv_pow, show (2 : Int) ^ 1 = 2 from rfl, hoo]
    have e4 : (2 : Int) ^ (i.toNat + 1) = 2 ^ i.toNat * 2 := Int.pow_succ 2 _
    generalize A / 2 ^ i.toNat % 2 = x at *
    generalize B / 2 ^ i.toNat % 2 = y at *
    refine ⟨fun hbit => ⟨⟨⟨⟨by omega, by omega⟩, by omega, by omega⟩, ⟨hi, hlt⟩, ho'⟩, by decide, fun v2 hv2 w hw => ?_⟩, fun hbit => ⟨by decide, fun v2 hv2 w hw => ?_⟩⟩
    · rw [e2] at hw
      refine ⟨⟨o + 2 ^ i.toNat, v2, w⟩, ?_, ⟨⟨rfl, rfl⟩, rfl, rfl⟩, by show (128 - w).toNat < (128 - i).toNat; omega⟩
      dsimp only
      refine ⟨⟨by omega, by omega⟩, ⟨by omega, ?_⟩, ⟨by omega, by omega⟩, ?_⟩
      · rw [hw, e3, e4]; omega
      · rw [hw, e3, hsA, hsB, e4]
        generalize 2 ^ i.toNat = p at *
        rcases hx with rfl | rfl <;> rcases hy with rfl | rfl <;> rcases hcc with rfl | rfl <;> simp only [Int.zero_mul, Int.one_mul, Int.zero_add, Int.add_zero, Int.reduceAdd] at * <;> subst hv' <;> first | omega | (subst hv2; omega)
    · rw [e2] at hw
      refine ⟨⟨o, v2, w⟩, ?_, ⟨⟨rfl, rfl⟩, rfl, rfl⟩, by show (128 - w).toNat < (128 - i).toNat; omega⟩
      dsimp only
      refine ⟨⟨by omega, by omega⟩, ⟨by omega, ?_⟩, ⟨by omega, by omega⟩, ?_⟩
      · rw [hw, e3, e4]; omega
      · rw [hw, e3, hsA, hsB, e4]
        generalize 2 ^ i.toNat = p at *
        rcases hx with rfl | rfl <;> rcases hy with rfl | rfl <;> rcases hcc with rfl | rfl <;> simp only [Int.zero_mul, Int.one_mul, Int.zero_add, Int.add_zero, Int.reduceAdd] at * <;> subst hv' <;> first | omega | (subst hv2; omega)
  · have hi128 : i.toNat = 128 := by omega
    rw [hi128, show (2 : Int) ^ 128 = two128 from by decide, Int.emod_eq_of_lt hA.1 hA.2, Int.emod_eq_of_lt hB.1 hB.2] at hs
    rw [hi128, show (2 : Int) ^ 128 = two128 from by decide] at ho'
    unfold two128 at *
    refine ⟨fun hc0 _ => ?_, fun hc0 _ => ?_⟩
    · have hcc : c = 1 := by omega
      subst hcc
      rw [if_neg (by omega)]
      exact ⟨⟨by decide, by decide⟩, by omega⟩
    · have hcc : c = 0 := by omega
      subst hcc
      rw [if_pos (by omega)]
      have : A + B = o := by omega
      rw [this]
      exact ⟨⟨rfl, rfl⟩, by omega⟩
theorem add_all (a1 a0 b1 b0 : Int) : addP.vc Try.prog (addC ((a1, a0), (b1, b0))) Try.f60 ((a1, a0), (b1, b0)) := @Eq.mp _ _ (by kernel_rfl) (add_vc a1 a0 b1 b0)

theorem add_ok : SpOk Try.prog 60 addP.sp := Pat.ok (C := addC) (fun _ => cfg_tab rfl (tab_cons bit_ok (tab_cons with_ok tab_nil))) (by kernel_rfl) Try.func60 (fun _ => rfl) fun ⟨⟨a, b⟩, c, d⟩ => add_all a b c d
end Go.Proofs.Ytijpjhelgggmfaa
