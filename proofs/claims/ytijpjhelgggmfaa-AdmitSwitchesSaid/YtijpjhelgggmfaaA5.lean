import Derived.Test.YtijpjhelgggmfaaA4
import Derived.Test.YtijpjhelgggmfaaMQuo
open Go Go.Sx Go.Proofs
set_option maxRecDepth 100000
namespace Go.Proofs.Ytijpjhelgggmfaa

structure DS where
  hi : Int
  lo : Int
  y : Int
def DS.s (x : DS) : Nat := 64 - lenN x.y.toNat
def DS.p (x : DS) : Int := 2 ^ x.s
def DS.Y (x : DS) : Int := x.y * x.p
def DS.A (x : DS) : Int := x.Y / 4294967296
def DS.B (x : DS) : Int := x.Y % 4294967296
def DS.U (x : DS) : Int := x.hi * x.p + x.lo / 2 ^ (64 - x.s)
def DS.L (x : DS) : Int := x.lo * x.p % 18446744073709551616
def DS.L1 (x : DS) : Int := x.L / 4294967296
def DS.L0 (x : DS) : Int := x.L % 4294967296
def DS.Q1 (x : DS) : Int := (x.U * 4294967296 + x.L1) / x.Y
def DS.V (x : DS) : Int := x.U * 4294967296 + x.L1 - x.Q1 * x.Y
def DS.Q0 (x : DS) : Int := (x.V * 4294967296 + x.L0) / x.Y
def divP : Pat DS where
  view | [.int .u64 a, .int .u64 b, .int .u64 c], _ => some ⟨a, b, c⟩ | _, _ => none
  args x := [.int .u64 x.hi, .int .u64 x.lo, .int .u64 x.y]
  H _ := []
  out x := .need ((u64 x.hi ∧ u64 x.lo ∧ u64 x.y) ∧ x.hi < x.y) (.retq (.tup (.cons (.int .u64 ((x.hi * 18446744073709551616 + x.lo) / x.y)) (.cons (.int .u64 ((x.hi * 18446744073709551616 + x.lo) % x.y)) .nil))))
def divF1 (x : DS) : Fam where
  α := Int × Int
  I z := z.1 * x.A + z.2 = x.U ∧ (0 ≤ z.2 ∧ z.2 < 4294967296) ∧ x.Q1 ≤ z.1 ∧ z.1 ≤ 4294967297
  st z := { sl := mkSl 135 [(2, .int .u64 x.Y), (8, .int .u64 x.s), (9, .int .u64 x.A), (10, .int .u64 x.B), (11, .int .u64 x.U), (13, .int .u64 x.L1), (14, .int .u64 x.L0), (15, .int .u64 z.1), (16, .int .u64 z.2)], H := [] }
  μ z := z.1.toNat
def divF2 (x : DS) : Fam where
  α := Int × Int
  I z := z.1 * x.A + z.2 = x.V ∧ (0 ≤ z.2 ∧ z.2 < 4294967296) ∧ x.Q0 ≤ z.1 ∧ z.1 ≤ 4294967297
  st z := { sl := mkSl 135 [(2, .int .u64 x.Y), (8, .int .u64 x.s), (9, .int .u64 x.A), (10, .int .u64 x.B), (14, .int .u64 x.L0), (15, .int .u64 x.Q1), (17, .int .u64 x.V), (18, .int .u64 z.1), (16, .int .u64 z.2)], H := [] }
  μ z := z.1.toNat
def divL (x : DS) : Nat → Gam
  | 17 => .l [divF1 x]
  | 24 => .l [divF2 x]
  | _ => .l []
def divC1 (x : DS) : Fam where
  α := Bool
  I _ := True
  st _ := { sl := mkSl 135 [(2, .int .u64 x.Y), (8, .int .u64 x.s), (9, .int .u64 x.A), (10, .int .u64 x.B), (11, .int .u64 x.U), (13, .int .u64 x.L1), (14, .int .u64 x.L0), (15, .int .u64 x.Q1)], H := [] }
  μ _ := 0
def divC2 (x : DS) : Fam where
  α := Bool
  I _ := True
  st _ := { sl := mkSl 135 [(2, .int .u64 x.Y), (8, .int .u64 x.s), (14, .int .u64 x.L0), (15, .int .u64 x.Q1), (17, .int .u64 x.V), (18, .int .u64 x.Q0)], H := [] }
  μ _ := 0
def divK (x : DS) : Nat → Gam
  | 21 => .l [divC1 x]
  | 28 => .l [divC2 x]
  | _ => .l []
structure DS.Fact (x : DS) : Prop where
  s : x.s ≤ 63
  p : 0 < x.p
  y : 0 < x.y
  Y : 9223372036854775808 ≤ x.Y ∧ x.Y < 18446744073709551616
  YAB : x.Y = x.A * 4294967296 + x.B
  A : 2147483648 ≤ x.A ∧ x.A < 4294967296
  B : 0 ≤ x.B ∧ x.B < 4294967296
  U : 0 ≤ x.U ∧ x.U < x.Y
  L : 0 ≤ x.L ∧ x.L < 18446744073709551616
  L1 : 0 ≤ x.L1 ∧ x.L1 < 4294967296
  L0 : 0 ≤ x.L0 ∧ x.L0 < 4294967296
  hp : 0 ≤ x.hi * x.p ∧ x.hi * x.p < 18446744073709551616
  lo : 0 ≤ x.lo / 2 ^ (64 - x.s) ∧ x.lo / 2 ^ (64 - x.s) < x.p
  V : 0 ≤ x.V ∧ x.V < x.Y
  R : 0 ≤ x.V * 4294967296 + x.L0 - x.Q0 * x.Y ∧ x.V * 4294967296 + x.L0 - x.Q0 * x.Y < x.Y
  q : x.Q1 * 4294967296 + x.Q0 = (x.hi * 18446744073709551616 + x.lo) / x.y
  r : (x.V * 4294967296 + x.L0 - x.Q0 * x.Y) / x.p = (x.hi * 18446744073709551616 + x.lo) % x.y
theorem DS.fact (x : DS) (h1 : 0 ≤ x.hi) (h2 : u64 x.lo) (h3 : x.y < 18446744073709551616) (h4 : x.hi < x.y) : x.Fact := by
  obtain ⟨n, hn⟩ := Int.eq_ofNat_of_zero_le (show 0 ≤ x.y by omega)
  have hn0 : n ≠ 0 := by omega
  obtain ⟨l1, l2, l3⟩ := lenN_spec hn0
  have l4 := lenN_le (show 0 ≤ x.y by omega) h3
  have hs : x.s = 64 - lenN n := by unfold DS.s; rw [hn, Int.toNat_natCast]
  rw [hn, Int.toNat_natCast] at l4
  have k1 : (2 : Int) ^ (lenN n - 1) ≤ x.y := by
    rw [hn, show (2 : Int) ^ (lenN n - 1) = ((2 ^ (lenN n - 1) : Nat) : Int) by simp]; exact Int.ofNat_le.2 l2
  have k2 : x.y < (2 : Int) ^ lenN n := by
    rw [hn, show (2 : Int) ^ lenN n = ((2 ^ lenN n : Nat) : Int) by simp]; exact Int.ofNat_lt.2 l3
  have hY := norm_bd l1 l4 k1 k2
  rw [← hs] at hY
  have hp : 0 < x.p := pow_pos' _
  have hp1 : x.hi * x.p ≤ (x.y - 1) * x.p := Int.mul_le_mul_of_nonneg_right (by omega) (by omega)
  have hp0 : 0 ≤ x.hi * x.p := Int.mul_nonneg h1 (by omega)
  rw [Int.sub_mul, Int.one_mul] at hp1
  have hs' : x.s ≤ 64 := by omega
  have g1 := shr_lt hs' h2.2
  have g0 : 0 ≤ x.lo / 2 ^ (64 - x.s) := Int.ediv_nonneg h2.1 (Int.le_of_lt (pow_pos' _))
  have g2 := shl_split (lo := x.lo) hs'
  have eY : x.y * x.p = x.Y := rfl
  have eL : x.L = x.lo * 2 ^ x.s % 18446744073709551616 := rfl
  have eU : x.U = x.hi * x.p + x.lo / 2 ^ (64 - x.s) := rfl
  have eL1 : x.L1 = x.L / 4294967296 := rfl
  have eL0 : x.L0 = x.L % 4294967296 := rfl
  have eA : x.A = x.Y / 4294967296 := rfl
  have eB : x.B = x.Y % 4294967296 := rfl
  have hY' : 9223372036854775808 ≤ x.Y ∧ x.Y < 18446744073709551616 := hY
  have g3 : x.lo / 2 ^ (64 - x.s) < x.p := g1
  have hN : x.U * 18446744073709551616 + (x.L1 * 4294967296 + x.L0) = (x.hi * 18446744073709551616 + x.lo) * x.p := by
    have e1 : (x.hi * 18446744073709551616 + x.lo) * x.p = x.hi * x.p * 18446744073709551616 + x.lo * x.p := by
      rw [Int.add_mul, Int.mul_assoc, Int.mul_comm 18446744073709551616, Int.mul_assoc]
    have e2 : x.lo * x.p = x.lo * 2 ^ x.s := rfl
    rw [e1, e2, g2, eU, ← eL]
    omega
  obtain ⟨f1, f2, f3, f4, f5, f6⟩ := q_end (L1 := x.L1) (L0 := x.L0) (V := x.V) (show 0 < x.y by omega) hp eY.symm hN rfl
  exact { s := by omega, p := hp, y := by omega, Y := hY', YAB := by omega, A := by omega, B := by omega, U := by omega, L := by omega, L1 := by omega, L0 := by omega,
          hp := by omega, lo := ⟨g0, g3⟩, V := ⟨f3, f4⟩, R := ⟨f5, f6⟩, q := f1, r := f2 }
def tDiv : Tab := [(73, lzPt.sp)]
theorem tDiv_ok : TabOk Try.prog tDiv := (tab_cons lz_ok tab_nil)

theorem div64_vc : ∀ (x : DS), ((((0 : Int) ≤ x.hi ∧ x.hi < (18446744073709551616 : Int)) ∧ ((0 : Int) ≤ x.lo ∧ x.lo < (18446744073709551616 : Int)) ∧ (0 : Int) ≤ x.y ∧ x.y < (18446744073709551616 : Int)) ∧ x.hi < x.y) ∧ True → ∀ (v :
  Int), v = (0 : Int) → ∀ (v : Int), v = (0 : Int) → ((x.y == (0 : Int)) = true → False) ∧ ((x.y == (0 : Int)) = false → (decide (x.y ≤ x.hi) = true → False) ∧ (decide (x.y ≤ x.hi) = false → ((x.hi == (0 : Int)) = true →
  x.y ≠ (0 : Int) ∧ x.y ≠ (0 : Int) ∧ ∀ (v : Int), v = IntKind.u64.wrap (x.lo.tdiv x.y) → ∀ (v_1 : Int), v_1 = x.lo.tmod x.y → (((0 : Int) ≤ x.hi ∧ x.hi < (18446744073709551616 : Int)) ∧ ((0 : Int) ≤ x.lo ∧ x.lo <
  (18446744073709551616 : Int)) ∧ (0 : Int) ≤ x.y ∧ x.y < (18446744073709551616 : Int)) ∧ x.hi < x.y → (v = (x.hi * (18446744073709551616 : Int) + x.lo) / x.y ∧ v_1 = (x.hi * (18446744073709551616 : Int) + x.lo) % x.y ∧
  True) ∧ True ∧ True) ∧ ((x.hi == (0 : Int)) = false → ((x.y = x.y ∧ True) ∧ True) ∧ ((0 : Int) ≤ x.y ∧ x.y < (18446744073709551616 : Int)) ∧ ∀ (v : Int), v = IntKind.u64.wrap ((64 : Int) - (↑(lenN x.y.toNat) : Int)) → (0
  : Int) ≤ v ∧ ∀ (v_1 : Int), v_1 = IntKind.u64.wrap (x.y * (2 : Int) ^ min v.toNat IntKind.u64.bits) → (0 : Int) ≤ (32 : Int) ∧ ∀ (v_2 : Int), v_2 = v_1.fdiv ((2 : Int) ^ min (Int.toNat (32 : Int)) IntKind.u64.bits) → ∀
  (v_3 : Int), v_3 = bits BinOp.and IntKind.u64 v_1 (4294967295 : Int) → (0 : Int) ≤ v ∧ (0 : Int) ≤ IntKind.u64.wrap ((64 : Int) - v) ∧ ∀ (v_4 : Int), v_4 = bits BinOp.or IntKind.u64 (IntKind.u64.wrap (x.hi * (2 : Int) ^
  min v.toNat IntKind.u64.bits)) (x.lo.fdiv ((2 : Int) ^ min (IntKind.u64.wrap ((64 : Int) - v)).toNat IntKind.u64.bits)) → (0 : Int) ≤ v ∧ ∀ (v_5 : Int), v_5 = IntKind.u64.wrap (x.lo * (2 : Int) ^ min v.toNat
  IntKind.u64.bits) → (0 : Int) ≤ (32 : Int) ∧ ∀ (v_6 : Int), v_6 = v_5.fdiv ((2 : Int) ^ min (Int.toNat (32 : Int)) IntKind.u64.bits) → ∀ (v_7 : Int), v_7 = bits BinOp.and IntKind.u64 v_5 (4294967295 : Int) → v_2 ≠ (0 :
  Int) ∧ ∀ (v_8 : Int), v_8 = IntKind.u64.wrap (v_4.tdiv v_2) → ∀ (v_9 : Int), v_9 = IntKind.u64.wrap (v_4 - IntKind.u64.wrap (v_8 * v_2)) → ((∃ (y : Int × Int), (y.fst * x.A + y.snd = x.U ∧ ((0 : Int) ≤ y.snd ∧ y.snd <
  (4294967296 : Int)) ∧ x.Q1 ≤ y.fst ∧ y.fst ≤ (4294967297 : Int)) ∧ ((v_1 = x.Y ∧ v = (↑x.s : Int) ∧ v_2 = x.A ∧ v_3 = x.B ∧ v_4 = x.U ∧ v_6 = x.L1 ∧ v_7 = x.L0 ∧ v_8 = y.fst ∧ v_9 = y.snd ∧ True) ∧ True) ∧ True) ∧ ∀ (y :
  Int × Int), y.fst * x.A + y.snd = x.U ∧ ((0 : Int) ≤ y.snd ∧ y.snd < (4294967296 : Int)) ∧ x.Q1 ≤ y.fst ∧ y.fst ≤ (4294967297 : Int) → (decide (y.fst ≥ (4294967296 : Int)) = true → ∀ (v : Int), v = IntKind.u64.wrap
  (y.fst - (1 : Int)) → ∀ (v_10 : Int), v_10 = IntKind.u64.wrap (y.snd + x.A) → (decide (v_10 ≥ (4294967296 : Int)) = true → ∃ (_ : Bool), True ∧ ((x.Y = x.Y ∧ (↑x.s : Int) = (↑x.s : Int) ∧ x.A = x.A ∧ x.B = x.B ∧ x.U =
  x.U ∧ x.L1 = x.L1 ∧ x.L0 = x.L0 ∧ v = x.Q1 ∧ True) ∧ True) ∧ True) ∧ (decide (v_10 ≥ (4294967296 : Int)) = false → ∃ (y_1 : Int × Int), (y_1.fst * x.A + y_1.snd = x.U ∧ ((0 : Int) ≤ y_1.snd ∧ y_1.snd < (4294967296 :
  Int)) ∧ x.Q1 ≤ y_1.fst ∧ y_1.fst ≤ (4294967297 : Int)) ∧ ((x.Y = x.Y ∧ (↑x.s : Int) = (↑x.s : Int) ∧ x.A = x.A ∧ x.B = x.B ∧ x.U = x.U ∧ x.L1 = x.L1 ∧ x.L0 = x.L0 ∧ v = y_1.fst ∧ v_10 = y_1.snd ∧ True) ∧ True) ∧ (divF1
  x).μ y_1 < (divF1 x).μ y)) ∧ (decide (y.fst ≥ (4294967296 : Int)) = false → (decide (IntKind.u64.wrap (y.fst * x.B) > IntKind.u64.wrap (IntKind.u64.wrap ((4294967296 : Int) * y.snd) + x.L1)) = true → ∀ (v : Int), v =
  IntKind.u64.wrap (y.fst - (1 : Int)) → ∀ (v_10 : Int), v_10 = IntKind.u64.wrap (y.snd + x.A) → (decide (v_10 ≥ (4294967296 : Int)) = true → ∃ (_ : Bool), True ∧ ((x.Y = x.Y ∧ (↑x.s : Int) = (↑x.s : Int) ∧ x.A = x.A ∧ x.B
  = x.B ∧ x.U = x.U ∧ x.L1 = x.L1 ∧ x.L0 = x.L0 ∧ v = x.Q1 ∧ True) ∧ True) ∧ True) ∧ (decide (v_10 ≥ (4294967296 : Int)) = false → ∃ (y_1 : Int × Int), (y_1.fst * x.A + y_1.snd = x.U ∧ ((0 : Int) ≤ y_1.snd ∧ y_1.snd <
  (4294967296 : Int)) ∧ x.Q1 ≤ y_1.fst ∧ y_1.fst ≤ (4294967297 : Int)) ∧ ((x.Y = x.Y ∧ (↑x.s : Int) = (↑x.s : Int) ∧ x.A = x.A ∧ x.B = x.B ∧ x.U = x.U ∧ x.L1 = x.L1 ∧ x.L0 = x.L0 ∧ v = y_1.fst ∧ v_10 = y_1.snd ∧ True) ∧
  True) ∧ (divF1 x).μ y_1 < (divF1 x).μ y)) ∧ (decide (IntKind.u64.wrap (y.fst * x.B) > IntKind.u64.wrap (IntKind.u64.wrap ((4294967296 : Int) * y.snd) + x.L1)) = false → ∃ (_ : Bool), True ∧ ((x.Y = x.Y ∧ (↑x.s : Int) =
  (↑x.s : Int) ∧ x.A = x.A ∧ x.B = x.B ∧ x.U = x.U ∧ x.L1 = x.L1 ∧ x.L0 = x.L0 ∧ y.fst = x.Q1 ∧ True) ∧ True) ∧ True))) ∧ ∀ (_ : Bool), True → ∀ (v : Int), v = IntKind.u64.wrap (IntKind.u64.wrap (IntKind.u64.wrap (x.U *
  (4294967296 : Int)) + x.L1) - IntKind.u64.wrap (x.Q1 * x.Y)) → x.A ≠ (0 : Int) ∧ ∀ (v_10 : Int), v_10 = IntKind.u64.wrap (v.tdiv x.A) → ∀ (v_11 : Int), v_11 = IntKind.u64.wrap (v - IntKind.u64.wrap (v_10 * x.A)) → ((∃ (y
  : Int × Int), (y.fst * x.A + y.snd = x.V ∧ ((0 : Int) ≤ y.snd ∧ y.snd < (4294967296 : Int)) ∧ x.Q0 ≤ y.fst ∧ y.fst ≤ (4294967297 : Int)) ∧ ((x.Y = x.Y ∧ (↑x.s : Int) = (↑x.s : Int) ∧ x.A = x.A ∧ x.B = x.B ∧ x.L0 = x.L0 ∧
  x.Q1 = x.Q1 ∧ v_11 = y.snd ∧ v = x.V ∧ v_10 = y.fst ∧ True) ∧ True) ∧ True) ∧ ∀ (y : Int × Int), y.fst * x.A + y.snd = x.V ∧ ((0 : Int) ≤ y.snd ∧ y.snd < (4294967296 : Int)) ∧ x.Q0 ≤ y.fst ∧ y.fst ≤ (4294967297 : Int) →
  (decide (y.fst ≥ (4294967296 : Int)) = true → ∀ (v : Int), v = IntKind.u64.wrap (y.fst - (1 : Int)) → ∀ (v_12 : Int), v_12 = IntKind.u64.wrap (y.snd + x.A) → (decide (v_12 ≥ (4294967296 : Int)) = true → ∃ (_ : Bool),
  True ∧ ((x.Y = x.Y ∧ (↑x.s : Int) = (↑x.s : Int) ∧ x.L0 = x.L0 ∧ x.Q1 = x.Q1 ∧ x.V = x.V ∧ v = x.Q0 ∧ True) ∧ True) ∧ True) ∧ (decide (v_12 ≥ (4294967296 : Int)) = false → ∃ (y_1 : Int × Int), (y_1.fst * x.A + y_1.snd =
  x.V ∧ ((0 : Int) ≤ y_1.snd ∧ y_1.snd < (4294967296 : Int)) ∧ x.Q0 ≤ y_1.fst ∧ y_1.fst ≤ (4294967297 : Int)) ∧ ((x.Y = x.Y ∧ (↑x.s : Int) = (↑x.s : Int) ∧ x.A = x.A ∧ x.B = x.B ∧ x.L0 = x.L0 ∧ x.Q1 = x.Q1 ∧ v_12 = y_1.snd
  ∧ x.V = x.V ∧ v = y_1.fst ∧ True) ∧ True) ∧ (divF2 x).μ y_1 < (divF2 x).μ y)) ∧ (decide (y.fst ≥ (4294967296 : Int)) = false → (decide (IntKind.u64.wrap (y.fst * x.B) > IntKind.u64.wrap (IntKind.u64.wrap ((4294967296 :
  Int) * y.snd) + x.L0)) = true → ∀ (v : Int), v = IntKind.u64.wrap (y.fst - (1 : Int)) → ∀ (v_12 : Int), v_12 = IntKind.u64.wrap (y.snd + x.A) → (decide (v_12 ≥ (4294967296 : Int)) = true → ∃ (_ : Bool), True ∧ ((x.Y =
  x.Y ∧ (↑x.s : Int) = (↑x.s : Int) ∧ x.L0 = x.L0 ∧ x.Q1 = x.Q1 ∧ x.V = x.V ∧ v = x.Q0 ∧ True) ∧ True) ∧ True) ∧ (decide (v_12 ≥ (4294967296 : Int)) = false → ∃ (y_1 : Int × Int), (y_1.fst * x.A + y_1.snd = x.V ∧ ((0 :
  Int) ≤ y_1.snd ∧ y_1.snd < (4294967296 : Int)) ∧ x.Q0 ≤ y_1.fst ∧ y_1.fst ≤ (4294967297 : Int)) ∧ ((x.Y = x.Y ∧ (↑x.s : Int) = (↑x.s : Int) ∧ x.A = x.A ∧ x.B = x.B ∧ x.L0 = x.L0 ∧ x.Q1 = x.Q1 ∧ v_12 = y_1.snd ∧ x.V = x.V
  ∧ v = y_1.fst ∧ True) ∧ True) ∧ (divF2 x).μ y_1 < (divF2 x).μ y)) ∧ (decide (IntKind.u64.wrap (y.fst * x.B) > IntKind.u64.wrap (IntKind.u64.wrap ((4294967296 : Int) * y.snd) + x.L0)) = false → ∃ (_ : Bool), True ∧
  ((x.Y = x.Y ∧ (↑x.s : Int) = (↑x.s : Int) ∧ x.L0 = x.L0 ∧ x.Q1 = x.Q1 ∧ x.V = x.V ∧ y.fst = x.Q0 ∧ True) ∧ True) ∧ True))) ∧ ∀ (_ : Bool), True → (0 : Int) ≤ (↑x.s : Int) ∧ ∀ (v : Int), v = IntKind.u64.wrap
  (IntKind.u64.wrap (x.Q1 * (4294967296 : Int)) + x.Q0) → ∀ (v_12 : Int), v_12 = (IntKind.u64.wrap (IntKind.u64.wrap (IntKind.u64.wrap (x.V * (4294967296 : Int)) + x.L0) - IntKind.u64.wrap (x.Q0 * x.Y))).fdiv ((2 : Int) ^
  min (↑x.s : Int).toNat IntKind.u64.bits) → (((0 : Int) ≤ x.hi ∧ x.hi < (18446744073709551616 : Int)) ∧ ((0 : Int) ≤ x.lo ∧ x.lo < (18446744073709551616 : Int)) ∧ (0 : Int) ≤ x.y ∧ x.y < (18446744073709551616 : Int)) ∧
  x.hi < x.y → (v = (x.hi * (18446744073709551616 : Int) + x.lo) / x.y ∧ v_12 = (x.hi * (18446744073709551616 : Int) + x.lo) % x.y ∧ True) ∧ True ∧ True))) := by
  simp only [true_and, and_true, eq_self, decide_eq_true_eq, decide_eq_false_iff_not, beq_iff_eq, beq_eq_false_iff_ne, true_implies, and_self, Int.not_lt, Int.not_le, ge_iff_le, gt_iff_lt, ne_eq, Int.toNat_natCast, IntKind.wrap_u64]
  rintro x ⟨⟨⟨h1, h1'⟩, ⟨h2, h2'⟩, h3, h3'⟩, h4⟩
  have F := x.fact h1 ⟨h2, h2'⟩ h3' h4
  have hlen := lenN_le h3 h3'
  obtain ⟨s1⟩ := id F
  have hsv : (64 - (lenN x.y.toNat : Int)) % 18446744073709551616 = x.s := by unfold DS.s; omega
  rintro _ rfl _ rfl
  refine ⟨fun h => by omega, fun hy0 => ⟨fun h => by omega, fun _ => ⟨fun hz => ⟨hy0, hy0, ?_⟩, fun hz => ⟨⟨h3, h3'⟩, ?_⟩⟩⟩⟩
  · rintro _ rfl _ rfl _
    rw [hz, Int.zero_mul, Int.zero_add, Int.tdiv_eq_ediv_of_nonneg h2, Int.tmod_eq_emod_of_nonneg h2]
    have : x.lo / x.y ≤ x.lo := Int.ediv_le_self _ h2
    have : 0 ≤ x.lo / x.y := Int.ediv_nonneg h2 h3
    exact ⟨by omega, rfl⟩
  rw [hsv]
  rintro _ rfl
  have e1 : min (x.s : Int).toNat IntKind.u64.bits = x.s := by rw [Int.toNat_natCast]; exact Nat.min_eq_left (by show x.s ≤ 64; omega)
  have e2 : min ((64 - (x.s : Int)) % 18446744073709551616).toNat IntKind.u64.bits = 64 - x.s := by
    have : ((64 - (x.s : Int)) % 18446744073709551616).toNat = 64 - x.s := by omega
    rw [this]; exact Nat.min_eq_left (by show 64 - x.s ≤ 64; omega)
  have e3 : ∀ z : Int, z.fdiv (2 ^ min (Int.toNat 32) IntKind.u64.bits) = z / 4294967296 := fun z => fdiv_pow z 32
  have e1' : min x.s IntKind.u64.bits = x.s := Nat.min_eq_left (by show x.s ≤ 64; omega)
  simp only [e1, e1', e2, e3, fdiv_pow]
  refine ⟨by omega, ?_⟩
  have hY2 : x.y * 2 ^ x.s % 18446744073709551616 = x.Y := by
    have : x.y * 2 ^ x.s = x.Y := rfl
    have := F.Y
    omega
  have hH2 : x.hi * 2 ^ x.s % 18446744073709551616 = x.hi * 2 ^ x.s := by
    have : x.hi * 2 ^ x.s = x.hi * x.p := rfl
    have := F.hp
    omega
  have hU2 : bits .or .u64 (x.hi * 2 ^ x.s) (x.lo / 2 ^ (64 - x.s)) = x.U := by
    have a1 : x.hi * 2 ^ x.s = x.hi * x.p := rfl
    have a2 : x.U = x.hi * 2 ^ x.s + x.lo / 2 ^ (64 - x.s) := rfl
    have := F.hp
    have := F.lo
    have := F.U
    have := F.Y
    exact or_apart x.s h1 F.lo.1 ⟨by omega, by omega⟩ F.lo.2
  have hL2 : x.lo * 2 ^ x.s % 18446744073709551616 = x.L := rfl
  have hA2 : x.Y / 4294967296 = x.A := rfl
  have hL12 : x.L / 4294967296 = x.L1 := rfl
  have hB2 : bits .and .u64 x.Y 4294967295 = x.B := and_lo ⟨by have := F.Y; omega, F.Y.2⟩
  have hL02 : bits .and .u64 x.L 4294967295 = x.L0 := and_lo F.L
  simp only [hY2, hH2, hU2, hL2]
  rintro _ rfl
  rw [hA2, hB2]
  refine ⟨by decide, ?_⟩
  rintro _ rfl _ rfl
  refine ⟨by omega, by omega, ?_⟩
  rintro _ rfl
  refine ⟨by omega, ?_⟩
  rintro _ rfl
  rw [hL12, hL02]
  refine ⟨by decide, ?_⟩
  rintro _ rfl _ rfl
  obtain ⟨A1, A2⟩ := F.A
  obtain ⟨B1, B2⟩ := F.B
  obtain ⟨U1, U2⟩ := F.U
  obtain ⟨Y1, Y2⟩ := F.Y
  obtain ⟨V1, V2⟩ := F.V
  obtain ⟨l1, l2⟩ := F.L1
  obtain ⟨m1, m2⟩ := F.L0
  refine ⟨by omega, ?_⟩
  have M1 : ∀ z : Int × Int, (divF1 x).μ z = z.1.toNat := fun _ => rfl
  have M2 : ∀ z : Int × Int, (divF2 x).μ z = z.1.toNat := fun _ => rfl
  simp only [M1, M2]
  have hq : ∀ D : Int, 0 ≤ D → D < 18446744073709551616 → D.tdiv x.A % 18446744073709551616 = D / x.A ∧ (D - D / x.A * x.A % 18446744073709551616) % 18446744073709551616 = D % x.A := fun D d1 d2 => by
    have c1 : D / x.A ≤ D := Int.ediv_le_self _ d1
    have c2 : 0 ≤ D / x.A := Int.ediv_nonneg d1 (by omega)
    have c3 := Int.mul_ediv_add_emod D x.A
    have c4 := Int.emod_nonneg D (show x.A ≠ 0 by omega)
    have c5 := Int.mul_nonneg c2 (show 0 ≤ x.A by omega)
    rw [Int.mul_comm] at c3
    rw [Int.tdiv_eq_ediv_of_nonneg d1]
    refine ⟨by omega, ?_⟩
    generalize D / x.A * x.A = m at *
    omega
  obtain ⟨u1, u2⟩ := hq x.U U1 (by omega)
  obtain ⟨w1, w2⟩ := hq x.V V1 (by omega)
  rw [u1]
  rintro _ rfl
  rw [u2]
  rintro _ rfl
  have S1 := q_start A1 A2 B1 B2 F.YAB U1 U2 l1 l2
  have S2 := q_start A1 A2 B1 B2 F.YAB V1 V2 m1 m2
  have T1 := fun q r => q_turn (q := q) (r := r) A1 A2 B1 B2 F.YAB U1 U2 l1 l2
  have T2 := fun q r => q_turn (q := q) (r := r) A1 A2 B1 B2 F.YAB V1 V2 m1 m2
  have EQ1 : (x.U * 4294967296 + x.L1) / x.Y = x.Q1 := rfl
  have EQ0 : (x.V * 4294967296 + x.L0) / x.Y = x.Q0 := rfl
  rw [EQ1] at S1
  rw [EQ0] at S2
  simp only [EQ1] at T1
  simp only [EQ0] at T2
  refine ⟨⟨⟨(x.U / x.A, x.U % x.A), S1, by repeat' (first | exact trivial | rfl | apply And.intro)⟩, fun z hz => ?_⟩, fun _ v hv => ?_⟩
  · obtain ⟨t1, t2, t3⟩ := T1 z.1 z.2 hz
    refine ⟨fun hb v hv w hw => ⟨fun hw1 => ⟨true, (t1 (.inl hb) v hv w hw).1 hw1⟩, fun hw1 => ⟨(v, w), ((t1 (.inl hb) v hv w hw).2 hw1).1, ⟨rfl, rfl⟩, ((t1 (.inl hb) v hv w hw).2 hw1).2⟩⟩, fun hb => ?_⟩
    obtain ⟨t4, t5⟩ := t2 hb
    rw [t4, t5]
    exact ⟨fun hc v hv w hw => ⟨fun hw1 => ⟨true, (t1 (.inr hc) v hv w hw).1 hw1⟩, fun hw1 => ⟨(v, w), ((t1 (.inr hc) v hv w hw).2 hw1).1, ⟨rfl, rfl⟩, ((t1 (.inr hc) v hv w hw).2 hw1).2⟩⟩, fun hc => ⟨true, t3 hb hc⟩⟩
  have hvV : v = x.V := by
    have : x.V = x.U * 4294967296 + x.L1 - x.Q1 * x.Y := rfl
    generalize x.Q1 * x.Y = m at *
    omega
  subst hvV
  rw [w1]
  refine ⟨by omega, ?_⟩
  rintro _ rfl
  rw [w2]
  rintro _ rfl
  refine ⟨⟨⟨(x.V / x.A, x.V % x.A), S2, by repeat' (first | exact trivial | rfl | apply And.intro)⟩, fun z hz => ?_⟩, fun _ => ?_⟩
  · obtain ⟨t1, t2, t3⟩ := T2 z.1 z.2 hz
    refine ⟨fun hb v hv w hw => ⟨fun hw1 => ⟨true, (t1 (.inl hb) v hv w hw).1 hw1⟩, fun hw1 => ⟨(v, w), ((t1 (.inl hb) v hv w hw).2 hw1).1, ⟨rfl, rfl⟩, ((t1 (.inl hb) v hv w hw).2 hw1).2⟩⟩, fun hb => ?_⟩
    obtain ⟨t4, t5⟩ := t2 hb
    rw [t4, t5]
    exact ⟨fun hc v hv w hw => ⟨fun hw1 => ⟨true, (t1 (.inr hc) v hv w hw).1 hw1⟩, fun hw1 => ⟨(v, w), ((t1 (.inr hc) v hv w hw).2 hw1).1, ⟨rfl, rfl⟩, ((t1 (.inr hc) v hv w hw).2 hw1).2⟩⟩, fun hc => ⟨true, t3 hb hc⟩⟩
  refine ⟨by omega, fun v hv w hw _ => ?_⟩
  obtain ⟨k1, k2⟩ := q_lt A1 B1 F.YAB U1 U2 l1 l2
  obtain ⟨k3, k4⟩ := q_lt A1 B1 F.YAB V1 V2 m1 m2
  rw [EQ1] at k1 k2
  rw [EQ0] at k3 k4
  have g1 := F.q
  have g2 := F.r
  have g3 := F.R
  refine ⟨by omega, ?_⟩
  rw [hw, ← g2]
  have : (((x.V * 4294967296 % 18446744073709551616 + x.L0) % 18446744073709551616 - x.Q0 * x.Y % 18446744073709551616) % 18446744073709551616) = x.V * 4294967296 + x.L0 - x.Q0 * x.Y := by
    generalize x.Q0 * x.Y = m at *
    omega
  rw [this]
  rfl

def div64_C (x : DS) : Cfg := { Γ := Go.Sx.look tDiv, names := true, loops := divL x, cuts := divK x }
theorem div64_al (x : DS) : Shown (divP.vc Try.prog (div64_C x) Try.f65 x) := ⟨@Eq.mp _ _ (by kernel_rfl) (div64_vc x)⟩
theorem div64_ok : SpOk Try.prog 65 divP.sp := @Pat.okS _ divP Try.prog div64_C 65 Try.f65 (fun x => cfg_tab rfl tDiv_ok) (by kernel_rfl) Try.func65 (fun _ => rfl) div64_al
end Go.Proofs.Ytijpjhelgggmfaa
