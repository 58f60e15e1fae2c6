import Derived.Test.YtijpjhelgggmfaaA5
open Go Go.Sx Go.Proofs
set_option maxRecDepth 100000
namespace Go.Proofs.Ytijpjhelgggmfaa

def wdivP : Pat ((Int × Int) × Int) where
  view | [.cons (.int .u64 a) (.cons (.int .u64 b) .nil), .int .u64 c], _ => some ((a, b), c) | _, _ => none
  args x := [wT x.1.1 x.1.2, .int .u64 x.2]
  H _ := []
  out x := .need ((u64 x.1.1 ∧ u64 x.1.2) ∧ u64 x.2) (.retq (.tup (.cons (wO (if x.2 = 0 then 0 else wN x.1.1 x.1.2 / x.2)) (.cons (.int .u64 (if x.2 = 0 then 0 else wN x.1.1 x.1.2 % x.2)) (.cons (.bool (decide (x.2 ≠ 0))) .nil)))))
def tWdiv : Tab := [(65, divP.sp)]
theorem tWdiv_ok : TabOk Try.prog tWdiv := (tab_cons div64_ok tab_nil)

theorem wdiv_vc : ∀ (a1 a0 b : Int), ((((0 : Int) ≤ a1 ∧ a1 < (18446744073709551616 : Int)) ∧ (0 : Int) ≤ a0 ∧ a0 < (18446744073709551616 : Int)) ∧ (0 : Int) ≤ b ∧ b < (18446744073709551616 : Int)) ∧ True → ∀ (v : Int), v = (0 : Int) →
  ((b == (0 : Int)) = true → ∀ (v : Int), v = (0 : Int) → (((0 : Int) ≤ a1 ∧ a1 < (18446744073709551616 : Int)) ∧ (0 : Int) ≤ a0 ∧ a0 < (18446744073709551616 : Int)) ∧ (0 : Int) ≤ b ∧ b < (18446744073709551616 : Int) →
  (((0 : Int) = (if b = (0 : Int) then (0 : Int) else wN a1 a0 / b) / (18446744073709551616 : Int) ∧ (0 : Int) = (if b = (0 : Int) then (0 : Int) else wN a1 a0 / b) % (18446744073709551616 : Int) ∧ True) ∧ (v = if b = (0 :
  Int) then (0 : Int) else wN a1 a0 % b) ∧ decide (b ≠ (0 : Int)) = false ∧ True) ∧ True ∧ True) ∧ ((b == (0 : Int)) = false → b ≠ (0 : Int) ∧ ((a1.tmod b = a1.tmod b ∧ a0 = a0 ∧ b = b ∧ True) ∧ True) ∧ ((((0 : Int) ≤
  a1.tmod b ∧ a1.tmod b < (18446744073709551616 : Int)) ∧ ((0 : Int) ≤ a0 ∧ a0 < (18446744073709551616 : Int)) ∧ (0 : Int) ≤ b ∧ b < (18446744073709551616 : Int)) ∧ a1.tmod b < b) ∧ ∀ (v : Int), v = (a1.tmod b *
  (18446744073709551616 : Int) + a0) / b → ∀ (v_1 : Int), v_1 = (a1.tmod b * (18446744073709551616 : Int) + a0) % b → b ≠ (0 : Int) ∧ ∀ (v_2 : Int), v_2 = v_1 → (((0 : Int) ≤ a1 ∧ a1 < (18446744073709551616 : Int)) ∧ (0 :
  Int) ≤ a0 ∧ a0 < (18446744073709551616 : Int)) ∧ (0 : Int) ≤ b ∧ b < (18446744073709551616 : Int) → ((IntKind.u64.wrap (a1.tdiv b) = (if b = (0 : Int) then (0 : Int) else wN a1 a0 / b) / (18446744073709551616 : Int) ∧ v
  = (if b = (0 : Int) then (0 : Int) else wN a1 a0 / b) % (18446744073709551616 : Int) ∧ True) ∧ (v_2 = if b = (0 : Int) then (0 : Int) else wN a1 a0 % b) ∧ decide (b ≠ (0 : Int)) = true ∧ True) ∧ True ∧ True) := by
  simp only [true_and, and_true, eq_self, decide_eq_true_eq, decide_eq_false_iff_not, beq_iff_eq, beq_eq_false_iff_ne, and_self, ne_eq, IntKind.wrap_u64]
  rintro a1 a0 b ⟨⟨⟨ha1, ha1'⟩, ha0, ha0'⟩, hb, hb'⟩
  rintro _ rfl
  refine ⟨fun h => ?_, fun h => ?_⟩
  · rintro _ rfl _
    rw [if_pos h, if_pos h]
    exact ⟨⟨by decide, by decide⟩, rfl, fun h' => h' h⟩
  · rw [if_neg h, if_neg h, Int.tmod_eq_emod_of_nonneg ha1, Int.tdiv_eq_ediv_of_nonneg ha1]
    have m1 := Int.emod_nonneg a1 h
    have m2 := Int.emod_lt_of_pos a1 (show 0 < b by omega)
    have m3 := Int.mul_ediv_add_emod a1 b
    refine ⟨h, ⟨⟨⟨m1, by omega⟩, ⟨ha0, ha0'⟩, hb, hb'⟩, m2⟩, ?_⟩
    rintro v hv w hw
    refine ⟨h, ?_⟩
    rintro _ rfl _
    have e : wN a1 a0 = (a1 % b * 18446744073709551616 + a0) + a1 / b * 18446744073709551616 * b := by
      have e1 : a1 / b * 18446744073709551616 * b = b * (a1 / b) * 18446744073709551616 := by
        rw [Int.mul_comm (a1 / b * 18446744073709551616) b, Int.mul_assoc]
      rw [e1]
      unfold wN
      generalize b * (a1 / b) = m at *
      omega
    rw [e, Int.add_mul_ediv_right _ _ h, Int.add_mul_emod_self_right _ _ b, ← hv, ← hw]
    have k1 : 0 ≤ v := by rw [hv]; exact Int.ediv_nonneg (by omega) hb
    have k2 : v < 18446744073709551616 := by rw [hv]; exact Int.ediv_lt_of_lt_mul (by omega) (by omega)
    have k3 : a1 / b ≤ a1 := Int.ediv_le_self _ ha1
    have k4 : 0 ≤ a1 / b := Int.ediv_nonneg ha1 hb
    exact ⟨⟨by omega, by omega⟩, rfl, h⟩

def wdiv_C (_ : ((Int × Int) × Int)) : Cfg := { Γ := Go.Sx.look tWdiv, names := true }
theorem wdiv_al (x : ((Int × Int) × Int)) : Shown (wdivP.vc Try.prog (wdiv_C x) Try.f55 x) := ⟨@Eq.mp _ _ (by kernel_rfl) (wdiv_vc (x.1.1) (x.1.2) (x.2))⟩
theorem wdiv_ok : SpOk Try.prog 55 wdivP.sp := @Pat.okS _ wdivP Try.prog wdiv_C 55 Try.f55 (fun x => cfg_tab rfl tWdiv_ok) (by kernel_rfl) Try.func55 (fun _ => rfl) wdiv_al
def with2P : Pat (Int × Int × Int) where
  view | [.cons (.int .u64 a) (.cons (.int .u64 b) .nil), .int .i64 i], _ => some (a, b, i) | _, _ => none
  args x := [wT x.1 x.2.1, .int .i64 x.2.2]
  H _ := []
  out x := .need ((u64 x.1 ∧ u64 x.2.1) ∧ (0 ≤ x.2.2 ∧ x.2.2 < 128) ∧ wN x.1 x.2.1 % 2 ^ (x.2.2.toNat + 1) = 0) (.retq (wO (wN x.1 x.2.1 + 2 ^ x.2.2.toNat)))
theorem with2_vc : ∀ (a b i : Int), ((((0 : Int) ≤ a ∧ a < (18446744073709551616 : Int)) ∧ (0 : Int) ≤ b ∧ b < (18446744073709551616 : Int)) ∧ ((0 : Int) ≤ i ∧ i < (128 : Int)) ∧ wN a b % (2 : Int) ^ (i.toNat + (1 : Nat)) = (0 : Int)) ∧
  True → (decide (i ≥ (64 : Int)) = true → (0 : Int) ≤ IntKind.u64.wrap (IntKind.i64.wrap (i - (64 : Int))) ∧ ((((0 : Int) ≤ a ∧ a < (18446744073709551616 : Int)) ∧ (0 : Int) ≤ b ∧ b < (18446744073709551616 : Int)) ∧ ((0 :
  Int) ≤ i ∧ i < (128 : Int)) ∧ wN a b % (2 : Int) ^ (i.toNat + (1 : Nat)) = (0 : Int) → (bits BinOp.or IntKind.u64 a (IntKind.u64.wrap ((1 : Int) * (2 : Int) ^ min (IntKind.u64.wrap (IntKind.i64.wrap (i - (64 :
  Int)))).toNat IntKind.u64.bits)) = (wN a b + (2 : Int) ^ i.toNat) / (18446744073709551616 : Int) ∧ b = (wN a b + (2 : Int) ^ i.toNat) % (18446744073709551616 : Int) ∧ True) ∧ True ∧ True)) ∧ (decide (i ≥ (64 : Int)) =
  false → (0 : Int) ≤ IntKind.u64.wrap i ∧ ((((0 : Int) ≤ a ∧ a < (18446744073709551616 : Int)) ∧ (0 : Int) ≤ b ∧ b < (18446744073709551616 : Int)) ∧ ((0 : Int) ≤ i ∧ i < (128 : Int)) ∧ wN a b % (2 : Int) ^ (i.toNat + (1 :
  Nat)) = (0 : Int) → (a = (wN a b + (2 : Int) ^ i.toNat) / (18446744073709551616 : Int) ∧ bits BinOp.or IntKind.u64 b (IntKind.u64.wrap ((1 : Int) * (2 : Int) ^ min (IntKind.u64.wrap i).toNat IntKind.u64.bits)) = (wN a b
  + (2 : Int) ^ i.toNat) % (18446744073709551616 : Int) ∧ True) ∧ True ∧ True)) := by
  simp only [and_true, decide_eq_true_eq, decide_eq_false_iff_not, and_self, Int.not_le, ge_iff_le, IntKind.wrap_u64, IntKind.wrap_i64]
  rintro a b i ⟨⟨⟨ha, ha'⟩, hb, hb'⟩, ⟨hi, hi'⟩, hN⟩
  obtain ⟨k, hk⟩ := Int.dvd_of_emod_eq_zero hN
  refine ⟨fun h => ?_, fun h => ?_⟩
  · obtain ⟨n, hn⟩ := Int.eq_ofNat_of_zero_le (show 0 ≤ i - 64 by omega)
    have e1 : ((i - 64 + 9223372036854775808) % 18446744073709551616 - 9223372036854775808) % 18446744073709551616 = (n : Int) := by omega
    have e2 : i.toNat = 64 + n := by omega
    rw [e1, Int.toNat_natCast, min64 (by omega), Int.one_mul, e2, pow_add' 64 n, pow64]
    have hq := pow_lt64 (n := n) (by omega)
    have hq2 : (2 : Int) ^ n ≤ 9223372036854775808 := pow_le' (m := 63) (by omega)
    have hp := pow_pos' n
    rw [e2, show 64 + n + 1 = 64 + (n + 1) by omega, pow_add' 64, pow64, Int.mul_assoc] at hk
    have hb0 : b = 0 := by
      unfold wN at hk
      generalize (2 : Int) ^ (n + 1) * k = m at *
      omega
    have ha0 : a = k * 2 ^ (n + 1) := by
      rw [Int.mul_comm k]
      unfold wN at hk
      generalize (2 : Int) ^ (n + 1) * k = m at *
      omega
    have e3 : (2 : Int) ^ n % 18446744073709551616 = 2 ^ n := Int.emod_eq_of_lt hq.1 hq.2
    have ek : 0 ≤ k := by
      by_cases hk0 : 0 ≤ k
      · exact hk0
      · have := Int.mul_neg_of_neg_of_pos (Int.not_le.1 hk0) (pow_pos' (n + 1))
        omega
    have hs2 : (2 : Int) ^ (n + 1) = 2 ^ n * 2 := Int.pow_succ 2 n
    have hor : bits .or .u64 (k * 2 ^ (n + 1)) (2 ^ n) = k * 2 ^ (n + 1) + 2 ^ n := by
      refine or_apart (n + 1) ek (by omega) ⟨by omega, ?_⟩ (by omega)
      have hm : k * 2 ^ (n + 1) = k * 2 * 2 ^ n := by rw [hs2, Int.mul_comm (2 ^ n) 2, Int.mul_assoc]
      by_cases hlt : k * 2 ^ (n + 1) + 2 ^ n < 18446744073709551616
      · exact hlt
      · have e64 : (18446744073709551616 : Int) = 2 ^ (63 - n) * 2 * 2 ^ n := by
          rw [show (2 : Int) ^ (63 - n) * 2 = 2 ^ (63 - n + 1) from (Int.pow_succ 2 _).symm, ← Int.pow_add, show 63 - n + 1 + n = 64 by omega]; decide
        have h5 : k * 2 * 2 ^ n < 2 ^ (63 - n) * 2 * 2 ^ n := by rw [← e64, ← hm]; omega
        have h6 := Int.lt_of_mul_lt_mul_right h5 (Int.le_of_lt hp)
        have h7 : (k * 2 + 1) * 2 ^ n ≤ (2 ^ (63 - n) * 2 - 1) * 2 ^ n := Int.mul_le_mul_of_nonneg_right (by omega) (by omega)
        rw [Int.add_mul, Int.sub_mul, ← e64, ← hm, Int.one_mul] at h7
        omega
    rw [e3, hb0, ha0, hor]
    refine ⟨by omega, fun _ => ?_⟩
    unfold wN
    omega
  · obtain ⟨n, hn⟩ := Int.eq_ofNat_of_zero_le hi
    have e1 : i % 18446744073709551616 = (n : Int) := by omega
    have e2 : i.toNat = n := by omega
    rw [e1, Int.toNat_natCast, min64 (by omega), Int.one_mul, e2]
    rw [e2] at hk
    have hq := pow_lt64 (n := n) (by omega)
    have hp := pow_pos' n
    have hs2 : (2 : Int) ^ (n + 1) = 2 ^ n * 2 := Int.pow_succ 2 n
    have e64 : (18446744073709551616 : Int) = 2 ^ (n + 1) * 2 ^ (63 - n) := by
      rw [← Int.pow_add, show n + 1 + (63 - n) = 64 by omega]; decide
    have hb0 : b = (k - a * 2 ^ (63 - n)) * 2 ^ (n + 1) := by
      have : a * 18446744073709551616 = a * 2 ^ (63 - n) * 2 ^ (n + 1) := by rw [e64, Int.mul_comm (2 ^ (n + 1)), Int.mul_assoc]
      rw [Int.sub_mul, ← this, Int.mul_comm k, ← hk]
      unfold wN
      omega
    generalize k - a * 2 ^ (63 - n) = c at hb0
    have e3 : (2 : Int) ^ n % 18446744073709551616 = 2 ^ n := Int.emod_eq_of_lt hq.1 hq.2
    have ek : 0 ≤ c := by
      by_cases hk0 : 0 ≤ c
      · exact hk0
      · have := Int.mul_neg_of_neg_of_pos (Int.not_le.1 hk0) (pow_pos' (n + 1))
        omega
    have hbl : b + 2 ^ n < 18446744073709551616 := by
      by_cases hlt : b + 2 ^ n < 18446744073709551616
      · exact hlt
      · have e65 : (18446744073709551616 : Int) = 2 ^ (63 - n) * 2 ^ (n + 1) := by rw [Int.mul_comm]; exact e64
        have h5 : c * 2 ^ (n + 1) < 2 ^ (63 - n) * 2 ^ (n + 1) := by rw [← e65, ← hb0]; omega
        have h6 := Int.lt_of_mul_lt_mul_right h5 (Int.le_of_lt (pow_pos' (n + 1)))
        have h7 : (c + 1) * 2 ^ (n + 1) ≤ 2 ^ (63 - n) * 2 ^ (n + 1) := Int.mul_le_mul_of_nonneg_right (by omega) (Int.le_of_lt (pow_pos' (n + 1)))
        rw [Int.add_mul, ← e65, ← hb0, Int.one_mul] at h7
        omega
    have hor : bits .or .u64 (c * 2 ^ (n + 1)) (2 ^ n) = c * 2 ^ (n + 1) + 2 ^ n := or_apart (n + 1) ek (by omega) ⟨by omega, by omega⟩ (by omega)
    rw [e3]
    rw [hb0] at hb hb' hbl ⊢
    rw [hor]
    refine ⟨by omega, fun _ => ?_⟩
    unfold wN
    omega

def with2_C (_ : (Int × Int × Int)) : Cfg := { Γ := Go.Sx.look [], names := true }
theorem with2_al (x : (Int × Int × Int)) : Shown (with2P.vc Try.prog (with2_C x) Try.f71 x) := ⟨@Eq.mp _ _ (by kernel_rfl) (with2_vc (x.1) (x.2.1) (x.2.2))⟩
theorem with2_ok : SpOk Try.prog 71 with2P.sp := @Pat.okS _ with2P Try.prog with2_C 71 Try.f71 (fun x => cfg_nil rfl) (by kernel_rfl) Try.func71 (fun _ => rfl) with2_al
def rdivFam (a1 a0 b : Int) : Fam where
  α := Int × Int × Int
  I z := (-1 ≤ z.1 ∧ z.1 ≤ 127) ∧ (0 ≤ z.2.2 ∧ z.2.2 < b) ∧ z.2.1 * b + z.2.2 = wN a1 a0 / 2 ^ (z.1 + 1).toNat ∧ 0 ≤ z.2.1
  st z := { sl := mkSl 43 [(1, .int .u64 b), (2, p0 0), (4, p0 1), (5, .int .u64 0), (6, .ff), (7, p0 2), (8, p0 3), (9, .int .i64 z.1)], H := [newReg 64 (wT a1 a0), newReg 64 (wT 0 0), newReg 64 (wO (z.2.1 * 2 ^ (z.1 + 1).toNat)), newReg 64 (wT 0 z.2.2)] }
  μ z := (z.1 + 1).toNat
def rdivMode : Nat → Nat
  | 13 => 1
  | _ => 0
def rdivLocks : Nat → List Nat
  | 13 => [0, 2, 3]
  | _ => []

def tRdiv : Tab := [(61, bitP.sp), (71, with2P.sp), (69, dblP.sp), (38, rcmpPt.sp), (70, minusPt.sp)]
theorem tRdiv_ok : TabOk Try.prog tRdiv := (tab_cons bit_ok (tab_cons with2_ok (tab_cons dbl_ok (tab_cons rcmp_ok (tab_cons minus_ok tab_nil)))))

theorem rdiv_vc : ∀ (a1 a0 b : Int), ((((0 : Int) ≤ a1 ∧ a1 < (18446744073709551616 : Int)) ∧ (0 : Int) ≤ a0 ∧ a0 < (18446744073709551616 : Int)) ∧ (0 : Int) ≤ b ∧ b < (18446744073709551616 : Int)) ∧ True → ∀ (v : Int), v = (0 : Int) →
  ((b == (0 : Int)) = true → ∀ (v : Int), v = (0 : Int) → (((0 : Int) ≤ a1 ∧ a1 < (18446744073709551616 : Int)) ∧ (0 : Int) ≤ a0 ∧ a0 < (18446744073709551616 : Int)) ∧ (0 : Int) ≤ b ∧ b < (18446744073709551616 : Int) →
  (((0 : Int) = (if b = (0 : Int) then (0 : Int) else wN a1 a0 / b) / (18446744073709551616 : Int) ∧ (0 : Int) = (if b = (0 : Int) then (0 : Int) else wN a1 a0 / b) % (18446744073709551616 : Int) ∧ True) ∧ (v = if b = (0 :
  Int) then (0 : Int) else wN a1 a0 % b) ∧ decide (b ≠ (0 : Int)) = false ∧ True) ∧ True ∧ True) ∧ ((b == (0 : Int)) = false → ∀ (v_1 : Int), v_1 = (127 : Int) → (∃ (y : Int × Int × Int), (((-1 : Int) ≤ y.fst ∧ y.fst ≤
  (127 : Int)) ∧ ((0 : Int) ≤ y.snd.snd ∧ y.snd.snd < b) ∧ y.snd.fst * b + y.snd.snd = wN a1 a0 / (2 : Int) ^ (y.fst + (1 : Int)).toNat ∧ (0 : Int) ≤ y.snd.fst) ∧ ((b = b ∧ (True ∧ True) ∧ (True ∧ True) ∧ v = (0 : Int) ∧
  True ∧ (True ∧ True) ∧ (True ∧ True) ∧ v_1 = y.fst ∧ True) ∧ ((2 : Nat) ≤ (2 : Nat) ∧ a1 = a1 ∧ a0 = a0 ∧ True) ∧ ((2 : Nat) ≤ (2 : Nat) ∧ (0 : Int) = (0 : Int) ∧ (0 : Int) = (0 : Int) ∧ True) ∧ ((2 : Nat) ≤ (2 : Nat) ∧
  (0 : Int) = y.snd.fst * (2 : Int) ^ (y.fst + (1 : Int)).toNat / (18446744073709551616 : Int) ∧ (0 : Int) = y.snd.fst * (2 : Int) ^ (y.fst + (1 : Int)).toNat % (18446744073709551616 : Int) ∧ True) ∧ ((2 : Nat) ≤ (2 : Nat)
  ∧ (0 : Int) = (0 : Int) ∧ (0 : Int) = y.snd.snd ∧ True) ∧ True) ∧ True) ∧ ∀ (y : Int × Int × Int), ((-1 : Int) ≤ y.fst ∧ y.fst ≤ (127 : Int)) ∧ ((0 : Int) ≤ y.snd.snd ∧ y.snd.snd < b) ∧ y.snd.fst * b + y.snd.snd = wN a1
  a0 / (2 : Int) ^ (y.fst + (1 : Int)).toNat ∧ (0 : Int) ≤ y.snd.fst → (decide (y.fst ≥ (0 : Int)) = true → ((((0 : Int) = (0 : Int) ∧ y.snd.snd = y.snd.snd ∧ True) ∧ True) ∧ True) ∧ (((0 : Int) ≤ (0 : Int) ∧ (0 : Int) <
  (18446744073709551616 : Int)) ∧ (0 : Int) ≤ y.snd.snd ∧ y.snd.snd < (18446744073709551616 : Int)) ∧ (((a1 = a1 ∧ a0 = a0 ∧ True) ∧ y.fst = y.fst ∧ True) ∧ True) ∧ ((((0 : Int) ≤ a1 ∧ a1 < (18446744073709551616 : Int)) ∧
  (0 : Int) ≤ a0 ∧ a0 < (18446744073709551616 : Int)) ∧ (0 : Int) ≤ y.fst ∧ y.fst < (128 : Int)) ∧ (((wN (0 : Int) y.snd.snd * (2 : Int) % (340282366920938463463374607431768211456 : Int) / (18446744073709551616 : Int) = wN
  (0 : Int) y.snd.snd * (2 : Int) % (340282366920938463463374607431768211456 : Int) / (18446744073709551616 : Int) ∧ bits BinOp.or IntKind.u64 (wN (0 : Int) y.snd.snd * (2 : Int) % (340282366920938463463374607431768211456
  : Int) % (18446744073709551616 : Int)) (wN a1 a0 / (2 : Int) ^ y.fst.toNat % (2 : Int)) = bits BinOp.or IntKind.u64 (wN (0 : Int) y.snd.snd * (2 : Int) % (340282366920938463463374607431768211456 : Int) %
  (18446744073709551616 : Int)) (wN a1 a0 / (2 : Int) ^ y.fst.toNat % (2 : Int)) ∧ True) ∧ ((0 : Int) = (0 : Int) ∧ b = b ∧ True) ∧ True) ∧ True) ∧ ((((0 : Int) ≤ wN (0 : Int) y.snd.snd * (2 : Int) %
  (340282366920938463463374607431768211456 : Int) / (18446744073709551616 : Int) ∧ wN (0 : Int) y.snd.snd * (2 : Int) % (340282366920938463463374607431768211456 : Int) / (18446744073709551616 : Int) < (18446744073709551616
  : Int)) ∧ (0 : Int) ≤ bits BinOp.or IntKind.u64 (wN (0 : Int) y.snd.snd * (2 : Int) % (340282366920938463463374607431768211456 : Int) % (18446744073709551616 : Int)) (wN a1 a0 / (2 : Int) ^ y.fst.toNat % (2 : Int)) ∧
  bits BinOp.or IntKind.u64 (wN (0 : Int) y.snd.snd * (2 : Int) % (340282366920938463463374607431768211456 : Int) % (18446744073709551616 : Int)) (wN a1 a0 / (2 : Int) ^ y.fst.toNat % (2 : Int)) < (18446744073709551616 :
  Int)) ∧ ((0 : Int) ≤ (0 : Int) ∧ (0 : Int) < (18446744073709551616 : Int)) ∧ (0 : Int) ≤ b ∧ b < (18446744073709551616 : Int)) ∧ (decide (wcmp (wN (0 : Int) y.snd.snd * (2 : Int) %
  (340282366920938463463374607431768211456 : Int) / (18446744073709551616 : Int)) (bits BinOp.or IntKind.u64 (wN (0 : Int) y.snd.snd * (2 : Int) % (340282366920938463463374607431768211456 : Int) % (18446744073709551616 :
  Int)) (wN a1 a0 / (2 : Int) ^ y.fst.toNat % (2 : Int))) (0 : Int) b ≥ (0 : Int)) = true → (((wN (0 : Int) y.snd.snd * (2 : Int) % (340282366920938463463374607431768211456 : Int) / (18446744073709551616 : Int) = wN (0 :
  Int) y.snd.snd * (2 : Int) % (340282366920938463463374607431768211456 : Int) / (18446744073709551616 : Int) ∧ bits BinOp.or IntKind.u64 (wN (0 : Int) y.snd.snd * (2 : Int) % (340282366920938463463374607431768211456 :
  Int) % (18446744073709551616 : Int)) (wN a1 a0 / (2 : Int) ^ y.fst.toNat % (2 : Int)) = bits BinOp.or IntKind.u64 (wN (0 : Int) y.snd.snd * (2 : Int) % (340282366920938463463374607431768211456 : Int) %
  (18446744073709551616 : Int)) (wN a1 a0 / (2 : Int) ^ y.fst.toNat % (2 : Int)) ∧ True) ∧ ((0 : Int) = (0 : Int) ∧ b = b ∧ True) ∧ True) ∧ True) ∧ (((((0 : Int) ≤ wN (0 : Int) y.snd.snd * (2 : Int) %
  (340282366920938463463374607431768211456 : Int) / (18446744073709551616 : Int) ∧ wN (0 : Int) y.snd.snd * (2 : Int) % (340282366920938463463374607431768211456 : Int) / (18446744073709551616 : Int) < (18446744073709551616
  : Int)) ∧ (0 : Int) ≤ bits BinOp.or IntKind.u64 (wN (0 : Int) y.snd.snd * (2 : Int) % (340282366920938463463374607431768211456 : Int) % (18446744073709551616 : Int)) (wN a1 a0 / (2 : Int) ^ y.fst.toNat % (2 : Int)) ∧
  bits BinOp.or IntKind.u64 (wN (0 : Int) y.snd.snd * (2 : Int) % (340282366920938463463374607431768211456 : Int) % (18446744073709551616 : Int)) (wN a1 a0 / (2 : Int) ^ y.fst.toNat % (2 : Int)) < (18446744073709551616 :
  Int)) ∧ ((0 : Int) ≤ (0 : Int) ∧ (0 : Int) < (18446744073709551616 : Int)) ∧ (0 : Int) ≤ b ∧ b < (18446744073709551616 : Int)) ∧ wN (0 : Int) b ≤ wN (wN (0 : Int) y.snd.snd * (2 : Int) %
  (340282366920938463463374607431768211456 : Int) / (18446744073709551616 : Int)) (bits BinOp.or IntKind.u64 (wN (0 : Int) y.snd.snd * (2 : Int) % (340282366920938463463374607431768211456 : Int) % (18446744073709551616 :
  Int)) (wN a1 a0 / (2 : Int) ^ y.fst.toNat % (2 : Int)))) ∧ (((y.snd.fst * (2 : Int) ^ (y.fst + (1 : Int)).toNat / (18446744073709551616 : Int) = y.snd.fst * (2 : Int) ^ (y.fst + (1 : Int)).toNat / (18446744073709551616 :
  Int) ∧ y.snd.fst * (2 : Int) ^ (y.fst + (1 : Int)).toNat % (18446744073709551616 : Int) = y.snd.fst * (2 : Int) ^ (y.fst + (1 : Int)).toNat % (18446744073709551616 : Int) ∧ True) ∧ y.fst = y.fst ∧ True) ∧ True) ∧ ((((0 :
  Int) ≤ y.snd.fst * (2 : Int) ^ (y.fst + (1 : Int)).toNat / (18446744073709551616 : Int) ∧ y.snd.fst * (2 : Int) ^ (y.fst + (1 : Int)).toNat / (18446744073709551616 : Int) < (18446744073709551616 : Int)) ∧ (0 : Int) ≤
  y.snd.fst * (2 : Int) ^ (y.fst + (1 : Int)).toNat % (18446744073709551616 : Int) ∧ y.snd.fst * (2 : Int) ^ (y.fst + (1 : Int)).toNat % (18446744073709551616 : Int) < (18446744073709551616 : Int)) ∧ ((0 : Int) ≤ y.fst ∧
  y.fst < (128 : Int)) ∧ wN (y.snd.fst * (2 : Int) ^ (y.fst + (1 : Int)).toNat / (18446744073709551616 : Int)) (y.snd.fst * (2 : Int) ^ (y.fst + (1 : Int)).toNat % (18446744073709551616 : Int)) % (2 : Int) ^ (y.fst.toNat +
  (1 : Nat)) = (0 : Int)) ∧ ∀ (v : Int), v = IntKind.i64.wrap (y.fst - (1 : Int)) → ∃ (y_1 : Int × Int × Int), (((-1 : Int) ≤ y_1.fst ∧ y_1.fst ≤ (127 : Int)) ∧ ((0 : Int) ≤ y_1.snd.snd ∧ y_1.snd.snd < b) ∧ y_1.snd.fst * b
  + y_1.snd.snd = wN a1 a0 / (2 : Int) ^ (y_1.fst + (1 : Int)).toNat ∧ (0 : Int) ≤ y_1.snd.fst) ∧ ((b = b ∧ (True ∧ True) ∧ (True ∧ True) ∧ (0 : Int) = (0 : Int) ∧ True ∧ (True ∧ True) ∧ (True ∧ True) ∧ v = y_1.fst ∧ True)
  ∧ ((2 : Nat) ≤ (2 : Nat) ∧ a1 = a1 ∧ a0 = a0 ∧ True) ∧ ((2 : Nat) ≤ (2 : Nat) ∧ (0 : Int) = (0 : Int) ∧ (0 : Int) = (0 : Int) ∧ True) ∧ ((2 : Nat) ≤ (2 : Nat) ∧ (wN (y.snd.fst * (2 : Int) ^ (y.fst + (1 : Int)).toNat /
  (18446744073709551616 : Int)) (y.snd.fst * (2 : Int) ^ (y.fst + (1 : Int)).toNat % (18446744073709551616 : Int)) + (2 : Int) ^ y.fst.toNat) / (18446744073709551616 : Int) = y_1.snd.fst * (2 : Int) ^ (y_1.fst + (1 :
  Int)).toNat / (18446744073709551616 : Int) ∧ (wN (y.snd.fst * (2 : Int) ^ (y.fst + (1 : Int)).toNat / (18446744073709551616 : Int)) (y.snd.fst * (2 : Int) ^ (y.fst + (1 : Int)).toNat % (18446744073709551616 : Int)) + (2
  : Int) ^ y.fst.toNat) % (18446744073709551616 : Int) = y_1.snd.fst * (2 : Int) ^ (y_1.fst + (1 : Int)).toNat % (18446744073709551616 : Int) ∧ True) ∧ ((2 : Nat) ≤ (2 : Nat) ∧ (wN (wN (0 : Int) y.snd.snd * (2 : Int) %
  (340282366920938463463374607431768211456 : Int) / (18446744073709551616 : Int)) (bits BinOp.or IntKind.u64 (wN (0 : Int) y.snd.snd * (2 : Int) % (340282366920938463463374607431768211456 : Int) % (18446744073709551616 :
  Int)) (wN a1 a0 / (2 : Int) ^ y.fst.toNat % (2 : Int))) - wN (0 : Int) b) / (18446744073709551616 : Int) = (0 : Int) ∧ (wN (wN (0 : Int) y.snd.snd * (2 : Int) % (340282366920938463463374607431768211456 : Int) /
  (18446744073709551616 : Int)) (bits BinOp.or IntKind.u64 (wN (0 : Int) y.snd.snd * (2 : Int) % (340282366920938463463374607431768211456 : Int) % (18446744073709551616 : Int)) (wN a1 a0 / (2 : Int) ^ y.fst.toNat % (2 :
  Int))) - wN (0 : Int) b) % (18446744073709551616 : Int) = y_1.snd.snd ∧ True) ∧ True) ∧ (rdivFam a1 a0 b).μ y_1 < (rdivFam a1 a0 b).μ y) ∧ (decide (wcmp (wN (0 : Int) y.snd.snd * (2 : Int) %
  (340282366920938463463374607431768211456 : Int) / (18446744073709551616 : Int)) (bits BinOp.or IntKind.u64 (wN (0 : Int) y.snd.snd * (2 : Int) % (340282366920938463463374607431768211456 : Int) % (18446744073709551616 :
  Int)) (wN a1 a0 / (2 : Int) ^ y.fst.toNat % (2 : Int))) (0 : Int) b ≥ (0 : Int)) = false → ∀ (v : Int), v = IntKind.i64.wrap (y.fst - (1 : Int)) → ∃ (y_1 : Int × Int × Int), (((-1 : Int) ≤ y_1.fst ∧ y_1.fst ≤ (127 :
  Int)) ∧ ((0 : Int) ≤ y_1.snd.snd ∧ y_1.snd.snd < b) ∧ y_1.snd.fst * b + y_1.snd.snd = wN a1 a0 / (2 : Int) ^ (y_1.fst + (1 : Int)).toNat ∧ (0 : Int) ≤ y_1.snd.fst) ∧ ((b = b ∧ (True ∧ True) ∧ (True ∧ True) ∧ (0 : Int) =
  (0 : Int) ∧ True ∧ (True ∧ True) ∧ (True ∧ True) ∧ v = y_1.fst ∧ True) ∧ ((2 : Nat) ≤ (2 : Nat) ∧ a1 = a1 ∧ a0 = a0 ∧ True) ∧ ((2 : Nat) ≤ (2 : Nat) ∧ (0 : Int) = (0 : Int) ∧ (0 : Int) = (0 : Int) ∧ True) ∧ ((2 : Nat) ≤
  (2 : Nat) ∧ y.snd.fst * (2 : Int) ^ (y.fst + (1 : Int)).toNat / (18446744073709551616 : Int) = y_1.snd.fst * (2 : Int) ^ (y_1.fst + (1 : Int)).toNat / (18446744073709551616 : Int) ∧ y.snd.fst * (2 : Int) ^ (y.fst + (1 :
  Int)).toNat % (18446744073709551616 : Int) = y_1.snd.fst * (2 : Int) ^ (y_1.fst + (1 : Int)).toNat % (18446744073709551616 : Int) ∧ True) ∧ ((2 : Nat) ≤ (2 : Nat) ∧ wN (0 : Int) y.snd.snd * (2 : Int) %
  (340282366920938463463374607431768211456 : Int) / (18446744073709551616 : Int) = (0 : Int) ∧ bits BinOp.or IntKind.u64 (wN (0 : Int) y.snd.snd * (2 : Int) % (340282366920938463463374607431768211456 : Int) %
  (18446744073709551616 : Int)) (wN a1 a0 / (2 : Int) ^ y.fst.toNat % (2 : Int)) = y_1.snd.snd ∧ True) ∧ True) ∧ (rdivFam a1 a0 b).μ y_1 < (rdivFam a1 a0 b).μ y)) ∧ (decide (y.fst ≥ (0 : Int)) = false → ∀ (v : Int), v =
  y.snd.snd → (((0 : Int) ≤ a1 ∧ a1 < (18446744073709551616 : Int)) ∧ (0 : Int) ≤ a0 ∧ a0 < (18446744073709551616 : Int)) ∧ (0 : Int) ≤ b ∧ b < (18446744073709551616 : Int) → ((y.snd.fst * (2 : Int) ^ (y.fst + (1 :
  Int)).toNat / (18446744073709551616 : Int) = (if b = (0 : Int) then (0 : Int) else wN a1 a0 / b) / (18446744073709551616 : Int) ∧ y.snd.fst * (2 : Int) ^ (y.fst + (1 : Int)).toNat % (18446744073709551616 : Int) = (if b =
  (0 : Int) then (0 : Int) else wN a1 a0 / b) % (18446744073709551616 : Int) ∧ True) ∧ (v = if b = (0 : Int) then (0 : Int) else wN a1 a0 % b) ∧ decide (b ≠ (0 : Int)) = true ∧ True) ∧ True ∧ True)) := by
  simp only [true_and, and_true, eq_self, Nat.le_refl, decide_eq_true_eq, decide_eq_false_iff_not, beq_iff_eq, beq_eq_false_iff_ne, and_self, Int.not_le, ge_iff_le, ne_eq, IntKind.wrap_i64]
  rintro a1 a0 b ⟨⟨⟨ha1, ha1'⟩, ha0, ha0'⟩, hb, hb'⟩
  have hM : ∀ z : Int × Int × Int, (rdivFam a1 a0 b).μ z = (z.1 + 1).toNat := fun _ => rfl
  simp only [hM]
  have hA : 0 ≤ wN a1 a0 ∧ wN a1 a0 < 340282366920938463463374607431768211456 := by unfold wN; omega
  have ha : (0 ≤ a1 ∧ a1 < 18446744073709551616) ∧ 0 ≤ a0 ∧ a0 < 18446744073709551616 := ⟨⟨ha1, ha1'⟩, ha0, ha0'⟩
  generalize wN a1 a0 = M at *
  have w0 : ∀ r, wN 0 r = r := fun r => by unfold wN; omega
  have wd : ∀ r, wN (r / 18446744073709551616) (r % 18446744073709551616) = r := fun r => by unfold wN; omega
  simp only [w0, wd]
  rintro _ rfl
  refine ⟨fun h => ?_, fun h => ?_⟩
  · rintro _ rfl _
    rw [if_pos h, if_pos h]
    exact ⟨⟨by decide, by decide⟩, rfl, fun h' => h' h⟩
  simp only [if_neg h]
  rintro _ rfl
  have h128 : (2 : Int) ^ ((127 : Int) + 1).toNat = 340282366920938463463374607431768211456 := by decide
  refine ⟨⟨(127, 0, 0), ⟨⟨by decide, by decide⟩, ⟨by decide, by show (0 : Int) < b; omega⟩, ?_, by decide⟩, ?_⟩, fun z hz => ?_⟩
  · show (0 : Int) * b + 0 = M / 2 ^ ((127 : Int) + 1).toNat
    rw [h128, Int.ediv_eq_zero_of_lt hA.1 hA.2, Int.zero_mul, Int.zero_add]
  · simp
  obtain ⟨i, q, r⟩ := z
  obtain ⟨⟨i1, i2⟩, ⟨r1, r2⟩, hq, q1⟩ := hz
  simp only at i1 i2 r1 r2 hq q1 ⊢
  refine ⟨fun h0 => ?_, fun h0 => ?_⟩
  · have e0 := toNat_succ h0
    rw [e0] at hq
    have e1 := ediv_succ M i.toNat
    have e2 : (2 : Int) ^ (i.toNat + 1) = 2 ^ i.toNat * 2 := Int.pow_succ 2 _
    have hp := pow_pos' i.toNat
    have bt : 0 ≤ M / 2 ^ i.toNat % 2 ∧ M / 2 ^ i.toNat % 2 < 2 := by omega
    have bl : M / 2 ^ i.toNat * 2 ^ i.toNat ≤ M := Int.ediv_mul_le _ (by omega)
    generalize M / 2 ^ i.toNat % 2 = t at *
    have e3 : r * 2 % 340282366920938463463374607431768211456 = r * 2 := by omega
    rw [e3]
    have e4 : bits .or .u64 (r * 2 % 18446744073709551616) t = r * 2 % 18446744073709551616 + t := by
      have : r * 2 % 18446744073709551616 = (r % 9223372036854775808) * 2 ^ 1 := by omega
      rw [this]
      refine or_apart 1 (by omega) bt.1 ⟨by omega, by omega⟩ (by omega)
    rw [e4]
    have e5 : wN (r * 2 / 18446744073709551616) (r * 2 % 18446744073709551616 + t) = r * 2 + t := by unfold wN; omega
    rw [e5]
    have e6 : wcmp (r * 2 / 18446744073709551616) (r * 2 % 18446744073709551616 + t) 0 b = if r * 2 + t < b then -1 else if b < r * 2 + t then 1 else 0 := by
      unfold wcmp; rw [e5, w0]
    rw [e6]
    have e7 : (i - 1 + 1).toNat = i.toNat := by omega
    have qb : q * 2 ^ (i.toNat + 1) ≤ M := by
      have k1 : q * 1 ≤ q * b := Int.mul_le_mul_of_nonneg_left (by omega) q1
      have k2 : q ≤ M / 2 ^ (i.toNat + 1) := by omega
      have k3 := Int.mul_le_mul_of_nonneg_right k2 (Int.le_of_lt (pow_pos' (i.toNat + 1)))
      have k4 : M / 2 ^ (i.toNat + 1) * 2 ^ (i.toNat + 1) ≤ M := Int.ediv_mul_le _ (by have := pow_pos' (i.toNat + 1); omega)
      omega
    have qn : 0 ≤ q * 2 ^ (i.toNat + 1) := Int.mul_nonneg q1 (Int.le_of_lt (pow_pos' _))
    have qm : q * 2 ^ (i.toNat + 1) % 2 ^ (i.toNat + 1) = 0 := Int.mul_emod_left _ _
    have q2 : q * 2 ^ (i.toNat + 1) = q * 2 * 2 ^ i.toNat := by rw [e2, Int.mul_comm (2 ^ i.toNat) 2, Int.mul_assoc]
    have q3 : q * 2 ^ (i.toNat + 1) + 2 ^ i.toNat = (q * 2 + 1) * 2 ^ i.toNat := by rw [q2, Int.add_mul, Int.one_mul]
    have q4 : q * 2 * b = q * b * 2 := by rw [Int.mul_assoc, Int.mul_comm 2 b, Int.mul_assoc]
    rw [e0]
    refine ⟨⟨by omega, by omega, by omega⟩, ⟨ha, h0, by omega⟩, ⟨⟨⟨by omega, by omega⟩, by omega, by omega⟩, ⟨by decide, by decide⟩, hb, hb'⟩, fun hc => ?_, fun hc => ?_⟩
    · have hge : b ≤ r * 2 + t := by
        by_cases hlt : r * 2 + t < b
        · rw [if_pos hlt] at hc; omega
        · omega
      refine ⟨⟨⟨⟨⟨by omega, by omega⟩, by omega, by omega⟩, ⟨by decide, by decide⟩, hb, hb'⟩, hge⟩, ⟨⟨⟨by omega, by omega⟩, by omega, by omega⟩, ⟨h0, by omega⟩, qm⟩, fun v hv => ⟨(i - 1, q * 2 + 1, r * 2 + t - b), ⟨⟨(by first | omega | (dsimp only; omega)), (by first | omega | (dsimp only; omega))⟩, ⟨(by first | omega | (dsimp only; omega)), (by first | omega | (dsimp only; omega))⟩, ?_, (by first | omega | (dsimp only; omega))⟩, ⟨(by first | omega | (dsimp only; omega)), ?_, (by first | omega | (dsimp only; omega)), (by first | omega | (dsimp only; omega))⟩, (by first | omega | (dsimp only; omega))⟩⟩
      · show (q * 2 + 1) * b + (r * 2 + t - b) = M / 2 ^ (i - 1 + 1).toNat
        rw [e7, Int.add_mul, q4, Int.one_mul]
        omega
      · show _ = (q * 2 + 1) * 2 ^ (i - 1 + 1).toNat / _ ∧ _ = (q * 2 + 1) * 2 ^ (i - 1 + 1).toNat % _
        rw [e7, q3]
        exact ⟨rfl, rfl⟩
    · have hlt : r * 2 + t < b := by
        by_cases hlt : r * 2 + t < b
        · exact hlt
        · rw [if_neg hlt] at hc
          split at hc <;> omega
      intro v hv
      refine ⟨(i - 1, q * 2, r * 2 + t), ⟨⟨(by first | omega | (dsimp only; omega)), (by first | omega | (dsimp only; omega))⟩, ⟨(by first | omega | (dsimp only; omega)), (by first | omega | (dsimp only; omega))⟩, ?_, (by first | omega | (dsimp only; omega))⟩, ⟨(by first | omega | (dsimp only; omega)), ?_, (by first | omega | (dsimp only; omega)), (by first | omega | (dsimp only; omega))⟩, (by first | omega | (dsimp only; omega))⟩
      · show q * 2 * b + (r * 2 + t) = M / 2 ^ (i - 1 + 1).toNat
        rw [e7, q4]
        omega
      · show _ = q * 2 * 2 ^ (i - 1 + 1).toNat / _ ∧ _ = q * 2 * 2 ^ (i - 1 + 1).toNat % _
        rw [e7, q2]
        exact ⟨rfl, rfl⟩
  · have e0 : (i + 1).toNat = 0 := by omega
    rw [e0, show (2 : Int) ^ 0 = 1 from rfl, Int.ediv_one] at hq
    rw [e0, show (2 : Int) ^ 0 = 1 from rfl, Int.mul_one]
    intro v hv _
    rw [hv]
    obtain ⟨d1, d2⟩ := (Int.ediv_emod_unique (a := M) (b := b) (q := q) (r := r) (by omega)).2 ⟨by rw [Int.mul_comm]; omega, r1, r2⟩
    rw [d1, d2]
    exact ⟨⟨rfl, rfl⟩, rfl, h⟩

def rdiv_C (x : ((Int × Int) × Int)) : Cfg := { Γ := Go.Sx.look tRdiv, names := true, loops := onlyAt 6 [rdivFam (x.1.1) (x.1.2) (x.2)], mode := rdivMode, locks := rdivLocks }
theorem rdiv_al (x : ((Int × Int) × Int)) : Shown (wdivP.vc Try.prog (rdiv_C x) Try.f59 x) := ⟨@Eq.mp _ _ (by kernel_rfl) (rdiv_vc (x.1.1) (x.1.2) (x.2))⟩
theorem rdiv_ok : SpOk Try.prog 59 wdivP.sp := @Pat.okS _ wdivP Try.prog rdiv_C 59 Try.f59 (fun x => cfg_tab rfl tRdiv_ok) (by kernel_rfl) Try.func59 (fun _ => rfl) rdiv_al
end Go.Proofs.Ytijpjhelgggmfaa
