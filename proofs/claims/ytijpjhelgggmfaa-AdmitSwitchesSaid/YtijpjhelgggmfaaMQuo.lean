import Derived.Test.YtijpjhelgggmfaaMNum
namespace Go.Sx
open Go

theorem qY {A B Y : Int} (hY : Y = A * 4294967296 + B) (q : Int) : q * Y = q * A * 4294967296 + q * B := by
  rw [hY, Int.mul_add, Int.mul_assoc]

theorem q_lt {A B D N Y : Int} (hA : 2147483648 ≤ A) (hB : 0 ≤ B) (hY : Y = A * 4294967296 + B) (hD : 0 ≤ D) (hD' : D < Y) (hN : 0 ≤ N) (hN' : N < 4294967296) :
    0 ≤ (D * 4294967296 + N) / Y ∧ (D * 4294967296 + N) / Y < 4294967296 :=
  ⟨Int.ediv_nonneg (by omega) (by omega), Int.ediv_lt_of_lt_mul (by omega) (by omega)⟩

theorem q_of {A B D N Y q r : Int} (hA : 2147483648 ≤ A) (hB : 0 ≤ B) (hY : Y = A * 4294967296 + B) (h : q * A + r = D) (hle : q * B ≤ 4294967296 * r + N) (hQ : (D * 4294967296 + N) / Y ≤ q) : q = (D * 4294967296 + N) / Y := by
  have h1 : q ≤ (D * 4294967296 + N) / Y := by
    rw [Int.le_ediv_iff_mul_le (by omega), qY hY q]
    generalize q * A = m at *
    generalize q * B = n at *
    omega
  omega

theorem q_start {A B D N Y : Int} (hA : 2147483648 ≤ A) (hA' : A < 4294967296) (hB : 0 ≤ B) (hB' : B < 4294967296) (hY : Y = A * 4294967296 + B) (hD : 0 ≤ D) (hD' : D < Y) (hN : 0 ≤ N) (hN' : N < 4294967296) :
    D / A * A + D % A = D ∧ (0 ≤ D % A ∧ D % A < 4294967296) ∧ (D * 4294967296 + N) / Y ≤ D / A ∧ D / A ≤ 4294967297 := by
  have e1 : D / A * A + D % A = D := by
    rw [Int.mul_comm]; exact Int.mul_ediv_add_emod D A
  have e2 := Int.emod_nonneg D (show A ≠ 0 by omega)
  have e3 := Int.emod_lt_of_pos D (show 0 < A by omega)
  refine ⟨e1, ⟨e2, by omega⟩, ?_, ?_⟩
  · obtain ⟨q1, q2⟩ := q_lt hA hB hY hD hD' hN hN'
    rw [Int.le_ediv_iff_mul_le (by omega)]
    have h1 := Int.ediv_mul_le (D * 4294967296 + N) (show Y ≠ 0 by omega)
    rw [qY hY] at h1
    have h2 := Int.mul_nonneg q1 hB
    generalize (D * 4294967296 + N) / Y * A = m at *
    generalize (D * 4294967296 + N) / Y * B = n at *
    omega
  · have : D / A < 4294967298 := Int.ediv_lt_of_lt_mul (by omega) (by omega)
    omega

theorem q_step {A B D N Y q r : Int} (hA : 2147483648 ≤ A) (hB : 0 ≤ B) (hB' : B < 4294967296) (hY : Y = A * 4294967296 + B) (hD : 0 ≤ D) (hD' : D < Y) (hN : 0 ≤ N) (hN' : N < 4294967296)
    (h : q * A + r = D) (hQ : (D * 4294967296 + N) / Y ≤ q) (hq : q ≤ 4294967297) (hc : 4294967296 ≤ q ∨ 4294967296 * r + N < q * B) :
    (D * 4294967296 + N) / Y ≤ q - 1 ∧ (q - 1) * A + (r + A) = D ∧ (4294967296 ≤ r + A → q - 1 = (D * 4294967296 + N) / Y) := by
  obtain ⟨q1, q2⟩ := q_lt hA hB hY hD hD' hN hN'
  have h1 : (D * 4294967296 + N) / Y ≤ q - 1 := by
    rcases hc with hc | hc
    · omega
    · have : (D * 4294967296 + N) / Y < q := by
        apply Int.ediv_lt_of_lt_mul (by omega)
        rw [qY hY q]
        generalize q * A = m at *
        generalize q * B = n at *
        omega
      omega
  have h2 : (q - 1) * A + (r + A) = D := by
    rw [Int.sub_mul, Int.one_mul]
    generalize q * A = m at *
    omega
  refine ⟨h1, h2, fun h3 => q_of hA hB hY h2 ?_ h1⟩
  have h4 : (q - 1) * B ≤ 4294967296 * B := Int.mul_le_mul_of_nonneg_right (by omega) hB
  omega

/-- A turn of the loop, as the code reckons it. -/
theorem q_turn {A B D N Y q r : Int} (hA : 2147483648 ≤ A) (hA' : A < 4294967296) (hB : 0 ≤ B) (hB' : B < 4294967296) (hY : Y = A * 4294967296 + B) (hD : 0 ≤ D) (hD' : D < Y) (hN : 0 ≤ N) (hN' : N < 4294967296)
    (h : q * A + r = D ∧ (0 ≤ r ∧ r < 4294967296) ∧ (D * 4294967296 + N) / Y ≤ q ∧ q ≤ 4294967297) :
    (4294967296 ≤ q ∨ 4294967296 * r + N < q * B → ∀ v, v = (q - 1) % 18446744073709551616 → ∀ w, w = (r + A) % 18446744073709551616 → (4294967296 ≤ w → v = (D * 4294967296 + N) / Y) ∧
      (w < 4294967296 → (v * A + w = D ∧ (0 ≤ w ∧ w < 4294967296) ∧ (D * 4294967296 + N) / Y ≤ v ∧ v ≤ 4294967297) ∧ v.toNat < q.toNat)) ∧
    (q < 4294967296 → (4294967296 * r % 18446744073709551616 + N) % 18446744073709551616 = 4294967296 * r + N ∧ q * B % 18446744073709551616 = q * B) ∧
    (q < 4294967296 → q * B ≤ 4294967296 * r + N → q = (D * 4294967296 + N) / Y) := by
  obtain ⟨h1, ⟨h2, h3⟩, h4, h5⟩ := h
  obtain ⟨q1, q2⟩ := q_lt hA hB hY hD hD' hN hN'
  refine ⟨fun hc v hv w hw => ?_, fun hq => ?_, fun _ hle => q_of hA hB hY h1 hle h4⟩
  · obtain ⟨s1, s2, s3⟩ := q_step hA hB hB' hY hD hD' hN hN' h1 h4 h5 hc
    have ev : v = q - 1 := by omega
    have ew : w = r + A := by omega
    subst ev ew
    exact ⟨s3, fun hlt => ⟨⟨s2, ⟨by omega, hlt⟩, s1, by omega⟩, by omega⟩⟩
  · have := mul_b32 (show 0 ≤ q by omega) hq hB hB'
    omega

/-- The end: two digits are the quotient. -/
theorem q_end {N y p Y U V L1 L0 : Int} (hy : 0 < y) (hp : 0 < p) (hY : Y = y * p) (hN : U * 18446744073709551616 + (L1 * 4294967296 + L0) = N * p)
    (hV : V = U * 4294967296 + L1 - (U * 4294967296 + L1) / Y * Y) :
    ((U * 4294967296 + L1) / Y * 4294967296 + (V * 4294967296 + L0) / Y = N / y) ∧ (V * 4294967296 + L0 - (V * 4294967296 + L0) / Y * Y) / p = N % y ∧
      0 ≤ V ∧ V < Y ∧ 0 ≤ V * 4294967296 + L0 - (V * 4294967296 + L0) / Y * Y ∧ V * 4294967296 + L0 - (V * 4294967296 + L0) / Y * Y < Y := by
  have hY0 : 0 < Y := by rw [hY]; exact Int.mul_pos hy hp
  have a1 : ∀ X : Int, 0 ≤ X - X / Y * Y ∧ X - X / Y * Y < Y := fun X => by
    have h1 := Int.mul_ediv_add_emod X Y
    have h2 := Int.emod_nonneg X (show Y ≠ 0 by omega)
    have h3 := Int.emod_lt_of_pos X hY0
    rw [Int.mul_comm] at h1
    omega
  have b1 := a1 (U * 4294967296 + L1)
  have b2 := a1 (V * 4294967296 + L0)
  generalize (U * 4294967296 + L1) / Y = q1 at *
  generalize (V * 4294967296 + L0) / Y = q0 at *
  generalize hR : V * 4294967296 + L0 - q0 * Y = R at *
  have e : N * p = (q1 * 4294967296 + q0) * Y + R := by
    rw [Int.add_mul, Int.mul_assoc, Int.mul_comm 4294967296 Y, ← Int.mul_assoc]
    generalize q1 * Y = m at *
    generalize q0 * Y = n at *
    generalize N * p = k at *
    omega
  have e2 : R = (N - (q1 * 4294967296 + q0) * y) * p := by
    rw [Int.sub_mul, e, hY, Int.mul_assoc]
    omega
  have c1 : 0 ≤ N - (q1 * 4294967296 + q0) * y := by
    by_cases h : 0 ≤ N - (q1 * 4294967296 + q0) * y
    · exact h
    · have := Int.mul_neg_of_neg_of_pos (Int.not_le.1 h) hp
      omega
  have c2 : N - (q1 * 4294967296 + q0) * y < y := by
    refine Int.lt_of_mul_lt_mul_right (a := p) ?_ (Int.le_of_lt hp)
    rw [← e2, ← hY]; exact b2.2
  have c3 := (Int.ediv_emod_unique (a := N) (b := y) (q := q1 * 4294967296 + q0) (r := N - (q1 * 4294967296 + q0) * y) hy).2 ⟨by rw [Int.mul_comm y]; omega, c1, c2⟩
  refine ⟨c3.1.symm, ?_, by rw [hV]; exact b1.1, ?_, b2⟩
  · rw [c3.2, e2, Int.mul_ediv_cancel _ (by omega)]
  · rw [hV]; exact b1.2

/-- A number, made as great as may be. -/
theorem norm_bd {y : Int} {l : Nat} (hl : 1 ≤ l) (hl' : l ≤ 64) (h1 : 2 ^ (l - 1) ≤ y) (h2 : y < 2 ^ l) : 9223372036854775808 ≤ y * 2 ^ (64 - l) ∧ y * 2 ^ (64 - l) < 18446744073709551616 := by
  have hp := pow_pos' (64 - l)
  have e1 : (2 : Int) ^ (l - 1) * 2 ^ (64 - l) = 9223372036854775808 := by
    rw [← Int.pow_add, show l - 1 + (64 - l) = 63 by omega]; decide
  have e2 : (2 : Int) ^ l * 2 ^ (64 - l) = 18446744073709551616 := by
    rw [← Int.pow_add, show l + (64 - l) = 64 by omega]; decide
  exact ⟨by rw [← e1]; exact Int.mul_le_mul_of_nonneg_right h1 (Int.le_of_lt hp), by rw [← e2]; exact Int.mul_lt_mul_of_pos_right h2 hp⟩

theorem shl_split {lo : Int} {s : Nat} (hs : s ≤ 64) : lo * 2 ^ s = lo / 2 ^ (64 - s) * 18446744073709551616 + lo * 2 ^ s % 18446744073709551616 := by
  have e : (18446744073709551616 : Int) = 2 ^ (64 - s) * 2 ^ s := by
    rw [← Int.pow_add, show 64 - s + s = 64 by omega]; decide
  have h1 := Int.mul_ediv_add_emod (lo * 2 ^ s) 18446744073709551616
  have h2 : lo * 2 ^ s / 18446744073709551616 = lo / 2 ^ (64 - s) := by
    rw [e]; exact Int.mul_ediv_mul_of_pos_left _ _ (pow_pos' s)
  rw [h2] at h1
  omega
theorem shr_lt {lo : Int} {s : Nat} (hs : s ≤ 64) (h : lo < 18446744073709551616) : lo / 2 ^ (64 - s) < 2 ^ s := by
  apply Int.ediv_lt_of_lt_mul (pow_pos' _)
  rw [← Int.pow_add, show s + (64 - s) = 64 by omega]
  exact h
end Go.Sx
