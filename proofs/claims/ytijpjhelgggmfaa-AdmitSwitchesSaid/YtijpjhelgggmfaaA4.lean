import Derived.Test.YtijpjhelgggmfaaA3
open Go Go.Sx Go.Proofs
set_option maxRecDepth 100000
namespace Go.Proofs.Ytijpjhelgggmfaa

/-- How many bits a number takes. -/
def lenN (n : Nat) : Nat := if n = 0 then 0 else n.log2 + 1
def lenTab : ByteArray := ⟨((List.range 256).map fun n => UInt8.ofNat (lenN n)).toArray⟩
theorem lenTab_at : ∀ n, n < 256 → byteAt lenTab n = lenN n := by decide +kernel
theorem lenTab_le : ∀ n, n < 256 → lenN n ≤ 8 := by decide +kernel
theorem lenTab_size : lenTab.size = 256 := by decide +kernel
theorem lenN_div (n k : Nat) (h : 2 ^ k ≤ n) : lenN n = k + lenN (n / 2 ^ k) := by
  have hp : 0 < 2 ^ k := Nat.two_pow_pos k
  have h1 : 0 < n / 2 ^ k := Nat.div_pos h hp
  have h2 : n ≠ 0 := by omega
  have h3 : n / 2 ^ k ≠ 0 := by omega
  unfold lenN
  rw [if_neg h2, if_neg h3]
  have e1 := Nat.log2_self_le h3
  have e2 := Nat.lt_log2_self (n := n / 2 ^ k)
  generalize Nat.log2 (n / 2 ^ k) = l at *
  have h4 : n.log2 = l + k := by
    rw [Nat.log2_eq_iff h2]
    refine ⟨?_, ?_⟩
    · rw [Nat.pow_add]
      exact (Nat.le_div_iff_mul_le hp).1 e1
    · rw [show l + k + 1 = (l + 1) + k by omega, Nat.pow_add]
      exact (Nat.div_lt_iff_lt_mul hp).1 e2
  omega
def lenPt : Pat Int where
  view | [.int .u64 x], _ => some x | _, _ => none
  args x := [.int .u64 x]
  H _ := []
  out x := .need (u64 x) (.retq (.int .i64 (lenN x.toNat)))
theorem len64_vc : ∀ (x : Int), ((0 : Int) ≤ x ∧ x < (18446744073709551616 : Int)) ∧ True → ∀ (v : Int), v = (0 : Int) → (decide (x ≥ (4294967296 : Int)) = true → (0 : Int) ≤ (32 : Int) ∧ ∀ (v : Int), v = x.fdiv ((2 : Int) ^ min (Int.toNat
  (32 : Int)) IntKind.u64.bits) → ∀ (v_1 : Int), v_1 = (32 : Int) → (decide (v ≥ (65536 : Int)) = true → (0 : Int) ≤ (16 : Int) ∧ ∀ (v_2 : Int), v_2 = v.fdiv ((2 : Int) ^ min (Int.toNat (16 : Int)) IntKind.u64.bits) → ∀ (v
  : Int), v = IntKind.i64.wrap (v_1 + (16 : Int)) → (decide (v_2 ≥ (256 : Int)) = true → (0 : Int) ≤ (8 : Int) ∧ ∀ (v_3 : Int), v_3 = v_2.fdiv ((2 : Int) ^ min (Int.toNat (8 : Int)) IntKind.u64.bits) → ∀ (v_4 : Int), v_4 =
  IntKind.i64.wrap (v + (8 : Int)) → ((0 : Int) ≤ IntKind.u8.wrap v_3 ∧ IntKind.u8.wrap v_3 < (↑(lenTab).size : Int)) ∧ ∀ (v : Int), v =
  IntKind.i64.wrap (v_4 + IntKind.i64.wrap (byteAt (lenTab) (IntKind.u8.wrap v_3).toNat)) → (0 : Int) ≤ x ∧ x < (18446744073709551616 : Int) → v
  = (↑(lenN x.toNat) : Int) ∧ True ∧ True) ∧ (decide (v_2 ≥ (256 : Int)) = false → ((0 : Int) ≤ IntKind.u8.wrap v_2 ∧ IntKind.u8.wrap v_2 < (↑(lenTab).size : Int)) ∧ ∀ (v_3 : Int), v_3 = IntKind.i64.wrap (v + IntKind.i64.wrap (byteAt (lenTab) (IntKind.u8.wrap
  v_2).toNat)) → (0 : Int) ≤ x ∧ x < (18446744073709551616 : Int) → v_3 = (↑(lenN x.toNat) : Int) ∧ True ∧ True)) ∧ (decide (v ≥ (65536 : Int)) = false → (decide (v ≥ (256 : Int)) = true → (0 : Int) ≤ (8 : Int) ∧ ∀ (v_2 :
  Int), v_2 = v.fdiv ((2 : Int) ^ min (Int.toNat (8 : Int)) IntKind.u64.bits) → ∀ (v : Int), v = IntKind.i64.wrap (v_1 + (8 : Int)) → ((0 : Int) ≤ IntKind.u8.wrap v_2 ∧ IntKind.u8.wrap v_2 < (↑(lenTab).size : Int)) ∧ ∀ (v_3 : Int), v_3 = IntKind.i64.wrap (v + IntKind.i64.wrap (byteAt (lenTab)
  (IntKind.u8.wrap v_2).toNat)) → (0 : Int) ≤ x ∧ x < (18446744073709551616 : Int) → v_3 = (↑(lenN x.toNat) : Int) ∧ True ∧ True) ∧ (decide (v ≥ (256 : Int)) = false → ((0 : Int) ≤ IntKind.u8.wrap v ∧ IntKind.u8.wrap v <
  (↑(lenTab).size : Int)) ∧ ∀ (v_2 : Int), v_2 = IntKind.i64.wrap (v_1 + IntKind.i64.wrap (byteAt (lenTab) (IntKind.u8.wrap v).toNat)) → (0 : Int) ≤ x ∧ x < (18446744073709551616 : Int) → v_2 = (↑(lenN x.toNat) : Int) ∧ True ∧ True))) ∧ (decide (x ≥ (4294967296 : Int)) = false → (decide (x ≥
  (65536 : Int)) = true → (0 : Int) ≤ (16 : Int) ∧ ∀ (v_1 : Int), v_1 = x.fdiv ((2 : Int) ^ min (Int.toNat (16 : Int)) IntKind.u64.bits) → ∀ (v_2 : Int), v_2 = IntKind.i64.wrap (v + (16 : Int)) → (decide (v_1 ≥ (256 :
  Int)) = true → (0 : Int) ≤ (8 : Int) ∧ ∀ (v : Int), v = v_1.fdiv ((2 : Int) ^ min (Int.toNat (8 : Int)) IntKind.u64.bits) → ∀ (v_3 : Int), v_3 = IntKind.i64.wrap (v_2 + (8 : Int)) → ((0 : Int) ≤ IntKind.u8.wrap v ∧
  IntKind.u8.wrap v < (↑(lenTab).size : Int)) ∧ ∀ (v_4 : Int), v_4 = IntKind.i64.wrap (v_3 + IntKind.i64.wrap (byteAt (lenTab) (IntKind.u8.wrap v).toNat)) → (0 : Int) ≤ x ∧ x < (18446744073709551616 : Int) → v_4 = (↑(lenN x.toNat) : Int) ∧ True ∧ True) ∧ (decide (v_1 ≥ (256 : Int)) = false → ((0 :
  Int) ≤ IntKind.u8.wrap v_1 ∧ IntKind.u8.wrap v_1 < (↑(lenTab).size : Int)) ∧ ∀ (v : Int), v = IntKind.i64.wrap (v_2 + IntKind.i64.wrap (byteAt
  (lenTab) (IntKind.u8.wrap v_1).toNat)) → (0 : Int) ≤ x ∧ x < (18446744073709551616 : Int) → v = (↑(lenN x.toNat) : Int) ∧ True ∧ True)) ∧ (decide
  (x ≥ (65536 : Int)) = false → (decide (x ≥ (256 : Int)) = true → (0 : Int) ≤ (8 : Int) ∧ ∀ (v_1 : Int), v_1 = x.fdiv ((2 : Int) ^ min (Int.toNat (8 : Int)) IntKind.u64.bits) → ∀ (v_2 : Int), v_2 = IntKind.i64.wrap (v +
  (8 : Int)) → ((0 : Int) ≤ IntKind.u8.wrap v_1 ∧ IntKind.u8.wrap v_1 < (↑(lenTab).size : Int)) ∧ ∀ (v : Int), v = IntKind.i64.wrap (v_2 +
  IntKind.i64.wrap (byteAt (lenTab) (IntKind.u8.wrap v_1).toNat)) → (0 : Int) ≤ x ∧ x < (18446744073709551616 : Int) → v = (↑(lenN
  x.toNat) : Int) ∧ True ∧ True) ∧ (decide (x ≥ (256 : Int)) = false → ((0 : Int) ≤ IntKind.u8.wrap x ∧ IntKind.u8.wrap x < (↑(lenTab).size : Int)) ∧ ∀
  (v_1 : Int), v_1 = IntKind.i64.wrap (v + IntKind.i64.wrap (byteAt (lenTab) (IntKind.u8.wrap x).toNat)) → (0 : Int) ≤ x ∧ x <
  (18446744073709551616 : Int) → v_1 = (↑(lenN x.toNat) : Int) ∧ True ∧ True))) := by
  simp only [and_true, decide_eq_true_eq, decide_eq_false_iff_not, and_self, Int.not_le, ge_iff_le, IntKind.wrap_i64]
  rintro x ⟨h1, h2⟩
  have e0 : ∀ z : Int, 0 ≤ z → z < 256 → 0 ≤ IntKind.u8.wrap z ∧ IntKind.u8.wrap z < (lenTab.size : Int) ∧ IntKind.i64.wrap (byteAt lenTab (IntKind.u8.wrap z).toNat) = lenN z.toNat ∧ lenN z.toNat ≤ 8 := fun z z1 z2 => by
    have w : IntKind.u8.wrap z = z := by rw [IntKind.wrap_u8]; omega
    have t1 := lenTab_at z.toNat (by omega)
    have t2 := lenTab_le z.toNat (by omega)
    rw [w, lenTab_size, t1, wrap_i64_of ⟨by omega, by omega⟩]
    exact ⟨z1, by omega, rfl, t2⟩
  have e1 : ∀ (k : Nat) (z : Int), 0 ≤ z → k < 64 → 2 ^ k ≤ z → 0 ≤ z / 2 ^ k ∧ lenN z.toNat = k + lenN (z / 2 ^ k).toNat := fun k z z1 hk z2 => by
    obtain ⟨n, rfl⟩ := Int.eq_ofNat_of_zero_le z1
    have c : ((n : Int) / 2 ^ k) = ((n / 2 ^ k : Nat) : Int) := by simp
    have c2 : (2 : Int) ^ k = ((2 ^ k : Nat) : Int) := by simp
    rw [c, Int.toNat_natCast, Int.toNat_natCast]
    rw [c2] at z2
    exact ⟨Int.natCast_nonneg _, lenN_div n k (Int.ofNat_le.1 z2)⟩
  have f32 : ∀ z : Int, z.fdiv (2 ^ min (Int.toNat 32) IntKind.u64.bits) = z / 4294967296 := fun z => fdiv_pow z 32
  have f16 : ∀ z : Int, z.fdiv (2 ^ min (Int.toNat 16) IntKind.u64.bits) = z / 65536 := fun z => fdiv_pow z 16
  have f8 : ∀ z : Int, z.fdiv (2 ^ min (Int.toNat 8) IntKind.u64.bits) = z / 256 := fun z => fdiv_pow z 8
  have g32 := fun z h1 h2 => e1 32 z h1 (by decide) h2
  have g16 := fun z h1 h2 => e1 16 z h1 (by decide) h2
  have g8 := fun z h1 h2 => e1 8 z h1 (by decide) h2
  simp only [show (2 : Int) ^ 32 = 4294967296 from by decide, show (2 : Int) ^ 16 = 65536 from by decide, show (2 : Int) ^ 8 = 256 from by decide] at g32 g16 g8
  simp only [f32, f16, f8]
  clear e1 f32 f16 f8
  have tail : ∀ (z c : Int) (L : Nat), 0 ≤ z → z < 256 → 0 ≤ c → c ≤ 56 → (L : Int) = c + lenN z.toNat →
      (0 ≤ IntKind.u8.wrap z ∧ IntKind.u8.wrap z < (lenTab.size : Int)) ∧ ∀ v : Int, v = (c + ((byteAt lenTab (IntKind.u8.wrap z).toNat + 9223372036854775808) % 18446744073709551616 - 9223372036854775808) + 9223372036854775808) % 18446744073709551616 - 9223372036854775808 →
        0 ≤ x ∧ x < 18446744073709551616 → v = (L : Int) := fun z c L z1 z2 c1 c2 hL => by
    obtain ⟨a1, a2, a3, a4⟩ := e0 z z1 z2
    rw [IntKind.wrap_i64] at a3
    refine ⟨⟨a1, a2⟩, fun v hv _ => ?_⟩
    rw [a3] at hv
    omega
  rintro _ rfl
  refine ⟨fun k1 => ⟨by decide, ?_⟩, fun k1 => ?_⟩
  · obtain ⟨q1, q2⟩ := g32 x h1 k1
    rintro y hy _ rfl
    rw [← hy] at q1 q2
    refine ⟨fun k2 => ⟨by decide, ?_⟩, fun k2 => ?_⟩
    · obtain ⟨q3, q4⟩ := g16 y q1 k2
      rintro z hz c hc
      rw [← hz] at q3 q4
      refine ⟨fun k3 => ⟨by decide, ?_⟩, fun k3 => ?_⟩
      · obtain ⟨q5, q6⟩ := g8 z q3 k3
        rintro t ht d hd
        rw [← ht] at q5 q6
        exact tail t d _ q5 (by omega) (by omega) (by omega) (by omega)
      · exact tail z c _ q3 k3 (by omega) (by omega) (by omega)
    · refine ⟨fun k3 => ⟨by decide, ?_⟩, fun k3 => ?_⟩
      · obtain ⟨q5, q6⟩ := g8 y q1 k3
        rintro t ht d hd
        rw [← ht] at q5 q6
        exact tail t d _ q5 (by omega) (by omega) (by omega) (by omega)
      · exact tail y 32 _ q1 k3 (by omega) (by omega) (by omega)
  · refine ⟨fun k2 => ⟨by decide, ?_⟩, fun k2 => ?_⟩
    · obtain ⟨q3, q4⟩ := g16 x h1 k2
      rintro z hz c hc
      rw [← hz] at q3 q4
      refine ⟨fun k3 => ⟨by decide, ?_⟩, fun k3 => ?_⟩
      · obtain ⟨q5, q6⟩ := g8 z q3 k3
        rintro t ht d hd
        rw [← ht] at q5 q6
        exact tail t d _ q5 (by omega) (by omega) (by omega) (by omega)
      · exact tail z c _ q3 k3 (by omega) (by omega) (by omega)
    · refine ⟨fun k3 => ⟨by decide, ?_⟩, fun k3 => ?_⟩
      · obtain ⟨q5, q6⟩ := g8 x h1 k3
        rintro t ht d hd
        rw [← ht] at q5 q6
        exact tail t d _ q5 (by omega) (by omega) (by omega) (by omega)
      · exact tail x 0 _ h1 k3 (by omega) (by omega) (by omega)

def len64_C (_ : Int) : Cfg := { Γ := Go.Sx.look [], names := true }
theorem len64_al (x : Int) : Shown (lenPt.vc Try.prog (len64_C x) Try.f76 x) := ⟨@Eq.mp _ _ (by kernel_rfl) (len64_vc x)⟩
theorem len64_ok : SpOk Try.prog 76 lenPt.sp := @Pat.okS _ lenPt Try.prog len64_C 76 Try.f76 (fun x => cfg_nil rfl) (by kernel_rfl) Try.func76 (fun _ => rfl) len64_al
theorem lenN_spec {n : Nat} (h : n ≠ 0) : 1 ≤ lenN n ∧ 2 ^ (lenN n - 1) ≤ n ∧ n < 2 ^ lenN n := by
  unfold lenN
  rw [if_neg h]
  exact ⟨by omega, Nat.log2_self_le h, Nat.lt_log2_self⟩
theorem lenN_le {x : Int} (h1 : 0 ≤ x) (h2 : x < 18446744073709551616) : lenN x.toNat ≤ 64 := by
  by_cases h : x.toNat = 0
  · rw [h]; decide
  · obtain ⟨a, b, c⟩ := lenN_spec h
    by_cases hl : lenN x.toNat ≤ 64
    · exact hl
    · have : 2 ^ 64 ≤ 2 ^ (lenN x.toNat - 1) := Nat.pow_le_pow_right (by decide) (by omega)
      have e : (2 : Nat) ^ 64 = 18446744073709551616 := by decide
      omega
def lzPt : Pat Int where
  view | [.int .u64 x], _ => some x | _, _ => none
  args x := [.int .u64 x]
  H _ := []
  out x := .need (u64 x) (.retq (.int .i64 (64 - lenN x.toNat)))
def tLz : Tab := [(76, lenPt.sp)]
theorem tLz_ok : TabOk Try.prog tLz := (tab_cons len64_ok tab_nil)

theorem lz_vc : ∀ (x : Int), ((0 : Int) ≤ x ∧ x < (18446744073709551616 : Int)) ∧ True → ∀ (v : Int), v = (0 : Int) → ((x = x ∧ True) ∧ True) ∧ ((0 : Int) ≤ x ∧ x < (18446744073709551616 : Int)) ∧ ∀ (v : Int), v = IntKind.i64.wrap ((64
  : Int) - (↑(lenN x.toNat) : Int)) → (0 : Int) ≤ x ∧ x < (18446744073709551616 : Int) → v = (64 : Int) - (↑(lenN x.toNat) : Int) ∧ True ∧ True := by
  simp only [true_and, and_true, eq_self, and_self, IntKind.wrap_i64]
  rintro x ⟨h1, h2⟩
  have := lenN_le h1 h2
  rintro _ rfl
  exact ⟨⟨h1, h2⟩, fun v hv _ => by omega⟩

def lz_C (_ : Int) : Cfg := { Γ := Go.Sx.look tLz, names := true }
theorem lz_al (x : Int) : Shown (lzPt.vc Try.prog (lz_C x) Try.f73 x) := ⟨@Eq.mp _ _ (by kernel_rfl) (lz_vc x)⟩
theorem lz_ok : SpOk Try.prog 73 lzPt.sp := @Pat.okS _ lzPt Try.prog lz_C 73 Try.f73 (fun x => cfg_tab rfl tLz_ok) (by kernel_rfl) Try.func73 (fun _ => rfl) lz_al
end Go.Proofs.Ytijpjhelgggmfaa
