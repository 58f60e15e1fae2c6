import Derived.Test.YtjofnajamlmllaaDoorSxRow
import Derived.Test.YtjofnajamlmllaaDoorI1
import Derived.Test.YtjofnajamlmllaaDoorMBits
import Derived.Test.YtjofnajamlmllaaDoorProg
open Go Go.Sx Go.Proofs
set_option maxRecDepth 100000
namespace Go.Proofs.YtjofnajamlmllaaDoor

def fitsPt : Pat (Int × Int) where
  view | [.int .i64 a, .int .i64 n], _ => some (a, n) | _, _ => none
  args x := [.int .i64 x.1, .int .i64 x.2]
  H _ := []
  out x := .need (i64 x.1 ∧ i64 x.2) (.retq (.bool (decide (fitsP x.1 x.2))))
theorem fits_vc : ∀ (a n : Int), (((-9223372036854775808 : Int) ≤ a ∧ a < (9223372036854775808 : Int)) ∧ (-9223372036854775808 : Int) ≤ n ∧ n < (9223372036854775808 : Int)) ∧ True → (decide (n ≥ (1 : Int)) = true → (decide (n ≤ (32 :
  Int)) = true → (decide (a ≥ (0 : Int)) = true → ((-9223372036854775808 : Int) ≤ a ∧ a < (9223372036854775808 : Int)) ∧ (-9223372036854775808 : Int) ≤ n ∧ n < (9223372036854775808 : Int) → decide (a ≤ IntKind.i64.wrap
  ((32 : Int) - n)) = decide (fitsP a n) ∧ True ∧ True) ∧ (decide (a ≥ (0 : Int)) = false → ((-9223372036854775808 : Int) ≤ a ∧ a < (9223372036854775808 : Int)) ∧ (-9223372036854775808 : Int) ≤ n ∧ n < (9223372036854775808
  : Int) → decide (fitsP a n) = false ∧ True ∧ True)) ∧ (decide (n ≤ (32 : Int)) = false → ((-9223372036854775808 : Int) ≤ a ∧ a < (9223372036854775808 : Int)) ∧ (-9223372036854775808 : Int) ≤ n ∧ n < (9223372036854775808
  : Int) → decide (fitsP a n) = false ∧ True ∧ True)) ∧ (decide (n ≥ (1 : Int)) = false → ((-9223372036854775808 : Int) ≤ a ∧ a < (9223372036854775808 : Int)) ∧ (-9223372036854775808 : Int) ≤ n ∧ n < (9223372036854775808 :
  Int) → decide (fitsP a n) = false ∧ True ∧ True) := by
  simp only [and_true, decide_eq_true_eq, decide_eq_false_iff_not, and_self, Int.not_le, ge_iff_le, IntKind.wrap_i64]
  rintro a n ⟨⟨h1, h2⟩, h3, h4⟩
  unfold fitsP
  try dsimp only
  repeat' (with_reducible first | assumption | apply And.intro | intro _)
  all_goals (try simp only [cond_dec, decide_eq_decide] at *)
  all_goals (first | omega | ((repeat' (first | omega | split)) <;> (try dsimp only) <;> (try (first | omega | contradiction | (subst_vars; first | rfl | omega) | (simp_all; done) | (simp_all; omega)))))

def fits_C (_ : (Int × Int)) : Cfg := { Γ := Go.Sx.look [], names := true }
theorem fits_al (x : (Int × Int)) : Shown (fitsPt.vc Tryd.prog (fits_C x) Tryd.f26 x) := ⟨@Eq.mp _ _ (by kernel_rfl) (fits_vc (x.1) (x.2))⟩
theorem fits_ok : SpOk Tryd.prog 26 fitsPt.sp := @Pat.okS _ fitsPt Tryd.prog fits_C 26 Tryd.f26 (fun x => cfg_nil rfl) (by kernel_rfl) Tryd.func26 (fun _ => rfl) fits_al
def maskPt : Pat Int where
  view | [.int .i64 n], _ => some n | _, _ => none
  args n := [.int .i64 n]
  H _ := []
  out n := .need (1 ≤ n ∧ n ≤ 32) (.retq (.int .u32 (2 ^ n.toNat - 1)))
theorem mask_vc : ∀ (n : Int), ((1 : Int) ≤ n ∧ n ≤ (32 : Int)) ∧ True → ∀ (v : Int), v = (0 : Int) → (0 : Int) ≤ IntKind.i64.wrap ((32 : Int) - n) ∧ ∀ (v : Int), v = Int.fdiv (4294967295 : Int) ((2 : Int) ^ min (IntKind.i64.wrap ((32 :
  Int) - n)).toNat IntKind.u32.bits) → (1 : Int) ≤ n ∧ n ≤ (32 : Int) → v = (2 : Int) ^ n.toNat - (1 : Int) ∧ True ∧ True := by
  simp only [and_true, and_self, IntKind.wrap_i64]
  rintro n ⟨h1, h2⟩ v hv
  have e : (32 - n + 9223372036854775808) % 18446744073709551616 - 9223372036854775808 = 32 - n := by omega
  rw [e]
  refine ⟨by omega, fun v hv _ => ?_⟩
  rw [hv, min32' (by omega), fdiv_pow, show (32 - n).toNat = 32 - n.toNat by omega]
  exact ones32 n.toNat (by omega)

def mask_C (_ : Int) : Cfg := { Γ := Go.Sx.look [], names := true }
theorem mask_al (x : Int) : Shown (maskPt.vc Tryd.prog (mask_C x) Tryd.f27 x) := ⟨@Eq.mp _ _ (by kernel_rfl) (mask_vc x)⟩
theorem mask_ok : SpOk Tryd.prog 27 maskPt.sp := @Pat.okS _ maskPt Tryd.prog mask_C 27 Tryd.f27 (fun x => cfg_nil rfl) (by kernel_rfl) Tryd.func27 (fun _ => rfl) mask_al
def bitPt : Pat (Int × Int) where
  view | [.int .u32 w, .int .i64 i], _ => some (w, i) | _, _ => none
  args x := [.int .u32 x.1, .int .i64 x.2]
  H _ := []
  out x := .need (u32 x.1 ∧ 0 ≤ x.2 ∧ x.2 < 32) (.retq (.int .u32 (if x.1.toNat.testBit x.2.toNat then 1 else 0)))
def tBit : Tab := [(26, fitsPt.sp), (27, maskPt.sp)]
theorem tBit_ok : TabOk Tryd.prog tBit := (tab_cons fits_ok (tab_cons mask_ok tab_nil))

def fieldPt : Pat (Int × Int × Int) where
  view | [.int .u32 w, .int .i64 a, .int .i64 n], _ => some (w, a, n) | _, _ => none
  args x := [.int .u32 x.1, .int .i64 x.2.1, .int .i64 x.2.2]
  H _ := []
  out x := .need (u32 x.1 ∧ i64 x.2.1 ∧ i64 x.2.2) (.retq (.int .u32 (fieldN x.1 x.2.1 x.2.2)))
theorem field_vc : ∀ (w a n : Int), (((0 : Int) ≤ w ∧ w < (4294967296 : Int)) ∧ ((-9223372036854775808 : Int) ≤ a ∧ a < (9223372036854775808 : Int)) ∧ (-9223372036854775808 : Int) ≤ n ∧ n < (9223372036854775808 : Int)) ∧ True → ∀ (v :
  Int), v = (0 : Int) → ((a = a ∧ n = n ∧ True) ∧ True) ∧ (((-9223372036854775808 : Int) ≤ a ∧ a < (9223372036854775808 : Int)) ∧ (-9223372036854775808 : Int) ≤ n ∧ n < (9223372036854775808 : Int)) ∧ ((!decide (fitsP a n))
  = true → ∀ (v : Int), v = (0 : Int) → ((0 : Int) ≤ w ∧ w < (4294967296 : Int)) ∧ ((-9223372036854775808 : Int) ≤ a ∧ a < (9223372036854775808 : Int)) ∧ (-9223372036854775808 : Int) ≤ n ∧ n < (9223372036854775808 : Int) →
  v = fieldN w a n ∧ True ∧ True) ∧ ((!decide (fitsP a n)) = false → (0 : Int) ≤ a ∧ ((n = n ∧ True) ∧ True) ∧ ((1 : Int) ≤ n ∧ n ≤ (32 : Int)) ∧ ∀ (v : Int), v = bits BinOp.and IntKind.u32 (w.fdiv ((2 : Int) ^ min a.toNat
  IntKind.u32.bits)) ((2 : Int) ^ n.toNat - (1 : Int)) → ((0 : Int) ≤ w ∧ w < (4294967296 : Int)) ∧ ((-9223372036854775808 : Int) ≤ a ∧ a < (9223372036854775808 : Int)) ∧ (-9223372036854775808 : Int) ≤ n ∧ n <
  (9223372036854775808 : Int) → v = fieldN w a n ∧ True ∧ True) := by
  simp only [true_and, and_true, eq_self, decide_eq_true_eq, decide_eq_false_iff_not, and_self, Bool.not_eq_true', Bool.not_eq_false']
  rintro w a n ⟨⟨h1, h2⟩, h3, h4⟩ v hv
  refine ⟨⟨h3, h4⟩, fun hf v hv _ => ?_, fun hf => ?_⟩
  · unfold fieldN; rw [if_neg hf]; exact hv
  · obtain ⟨f1, f2, f3, f4⟩ := id hf
    refine ⟨f3, ⟨f1, f2⟩, fun v hv _ => ?_⟩
    unfold fieldN
    rw [if_pos hf, hv]
    obtain ⟨W, rfl⟩ := Int.eq_ofNat_of_zero_le h1
    obtain ⟨A, rfl⟩ := Int.eq_ofNat_of_zero_le f3
    have hA : A < 32 := by omega
    have hq : ((W : Int) / 2 ^ A) = ((W / 2 ^ A : Nat) : Int) := by simp
    have hle : W / 2 ^ A ≤ W := Nat.div_le_self _ _
    rw [Int.toNat_natCast, Int.toNat_natCast, min32 hA, fdiv_pow, hq, and_mask32 n.toNat (by omega) (u32_nat (Nat.lt_of_le_of_lt hle (by omega))), Int.toNat_natCast, field_eq]

def field_C (_ : (Int × Int × Int)) : Cfg := { Γ := Go.Sx.look tBit, names := true }
theorem field_al (x : (Int × Int × Int)) : Shown (fieldPt.vc Tryd.prog (field_C x) Tryd.f18 x) := ⟨@Eq.mp _ _ (by kernel_rfl) (field_vc (x.1) (x.2.1) (x.2.2))⟩
theorem field_ok : SpOk Tryd.prog 18 fieldPt.sp := @Pat.okS _ fieldPt Tryd.prog field_C 18 Tryd.f18 (fun x => cfg_tab rfl tBit_ok) (by kernel_rfl) Tryd.func18 (fun _ => rfl) field_al
def bitFam (_ o i : Nat) (f : Nat → Bool) (m : Nat) (sl : List (Nat × T)) (n : Nat) : Fam where
  α := Nat
  I y := y ≤ m
  st y := { sl := mkSl n (sl ++ [(o, .int .u32 (numOf f y : Nat)), (i, .int .i64 y)]), H := [] }
  μ y := m - y
def putPt : Pat (Int × Int × Int × Int) where
  view | [.int .u32 w, .int .i64 a, .int .i64 n, .int .u32 v], _ => some (w, a, n, v) | _, _ => none
  args x := [.int .u32 x.1, .int .i64 x.2.1, .int .i64 x.2.2.1, .int .u32 x.2.2.2]
  H _ := []
  out x := .need (u32 x.1 ∧ i64 x.2.1 ∧ i64 x.2.2.1 ∧ u32 x.2.2.2) (.retq (.int .u32 (putN x.1 x.2.1 x.2.2.1 x.2.2.2)))
theorem put_vc : ∀ (w a n v : Int), (((0 : Int) ≤ w ∧ w < (4294967296 : Int)) ∧ ((-9223372036854775808 : Int) ≤ a ∧ a < (9223372036854775808 : Int)) ∧ ((-9223372036854775808 : Int) ≤ n ∧ n < (9223372036854775808 : Int)) ∧ (0 : Int) ≤ v ∧
  v < (4294967296 : Int)) ∧ True → ∀ (v_1 : Int), v_1 = (0 : Int) → ((a = a ∧ n = n ∧ True) ∧ True) ∧ (((-9223372036854775808 : Int) ≤ a ∧ a < (9223372036854775808 : Int)) ∧ (-9223372036854775808 : Int) ≤ n ∧ n <
  (9223372036854775808 : Int)) ∧ ((!decide (fitsP a n)) = true → ∀ (v_2 : Int), v_2 = w → ((0 : Int) ≤ w ∧ w < (4294967296 : Int)) ∧ ((-9223372036854775808 : Int) ≤ a ∧ a < (9223372036854775808 : Int)) ∧
  ((-9223372036854775808 : Int) ≤ n ∧ n < (9223372036854775808 : Int)) ∧ (0 : Int) ≤ v ∧ v < (4294967296 : Int) → v_2 = putN w a n v ∧ True ∧ True) ∧ ((!decide (fitsP a n)) = false → ((n = n ∧ True) ∧ True) ∧ ((1 : Int) ≤
  n ∧ n ≤ (32 : Int)) ∧ (0 : Int) ≤ a ∧ ((n = n ∧ True) ∧ True) ∧ ((1 : Int) ≤ n ∧ n ≤ (32 : Int)) ∧ (0 : Int) ≤ a ∧ ∀ (v_2 : Int), v_2 = bits BinOp.or IntKind.u32 (bits BinOp.andNot IntKind.u32 w (IntKind.u32.wrap (((2 :
  Int) ^ n.toNat - (1 : Int)) * (2 : Int) ^ min a.toNat IntKind.u32.bits))) (IntKind.u32.wrap (bits BinOp.and IntKind.u32 v ((2 : Int) ^ n.toNat - (1 : Int)) * (2 : Int) ^ min a.toNat IntKind.u32.bits)) → ((0 : Int) ≤ w ∧
  w < (4294967296 : Int)) ∧ ((-9223372036854775808 : Int) ≤ a ∧ a < (9223372036854775808 : Int)) ∧ ((-9223372036854775808 : Int) ≤ n ∧ n < (9223372036854775808 : Int)) ∧ (0 : Int) ≤ v ∧ v < (4294967296 : Int) → v_2 = putN
  w a n v ∧ True ∧ True) := by
  simp only [true_and, and_true, eq_self, decide_eq_true_eq, decide_eq_false_iff_not, and_self, Bool.not_eq_true', Bool.not_eq_false']
  rintro w a n v ⟨⟨h1, h2⟩, h3, h4, h5, h6⟩ v0 hv0
  refine ⟨⟨h3, h4⟩, fun hf v hv _ => ?_, fun hf => ?_⟩
  · unfold putN; rw [if_neg hf]; exact hv
  · obtain ⟨f1, f2, f3, f4⟩ := id hf
    refine ⟨⟨f1, f2⟩, f3, ⟨f1, f2⟩, f3, fun r hr _ => ?_⟩
    unfold putN
    rw [if_pos hf, hr]
    obtain ⟨W, rfl⟩ := Int.eq_ofNat_of_zero_le h1
    obtain ⟨V, rfl⟩ := Int.eq_ofNat_of_zero_le h5
    rw [min32 (by omega)]
    simp only [Int.toNat_natCast]
    exact put_code (W := W) (V := V) (A := a.toNat) (N := n.toNat) (by omega) (by omega) (by omega)

def put_C (_ : (Int × Int × Int × Int)) : Cfg := { Γ := Go.Sx.look tBit, names := true }
theorem put_al (x : (Int × Int × Int × Int)) : Shown (putPt.vc Tryd.prog (put_C x) Tryd.f31 x) := ⟨@Eq.mp _ _ (by kernel_rfl) (put_vc (x.1) (x.2.1) (x.2.2.1) (x.2.2.2))⟩
theorem put_ok : SpOk Tryd.prog 31 putPt.sp := @Pat.okS _ putPt Tryd.prog put_C 31 Tryd.f31 (fun x => cfg_tab rfl tBit_ok) (by kernel_rfl) Tryd.func31 (fun _ => rfl) put_al
def extPt : Pat (Int × Int) where
  view | [.int .u32 v, .int .i64 n], _ => some (v, n) | _, _ => none
  args x := [.int .u32 x.1, .int .i64 x.2]
  H _ := []
  out x := .need (u32 x.1 ∧ i64 x.2) (.retq (.int .u32 (extN x.1 x.2)))
