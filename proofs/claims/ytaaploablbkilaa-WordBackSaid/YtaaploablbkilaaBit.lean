import Derived.Test.YtaaploablbkilaaSxRow
import Derived.Test.YtaaploablbkilaaMBits
import Derived.Test.YtaaploablbkilaaProg
open Go Go.Sx Go.Proofs
set_option maxRecDepth 100000
namespace Go.Proofs.Ytaaploablbkilaa

def fitsPt : Pat (Int × Int) where
  view | [.int .i64 a, .int .i64 n], _ => some (a, n) | _, _ => none
  args x := [.int .i64 x.1, .int .i64 x.2]
  H _ := []
  out x := .need (i64 x.1 ∧ i64 x.2) (.retq (.bool (decide (fitsP x.1 x.2))))
theorem fits_vc : ∀ (a n : Int),
    (((-9223372036854775808 : Int) ≤ a ∧ a < (9223372036854775808 : Int)) ∧ (-9223372036854775808 : Int) ≤ n ∧ n < (9223372036854775808 : Int)) ∧ True →
      (decide (n ≥ (1 : Int)) = true →
          (decide (n ≤ (32 : Int)) = true →
              (decide (a ≥ (0 : Int)) = true →
                  ((-9223372036854775808 : Int) ≤ a ∧ a < (9223372036854775808 : Int)) ∧ (-9223372036854775808 : Int) ≤ n ∧ n < (9223372036854775808 : Int) →
                    decide (a ≤ IntKind.i64.wrap ((32 : Int) - n)) = decide (fitsP a n) ∧ True ∧ True) ∧
                (decide (a ≥ (0 : Int)) = false →
                  ((-9223372036854775808 : Int) ≤ a ∧ a < (9223372036854775808 : Int)) ∧ (-9223372036854775808 : Int) ≤ n ∧ n < (9223372036854775808 : Int) →
                    decide (fitsP a n) = false ∧ True ∧ True)) ∧
            (decide (n ≤ (32 : Int)) = false →
              ((-9223372036854775808 : Int) ≤ a ∧ a < (9223372036854775808 : Int)) ∧ (-9223372036854775808 : Int) ≤ n ∧ n < (9223372036854775808 : Int) →
                decide (fitsP a n) = false ∧ True ∧ True)) ∧
        (decide (n ≥ (1 : Int)) = false →
          ((-9223372036854775808 : Int) ≤ a ∧ a < (9223372036854775808 : Int)) ∧ (-9223372036854775808 : Int) ≤ n ∧ n < (9223372036854775808 : Int) →
            decide (fitsP a n) = false ∧ True ∧ True) := by
  simp only [and_true, decide_eq_true_eq, decide_eq_false_iff_not, and_self, Int.not_le, ge_iff_le, IntKind.wrap_i64]
  rintro a n ⟨⟨h1, h2⟩, h3, h4⟩
  unfold fitsP
  try dsimp only
  repeat' (with_reducible first | assumption | apply And.intro | intro _)
  all_goals (try simp only [cond_dec, decide_eq_decide] at *)
  all_goals (first | omega | ((repeat' (first | omega | split)) <;> (try dsimp only) <;> (try (first | omega | contradiction | (subst_vars; first | rfl | omega) | (simp_all; done) | (simp_all; omega)))))

def fits_C (_ : (Int × Int)) : Cfg := { Γ := Go.Sx.look [], names := true }
theorem fits_al (x : (Int × Int)) : Shown (fitsPt.vc Try.prog (fits_C x) Try.f32 x) := ⟨@Eq.mp _ _ (by kernel_rfl) (fits_vc (x.1) (x.2))⟩
theorem fits_ok : SpOk Try.prog 32 fitsPt.sp := @Pat.okS _ fitsPt Try.prog fits_C 32 Try.f32 (fun x => cfg_nil rfl) (by kernel_rfl) Try.func32 (fun _ => rfl) fits_al
theorem rfits_vc : ∀ (a n : Int),
    (((-9223372036854775808 : Int) ≤ a ∧ a < (9223372036854775808 : Int)) ∧ (-9223372036854775808 : Int) ≤ n ∧ n < (9223372036854775808 : Int)) ∧ True →
      (decide (n ≥ (1 : Int)) = true →
          (decide (n ≤ (32 : Int)) = true →
              (decide (a ≥ (0 : Int)) = true →
                  ((-9223372036854775808 : Int) ≤ a ∧ a < (9223372036854775808 : Int)) ∧ (-9223372036854775808 : Int) ≤ n ∧ n < (9223372036854775808 : Int) →
                    decide (a ≤ IntKind.i64.wrap ((32 : Int) - n)) = decide (fitsP a n) ∧ True ∧ True) ∧
                (decide (a ≥ (0 : Int)) = false →
                  ((-9223372036854775808 : Int) ≤ a ∧ a < (9223372036854775808 : Int)) ∧ (-9223372036854775808 : Int) ≤ n ∧ n < (9223372036854775808 : Int) →
                    decide (fitsP a n) = false ∧ True ∧ True)) ∧
            (decide (n ≤ (32 : Int)) = false →
              ((-9223372036854775808 : Int) ≤ a ∧ a < (9223372036854775808 : Int)) ∧ (-9223372036854775808 : Int) ≤ n ∧ n < (9223372036854775808 : Int) →
                decide (fitsP a n) = false ∧ True ∧ True)) ∧
        (decide (n ≥ (1 : Int)) = false →
          ((-9223372036854775808 : Int) ≤ a ∧ a < (9223372036854775808 : Int)) ∧ (-9223372036854775808 : Int) ≤ n ∧ n < (9223372036854775808 : Int) →
            decide (fitsP a n) = false ∧ True ∧ True) := by
  simp only [and_true, decide_eq_true_eq, decide_eq_false_iff_not, and_self, Int.not_le, ge_iff_le, IntKind.wrap_i64]
  rintro a n ⟨⟨h1, h2⟩, h3, h4⟩
  unfold fitsP
  try dsimp only
  repeat' (with_reducible first | assumption | apply And.intro | intro _)
  all_goals (try simp only [cond_dec, decide_eq_decide] at *)
  all_goals (first | omega | ((repeat' (first | omega | split)) <;> (try dsimp only) <;> (try (first | omega | contradiction | (subst_vars; first | rfl | omega) | (simp_all; done) | (simp_all; omega)))))

def rfits_C (_ : (Int × Int)) : Cfg := { Γ := Go.Sx.look [], names := true }
theorem rfits_al (x : (Int × Int)) : Shown (fitsPt.vc Try.prog (rfits_C x) Try.f34 x) := ⟨@Eq.mp _ _ (by kernel_rfl) (rfits_vc (x.1) (x.2))⟩
theorem rfits_ok : SpOk Try.prog 34 fitsPt.sp := @Pat.okS _ fitsPt Try.prog rfits_C 34 Try.f34 (fun x => cfg_nil rfl) (by kernel_rfl) Try.func34 (fun _ => rfl) rfits_al
def maskPt : Pat Int where
  view | [.int .i64 n], _ => some n | _, _ => none
  args n := [.int .i64 n]
  H _ := []
  out n := .need (1 ≤ n ∧ n ≤ 32) (.retq (.int .u32 (2 ^ n.toNat - 1)))
theorem mask_vc : ∀ (n : Int),
    ((1 : Int) ≤ n ∧ n ≤ (32 : Int)) ∧ True →
      ∀ (v : Int),
        v = (0 : Int) →
          (0 : Int) ≤ IntKind.i64.wrap ((32 : Int) - n) ∧
            ∀ (v : Int),
              v = Int.fdiv (4294967295 : Int) ((2 : Int) ^ min (IntKind.i64.wrap ((32 : Int) - n)).toNat IntKind.u32.bits) →
                (1 : Int) ≤ n ∧ n ≤ (32 : Int) → v = (2 : Int) ^ n.toNat - (1 : Int) ∧ True ∧ True := by
  simp only [and_true, and_self, IntKind.wrap_i64]
  rintro n ⟨h1, h2⟩ v hv
  have e : (32 - n + 9223372036854775808) % 18446744073709551616 - 9223372036854775808 = 32 - n := by omega
  rw [e]
  refine ⟨by omega, fun v hv _ => ?_⟩
  rw [hv, min32' (by omega), fdiv_pow, show (32 - n).toNat = 32 - n.toNat by omega]
  exact ones32 n.toNat (by omega)

def mask_C (_ : Int) : Cfg := { Γ := Go.Sx.look [], names := true }
theorem mask_al (x : Int) : Shown (maskPt.vc Try.prog (mask_C x) Try.f33 x) := ⟨@Eq.mp _ _ (by kernel_rfl) (mask_vc x)⟩
theorem mask_ok : SpOk Try.prog 33 maskPt.sp := @Pat.okS _ maskPt Try.prog mask_C 33 Try.f33 (fun x => cfg_nil rfl) (by kernel_rfl) Try.func33 (fun _ => rfl) mask_al
def bitPt : Pat (Int × Int) where
  view | [.int .u32 w, .int .i64 i], _ => some (w, i) | _, _ => none
  args x := [.int .u32 x.1, .int .i64 x.2]
  H _ := []
  out x := .need (u32 x.1 ∧ 0 ≤ x.2 ∧ x.2 < 32) (.retq (.int .u32 (if x.1.toNat.testBit x.2.toNat then 1 else 0)))
theorem rbit_vc : ∀ (w i : Int),
    (((0 : Int) ≤ w ∧ w < (4294967296 : Int)) ∧ (0 : Int) ≤ i ∧ i < (32 : Int)) ∧ True →
      ∀ (v : Int),
        v = (0 : Int) →
          (0 : Int) ≤ IntKind.u64.wrap i ∧
            ∀ (v : Int),
              v = bits BinOp.and IntKind.u32 (w.fdiv ((2 : Int) ^ min (IntKind.u64.wrap i).toNat IntKind.u32.bits)) (1 : Int) →
                ((0 : Int) ≤ w ∧ w < (4294967296 : Int)) ∧ (0 : Int) ≤ i ∧ i < (32 : Int) → (v = if w.toNat.testBit i.toNat = true then (1 : Int) else (0 : Int)) ∧ True ∧ True := by
  simp only [and_true, and_self, IntKind.wrap_u64]
  rintro w i ⟨⟨h1, h2⟩, h3, h4⟩ v hv
  have e : i % 18446744073709551616 = i := by omega
  rw [e]
  refine ⟨h3, fun v hv _ => ?_⟩
  obtain ⟨W, rfl⟩ := Int.eq_ofNat_of_zero_le h1
  obtain ⟨I, rfl⟩ := Int.eq_ofNat_of_zero_le h3
  have hI : I < 32 := by omega
  have hq : ((W : Int) / 2 ^ I) = ((W / 2 ^ I : Nat) : Int) := by simp
  have hle : W / 2 ^ I ≤ W := Nat.div_le_self _ _
  have h := and_mask32 1 (by decide) (x := ((W / 2 ^ I : Nat) : Int)) (u32_nat (Nat.lt_of_le_of_lt hle (by omega)))
  rw [hv, Int.toNat_natCast, Int.toNat_natCast, min32 hI, fdiv_pow, hq]
  rw [show (2 : Int) ^ 1 - 1 = 1 from rfl] at h
  rw [h, Int.toNat_natCast, ← bitI W I, hq]
  simp

def rbit_C (_ : (Int × Int)) : Cfg := { Γ := Go.Sx.look [], names := true }
theorem rbit_al (x : (Int × Int)) : Shown (bitPt.vc Try.prog (rbit_C x) Try.f35 x) := ⟨@Eq.mp _ _ (by kernel_rfl) (rbit_vc (x.1) (x.2))⟩
theorem rbit_ok : SpOk Try.prog 35 bitPt.sp := @Pat.okS _ bitPt Try.prog rbit_C 35 Try.f35 (fun x => cfg_nil rfl) (by kernel_rfl) Try.func35 (fun _ => rfl) rbit_al
def tBit : Tab := [(32, fitsPt.sp), (34, fitsPt.sp), (33, maskPt.sp), (35, bitPt.sp)]
theorem tBit_ok : TabOk Try.prog tBit := (tab_cons fits_ok (tab_cons rfits_ok (tab_cons mask_ok (tab_cons rbit_ok tab_nil))))

def fieldPt : Pat (Int × Int × Int) where
  view | [.int .u32 w, .int .i64 a, .int .i64 n], _ => some (w, a, n) | _, _ => none
  args x := [.int .u32 x.1, .int .i64 x.2.1, .int .i64 x.2.2]
  H _ := []
  out x := .need (u32 x.1 ∧ i64 x.2.1 ∧ i64 x.2.2) (.retq (.int .u32 (fieldN x.1 x.2.1 x.2.2)))
theorem field_vc : ∀ (w a n : Int),
    (((0 : Int) ≤ w ∧ w < (4294967296 : Int)) ∧
          ((-9223372036854775808 : Int) ≤ a ∧ a < (9223372036854775808 : Int)) ∧ (-9223372036854775808 : Int) ≤ n ∧ n < (9223372036854775808 : Int)) ∧
        True →
      ∀ (v : Int),
        v = (0 : Int) →
          ((a = a ∧ n = n ∧ True) ∧ True) ∧
            (((-9223372036854775808 : Int) ≤ a ∧ a < (9223372036854775808 : Int)) ∧ (-9223372036854775808 : Int) ≤ n ∧ n < (9223372036854775808 : Int)) ∧
              ((!decide (fitsP a n)) = true →
                  ∀ (v : Int),
                    v = (0 : Int) →
                      ((0 : Int) ≤ w ∧ w < (4294967296 : Int)) ∧
                          ((-9223372036854775808 : Int) ≤ a ∧ a < (9223372036854775808 : Int)) ∧ (-9223372036854775808 : Int) ≤ n ∧ n < (9223372036854775808 : Int) →
                        v = fieldN w a n ∧ True ∧ True) ∧
                ((!decide (fitsP a n)) = false →
                  (0 : Int) ≤ a ∧
                    ((n = n ∧ True) ∧ True) ∧
                      ((1 : Int) ≤ n ∧ n ≤ (32 : Int)) ∧
                        ∀ (v : Int),
                          v = bits BinOp.and IntKind.u32 (w.fdiv ((2 : Int) ^ min a.toNat IntKind.u32.bits)) ((2 : Int) ^ n.toNat - (1 : Int)) →
                            ((0 : Int) ≤ w ∧ w < (4294967296 : Int)) ∧
                                ((-9223372036854775808 : Int) ≤ a ∧ a < (9223372036854775808 : Int)) ∧ (-9223372036854775808 : Int) ≤ n ∧ n < (9223372036854775808 : Int) →
                              v = fieldN w a n ∧ True ∧ True) := by
  simp only [true_and, and_true, eq_self, decide_eq_true_eq, decide_eq_false_iff_not, and_self, Bool.not_eq_true', Bool.not_eq_false']
  rintro w a n ⟨⟨h1, h2⟩, h3, h4⟩ v hv
  refine ⟨⟨h3, h4⟩, fun hf v hv _ => ?_, fun hf => ?_⟩
  · unfold fieldN; rw [if_neg hf]; exact hv
  · obtain ⟨f1, f2, f3, f4⟩ := id hf
    refine ⟨f3, ⟨f1, f2⟩, fun v hv _ => ?_⟩
    unfold fieldN
    rw [if_pos hf, hv]
    obtain ⟨W, rfl⟩ := Int.eq_ofNat_of_zero_le h1
    obtain ⟨A, rfl⟩ := Int.eq_ofNat_of_zero_le f3
    have hA : A < 32 := by omega
    have hq : ((W : Int) / 2 ^ A) = ((W / 2 ^ A : Nat) : Int) := by simp
    have hle : W / 2 ^ A ≤ W := Nat.div_le_self _ _
    rw [Int.toNat_natCast, Int.toNat_natCast, min32 hA, fdiv_pow, hq, and_mask32 n.toNat (by omega) (u32_nat (Nat.lt_of_le_of_lt hle (by omega))), Int.toNat_natCast, field_eq]

def field_C (_ : (Int × Int × Int)) : Cfg := { Γ := Go.Sx.look tBit, names := true }
theorem field_al (x : (Int × Int × Int)) : Shown (fieldPt.vc Try.prog (field_C x) Try.f10 x) := ⟨@Eq.mp _ _ (by kernel_rfl) (field_vc (x.1) (x.2.1) (x.2.2))⟩
theorem field_ok : SpOk Try.prog 10 fieldPt.sp := @Pat.okS _ fieldPt Try.prog field_C 10 Try.f10 (fun x => cfg_tab rfl tBit_ok) (by kernel_rfl) Try.func10 (fun _ => rfl) field_al
def bitFam (_ o i : Nat) (f : Nat → Bool) (m : Nat) (sl : List (Nat × T)) (n : Nat) : Fam where
  α := Nat
  I y := y ≤ m
  st y := { sl := mkSl n (sl ++ [(o, .int .u32 (numOf f y : Nat)), (i, .int .i64 y)]), H := [] }
  μ y := m - y
theorem rfield_vc : ∀ (w a n : Int),
    (((0 : Int) ≤ w ∧ w < (4294967296 : Int)) ∧
          ((-9223372036854775808 : Int) ≤ a ∧ a < (9223372036854775808 : Int)) ∧ (-9223372036854775808 : Int) ≤ n ∧ n < (9223372036854775808 : Int)) ∧
        True →
      ∀ (v : Int),
        v = (0 : Int) →
          ((a = a ∧ n = n ∧ True) ∧ True) ∧
            (((-9223372036854775808 : Int) ≤ a ∧ a < (9223372036854775808 : Int)) ∧ (-9223372036854775808 : Int) ≤ n ∧ n < (9223372036854775808 : Int)) ∧
              ((!decide (fitsP a n)) = true →
                  ∀ (v : Int),
                    v = (0 : Int) →
                      ((0 : Int) ≤ w ∧ w < (4294967296 : Int)) ∧
                          ((-9223372036854775808 : Int) ≤ a ∧ a < (9223372036854775808 : Int)) ∧ (-9223372036854775808 : Int) ≤ n ∧ n < (9223372036854775808 : Int) →
                        v = fieldN w a n ∧ True ∧ True) ∧
                ((!decide (fitsP a n)) = false →
                  ∀ (v : Int),
                    v = (0 : Int) →
                      ∀ (v_1 : Int),
                        v_1 = (0 : Int) →
                          (∃ (y : Nat),
                              (bitFam (0 : Nat) (7 : Nat) (8 : Nat) (fieldF w.toNat a.toNat) n.toNat
                                      [((0 : Nat), T.int IntKind.u32 w), ((1 : Nat), T.int IntKind.i64 a), ((2 : Nat), T.int IntKind.i64 n)] (29 : Nat)).I
                                  y ∧
                                ((w = w ∧ a = a ∧ n = n ∧ v = (↑(numOf (fieldF w.toNat a.toNat) y) : Int) ∧ v_1 = (↑y : Int) ∧ True) ∧ True) ∧ True) ∧
                            ∀ (y : Nat),
                              (bitFam (0 : Nat) (7 : Nat) (8 : Nat) (fieldF w.toNat a.toNat) n.toNat
                                      [((0 : Nat), T.int IntKind.u32 w), ((1 : Nat), T.int IntKind.i64 a), ((2 : Nat), T.int IntKind.i64 n)] (29 : Nat)).I
                                  y →
                                (decide ((↑y : Int) < n) = true →
                                    ((w = w ∧ IntKind.i64.wrap (a + (↑y : Int)) = IntKind.i64.wrap (a + (↑y : Int)) ∧ True) ∧ True) ∧
                                      (((0 : Int) ≤ w ∧ w < (4294967296 : Int)) ∧ (0 : Int) ≤ IntKind.i64.wrap (a + (↑y : Int)) ∧ IntKind.i64.wrap (a + (↑y : Int)) < (32 : Int)) ∧
                                        (0 : Int) ≤ IntKind.u64.wrap (↑y : Int) ∧
                                          ∀ (v : Int),
                                            v =
                                                bits BinOp.or IntKind.u32 (↑(numOf (fieldF w.toNat a.toNat) y) : Int)
                                                  (IntKind.u32.wrap
                                                    ((if w.toNat.testBit (IntKind.i64.wrap (a + (↑y : Int))).toNat = true then (1 : Int) else (0 : Int)) *
                                                      (2 : Int) ^ min (IntKind.u64.wrap (↑y : Int)).toNat IntKind.u32.bits)) →
                                              ∀ (v_2 : Int),
                                                v_2 = IntKind.i64.wrap ((↑y : Int) + (1 : Int)) →
                                                  ∃ (y_1 : Nat),
                                                    (bitFam (0 : Nat) (7 : Nat) (8 : Nat) (fieldF w.toNat a.toNat) n.toNat
                                                            [((0 : Nat), T.int IntKind.u32 w), ((1 : Nat), T.int IntKind.i64 a), ((2 : Nat), T.int IntKind.i64 n)] (29 : Nat)).I
                                                        y_1 ∧
                                                      ((w = w ∧ a = a ∧ n = n ∧ v = (↑(numOf (fieldF w.toNat a.toNat) y_1) : Int) ∧ v_2 = (↑y_1 : Int) ∧ True) ∧ True) ∧
                                                        (bitFam (0 : Nat) (7 : Nat) (8 : Nat) (fieldF w.toNat a.toNat) n.toNat
                                                                [((0 : Nat), T.int IntKind.u32 w), ((1 : Nat), T.int IntKind.i64 a), ((2 : Nat), T.int IntKind.i64 n)] (29 : Nat)).μ
                                                            y_1 <
                                                          (bitFam (0 : Nat) (7 : Nat) (8 : Nat) (fieldF w.toNat a.toNat) n.toNat
                                                                [((0 : Nat), T.int IntKind.u32 w), ((1 : Nat), T.int IntKind.i64 a), ((2 : Nat), T.int IntKind.i64 n)] (29 : Nat)).μ
                                                            y) ∧
                                  (decide ((↑y : Int) < n) = false →
                                    ∀ (v : Int),
                                      v = (↑(numOf (fieldF w.toNat a.toNat) y) : Int) →
                                        ((0 : Int) ≤ w ∧ w < (4294967296 : Int)) ∧
                                            ((-9223372036854775808 : Int) ≤ a ∧ a < (9223372036854775808 : Int)) ∧
                                              (-9223372036854775808 : Int) ≤ n ∧ n < (9223372036854775808 : Int) →
                                          v = fieldN w a n ∧ True ∧ True)) := by
  simp only [true_and, and_true, eq_self, decide_eq_true_eq, decide_eq_false_iff_not, and_self, Int.not_lt, IntKind.wrap_u64, IntKind.wrap_i64, Bool.not_eq_true', Bool.not_eq_false']
  rintro w a n ⟨⟨h1, h2⟩, h3, h4⟩ v hv
  refine ⟨⟨h3, h4⟩, fun hf v hv _ => ?_, fun hf v0 hv0 v1 hv1 => ⟨⟨0, Nat.zero_le _, hv0, hv1⟩, fun y hy => ⟨fun hlt => ?_, fun hge v hv _ => ?_⟩⟩⟩
  · unfold fieldN; rw [if_neg hf]; exact hv
  · obtain ⟨f1, f2, f3, f4⟩ := id hf
    have e1 : (a + y + 9223372036854775808) % 18446744073709551616 - 9223372036854775808 = a + y := by omega
    have e2 : (y : Int) % 18446744073709551616 = y := by omega
    have e3 : (a + y).toNat = a.toNat + y := by omega
    rw [e1, e2, e3, Int.toNat_natCast, min32 (by omega)]
    refine ⟨⟨⟨h1, h2⟩, by omega, by omega⟩, by omega, fun v hv v2 hv2 => ⟨y + 1, ?_, ⟨?_, by omega⟩, ?_⟩⟩
    · show y + 1 ≤ n.toNat
      omega
    · rw [hv]
      exact or_step (by omega) rfl
    · show n.toNat - (y + 1) < n.toNat - y
      omega
  · unfold fieldN
    have hy : y ≤ n.toNat := hy
    obtain ⟨f1, f2, f3, f4⟩ := id hf
    rw [if_pos hf, hv, show y = n.toNat by omega]

def rfield_C (x : (Int × Int × Int)) : Cfg := { Γ := Go.Sx.look tBit, names := true, loops := onlyAt 5 [bitFam 0 7 8 (fieldF (x.1).toNat (x.2.1).toNat) (x.2.2).toNat [(0, .int .u32 (x.1)), (1, .int .i64 (x.2.1)), (2, .int .i64 (x.2.2))] 29] }
theorem rfield_al (x : (Int × Int × Int)) : Shown (fieldPt.vc Try.prog (rfield_C x) Try.f11 x) := ⟨@Eq.mp _ _ (by kernel_rfl) (rfield_vc (x.1) (x.2.1) (x.2.2))⟩
theorem rfield_ok : SpOk Try.prog 11 fieldPt.sp := @Pat.okS _ fieldPt Try.prog rfield_C 11 Try.f11 (fun x => cfg_tab rfl tBit_ok) (by kernel_rfl) Try.func11 (fun _ => rfl) rfield_al
def putPt : Pat (Int × Int × Int × Int) where
  view | [.int .u32 w, .int .i64 a, .int .i64 n, .int .u32 v], _ => some (w, a, n, v) | _, _ => none
  args x := [.int .u32 x.1, .int .i64 x.2.1, .int .i64 x.2.2.1, .int .u32 x.2.2.2]
  H _ := []
  out x := .need (u32 x.1 ∧ i64 x.2.1 ∧ i64 x.2.2.1 ∧ u32 x.2.2.2) (.retq (.int .u32 (putN x.1 x.2.1 x.2.2.1 x.2.2.2)))
theorem put_vc : ∀ (w a n v : Int),
    (((0 : Int) ≤ w ∧ w < (4294967296 : Int)) ∧
          ((-9223372036854775808 : Int) ≤ a ∧ a < (9223372036854775808 : Int)) ∧
            ((-9223372036854775808 : Int) ≤ n ∧ n < (9223372036854775808 : Int)) ∧ (0 : Int) ≤ v ∧ v < (4294967296 : Int)) ∧
        True →
      ∀ (v_1 : Int),
        v_1 = (0 : Int) →
          ((a = a ∧ n = n ∧ True) ∧ True) ∧
            (((-9223372036854775808 : Int) ≤ a ∧ a < (9223372036854775808 : Int)) ∧ (-9223372036854775808 : Int) ≤ n ∧ n < (9223372036854775808 : Int)) ∧
              ((!decide (fitsP a n)) = true →
                  ∀ (v_2 : Int),
                    v_2 = w →
                      ((0 : Int) ≤ w ∧ w < (4294967296 : Int)) ∧
                          ((-9223372036854775808 : Int) ≤ a ∧ a < (9223372036854775808 : Int)) ∧
                            ((-9223372036854775808 : Int) ≤ n ∧ n < (9223372036854775808 : Int)) ∧ (0 : Int) ≤ v ∧ v < (4294967296 : Int) →
                        v_2 = putN w a n v ∧ True ∧ True) ∧
                ((!decide (fitsP a n)) = false →
                  ((n = n ∧ True) ∧ True) ∧
                    ((1 : Int) ≤ n ∧ n ≤ (32 : Int)) ∧
                      (0 : Int) ≤ a ∧
                        ((n = n ∧ True) ∧ True) ∧
                          ((1 : Int) ≤ n ∧ n ≤ (32 : Int)) ∧
                            (0 : Int) ≤ a ∧
                              ∀ (v_2 : Int),
                                v_2 =
                                    bits BinOp.or IntKind.u32
                                      (bits BinOp.andNot IntKind.u32 w (IntKind.u32.wrap (((2 : Int) ^ n.toNat - (1 : Int)) * (2 : Int) ^ min a.toNat IntKind.u32.bits)))
                                      (IntKind.u32.wrap (bits BinOp.and IntKind.u32 v ((2 : Int) ^ n.toNat - (1 : Int)) * (2 : Int) ^ min a.toNat IntKind.u32.bits)) →
                                  ((0 : Int) ≤ w ∧ w < (4294967296 : Int)) ∧
                                      ((-9223372036854775808 : Int) ≤ a ∧ a < (9223372036854775808 : Int)) ∧
                                        ((-9223372036854775808 : Int) ≤ n ∧ n < (9223372036854775808 : Int)) ∧ (0 : Int) ≤ v ∧ v < (4294967296 : Int) →
                                    v_2 = putN w a n v ∧ True ∧ True) := by
  simp only [true_and, and_true, eq_self, decide_eq_true_eq, decide_eq_false_iff_not, and_self, Bool.not_eq_true', Bool.not_eq_false']
  rintro w a n v ⟨⟨h1, h2⟩, h3, h4, h5, h6⟩ v0 hv0
  refine ⟨⟨h3, h4⟩, fun hf v hv _ => ?_, fun hf => ?_⟩
  · unfold putN; rw [if_neg hf]; exact hv
  · obtain ⟨f1, f2, f3, f4⟩ := id hf
    refine ⟨⟨f1, f2⟩, f3, ⟨f1, f2⟩, f3, fun r hr _ => ?_⟩
    unfold putN
    rw [if_pos hf, hr]
    obtain ⟨W, rfl⟩ := Int.eq_ofNat_of_zero_le h1
    obtain ⟨V, rfl⟩ := Int.eq_ofNat_of_zero_le h5
    rw [min32 (by omega)]
    simp only [Int.toNat_natCast]
    exact put_code (W := W) (V := V) (A := a.toNat) (N := n.toNat) (by omega) (by omega) (by omega)

def put_C (_ : (Int × Int × Int × Int)) : Cfg := { Γ := Go.Sx.look tBit, names := true }
theorem put_al (x : (Int × Int × Int × Int)) : Shown (putPt.vc Try.prog (put_C x) Try.f12 x) := ⟨@Eq.mp _ _ (by kernel_rfl) (put_vc (x.1) (x.2.1) (x.2.2.1) (x.2.2.2))⟩
theorem put_ok : SpOk Try.prog 12 putPt.sp := @Pat.okS _ putPt Try.prog put_C 12 Try.f12 (fun x => cfg_tab rfl tBit_ok) (by kernel_rfl) Try.func12 (fun _ => rfl) put_al
theorem rput_vc : ∀ (w a n v : Int),
    (((0 : Int) ≤ w ∧ w < (4294967296 : Int)) ∧
          ((-9223372036854775808 : Int) ≤ a ∧ a < (9223372036854775808 : Int)) ∧
            ((-9223372036854775808 : Int) ≤ n ∧ n < (9223372036854775808 : Int)) ∧ (0 : Int) ≤ v ∧ v < (4294967296 : Int)) ∧
        True →
      ∀ (v_1 : Int),
        v_1 = (0 : Int) →
          ((a = a ∧ n = n ∧ True) ∧ True) ∧
            (((-9223372036854775808 : Int) ≤ a ∧ a < (9223372036854775808 : Int)) ∧ (-9223372036854775808 : Int) ≤ n ∧ n < (9223372036854775808 : Int)) ∧
              ((!decide (fitsP a n)) = true →
                  ∀ (v_2 : Int),
                    v_2 = w →
                      ((0 : Int) ≤ w ∧ w < (4294967296 : Int)) ∧
                          ((-9223372036854775808 : Int) ≤ a ∧ a < (9223372036854775808 : Int)) ∧
                            ((-9223372036854775808 : Int) ≤ n ∧ n < (9223372036854775808 : Int)) ∧ (0 : Int) ≤ v ∧ v < (4294967296 : Int) →
                        v_2 = putN w a n v ∧ True ∧ True) ∧
                ((!decide (fitsP a n)) = false →
                  ∀ (v_2 : Int),
                    v_2 = (0 : Int) →
                      ∀ (v_3 : Int),
                        v_3 = (0 : Int) →
                          (∃ (y : Nat),
                              (bitFam (0 : Nat) (9 : Nat) (10 : Nat) (putF w.toNat a.toNat n.toNat v.toNat) (32 : Nat)
                                      [((0 : Nat), T.int IntKind.u32 w), ((1 : Nat), T.int IntKind.i64 a), ((2 : Nat), T.int IntKind.i64 n), ((3 : Nat), T.int IntKind.u32 v)]
                                      (46 : Nat)).I
                                  y ∧
                                ((w = w ∧ a = a ∧ n = n ∧ v = v ∧ v_2 = (↑(numOf (putF w.toNat a.toNat n.toNat v.toNat) y) : Int) ∧ v_3 = (↑y : Int) ∧ True) ∧ True) ∧ True) ∧
                            ∀ (y : Nat),
                              (bitFam (0 : Nat) (9 : Nat) (10 : Nat) (putF w.toNat a.toNat n.toNat v.toNat) (32 : Nat)
                                      [((0 : Nat), T.int IntKind.u32 w), ((1 : Nat), T.int IntKind.i64 a), ((2 : Nat), T.int IntKind.i64 n), ((3 : Nat), T.int IntKind.u32 v)]
                                      (46 : Nat)).I
                                  y →
                                (decide ((↑y : Int) < (32 : Int)) = true →
                                    ((w = w ∧ (↑y : Int) = (↑y : Int) ∧ True) ∧ True) ∧
                                      (((0 : Int) ≤ w ∧ w < (4294967296 : Int)) ∧ (0 : Int) ≤ (↑y : Int) ∧ (↑y : Int) < (32 : Int)) ∧
                                        ∀ (v_4 : Int),
                                          (v_4 = if w.toNat.testBit (↑y : Int).toNat = true then (1 : Int) else (0 : Int)) →
                                            (decide ((↑y : Int) ≥ a) = true →
                                                (decide ((↑y : Int) < IntKind.i64.wrap (a + n)) = true →
                                                    ((v = v ∧ IntKind.i64.wrap ((↑y : Int) - a) = IntKind.i64.wrap ((↑y : Int) - a) ∧ True) ∧ True) ∧
                                                      (((0 : Int) ≤ v ∧ v < (4294967296 : Int)) ∧
                                                          (0 : Int) ≤ IntKind.i64.wrap ((↑y : Int) - a) ∧ IntKind.i64.wrap ((↑y : Int) - a) < (32 : Int)) ∧
                                                        ∀ (v_5 : Int),
                                                          (v_5 = if v.toNat.testBit (IntKind.i64.wrap ((↑y : Int) - a)).toNat = true then (1 : Int) else (0 : Int)) →
                                                            (0 : Int) ≤ IntKind.u64.wrap (↑y : Int) ∧
                                                              ∀ (v_6 : Int),
                                                                v_6 =
                                                                    bits BinOp.or IntKind.u32 (↑(numOf (putF w.toNat a.toNat n.toNat v.toNat) y) : Int)
                                                                      (IntKind.u32.wrap (v_5 * (2 : Int) ^ min (IntKind.u64.wrap (↑y : Int)).toNat IntKind.u32.bits)) →
                                                                  ∀ (v_7 : Int),
                                                                    v_7 = IntKind.i64.wrap ((↑y : Int) + (1 : Int)) →
                                                                      ∃ (y_1 : Nat),
                                                                        (bitFam (0 : Nat) (9 : Nat) (10 : Nat) (putF w.toNat a.toNat n.toNat v.toNat) (32 : Nat)
                                                                                [((0 : Nat), T.int IntKind.u32 w), ((1 : Nat), T.int IntKind.i64 a), ((2 : Nat), T.int IntKind.i64 n),
                                                                                  ((3 : Nat), T.int IntKind.u32 v)]
                                                                                (46 : Nat)).I
                                                                            y_1 ∧
                                                                          ((w = w ∧
                                                                                a = a ∧
                                                                                  n = n ∧
                                                                                    v = v ∧
                                                                                      v_6 = (↑(numOf (putF w.toNat a.toNat n.toNat v.toNat) y_1) : Int) ∧ v_7 = (↑y_1 : Int) ∧ True) ∧
                                                                              True) ∧
                                                                            (bitFam (0 : Nat) (9 : Nat) (10 : Nat) (putF w.toNat a.toNat n.toNat v.toNat) (32 : Nat)
                                                                                    [((0 : Nat), T.int IntKind.u32 w), ((1 : Nat), T.int IntKind.i64 a),
                                                                                      ((2 : Nat), T.int IntKind.i64 n), ((3 : Nat), T.int IntKind.u32 v)]
                                                                                    (46 : Nat)).μ
                                                                                y_1 <
                                                                              (bitFam (0 : Nat) (9 : Nat) (10 : Nat) (putF w.toNat a.toNat n.toNat v.toNat) (32 : Nat)
                                                                                    [((0 : Nat), T.int IntKind.u32 w), ((1 : Nat), T.int IntKind.i64 a),
                                                                                      ((2 : Nat), T.int IntKind.i64 n), ((3 : Nat), T.int IntKind.u32 v)]
                                                                                    (46 : Nat)).μ
                                                                                y) ∧
                                                  (decide ((↑y : Int) < IntKind.i64.wrap (a + n)) = false →
                                                    (0 : Int) ≤ IntKind.u64.wrap (↑y : Int) ∧
                                                      ∀ (v_5 : Int),
                                                        v_5 =
                                                            bits BinOp.or IntKind.u32 (↑(numOf (putF w.toNat a.toNat n.toNat v.toNat) y) : Int)
                                                              (IntKind.u32.wrap (v_4 * (2 : Int) ^ min (IntKind.u64.wrap (↑y : Int)).toNat IntKind.u32.bits)) →
                                                          ∀ (v_6 : Int),
                                                            v_6 = IntKind.i64.wrap ((↑y : Int) + (1 : Int)) →
                                                              ∃ (y_1 : Nat),
                                                                (bitFam (0 : Nat) (9 : Nat) (10 : Nat) (putF w.toNat a.toNat n.toNat v.toNat) (32 : Nat)
                                                                        [((0 : Nat), T.int IntKind.u32 w), ((1 : Nat), T.int IntKind.i64 a), ((2 : Nat), T.int IntKind.i64 n),
                                                                          ((3 : Nat), T.int IntKind.u32 v)]
                                                                        (46 : Nat)).I
                                                                    y_1 ∧
                                                                  ((w = w ∧
                                                                        a = a ∧
                                                                          n = n ∧
                                                                            v = v ∧ v_5 = (↑(numOf (putF w.toNat a.toNat n.toNat v.toNat) y_1) : Int) ∧ v_6 = (↑y_1 : Int) ∧ True) ∧
                                                                      True) ∧
                                                                    (bitFam (0 : Nat) (9 : Nat) (10 : Nat) (putF w.toNat a.toNat n.toNat v.toNat) (32 : Nat)
                                                                            [((0 : Nat), T.int IntKind.u32 w), ((1 : Nat), T.int IntKind.i64 a), ((2 : Nat), T.int IntKind.i64 n),
                                                                              ((3 : Nat), T.int IntKind.u32 v)]
                                                                            (46 : Nat)).μ
                                                                        y_1 <
                                                                      (bitFam (0 : Nat) (9 : Nat) (10 : Nat) (putF w.toNat a.toNat n.toNat v.toNat) (32 : Nat)
                                                                            [((0 : Nat), T.int IntKind.u32 w), ((1 : Nat), T.int IntKind.i64 a), ((2 : Nat), T.int IntKind.i64 n),
                                                                              ((3 : Nat), T.int IntKind.u32 v)]
                                                                            (46 : Nat)).μ
                                                                        y)) ∧
                                              (decide ((↑y : Int) ≥ a) = false →
                                                (0 : Int) ≤ IntKind.u64.wrap (↑y : Int) ∧
                                                  ∀ (v_5 : Int),
                                                    v_5 =
                                                        bits BinOp.or IntKind.u32 (↑(numOf (putF w.toNat a.toNat n.toNat v.toNat) y) : Int)
                                                          (IntKind.u32.wrap (v_4 * (2 : Int) ^ min (IntKind.u64.wrap (↑y : Int)).toNat IntKind.u32.bits)) →
                                                      ∀ (v_6 : Int),
                                                        v_6 = IntKind.i64.wrap ((↑y : Int) + (1 : Int)) →
                                                          ∃ (y_1 : Nat),
                                                            (bitFam (0 : Nat) (9 : Nat) (10 : Nat) (putF w.toNat a.toNat n.toNat v.toNat) (32 : Nat)
                                                                    [((0 : Nat), T.int IntKind.u32 w), ((1 : Nat), T.int IntKind.i64 a), ((2 : Nat), T.int IntKind.i64 n),
                                                                      ((3 : Nat), T.int IntKind.u32 v)]
                                                                    (46 : Nat)).I
                                                                y_1 ∧
                                                              ((w = w ∧
                                                                    a = a ∧
                                                                      n = n ∧ v = v ∧ v_5 = (↑(numOf (putF w.toNat a.toNat n.toNat v.toNat) y_1) : Int) ∧ v_6 = (↑y_1 : Int) ∧ True) ∧
                                                                  True) ∧
                                                                (bitFam (0 : Nat) (9 : Nat) (10 : Nat) (putF w.toNat a.toNat n.toNat v.toNat) (32 : Nat)
                                                                        [((0 : Nat), T.int IntKind.u32 w), ((1 : Nat), T.int IntKind.i64 a), ((2 : Nat), T.int IntKind.i64 n),
                                                                          ((3 : Nat), T.int IntKind.u32 v)]
                                                                        (46 : Nat)).μ
                                                                    y_1 <
                                                                  (bitFam (0 : Nat) (9 : Nat) (10 : Nat) (putF w.toNat a.toNat n.toNat v.toNat) (32 : Nat)
                                                                        [((0 : Nat), T.int IntKind.u32 w), ((1 : Nat), T.int IntKind.i64 a), ((2 : Nat), T.int IntKind.i64 n),
                                                                          ((3 : Nat), T.int IntKind.u32 v)]
                                                                        (46 : Nat)).μ
                                                                    y)) ∧
                                  (decide ((↑y : Int) < (32 : Int)) = false →
                                    ∀ (v_4 : Int),
                                      v_4 = (↑(numOf (putF w.toNat a.toNat n.toNat v.toNat) y) : Int) →
                                        ((0 : Int) ≤ w ∧ w < (4294967296 : Int)) ∧
                                            ((-9223372036854775808 : Int) ≤ a ∧ a < (9223372036854775808 : Int)) ∧
                                              ((-9223372036854775808 : Int) ≤ n ∧ n < (9223372036854775808 : Int)) ∧ (0 : Int) ≤ v ∧ v < (4294967296 : Int) →
                                          v_4 = putN w a n v ∧ True ∧ True)) := by
  simp only [true_and, and_true, eq_self, decide_eq_true_eq, decide_eq_false_iff_not, and_self, Int.not_lt, Int.not_le, ge_iff_le, Int.toNat_natCast, IntKind.wrap_u64, IntKind.wrap_i64, Bool.not_eq_true', Bool.not_eq_false']
  rintro w a n v ⟨⟨h1, h2⟩, h3, h4, h5, h6⟩ v0 hv0
  refine ⟨⟨h3, h4⟩, fun hf v hv _ => ?_, fun hf v0 hv0 v1 hv1 => ⟨⟨0, Nat.zero_le _, hv0, hv1⟩, fun y hy => ⟨fun hlt => ?_, fun hge v hv _ => ?_⟩⟩⟩
  · unfold putN; rw [if_neg hf]; exact hv
  · obtain ⟨f1, f2, f3, f4⟩ := id hf
    have e1 : (y - a + 9223372036854775808) % 18446744073709551616 - 9223372036854775808 = y - a := by omega
    have e2 : (y : Int) % 18446744073709551616 = y := by omega
    have e4 : (a + n + 9223372036854775808) % 18446744073709551616 - 9223372036854775808 = a + n := by omega
    have hI : ∀ z : Nat, (bitFam 0 9 10 (putF w.toNat a.toNat n.toNat v.toNat) 32 [(0, .int .u32 w), (1, .int .i64 a), (2, .int .i64 n), (3, .int .u32 v)] 46).I z = (z ≤ 32) := fun _ => rfl
    have hM : ∀ z : Nat, (bitFam 0 9 10 (putF w.toNat a.toNat n.toNat v.toNat) 32 [(0, .int .u32 w), (1, .int .i64 a), (2, .int .i64 n), (3, .int .u32 v)] 46).μ z = 32 - z := fun _ => rfl
    rw [e1, e2, e4]
    simp only [Int.toNat_natCast, min32 (show y < 32 by omega), hI, hM]
    refine ⟨⟨⟨h1, h2⟩, by omega, by omega⟩, fun b hb => ⟨fun hay => ⟨fun hyn => ⟨⟨⟨h5, h6⟩, by omega, by omega⟩, fun c hc => ⟨by omega, fun r hr s hs => ⟨y + 1, by omega, ⟨?_, by omega⟩, by omega⟩⟩⟩, fun hyn => ⟨by omega, fun r hr s hs => ⟨y + 1, by omega, ⟨?_, by omega⟩, by omega⟩⟩⟩, fun hay => ⟨by omega, fun r hr s hs => ⟨y + 1, by omega, ⟨?_, by omega⟩, by omega⟩⟩⟩⟩
    · rw [hr, hc]
      refine or_step (by omega) ?_
      unfold putF
      rw [if_pos (by omega), show (y - a).toNat = y - a.toNat by omega]
    · rw [hr, hb]
      refine or_step (by omega) ?_
      unfold putF
      rw [if_neg (by omega)]
    · rw [hr, hb]
      refine or_step (by omega) ?_
      unfold putF
      rw [if_neg (by omega)]
  · unfold putN
    have hy : y ≤ 32 := hy
    obtain ⟨f1, f2, f3, f4⟩ := id hf
    rw [if_pos hf, hv, show y = 32 by omega]

def rput_C (x : (Int × Int × Int × Int)) : Cfg := { Γ := Go.Sx.look tBit, names := true, loops := onlyAt 5 [bitFam 0 9 10 (putF (x.1).toNat (x.2.1).toNat (x.2.2.1).toNat (x.2.2.2).toNat) 32 [(0, .int .u32 (x.1)), (1, .int .i64 (x.2.1)), (2, .int .i64 (x.2.2.1)), (3, .int .u32 (x.2.2.2))] 46] }
theorem rput_al (x : (Int × Int × Int × Int)) : Shown (putPt.vc Try.prog (rput_C x) Try.f13 x) := ⟨@Eq.mp _ _ (by kernel_rfl) (rput_vc (x.1) (x.2.1) (x.2.2.1) (x.2.2.2))⟩
theorem rput_ok : SpOk Try.prog 13 putPt.sp := @Pat.okS _ putPt Try.prog rput_C 13 Try.f13 (fun x => cfg_tab rfl tBit_ok) (by kernel_rfl) Try.func13 (fun _ => rfl) rput_al
def extPt : Pat (Int × Int) where
  view | [.int .u32 v, .int .i64 n], _ => some (v, n) | _, _ => none
  args x := [.int .u32 x.1, .int .i64 x.2]
  H _ := []
  out x := .need (u32 x.1 ∧ i64 x.2) (.retq (.int .u32 (extN x.1 x.2)))
theorem ext_vc : ∀ (v n : Int),
    (((0 : Int) ≤ v ∧ v < (4294967296 : Int)) ∧ (-9223372036854775808 : Int) ≤ n ∧ n < (9223372036854775808 : Int)) ∧ True →
      ∀ (v_1 : Int),
        v_1 = (0 : Int) →
          (((0 : Int) = (0 : Int) ∧ n = n ∧ True) ∧ True) ∧
            (((-9223372036854775808 : Int) ≤ (0 : Int) ∧ (0 : Int) < (9223372036854775808 : Int)) ∧ (-9223372036854775808 : Int) ≤ n ∧ n < (9223372036854775808 : Int)) ∧
              ((!decide (fitsP (0 : Int) n)) = true →
                  ∀ (v_2 : Int),
                    v_2 = (0 : Int) → ((0 : Int) ≤ v ∧ v < (4294967296 : Int)) ∧ (-9223372036854775808 : Int) ≤ n ∧ n < (9223372036854775808 : Int) → v_2 = extN v n ∧ True ∧ True) ∧
                ((!decide (fitsP (0 : Int) n)) = false →
                  ∀ (v_2 : Int),
                    v_2 = IntKind.i64.wrap ((32 : Int) - n) →
                      (0 : Int) ≤ v_2 ∧
                        (0 : Int) ≤ v_2 ∧
                          ∀ (v_3 : Int),
                            v_3 =
                                IntKind.u32.wrap
                                  ((IntKind.i32.wrap (IntKind.u32.wrap (v * (2 : Int) ^ min v_2.toNat IntKind.u32.bits))).fdiv ((2 : Int) ^ min v_2.toNat IntKind.i32.bits)) →
                              ((0 : Int) ≤ v ∧ v < (4294967296 : Int)) ∧ (-9223372036854775808 : Int) ≤ n ∧ n < (9223372036854775808 : Int) → v_3 = extN v n ∧ True ∧ True) := by
  simp only [true_and, and_true, eq_self, decide_eq_true_eq, decide_eq_false_iff_not, and_self, IntKind.wrap_i64, Bool.not_eq_true', Bool.not_eq_false']
  rintro v n ⟨⟨h1, h2⟩, h3⟩ v0 hv0
  refine ⟨⟨by omega, h3⟩, fun hf v hv _ => ?_, fun hf r hr => ?_⟩
  · have : ¬ (1 ≤ n ∧ n ≤ 32) := fun h => hf ⟨h.1, h.2, by omega, by omega⟩
    unfold extN; rw [if_neg this]; exact hv
  · obtain ⟨f1, f2, f3, f4⟩ := id hf
    have e : r = 32 - n := by omega
    subst e
    refine ⟨by omega, by omega, fun q hq _ => ?_⟩
    unfold extN
    rw [if_pos ⟨f1, f2⟩, hq]
    obtain ⟨V, rfl⟩ := Int.eq_ofNat_of_zero_le h1
    have e1 : (32 - n).toNat = 32 - n.toNat := by omega
    have e2 : min (32 - n.toNat) IntKind.i32.bits = 32 - n.toNat := Nat.min_eq_left (show 32 - n.toNat ≤ 32 by omega)
    rw [e1, min32' (by omega), e2, Int.toNat_natCast]
    exact ext_code (by omega) (by omega)

def ext_C (_ : (Int × Int)) : Cfg := { Γ := Go.Sx.look tBit, names := true }
theorem ext_al (x : (Int × Int)) : Shown (extPt.vc Try.prog (ext_C x) Try.f14 x) := ⟨@Eq.mp _ _ (by kernel_rfl) (ext_vc (x.1) (x.2))⟩
theorem ext_ok : SpOk Try.prog 14 extPt.sp := @Pat.okS _ extPt Try.prog ext_C 14 Try.f14 (fun x => cfg_tab rfl tBit_ok) (by kernel_rfl) Try.func14 (fun _ => rfl) ext_al
theorem rext_vc : ∀ (v n : Int),
    (((0 : Int) ≤ v ∧ v < (4294967296 : Int)) ∧ (-9223372036854775808 : Int) ≤ n ∧ n < (9223372036854775808 : Int)) ∧ True →
      ∀ (v_1 : Int),
        v_1 = (0 : Int) →
          (decide (n < (1 : Int)) = true →
              ∀ (v_2 : Int),
                v_2 = (0 : Int) → ((0 : Int) ≤ v ∧ v < (4294967296 : Int)) ∧ (-9223372036854775808 : Int) ≤ n ∧ n < (9223372036854775808 : Int) → v_2 = extN v n ∧ True ∧ True) ∧
            (decide (n < (1 : Int)) = false →
              (decide (n > (32 : Int)) = true →
                  ∀ (v_2 : Int),
                    v_2 = (0 : Int) → ((0 : Int) ≤ v ∧ v < (4294967296 : Int)) ∧ (-9223372036854775808 : Int) ≤ n ∧ n < (9223372036854775808 : Int) → v_2 = extN v n ∧ True ∧ True) ∧
                (decide (n > (32 : Int)) = false →
                  ∀ (v_2 : Int),
                    v_2 = (0 : Int) →
                      ∀ (v_3 : Int),
                        v_3 = (0 : Int) →
                          (∃ (y : Nat),
                              (bitFam (0 : Nat) (5 : Nat) (6 : Nat) (extF v.toNat n.toNat) (32 : Nat) [((0 : Nat), T.int IntKind.u32 v), ((1 : Nat), T.int IntKind.i64 n)]
                                      (29 : Nat)).I
                                  y ∧
                                ((v = v ∧ n = n ∧ v_2 = (↑(numOf (extF v.toNat n.toNat) y) : Int) ∧ v_3 = (↑y : Int) ∧ True) ∧ True) ∧ True) ∧
                            ∀ (y : Nat),
                              (bitFam (0 : Nat) (5 : Nat) (6 : Nat) (extF v.toNat n.toNat) (32 : Nat) [((0 : Nat), T.int IntKind.u32 v), ((1 : Nat), T.int IntKind.i64 n)]
                                      (29 : Nat)).I
                                  y →
                                (decide ((↑y : Int) < (32 : Int)) = true →
                                    ((v = v ∧
                                          ((if IntKind.i64.wrap (n - (1 : Int)) < (↑y : Int) then IntKind.i64.wrap (n - (1 : Int)) else (↑y : Int)) =
                                              if IntKind.i64.wrap (n - (1 : Int)) < (↑y : Int) then IntKind.i64.wrap (n - (1 : Int)) else (↑y : Int)) ∧
                                            True) ∧
                                        True) ∧
                                      (((0 : Int) ≤ v ∧ v < (4294967296 : Int)) ∧
                                          ((0 : Int) ≤ if IntKind.i64.wrap (n - (1 : Int)) < (↑y : Int) then IntKind.i64.wrap (n - (1 : Int)) else (↑y : Int)) ∧
                                            (if IntKind.i64.wrap (n - (1 : Int)) < (↑y : Int) then IntKind.i64.wrap (n - (1 : Int)) else (↑y : Int)) < (32 : Int)) ∧
                                        (0 : Int) ≤ IntKind.u64.wrap (↑y : Int) ∧
                                          ∀ (v_4 : Int),
                                            v_4 =
                                                bits BinOp.or IntKind.u32 (↑(numOf (extF v.toNat n.toNat) y) : Int)
                                                  (IntKind.u32.wrap
                                                    ((if
                                                          v.toNat.testBit
                                                              (if IntKind.i64.wrap (n - (1 : Int)) < (↑y : Int) then IntKind.i64.wrap (n - (1 : Int)) else (↑y : Int)).toNat =
                                                            true then
                                                        (1 : Int)
                                                      else (0 : Int)) *
                                                      (2 : Int) ^ min (IntKind.u64.wrap (↑y : Int)).toNat IntKind.u32.bits)) →
                                              ∀ (v_5 : Int),
                                                v_5 = IntKind.i64.wrap ((↑y : Int) + (1 : Int)) →
                                                  ∃ (y_1 : Nat),
                                                    (bitFam (0 : Nat) (5 : Nat) (6 : Nat) (extF v.toNat n.toNat) (32 : Nat)
                                                            [((0 : Nat), T.int IntKind.u32 v), ((1 : Nat), T.int IntKind.i64 n)] (29 : Nat)).I
                                                        y_1 ∧
                                                      ((v = v ∧ n = n ∧ v_4 = (↑(numOf (extF v.toNat n.toNat) y_1) : Int) ∧ v_5 = (↑y_1 : Int) ∧ True) ∧ True) ∧
                                                        (bitFam (0 : Nat) (5 : Nat) (6 : Nat) (extF v.toNat n.toNat) (32 : Nat)
                                                                [((0 : Nat), T.int IntKind.u32 v), ((1 : Nat), T.int IntKind.i64 n)] (29 : Nat)).μ
                                                            y_1 <
                                                          (bitFam (0 : Nat) (5 : Nat) (6 : Nat) (extF v.toNat n.toNat) (32 : Nat)
                                                                [((0 : Nat), T.int IntKind.u32 v), ((1 : Nat), T.int IntKind.i64 n)] (29 : Nat)).μ
                                                            y) ∧
                                  (decide ((↑y : Int) < (32 : Int)) = false →
                                    ∀ (v_4 : Int),
                                      v_4 = (↑(numOf (extF v.toNat n.toNat) y) : Int) →
                                        ((0 : Int) ≤ v ∧ v < (4294967296 : Int)) ∧ (-9223372036854775808 : Int) ≤ n ∧ n < (9223372036854775808 : Int) →
                                          v_4 = extN v n ∧ True ∧ True))) := by
  simp only [true_and, and_true, eq_self, decide_eq_true_eq, decide_eq_false_iff_not, and_self, Int.not_lt, gt_iff_lt, IntKind.wrap_u64, IntKind.wrap_i64]
  rintro v n ⟨⟨h1, h2⟩, h3⟩ v0 hv0
  refine ⟨fun hn v hv _ => ?_, fun hn => ⟨fun hn2 v hv _ => ?_, fun hn2 v0 hv0 v1 hv1 => ⟨⟨0, Nat.zero_le _, hv0, hv1⟩, fun y hy => ⟨fun hlt => ?_, fun hge v hv _ => ?_⟩⟩⟩⟩
  · unfold extN; rw [if_neg (by omega)]; exact hv
  · unfold extN; rw [if_neg (by omega)]; exact hv
  · have hI : ∀ z : Nat, (bitFam 0 5 6 (extF v.toNat n.toNat) 32 [(0, .int .u32 v), (1, .int .i64 n)] 29).I z = (z ≤ 32) := fun _ => rfl
    have hM : ∀ z : Nat, (bitFam 0 5 6 (extF v.toNat n.toNat) 32 [(0, .int .u32 v), (1, .int .i64 n)] 29).μ z = 32 - z := fun _ => rfl
    have e2 : (y : Int) % 18446744073709551616 = y := by omega
    have e3 : (n - 1 + 9223372036854775808) % 18446744073709551616 - 9223372036854775808 = n - 1 := by omega
    rw [e2, e3]
    simp only [Int.toNat_natCast, min32 (show y < 32 by omega), hI, hM]
    refine ⟨⟨⟨h1, h2⟩, by split <;> omega, by split <;> omega⟩, by omega, fun r hr s hs => ⟨y + 1, by omega, ⟨?_, by omega⟩, by omega⟩⟩
    rw [hr]
    refine or_step (by omega) ?_
    unfold extF
    congr 1
    split <;> omega
  · unfold extN
    have hy : y ≤ 32 := hy
    rw [if_pos ⟨hn, hn2⟩, hv, show y = 32 by omega]

def rext_C (x : (Int × Int)) : Cfg := { Γ := Go.Sx.look tBit, names := true, loops := onlyAt 5 [bitFam 0 5 6 (extF (x.1).toNat (x.2).toNat) 32 [(0, .int .u32 (x.1)), (1, .int .i64 (x.2))] 29] }
theorem rext_al (x : (Int × Int)) : Shown (extPt.vc Try.prog (rext_C x) Try.f15 x) := ⟨@Eq.mp _ _ (by kernel_rfl) (rext_vc (x.1) (x.2))⟩
theorem rext_ok : SpOk Try.prog 15 extPt.sp := @Pat.okS _ extPt Try.prog rext_C 15 Try.f15 (fun x => cfg_tab rfl tBit_ok) (by kernel_rfl) Try.func15 (fun _ => rfl) rext_al
