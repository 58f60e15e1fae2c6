import Derived.Test.YtaaploablbkilaaLawA
open Go Go.Sx Go.Proofs
open Go.ChangeShapes Go.WideShapes Go.ChangeAt Go.RowKit
set_option maxRecDepth 100000
namespace Go.Proofs.Ytaaploablbkilaa

theorem mul_b64 {x y : Int} (hx : u64 x) (hy : u64 y) : 0 ≤ x * y ∧ x * y ≤ 340282366920938463426481119284349108225 := by
  obtain ⟨h1, h2⟩ := hx
  obtain ⟨h3, h4⟩ := hy
  refine ⟨Int.mul_nonneg h1 h3, ?_⟩
  have h5 : x * y ≤ 18446744073709551615 * y := Int.mul_le_mul_of_nonneg_right (by omega) h3
  have h6 : 18446744073709551615 * y ≤ 18446744073709551615 * 18446744073709551615 := Int.mul_le_mul_of_nonneg_left (by omega) (by decide)
  omega
theorem wNdm (n : Int) : wN (n / 18446744073709551616) (n % 18446744073709551616) = n := by unfold wN; omega
theorem wN0 (n : Int) : wN 0 n = n := by unfold wN; omega
theorem wcmpdm (p q : Int) : wcmp (p / 18446744073709551616) (p % 18446744073709551616) (q / 18446744073709551616) (q % 18446744073709551616) = if p < q then -1 else if q < p then 1 else 0 := by unfold wcmp; rw [wNdm, wNdm]
def u3P : Pat (A64 × A64 × A64) where
  view _ _ := none
  args x := [x.1.t, x.2.1.t, x.2.2.t]
  H _ := []
  out x := .need (x.1.Ok ∧ x.2.1.Ok ∧ x.2.2.Ok) (.retq .tt)
def tMuls : Tab := [(9, aliveP.sp), (28, mulWP.sp), (23, addP.sp), (30, wcmpPt.sp)]
theorem tMuls_ok : TabOk Try.prog tMuls := (tab_cons alive_ok (tab_cons mulW_ok (tab_cons addW_ok (tab_cons wcmp_ok tab_nil))))

theorem muls_vc : ∀ (a b c : A64),
    (a.Ok ∧ b.Ok ∧ c.Ok) ∧ True →
      (True ∧ True) ∧
        ((a.v = a.v ∧ b.v = b.v ∧ True) ∧ True) ∧
          (((0 : Int) ≤ a.v ∧ a.v < (18446744073709551616 : Int)) ∧ (0 : Int) ≤ b.v ∧ b.v < (18446744073709551616 : Int)) ∧
            ((a.v = a.v ∧ c.v = c.v ∧ True) ∧ True) ∧
              (((0 : Int) ≤ a.v ∧ a.v < (18446744073709551616 : Int)) ∧ (0 : Int) ≤ c.v ∧ c.v < (18446744073709551616 : Int)) ∧
                (((a.v * b.v / (18446744073709551616 : Int) = a.v * b.v / (18446744073709551616 : Int) ∧
                        a.v * b.v % (18446744073709551616 : Int) = a.v * b.v % (18446744073709551616 : Int) ∧ True) ∧
                      (a.v * c.v / (18446744073709551616 : Int) = a.v * c.v / (18446744073709551616 : Int) ∧
                          a.v * c.v % (18446744073709551616 : Int) = a.v * c.v % (18446744073709551616 : Int) ∧ True) ∧
                        True) ∧
                    True) ∧
                  ((((0 : Int) ≤ a.v * b.v / (18446744073709551616 : Int) ∧ a.v * b.v / (18446744073709551616 : Int) < (18446744073709551616 : Int)) ∧
                        (0 : Int) ≤ a.v * b.v % (18446744073709551616 : Int) ∧ a.v * b.v % (18446744073709551616 : Int) < (18446744073709551616 : Int)) ∧
                      ((0 : Int) ≤ a.v * c.v / (18446744073709551616 : Int) ∧ a.v * c.v / (18446744073709551616 : Int) < (18446744073709551616 : Int)) ∧
                        (0 : Int) ≤ a.v * c.v % (18446744073709551616 : Int) ∧ a.v * c.v % (18446744073709551616 : Int) < (18446744073709551616 : Int)) ∧
                    (decide (b.v < c.v) = true →
                        (decide (a.v > (0 : Int)) = true →
                            (((a.v * b.v / (18446744073709551616 : Int) = a.v * b.v / (18446744073709551616 : Int) ∧
                                    a.v * b.v % (18446744073709551616 : Int) = a.v * b.v % (18446744073709551616 : Int) ∧ True) ∧
                                  (a.v * c.v / (18446744073709551616 : Int) = a.v * c.v / (18446744073709551616 : Int) ∧
                                      a.v * c.v % (18446744073709551616 : Int) = a.v * c.v % (18446744073709551616 : Int) ∧ True) ∧
                                    True) ∧
                                True) ∧
                              ((((0 : Int) ≤ a.v * b.v / (18446744073709551616 : Int) ∧ a.v * b.v / (18446744073709551616 : Int) < (18446744073709551616 : Int)) ∧
                                    (0 : Int) ≤ a.v * b.v % (18446744073709551616 : Int) ∧ a.v * b.v % (18446744073709551616 : Int) < (18446744073709551616 : Int)) ∧
                                  ((0 : Int) ≤ a.v * c.v / (18446744073709551616 : Int) ∧ a.v * c.v / (18446744073709551616 : Int) < (18446744073709551616 : Int)) ∧
                                    (0 : Int) ≤ a.v * c.v % (18446744073709551616 : Int) ∧ a.v * c.v % (18446744073709551616 : Int) < (18446744073709551616 : Int)) ∧
                                (decide
                                        (wcmp (a.v * b.v / (18446744073709551616 : Int)) (a.v * b.v % (18446744073709551616 : Int)) (a.v * c.v / (18446744073709551616 : Int))
                                            (a.v * c.v % (18446744073709551616 : Int)) ≥
                                          (0 : Int)) =
                                      true →
                                    a.Ok ∧ b.Ok ∧ c.Ok → False ∧ True ∧ True) ∧
                                  (decide
                                        (wcmp (a.v * b.v / (18446744073709551616 : Int)) (a.v * b.v % (18446744073709551616 : Int)) (a.v * c.v / (18446744073709551616 : Int))
                                            (a.v * c.v % (18446744073709551616 : Int)) ≥
                                          (0 : Int)) =
                                      false →
                                    ((b.v = b.v ∧ a.v = a.v ∧ True) ∧ True) ∧
                                      (((0 : Int) ≤ b.v ∧ b.v < (18446744073709551616 : Int)) ∧ (0 : Int) ≤ a.v ∧ a.v < (18446744073709551616 : Int)) ∧
                                        ((!(b.v * a.v / (18446744073709551616 : Int) == a.v * b.v / (18446744073709551616 : Int) &&
                                                  (b.v * a.v % (18446744073709551616 : Int) == a.v * b.v % (18446744073709551616 : Int) && true))) =
                                              true →
                                            a.Ok ∧ b.Ok ∧ c.Ok → False ∧ True ∧ True) ∧
                                          ((!(b.v * a.v / (18446744073709551616 : Int) == a.v * b.v / (18446744073709551616 : Int) &&
                                                  (b.v * a.v % (18446744073709551616 : Int) == a.v * b.v % (18446744073709551616 : Int) && true))) =
                                              false →
                                            ((a.v = a.v ∧ (1 : Int) = (1 : Int) ∧ True) ∧ True) ∧
                                              (((0 : Int) ≤ a.v ∧ a.v < (18446744073709551616 : Int)) ∧ (0 : Int) ≤ (1 : Int) ∧ (1 : Int) < (18446744073709551616 : Int)) ∧
                                                ((!(a.v * (1 : Int) / (18446744073709551616 : Int) == (0 : Int) && (a.v * (1 : Int) % (18446744073709551616 : Int) == a.v && true))) =
                                                      true →
                                                    a.Ok ∧ b.Ok ∧ c.Ok → False ∧ True ∧ True) ∧
                                                  ((!(a.v * (1 : Int) / (18446744073709551616 : Int) == (0 : Int) &&
                                                          (a.v * (1 : Int) % (18446744073709551616 : Int) == a.v && true))) =
                                                      false →
                                                    ((!decide
                                                              (wN (a.v * b.v / (18446744073709551616 : Int)) (a.v * b.v % (18446744073709551616 : Int)) +
                                                                  wN (a.v * c.v / (18446744073709551616 : Int)) (a.v * c.v % (18446744073709551616 : Int)) <
                                                                two128)) =
                                                          true →
                                                        a.Ok ∧ b.Ok ∧ c.Ok → True ∧ True ∧ True) ∧
                                                      ((!decide
                                                              (wN (a.v * b.v / (18446744073709551616 : Int)) (a.v * b.v % (18446744073709551616 : Int)) +
                                                                  wN (a.v * c.v / (18446744073709551616 : Int)) (a.v * c.v % (18446744073709551616 : Int)) <
                                                                two128)) =
                                                          false →
                                                        (decide (IntKind.u64.wrap (b.v + c.v) < b.v) = true → a.Ok ∧ b.Ok ∧ c.Ok → True ∧ True ∧ True) ∧
                                                          (decide (IntKind.u64.wrap (b.v + c.v) < b.v) = false →
                                                            ((a.v = a.v ∧ IntKind.u64.wrap (b.v + c.v) = IntKind.u64.wrap (b.v + c.v) ∧ True) ∧ True) ∧
                                                              (((0 : Int) ≤ a.v ∧ a.v < (18446744073709551616 : Int)) ∧
                                                                  (0 : Int) ≤ IntKind.u64.wrap (b.v + c.v) ∧ IntKind.u64.wrap (b.v + c.v) < (18446744073709551616 : Int)) ∧
                                                                (a.Ok ∧ b.Ok ∧ c.Ok →
                                                                  (a.v * IntKind.u64.wrap (b.v + c.v) / (18446744073709551616 : Int) ==
                                                                          (if
                                                                                wN (a.v * b.v / (18446744073709551616 : Int)) (a.v * b.v % (18446744073709551616 : Int)) +
                                                                                    wN (a.v * c.v / (18446744073709551616 : Int)) (a.v * c.v % (18446744073709551616 : Int)) <
                                                                                  two128 then
                                                                              wN (a.v * b.v / (18446744073709551616 : Int)) (a.v * b.v % (18446744073709551616 : Int)) +
                                                                                wN (a.v * c.v / (18446744073709551616 : Int)) (a.v * c.v % (18446744073709551616 : Int))
                                                                            else (0 : Int)) /
                                                                            (18446744073709551616 : Int) &&
                                                                        (a.v * IntKind.u64.wrap (b.v + c.v) % (18446744073709551616 : Int) ==
                                                                            (if
                                                                                  wN (a.v * b.v / (18446744073709551616 : Int)) (a.v * b.v % (18446744073709551616 : Int)) +
                                                                                      wN (a.v * c.v / (18446744073709551616 : Int)) (a.v * c.v % (18446744073709551616 : Int)) <
                                                                                    two128 then
                                                                                wN (a.v * b.v / (18446744073709551616 : Int)) (a.v * b.v % (18446744073709551616 : Int)) +
                                                                                  wN (a.v * c.v / (18446744073709551616 : Int)) (a.v * c.v % (18446744073709551616 : Int))
                                                                              else (0 : Int)) %
                                                                              (18446744073709551616 : Int) &&
                                                                          true)) =
                                                                      true ∧
                                                                    True ∧ True))))))) ∧
                          (decide (a.v > (0 : Int)) = false →
                            ((b.v = b.v ∧ a.v = a.v ∧ True) ∧ True) ∧
                              (((0 : Int) ≤ b.v ∧ b.v < (18446744073709551616 : Int)) ∧ (0 : Int) ≤ a.v ∧ a.v < (18446744073709551616 : Int)) ∧
                                ((!(b.v * a.v / (18446744073709551616 : Int) == a.v * b.v / (18446744073709551616 : Int) &&
                                          (b.v * a.v % (18446744073709551616 : Int) == a.v * b.v % (18446744073709551616 : Int) && true))) =
                                      true →
                                    a.Ok ∧ b.Ok ∧ c.Ok → False ∧ True ∧ True) ∧
                                  ((!(b.v * a.v / (18446744073709551616 : Int) == a.v * b.v / (18446744073709551616 : Int) &&
                                          (b.v * a.v % (18446744073709551616 : Int) == a.v * b.v % (18446744073709551616 : Int) && true))) =
                                      false →
                                    ((a.v = a.v ∧ (1 : Int) = (1 : Int) ∧ True) ∧ True) ∧
                                      (((0 : Int) ≤ a.v ∧ a.v < (18446744073709551616 : Int)) ∧ (0 : Int) ≤ (1 : Int) ∧ (1 : Int) < (18446744073709551616 : Int)) ∧
                                        ((!(a.v * (1 : Int) / (18446744073709551616 : Int) == (0 : Int) && (a.v * (1 : Int) % (18446744073709551616 : Int) == a.v && true))) = true →
                                            a.Ok ∧ b.Ok ∧ c.Ok → False ∧ True ∧ True) ∧
                                          ((!(a.v * (1 : Int) / (18446744073709551616 : Int) == (0 : Int) && (a.v * (1 : Int) % (18446744073709551616 : Int) == a.v && true))) =
                                              false →
                                            ((!decide
                                                      (wN (a.v * b.v / (18446744073709551616 : Int)) (a.v * b.v % (18446744073709551616 : Int)) +
                                                          wN (a.v * c.v / (18446744073709551616 : Int)) (a.v * c.v % (18446744073709551616 : Int)) <
                                                        two128)) =
                                                  true →
                                                a.Ok ∧ b.Ok ∧ c.Ok → True ∧ True ∧ True) ∧
                                              ((!decide
                                                      (wN (a.v * b.v / (18446744073709551616 : Int)) (a.v * b.v % (18446744073709551616 : Int)) +
                                                          wN (a.v * c.v / (18446744073709551616 : Int)) (a.v * c.v % (18446744073709551616 : Int)) <
                                                        two128)) =
                                                  false →
                                                (decide (IntKind.u64.wrap (b.v + c.v) < b.v) = true → a.Ok ∧ b.Ok ∧ c.Ok → True ∧ True ∧ True) ∧
                                                  (decide (IntKind.u64.wrap (b.v + c.v) < b.v) = false →
                                                    ((a.v = a.v ∧ IntKind.u64.wrap (b.v + c.v) = IntKind.u64.wrap (b.v + c.v) ∧ True) ∧ True) ∧
                                                      (((0 : Int) ≤ a.v ∧ a.v < (18446744073709551616 : Int)) ∧
                                                          (0 : Int) ≤ IntKind.u64.wrap (b.v + c.v) ∧ IntKind.u64.wrap (b.v + c.v) < (18446744073709551616 : Int)) ∧
                                                        (a.Ok ∧ b.Ok ∧ c.Ok →
                                                          (a.v * IntKind.u64.wrap (b.v + c.v) / (18446744073709551616 : Int) ==
                                                                  (if
                                                                        wN (a.v * b.v / (18446744073709551616 : Int)) (a.v * b.v % (18446744073709551616 : Int)) +
                                                                            wN (a.v * c.v / (18446744073709551616 : Int)) (a.v * c.v % (18446744073709551616 : Int)) <
                                                                          two128 then
                                                                      wN (a.v * b.v / (18446744073709551616 : Int)) (a.v * b.v % (18446744073709551616 : Int)) +
                                                                        wN (a.v * c.v / (18446744073709551616 : Int)) (a.v * c.v % (18446744073709551616 : Int))
                                                                    else (0 : Int)) /
                                                                    (18446744073709551616 : Int) &&
                                                                (a.v * IntKind.u64.wrap (b.v + c.v) % (18446744073709551616 : Int) ==
                                                                    (if
                                                                          wN (a.v * b.v / (18446744073709551616 : Int)) (a.v * b.v % (18446744073709551616 : Int)) +
                                                                              wN (a.v * c.v / (18446744073709551616 : Int)) (a.v * c.v % (18446744073709551616 : Int)) <
                                                                            two128 then
                                                                        wN (a.v * b.v / (18446744073709551616 : Int)) (a.v * b.v % (18446744073709551616 : Int)) +
                                                                          wN (a.v * c.v / (18446744073709551616 : Int)) (a.v * c.v % (18446744073709551616 : Int))
                                                                      else (0 : Int)) %
                                                                      (18446744073709551616 : Int) &&
                                                                  true)) =
                                                              true ∧
                                                            True ∧ True))))))) ∧
                      (decide (b.v < c.v) = false →
                        ((b.v = b.v ∧ a.v = a.v ∧ True) ∧ True) ∧
                          (((0 : Int) ≤ b.v ∧ b.v < (18446744073709551616 : Int)) ∧ (0 : Int) ≤ a.v ∧ a.v < (18446744073709551616 : Int)) ∧
                            ((!(b.v * a.v / (18446744073709551616 : Int) == a.v * b.v / (18446744073709551616 : Int) &&
                                      (b.v * a.v % (18446744073709551616 : Int) == a.v * b.v % (18446744073709551616 : Int) && true))) =
                                  true →
                                a.Ok ∧ b.Ok ∧ c.Ok → False ∧ True ∧ True) ∧
                              ((!(b.v * a.v / (18446744073709551616 : Int) == a.v * b.v / (18446744073709551616 : Int) &&
                                      (b.v * a.v % (18446744073709551616 : Int) == a.v * b.v % (18446744073709551616 : Int) && true))) =
                                  false →
                                ((a.v = a.v ∧ (1 : Int) = (1 : Int) ∧ True) ∧ True) ∧
                                  (((0 : Int) ≤ a.v ∧ a.v < (18446744073709551616 : Int)) ∧ (0 : Int) ≤ (1 : Int) ∧ (1 : Int) < (18446744073709551616 : Int)) ∧
                                    ((!(a.v * (1 : Int) / (18446744073709551616 : Int) == (0 : Int) && (a.v * (1 : Int) % (18446744073709551616 : Int) == a.v && true))) = true →
                                        a.Ok ∧ b.Ok ∧ c.Ok → False ∧ True ∧ True) ∧
                                      ((!(a.v * (1 : Int) / (18446744073709551616 : Int) == (0 : Int) && (a.v * (1 : Int) % (18446744073709551616 : Int) == a.v && true))) = false →
                                        ((!decide
                                                  (wN (a.v * b.v / (18446744073709551616 : Int)) (a.v * b.v % (18446744073709551616 : Int)) +
                                                      wN (a.v * c.v / (18446744073709551616 : Int)) (a.v * c.v % (18446744073709551616 : Int)) <
                                                    two128)) =
                                              true →
                                            a.Ok ∧ b.Ok ∧ c.Ok → True ∧ True ∧ True) ∧
                                          ((!decide
                                                  (wN (a.v * b.v / (18446744073709551616 : Int)) (a.v * b.v % (18446744073709551616 : Int)) +
                                                      wN (a.v * c.v / (18446744073709551616 : Int)) (a.v * c.v % (18446744073709551616 : Int)) <
                                                    two128)) =
                                              false →
                                            (decide (IntKind.u64.wrap (b.v + c.v) < b.v) = true → a.Ok ∧ b.Ok ∧ c.Ok → True ∧ True ∧ True) ∧
                                              (decide (IntKind.u64.wrap (b.v + c.v) < b.v) = false →
                                                ((a.v = a.v ∧ IntKind.u64.wrap (b.v + c.v) = IntKind.u64.wrap (b.v + c.v) ∧ True) ∧ True) ∧
                                                  (((0 : Int) ≤ a.v ∧ a.v < (18446744073709551616 : Int)) ∧
                                                      (0 : Int) ≤ IntKind.u64.wrap (b.v + c.v) ∧ IntKind.u64.wrap (b.v + c.v) < (18446744073709551616 : Int)) ∧
                                                    (a.Ok ∧ b.Ok ∧ c.Ok →
                                                      (a.v * IntKind.u64.wrap (b.v + c.v) / (18446744073709551616 : Int) ==
                                                              (if
                                                                    wN (a.v * b.v / (18446744073709551616 : Int)) (a.v * b.v % (18446744073709551616 : Int)) +
                                                                        wN (a.v * c.v / (18446744073709551616 : Int)) (a.v * c.v % (18446744073709551616 : Int)) <
                                                                      two128 then
                                                                  wN (a.v * b.v / (18446744073709551616 : Int)) (a.v * b.v % (18446744073709551616 : Int)) +
                                                                    wN (a.v * c.v / (18446744073709551616 : Int)) (a.v * c.v % (18446744073709551616 : Int))
                                                                else (0 : Int)) /
                                                                (18446744073709551616 : Int) &&
                                                            (a.v * IntKind.u64.wrap (b.v + c.v) % (18446744073709551616 : Int) ==
                                                                (if
                                                                      wN (a.v * b.v / (18446744073709551616 : Int)) (a.v * b.v % (18446744073709551616 : Int)) +
                                                                          wN (a.v * c.v / (18446744073709551616 : Int)) (a.v * c.v % (18446744073709551616 : Int)) <
                                                                        two128 then
                                                                    wN (a.v * b.v / (18446744073709551616 : Int)) (a.v * b.v % (18446744073709551616 : Int)) +
                                                                      wN (a.v * c.v / (18446744073709551616 : Int)) (a.v * c.v % (18446744073709551616 : Int))
                                                                  else (0 : Int)) %
                                                                  (18446744073709551616 : Int) &&
                                                              true)) =
                                                          true ∧
                                                        True ∧ True)))))) := by
  simp only [true_and, and_true, eq_self, decide_eq_true_eq, decide_eq_false_iff_not, implies_true, and_self, Int.not_lt, Int.not_le, ge_iff_le, gt_iff_lt, IntKind.wrap_u64, Bool.not_eq_true', Bool.not_eq_false']
  rintro ⟨a⟩ ⟨b⟩ ⟨c⟩ ⟨⟨ha, ha'⟩, ⟨hb, hb'⟩, hc, hc'⟩
  dsimp only at ha ha' hb hb' hc hc' ⊢
  have hcomm : b * a = a * b := Int.mul_comm _ _
  have hp := mul_b64 ⟨ha, ha'⟩ ⟨hb, hb'⟩
  have hq := mul_b64 ⟨ha, ha'⟩ ⟨hc, hc'⟩
  have hlt : b < c → 0 < a → a * b < a * c := fun h1 h2 => Int.mul_lt_mul_of_pos_left h1 h2
  have hsum : b + c < 18446744073709551616 → a * ((b + c) % 18446744073709551616) = a * b + a * c := fun h => by
    rw [Int.emod_eq_of_lt (by omega) h, Int.mul_add]
  simp only [wNdm, wcmpdm, hcomm, Int.mul_one, two128]
  generalize a * ((b + c) % 18446744073709551616) = s at *
  generalize a * b = p at *
  generalize a * c = q at *
  try dsimp only
  repeat' (with_reducible first | assumption | apply And.intro | intro _)
  all_goals (try simp only [cond_dec, decide_eq_decide] at *)
  all_goals (first | omega | ((repeat' (first | omega | split)) <;> (try dsimp only) <;> (try (first | omega | contradiction | (subst_vars; first | rfl | omega) | (simp_all; done) | (simp_all; omega)))))

def muls_C (_ : (A64 × A64 × A64)) : Cfg := { Γ := Go.Sx.look tMuls, names := true }
theorem muls_al (x : (A64 × A64 × A64)) : Shown (u3P.vc Try.prog (muls_C x) Try.f8 x) := ⟨@Eq.mp _ _ (by kernel_rfl) (muls_vc (x.1) (x.2.1) (x.2.2))⟩
theorem muls_ok : SpOk Try.prog 8 u3P.sp := @Pat.okS _ u3P Try.prog muls_C 8 Try.f8 (fun x => cfg_tab rfl tMuls_ok) (by kernel_rfl) Try.func8 (fun _ => rfl) muls_al
def tDivs : Tab := [(9, aliveP.sp), (28, mulWP.sp), (23, addP.sp), (26, wdivP.sp)]
theorem tDivs_ok : TabOk Try.prog tDivs := (tab_cons alive_ok (tab_cons mulW_ok (tab_cons addW_ok (tab_cons wdiv_ok tab_nil))))

theorem divs_vc : ∀ (q b r : A64),
    (q.Ok ∧ b.Ok ∧ r.Ok) ∧ True →
      (True ∧ True) ∧
        ((b.v == (0 : Int)) = true →
            ((q.v = q.v ∧ r.v = r.v ∧ True) ∧ True) ∧
              (((0 : Int) ≤ q.v ∧ q.v < (18446744073709551616 : Int)) ∧ (0 : Int) ≤ r.v ∧ r.v < (18446744073709551616 : Int)) ∧
                (((q.v * r.v / (18446744073709551616 : Int) = q.v * r.v / (18446744073709551616 : Int) ∧
                        q.v * r.v % (18446744073709551616 : Int) = q.v * r.v % (18446744073709551616 : Int) ∧ True) ∧
                      b.v = b.v ∧ True) ∧
                    True) ∧
                  ((((0 : Int) ≤ q.v * r.v / (18446744073709551616 : Int) ∧ q.v * r.v / (18446744073709551616 : Int) < (18446744073709551616 : Int)) ∧
                        (0 : Int) ≤ q.v * r.v % (18446744073709551616 : Int) ∧ q.v * r.v % (18446744073709551616 : Int) < (18446744073709551616 : Int)) ∧
                      (0 : Int) ≤ b.v ∧ b.v < (18446744073709551616 : Int)) ∧
                    ∀ (v : Int),
                      (v = if b.v = (0 : Int) then (0 : Int) else wN (q.v * r.v / (18446744073709551616 : Int)) (q.v * r.v % (18446744073709551616 : Int)) % b.v) →
                        q.Ok ∧ b.Ok ∧ r.Ok → (!decide (b.v ≠ (0 : Int))) = true ∧ True ∧ True) ∧
          ((b.v == (0 : Int)) = false →
            b.v ≠ (0 : Int) ∧
              ∀ (v : Int),
                v = r.v.tmod b.v →
                  ((q.v = q.v ∧ b.v = b.v ∧ True) ∧ True) ∧
                    (((0 : Int) ≤ q.v ∧ q.v < (18446744073709551616 : Int)) ∧ (0 : Int) ≤ b.v ∧ b.v < (18446744073709551616 : Int)) ∧
                      (((q.v * b.v / (18446744073709551616 : Int) = q.v * b.v / (18446744073709551616 : Int) ∧
                              q.v * b.v % (18446744073709551616 : Int) = q.v * b.v % (18446744073709551616 : Int) ∧ True) ∧
                            ((0 : Int) = (0 : Int) ∧ v = v ∧ True) ∧ True) ∧
                          True) ∧
                        ((((0 : Int) ≤ q.v * b.v / (18446744073709551616 : Int) ∧ q.v * b.v / (18446744073709551616 : Int) < (18446744073709551616 : Int)) ∧
                              (0 : Int) ≤ q.v * b.v % (18446744073709551616 : Int) ∧ q.v * b.v % (18446744073709551616 : Int) < (18446744073709551616 : Int)) ∧
                            ((0 : Int) ≤ (0 : Int) ∧ (0 : Int) < (18446744073709551616 : Int)) ∧ (0 : Int) ≤ v ∧ v < (18446744073709551616 : Int)) ∧
                          ((((if wN (q.v * b.v / (18446744073709551616 : Int)) (q.v * b.v % (18446744073709551616 : Int)) + wN (0 : Int) v < two128 then
                                        wN (q.v * b.v / (18446744073709551616 : Int)) (q.v * b.v % (18446744073709551616 : Int)) + wN (0 : Int) v
                                      else (0 : Int)) /
                                      (18446744073709551616 : Int) =
                                    (if wN (q.v * b.v / (18446744073709551616 : Int)) (q.v * b.v % (18446744073709551616 : Int)) + wN (0 : Int) v < two128 then
                                        wN (q.v * b.v / (18446744073709551616 : Int)) (q.v * b.v % (18446744073709551616 : Int)) + wN (0 : Int) v
                                      else (0 : Int)) /
                                      (18446744073709551616 : Int) ∧
                                  (if wN (q.v * b.v / (18446744073709551616 : Int)) (q.v * b.v % (18446744073709551616 : Int)) + wN (0 : Int) v < two128 then
                                          wN (q.v * b.v / (18446744073709551616 : Int)) (q.v * b.v % (18446744073709551616 : Int)) + wN (0 : Int) v
                                        else (0 : Int)) %
                                        (18446744073709551616 : Int) =
                                      (if wN (q.v * b.v / (18446744073709551616 : Int)) (q.v * b.v % (18446744073709551616 : Int)) + wN (0 : Int) v < two128 then
                                          wN (q.v * b.v / (18446744073709551616 : Int)) (q.v * b.v % (18446744073709551616 : Int)) + wN (0 : Int) v
                                        else (0 : Int)) %
                                        (18446744073709551616 : Int) ∧
                                    True) ∧
                                b.v = b.v ∧ True) ∧
                              True) ∧
                            ((((0 : Int) ≤
                                      (if wN (q.v * b.v / (18446744073709551616 : Int)) (q.v * b.v % (18446744073709551616 : Int)) + wN (0 : Int) v < two128 then
                                          wN (q.v * b.v / (18446744073709551616 : Int)) (q.v * b.v % (18446744073709551616 : Int)) + wN (0 : Int) v
                                        else (0 : Int)) /
                                        (18446744073709551616 : Int) ∧
                                    (if wN (q.v * b.v / (18446744073709551616 : Int)) (q.v * b.v % (18446744073709551616 : Int)) + wN (0 : Int) v < two128 then
                                          wN (q.v * b.v / (18446744073709551616 : Int)) (q.v * b.v % (18446744073709551616 : Int)) + wN (0 : Int) v
                                        else (0 : Int)) /
                                        (18446744073709551616 : Int) <
                                      (18446744073709551616 : Int)) ∧
                                  (0 : Int) ≤
                                      (if wN (q.v * b.v / (18446744073709551616 : Int)) (q.v * b.v % (18446744073709551616 : Int)) + wN (0 : Int) v < two128 then
                                          wN (q.v * b.v / (18446744073709551616 : Int)) (q.v * b.v % (18446744073709551616 : Int)) + wN (0 : Int) v
                                        else (0 : Int)) %
                                        (18446744073709551616 : Int) ∧
                                    (if wN (q.v * b.v / (18446744073709551616 : Int)) (q.v * b.v % (18446744073709551616 : Int)) + wN (0 : Int) v < two128 then
                                          wN (q.v * b.v / (18446744073709551616 : Int)) (q.v * b.v % (18446744073709551616 : Int)) + wN (0 : Int) v
                                        else (0 : Int)) %
                                        (18446744073709551616 : Int) <
                                      (18446744073709551616 : Int)) ∧
                                (0 : Int) ≤ b.v ∧ b.v < (18446744073709551616 : Int)) ∧
                              ∀ (v_1 : Int),
                                (v_1 =
                                    if b.v = (0 : Int) then (0 : Int)
                                    else
                                      wN
                                          ((if wN (q.v * b.v / (18446744073709551616 : Int)) (q.v * b.v % (18446744073709551616 : Int)) + wN (0 : Int) v < two128 then
                                              wN (q.v * b.v / (18446744073709551616 : Int)) (q.v * b.v % (18446744073709551616 : Int)) + wN (0 : Int) v
                                            else (0 : Int)) /
                                            (18446744073709551616 : Int))
                                          ((if wN (q.v * b.v / (18446744073709551616 : Int)) (q.v * b.v % (18446744073709551616 : Int)) + wN (0 : Int) v < two128 then
                                              wN (q.v * b.v / (18446744073709551616 : Int)) (q.v * b.v % (18446744073709551616 : Int)) + wN (0 : Int) v
                                            else (0 : Int)) %
                                            (18446744073709551616 : Int)) %
                                        b.v) →
                                  (decide (wN (q.v * b.v / (18446744073709551616 : Int)) (q.v * b.v % (18446744073709551616 : Int)) + wN (0 : Int) v < two128) = true →
                                      (decide (b.v ≠ (0 : Int)) = true →
                                          (((if b.v = (0 : Int) then (0 : Int)
                                                      else
                                                        wN
                                                            ((if
                                                                  wN (q.v * b.v / (18446744073709551616 : Int)) (q.v * b.v % (18446744073709551616 : Int)) + wN (0 : Int) v <
                                                                    two128 then
                                                                wN (q.v * b.v / (18446744073709551616 : Int)) (q.v * b.v % (18446744073709551616 : Int)) + wN (0 : Int) v
                                                              else (0 : Int)) /
                                                              (18446744073709551616 : Int))
                                                            ((if
                                                                  wN (q.v * b.v / (18446744073709551616 : Int)) (q.v * b.v % (18446744073709551616 : Int)) + wN (0 : Int) v <
                                                                    two128 then
                                                                wN (q.v * b.v / (18446744073709551616 : Int)) (q.v * b.v % (18446744073709551616 : Int)) + wN (0 : Int) v
                                                              else (0 : Int)) %
                                                              (18446744073709551616 : Int)) /
                                                          b.v) /
                                                      (18446744073709551616 : Int) ==
                                                    (0 : Int) &&
                                                  ((if b.v = (0 : Int) then (0 : Int)
                                                        else
                                                          wN
                                                              ((if
                                                                    wN (q.v * b.v / (18446744073709551616 : Int)) (q.v * b.v % (18446744073709551616 : Int)) + wN (0 : Int) v <
                                                                      two128 then
                                                                  wN (q.v * b.v / (18446744073709551616 : Int)) (q.v * b.v % (18446744073709551616 : Int)) + wN (0 : Int) v
                                                                else (0 : Int)) /
                                                                (18446744073709551616 : Int))
                                                              ((if
                                                                    wN (q.v * b.v / (18446744073709551616 : Int)) (q.v * b.v % (18446744073709551616 : Int)) + wN (0 : Int) v <
                                                                      two128 then
                                                                  wN (q.v * b.v / (18446744073709551616 : Int)) (q.v * b.v % (18446744073709551616 : Int)) + wN (0 : Int) v
                                                                else (0 : Int)) %
                                                                (18446744073709551616 : Int)) /
                                                            b.v) %
                                                        (18446744073709551616 : Int) ==
                                                      q.v &&
                                                    true)) =
                                                true →
                                              ((v_1 == v) = true →
                                                  ((q.v = q.v ∧ b.v = b.v ∧ True) ∧ True) ∧
                                                    (((0 : Int) ≤ q.v ∧ q.v < (18446744073709551616 : Int)) ∧ (0 : Int) ≤ b.v ∧ b.v < (18446744073709551616 : Int)) ∧
                                                      ((b.v = b.v ∧ q.v = q.v ∧ True) ∧ True) ∧
                                                        (((0 : Int) ≤ b.v ∧ b.v < (18446744073709551616 : Int)) ∧ (0 : Int) ≤ q.v ∧ q.v < (18446744073709551616 : Int)) ∧
                                                          (q.Ok ∧ b.Ok ∧ r.Ok →
                                                            (q.v * b.v / (18446744073709551616 : Int) == b.v * q.v / (18446744073709551616 : Int) &&
                                                                  (q.v * b.v % (18446744073709551616 : Int) == b.v * q.v % (18446744073709551616 : Int) && true)) =
                                                                true ∧
                                                              True ∧ True)) ∧
                                                ((v_1 == v) = false → q.Ok ∧ b.Ok ∧ r.Ok → False ∧ True ∧ True)) ∧
                                            (((if b.v = (0 : Int) then (0 : Int)
                                                      else
                                                        wN
                                                            ((if
                                                                  wN (q.v * b.v / (18446744073709551616 : Int)) (q.v * b.v % (18446744073709551616 : Int)) + wN (0 : Int) v <
                                                                    two128 then
                                                                wN (q.v * b.v / (18446744073709551616 : Int)) (q.v * b.v % (18446744073709551616 : Int)) + wN (0 : Int) v
                                                              else (0 : Int)) /
                                                              (18446744073709551616 : Int))
                                                            ((if
                                                                  wN (q.v * b.v / (18446744073709551616 : Int)) (q.v * b.v % (18446744073709551616 : Int)) + wN (0 : Int) v <
                                                                    two128 then
                                                                wN (q.v * b.v / (18446744073709551616 : Int)) (q.v * b.v % (18446744073709551616 : Int)) + wN (0 : Int) v
                                                              else (0 : Int)) %
                                                              (18446744073709551616 : Int)) /
                                                          b.v) /
                                                      (18446744073709551616 : Int) ==
                                                    (0 : Int) &&
                                                  ((if b.v = (0 : Int) then (0 : Int)
                                                        else
                                                          wN
                                                              ((if
                                                                    wN (q.v * b.v / (18446744073709551616 : Int)) (q.v * b.v % (18446744073709551616 : Int)) + wN (0 : Int) v <
                                                                      two128 then
                                                                  wN (q.v * b.v / (18446744073709551616 : Int)) (q.v * b.v % (18446744073709551616 : Int)) + wN (0 : Int) v
                                                                else (0 : Int)) /
                                                                (18446744073709551616 : Int))
                                                              ((if
                                                                    wN (q.v * b.v / (18446744073709551616 : Int)) (q.v * b.v % (18446744073709551616 : Int)) + wN (0 : Int) v <
                                                                      two128 then
                                                                  wN (q.v * b.v / (18446744073709551616 : Int)) (q.v * b.v % (18446744073709551616 : Int)) + wN (0 : Int) v
                                                                else (0 : Int)) %
                                                                (18446744073709551616 : Int)) /
                                                            b.v) %
                                                        (18446744073709551616 : Int) ==
                                                      q.v &&
                                                    true)) =
                                                false →
                                              q.Ok ∧ b.Ok ∧ r.Ok → False ∧ True ∧ True)) ∧
                                        (decide (b.v ≠ (0 : Int)) = false → q.Ok ∧ b.Ok ∧ r.Ok → False ∧ True ∧ True)) ∧
                                    (decide (wN (q.v * b.v / (18446744073709551616 : Int)) (q.v * b.v % (18446744073709551616 : Int)) + wN (0 : Int) v < two128) = false →
                                      q.Ok ∧ b.Ok ∧ r.Ok → False ∧ True ∧ True)) := by
  simp only [true_and, and_true, eq_self, decide_eq_true_eq, decide_eq_false_iff_not, beq_iff_eq, beq_eq_false_iff_ne, and_self, Int.not_lt, ne_eq, Bool.not_eq_true']
  rintro ⟨q⟩ ⟨b⟩ ⟨r⟩ ⟨⟨hq, hq'⟩, ⟨hb, hb'⟩, hr, hr'⟩
  dsimp only at hq hq' hb hb' hr hr' ⊢
  have hcomm : b * q = q * b := Int.mul_comm _ _
  have hp := mul_b64 ⟨hq, hq'⟩ ⟨hb, hb'⟩
  have hp2 := mul_b64 ⟨hq, hq'⟩ ⟨hr, hr'⟩
  simp only [wNdm, wN0, hcomm, two128]
  generalize q * r = p2 at *
  refine ⟨fun h => ?_, fun h => ?_⟩
  · try dsimp only
    repeat' (with_reducible first | assumption | apply And.intro | intro _)
    all_goals (try simp only [cond_dec, decide_eq_decide] at *)
    all_goals (first | omega | ((repeat' (first | omega | split)) <;> (try dsimp only) <;> (try (first | omega | contradiction | (subst_vars; first | rfl | omega) | (simp_all; done) | (simp_all; omega)))))
  · simp only [if_neg h, Int.tmod_eq_emod_of_nonneg hr]
    have m1 := Int.emod_nonneg r h
    have m2 := Int.emod_lt_of_pos r (show 0 < b by omega)
    have hbound : q * b + r % b < 340282366920938463463374607431768211456 := by omega
    have d1 : (q * b + r % b) / b = q := by
      rw [Int.add_comm, Int.add_mul_ediv_right _ _ h, Int.ediv_eq_zero_of_lt m1 m2, Int.zero_add]
    have d2 : (q * b + r % b) % b = r % b := by
      rw [Int.add_comm, Int.add_mul_emod_self_right, Int.emod_emod]
    have e1 : ∀ v : Int, v = r % b → (if q * b + v < 340282366920938463463374607431768211456 then q * b + v else 0) = q * b + r % b := fun v hv => by rw [hv, if_pos hbound]
    refine ⟨h, fun v hv => ?_⟩
    simp only [e1 v hv, d1, d2]
    generalize q * b = p at *
    try dsimp only
    repeat' (with_reducible first | assumption | apply And.intro | intro _)
    all_goals (try simp only [cond_dec, decide_eq_decide] at *)
    all_goals (first | omega | ((repeat' (first | omega | split)) <;> (try dsimp only) <;> (try (first | omega | contradiction | (subst_vars; first | rfl | omega) | (simp_all; done) | (simp_all; omega)))))

def divs_C (_ : (A64 × A64 × A64)) : Cfg := { Γ := Go.Sx.look tDivs, names := true }
theorem divs_al (x : (A64 × A64 × A64)) : Shown (u3P.vc Try.prog (divs_C x) Try.f7 x) := ⟨@Eq.mp _ _ (by kernel_rfl) (divs_vc (x.1) (x.2.1) (x.2.2))⟩
theorem divs_ok : SpOk Try.prog 7 u3P.sp := @Pat.okS _ u3P Try.prog divs_C 7 Try.f7 (fun x => cfg_tab rfl tDivs_ok) (by kernel_rfl) Try.func7 (fun _ => rfl) divs_al
end Go.Proofs.Ytaaploablbkilaa
