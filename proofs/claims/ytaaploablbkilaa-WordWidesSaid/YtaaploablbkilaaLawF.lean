import Derived.Test.YtaaploablbkilaaLawC
open Go Go.Sx Go.Proofs
open Go.ChangeShapes Go.WideShapes Go.ChangeAt Go.RowKit
set_option maxRecDepth 100000
namespace Go.Proofs.Ytaaploablbkilaa

theorem add_ok : SpOk Try.prog 24 addP.sp := Pat.ok (C := addC) (fun _ => cfg_tab rfl (tab_cons bit_ok (tab_cons with_ok tab_nil))) (by kernel_rfl) Try.func24 (fun _ => rfl) fun ⟨⟨a, b⟩, c, d⟩ => add_all a b c d
theorem rmul_ok : SpOk Try.prog 29 rmulP.sp := Pat.ok (C := rmulC) (fun _ => cfg_tab rfl (tab_cons dbl_ok (tab_cons add_ok tab_nil))) (by kernel_rfl) Try.func29 (fun _ => rfl) fun ⟨a, b⟩ => rmul_all a b
structure AW where
  hi : Int
  lo : Int
def AW.t (x : AW) : T := wT x.hi x.lo
def AW.Ok (x : AW) : Prop := u64 x.hi ∧ u64 x.lo
def widesP : Pat (AW × AW × A64 × A64) where
  view _ _ := none
  args x := [x.1.t, x.2.1.t, x.2.2.1.t, x.2.2.2.t]
  H _ := []
  out x := .need (x.1.Ok ∧ x.2.1.Ok ∧ x.2.2.1.Ok ∧ x.2.2.2.Ok) (.retq .tt)
def widesMode : Nat → Nat
  | 4 => 1
  | _ => 0
def widesLocks : Nat → List Nat
  | 4 => [0, 1]
  | _ => []


def tWides : Tab := [(9, aliveP.sp), (23, addP.sp), (24, addP.sp), (25, ofPt.sp), (26, wdivP.sp), (27, wdivP.sp), (28, mulWP.sp), (29, rmulP.sp), (30, wcmpPt.sp), (31, rcmpPt.sp)]
theorem tWides_ok : TabOk Try.prog tWides := (tab_cons alive_ok (tab_cons addW_ok (tab_cons add_ok (tab_cons of_ok (tab_cons wdiv_ok (tab_cons rdiv_ok (tab_cons mulW_ok (tab_cons rmul_ok (tab_cons wcmp_ok (tab_cons rcmp_ok tab_nil))))))))))

theorem wides_vc : ∀ (a b : AW) (x y : A64),
    (a.Ok ∧ b.Ok ∧ x.Ok ∧ y.Ok) ∧ True →
      (True ∧ True) ∧
        (((a.hi = a.hi ∧ a.lo = a.lo ∧ True) ∧ (b.hi = b.hi ∧ b.lo = b.lo ∧ True) ∧ True) ∧ True) ∧
          ((((0 : Int) ≤ a.hi ∧ a.hi < (18446744073709551616 : Int)) ∧ (0 : Int) ≤ a.lo ∧ a.lo < (18446744073709551616 : Int)) ∧
              ((0 : Int) ≤ b.hi ∧ b.hi < (18446744073709551616 : Int)) ∧ (0 : Int) ≤ b.lo ∧ b.lo < (18446744073709551616 : Int)) ∧
            ((((a.hi = a.hi ∧ a.lo = a.lo ∧ True) ∧ True) ∧ True) ∧
                ((((b.hi = b.hi ∧ b.lo = b.lo ∧ True) ∧ True) ∧ True) ∧
                    ((((a.hi = a.hi ∧ a.lo = a.lo ∧ True) ∧ (b.hi = b.hi ∧ b.lo = b.lo ∧ True) ∧ True) ∧ True) ∧
                        ((((0 : Int) ≤ a.hi ∧ a.hi < (18446744073709551616 : Int)) ∧ (0 : Int) ≤ a.lo ∧ a.lo < (18446744073709551616 : Int)) ∧
                            ((0 : Int) ≤ b.hi ∧ b.hi < (18446744073709551616 : Int)) ∧ (0 : Int) ≤ b.lo ∧ b.lo < (18446744073709551616 : Int)) ∧
                          (((a.hi = a.hi ∧ a.lo = a.lo ∧ True) ∧ x.v = x.v ∧ True) ∧ True) ∧
                            ((((0 : Int) ≤ a.hi ∧ a.hi < (18446744073709551616 : Int)) ∧ (0 : Int) ≤ a.lo ∧ a.lo < (18446744073709551616 : Int)) ∧
                                (0 : Int) ≤ x.v ∧ x.v < (18446744073709551616 : Int)) ∧
                              ∀ (v : Int),
                                (v = if x.v = (0 : Int) then (0 : Int) else wN a.hi a.lo % x.v) →
                                  (((a.hi = a.hi ∧ a.lo = a.lo ∧ True) ∧ True) ∧ True) ∧
                                    (((a.hi = a.hi ∧ a.lo = a.lo ∧ True) ∧ x.v = x.v ∧ True) ∧ True) ∧
                                      ((((0 : Int) ≤ a.hi ∧ a.hi < (18446744073709551616 : Int)) ∧ (0 : Int) ≤ a.lo ∧ a.lo < (18446744073709551616 : Int)) ∧
                                          (0 : Int) ≤ x.v ∧ x.v < (18446744073709551616 : Int)) ∧
                                        ∀ (v_1 : Int),
                                          (v_1 = if x.v = (0 : Int) then (0 : Int) else wN a.hi a.lo % x.v) →
                                            ((x.v = x.v ∧ y.v = y.v ∧ True) ∧ True) ∧
                                              (((0 : Int) ≤ x.v ∧ x.v < (18446744073709551616 : Int)) ∧ (0 : Int) ≤ y.v ∧ y.v < (18446744073709551616 : Int)) ∧
                                                (((x.v * y.v / (18446744073709551616 : Int) = x.v * y.v / (18446744073709551616 : Int) ∧
                                                        x.v * y.v % (18446744073709551616 : Int) = x.v * y.v % (18446744073709551616 : Int) ∧ True) ∧
                                                      True) ∧
                                                    True) ∧
                                                  ((x.v = x.v ∧ y.v = y.v ∧ True) ∧ True) ∧
                                                    (((0 : Int) ≤ x.v ∧ x.v < (18446744073709551616 : Int)) ∧ (0 : Int) ≤ y.v ∧ y.v < (18446744073709551616 : Int)) ∧
                                                      ((x.v * y.v / (18446744073709551616 : Int) == x.v * y.v / (18446744073709551616 : Int) &&
                                                              (x.v * y.v % (18446744073709551616 : Int) == x.v * y.v % (18446744073709551616 : Int) && true)) =
                                                            true →
                                                          ((((if wN a.hi a.lo + wN b.hi b.lo < two128 then wN a.hi a.lo + wN b.hi b.lo else (0 : Int)) /
                                                                      (18446744073709551616 : Int) =
                                                                    (if wN a.hi a.lo + wN b.hi b.lo < two128 then wN a.hi a.lo + wN b.hi b.lo else (0 : Int)) /
                                                                      (18446744073709551616 : Int) ∧
                                                                  (if wN a.hi a.lo + wN b.hi b.lo < two128 then wN a.hi a.lo + wN b.hi b.lo else (0 : Int)) %
                                                                        (18446744073709551616 : Int) =
                                                                      (if wN a.hi a.lo + wN b.hi b.lo < two128 then wN a.hi a.lo + wN b.hi b.lo else (0 : Int)) %
                                                                        (18446744073709551616 : Int) ∧
                                                                    True) ∧
                                                                True) ∧
                                                              True) ∧
                                                            (((if wN a.hi a.lo + wN b.hi b.lo < two128 then wN a.hi a.lo + wN b.hi b.lo else (0 : Int)) /
                                                                        (18446744073709551616 : Int) ==
                                                                      (if wN a.hi a.lo + wN b.hi b.lo < two128 then wN a.hi a.lo + wN b.hi b.lo else (0 : Int)) /
                                                                        (18446744073709551616 : Int) &&
                                                                    ((if wN a.hi a.lo + wN b.hi b.lo < two128 then wN a.hi a.lo + wN b.hi b.lo else (0 : Int)) %
                                                                          (18446744073709551616 : Int) ==
                                                                        (if wN a.hi a.lo + wN b.hi b.lo < two128 then wN a.hi a.lo + wN b.hi b.lo else (0 : Int)) %
                                                                          (18446744073709551616 : Int) &&
                                                                      true)) =
                                                                  true →
                                                                ((decide (wN a.hi a.lo + wN b.hi b.lo < two128) == decide (wN a.hi a.lo + wN b.hi b.lo < two128)) = true →
                                                                    (((a.hi = a.hi ∧ a.lo = a.lo ∧ True) ∧ (b.hi = b.hi ∧ b.lo = b.lo ∧ True) ∧ True) ∧ True) ∧
                                                                      ((((0 : Int) ≤ a.hi ∧ a.hi < (18446744073709551616 : Int)) ∧
                                                                            (0 : Int) ≤ a.lo ∧ a.lo < (18446744073709551616 : Int)) ∧
                                                                          ((0 : Int) ≤ b.hi ∧ b.hi < (18446744073709551616 : Int)) ∧
                                                                            (0 : Int) ≤ b.lo ∧ b.lo < (18446744073709551616 : Int)) ∧
                                                                        (((a.hi = a.hi ∧ a.lo = a.lo ∧ True) ∧ True) ∧ True) ∧
                                                                          (((b.hi = b.hi ∧ b.lo = b.lo ∧ True) ∧ True) ∧ True) ∧
                                                                            (((a.hi = a.hi ∧ a.lo = a.lo ∧ True) ∧ (b.hi = b.hi ∧ b.lo = b.lo ∧ True) ∧ True) ∧ True) ∧
                                                                              ((((0 : Int) ≤ a.hi ∧ a.hi < (18446744073709551616 : Int)) ∧
                                                                                    (0 : Int) ≤ a.lo ∧ a.lo < (18446744073709551616 : Int)) ∧
                                                                                  ((0 : Int) ≤ b.hi ∧ b.hi < (18446744073709551616 : Int)) ∧
                                                                                    (0 : Int) ≤ b.lo ∧ b.lo < (18446744073709551616 : Int)) ∧
                                                                                ((wcmp a.hi a.lo b.hi b.lo == wcmp a.hi a.lo b.hi b.lo) = true →
                                                                                    ((((if x.v = (0 : Int) then (0 : Int) else wN a.hi a.lo / x.v) / (18446744073709551616 : Int) =
                                                                                              (if x.v = (0 : Int) then (0 : Int) else wN a.hi a.lo / x.v) /
                                                                                                (18446744073709551616 : Int) ∧
                                                                                            (if x.v = (0 : Int) then (0 : Int) else wN a.hi a.lo / x.v) %
                                                                                                  (18446744073709551616 : Int) =
                                                                                                (if x.v = (0 : Int) then (0 : Int) else wN a.hi a.lo / x.v) %
                                                                                                  (18446744073709551616 : Int) ∧
                                                                                              True) ∧
                                                                                          True) ∧
                                                                                        True) ∧
                                                                                      (((if x.v = (0 : Int) then (0 : Int) else wN a.hi a.lo / x.v) / (18446744073709551616 : Int) ==
                                                                                                (if x.v = (0 : Int) then (0 : Int) else wN a.hi a.lo / x.v) /
                                                                                                  (18446744073709551616 : Int) &&
                                                                                              ((if x.v = (0 : Int) then (0 : Int) else wN a.hi a.lo / x.v) %
                                                                                                    (18446744073709551616 : Int) ==
                                                                                                  (if x.v = (0 : Int) then (0 : Int) else wN a.hi a.lo / x.v) %
                                                                                                    (18446744073709551616 : Int) &&
                                                                                                true)) =
                                                                                            true →
                                                                                          ((v == v_1) = true →
                                                                                              a.Ok ∧ b.Ok ∧ x.Ok ∧ y.Ok →
                                                                                                (decide (x.v ≠ (0 : Int)) == decide (x.v ≠ (0 : Int))) = true ∧ True ∧ True) ∧
                                                                                            ((v == v_1) = false → a.Ok ∧ b.Ok ∧ x.Ok ∧ y.Ok → False ∧ True ∧ True)) ∧
                                                                                        (((if x.v = (0 : Int) then (0 : Int) else wN a.hi a.lo / x.v) /
                                                                                                  (18446744073709551616 : Int) ==
                                                                                                (if x.v = (0 : Int) then (0 : Int) else wN a.hi a.lo / x.v) /
                                                                                                  (18446744073709551616 : Int) &&
                                                                                              ((if x.v = (0 : Int) then (0 : Int) else wN a.hi a.lo / x.v) %
                                                                                                    (18446744073709551616 : Int) ==
                                                                                                  (if x.v = (0 : Int) then (0 : Int) else wN a.hi a.lo / x.v) %
                                                                                                    (18446744073709551616 : Int) &&
                                                                                                true)) =
                                                                                            false →
                                                                                          a.Ok ∧ b.Ok ∧ x.Ok ∧ y.Ok → False ∧ True ∧ True)) ∧
                                                                                  ((wcmp a.hi a.lo b.hi b.lo == wcmp a.hi a.lo b.hi b.lo) = false →
                                                                                    a.Ok ∧ b.Ok ∧ x.Ok ∧ y.Ok → False ∧ True ∧ True)) ∧
                                                                  ((decide (wN a.hi a.lo + wN b.hi b.lo < two128) == decide (wN a.hi a.lo + wN b.hi b.lo < two128)) = false →
                                                                    a.Ok ∧ b.Ok ∧ x.Ok ∧ y.Ok → False ∧ True ∧ True)) ∧
                                                              (((if wN a.hi a.lo + wN b.hi b.lo < two128 then wN a.hi a.lo + wN b.hi b.lo else (0 : Int)) /
                                                                        (18446744073709551616 : Int) ==
                                                                      (if wN a.hi a.lo + wN b.hi b.lo < two128 then wN a.hi a.lo + wN b.hi b.lo else (0 : Int)) /
                                                                        (18446744073709551616 : Int) &&
                                                                    ((if wN a.hi a.lo + wN b.hi b.lo < two128 then wN a.hi a.lo + wN b.hi b.lo else (0 : Int)) %
                                                                          (18446744073709551616 : Int) ==
                                                                        (if wN a.hi a.lo + wN b.hi b.lo < two128 then wN a.hi a.lo + wN b.hi b.lo else (0 : Int)) %
                                                                          (18446744073709551616 : Int) &&
                                                                      true)) =
                                                                  false →
                                                                a.Ok ∧ b.Ok ∧ x.Ok ∧ y.Ok → False ∧ True ∧ True)) ∧
                                                        ((x.v * y.v / (18446744073709551616 : Int) == x.v * y.v / (18446744073709551616 : Int) &&
                                                              (x.v * y.v % (18446744073709551616 : Int) == x.v * y.v % (18446744073709551616 : Int) && true)) =
                                                            false →
                                                          a.Ok ∧ b.Ok ∧ x.Ok ∧ y.Ok → False ∧ True ∧ True)) ∧
                      (((a.hi = a.hi ∧ a.lo = a.lo ∧ True) ∧ (b.hi = b.hi ∧ b.lo = b.lo ∧ True) ∧ True) ∧ True) ∧
                        ((((0 : Int) ≤ a.hi ∧ a.hi < (18446744073709551616 : Int)) ∧ (0 : Int) ≤ a.lo ∧ a.lo < (18446744073709551616 : Int)) ∧
                            ((0 : Int) ≤ b.hi ∧ b.hi < (18446744073709551616 : Int)) ∧ (0 : Int) ≤ b.lo ∧ b.lo < (18446744073709551616 : Int)) ∧
                          (((a.hi = a.hi ∧ a.lo = a.lo ∧ True) ∧ x.v = x.v ∧ True) ∧ True) ∧
                            ((((0 : Int) ≤ a.hi ∧ a.hi < (18446744073709551616 : Int)) ∧ (0 : Int) ≤ a.lo ∧ a.lo < (18446744073709551616 : Int)) ∧
                                (0 : Int) ≤ x.v ∧ x.v < (18446744073709551616 : Int)) ∧
                              ∀ (v : Int),
                                (v = if x.v = (0 : Int) then (0 : Int) else wN a.hi a.lo % x.v) →
                                  (((a.hi = a.hi ∧ a.lo = a.lo ∧ True) ∧ True) ∧ True) ∧
                                    (((a.hi = a.hi ∧ a.lo = a.lo ∧ True) ∧ x.v = x.v ∧ True) ∧ True) ∧
                                      ((((0 : Int) ≤ a.hi ∧ a.hi < (18446744073709551616 : Int)) ∧ (0 : Int) ≤ a.lo ∧ a.lo < (18446744073709551616 : Int)) ∧
                                          (0 : Int) ≤ x.v ∧ x.v < (18446744073709551616 : Int)) ∧
                                        ∀ (v_1 : Int),
                                          (v_1 = if x.v = (0 : Int) then (0 : Int) else wN a.hi a.lo % x.v) →
                                            ((x.v = x.v ∧ y.v = y.v ∧ True) ∧ True) ∧
                                              (((0 : Int) ≤ x.v ∧ x.v < (18446744073709551616 : Int)) ∧ (0 : Int) ≤ y.v ∧ y.v < (18446744073709551616 : Int)) ∧
                                                (((x.v * y.v / (18446744073709551616 : Int) = x.v * y.v / (18446744073709551616 : Int) ∧
                                                        x.v * y.v % (18446744073709551616 : Int) = x.v * y.v % (18446744073709551616 : Int) ∧ True) ∧
                                                      True) ∧
                                                    True) ∧
                                                  ((x.v = x.v ∧ y.v = y.v ∧ True) ∧ True) ∧
                                                    (((0 : Int) ≤ x.v ∧ x.v < (18446744073709551616 : Int)) ∧ (0 : Int) ≤ y.v ∧ y.v < (18446744073709551616 : Int)) ∧
                                                      ((x.v * y.v / (18446744073709551616 : Int) == x.v * y.v / (18446744073709551616 : Int) &&
                                                              (x.v * y.v % (18446744073709551616 : Int) == x.v * y.v % (18446744073709551616 : Int) && true)) =
                                                            true →
                                                          ((((if wN a.hi a.lo + wN b.hi b.lo < two128 then wN a.hi a.lo + wN b.hi b.lo else (0 : Int)) /
                                                                      (18446744073709551616 : Int) =
                                                                    (if wN a.hi a.lo + wN b.hi b.lo < two128 then wN a.hi a.lo + wN b.hi b.lo else (0 : Int)) /
                                                                      (18446744073709551616 : Int) ∧
                                                                  (if wN a.hi a.lo + wN b.hi b.lo < two128 then wN a.hi a.lo + wN b.hi b.lo else (0 : Int)) %
                                                                        (18446744073709551616 : Int) =
                                                                      (if wN a.hi a.lo + wN b.hi b.lo < two128 then wN a.hi a.lo + wN b.hi b.lo else (0 : Int)) %
                                                                        (18446744073709551616 : Int) ∧
                                                                    True) ∧
                                                                True) ∧
                                                              True) ∧
                                                            (((if wN a.hi a.lo + wN b.hi b.lo < two128 then wN a.hi a.lo + wN b.hi b.lo else (0 : Int)) /
                                                                        (18446744073709551616 : Int) ==
                                                                      (if wN a.hi a.lo + wN b.hi b.lo < two128 then wN a.hi a.lo + wN b.hi b.lo else (0 : Int)) /
                                                                        (18446744073709551616 : Int) &&
                                                                    ((if wN a.hi a.lo + wN b.hi b.lo < two128 then wN a.hi a.lo + wN b.hi b.lo else (0 : Int)) %
                                                                          (18446744073709551616 : Int) ==
                                                                        (if wN a.hi a.lo + wN b.hi b.lo < two128 then wN a.hi a.lo + wN b.hi b.lo else (0 : Int)) %
                                                                          (18446744073709551616 : Int) &&
                                                                      true)) =
                                                                  true →
                                                                ((decide (wN a.hi a.lo + wN b.hi b.lo < two128) == decide (wN a.hi a.lo + wN b.hi b.lo < two128)) = true →
                                                                    (((a.hi = a.hi ∧ a.lo = a.lo ∧ True) ∧ (b.hi = b.hi ∧ b.lo = b.lo ∧ True) ∧ True) ∧ True) ∧
                                                                      ((((0 : Int) ≤ a.hi ∧ a.hi < (18446744073709551616 : Int)) ∧
                                                                            (0 : Int) ≤ a.lo ∧ a.lo < (18446744073709551616 : Int)) ∧
                                                                          ((0 : Int) ≤ b.hi ∧ b.hi < (18446744073709551616 : Int)) ∧
                                                                            (0 : Int) ≤ b.lo ∧ b.lo < (18446744073709551616 : Int)) ∧
                                                                        (((a.hi = a.hi ∧ a.lo = a.lo ∧ True) ∧ True) ∧ True) ∧
                                                                          (((b.hi = b.hi ∧ b.lo = b.lo ∧ True) ∧ True) ∧ True) ∧
                                                                            (((a.hi = a.hi ∧ a.lo = a.lo ∧ True) ∧ (b.hi = b.hi ∧ b.lo = b.lo ∧ True) ∧ True) ∧ True) ∧
                                                                              ((((0 : Int) ≤ a.hi ∧ a.hi < (18446744073709551616 : Int)) ∧
                                                                                    (0 : Int) ≤ a.lo ∧ a.lo < (18446744073709551616 : Int)) ∧
                                                                                  ((0 : Int) ≤ b.hi ∧ b.hi < (18446744073709551616 : Int)) ∧
                                                                                    (0 : Int) ≤ b.lo ∧ b.lo < (18446744073709551616 : Int)) ∧
                                                                                ((wcmp a.hi a.lo b.hi b.lo == wcmp a.hi a.lo b.hi b.lo) = true →
                                                                                    ((((if x.v = (0 : Int) then (0 : Int) else wN a.hi a.lo / x.v) / (18446744073709551616 : Int) =
                                                                                              (if x.v = (0 : Int) then (0 : Int) else wN a.hi a.lo / x.v) /
                                                                                                (18446744073709551616 : Int) ∧
                                                                                            (if x.v = (0 : Int) then (0 : Int) else wN a.hi a.lo / x.v) %
                                                                                                  (18446744073709551616 : Int) =
                                                                                                (if x.v = (0 : Int) then (0 : Int) else wN a.hi a.lo / x.v) %
                                                                                                  (18446744073709551616 : Int) ∧
                                                                                              True) ∧
                                                                                          True) ∧
                                                                                        True) ∧
                                                                                      (((if x.v = (0 : Int) then (0 : Int) else wN a.hi a.lo / x.v) / (18446744073709551616 : Int) ==
                                                                                                (if x.v = (0 : Int) then (0 : Int) else wN a.hi a.lo / x.v) /
                                                                                                  (18446744073709551616 : Int) &&
                                                                                              ((if x.v = (0 : Int) then (0 : Int) else wN a.hi a.lo / x.v) %
                                                                                                    (18446744073709551616 : Int) ==
                                                                                                  (if x.v = (0 : Int) then (0 : Int) else wN a.hi a.lo / x.v) %
                                                                                                    (18446744073709551616 : Int) &&
                                                                                                true)) =
                                                                                            true →
                                                                                          ((v == v_1) = true →
                                                                                              a.Ok ∧ b.Ok ∧ x.Ok ∧ y.Ok →
                                                                                                (decide (x.v ≠ (0 : Int)) == decide (x.v ≠ (0 : Int))) = true ∧ True ∧ True) ∧
                                                                                            ((v == v_1) = false → a.Ok ∧ b.Ok ∧ x.Ok ∧ y.Ok → False ∧ True ∧ True)) ∧
                                                                                        (((if x.v = (0 : Int) then (0 : Int) else wN a.hi a.lo / x.v) /
                                                                                                  (18446744073709551616 : Int) ==
                                                                                                (if x.v = (0 : Int) then (0 : Int) else wN a.hi a.lo / x.v) /
                                                                                                  (18446744073709551616 : Int) &&
                                                                                              ((if x.v = (0 : Int) then (0 : Int) else wN a.hi a.lo / x.v) %
                                                                                                    (18446744073709551616 : Int) ==
                                                                                                  (if x.v = (0 : Int) then (0 : Int) else wN a.hi a.lo / x.v) %
                                                                                                    (18446744073709551616 : Int) &&
                                                                                                true)) =
                                                                                            false →
                                                                                          a.Ok ∧ b.Ok ∧ x.Ok ∧ y.Ok → False ∧ True ∧ True)) ∧
                                                                                  ((wcmp a.hi a.lo b.hi b.lo == wcmp a.hi a.lo b.hi b.lo) = false →
                                                                                    a.Ok ∧ b.Ok ∧ x.Ok ∧ y.Ok → False ∧ True ∧ True)) ∧
                                                                  ((decide (wN a.hi a.lo + wN b.hi b.lo < two128) == decide (wN a.hi a.lo + wN b.hi b.lo < two128)) = false →
                                                                    a.Ok ∧ b.Ok ∧ x.Ok ∧ y.Ok → False ∧ True ∧ True)) ∧
                                                              (((if wN a.hi a.lo + wN b.hi b.lo < two128 then wN a.hi a.lo + wN b.hi b.lo else (0 : Int)) /
                                                                        (18446744073709551616 : Int) ==
                                                                      (if wN a.hi a.lo + wN b.hi b.lo < two128 then wN a.hi a.lo + wN b.hi b.lo else (0 : Int)) /
                                                                        (18446744073709551616 : Int) &&
                                                                    ((if wN a.hi a.lo + wN b.hi b.lo < two128 then wN a.hi a.lo + wN b.hi b.lo else (0 : Int)) %
                                                                          (18446744073709551616 : Int) ==
                                                                        (if wN a.hi a.lo + wN b.hi b.lo < two128 then wN a.hi a.lo + wN b.hi b.lo else (0 : Int)) %
                                                                          (18446744073709551616 : Int) &&
                                                                      true)) =
                                                                  false →
                                                                a.Ok ∧ b.Ok ∧ x.Ok ∧ y.Ok → False ∧ True ∧ True)) ∧
                                                        ((x.v * y.v / (18446744073709551616 : Int) == x.v * y.v / (18446744073709551616 : Int) &&
                                                              (x.v * y.v % (18446744073709551616 : Int) == x.v * y.v % (18446744073709551616 : Int) && true)) =
                                                            false →
                                                          a.Ok ∧ b.Ok ∧ x.Ok ∧ y.Ok → False ∧ True ∧ True)) ∧
                  (((b.hi = b.hi ∧ b.lo = b.lo ∧ True) ∧ True) ∧ True) ∧
                    (((a.hi = a.hi ∧ a.lo = a.lo ∧ True) ∧ (b.hi = b.hi ∧ b.lo = b.lo ∧ True) ∧ True) ∧ True) ∧
                      ((((0 : Int) ≤ a.hi ∧ a.hi < (18446744073709551616 : Int)) ∧ (0 : Int) ≤ a.lo ∧ a.lo < (18446744073709551616 : Int)) ∧
                          ((0 : Int) ≤ b.hi ∧ b.hi < (18446744073709551616 : Int)) ∧ (0 : Int) ≤ b.lo ∧ b.lo < (18446744073709551616 : Int)) ∧
                        (((a.hi = a.hi ∧ a.lo = a.lo ∧ True) ∧ x.v = x.v ∧ True) ∧ True) ∧
                          ((((0 : Int) ≤ a.hi ∧ a.hi < (18446744073709551616 : Int)) ∧ (0 : Int) ≤ a.lo ∧ a.lo < (18446744073709551616 : Int)) ∧
                              (0 : Int) ≤ x.v ∧ x.v < (18446744073709551616 : Int)) ∧
                            ∀ (v : Int),
                              (v = if x.v = (0 : Int) then (0 : Int) else wN a.hi a.lo % x.v) →
                                (((a.hi = a.hi ∧ a.lo = a.lo ∧ True) ∧ True) ∧ True) ∧
                                  (((a.hi = a.hi ∧ a.lo = a.lo ∧ True) ∧ x.v = x.v ∧ True) ∧ True) ∧
                                    ((((0 : Int) ≤ a.hi ∧ a.hi < (18446744073709551616 : Int)) ∧ (0 : Int) ≤ a.lo ∧ a.lo < (18446744073709551616 : Int)) ∧
                                        (0 : Int) ≤ x.v ∧ x.v < (18446744073709551616 : Int)) ∧
                                      ∀ (v_1 : Int),
                                        (v_1 = if x.v = (0 : Int) then (0 : Int) else wN a.hi a.lo % x.v) →
                                          ((x.v = x.v ∧ y.v = y.v ∧ True) ∧ True) ∧
                                            (((0 : Int) ≤ x.v ∧ x.v < (18446744073709551616 : Int)) ∧ (0 : Int) ≤ y.v ∧ y.v < (18446744073709551616 : Int)) ∧
                                              (((x.v * y.v / (18446744073709551616 : Int) = x.v * y.v / (18446744073709551616 : Int) ∧
                                                      x.v * y.v % (18446744073709551616 : Int) = x.v * y.v % (18446744073709551616 : Int) ∧ True) ∧
                                                    True) ∧
                                                  True) ∧
                                                ((x.v = x.v ∧ y.v = y.v ∧ True) ∧ True) ∧
                                                  (((0 : Int) ≤ x.v ∧ x.v < (18446744073709551616 : Int)) ∧ (0 : Int) ≤ y.v ∧ y.v < (18446744073709551616 : Int)) ∧
                                                    ((x.v * y.v / (18446744073709551616 : Int) == x.v * y.v / (18446744073709551616 : Int) &&
                                                            (x.v * y.v % (18446744073709551616 : Int) == x.v * y.v % (18446744073709551616 : Int) && true)) =
                                                          true →
                                                        ((((if wN a.hi a.lo + wN b.hi b.lo < two128 then wN a.hi a.lo + wN b.hi b.lo else (0 : Int)) / (18446744073709551616 : Int) =
                                                                  (if wN a.hi a.lo + wN b.hi b.lo < two128 then wN a.hi a.lo + wN b.hi b.lo else (0 : Int)) /
                                                                    (18446744073709551616 : Int) ∧
                                                                (if wN a.hi a.lo + wN b.hi b.lo < two128 then wN a.hi a.lo + wN b.hi b.lo else (0 : Int)) %
                                                                      (18446744073709551616 : Int) =
                                                                    (if wN a.hi a.lo + wN b.hi b.lo < two128 then wN a.hi a.lo + wN b.hi b.lo else (0 : Int)) %
                                                                      (18446744073709551616 : Int) ∧
                                                                  True) ∧
                                                              True) ∧
                                                            True) ∧
                                                          (((if wN a.hi a.lo + wN b.hi b.lo < two128 then wN a.hi a.lo + wN b.hi b.lo else (0 : Int)) /
                                                                      (18446744073709551616 : Int) ==
                                                                    (if wN a.hi a.lo + wN b.hi b.lo < two128 then wN a.hi a.lo + wN b.hi b.lo else (0 : Int)) /
                                                                      (18446744073709551616 : Int) &&
                                                                  ((if wN a.hi a.lo + wN b.hi b.lo < two128 then wN a.hi a.lo + wN b.hi b.lo else (0 : Int)) %
                                                                        (18446744073709551616 : Int) ==
                                                                      (if wN a.hi a.lo + wN b.hi b.lo < two128 then wN a.hi a.lo + wN b.hi b.lo else (0 : Int)) %
                                                                        (18446744073709551616 : Int) &&
                                                                    true)) =
                                                                true →
                                                              ((decide (wN a.hi a.lo + wN b.hi b.lo < two128) == decide (wN a.hi a.lo + wN b.hi b.lo < two128)) = true →
                                                                  (((a.hi = a.hi ∧ a.lo = a.lo ∧ True) ∧ (b.hi = b.hi ∧ b.lo = b.lo ∧ True) ∧ True) ∧ True) ∧
                                                                    ((((0 : Int) ≤ a.hi ∧ a.hi < (18446744073709551616 : Int)) ∧
                                                                          (0 : Int) ≤ a.lo ∧ a.lo < (18446744073709551616 : Int)) ∧
                                                                        ((0 : Int) ≤ b.hi ∧ b.hi < (18446744073709551616 : Int)) ∧
                                                                          (0 : Int) ≤ b.lo ∧ b.lo < (18446744073709551616 : Int)) ∧
                                                                      (((a.hi = a.hi ∧ a.lo = a.lo ∧ True) ∧ True) ∧ True) ∧
                                                                        (((b.hi = b.hi ∧ b.lo = b.lo ∧ True) ∧ True) ∧ True) ∧
                                                                          (((a.hi = a.hi ∧ a.lo = a.lo ∧ True) ∧ (b.hi = b.hi ∧ b.lo = b.lo ∧ True) ∧ True) ∧ True) ∧
                                                                            ((((0 : Int) ≤ a.hi ∧ a.hi < (18446744073709551616 : Int)) ∧
                                                                                  (0 : Int) ≤ a.lo ∧ a.lo < (18446744073709551616 : Int)) ∧
                                                                                ((0 : Int) ≤ b.hi ∧ b.hi < (18446744073709551616 : Int)) ∧
                                                                                  (0 : Int) ≤ b.lo ∧ b.lo < (18446744073709551616 : Int)) ∧
                                                                              ((wcmp a.hi a.lo b.hi b.lo == wcmp a.hi a.lo b.hi b.lo) = true →
                                                                                  ((((if x.v = (0 : Int) then (0 : Int) else wN a.hi a.lo / x.v) / (18446744073709551616 : Int) =
                                                                                            (if x.v = (0 : Int) then (0 : Int) else wN a.hi a.lo / x.v) /
                                                                                              (18446744073709551616 : Int) ∧
                                                                                          (if x.v = (0 : Int) then (0 : Int) else wN a.hi a.lo / x.v) % (18446744073709551616 : Int) =
                                                                                              (if x.v = (0 : Int) then (0 : Int) else wN a.hi a.lo / x.v) %
                                                                                                (18446744073709551616 : Int) ∧
                                                                                            True) ∧
                                                                                        True) ∧
                                                                                      True) ∧
                                                                                    (((if x.v = (0 : Int) then (0 : Int) else wN a.hi a.lo / x.v) / (18446744073709551616 : Int) ==
                                                                                              (if x.v = (0 : Int) then (0 : Int) else wN a.hi a.lo / x.v) /
                                                                                                (18446744073709551616 : Int) &&
                                                                                            ((if x.v = (0 : Int) then (0 : Int) else wN a.hi a.lo / x.v) %
                                                                                                  (18446744073709551616 : Int) ==
                                                                                                (if x.v = (0 : Int) then (0 : Int) else wN a.hi a.lo / x.v) %
                                                                                                  (18446744073709551616 : Int) &&
                                                                                              true)) =
                                                                                          true →
                                                                                        ((v == v_1) = true →
                                                                                            a.Ok ∧ b.Ok ∧ x.Ok ∧ y.Ok →
                                                                                              (decide (x.v ≠ (0 : Int)) == decide (x.v ≠ (0 : Int))) = true ∧ True ∧ True) ∧
                                                                                          ((v == v_1) = false → a.Ok ∧ b.Ok ∧ x.Ok ∧ y.Ok → False ∧ True ∧ True)) ∧
                                                                                      (((if x.v = (0 : Int) then (0 : Int) else wN a.hi a.lo / x.v) / (18446744073709551616 : Int) ==
                                                                                              (if x.v = (0 : Int) then (0 : Int) else wN a.hi a.lo / x.v) /
                                                                                                (18446744073709551616 : Int) &&
                                                                                            ((if x.v = (0 : Int) then (0 : Int) else wN a.hi a.lo / x.v) %
                                                                                                  (18446744073709551616 : Int) ==
                                                                                                (if x.v = (0 : Int) then (0 : Int) else wN a.hi a.lo / x.v) %
                                                                                                  (18446744073709551616 : Int) &&
                                                                                              true)) =
                                                                                          false →
                                                                                        a.Ok ∧ b.Ok ∧ x.Ok ∧ y.Ok → False ∧ True ∧ True)) ∧
                                                                                ((wcmp a.hi a.lo b.hi b.lo == wcmp a.hi a.lo b.hi b.lo) = false →
                                                                                  a.Ok ∧ b.Ok ∧ x.Ok ∧ y.Ok → False ∧ True ∧ True)) ∧
                                                                ((decide (wN a.hi a.lo + wN b.hi b.lo < two128) == decide (wN a.hi a.lo + wN b.hi b.lo < two128)) = false →
                                                                  a.Ok ∧ b.Ok ∧ x.Ok ∧ y.Ok → False ∧ True ∧ True)) ∧
                                                            (((if wN a.hi a.lo + wN b.hi b.lo < two128 then wN a.hi a.lo + wN b.hi b.lo else (0 : Int)) /
                                                                      (18446744073709551616 : Int) ==
                                                                    (if wN a.hi a.lo + wN b.hi b.lo < two128 then wN a.hi a.lo + wN b.hi b.lo else (0 : Int)) /
                                                                      (18446744073709551616 : Int) &&
                                                                  ((if wN a.hi a.lo + wN b.hi b.lo < two128 then wN a.hi a.lo + wN b.hi b.lo else (0 : Int)) %
                                                                        (18446744073709551616 : Int) ==
                                                                      (if wN a.hi a.lo + wN b.hi b.lo < two128 then wN a.hi a.lo + wN b.hi b.lo else (0 : Int)) %
                                                                        (18446744073709551616 : Int) &&
                                                                    true)) =
                                                                false →
                                                              a.Ok ∧ b.Ok ∧ x.Ok ∧ y.Ok → False ∧ True ∧ True)) ∧
                                                      ((x.v * y.v / (18446744073709551616 : Int) == x.v * y.v / (18446744073709551616 : Int) &&
                                                            (x.v * y.v % (18446744073709551616 : Int) == x.v * y.v % (18446744073709551616 : Int) && true)) =
                                                          false →
                                                        a.Ok ∧ b.Ok ∧ x.Ok ∧ y.Ok → False ∧ True ∧ True)) ∧
              (((a.hi = a.hi ∧ a.lo = a.lo ∧ True) ∧ True) ∧ True) ∧
                (((b.hi = b.hi ∧ b.lo = b.lo ∧ True) ∧ True) ∧ True) ∧
                  (((a.hi = a.hi ∧ a.lo = a.lo ∧ True) ∧ (b.hi = b.hi ∧ b.lo = b.lo ∧ True) ∧ True) ∧ True) ∧
                    ((((0 : Int) ≤ a.hi ∧ a.hi < (18446744073709551616 : Int)) ∧ (0 : Int) ≤ a.lo ∧ a.lo < (18446744073709551616 : Int)) ∧
                        ((0 : Int) ≤ b.hi ∧ b.hi < (18446744073709551616 : Int)) ∧ (0 : Int) ≤ b.lo ∧ b.lo < (18446744073709551616 : Int)) ∧
                      (((a.hi = a.hi ∧ a.lo = a.lo ∧ True) ∧ x.v = x.v ∧ True) ∧ True) ∧
                        ((((0 : Int) ≤ a.hi ∧ a.hi < (18446744073709551616 : Int)) ∧ (0 : Int) ≤ a.lo ∧ a.lo < (18446744073709551616 : Int)) ∧
                            (0 : Int) ≤ x.v ∧ x.v < (18446744073709551616 : Int)) ∧
                          ∀ (v : Int),
                            (v = if x.v = (0 : Int) then (0 : Int) else wN a.hi a.lo % x.v) →
                              (((a.hi = a.hi ∧ a.lo = a.lo ∧ True) ∧ True) ∧ True) ∧
                                (((a.hi = a.hi ∧ a.lo = a.lo ∧ True) ∧ x.v = x.v ∧ True) ∧ True) ∧
                                  ((((0 : Int) ≤ a.hi ∧ a.hi < (18446744073709551616 : Int)) ∧ (0 : Int) ≤ a.lo ∧ a.lo < (18446744073709551616 : Int)) ∧
                                      (0 : Int) ≤ x.v ∧ x.v < (18446744073709551616 : Int)) ∧
                                    ∀ (v_1 : Int),
                                      (v_1 = if x.v = (0 : Int) then (0 : Int) else wN a.hi a.lo % x.v) →
                                        ((x.v = x.v ∧ y.v = y.v ∧ True) ∧ True) ∧
                                          (((0 : Int) ≤ x.v ∧ x.v < (18446744073709551616 : Int)) ∧ (0 : Int) ≤ y.v ∧ y.v < (18446744073709551616 : Int)) ∧
                                            (((x.v * y.v / (18446744073709551616 : Int) = x.v * y.v / (18446744073709551616 : Int) ∧
                                                    x.v * y.v % (18446744073709551616 : Int) = x.v * y.v % (18446744073709551616 : Int) ∧ True) ∧
                                                  True) ∧
                                                True) ∧
                                              ((x.v = x.v ∧ y.v = y.v ∧ True) ∧ True) ∧
                                                (((0 : Int) ≤ x.v ∧ x.v < (18446744073709551616 : Int)) ∧ (0 : Int) ≤ y.v ∧ y.v < (18446744073709551616 : Int)) ∧
                                                  ((x.v * y.v / (18446744073709551616 : Int) == x.v * y.v / (18446744073709551616 : Int) &&
                                                          (x.v * y.v % (18446744073709551616 : Int) == x.v * y.v % (18446744073709551616 : Int) && true)) =
                                                        true →
                                                      ((((if wN a.hi a.lo + wN b.hi b.lo < two128 then wN a.hi a.lo + wN b.hi b.lo else (0 : Int)) / (18446744073709551616 : Int) =
                                                                (if wN a.hi a.lo + wN b.hi b.lo < two128 then wN a.hi a.lo + wN b.hi b.lo else (0 : Int)) /
                                                                  (18446744073709551616 : Int) ∧
                                                              (if wN a.hi a.lo + wN b.hi b.lo < two128 then wN a.hi a.lo + wN b.hi b.lo else (0 : Int)) %
                                                                    (18446744073709551616 : Int) =
                                                                  (if wN a.hi a.lo + wN b.hi b.lo < two128 then wN a.hi a.lo + wN b.hi b.lo else (0 : Int)) %
                                                                    (18446744073709551616 : Int) ∧
                                                                True) ∧
                                                            True) ∧
                                                          True) ∧
                                                        (((if wN a.hi a.lo + wN b.hi b.lo < two128 then wN a.hi a.lo + wN b.hi b.lo else (0 : Int)) / (18446744073709551616 : Int) ==
                                                                  (if wN a.hi a.lo + wN b.hi b.lo < two128 then wN a.hi a.lo + wN b.hi b.lo else (0 : Int)) /
                                                                    (18446744073709551616 : Int) &&
                                                                ((if wN a.hi a.lo + wN b.hi b.lo < two128 then wN a.hi a.lo + wN b.hi b.lo else (0 : Int)) %
                                                                      (18446744073709551616 : Int) ==
                                                                    (if wN a.hi a.lo + wN b.hi b.lo < two128 then wN a.hi a.lo + wN b.hi b.lo else (0 : Int)) %
                                                                      (18446744073709551616 : Int) &&
                                                                  true)) =
                                                              true →
                                                            ((decide (wN a.hi a.lo + wN b.hi b.lo < two128) == decide (wN a.hi a.lo + wN b.hi b.lo < two128)) = true →
                                                                (((a.hi = a.hi ∧ a.lo = a.lo ∧ True) ∧ (b.hi = b.hi ∧ b.lo = b.lo ∧ True) ∧ True) ∧ True) ∧
                                                                  ((((0 : Int) ≤ a.hi ∧ a.hi < (18446744073709551616 : Int)) ∧
                                                                        (0 : Int) ≤ a.lo ∧ a.lo < (18446744073709551616 : Int)) ∧
                                                                      ((0 : Int) ≤ b.hi ∧ b.hi < (18446744073709551616 : Int)) ∧
                                                                        (0 : Int) ≤ b.lo ∧ b.lo < (18446744073709551616 : Int)) ∧
                                                                    (((a.hi = a.hi ∧ a.lo = a.lo ∧ True) ∧ True) ∧ True) ∧
                                                                      (((b.hi = b.hi ∧ b.lo = b.lo ∧ True) ∧ True) ∧ True) ∧
                                                                        (((a.hi = a.hi ∧ a.lo = a.lo ∧ True) ∧ (b.hi = b.hi ∧ b.lo = b.lo ∧ True) ∧ True) ∧ True) ∧
                                                                          ((((0 : Int) ≤ a.hi ∧ a.hi < (18446744073709551616 : Int)) ∧
                                                                                (0 : Int) ≤ a.lo ∧ a.lo < (18446744073709551616 : Int)) ∧
                                                                              ((0 : Int) ≤ b.hi ∧ b.hi < (18446744073709551616 : Int)) ∧
                                                                                (0 : Int) ≤ b.lo ∧ b.lo < (18446744073709551616 : Int)) ∧
                                                                            ((wcmp a.hi a.lo b.hi b.lo == wcmp a.hi a.lo b.hi b.lo) = true →
                                                                                ((((if x.v = (0 : Int) then (0 : Int) else wN a.hi a.lo / x.v) / (18446744073709551616 : Int) =
                                                                                          (if x.v = (0 : Int) then (0 : Int) else wN a.hi a.lo / x.v) / (18446744073709551616 : Int) ∧
                                                                                        (if x.v = (0 : Int) then (0 : Int) else wN a.hi a.lo / x.v) % (18446744073709551616 : Int) =
                                                                                            (if x.v = (0 : Int) then (0 : Int) else wN a.hi a.lo / x.v) %
                                                                                              (18446744073709551616 : Int) ∧
                                                                                          True) ∧
                                                                                      True) ∧
                                                                                    True) ∧
                                                                                  (((if x.v = (0 : Int) then (0 : Int) else wN a.hi a.lo / x.v) / (18446744073709551616 : Int) ==
                                                                                            (if x.v = (0 : Int) then (0 : Int) else wN a.hi a.lo / x.v) /
                                                                                              (18446744073709551616 : Int) &&
                                                                                          ((if x.v = (0 : Int) then (0 : Int) else wN a.hi a.lo / x.v) %
                                                                                                (18446744073709551616 : Int) ==
                                                                                              (if x.v = (0 : Int) then (0 : Int) else wN a.hi a.lo / x.v) %
                                                                                                (18446744073709551616 : Int) &&
                                                                                            true)) =
                                                                                        true →
                                                                                      ((v == v_1) = true →
                                                                                          a.Ok ∧ b.Ok ∧ x.Ok ∧ y.Ok →
                                                                                            (decide (x.v ≠ (0 : Int)) == decide (x.v ≠ (0 : Int))) = true ∧ True ∧ True) ∧
                                                                                        ((v == v_1) = false → a.Ok ∧ b.Ok ∧ x.Ok ∧ y.Ok → False ∧ True ∧ True)) ∧
                                                                                    (((if x.v = (0 : Int) then (0 : Int) else wN a.hi a.lo / x.v) / (18446744073709551616 : Int) ==
                                                                                            (if x.v = (0 : Int) then (0 : Int) else wN a.hi a.lo / x.v) /
                                                                                              (18446744073709551616 : Int) &&
                                                                                          ((if x.v = (0 : Int) then (0 : Int) else wN a.hi a.lo / x.v) %
                                                                                                (18446744073709551616 : Int) ==
                                                                                              (if x.v = (0 : Int) then (0 : Int) else wN a.hi a.lo / x.v) %
                                                                                                (18446744073709551616 : Int) &&
                                                                                            true)) =
                                                                                        false →
                                                                                      a.Ok ∧ b.Ok ∧ x.Ok ∧ y.Ok → False ∧ True ∧ True)) ∧
                                                                              ((wcmp a.hi a.lo b.hi b.lo == wcmp a.hi a.lo b.hi b.lo) = false →
                                                                                a.Ok ∧ b.Ok ∧ x.Ok ∧ y.Ok → False ∧ True ∧ True)) ∧
                                                              ((decide (wN a.hi a.lo + wN b.hi b.lo < two128) == decide (wN a.hi a.lo + wN b.hi b.lo < two128)) = false →
                                                                a.Ok ∧ b.Ok ∧ x.Ok ∧ y.Ok → False ∧ True ∧ True)) ∧
                                                          (((if wN a.hi a.lo + wN b.hi b.lo < two128 then wN a.hi a.lo + wN b.hi b.lo else (0 : Int)) /
                                                                    (18446744073709551616 : Int) ==
                                                                  (if wN a.hi a.lo + wN b.hi b.lo < two128 then wN a.hi a.lo + wN b.hi b.lo else (0 : Int)) /
                                                                    (18446744073709551616 : Int) &&
                                                                ((if wN a.hi a.lo + wN b.hi b.lo < two128 then wN a.hi a.lo + wN b.hi b.lo else (0 : Int)) %
                                                                      (18446744073709551616 : Int) ==
                                                                    (if wN a.hi a.lo + wN b.hi b.lo < two128 then wN a.hi a.lo + wN b.hi b.lo else (0 : Int)) %
                                                                      (18446744073709551616 : Int) &&
                                                                  true)) =
                                                              false →
                                                            a.Ok ∧ b.Ok ∧ x.Ok ∧ y.Ok → False ∧ True ∧ True)) ∧
                                                    ((x.v * y.v / (18446744073709551616 : Int) == x.v * y.v / (18446744073709551616 : Int) &&
                                                          (x.v * y.v % (18446744073709551616 : Int) == x.v * y.v % (18446744073709551616 : Int) && true)) =
                                                        false →
                                                      a.Ok ∧ b.Ok ∧ x.Ok ∧ y.Ok → False ∧ True ∧ True) := by
  simp only [true_and, and_true, eq_self, beq_iff_eq, beq_eq_false_iff_ne, implies_true, true_implies, and_self, ne_eq, forall_eq]
  rintro ⟨a1, a0⟩ ⟨b1, b0⟩ ⟨x⟩ ⟨y⟩ ⟨⟨⟨ha1, ha1'⟩, ha0, ha0'⟩, ⟨⟨hb1, hb1'⟩, hb0, hb0'⟩, ⟨hx, hx'⟩, hy, hy'⟩
  dsimp only at ha1 ha1' ha0 ha0' hb1 hb1' hb0 hb0' hx hx' hy hy' ⊢
  simp only [beq_self_eq_true, Bool.and_self, reduceCtorEq, false_implies, implies_true, ha1, ha1', ha0, ha0', hb1, hb1', hb0, hb0', hx, hx', hy, hy', and_self, not_true, implies_true]
  repeat' (with_reducible first | exact trivial | assumption | apply And.intro | intro _)
  all_goals first | omega | skip

def wides_C (_ : (AW × AW × A64 × A64)) : Cfg := { Γ := Go.Sx.look tWides, names := true, mode := widesMode, locks := widesLocks }
theorem wides_al (x : (AW × AW × A64 × A64)) : Shown (widesP.vc Try.prog (wides_C x) Try.f5 x) := ⟨@Eq.mp _ _ (by kernel_rfl) (wides_vc (x.1) (x.2.1) (x.2.2.1) (x.2.2.2))⟩
theorem wides_ok : SpOk Try.prog 5 widesP.sp := @Pat.okS _ widesP Try.prog wides_C 5 Try.f5 (fun x => cfg_tab rfl tWides_ok) (by kernel_rfl) Try.func5 (fun _ => rfl) wides_al
end Go.Proofs.Ytaaploablbkilaa
