import Derived.Test.YtaaploablbkilaaByt2
open Go Go.Sx Go.Proofs
set_option maxRecDepth 100000
namespace Go.Proofs.Ytaaploablbkilaa

instance (x : Int) : Decidable (u8 x) := by unfold u8; infer_instance
instance (x : BS) : Decidable x.Ok := by unfold BS.Ok; infer_instance
def aliveP : Pat Unit where
  view | [], _ => some () | _, _ => none
  args _ := []
  H _ := []
  out _ := .retq .tt
def tAlive : Tab := [(16, getPt.sp), (19, setPt.sp), (26, wdivP.sp), (23, addP.sp), (10, fieldPt.sp), (12, putPt.sp), (14, extPt.sp), (21, samePt.sp), (28, mulWP.sp), (30, wcmpPt.sp), (22, bytesPt.sp)]
theorem tAlive_ok : TabOk Try.prog tAlive := (tab_cons get_ok (tab_cons set_ok (tab_cons wdiv_ok (tab_cons addW_ok (tab_cons field_ok (tab_cons put_ok (tab_cons ext_ok (tab_cons same_ok (tab_cons mulW_ok (tab_cons wcmp_ok (tab_cons bytes_ok tab_nil)))))))))))

theorem alive_vc : ∀ (_ : Unit),
    True →
      (((false = false ∧ True ∧ True ∧ (0 : Nat) = (0 : Nat) ∧ (5 : Nat) = (5 : Nat) ∧ (5 : Nat) = (5 : Nat)) ∧ (1 : Int) = (1 : Int) ∧ True) ∧
          ((0 : Nat) ≤ (5 : Nat) ∧
              (5 : Nat) = (5 : Nat) ∧
                ∀ (j : Nat),
                  j < (5 : Nat) →
                    (bif j.beq (0 : Nat) then (0 : Int)
                      else bif j.beq (1 : Nat) then (1 : Int) else bif j.beq (2 : Nat) then (2 : Int) else bif j.beq (3 : Nat) then (3 : Int) else (4 : Int)) =
                      bif ((0 : Nat) + j).beq (0 : Nat) then (0 : Int)
                      else
                        bif ((0 : Nat) + j).beq (1 : Nat) then (1 : Int)
                        else bif ((0 : Nat) + j).beq (2 : Nat) then (2 : Int) else bif ((0 : Nat) + j).beq (3 : Nat) then (3 : Int) else (4 : Int)) ∧
            True) ∧
        ((BS.mk false (5 : Nat) (5 : Nat) fun (j : Nat) =>
                bif ((0 : Nat) + j).beq (0 : Nat) then (0 : Int)
                else
                  bif ((0 : Nat) + j).beq (1 : Nat) then (1 : Int)
                  else bif ((0 : Nat) + j).beq (2 : Nat) then (2 : Int) else bif ((0 : Nat) + j).beq (3 : Nat) then (3 : Int) else (4 : Int)).Ok ∧
            (-9223372036854775808 : Int) ≤ (1 : Int) ∧ (1 : Int) < (9223372036854775808 : Int)) ∧
          ∀ (v : Int),
            (v =
                if
                    fitsB
                      (BS.mk false (5 : Nat) (5 : Nat) fun (j : Nat) =>
                        bif ((0 : Nat) + j).beq (0 : Nat) then (0 : Int)
                        else
                          bif ((0 : Nat) + j).beq (1 : Nat) then (1 : Int)
                          else bif ((0 : Nat) + j).beq (2 : Nat) then (2 : Int) else bif ((0 : Nat) + j).beq (3 : Nat) then (3 : Int) else (4 : Int))
                      (1 : Int) then
                  getW
                    (fun (j : Nat) =>
                      bif ((0 : Nat) + j).beq (0 : Nat) then (0 : Int)
                      else
                        bif ((0 : Nat) + j).beq (1 : Nat) then (1 : Int)
                        else bif ((0 : Nat) + j).beq (2 : Nat) then (2 : Int) else bif ((0 : Nat) + j).beq (3 : Nat) then (3 : Int) else (4 : Int))
                    (Int.toNat (1 : Int)) (4 : Nat)
                else (0 : Int)) →
              (((True ∧ True ∧ (0 : Nat) = (0 : Nat) ∧ (5 : Nat) = (5 : Nat) ∧ (5 : Nat) = (5 : Nat)) ∧ (0 : Int) = (0 : Int) ∧ (16909060 : Int) = (16909060 : Int) ∧ True) ∧
                  ((0 : Nat) ≤ (5 : Nat) ∧
                      (5 : Nat) = (5 : Nat) ∧
                        ∀ (j : Nat),
                          j < (5 : Nat) →
                            (bif j.beq (0 : Nat) then (0 : Int)
                              else bif j.beq (1 : Nat) then (1 : Int) else bif j.beq (2 : Nat) then (2 : Int) else bif j.beq (3 : Nat) then (3 : Int) else (4 : Int)) =
                              bif j.beq (0 : Nat) then (0 : Int)
                              else bif j.beq (1 : Nat) then (1 : Int) else bif j.beq (2 : Nat) then (2 : Int) else bif j.beq (3 : Nat) then (3 : Int) else (4 : Int)) ∧
                    True) ∧
                ((5 : Nat) ≤ (9223372036854775807 : Nat) ∧
                    ((-9223372036854775808 : Int) ≤ (0 : Int) ∧ (0 : Int) < (9223372036854775808 : Int)) ∧ (0 : Int) ≤ (16909060 : Int) ∧ (16909060 : Int) < (4294967296 : Int)) ∧
                  ((((1 : Int) = (1 : Int) ∧ (5 : Int) = (5 : Int) ∧ True) ∧ (3 : Int) = (3 : Int) ∧ True) ∧ True) ∧
                    ((((0 : Int) ≤ (1 : Int) ∧ (1 : Int) < (18446744073709551616 : Int)) ∧ (0 : Int) ≤ (5 : Int) ∧ (5 : Int) < (18446744073709551616 : Int)) ∧
                        (0 : Int) ≤ (3 : Int) ∧ (3 : Int) < (18446744073709551616 : Int)) ∧
                      ∀ (v_1 : Int),
                        (v_1 = if (3 : Int) = (0 : Int) then (0 : Int) else wN (1 : Int) (5 : Int) % (3 : Int)) →
                          ((((0 : Int) = (0 : Int) ∧ (9223372036854775808 : Int) = (9223372036854775808 : Int) ∧ True) ∧
                                ((0 : Int) = (0 : Int) ∧ (9223372036854775808 : Int) = (9223372036854775808 : Int) ∧ True) ∧ True) ∧
                              True) ∧
                            ((((0 : Int) ≤ (0 : Int) ∧ (0 : Int) < (18446744073709551616 : Int)) ∧
                                  (0 : Int) ≤ (9223372036854775808 : Int) ∧ (9223372036854775808 : Int) < (18446744073709551616 : Int)) ∧
                                ((0 : Int) ≤ (0 : Int) ∧ (0 : Int) < (18446744073709551616 : Int)) ∧
                                  (0 : Int) ≤ (9223372036854775808 : Int) ∧ (9223372036854775808 : Int) < (18446744073709551616 : Int)) ∧
                              (decide
                                      (fitsB
                                        (BS.mk false (5 : Nat) (5 : Nat) fun (j : Nat) =>
                                          bif ((0 : Nat) + j).beq (0 : Nat) then (0 : Int)
                                          else
                                            bif ((0 : Nat) + j).beq (1 : Nat) then (1 : Int)
                                            else bif ((0 : Nat) + j).beq (2 : Nat) then (2 : Int) else bif ((0 : Nat) + j).beq (3 : Nat) then (3 : Int) else (4 : Int))
                                        (1 : Int)) =
                                    true →
                                  (decide
                                          (fitsB
                                            (BS.mk false (5 : Nat) (5 : Nat) fun (j : Nat) =>
                                              bif j.beq (0 : Nat) then (0 : Int)
                                              else bif j.beq (1 : Nat) then (1 : Int) else bif j.beq (2 : Nat) then (2 : Int) else bif j.beq (3 : Nat) then (3 : Int) else (4 : Int))
                                            (0 : Int)) =
                                        true →
                                      (decide ((3 : Int) ≠ (0 : Int)) = true →
                                          (decide (wN (0 : Int) (9223372036854775808 : Int) + wN (0 : Int) (9223372036854775808 : Int) < two128) = true →
                                              (((43981 : Int) = (43981 : Int) ∧ (4 : Int) = (4 : Int) ∧ (8 : Int) = (8 : Int) ∧ True) ∧ True) ∧
                                                (((0 : Int) ≤ (43981 : Int) ∧ (43981 : Int) < (4294967296 : Int)) ∧
                                                    ((-9223372036854775808 : Int) ≤ (4 : Int) ∧ (4 : Int) < (9223372036854775808 : Int)) ∧
                                                      (-9223372036854775808 : Int) ≤ (8 : Int) ∧ (8 : Int) < (9223372036854775808 : Int)) ∧
                                                  ((fieldN (43981 : Int) (4 : Int) (8 : Int) == (188 : Int)) = true →
                                                      (((0 : Int) = (0 : Int) ∧ (4 : Int) = (4 : Int) ∧ (4 : Int) = (4 : Int) ∧ (255 : Int) = (255 : Int) ∧ True) ∧ True) ∧
                                                        (((0 : Int) ≤ (0 : Int) ∧ (0 : Int) < (4294967296 : Int)) ∧
                                                            ((-9223372036854775808 : Int) ≤ (4 : Int) ∧ (4 : Int) < (9223372036854775808 : Int)) ∧
                                                              ((-9223372036854775808 : Int) ≤ (4 : Int) ∧ (4 : Int) < (9223372036854775808 : Int)) ∧
                                                                (0 : Int) ≤ (255 : Int) ∧ (255 : Int) < (4294967296 : Int)) ∧
                                                          ((putN (0 : Int) (4 : Int) (4 : Int) (255 : Int) == (240 : Int)) = true →
                                                              (((248 : Int) = (248 : Int) ∧ (8 : Int) = (8 : Int) ∧ True) ∧ True) ∧
                                                                (((0 : Int) ≤ (248 : Int) ∧ (248 : Int) < (4294967296 : Int)) ∧
                                                                    (-9223372036854775808 : Int) ≤ (8 : Int) ∧ (8 : Int) < (9223372036854775808 : Int)) ∧
                                                                  ((extN (248 : Int) (8 : Int) == (4294967288 : Int)) = true →
                                                                      ((v == (67305985 : Int)) = true →
                                                                          (((false = false ∧ True ∧ True ∧ (0 : Nat) = (0 : Nat) ∧ (5 : Nat) = (5 : Nat) ∧ (5 : Nat) = (5 : Nat)) ∧
                                                                                (false = false ∧
                                                                                    True ∧ True ∧ (0 : Nat) = (0 : Nat) ∧ (5 : Nat) = (5 : Nat) ∧ (5 : Nat) = (5 : Nat)) ∧
                                                                                  True) ∧
                                                                              ((0 : Nat) ≤ (5 : Nat) ∧
                                                                                  (5 : Nat) = (5 : Nat) ∧
                                                                                    ∀ (j : Nat),
                                                                                      j < (5 : Nat) →
                                                                                        setB
                                                                                            (fun (j : Nat) =>
                                                                                              bif j.beq (0 : Nat) then (0 : Int)
                                                                                              else
                                                                                                bif j.beq (1 : Nat) then (1 : Int)
                                                                                                else
                                                                                                  bif j.beq (2 : Nat) then (2 : Int)
                                                                                                  else bif j.beq (3 : Nat) then (3 : Int) else (4 : Int))
                                                                                            (Int.toNat (0 : Int)) (16909060 : Int)
                                                                                            (if
                                                                                                fitsB
                                                                                                  (BS.mk false (5 : Nat) (5 : Nat) fun (j : Nat) =>
                                                                                                    bif j.beq (0 : Nat) then (0 : Int)
                                                                                                    else
                                                                                                      bif j.beq (1 : Nat) then (1 : Int)
                                                                                                      else
                                                                                                        bif j.beq (2 : Nat) then (2 : Int)
                                                                                                        else bif j.beq (3 : Nat) then (3 : Int) else (4 : Int))
                                                                                                  (0 : Int) then
                                                                                              (4 : Nat)
                                                                                            else (0 : Nat))
                                                                                            j =
                                                                                          setB
                                                                                            (fun (j : Nat) =>
                                                                                              bif j.beq (0 : Nat) then (0 : Int)
                                                                                              else
                                                                                                bif j.beq (1 : Nat) then (1 : Int)
                                                                                                else
                                                                                                  bif j.beq (2 : Nat) then (2 : Int)
                                                                                                  else bif j.beq (3 : Nat) then (3 : Int) else (4 : Int))
                                                                                            (Int.toNat (0 : Int)) (16909060 : Int)
                                                                                            (if
                                                                                                fitsB
                                                                                                  (BS.mk false (5 : Nat) (5 : Nat) fun (j : Nat) =>
                                                                                                    bif j.beq (0 : Nat) then (0 : Int)
                                                                                                    else
                                                                                                      bif j.beq (1 : Nat) then (1 : Int)
                                                                                                      else
                                                                                                        bif j.beq (2 : Nat) then (2 : Int)
                                                                                                        else bif j.beq (3 : Nat) then (3 : Int) else (4 : Int))
                                                                                                  (0 : Int) then
                                                                                              (4 : Nat)
                                                                                            else (0 : Nat))
                                                                                            ((0 : Nat) + j)) ∧
                                                                                ((0 : Nat) ≤ (5 : Nat) ∧
                                                                                    (5 : Nat) = (5 : Nat) ∧
                                                                                      ∀ (j : Nat),
                                                                                        j < (5 : Nat) →
                                                                                          (bif j.beq (0 : Nat) then (4 : Int)
                                                                                            else
                                                                                              bif j.beq (1 : Nat) then (3 : Int)
                                                                                              else
                                                                                                bif j.beq (2 : Nat) then (2 : Int)
                                                                                                else bif j.beq (3 : Nat) then (1 : Int) else (4 : Int)) =
                                                                                            bif ((0 : Nat) + j).beq (0 : Nat) then (4 : Int)
                                                                                            else
                                                                                              bif ((0 : Nat) + j).beq (1 : Nat) then (3 : Int)
                                                                                              else
                                                                                                bif ((0 : Nat) + j).beq (2 : Nat) then (2 : Int)
                                                                                                else bif ((0 : Nat) + j).beq (3 : Nat) then (1 : Int) else (4 : Int)) ∧
                                                                                  True) ∧
                                                                            ((BS.mk false (5 : Nat) (5 : Nat) fun (j : Nat) =>
                                                                                    setB
                                                                                      (fun (j : Nat) =>
                                                                                        bif j.beq (0 : Nat) then (0 : Int)
                                                                                        else
                                                                                          bif j.beq (1 : Nat) then (1 : Int)
                                                                                          else
                                                                                            bif j.beq (2 : Nat) then (2 : Int) else bif j.beq (3 : Nat) then (3 : Int) else (4 : Int))
                                                                                      (Int.toNat (0 : Int)) (16909060 : Int)
                                                                                      (if
                                                                                          fitsB
                                                                                            (BS.mk false (5 : Nat) (5 : Nat) fun (j : Nat) =>
                                                                                              bif j.beq (0 : Nat) then (0 : Int)
                                                                                              else
                                                                                                bif j.beq (1 : Nat) then (1 : Int)
                                                                                                else
                                                                                                  bif j.beq (2 : Nat) then (2 : Int)
                                                                                                  else bif j.beq (3 : Nat) then (3 : Int) else (4 : Int))
                                                                                            (0 : Int) then
                                                                                        (4 : Nat)
                                                                                      else (0 : Nat))
                                                                                      ((0 : Nat) + j)).Ok ∧
                                                                                (BS.mk false (5 : Nat) (5 : Nat) fun (j : Nat) =>
                                                                                    bif ((0 : Nat) + j).beq (0 : Nat) then (4 : Int)
                                                                                    else
                                                                                      bif ((0 : Nat) + j).beq (1 : Nat) then (3 : Int)
                                                                                      else
                                                                                        bif ((0 : Nat) + j).beq (2 : Nat) then (2 : Int)
                                                                                        else bif ((0 : Nat) + j).beq (3 : Nat) then (1 : Int) else (4 : Int)).Ok) ∧
                                                                              (decide
                                                                                      (sameB
                                                                                        (BS.mk false (5 : Nat) (5 : Nat) fun (j : Nat) =>
                                                                                          setB
                                                                                            (fun (j : Nat) =>
                                                                                              bif j.beq (0 : Nat) then (0 : Int)
                                                                                              else
                                                                                                bif j.beq (1 : Nat) then (1 : Int)
                                                                                                else
                                                                                                  bif j.beq (2 : Nat) then (2 : Int)
                                                                                                  else bif j.beq (3 : Nat) then (3 : Int) else (4 : Int))
                                                                                            (Int.toNat (0 : Int)) (16909060 : Int)
                                                                                            (if
                                                                                                fitsB
                                                                                                  (BS.mk false (5 : Nat) (5 : Nat) fun (j : Nat) =>
                                                                                                    bif j.beq (0 : Nat) then (0 : Int)
                                                                                                    else
                                                                                                      bif j.beq (1 : Nat) then (1 : Int)
                                                                                                      else
                                                                                                        bif j.beq (2 : Nat) then (2 : Int)
                                                                                                        else bif j.beq (3 : Nat) then (3 : Int) else (4 : Int))
                                                                                                  (0 : Int) then
                                                                                              (4 : Nat)
                                                                                            else (0 : Nat))
                                                                                            ((0 : Nat) + j))
                                                                                        (BS.mk false (5 : Nat) (5 : Nat) fun (j : Nat) =>
                                                                                          bif ((0 : Nat) + j).beq (0 : Nat) then (4 : Int)
                                                                                          else
                                                                                            bif ((0 : Nat) + j).beq (1 : Nat) then (3 : Int)
                                                                                            else
                                                                                              bif ((0 : Nat) + j).beq (2 : Nat) then (2 : Int)
                                                                                              else bif ((0 : Nat) + j).beq (3 : Nat) then (1 : Int) else (4 : Int))) =
                                                                                    true →
                                                                                  (((1099511627776 : Int) = (1099511627776 : Int) ∧
                                                                                        (1099511627776 : Int) = (1099511627776 : Int) ∧ True) ∧
                                                                                      True) ∧
                                                                                    (((0 : Int) ≤ (1099511627776 : Int) ∧ (1099511627776 : Int) < (18446744073709551616 : Int)) ∧
                                                                                        (0 : Int) ≤ (1099511627776 : Int) ∧ (1099511627776 : Int) < (18446744073709551616 : Int)) ∧
                                                                                      (((1099511627776 : Int) * (1099511627776 : Int) / (18446744073709551616 : Int) ==
                                                                                                (65536 : Int) &&
                                                                                              ((1099511627776 : Int) * (1099511627776 : Int) % (18446744073709551616 : Int) ==
                                                                                                  (0 : Int) &&
                                                                                                true)) =
                                                                                            true →
                                                                                          (((if (3 : Int) = (0 : Int) then (0 : Int) else wN (1 : Int) (5 : Int) / (3 : Int)) %
                                                                                                    (18446744073709551616 : Int) ==
                                                                                                  (6148914691236517207 : Int)) =
                                                                                                true →
                                                                                              ((v_1 == (0 : Int)) = true →
                                                                                                  (((if
                                                                                                                  wN (0 : Int) (9223372036854775808 : Int) +
                                                                                                                      wN (0 : Int) (9223372036854775808 : Int) <
                                                                                                                    two128 then
                                                                                                                wN (0 : Int) (9223372036854775808 : Int) +
                                                                                                                  wN (0 : Int) (9223372036854775808 : Int)
                                                                                                              else (0 : Int)) /
                                                                                                              (18446744073709551616 : Int) ==
                                                                                                            (1 : Int) &&
                                                                                                          ((if
                                                                                                                    wN (0 : Int) (9223372036854775808 : Int) +
                                                                                                                        wN (0 : Int) (9223372036854775808 : Int) <
                                                                                                                      two128 then
                                                                                                                  wN (0 : Int) (9223372036854775808 : Int) +
                                                                                                                    wN (0 : Int) (9223372036854775808 : Int)
                                                                                                                else (0 : Int)) %
                                                                                                                (18446744073709551616 : Int) ==
                                                                                                              (0 : Int) &&
                                                                                                            true)) =
                                                                                                        true →
                                                                                                      ((((if
                                                                                                                      wN (0 : Int) (9223372036854775808 : Int) +
                                                                                                                          wN (0 : Int) (9223372036854775808 : Int) <
                                                                                                                        two128 then
                                                                                                                    wN (0 : Int) (9223372036854775808 : Int) +
                                                                                                                      wN (0 : Int) (9223372036854775808 : Int)
                                                                                                                  else (0 : Int)) /
                                                                                                                  (18446744073709551616 : Int) =
                                                                                                                (if
                                                                                                                      wN (0 : Int) (9223372036854775808 : Int) +
                                                                                                                          wN (0 : Int) (9223372036854775808 : Int) <
                                                                                                                        two128 then
                                                                                                                    wN (0 : Int) (9223372036854775808 : Int) +
                                                                                                                      wN (0 : Int) (9223372036854775808 : Int)
                                                                                                                  else (0 : Int)) /
                                                                                                                  (18446744073709551616 : Int) ∧
                                                                                                              (if
                                                                                                                        wN (0 : Int) (9223372036854775808 : Int) +
                                                                                                                            wN (0 : Int) (9223372036854775808 : Int) <
                                                                                                                          two128 then
                                                                                                                      wN (0 : Int) (9223372036854775808 : Int) +
                                                                                                                        wN (0 : Int) (9223372036854775808 : Int)
                                                                                                                    else (0 : Int)) %
                                                                                                                    (18446744073709551616 : Int) =
                                                                                                                  (if
                                                                                                                        wN (0 : Int) (9223372036854775808 : Int) +
                                                                                                                            wN (0 : Int) (9223372036854775808 : Int) <
                                                                                                                          two128 then
                                                                                                                      wN (0 : Int) (9223372036854775808 : Int) +
                                                                                                                        wN (0 : Int) (9223372036854775808 : Int)
                                                                                                                    else (0 : Int)) %
                                                                                                                    (18446744073709551616 : Int) ∧
                                                                                                                True) ∧
                                                                                                            ((if (3 : Int) = (0 : Int) then (0 : Int)
                                                                                                                    else wN (1 : Int) (5 : Int) / (3 : Int)) /
                                                                                                                    (18446744073709551616 : Int) =
                                                                                                                  (if (3 : Int) = (0 : Int) then (0 : Int)
                                                                                                                    else wN (1 : Int) (5 : Int) / (3 : Int)) /
                                                                                                                    (18446744073709551616 : Int) ∧
                                                                                                                (if (3 : Int) = (0 : Int) then (0 : Int)
                                                                                                                      else wN (1 : Int) (5 : Int) / (3 : Int)) %
                                                                                                                      (18446744073709551616 : Int) =
                                                                                                                    (if (3 : Int) = (0 : Int) then (0 : Int)
                                                                                                                      else wN (1 : Int) (5 : Int) / (3 : Int)) %
                                                                                                                      (18446744073709551616 : Int) ∧
                                                                                                                  True) ∧
                                                                                                              True) ∧
                                                                                                          True) ∧
                                                                                                        ((((0 : Int) ≤
                                                                                                                  (if
                                                                                                                        wN (0 : Int) (9223372036854775808 : Int) +
                                                                                                                            wN (0 : Int) (9223372036854775808 : Int) <
                                                                                                                          two128 then
                                                                                                                      wN (0 : Int) (9223372036854775808 : Int) +
                                                                                                                        wN (0 : Int) (9223372036854775808 : Int)
                                                                                                                    else (0 : Int)) /
                                                                                                                    (18446744073709551616 : Int) ∧
                                                                                                                (if
                                                                                                                        wN (0 : Int) (9223372036854775808 : Int) +
                                                                                                                            wN (0 : Int) (9223372036854775808 : Int) <
                                                                                                                          two128 then
                                                                                                                      wN (0 : Int) (9223372036854775808 : Int) +
                                                                                                                        wN (0 : Int) (9223372036854775808 : Int)
                                                                                                                    else (0 : Int)) /
                                                                                                                    (18446744073709551616 : Int) <
                                                                                                                  (18446744073709551616 : Int)) ∧
                                                                                                              (0 : Int) ≤
                                                                                                                  (if
                                                                                                                        wN (0 : Int) (9223372036854775808 : Int) +
                                                                                                                            wN (0 : Int) (9223372036854775808 : Int) <
                                                                                                                          two128 then
                                                                                                                      wN (0 : Int) (9223372036854775808 : Int) +
                                                                                                                        wN (0 : Int) (9223372036854775808 : Int)
                                                                                                                    else (0 : Int)) %
                                                                                                                    (18446744073709551616 : Int) ∧
                                                                                                                (if
                                                                                                                        wN (0 : Int) (9223372036854775808 : Int) +
                                                                                                                            wN (0 : Int) (9223372036854775808 : Int) <
                                                                                                                          two128 then
                                                                                                                      wN (0 : Int) (9223372036854775808 : Int) +
                                                                                                                        wN (0 : Int) (9223372036854775808 : Int)
                                                                                                                    else (0 : Int)) %
                                                                                                                    (18446744073709551616 : Int) <
                                                                                                                  (18446744073709551616 : Int)) ∧
                                                                                                            ((0 : Int) ≤
                                                                                                                  (if (3 : Int) = (0 : Int) then (0 : Int)
                                                                                                                    else wN (1 : Int) (5 : Int) / (3 : Int)) /
                                                                                                                    (18446744073709551616 : Int) ∧
                                                                                                                (if (3 : Int) = (0 : Int) then (0 : Int)
                                                                                                                    else wN (1 : Int) (5 : Int) / (3 : Int)) /
                                                                                                                    (18446744073709551616 : Int) <
                                                                                                                  (18446744073709551616 : Int)) ∧
                                                                                                              (0 : Int) ≤
                                                                                                                  (if (3 : Int) = (0 : Int) then (0 : Int)
                                                                                                                    else wN (1 : Int) (5 : Int) / (3 : Int)) %
                                                                                                                    (18446744073709551616 : Int) ∧
                                                                                                                (if (3 : Int) = (0 : Int) then (0 : Int)
                                                                                                                    else wN (1 : Int) (5 : Int) / (3 : Int)) %
                                                                                                                    (18446744073709551616 : Int) <
                                                                                                                  (18446744073709551616 : Int)) ∧
                                                                                                          ((wcmp
                                                                                                                    ((if
                                                                                                                          wN (0 : Int) (9223372036854775808 : Int) +
                                                                                                                              wN (0 : Int) (9223372036854775808 : Int) <
                                                                                                                            two128 then
                                                                                                                        wN (0 : Int) (9223372036854775808 : Int) +
                                                                                                                          wN (0 : Int) (9223372036854775808 : Int)
                                                                                                                      else (0 : Int)) /
                                                                                                                      (18446744073709551616 : Int))
                                                                                                                    ((if
                                                                                                                          wN (0 : Int) (9223372036854775808 : Int) +
                                                                                                                              wN (0 : Int) (9223372036854775808 : Int) <
                                                                                                                            two128 then
                                                                                                                        wN (0 : Int) (9223372036854775808 : Int) +
                                                                                                                          wN (0 : Int) (9223372036854775808 : Int)
                                                                                                                      else (0 : Int)) %
                                                                                                                      (18446744073709551616 : Int))
                                                                                                                    ((if (3 : Int) = (0 : Int) then (0 : Int)
                                                                                                                      else wN (1 : Int) (5 : Int) / (3 : Int)) /
                                                                                                                      (18446744073709551616 : Int))
                                                                                                                    ((if (3 : Int) = (0 : Int) then (0 : Int)
                                                                                                                      else wN (1 : Int) (5 : Int) / (3 : Int)) %
                                                                                                                      (18446744073709551616 : Int)) ==
                                                                                                                  (1 : Int)) =
                                                                                                                true →
                                                                                                              (((True ∧
                                                                                                                      True ∧
                                                                                                                        (0 : Nat) = (0 : Nat) ∧
                                                                                                                          (2 : Nat) = (2 : Nat) ∧ (2 : Nat) = (2 : Nat)) ∧
                                                                                                                    True) ∧
                                                                                                                  ((0 : Nat) ≤ (2 : Nat) ∧
                                                                                                                      (2 : Nat) = (2 : Nat) ∧
                                                                                                                        ∀ (j : Nat),
                                                                                                                          j < (2 : Nat) →
                                                                                                                            (bif j.beq (0 : Nat) then (1 : Int) else (2 : Int)) =
                                                                                                                              bif j.beq (0 : Nat) then (1 : Int) else (2 : Int)) ∧
                                                                                                                    True) ∧
                                                                                                                ((2 : Nat) ≤ (1000 : Nat) ∧
                                                                                                                    ∀ (j : Nat),
                                                                                                                      ((0 : Int) ≤
                                                                                                                          bif j.beq (0 : Nat) then (1 : Int) else (2 : Int)) ∧
                                                                                                                        (bif j.beq (0 : Nat) then (1 : Int) else (2 : Int)) <
                                                                                                                          (4294967296 : Int)) ∧
                                                                                                                  ((↑(8 : Nat) : Int) == (8 : Int)) = true ∧ True ∧ True) ∧
                                                                                                            ((wcmp
                                                                                                                    ((if
                                                                                                                          wN (0 : Int) (9223372036854775808 : Int) +
                                                                                                                              wN (0 : Int) (9223372036854775808 : Int) <
                                                                                                                            two128 then
                                                                                                                        wN (0 : Int) (9223372036854775808 : Int) +
                                                                                                                          wN (0 : Int) (9223372036854775808 : Int)
                                                                                                                      else (0 : Int)) /
                                                                                                                      (18446744073709551616 : Int))
                                                                                                                    ((if
                                                                                                                          wN (0 : Int) (9223372036854775808 : Int) +
                                                                                                                              wN (0 : Int) (9223372036854775808 : Int) <
                                                                                                                            two128 then
                                                                                                                        wN (0 : Int) (9223372036854775808 : Int) +
                                                                                                                          wN (0 : Int) (9223372036854775808 : Int)
                                                                                                                      else (0 : Int)) %
                                                                                                                      (18446744073709551616 : Int))
                                                                                                                    ((if (3 : Int) = (0 : Int) then (0 : Int)
                                                                                                                      else wN (1 : Int) (5 : Int) / (3 : Int)) /
                                                                                                                      (18446744073709551616 : Int))
                                                                                                                    ((if (3 : Int) = (0 : Int) then (0 : Int)
                                                                                                                      else wN (1 : Int) (5 : Int) / (3 : Int)) %
                                                                                                                      (18446744073709551616 : Int)) ==
                                                                                                                  (1 : Int)) =
                                                                                                                false →
                                                                                                              False ∧ True ∧ True)) ∧
                                                                                                    (((if
                                                                                                                  wN (0 : Int) (9223372036854775808 : Int) +
                                                                                                                      wN (0 : Int) (9223372036854775808 : Int) <
                                                                                                                    two128 then
                                                                                                                wN (0 : Int) (9223372036854775808 : Int) +
                                                                                                                  wN (0 : Int) (9223372036854775808 : Int)
                                                                                                              else (0 : Int)) /
                                                                                                              (18446744073709551616 : Int) ==
                                                                                                            (1 : Int) &&
                                                                                                          ((if
                                                                                                                    wN (0 : Int) (9223372036854775808 : Int) +
                                                                                                                        wN (0 : Int) (9223372036854775808 : Int) <
                                                                                                                      two128 then
                                                                                                                  wN (0 : Int) (9223372036854775808 : Int) +
                                                                                                                    wN (0 : Int) (9223372036854775808 : Int)
                                                                                                                else (0 : Int)) %
                                                                                                                (18446744073709551616 : Int) ==
                                                                                                              (0 : Int) &&
                                                                                                            true)) =
                                                                                                        false →
                                                                                                      False ∧ True ∧ True)) ∧
                                                                                                ((v_1 == (0 : Int)) = false → False ∧ True ∧ True)) ∧
                                                                                            (((if (3 : Int) = (0 : Int) then (0 : Int) else wN (1 : Int) (5 : Int) / (3 : Int)) %
                                                                                                    (18446744073709551616 : Int) ==
                                                                                                  (6148914691236517207 : Int)) =
                                                                                                false →
                                                                                              False ∧ True ∧ True)) ∧
                                                                                        (((1099511627776 : Int) * (1099511627776 : Int) / (18446744073709551616 : Int) ==
                                                                                                (65536 : Int) &&
                                                                                              ((1099511627776 : Int) * (1099511627776 : Int) % (18446744073709551616 : Int) ==
                                                                                                  (0 : Int) &&
                                                                                                true)) =
                                                                                            false →
                                                                                          False ∧ True ∧ True)) ∧
                                                                                (decide
                                                                                      (sameB
                                                                                        (BS.mk false (5 : Nat) (5 : Nat) fun (j : Nat) =>
                                                                                          setB
                                                                                            (fun (j : Nat) =>
                                                                                              bif j.beq (0 : Nat) then (0 : Int)
                                                                                              else
                                                                                                bif j.beq (1 : Nat) then (1 : Int)
                                                                                                else
                                                                                                  bif j.beq (2 : Nat) then (2 : Int)
                                                                                                  else bif j.beq (3 : Nat) then (3 : Int) else (4 : Int))
                                                                                            (Int.toNat (0 : Int)) (16909060 : Int)
                                                                                            (if
                                                                                                fitsB
                                                                                                  (BS.mk false (5 : Nat) (5 : Nat) fun (j : Nat) =>
                                                                                                    bif j.beq (0 : Nat) then (0 : Int)
                                                                                                    else
                                                                                                      bif j.beq (1 : Nat) then (1 : Int)
                                                                                                      else
                                                                                                        bif j.beq (2 : Nat) then (2 : Int)
                                                                                                        else bif j.beq (3 : Nat) then (3 : Int) else (4 : Int))
                                                                                                  (0 : Int) then
                                                                                              (4 : Nat)
                                                                                            else (0 : Nat))
                                                                                            ((0 : Nat) + j))
                                                                                        (BS.mk false (5 : Nat) (5 : Nat) fun (j : Nat) =>
                                                                                          bif ((0 : Nat) + j).beq (0 : Nat) then (4 : Int)
                                                                                          else
                                                                                            bif ((0 : Nat) + j).beq (1 : Nat) then (3 : Int)
                                                                                            else
                                                                                              bif ((0 : Nat) + j).beq (2 : Nat) then (2 : Int)
                                                                                              else bif ((0 : Nat) + j).beq (3 : Nat) then (1 : Int) else (4 : Int))) =
                                                                                    false →
                                                                                  False ∧ True ∧ True)) ∧
                                                                        ((v == (67305985 : Int)) = false → False ∧ True ∧ True)) ∧
                                                                    ((extN (248 : Int) (8 : Int) == (4294967288 : Int)) = false → False ∧ True ∧ True)) ∧
                                                            ((putN (0 : Int) (4 : Int) (4 : Int) (255 : Int) == (240 : Int)) = false → False ∧ True ∧ True)) ∧
                                                    ((fieldN (43981 : Int) (4 : Int) (8 : Int) == (188 : Int)) = false → False ∧ True ∧ True)) ∧
                                            (decide (wN (0 : Int) (9223372036854775808 : Int) + wN (0 : Int) (9223372036854775808 : Int) < two128) = false → False ∧ True ∧ True)) ∧
                                        (decide ((3 : Int) ≠ (0 : Int)) = false → False ∧ True ∧ True)) ∧
                                    (decide
                                          (fitsB
                                            (BS.mk false (5 : Nat) (5 : Nat) fun (j : Nat) =>
                                              bif j.beq (0 : Nat) then (0 : Int)
                                              else bif j.beq (1 : Nat) then (1 : Int) else bif j.beq (2 : Nat) then (2 : Int) else bif j.beq (3 : Nat) then (3 : Int) else (4 : Int))
                                            (0 : Int)) =
                                        false →
                                      False ∧ True ∧ True)) ∧
                                (decide
                                      (fitsB
                                        (BS.mk false (5 : Nat) (5 : Nat) fun (j : Nat) =>
                                          bif ((0 : Nat) + j).beq (0 : Nat) then (0 : Int)
                                          else
                                            bif ((0 : Nat) + j).beq (1 : Nat) then (1 : Int)
                                            else bif ((0 : Nat) + j).beq (2 : Nat) then (2 : Int) else bif ((0 : Nat) + j).beq (3 : Nat) then (3 : Int) else (4 : Int))
                                        (1 : Int)) =
                                    false →
                                  False ∧ True ∧ True) := by
  simp only [true_and, and_true, eq_self, decide_eq_true_eq, decide_eq_false_iff_not, beq_iff_eq, beq_eq_false_iff_ne, implies_true, true_implies, and_self, Int.not_lt, ne_eq, Nat.zero_add, cond_nbeq, forall_eq]
  intro _
  repeat' (with_reducible first | apply And.intro | intro _)
  all_goals (first
    | decide +kernel
    | (rename_i h; exact absurd (by decide +kernel) h)
    | (rename_i h; exact absurd h (by decide +kernel))
    | (rename_i h _; exact absurd (by decide +kernel) h)
    | (split <;> decide)
    | skip)

def alive_C (_ : Unit) : Cfg := { Γ := Go.Sx.look tAlive, names := true }
theorem alive_al (x : Unit) : Shown (aliveP.vc Try.prog (alive_C x) Try.f9 x) := ⟨@Eq.mp _ _ (by kernel_rfl) (alive_vc x)⟩
theorem alive_ok : SpOk Try.prog 9 aliveP.sp := @Pat.okS _ aliveP Try.prog alive_C 9 Try.f9 (fun x => cfg_tab rfl tAlive_ok) (by kernel_rfl) Try.func9 (fun _ => rfl) alive_al
end Go.Proofs.Ytaaploablbkilaa
