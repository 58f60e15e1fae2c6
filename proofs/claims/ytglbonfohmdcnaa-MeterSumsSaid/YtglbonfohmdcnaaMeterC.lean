import Derived.Test.YtglbonfohmdcnaaMeterB
open Go Go.Sx Go.Proofs
set_option maxRecDepth 100000
namespace Go.Proofs.Ytglbonfohmdcnaa

theorem MS.Ok.charge {s : MS} (h : s.Ok) {c k t : Int} (ht : 0 ≤ t) : (s.charge c k t).2.Ok := by
  have hk := cost_bd k
  unfold MS.charge
  split
  · exact h
  · split
    · exact h
    · exact h.on (by omega) (by omega) (Int.mul_nonneg hk.1 ht)
theorem MS.Ok.wait {s : MS} (h : s.Ok) {c t : Int} : (s.wait c t).2.Ok := by
  unfold MS.wait
  split
  · exact h
  · split
    · exact h
    · split
      · exact h
      · exact h.on (by omega) (by omega) (by omega)
theorem MS.Ok.new (c : Int) : (MS.new c).Ok := fun j hj => ⟨⟨Int.le_refl _, by show (0 : Int) ≤ 4611686018427387904; decide⟩, fun _ _ => Int.le_refl _, rfl⟩
theorem MS.charge_n (s : MS) (c k t : Int) : (s.charge c k t).2.n = s.n := by
  unfold MS.charge; split
  · rfl
  · split <;> rfl
theorem MS.wait_n (s : MS) (c t : Int) : (s.wait c t).2.n = s.n := by
  unfold MS.wait; split
  · rfl
  · split
    · rfl
    · split <;> rfl
def aliveP : Pat Unit where
  view | [], _ => some () | _, _ => none
  args _ := []
  H _ := []
  out _ := .retq .tt
theorem alive_vc : True →
    (((2 : Int) = (2 : Int) ∧ True) ∧ True) ∧
      ((1 : Int) ≤ (2 : Int) ∧ (2 : Int) ≤ (4 : Int) →
          ∀ (x : MS),
            x = MS.new (2 : Int) →
              ∀ (v : Int),
                v = (0 : Int) →
                  ((v != (0 : Int)) = true → False ∧ True ∧ True) ∧
                    ((v != (0 : Int)) = false →
                      (((True ∧ True) ∧ (0 : Int) = (0 : Int) ∧ (4 : Int) = (4 : Int) ∧ (2 : Int) = (2 : Int) ∧ True) ∧
                          ((2 : Nat) ≤ (2 : Nat) ∧ (True ∧ True ∧ (0 : Nat) = (0 : Nat) ∧ x.n = x.n ∧ x.n = x.n) ∧ x.st = x.st ∧ True) ∧
                            (x.n * (10 : Nat) ≤ x.n * (10 : Nat) ∧
                                x.n = x.n ∧ ∀ (j : Nat), j < x.n → x.clk j = x.clk j ∧ ((9 : Nat) = (9 : Nat) ∧ ∀ (j_1 : Nat), j_1 < (9 : Nat) → x.by_ j j_1 = x.by_ j j_1) ∧ True) ∧
                              True) ∧
                        (x.Ok ∧ (0 : Int) ≤ (2 : Int) ∧ (2 : Int) < (18446744073709551616 : Int)) ∧
                          ∀ (x_1 : Int × MS),
                            x_1 = x.charge (0 : Int) (4 : Int) (2 : Int) →
                              ∀ (v : Int),
                                v = x_1.fst →
                                  (((True ∧ True) ∧ (1 : Int) = (1 : Int) ∧ (100 : Int) = (100 : Int) ∧ True) ∧
                                      ((2 : Nat) ≤ (2 : Nat) ∧
                                          (True ∧ True ∧ (0 : Nat) = (0 : Nat) ∧ x_1.snd.n = x_1.snd.n ∧ x_1.snd.n = x_1.snd.n) ∧ x_1.snd.st = x_1.snd.st ∧ True) ∧
                                        (x_1.snd.n * (10 : Nat) ≤ x.n * (10 : Nat) ∧
                                            x_1.snd.n = x_1.snd.n ∧
                                              ∀ (j : Nat),
                                                j < x_1.snd.n →
                                                  x_1.snd.clk j = x_1.snd.clk j ∧
                                                    ((9 : Nat) = (9 : Nat) ∧ ∀ (j_1 : Nat), j_1 < (9 : Nat) → x_1.snd.by_ j j_1 = x_1.snd.by_ j j_1) ∧ True) ∧
                                          True) ∧
                                    (x_1.snd.Ok ∧ (0 : Int) ≤ (100 : Int) ∧ (100 : Int) < (18446744073709551616 : Int)) ∧
                                      ∀ (x_2 : Int × MS),
                                        x_2 = x_1.snd.wait (1 : Int) (100 : Int) →
                                          ∀ (v_1 : Int),
                                            v_1 = x_2.fst →
                                              (((True ∧ True) ∧ (0 : Int) = (0 : Int) ∧ (9 : Int) = (9 : Int) ∧ (1 : Int) = (1 : Int) ∧ True) ∧
                                                  ((2 : Nat) ≤ (2 : Nat) ∧
                                                      (True ∧ True ∧ (0 : Nat) = (0 : Nat) ∧ x_2.snd.n = x_2.snd.n ∧ x_2.snd.n = x_2.snd.n) ∧ x_2.snd.st = x_2.snd.st ∧ True) ∧
                                                    (x_2.snd.n * (10 : Nat) ≤ x.n * (10 : Nat) ∧
                                                        x_2.snd.n = x_2.snd.n ∧
                                                          ∀ (j : Nat),
                                                            j < x_2.snd.n →
                                                              x_2.snd.clk j = x_2.snd.clk j ∧
                                                                ((9 : Nat) = (9 : Nat) ∧ ∀ (j_1 : Nat), j_1 < (9 : Nat) → x_2.snd.by_ j j_1 = x_2.snd.by_ j j_1) ∧ True) ∧
                                                      True) ∧
                                                (x_2.snd.Ok ∧ (0 : Int) ≤ (1 : Int) ∧ (1 : Int) < (18446744073709551616 : Int)) ∧
                                                  ∀ (x_3 : Int × MS),
                                                    x_3 = x_2.snd.charge (0 : Int) (9 : Int) (1 : Int) →
                                                      ∀ (v_2 : Int),
                                                        v_2 = x_3.fst →
                                                          (((True ∧ True) ∧
                                                                (false = false ∧ True ∧ True ∧ (0 : Nat) = (0 : Nat) ∧ (2 : Nat) = (2 : Nat) ∧ (2 : Nat) = (2 : Nat)) ∧ True) ∧
                                                              ((2 : Nat) ≤ (2 : Nat) ∧
                                                                  (True ∧ True ∧ (0 : Nat) = (0 : Nat) ∧ x_3.snd.n = x_3.snd.n ∧ x_3.snd.n = x_3.snd.n) ∧
                                                                    x_3.snd.st = x_3.snd.st ∧ True) ∧
                                                                (x_3.snd.n * (10 : Nat) ≤ x.n * (10 : Nat) ∧
                                                                    x_3.snd.n = x_3.snd.n ∧
                                                                      ∀ (j : Nat),
                                                                        j < x_3.snd.n →
                                                                          x_3.snd.clk j = x_3.snd.clk j ∧
                                                                            ((9 : Nat) = (9 : Nat) ∧ ∀ (j_1 : Nat), j_1 < (9 : Nat) → x_3.snd.by_ j j_1 = x_3.snd.by_ j j_1) ∧ True) ∧
                                                                  ((0 : Nat) ≤ (2 : Nat) ∧ (2 : Nat) = (2 : Nat) ∧ ∀ (j : Nat), j < (2 : Nat) → true = true) ∧ True) ∧
                                                            (false = true → (2 : Nat) = (0 : Nat)) ∧
                                                              ((2 : Nat) ≤ (1000 : Nat) ∧ x_3.snd.n ≤ (4 : Nat)) ∧
                                                                ∀ (v_3 : Int),
                                                                  v_3 =
                                                                      leastF (fun (j : Nat) => x_3.snd.clk j) (WS.mk false (2 : Nat) (2 : Nat) fun (_ : Nat) => true).sel x_3.snd.n →
                                                                    (((True ∧ True) ∧
                                                                          (1 : Int) = (1 : Int) ∧
                                                                            (2 : Int) = (2 : Int) ∧ (2305843009213693952 : Int) = (2305843009213693952 : Int) ∧ True) ∧
                                                                        ((2 : Nat) ≤ (2 : Nat) ∧
                                                                            (True ∧ True ∧ (0 : Nat) = (0 : Nat) ∧ x_3.snd.n = x_3.snd.n ∧ x_3.snd.n = x_3.snd.n) ∧
                                                                              x_3.snd.st = x_3.snd.st ∧ True) ∧
                                                                          (x_3.snd.n * (10 : Nat) ≤ x.n * (10 : Nat) ∧
                                                                              x_3.snd.n = x_3.snd.n ∧
                                                                                ∀ (j : Nat),
                                                                                  j < x_3.snd.n →
                                                                                    x_3.snd.clk j = x_3.snd.clk j ∧
                                                                                      ((9 : Nat) = (9 : Nat) ∧
                                                                                          ∀ (j_1 : Nat), j_1 < (9 : Nat) → x_3.snd.by_ j j_1 = x_3.snd.by_ j j_1) ∧
                                                                                        True) ∧
                                                                            True) ∧
                                                                      (x_3.snd.Ok ∧
                                                                          (0 : Int) ≤ (2305843009213693952 : Int) ∧ (2305843009213693952 : Int) < (18446744073709551616 : Int)) ∧
                                                                        ∀ (x_4 : Int × MS),
                                                                          x_4 = x_3.snd.charge (1 : Int) (2 : Int) (2305843009213693952 : Int) →
                                                                            ∀ (v_4 : Int),
                                                                              v_4 = x_4.fst →
                                                                                (((True ∧ True) ∧ (0 : Int) = (0 : Int) ∧ (1 : Int) = (1 : Int) ∧ (1 : Int) = (1 : Int) ∧ True) ∧
                                                                                    ((2 : Nat) ≤ (2 : Nat) ∧
                                                                                        (True ∧ True ∧ (0 : Nat) = (0 : Nat) ∧ x_4.snd.n = x_4.snd.n ∧ x_4.snd.n = x_4.snd.n) ∧
                                                                                          x_4.snd.st = x_4.snd.st ∧ True) ∧
                                                                                      (x_4.snd.n * (10 : Nat) ≤ x.n * (10 : Nat) ∧
                                                                                          x_4.snd.n = x_4.snd.n ∧
                                                                                            ∀ (j : Nat),
                                                                                              j < x_4.snd.n →
                                                                                                x_4.snd.clk j = x_4.snd.clk j ∧
                                                                                                  ((9 : Nat) = (9 : Nat) ∧
                                                                                                      ∀ (j_1 : Nat), j_1 < (9 : Nat) → x_4.snd.by_ j j_1 = x_4.snd.by_ j j_1) ∧
                                                                                                    True) ∧
                                                                                        True) ∧
                                                                                  (x_4.snd.Ok ∧ (0 : Int) ≤ (1 : Int) ∧ (1 : Int) < (18446744073709551616 : Int)) ∧
                                                                                    ∀ (x_5 : Int × MS),
                                                                                      x_5 = x_4.snd.charge (0 : Int) (1 : Int) (1 : Int) →
                                                                                        ∀ (v_5 : Int),
                                                                                          v_5 = x_5.fst →
                                                                                            ((v == (0 : Int)) = true →
                                                                                                ((v_1 == (0 : Int)) = true →
                                                                                                    ((v_2 == (11 : Int)) = true →
                                                                                                        ((v_3 == (0 : Int)) = true →
                                                                                                            ((v_4 == (22 : Int)) = true →
                                                                                                                ((v_5 == (22 : Int)) = true →
                                                                                                                    (((True ∧ True) ∧ True) ∧
                                                                                                                        ((2 : Nat) ≤ (2 : Nat) ∧
                                                                                                                            (True ∧
                                                                                                                                True ∧
                                                                                                                                  (0 : Nat) = (0 : Nat) ∧
                                                                                                                                    x_5.snd.n = x_5.snd.n ∧ x_5.snd.n = x_5.snd.n) ∧
                                                                                                                              x_5.snd.st = x_5.snd.st ∧ True) ∧
                                                                                                                          (x_5.snd.n * (10 : Nat) ≤ x.n * (10 : Nat) ∧
                                                                                                                              x_5.snd.n = x_5.snd.n ∧
                                                                                                                                ∀ (j : Nat),
                                                                                                                                  j < x_5.snd.n →
                                                                                                                                    x_5.snd.clk j = x_5.snd.clk j ∧
                                                                                                                                      ((9 : Nat) = (9 : Nat) ∧
                                                                                                                                          ∀ (j_1 : Nat),
                                                                                                                                            j_1 < (9 : Nat) →
                                                                                                                                              x_5.snd.by_ j j_1 = x_5.snd.by_ j j_1) ∧
                                                                                                                                        True) ∧
                                                                                                                            True) ∧
                                                                                                                      (x_5.snd.st = true →
                                                                                                                          (((True ∧ True) ∧ (0 : Int) = (0 : Int) ∧ True) ∧
                                                                                                                              ((2 : Nat) ≤ (2 : Nat) ∧
                                                                                                                                  (True ∧
                                                                                                                                      True ∧
                                                                                                                                        (0 : Nat) = (0 : Nat) ∧
                                                                                                                                          x_5.snd.n = x_5.snd.n ∧
                                                                                                                                            x_5.snd.n = x_5.snd.n) ∧
                                                                                                                                    x_5.snd.st = x_5.snd.st ∧ True) ∧
                                                                                                                                (x_5.snd.n * (10 : Nat) ≤ x.n * (10 : Nat) ∧
                                                                                                                                    x_5.snd.n = x_5.snd.n ∧
                                                                                                                                      ∀ (j : Nat),
                                                                                                                                        j < x_5.snd.n →
                                                                                                                                          x_5.snd.clk j = x_5.snd.clk j ∧
                                                                                                                                            ((9 : Nat) = (9 : Nat) ∧
                                                                                                                                                ∀ (j_1 : Nat),
                                                                                                                                                  j_1 < (9 : Nat) →
                                                                                                                                                    x_5.snd.by_ j j_1 =
                                                                                                                                                      x_5.snd.by_ j j_1) ∧
                                                                                                                                              True) ∧
                                                                                                                                  True) ∧
                                                                                                                            ((x_5.snd.clkOf (0 : Int) == (40 : Int)) = true →
                                                                                                                                (((True ∧ True) ∧ (1 : Int) = (1 : Int) ∧ True) ∧
                                                                                                                                    ((2 : Nat) ≤ (2 : Nat) ∧
                                                                                                                                        (True ∧
                                                                                                                                            True ∧
                                                                                                                                              (0 : Nat) = (0 : Nat) ∧
                                                                                                                                                x_5.snd.n = x_5.snd.n ∧
                                                                                                                                                  x_5.snd.n = x_5.snd.n) ∧
                                                                                                                                          x_5.snd.st = x_5.snd.st ∧ True) ∧
                                                                                                                                      (x_5.snd.n * (10 : Nat) ≤ x.n * (10 : Nat) ∧
                                                                                                                                          x_5.snd.n = x_5.snd.n ∧
                                                                                                                                            ∀ (j : Nat),
                                                                                                                                              j < x_5.snd.n →
                                                                                                                                                x_5.snd.clk j = x_5.snd.clk j ∧
                                                                                                                                                  ((9 : Nat) = (9 : Nat) ∧
                                                                                                                                                      ∀ (j_1 : Nat),
                                                                                                                                                        j_1 < (9 : Nat) →
                                                                                                                                                          x_5.snd.by_ j j_1 =
                                                                                                                                                            x_5.snd.by_ j j_1) ∧
                                                                                                                                                    True) ∧
                                                                                                                                        True) ∧
                                                                                                                                  ((x_5.snd.clkOf (1 : Int) ==
                                                                                                                                          (4611686018427387904 : Int)) =
                                                                                                                                        true →
                                                                                                                                      (((True ∧ True) ∧
                                                                                                                                            (1 : Int) = (1 : Int) ∧ True) ∧
                                                                                                                                          ((2 : Nat) ≤ (2 : Nat) ∧
                                                                                                                                              (True ∧
                                                                                                                                                  True ∧
                                                                                                                                                    (0 : Nat) = (0 : Nat) ∧
                                                                                                                                                      x_5.snd.n = x_5.snd.n ∧
                                                                                                                                                        x_5.snd.n = x_5.snd.n) ∧
                                                                                                                                                x_5.snd.st = x_5.snd.st ∧ True) ∧
                                                                                                                                            (x_5.snd.n * (10 : Nat) ≤
                                                                                                                                                  x.n * (10 : Nat) ∧
                                                                                                                                                x_5.snd.n = x_5.snd.n ∧
                                                                                                                                                  ∀ (j : Nat),
                                                                                                                                                    j < x_5.snd.n →
                                                                                                                                                      x_5.snd.clk j = x_5.snd.clk j ∧
                                                                                                                                                        ((9 : Nat) = (9 : Nat) ∧
                                                                                                                                                            ∀ (j_1 : Nat),
                                                                                                                                                              j_1 < (9 : Nat) →
                                                                                                                                                                x_5.snd.by_ j j_1 =
                                                                                                                                                                  x_5.snd.by_ j j_1) ∧
                                                                                                                                                          True) ∧
                                                                                                                                              True) ∧
                                                                                                                                        ((x_5.snd.idleOf (1 : Int) == (100 : Int)) =
                                                                                                                                              true →
                                                                                                                                            (((True ∧ True) ∧
                                                                                                                                                  (0 : Int) = (0 : Int) ∧
                                                                                                                                                    (4 : Int) = (4 : Int) ∧ True) ∧
                                                                                                                                                ((2 : Nat) ≤ (2 : Nat) ∧
                                                                                                                                                    (True ∧
                                                                                                                                                        True ∧
                                                                                                                                                          (0 : Nat) = (0 : Nat) ∧
                                                                                                                                                            x_5.snd.n = x_5.snd.n ∧
                                                                                                                                                              x_5.snd.n = x_5.snd.n) ∧
                                                                                                                                                      x_5.snd.st = x_5.snd.st ∧
                                                                                                                                                        True) ∧
                                                                                                                                                  (x_5.snd.n * (10 : Nat) ≤
                                                                                                                                                        x.n * (10 : Nat) ∧
                                                                                                                                                      x_5.snd.n = x_5.snd.n ∧
                                                                                                                                                        ∀ (j : Nat),
                                                                                                                                                          j < x_5.snd.n →
                                                                                                                                                            x_5.snd.clk j =
                                                                                                                                                                x_5.snd.clk j ∧
                                                                                                                                                              ((9 : Nat) = (9 : Nat) ∧
                                                                                                                                                                  ∀ (j_1 : Nat),
                                                                                                                                                                    j_1 < (9 : Nat) →
                                                                                                                                                                      x_5.snd.by_ j
                                                                                                                                                                          j_1 =
                                                                                                                                                                        x_5.snd.by_ j
                                                                                                                                                                          j_1) ∧
                                                                                                                                                                True) ∧
                                                                                                                                                    True) ∧
                                                                                                                                              ((x_5.snd.spentOf (0 : Int) (4 : Int) ==
                                                                                                                                                      (40 : Int)) =
                                                                                                                                                    true →
                                                                                                                                                  (((8 : Int) = (8 : Int) ∧ True) ∧
                                                                                                                                                      True) ∧
                                                                                                                                                    ((cost (8 : Int) == (64 : Int)) =
                                                                                                                                                          true →
                                                                                                                                                        (((True ∧ True) ∧
                                                                                                                                                              True ∧ True) ∧
                                                                                                                                                            ((2 : Nat) ≤ (2 : Nat) ∧
                                                                                                                                                                (True ∧
                                                                                                                                                                    True ∧
                                                                                                                                                                      (0 : Nat) =
                                                                                                                                                                          (0 : Nat) ∧
                                                                                                                                                                        x_5.snd.n =
                                                                                                                                                                            x_5.snd.n ∧
                                                                                                                                                                          x_5.snd.n =
                                                                                                                                                                            x_5.snd.n) ∧
                                                                                                                                                                  x_5.snd.st =
                                                                                                                                                                      x_5.snd.st ∧
                                                                                                                                                                    True) ∧
                                                                                                                                                              (x_5.snd.n *
                                                                                                                                                                      (10 : Nat) ≤
                                                                                                                                                                    x.n * (10 : Nat) ∧
                                                                                                                                                                  x_5.snd.n =
                                                                                                                                                                      x_5.snd.n ∧
                                                                                                                                                                    ∀ (j : Nat),
                                                                                                                                                                      j < x_5.snd.n →
                                                                                                                                                                        x_5.snd.clk
                                                                                                                                                                              j =
                                                                                                                                                                            x_5.snd.clk
                                                                                                                                                                              j ∧
                                                                                                                                                                          ((9 : Nat) =
                                                                                                                                                                                (9 :
                                                                                                                                                                                  Nat) ∧
                                                                                                                                                                              ∀
                                                                                                                                                                                (j_1 :
                                                                                                                                                                                  Nat),
                                                                                                                                                                                j_1 <
                                                                                                                                                                                    (9 :
                                                                                                                                                                                      Nat) →
                                                                                                                                                                                  x_5.snd.by_
                                                                                                                                                                                      j
                                                                                                                                                                                      j_1 =
                                                                                                                                                                                    x_5.snd.by_
                                                                                                                                                                                      j
                                                                                                                                                                                      j_1) ∧
                                                                                                                                                                            True) ∧
                                                                                                                                                                True) ∧
                                                                                                                                                          x_5.snd.n ≤ (4 : Nat) ∧
                                                                                                                                                            ((-1 : Int) ==
                                                                                                                                                                  (-1 : Int)) =
                                                                                                                                                                true ∧
                                                                                                                                                              True ∧ True) ∧
                                                                                                                                                      ((cost (8 : Int) ==
                                                                                                                                                            (64 : Int)) =
                                                                                                                                                          false →
                                                                                                                                                        False ∧ True ∧ True)) ∧
                                                                                                                                                ((x_5.snd.spentOf (0 : Int)
                                                                                                                                                        (4 : Int) ==
                                                                                                                                                      (40 : Int)) =
                                                                                                                                                    false →
                                                                                                                                                  False ∧ True ∧ True)) ∧
                                                                                                                                          ((x_5.snd.idleOf (1 : Int) == (100 : Int)) =
                                                                                                                                              false →
                                                                                                                                            False ∧ True ∧ True)) ∧
                                                                                                                                    ((x_5.snd.clkOf (1 : Int) ==
                                                                                                                                          (4611686018427387904 : Int)) =
                                                                                                                                        false →
                                                                                                                                      False ∧ True ∧ True)) ∧
                                                                                                                              ((x_5.snd.clkOf (0 : Int) == (40 : Int)) = false →
                                                                                                                                False ∧ True ∧ True)) ∧
                                                                                                                        (x_5.snd.st = false → False ∧ True ∧ True)) ∧
                                                                                                                  ((v_5 == (22 : Int)) = false → False ∧ True ∧ True)) ∧
                                                                                                              ((v_4 == (22 : Int)) = false → False ∧ True ∧ True)) ∧
                                                                                                          ((v_3 == (0 : Int)) = false → False ∧ True ∧ True)) ∧
                                                                                                      ((v_2 == (11 : Int)) = false → False ∧ True ∧ True)) ∧
                                                                                                  ((v_1 == (0 : Int)) = false → False ∧ True ∧ True)) ∧
                                                                                              ((v == (0 : Int)) = false → False ∧ True ∧ True))) ∧
        (¬((1 : Int) ≤ (2 : Int) ∧ (2 : Int) ≤ (4 : Int)) →
          ∀ (v : Int), v = (11 : Int) → ((v != (0 : Int)) = true → False ∧ True ∧ True) ∧ ((v != (0 : Int)) = false → False ∧ True ∧ True)) := by
  simp only [true_and, and_true, eq_self, Nat.le_refl, beq_iff_eq, beq_eq_false_iff_ne, implies_true, true_implies, and_self, bne_iff_ne, ne_eq, bne_eq_false_iff_eq, forall_eq]
  repeat' (with_reducible first | apply And.intro | intro _)
  all_goals (first
    | decide +kernel
    | (rename_i h; exact absurd (by decide +kernel) h)
    | (rename_i h; exact absurd h (by decide +kernel))
    | (rename_i h _; exact absurd (by decide +kernel) h)
    | skip)
  all_goals (repeat (first | exact MS.Ok.new _ | refine MS.Ok.charge ?_ (by decide) | refine MS.Ok.wait ?_))

def alive_C (_ : Unit) : Cfg := { Γ := Go.Sx.look tLaw, names := true }
theorem alive_al (x : Unit) : Shown (aliveP.vc Try.prog (alive_C x) Try.f7 x) := ⟨@Eq.mp _ _ (by kernel_rfl) (alive_vc )⟩
theorem alive_ok : SpOk Try.prog 7 aliveP.sp := @Pat.okS _ aliveP Try.prog alive_C 7 Try.f7 (fun x => cfg_tab rfl tLaw_ok) (by kernel_rfl) Try.func7 (fun _ => rfl) alive_al
def tTop : Tab := [(7, aliveP.sp), (8, newP.sp), (14, clockP.sp), (16, idleP.sp), (18, spentP.sp), (13, stoppedP.sp), (11, chargeP.sp), (9, waitP.sp), (19, altSp 1 (leastNP.sp) (leastP.sp)), (20, costP.sp)]
theorem tTop_ok : TabOk Try.prog tTop := (tab_cons alive_ok (tab_cons new_ok (tab_cons clock_ok (tab_cons idle_ok (tab_cons spent_ok (tab_cons stopped_ok (tab_cons charge_ok (tab_cons wait_ok (tab_cons leastA_ok (tab_cons cost_ok tab_nil))))))))))

/-- A row of calls. -/
structure CS where
  nil : Bool
  len : Nat
  cap : Nat
  core : Nat → Int
  kind : Nat → Int
  times : Nat → Int
  wait : Nat → Bool
def CS.reg (x : CS) : Reg := roReg 35 x.len 4 (fun j => .cons (.int .i64 (x.core j)) (.cons (.int .i64 (x.kind j)) (.cons (.int .u64 (x.times j)) (.cons (.bool (x.wait j)) .nil))))
def CS.t (x : CS) (r : Nat) : T := .ite x.nil .nils (.slice r 0 [] 0 4 x.len x.cap)
def CS.Ok (x : CS) : Prop := (x.nil = true → x.len = 0) ∧ x.len ≤ 9223372036854775807 ∧ ∀ j, i64 (x.core j) ∧ i64 (x.kind j) ∧ u64 (x.times j)
structure S1 where
  i : Nat
  s : MS
structure S2 where
  i : Nat
  s : MS
  k : Nat
structure S3 where
  i : Nat
  s : MS
  k : Nat
  sum : Int
  j : Nat
def sumsF1 (x : CS) : Fam where
  α := S1
  I y := y.i ≤ x.len ∧ x.len ≤ 60 ∧ y.s.Ok ∧ y.s.n = 3
  st y := { sl := mkSl 116 [(0, x.t 0), (3, p0 1), (5, .int .i64 y.i)], H := x.reg :: y.s.HT 2 }
  μ y := x.len - y.i
def sumsF2 (x : CS) (u : S1) : Fam where
  α := S2
  I y := y.i = u.i ∧ y.s.Ok ∧ y.s.n = 3 ∧ y.k ≤ 3
  st y := { sl := mkSl 116 [(0, x.t 0), (3, p0 1), (5, .int .i64 y.i), (10, .int .i64 y.k)], H := x.reg :: y.s.HT 2 }
  μ y := 3 - y.k
def sumsF3 (x : CS) (p : S2) : Fam where
  α := S3
  I y := y.i = p.i ∧ y.s.Ok ∧ y.s.n = 3 ∧ y.k = p.k ∧ 1 ≤ y.j ∧ y.j ≤ 9 ∧ y.sum = psum (y.s.by_ y.k) y.j
  st y := { sl := mkSl 116 [(0, x.t 0), (3, p0 1), (5, .int .i64 y.i), (10, .int .i64 y.k), (11, .int .u64 y.sum), (12, .int .i64 y.j)], H := x.reg :: y.s.HT 2 }
  μ y := 9 - y.j
def sumsL (x : CS) : Nat → Gam
  | 9 => .l [sumsF1 x]
  | 21 => .g fun u => [sumsF2 x u]
  | 25 => .g fun p => [sumsF3 x p]
  | _ => .l []
theorem on_clk {s : MS} (hs : s.Ok) {c : Int} {k : Nat} {y : Int} (hc : 0 ≤ c ∧ c < s.n) (hy : 0 ≤ y) : s.clkOf c ≤ (s.on c.toNat k y).clkOf c := by
  obtain ⟨⟨h1, h2⟩, -⟩ := hs c.toNat (by omega)
  unfold MS.clkOf
  rw [if_pos hc, if_pos (show 0 ≤ c ∧ c < ((s.on c.toNat k y).n : Int) from hc)]
  simp only [MS.on, upI, if_pos]
  omega
theorem wait_fact {s : MS} (hs : s.Ok) (c t : Int) : s.clkOf c ≤ (s.wait c t).2.clkOf c ∧ (s.st = true → (s.wait c t).1 ≠ 0 ∧ (s.wait c t).2.clkOf c = s.clkOf c) ∧ ((s.wait c t).1 = 22 → (s.wait c t).2.st = true) := by
  unfold MS.wait
  split
  · exact ⟨Int.le_refl _, fun _ => ⟨by simp, rfl⟩, fun h => by simp at h⟩
  · split
    · rename_i h; exact ⟨Int.le_refl _, fun _ => ⟨by simp, rfl⟩, fun _ => h⟩
    · split
      · rename_i h _; exact ⟨Int.le_refl _, fun h2 => absurd h2 h, fun h => by simp at h⟩
      · rename_i h _
        refine ⟨on_clk hs (by omega) (by omega), fun h2 => absurd h2 h, fun h => ?_⟩
        dsimp only at h ⊢
        split at h
        · assumption
        · simp at h
theorem charge_fact {s : MS} (hs : s.Ok) (c k t : Int) (ht : 0 ≤ t) : s.clkOf c ≤ (s.charge c k t).2.clkOf c ∧ (s.st = true → (s.charge c k t).1 ≠ 0 ∧ (s.charge c k t).2.clkOf c = s.clkOf c) ∧ ((s.charge c k t).1 = 22 → (s.charge c k t).2.st = true) := by
  have hk := cost_bd k
  unfold MS.charge
  split
  · exact ⟨Int.le_refl _, fun _ => ⟨by simp, rfl⟩, fun h => by simp at h⟩
  · split
    · rename_i h; exact ⟨Int.le_refl _, fun _ => ⟨by simp, rfl⟩, fun _ => h⟩
    · rename_i h
      refine ⟨on_clk hs (by omega) (Int.mul_nonneg hk.1 ht), fun h2 => absurd h2 h, fun h => ?_⟩
      dsimp only at h ⊢
      split at h
      · assumption
      · simp at h
structure S4 where
  i : Nat
  s : MS
  b : Int
  st : Bool
  e : Int
def sumsC1 (x : CS) (u : S1) : Fam where
  α := S4
  I y := y.i = u.i ∧ y.s.Ok ∧ y.s.n = 3 ∧ y.b ≤ y.s.clkOf (x.core y.i) ∧ (y.st = true → ¬ y.e = 0 ∧ y.s.clkOf (x.core y.i) = y.b) ∧ (y.e = 22 → y.s.st = true)
  st y := { sl := mkSl 116 [(0, x.t 0), (3, p0 1), (5, .int .i64 y.i), (6, p0 3), (7, .int .u64 y.b), (8, .bool y.st), (9, .int .i64 y.e)],
            H := (x.reg :: y.s.HT 2) ++ [newReg 35 (.cons (.int .i64 (x.core y.i)) (.cons (.int .i64 (x.kind y.i)) (.cons (.int .u64 (x.times y.i)) (.cons (.bool (x.wait y.i)) .nil))))] }
  μ _ := 0
def sumsC2 (x : CS) (u : S1) : Fam where
  α := S1
  I y := y.i = u.i ∧ y.s.Ok ∧ y.s.n = 3
  st y := { sl := mkSl 116 [(0, x.t 0), (3, p0 1), (5, .int .i64 y.i)], H := x.reg :: y.s.HT 2 }
  μ _ := 0
def sumsK (x : CS) : Nat → Gam
  | 18 => .g fun u => [sumsC1 x u]
  | 20 => .g fun u => [sumsC2 x u]
  | _ => .l []
def sumsP : Pat CS where
  view _ _ := none
  args x := [x.t 0]
  H x := [x.reg]
  out x := .need x.Ok (.retq .tt)
theorem sums_vc : ∀ (x : CS),
    x.Ok ∧ True →
      (True ∧ True) ∧
        (x.nil = true → x.len = (0 : Nat)) ∧
          (decide ((↑x.len : Int) > (60 : Int)) = true →
              x.Ok →
                True ∧
                  True ∧
                    ((0 : Nat) ≤ (0 : Nat) ∧
                        x.len = x.len ∧ ∀ (j : Nat), j < x.len → x.core j = x.core j ∧ x.kind j = x.kind j ∧ x.times j = x.times j ∧ x.wait j = x.wait j ∧ True) ∧
                      True) ∧
            (decide ((↑x.len : Int) > (60 : Int)) = false →
              (((3 : Int) = (3 : Int) ∧ True) ∧ True) ∧
                ((1 : Int) ≤ (3 : Int) ∧ (3 : Int) ≤ (4 : Int) →
                    ∀ (x_1 : MS),
                      x_1 = MS.new (3 : Int) →
                        ∀ (v : Int),
                          v = (0 : Int) →
                            ((v != (0 : Int)) = true →
                                x.Ok →
                                  False ∧
                                    True ∧
                                      ((0 : Nat) ≤ (0 : Nat) ∧
                                          x.len = x.len ∧ ∀ (j : Nat), j < x.len → x.core j = x.core j ∧ x.kind j = x.kind j ∧ x.times j = x.times j ∧ x.wait j = x.wait j ∧ True) ∧
                                        True) ∧
                              ((v != (0 : Int)) = false →
                                ∀ (v : Int),
                                  v = (0 : Int) →
                                    (∃ (y : S1),
                                        (y.i ≤ x.len ∧ x.len ≤ (60 : Nat) ∧ y.s.Ok ∧ y.s.n = (3 : Nat)) ∧
                                          ((((x.nil = true → x.nil = true) ∧ (x.nil = false → x.nil = false ∧ True ∧ True ∧ (0 : Nat) = (0 : Nat) ∧ x.len = x.len ∧ x.cap = x.cap)) ∧
                                                (True ∧ True) ∧ v = (↑y.i : Int) ∧ True) ∧
                                              ((0 : Nat) ≤ (0 : Nat) ∧
                                                  x.len = x.len ∧
                                                    ∀ (j : Nat), j < x.len → x.core j = x.core j ∧ x.kind j = x.kind j ∧ x.times j = x.times j ∧ x.wait j = x.wait j ∧ True) ∧
                                                ((2 : Nat) ≤ (2 : Nat) ∧ (True ∧ True ∧ (0 : Nat) = (0 : Nat) ∧ x_1.n = y.s.n ∧ x_1.n = y.s.n) ∧ x_1.st = y.s.st ∧ True) ∧
                                                  (y.s.n * (10 : Nat) ≤ x_1.n * (10 : Nat) ∧
                                                      y.s.n = x_1.n ∧
                                                        ∀ (j : Nat),
                                                          j < x_1.n →
                                                            x_1.clk j = y.s.clk j ∧ ((9 : Nat) = (9 : Nat) ∧ ∀ (j_1 : Nat), j_1 < (9 : Nat) → x_1.by_ j j_1 = y.s.by_ j j_1) ∧ True) ∧
                                                    True) ∧
                                            True) ∧
                                      ∀ (y : S1),
                                        y.i ≤ x.len ∧ x.len ≤ (60 : Nat) ∧ y.s.Ok ∧ y.s.n = (3 : Nat) →
                                          (x.nil = true → x.len = (0 : Nat)) ∧
                                            (decide ((↑y.i : Int) < (↑x.len : Int)) = true →
                                                (x.nil = true → x.len = (0 : Nat)) ∧
                                                  ((0 : Int) ≤ (↑y.i : Int) ∧ (↑y.i : Int) < (↑x.len : Int)) ∧
                                                    (0 : Nat) + (↑y.i : Int).toNat < x.len ∧
                                                      (((True ∧ True) ∧ x.core ((0 : Nat) + (↑y.i : Int).toNat) = x.core ((0 : Nat) + (↑y.i : Int).toNat) ∧ True) ∧
                                                          ((2 : Nat) ≤ (2 : Nat) ∧ (True ∧ True ∧ (0 : Nat) = (0 : Nat) ∧ y.s.n = y.s.n ∧ y.s.n = y.s.n) ∧ y.s.st = y.s.st ∧ True) ∧
                                                            (y.s.n * (10 : Nat) ≤ y.s.n * (10 : Nat) ∧
                                                                y.s.n = y.s.n ∧
                                                                  ∀ (j : Nat),
                                                                    j < y.s.n →
                                                                      y.s.clk j = y.s.clk j ∧
                                                                        ((9 : Nat) = (9 : Nat) ∧ ∀ (j_1 : Nat), j_1 < (9 : Nat) → y.s.by_ j j_1 = y.s.by_ j j_1) ∧ True) ∧
                                                              True) ∧
                                                        ∀ (v : Int),
                                                          v = y.s.clkOf (x.core ((0 : Nat) + (↑y.i : Int).toNat)) →
                                                            (((True ∧ True) ∧ True) ∧
                                                                ((2 : Nat) ≤ (2 : Nat) ∧
                                                                    (True ∧ True ∧ (0 : Nat) = (0 : Nat) ∧ y.s.n = y.s.n ∧ y.s.n = y.s.n) ∧ y.s.st = y.s.st ∧ True) ∧
                                                                  (y.s.n * (10 : Nat) ≤ y.s.n * (10 : Nat) ∧
                                                                      y.s.n = y.s.n ∧
                                                                        ∀ (j : Nat),
                                                                          j < y.s.n →
                                                                            y.s.clk j = y.s.clk j ∧
                                                                              ((9 : Nat) = (9 : Nat) ∧ ∀ (j_1 : Nat), j_1 < (9 : Nat) → y.s.by_ j j_1 = y.s.by_ j j_1) ∧ True) ∧
                                                                    True) ∧
                                                              ∀ (v_1 : Int),
                                                                v_1 = (0 : Int) →
                                                                  ∃ (g : S1),
                                                                    ((x.wait ((0 : Nat) + (↑y.i : Int).toNat) = true →
                                                                          (((True ∧ True) ∧
                                                                                x.core ((0 : Nat) + (↑y.i : Int).toNat) = x.core ((0 : Nat) + (↑y.i : Int).toNat) ∧
                                                                                  x.times ((0 : Nat) + (↑y.i : Int).toNat) = x.times ((0 : Nat) + (↑y.i : Int).toNat) ∧ True) ∧
                                                                              ((2 : Nat) ≤ (2 : Nat) ∧
                                                                                  (True ∧ True ∧ (0 : Nat) = (0 : Nat) ∧ y.s.n = y.s.n ∧ y.s.n = y.s.n) ∧ y.s.st = y.s.st ∧ True) ∧
                                                                                (y.s.n * (10 : Nat) ≤ y.s.n * (10 : Nat) ∧
                                                                                    y.s.n = y.s.n ∧
                                                                                      ∀ (j : Nat),
                                                                                        j < y.s.n →
                                                                                          y.s.clk j = y.s.clk j ∧
                                                                                            ((9 : Nat) = (9 : Nat) ∧ ∀ (j_1 : Nat), j_1 < (9 : Nat) → y.s.by_ j j_1 = y.s.by_ j j_1) ∧
                                                                                              True) ∧
                                                                                  True) ∧
                                                                            (y.s.Ok ∧
                                                                                (0 : Int) ≤ x.times ((0 : Nat) + (↑y.i : Int).toNat) ∧
                                                                                  x.times ((0 : Nat) + (↑y.i : Int).toNat) < (18446744073709551616 : Int)) ∧
                                                                              ∀ (x_2 : Int × MS),
                                                                                x_2 = y.s.wait (x.core ((0 : Nat) + (↑y.i : Int).toNat)) (x.times ((0 : Nat) + (↑y.i : Int).toNat)) →
                                                                                  ∀ (v_2 : Int),
                                                                                    v_2 = x_2.fst →
                                                                                      ∃ (y_1 : S4),
                                                                                        (y_1.i = g.i ∧
                                                                                            y_1.s.Ok ∧
                                                                                              y_1.s.n = (3 : Nat) ∧
                                                                                                y_1.b ≤ y_1.s.clkOf (x.core y_1.i) ∧
                                                                                                  (y_1.st = true → ¬y_1.e = (0 : Int) ∧ y_1.s.clkOf (x.core y_1.i) = y_1.b) ∧
                                                                                                    (y_1.e = (22 : Int) → y_1.s.st = true)) ∧
                                                                                          ((((x.nil = true → x.nil = true) ∧
                                                                                                  (x.nil = false →
                                                                                                    x.nil = false ∧
                                                                                                      True ∧ True ∧ (0 : Nat) = (0 : Nat) ∧ x.len = x.len ∧ x.cap = x.cap)) ∧
                                                                                                (True ∧ True) ∧
                                                                                                  (↑y.i : Int) = (↑y_1.i : Int) ∧
                                                                                                    (True ∧ True) ∧ v = y_1.b ∧ y.s.st = y_1.st ∧ v_2 = y_1.e ∧ True) ∧
                                                                                              ((0 : Nat) ≤ (0 : Nat) ∧
                                                                                                  x.len = x.len ∧
                                                                                                    ∀ (j : Nat),
                                                                                                      j < x.len →
                                                                                                        x.core j = x.core j ∧
                                                                                                          x.kind j = x.kind j ∧ x.times j = x.times j ∧ x.wait j = x.wait j ∧ True) ∧
                                                                                                ((2 : Nat) ≤ (2 : Nat) ∧
                                                                                                    (True ∧
                                                                                                        True ∧ (0 : Nat) = (0 : Nat) ∧ x_2.snd.n = y_1.s.n ∧ x_2.snd.n = y_1.s.n) ∧
                                                                                                      x_2.snd.st = y_1.s.st ∧ True) ∧
                                                                                                  (y_1.s.n * (10 : Nat) ≤ y.s.n * (10 : Nat) ∧
                                                                                                      y_1.s.n = x_2.snd.n ∧
                                                                                                        ∀ (j : Nat),
                                                                                                          j < x_2.snd.n →
                                                                                                            x_2.snd.clk j = y_1.s.clk j ∧
                                                                                                              ((9 : Nat) = (9 : Nat) ∧
                                                                                                                  ∀ (j_1 : Nat),
                                                                                                                    j_1 < (9 : Nat) → x_2.snd.by_ j j_1 = y_1.s.by_ j j_1) ∧
                                                                                                                True) ∧
                                                                                                    ((4 : Nat) ≤ (4 : Nat) ∧
                                                                                                        x.core ((0 : Nat) + (↑y.i : Int).toNat) = x.core y_1.i ∧
                                                                                                          x.kind ((0 : Nat) + (↑y.i : Int).toNat) = x.kind y_1.i ∧
                                                                                                            x.times ((0 : Nat) + (↑y.i : Int).toNat) = x.times y_1.i ∧
                                                                                                              x.wait ((0 : Nat) + (↑y.i : Int).toNat) = x.wait y_1.i ∧ True) ∧
                                                                                                      True) ∧
                                                                                            True) ∧
                                                                        (x.wait ((0 : Nat) + (↑y.i : Int).toNat) = false →
                                                                          (((True ∧ True) ∧
                                                                                x.core ((0 : Nat) + (↑y.i : Int).toNat) = x.core ((0 : Nat) + (↑y.i : Int).toNat) ∧
                                                                                  x.kind ((0 : Nat) + (↑y.i : Int).toNat) = x.kind ((0 : Nat) + (↑y.i : Int).toNat) ∧
                                                                                    x.times ((0 : Nat) + (↑y.i : Int).toNat) = x.times ((0 : Nat) + (↑y.i : Int).toNat) ∧ True) ∧
                                                                              ((2 : Nat) ≤ (2 : Nat) ∧
                                                                                  (True ∧ True ∧ (0 : Nat) = (0 : Nat) ∧ y.s.n = y.s.n ∧ y.s.n = y.s.n) ∧ y.s.st = y.s.st ∧ True) ∧
                                                                                (y.s.n * (10 : Nat) ≤ y.s.n * (10 : Nat) ∧
                                                                                    y.s.n = y.s.n ∧
                                                                                      ∀ (j : Nat),
                                                                                        j < y.s.n →
                                                                                          y.s.clk j = y.s.clk j ∧
                                                                                            ((9 : Nat) = (9 : Nat) ∧ ∀ (j_1 : Nat), j_1 < (9 : Nat) → y.s.by_ j j_1 = y.s.by_ j j_1) ∧
                                                                                              True) ∧
                                                                                  True) ∧
                                                                            (y.s.Ok ∧
                                                                                (0 : Int) ≤ x.times ((0 : Nat) + (↑y.i : Int).toNat) ∧
                                                                                  x.times ((0 : Nat) + (↑y.i : Int).toNat) < (18446744073709551616 : Int)) ∧
                                                                              ∀ (x_2 : Int × MS),
                                                                                x_2 =
                                                                                    y.s.charge (x.core ((0 : Nat) + (↑y.i : Int).toNat)) (x.kind ((0 : Nat) + (↑y.i : Int).toNat))
                                                                                      (x.times ((0 : Nat) + (↑y.i : Int).toNat)) →
                                                                                  ∀ (v_2 : Int),
                                                                                    v_2 = x_2.fst →
                                                                                      ∃ (y_1 : S4),
                                                                                        (y_1.i = g.i ∧
                                                                                            y_1.s.Ok ∧
                                                                                              y_1.s.n = (3 : Nat) ∧
                                                                                                y_1.b ≤ y_1.s.clkOf (x.core y_1.i) ∧
                                                                                                  (y_1.st = true → ¬y_1.e = (0 : Int) ∧ y_1.s.clkOf (x.core y_1.i) = y_1.b) ∧
                                                                                                    (y_1.e = (22 : Int) → y_1.s.st = true)) ∧
                                                                                          ((((x.nil = true → x.nil = true) ∧
                                                                                                  (x.nil = false →
                                                                                                    x.nil = false ∧
                                                                                                      True ∧ True ∧ (0 : Nat) = (0 : Nat) ∧ x.len = x.len ∧ x.cap = x.cap)) ∧
                                                                                                (True ∧ True) ∧
                                                                                                  (↑y.i : Int) = (↑y_1.i : Int) ∧
                                                                                                    (True ∧ True) ∧ v = y_1.b ∧ y.s.st = y_1.st ∧ v_2 = y_1.e ∧ True) ∧
                                                                                              ((0 : Nat) ≤ (0 : Nat) ∧
                                                                                                  x.len = x.len ∧
                                                                                                    ∀ (j : Nat),
                                                                                                      j < x.len →
                                                                                                        x.core j = x.core j ∧
                                                                                                          x.kind j = x.kind j ∧ x.times j = x.times j ∧ x.wait j = x.wait j ∧ True) ∧
                                                                                                ((2 : Nat) ≤ (2 : Nat) ∧
                                                                                                    (True ∧
                                                                                                        True ∧ (0 : Nat) = (0 : Nat) ∧ x_2.snd.n = y_1.s.n ∧ x_2.snd.n = y_1.s.n) ∧
                                                                                                      x_2.snd.st = y_1.s.st ∧ True) ∧
                                                                                                  (y_1.s.n * (10 : Nat) ≤ y.s.n * (10 : Nat) ∧
                                                                                                      y_1.s.n = x_2.snd.n ∧
                                                                                                        ∀ (j : Nat),
                                                                                                          j < x_2.snd.n →
                                                                                                            x_2.snd.clk j = y_1.s.clk j ∧
                                                                                                              ((9 : Nat) = (9 : Nat) ∧
                                                                                                                  ∀ (j_1 : Nat),
                                                                                                                    j_1 < (9 : Nat) → x_2.snd.by_ j j_1 = y_1.s.by_ j j_1) ∧
                                                                                                                True) ∧
                                                                                                    ((4 : Nat) ≤ (4 : Nat) ∧
                                                                                                        x.core ((0 : Nat) + (↑y.i : Int).toNat) = x.core y_1.i ∧
                                                                                                          x.kind ((0 : Nat) + (↑y.i : Int).toNat) = x.kind y_1.i ∧
                                                                                                            x.times ((0 : Nat) + (↑y.i : Int).toNat) = x.times y_1.i ∧
                                                                                                              x.wait ((0 : Nat) + (↑y.i : Int).toNat) = x.wait y_1.i ∧ True) ∧
                                                                                                      True) ∧
                                                                                            True)) ∧
                                                                      ∀ (y_1 : S4),
                                                                        y_1.i = g.i ∧
                                                                            y_1.s.Ok ∧
                                                                              y_1.s.n = (3 : Nat) ∧
                                                                                y_1.b ≤ y_1.s.clkOf (x.core y_1.i) ∧
                                                                                  (y_1.st = true → ¬y_1.e = (0 : Int) ∧ y_1.s.clkOf (x.core y_1.i) = y_1.b) ∧
                                                                                    (y_1.e = (22 : Int) → y_1.s.st = true) →
                                                                          ∃ (g : S1),
                                                                            ((((True ∧ True) ∧ x.core y_1.i = x.core y_1.i ∧ True) ∧
                                                                                  ((2 : Nat) ≤ (2 : Nat) ∧
                                                                                      (True ∧ True ∧ (0 : Nat) = (0 : Nat) ∧ y_1.s.n = y_1.s.n ∧ y_1.s.n = y_1.s.n) ∧
                                                                                        y_1.s.st = y_1.s.st ∧ True) ∧
                                                                                    (y_1.s.n * (10 : Nat) ≤ y_1.s.n * (10 : Nat) ∧
                                                                                        y_1.s.n = y_1.s.n ∧
                                                                                          ∀ (j : Nat),
                                                                                            j < y_1.s.n →
                                                                                              y_1.s.clk j = y_1.s.clk j ∧
                                                                                                ((9 : Nat) = (9 : Nat) ∧
                                                                                                    ∀ (j_1 : Nat), j_1 < (9 : Nat) → y_1.s.by_ j j_1 = y_1.s.by_ j j_1) ∧
                                                                                                  True) ∧
                                                                                      True) ∧
                                                                                (decide (y_1.s.clkOf (x.core y_1.i) < y_1.b) = true →
                                                                                    x.Ok →
                                                                                      False ∧
                                                                                        True ∧
                                                                                          ((0 : Nat) ≤ (0 : Nat) ∧
                                                                                              x.len = x.len ∧
                                                                                                ∀ (j : Nat),
                                                                                                  j < x.len →
                                                                                                    x.core j = x.core j ∧
                                                                                                      x.kind j = x.kind j ∧ x.times j = x.times j ∧ x.wait j = x.wait j ∧ True) ∧
                                                                                            True) ∧
                                                                                  (decide (y_1.s.clkOf (x.core y_1.i) < y_1.b) = false →
                                                                                    (y_1.st = true →
                                                                                        ((y_1.e == (0 : Int)) = true →
                                                                                            x.Ok →
                                                                                              False ∧
                                                                                                True ∧
                                                                                                  ((0 : Nat) ≤ (0 : Nat) ∧
                                                                                                      x.len = x.len ∧
                                                                                                        ∀ (j : Nat),
                                                                                                          j < x.len →
                                                                                                            x.core j = x.core j ∧
                                                                                                              x.kind j = x.kind j ∧
                                                                                                                x.times j = x.times j ∧ x.wait j = x.wait j ∧ True) ∧
                                                                                                    True) ∧
                                                                                          ((y_1.e == (0 : Int)) = false →
                                                                                            (((True ∧ True) ∧ x.core y_1.i = x.core y_1.i ∧ True) ∧
                                                                                                ((2 : Nat) ≤ (2 : Nat) ∧
                                                                                                    (True ∧ True ∧ (0 : Nat) = (0 : Nat) ∧ y_1.s.n = y_1.s.n ∧ y_1.s.n = y_1.s.n) ∧
                                                                                                      y_1.s.st = y_1.s.st ∧ True) ∧
                                                                                                  (y_1.s.n * (10 : Nat) ≤ y_1.s.n * (10 : Nat) ∧
                                                                                                      y_1.s.n = y_1.s.n ∧
                                                                                                        ∀ (j : Nat),
                                                                                                          j < y_1.s.n →
                                                                                                            y_1.s.clk j = y_1.s.clk j ∧
                                                                                                              ((9 : Nat) = (9 : Nat) ∧
                                                                                                                  ∀ (j_1 : Nat),
                                                                                                                    j_1 < (9 : Nat) → y_1.s.by_ j j_1 = y_1.s.by_ j j_1) ∧
                                                                                                                True) ∧
                                                                                                    True) ∧
                                                                                              ((y_1.s.clkOf (x.core y_1.i) != y_1.b) = true →
                                                                                                  x.Ok →
                                                                                                    False ∧
                                                                                                      True ∧
                                                                                                        ((0 : Nat) ≤ (0 : Nat) ∧
                                                                                                            x.len = x.len ∧
                                                                                                              ∀ (j : Nat),
                                                                                                                j < x.len →
                                                                                                                  x.core j = x.core j ∧
                                                                                                                    x.kind j = x.kind j ∧
                                                                                                                      x.times j = x.times j ∧ x.wait j = x.wait j ∧ True) ∧
                                                                                                          True) ∧
                                                                                                ((y_1.s.clkOf (x.core y_1.i) != y_1.b) = false →
                                                                                                  ((y_1.e == (22 : Int)) = true →
                                                                                                      (((True ∧ True) ∧ True) ∧
                                                                                                          ((2 : Nat) ≤ (2 : Nat) ∧
                                                                                                              (True ∧
                                                                                                                  True ∧
                                                                                                                    (0 : Nat) = (0 : Nat) ∧ y_1.s.n = y_1.s.n ∧ y_1.s.n = y_1.s.n) ∧
                                                                                                                y_1.s.st = y_1.s.st ∧ True) ∧
                                                                                                            (y_1.s.n * (10 : Nat) ≤ y_1.s.n * (10 : Nat) ∧
                                                                                                                y_1.s.n = y_1.s.n ∧
                                                                                                                  ∀ (j : Nat),
                                                                                                                    j < y_1.s.n →
                                                                                                                      y_1.s.clk j = y_1.s.clk j ∧
                                                                                                                        ((9 : Nat) = (9 : Nat) ∧
                                                                                                                            ∀ (j_1 : Nat),
                                                                                                                              j_1 < (9 : Nat) → y_1.s.by_ j j_1 = y_1.s.by_ j j_1) ∧
                                                                                                                          True) ∧
                                                                                                              True) ∧
                                                                                                        ((!y_1.s.st) = true →
                                                                                                            x.Ok →
                                                                                                              False ∧
                                                                                                                True ∧
                                                                                                                  ((0 : Nat) ≤ (0 : Nat) ∧
                                                                                                                      x.len = x.len ∧
                                                                                                                        ∀ (j : Nat),
                                                                                                                          j < x.len →
                                                                                                                            x.core j = x.core j ∧
                                                                                                                              x.kind j = x.kind j ∧
                                                                                                                                x.times j = x.times j ∧ x.wait j = x.wait j ∧ True) ∧
                                                                                                                    True) ∧
                                                                                                          ((!y_1.s.st) = false →
                                                                                                            ∃ (y : S1),
                                                                                                              (y.i = g.i ∧ y.s.Ok ∧ y.s.n = (3 : Nat)) ∧
                                                                                                                ((((x.nil = true → x.nil = true) ∧
                                                                                                                        (x.nil = false →
                                                                                                                          x.nil = false ∧
                                                                                                                            True ∧
                                                                                                                              True ∧
                                                                                                                                (0 : Nat) = (0 : Nat) ∧
                                                                                                                                  x.len = x.len ∧ x.cap = x.cap)) ∧
                                                                                                                      (True ∧ True) ∧ (↑y_1.i : Int) = (↑y.i : Int) ∧ True) ∧
                                                                                                                    ((0 : Nat) ≤ (0 : Nat) ∧
                                                                                                                        x.len = x.len ∧
                                                                                                                          ∀ (j : Nat),
                                                                                                                            j < x.len →
                                                                                                                              x.core j = x.core j ∧
                                                                                                                                x.kind j = x.kind j ∧
                                                                                                                                  x.times j = x.times j ∧
                                                                                                                                    x.wait j = x.wait j ∧ True) ∧
                                                                                                                      ((2 : Nat) ≤ (2 : Nat) ∧
                                                                                                                          (True ∧
                                                                                                                              True ∧
                                                                                                                                (0 : Nat) = (0 : Nat) ∧
                                                                                                                                  y_1.s.n = y.s.n ∧ y_1.s.n = y.s.n) ∧
                                                                                                                            y_1.s.st = y.s.st ∧ True) ∧
                                                                                                                        (y.s.n * (10 : Nat) ≤ y_1.s.n * (10 : Nat) ∧
                                                                                                                            y.s.n = y_1.s.n ∧
                                                                                                                              ∀ (j : Nat),
                                                                                                                                j < y_1.s.n →
                                                                                                                                  y_1.s.clk j = y.s.clk j ∧
                                                                                                                                    ((9 : Nat) = (9 : Nat) ∧
                                                                                                                                        ∀ (j_1 : Nat),
                                                                                                                                          j_1 < (9 : Nat) →
                                                                                                                                            y_1.s.by_ j j_1 = y.s.by_ j j_1) ∧
                                                                                                                                      True) ∧
                                                                                                                          True) ∧
                                                                                                                  True)) ∧
                                                                                                    ((y_1.e == (22 : Int)) = false →
                                                                                                      ∃ (y : S1),
                                                                                                        (y.i = g.i ∧ y.s.Ok ∧ y.s.n = (3 : Nat)) ∧
                                                                                                          ((((x.nil = true → x.nil = true) ∧
                                                                                                                  (x.nil = false →
                                                                                                                    x.nil = false ∧
                                                                                                                      True ∧
                                                                                                                        True ∧
                                                                                                                          (0 : Nat) = (0 : Nat) ∧ x.len = x.len ∧ x.cap = x.cap)) ∧
                                                                                                                (True ∧ True) ∧ (↑y_1.i : Int) = (↑y.i : Int) ∧ True) ∧
                                                                                                              ((0 : Nat) ≤ (0 : Nat) ∧
                                                                                                                  x.len = x.len ∧
                                                                                                                    ∀ (j : Nat),
                                                                                                                      j < x.len →
                                                                                                                        x.core j = x.core j ∧
                                                                                                                          x.kind j = x.kind j ∧
                                                                                                                            x.times j = x.times j ∧ x.wait j = x.wait j ∧ True) ∧
                                                                                                                ((2 : Nat) ≤ (2 : Nat) ∧
                                                                                                                    (True ∧
                                                                                                                        True ∧
                                                                                                                          (0 : Nat) = (0 : Nat) ∧ y_1.s.n = y.s.n ∧ y_1.s.n = y.s.n) ∧
                                                                                                                      y_1.s.st = y.s.st ∧ True) ∧
                                                                                                                  (y.s.n * (10 : Nat) ≤ y_1.s.n * (10 : Nat) ∧
                                                                                                                      y.s.n = y_1.s.n ∧
                                                                                                                        ∀ (j : Nat),
                                                                                                                          j < y_1.s.n →
                                                                                                                            y_1.s.clk j = y.s.clk j ∧
                                                                                                                              ((9 : Nat) = (9 : Nat) ∧
                                                                                                                                  ∀ (j_1 : Nat),
                                                                                                                                    j_1 < (9 : Nat) →
                                                                                                                                      y_1.s.by_ j j_1 = y.s.by_ j j_1) ∧
                                                                                                                                True) ∧
                                                                                                                    True) ∧
                                                                                                            True)))) ∧
                                                                                      (y_1.st = false →
                                                                                        ((y_1.e == (22 : Int)) = true →
                                                                                            (((True ∧ True) ∧ True) ∧
                                                                                                ((2 : Nat) ≤ (2 : Nat) ∧
                                                                                                    (True ∧ True ∧ (0 : Nat) = (0 : Nat) ∧ y_1.s.n = y_1.s.n ∧ y_1.s.n = y_1.s.n) ∧
                                                                                                      y_1.s.st = y_1.s.st ∧ True) ∧
                                                                                                  (y_1.s.n * (10 : Nat) ≤ y_1.s.n * (10 : Nat) ∧
                                                                                                      y_1.s.n = y_1.s.n ∧
                                                                                                        ∀ (j : Nat),
                                                                                                          j < y_1.s.n →
                                                                                                            y_1.s.clk j = y_1.s.clk j ∧
                                                                                                              ((9 : Nat) = (9 : Nat) ∧
                                                                                                                  ∀ (j_1 : Nat),
                                                                                                                    j_1 < (9 : Nat) → y_1.s.by_ j j_1 = y_1.s.by_ j j_1) ∧
                                                                                                                True) ∧
                                                                                                    True) ∧
                                                                                              ((!y_1.s.st) = true →
                                                                                                  x.Ok →
                                                                                                    False ∧
                                                                                                      True ∧
                                                                                                        ((0 : Nat) ≤ (0 : Nat) ∧
                                                                                                            x.len = x.len ∧
                                                                                                              ∀ (j : Nat),
                                                                                                                j < x.len →
                                                                                                                  x.core j = x.core j ∧
                                                                                                                    x.kind j = x.kind j ∧
                                                                                                                      x.times j = x.times j ∧ x.wait j = x.wait j ∧ True) ∧
                                                                                                          True) ∧
                                                                                                ((!y_1.s.st) = false →
                                                                                                  ∃ (y : S1),
                                                                                                    (y.i = g.i ∧ y.s.Ok ∧ y.s.n = (3 : Nat)) ∧
                                                                                                      ((((x.nil = true → x.nil = true) ∧
                                                                                                              (x.nil = false →
                                                                                                                x.nil = false ∧
                                                                                                                  True ∧
                                                                                                                    True ∧ (0 : Nat) = (0 : Nat) ∧ x.len = x.len ∧ x.cap = x.cap)) ∧
                                                                                                            (True ∧ True) ∧ (↑y_1.i : Int) = (↑y.i : Int) ∧ True) ∧
                                                                                                          ((0 : Nat) ≤ (0 : Nat) ∧
                                                                                                              x.len = x.len ∧
                                                                                                                ∀ (j : Nat),
                                                                                                                  j < x.len →
                                                                                                                    x.core j = x.core j ∧
                                                                                                                      x.kind j = x.kind j ∧
                                                                                                                        x.times j = x.times j ∧ x.wait j = x.wait j ∧ True) ∧
                                                                                                            ((2 : Nat) ≤ (2 : Nat) ∧
                                                                                                                (True ∧
                                                                                                                    True ∧
                                                                                                                      (0 : Nat) = (0 : Nat) ∧ y_1.s.n = y.s.n ∧ y_1.s.n = y.s.n) ∧
                                                                                                                  y_1.s.st = y.s.st ∧ True) ∧
                                                                                                              (y.s.n * (10 : Nat) ≤ y_1.s.n * (10 : Nat) ∧
                                                                                                                  y.s.n = y_1.s.n ∧
                                                                                                                    ∀ (j : Nat),
                                                                                                                      j < y_1.s.n →
                                                                                                                        y_1.s.clk j = y.s.clk j ∧
                                                                                                                          ((9 : Nat) = (9 : Nat) ∧
                                                                                                                              ∀ (j_1 : Nat),
                                                                                                                                j_1 < (9 : Nat) → y_1.s.by_ j j_1 = y.s.by_ j j_1) ∧
                                                                                                                            True) ∧
                                                                                                                True) ∧
                                                                                                        True)) ∧
                                                                                          ((y_1.e == (22 : Int)) = false →
                                                                                            ∃ (y : S1),
                                                                                              (y.i = g.i ∧ y.s.Ok ∧ y.s.n = (3 : Nat)) ∧
                                                                                                ((((x.nil = true → x.nil = true) ∧
                                                                                                        (x.nil = false →
                                                                                                          x.nil = false ∧
                                                                                                            True ∧ True ∧ (0 : Nat) = (0 : Nat) ∧ x.len = x.len ∧ x.cap = x.cap)) ∧
                                                                                                      (True ∧ True) ∧ (↑y_1.i : Int) = (↑y.i : Int) ∧ True) ∧
                                                                                                    ((0 : Nat) ≤ (0 : Nat) ∧
                                                                                                        x.len = x.len ∧
                                                                                                          ∀ (j : Nat),
                                                                                                            j < x.len →
                                                                                                              x.core j = x.core j ∧
                                                                                                                x.kind j = x.kind j ∧
                                                                                                                  x.times j = x.times j ∧ x.wait j = x.wait j ∧ True) ∧
                                                                                                      ((2 : Nat) ≤ (2 : Nat) ∧
                                                                                                          (True ∧ True ∧ (0 : Nat) = (0 : Nat) ∧ y_1.s.n = y.s.n ∧ y_1.s.n = y.s.n) ∧
                                                                                                            y_1.s.st = y.s.st ∧ True) ∧
                                                                                                        (y.s.n * (10 : Nat) ≤ y_1.s.n * (10 : Nat) ∧
                                                                                                            y.s.n = y_1.s.n ∧
                                                                                                              ∀ (j : Nat),
                                                                                                                j < y_1.s.n →
                                                                                                                  y_1.s.clk j = y.s.clk j ∧
                                                                                                                    ((9 : Nat) = (9 : Nat) ∧
                                                                                                                        ∀ (j_1 : Nat),
                                                                                                                          j_1 < (9 : Nat) → y_1.s.by_ j j_1 = y.s.by_ j j_1) ∧
                                                                                                                      True) ∧
                                                                                                          True) ∧
                                                                                                  True)))) ∧
                                                                              ∀ (y_2 : S1),
                                                                                y_2.i = g.i ∧ y_2.s.Ok ∧ y_2.s.n = (3 : Nat) →
                                                                                  ∀ (v : Int),
                                                                                    v = (0 : Int) →
                                                                                      ∃ (g : S1),
                                                                                        (∃ (y : S2),
                                                                                            (y.i = g.i ∧ y.s.Ok ∧ y.s.n = (3 : Nat) ∧ y.k ≤ (3 : Nat)) ∧
                                                                                              ((((x.nil = true → x.nil = true) ∧
                                                                                                      (x.nil = false →
                                                                                                        x.nil = false ∧
                                                                                                          True ∧ True ∧ (0 : Nat) = (0 : Nat) ∧ x.len = x.len ∧ x.cap = x.cap)) ∧
                                                                                                    (True ∧ True) ∧ (↑y_2.i : Int) = (↑y.i : Int) ∧ v = (↑y.k : Int) ∧ True) ∧
                                                                                                  ((0 : Nat) ≤ (0 : Nat) ∧
                                                                                                      x.len = x.len ∧
                                                                                                        ∀ (j : Nat),
                                                                                                          j < x.len →
                                                                                                            x.core j = x.core j ∧
                                                                                                              x.kind j = x.kind j ∧
                                                                                                                x.times j = x.times j ∧ x.wait j = x.wait j ∧ True) ∧
                                                                                                    ((2 : Nat) ≤ (2 : Nat) ∧
                                                                                                        (True ∧ True ∧ (0 : Nat) = (0 : Nat) ∧ y_2.s.n = y.s.n ∧ y_2.s.n = y.s.n) ∧
                                                                                                          y_2.s.st = y.s.st ∧ True) ∧
                                                                                                      (y.s.n * (10 : Nat) ≤ y_2.s.n * (10 : Nat) ∧
                                                                                                          y.s.n = y_2.s.n ∧
                                                                                                            ∀ (j : Nat),
                                                                                                              j < y_2.s.n →
                                                                                                                y_2.s.clk j = y.s.clk j ∧
                                                                                                                  ((9 : Nat) = (9 : Nat) ∧
                                                                                                                      ∀ (j_1 : Nat),
                                                                                                                        j_1 < (9 : Nat) → y_2.s.by_ j j_1 = y.s.by_ j j_1) ∧
                                                                                                                    True) ∧
                                                                                                        True) ∧
                                                                                                True) ∧
                                                                                          ∀ (y_3 : S2),
                                                                                            y_3.i = g.i ∧ y_3.s.Ok ∧ y_3.s.n = (3 : Nat) ∧ y_3.k ≤ (3 : Nat) →
                                                                                              (decide ((↑y_3.k : Int) < (3 : Int)) = true →
                                                                                                  (((True ∧ True) ∧ (↑y_3.k : Int) = (↑y_3.k : Int) ∧ True) ∧
                                                                                                      ((2 : Nat) ≤ (2 : Nat) ∧
                                                                                                          (True ∧
                                                                                                              True ∧ (0 : Nat) = (0 : Nat) ∧ y_3.s.n = y_3.s.n ∧ y_3.s.n = y_3.s.n) ∧
                                                                                                            y_3.s.st = y_3.s.st ∧ True) ∧
                                                                                                        (y_3.s.n * (10 : Nat) ≤ y_3.s.n * (10 : Nat) ∧
                                                                                                            y_3.s.n = y_3.s.n ∧
                                                                                                              ∀ (j : Nat),
                                                                                                                j < y_3.s.n →
                                                                                                                  y_3.s.clk j = y_3.s.clk j ∧
                                                                                                                    ((9 : Nat) = (9 : Nat) ∧
                                                                                                                        ∀ (j_1 : Nat),
                                                                                                                          j_1 < (9 : Nat) → y_3.s.by_ j j_1 = y_3.s.by_ j j_1) ∧
                                                                                                                      True) ∧
                                                                                                          True) ∧
                                                                                                    ∀ (v : Int),
                                                                                                      v = y_3.s.idleOf (↑y_3.k : Int) →
                                                                                                        ∀ (v_2 : Int),
                                                                                                          v_2 = (1 : Int) →
                                                                                                            ∃ (g_1 : S2),
                                                                                                              (∃ (y : S3),
                                                                                                                  (y.i = g_1.i ∧
                                                                                                                      y.s.Ok ∧
                                                                                                                        y.s.n = (3 : Nat) ∧
                                                                                                                          y.k = g_1.k ∧
                                                                                                                            (1 : Nat) ≤ y.j ∧
                                                                                                                              y.j ≤ (9 : Nat) ∧ y.sum = psum (y.s.by_ y.k) y.j) ∧
                                                                                                                    ((((x.nil = true → x.nil = true) ∧
                                                                                                                            (x.nil = false →
                                                                                                                              x.nil = false ∧
                                                                                                                                True ∧
                                                                                                                                  True ∧
                                                                                                                                    (0 : Nat) = (0 : Nat) ∧
                                                                                                                                      x.len = x.len ∧ x.cap = x.cap)) ∧
                                                                                                                          (True ∧ True) ∧
                                                                                                                            (↑y_3.i : Int) = (↑y.i : Int) ∧
                                                                                                                              (↑y_3.k : Int) = (↑y.k : Int) ∧
                                                                                                                                v = y.sum ∧ v_2 = (↑y.j : Int) ∧ True) ∧
                                                                                                                        ((0 : Nat) ≤ (0 : Nat) ∧
                                                                                                                            x.len = x.len ∧
                                                                                                                              ∀ (j : Nat),
                                                                                                                                j < x.len →
                                                                                                                                  x.core j = x.core j ∧
                                                                                                                                    x.kind j = x.kind j ∧
                                                                                                                                      x.times j = x.times j ∧
                                                                                                                                        x.wait j = x.wait j ∧ True) ∧
                                                                                                                          ((2 : Nat) ≤ (2 : Nat) ∧
                                                                                                                              (True ∧
                                                                                                                                  True ∧
                                                                                                                                    (0 : Nat) = (0 : Nat) ∧
                                                                                                                                      y_3.s.n = y.s.n ∧ y_3.s.n = y.s.n) ∧
                                                                                                                                y_3.s.st = y.s.st ∧ True) ∧
                                                                                                                            (y.s.n * (10 : Nat) ≤ y_3.s.n * (10 : Nat) ∧
                                                                                                                                y.s.n = y_3.s.n ∧
                                                                                                                                  ∀ (j : Nat),
                                                                                                                                    j < y_3.s.n →
                                                                                                                                      y_3.s.clk j = y.s.clk j ∧
                                                                                                                                        ((9 : Nat) = (9 : Nat) ∧
                                                                                                                                            ∀ (j_1 : Nat),
                                                                                                                                              j_1 < (9 : Nat) →
                                                                                                                                                y_3.s.by_ j j_1 = y.s.by_ j j_1) ∧
                                                                                                                                          True) ∧
                                                                                                                              True) ∧
                                                                                                                      True) ∧
                                                                                                                ∀ (y : S3),
                                                                                                                  y.i = g_1.i ∧
                                                                                                                      y.s.Ok ∧
                                                                                                                        y.s.n = (3 : Nat) ∧
                                                                                                                          y.k = g_1.k ∧
                                                                                                                            (1 : Nat) ≤ y.j ∧
                                                                                                                              y.j ≤ (9 : Nat) ∧ y.sum = psum (y.s.by_ y.k) y.j →
                                                                                                                    (decide ((↑y.j : Int) ≤ (8 : Int)) = true →
                                                                                                                        (((True ∧ True) ∧
                                                                                                                              (↑y.k : Int) = (↑y.k : Int) ∧
                                                                                                                                (↑y.j : Int) = (↑y.j : Int) ∧ True) ∧
                                                                                                                            ((2 : Nat) ≤ (2 : Nat) ∧
                                                                                                                                (True ∧
                                                                                                                                    True ∧
                                                                                                                                      (0 : Nat) = (0 : Nat) ∧
                                                                                                                                        y.s.n = y.s.n ∧ y.s.n = y.s.n) ∧
                                                                                                                                  y.s.st = y.s.st ∧ True) ∧
                                                                                                                              (y.s.n * (10 : Nat) ≤ y.s.n * (10 : Nat) ∧
                                                                                                                                  y.s.n = y.s.n ∧
                                                                                                                                    ∀ (j : Nat),
                                                                                                                                      j < y.s.n →
                                                                                                                                        y.s.clk j = y.s.clk j ∧
                                                                                                                                          ((9 : Nat) = (9 : Nat) ∧
                                                                                                                                              ∀ (j_1 : Nat),
                                                                                                                                                j_1 < (9 : Nat) →
                                                                                                                                                  y.s.by_ j j_1 = y.s.by_ j j_1) ∧
                                                                                                                                            True) ∧
                                                                                                                                True) ∧
                                                                                                                          ∀ (v : Int),
                                                                                                                            v =
                                                                                                                                IntKind.u64.wrap
                                                                                                                                  (y.sum + y.s.spentOf (↑y.k : Int) (↑y.j : Int)) →
                                                                                                                              ∀ (v_3 : Int),
                                                                                                                                v_3 = IntKind.i64.wrap ((↑y.j : Int) + (1 : Int)) →
                                                                                                                                  ∃ (y_4 : S3),
                                                                                                                                    (y_4.i = g_1.i ∧
                                                                                                                                        y_4.s.Ok ∧
                                                                                                                                          y_4.s.n = (3 : Nat) ∧
                                                                                                                                            y_4.k = g_1.k ∧
                                                                                                                                              (1 : Nat) ≤ y_4.j ∧
                                                                                                                                                y_4.j ≤ (9 : Nat) ∧
                                                                                                                                                  y_4.sum =
                                                                                                                                                    psum (y_4.s.by_ y_4.k) y_4.j) ∧
                                                                                                                                      ((((x.nil = true → x.nil = true) ∧
                                                                                                                                              (x.nil = false →
                                                                                                                                                x.nil = false ∧
                                                                                                                                                  True ∧
                                                                                                                                                    True ∧
                                                                                                                                                      (0 : Nat) = (0 : Nat) ∧
                                                                                                                                                        x.len = x.len ∧
                                                                                                                                                          x.cap = x.cap)) ∧
                                                                                                                                            (True ∧ True) ∧
                                                                                                                                              (↑y.i : Int) = (↑y_4.i : Int) ∧
                                                                                                                                                (↑y.k : Int) = (↑y_4.k : Int) ∧
                                                                                                                                                  v = y_4.sum ∧
                                                                                                                                                    v_3 = (↑y_4.j : Int) ∧ True) ∧
                                                                                                                                          ((0 : Nat) ≤ (0 : Nat) ∧
                                                                                                                                              x.len = x.len ∧
                                                                                                                                                ∀ (j : Nat),
                                                                                                                                                  j < x.len →
                                                                                                                                                    x.core j = x.core j ∧
                                                                                                                                                      x.kind j = x.kind j ∧
                                                                                                                                                        x.times j = x.times j ∧
                                                                                                                                                          x.wait j = x.wait j ∧
                                                                                                                                                            True) ∧
                                                                                                                                            ((2 : Nat) ≤ (2 : Nat) ∧
                                                                                                                                                (True ∧
                                                                                                                                                    True ∧
                                                                                                                                                      (0 : Nat) = (0 : Nat) ∧
                                                                                                                                                        y.s.n = y_4.s.n ∧
                                                                                                                                                          y.s.n = y_4.s.n) ∧
                                                                                                                                                  y.s.st = y_4.s.st ∧ True) ∧
                                                                                                                                              (y_4.s.n * (10 : Nat) ≤
                                                                                                                                                    y.s.n * (10 : Nat) ∧
                                                                                                                                                  y_4.s.n = y.s.n ∧
                                                                                                                                                    ∀ (j : Nat),
                                                                                                                                                      j < y.s.n →
                                                                                                                                                        y.s.clk j = y_4.s.clk j ∧
                                                                                                                                                          ((9 : Nat) = (9 : Nat) ∧
                                                                                                                                                              ∀ (j_1 : Nat),
                                                                                                                                                                j_1 < (9 : Nat) →
                                                                                                                                                                  y.s.by_ j j_1 =
                                                                                                                                                                    y_4.s.by_ j j_1) ∧
                                                                                                                                                            True) ∧
                                                                                                                                                True) ∧
                                                                                                                                        (sumsF3 x g_1).μ y_4 < (sumsF3 x g_1).μ y) ∧
                                                                                                                      (decide ((↑y.j : Int) ≤ (8 : Int)) = false →
                                                                                                                        (((True ∧ True) ∧ (↑y.k : Int) = (↑y.k : Int) ∧ True) ∧
                                                                                                                            ((2 : Nat) ≤ (2 : Nat) ∧
                                                                                                                                (True ∧
                                                                                                                                    True ∧
                                                                                                                                      (0 : Nat) = (0 : Nat) ∧
                                                                                                                                        y.s.n = y.s.n ∧ y.s.n = y.s.n) ∧
                                                                                                                                  y.s.st = y.s.st ∧ True) ∧
                                                                                                                              (y.s.n * (10 : Nat) ≤ y.s.n * (10 : Nat) ∧
                                                                                                                                  y.s.n = y.s.n ∧
                                                                                                                                    ∀ (j : Nat),
                                                                                                                                      j < y.s.n →
                                                                                                                                        y.s.clk j = y.s.clk j ∧
                                                                                                                                          ((9 : Nat) = (9 : Nat) ∧
                                                                                                                                              ∀ (j_1 : Nat),
                                                                                                                                                j_1 < (9 : Nat) →
                                                                                                                                                  y.s.by_ j j_1 = y.s.by_ j j_1) ∧
                                                                                                                                            True) ∧
                                                                                                                                True) ∧
                                                                                                                          ((y.sum != y.s.clkOf (↑y.k : Int)) = true →
                                                                                                                              x.Ok →
                                                                                                                                False ∧
                                                                                                                                  True ∧
                                                                                                                                    ((0 : Nat) ≤ (0 : Nat) ∧
                                                                                                                                        x.len = x.len ∧
                                                                                                                                          ∀ (j : Nat),
                                                                                                                                            j < x.len →
                                                                                                                                              x.core j = x.core j ∧
                                                                                                                                                x.kind j = x.kind j ∧
                                                                                                                                                  x.times j = x.times j ∧
                                                                                                                                                    x.wait j = x.wait j ∧ True) ∧
                                                                                                                                      True) ∧
                                                                                                                            ((y.sum != y.s.clkOf (↑y.k : Int)) = false →
                                                                                                                              (decide (y.sum > (4611686018427387904 : Int)) = true →
                                                                                                                                  x.Ok →
                                                                                                                                    False ∧
                                                                                                                                      True ∧
                                                                                                                                        ((0 : Nat) ≤ (0 : Nat) ∧
                                                                                                                                            x.len = x.len ∧
                                                                                                                                              ∀ (j : Nat),
                                                                                                                                                j < x.len →
                                                                                                                                                  x.core j = x.core j ∧
                                                                                                                                                    x.kind j = x.kind j ∧
                                                                                                                                                      x.times j = x.times j ∧
                                                                                                                                                        x.wait j = x.wait j ∧ True) ∧
                                                                                                                                          True) ∧
                                                                                                                                (decide (y.sum > (4611686018427387904 : Int)) =
                                                                                                                                    false →
                                                                                                                                  ∀ (v : Int),
                                                                                                                                    v = IntKind.i64.wrap ((↑y.k : Int) + (1 : Int)) →
                                                                                                                                      ∃ (y_4 : S2),
                                                                                                                                        (y_4.i = g.i ∧
                                                                                                                                            y_4.s.Ok ∧
                                                                                                                                              y_4.s.n = (3 : Nat) ∧
                                                                                                                                                y_4.k ≤ (3 : Nat)) ∧
                                                                                                                                          ((((x.nil = true → x.nil = true) ∧
                                                                                                                                                  (x.nil = false →
                                                                                                                                                    x.nil = false ∧
                                                                                                                                                      True ∧
                                                                                                                                                        True ∧
                                                                                                                                                          (0 : Nat) = (0 : Nat) ∧
                                                                                                                                                            x.len = x.len ∧
                                                                                                                                                              x.cap = x.cap)) ∧
                                                                                                                                                (True ∧ True) ∧
                                                                                                                                                  (↑y.i : Int) = (↑y_4.i : Int) ∧
                                                                                                                                                    v = (↑y_4.k : Int) ∧ True) ∧
                                                                                                                                              ((0 : Nat) ≤ (0 : Nat) ∧
                                                                                                                                                  x.len = x.len ∧
                                                                                                                                                    ∀ (j : Nat),
                                                                                                                                                      j < x.len →
                                                                                                                                                        x.core j = x.core j ∧
                                                                                                                                                          x.kind j = x.kind j ∧
                                                                                                                                                            x.times j = x.times j ∧
                                                                                                                                                              x.wait j = x.wait j ∧
                                                                                                                                                                True) ∧
                                                                                                                                                ((2 : Nat) ≤ (2 : Nat) ∧
                                                                                                                                                    (True ∧
                                                                                                                                                        True ∧
                                                                                                                                                          (0 : Nat) = (0 : Nat) ∧
                                                                                                                                                            y.s.n = y_4.s.n ∧
                                                                                                                                                              y.s.n = y_4.s.n) ∧
                                                                                                                                                      y.s.st = y_4.s.st ∧ True) ∧
                                                                                                                                                  (y_4.s.n * (10 : Nat) ≤
                                                                                                                                                        y.s.n * (10 : Nat) ∧
                                                                                                                                                      y_4.s.n = y.s.n ∧
                                                                                                                                                        ∀ (j : Nat),
                                                                                                                                                          j < y.s.n →
                                                                                                                                                            y.s.clk j = y_4.s.clk j ∧
                                                                                                                                                              ((9 : Nat) = (9 : Nat) ∧
                                                                                                                                                                  ∀ (j_1 : Nat),
                                                                                                                                                                    j_1 < (9 : Nat) →
                                                                                                                                                                      y.s.by_ j j_1 =
                                                                                                                                                                        y_4.s.by_ j
                                                                                                                                                                          j_1) ∧
                                                                                                                                                                True) ∧
                                                                                                                                                    True) ∧
                                                                                                                                            (sumsF2 x g).μ y_4 <
                                                                                                                                              (sumsF2 x g).μ y_3)))) ∧
                                                                                                (decide ((↑y_3.k : Int) < (3 : Int)) = false →
                                                                                                  ∀ (v : Int),
                                                                                                    v = IntKind.i64.wrap ((↑y_3.i : Int) + (1 : Int)) →
                                                                                                      ∃ (y_4 : S1),
                                                                                                        (y_4.i ≤ x.len ∧ x.len ≤ (60 : Nat) ∧ y_4.s.Ok ∧ y_4.s.n = (3 : Nat)) ∧
                                                                                                          ((((x.nil = true → x.nil = true) ∧
                                                                                                                  (x.nil = false →
                                                                                                                    x.nil = false ∧
                                                                                                                      True ∧
                                                                                                                        True ∧
                                                                                                                          (0 : Nat) = (0 : Nat) ∧ x.len = x.len ∧ x.cap = x.cap)) ∧
                                                                                                                (True ∧ True) ∧ v = (↑y_4.i : Int) ∧ True) ∧
                                                                                                              ((0 : Nat) ≤ (0 : Nat) ∧
                                                                                                                  x.len = x.len ∧
                                                                                                                    ∀ (j : Nat),
                                                                                                                      j < x.len →
                                                                                                                        x.core j = x.core j ∧
                                                                                                                          x.kind j = x.kind j ∧
                                                                                                                            x.times j = x.times j ∧ x.wait j = x.wait j ∧ True) ∧
                                                                                                                ((2 : Nat) ≤ (2 : Nat) ∧
                                                                                                                    (True ∧
                                                                                                                        True ∧
                                                                                                                          (0 : Nat) = (0 : Nat) ∧
                                                                                                                            y_3.s.n = y_4.s.n ∧ y_3.s.n = y_4.s.n) ∧
                                                                                                                      y_3.s.st = y_4.s.st ∧ True) ∧
                                                                                                                  (y_4.s.n * (10 : Nat) ≤ y_3.s.n * (10 : Nat) ∧
                                                                                                                      y_4.s.n = y_3.s.n ∧
                                                                                                                        ∀ (j : Nat),
                                                                                                                          j < y_3.s.n →
                                                                                                                            y_3.s.clk j = y_4.s.clk j ∧
                                                                                                                              ((9 : Nat) = (9 : Nat) ∧
                                                                                                                                  ∀ (j_1 : Nat),
                                                                                                                                    j_1 < (9 : Nat) →
                                                                                                                                      y_3.s.by_ j j_1 = y_4.s.by_ j j_1) ∧
                                                                                                                                True) ∧
                                                                                                                    True) ∧
                                                                                                            (sumsF1 x).μ y_4 < (sumsF1 x).μ y)) ∧
                                              (decide ((↑y.i : Int) < (↑x.len : Int)) = false →
                                                x.Ok →
                                                  True ∧
                                                    True ∧
                                                      ((0 : Nat) ≤ (0 : Nat) ∧
                                                          x.len = x.len ∧
                                                            ∀ (j : Nat), j < x.len → x.core j = x.core j ∧ x.kind j = x.kind j ∧ x.times j = x.times j ∧ x.wait j = x.wait j ∧ True) ∧
                                                        True))) ∧
                  (¬((1 : Int) ≤ (3 : Int) ∧ (3 : Int) ≤ (4 : Int)) →
                    ∀ (v : Int),
                      v = (11 : Int) →
                        ((v != (0 : Int)) = true →
                            x.Ok →
                              False ∧
                                True ∧
                                  ((0 : Nat) ≤ (0 : Nat) ∧
                                      x.len = x.len ∧ ∀ (j : Nat), j < x.len → x.core j = x.core j ∧ x.kind j = x.kind j ∧ x.times j = x.times j ∧ x.wait j = x.wait j ∧ True) ∧
                                    True) ∧
                          ((v != (0 : Int)) = false →
                            x.Ok →
                              False ∧
                                True ∧
                                  ((0 : Nat) ≤ (0 : Nat) ∧
                                      x.len = x.len ∧ ∀ (j : Nat), j < x.len → x.core j = x.core j ∧ x.kind j = x.kind j ∧ x.times j = x.times j ∧ x.wait j = x.wait j ∧ True) ∧
                                    True))) := by
  simp only [true_and, and_true, eq_self, Nat.le_refl, decide_eq_true_eq, decide_eq_false_iff_not, beq_iff_eq, beq_eq_false_iff_ne, implies_true, and_self, bne_iff_ne, Int.not_lt, Int.not_le, gt_iff_lt, ne_eq, Nat.zero_add, Int.toNat_natCast, IntKind.wrap_u64, IntKind.wrap_i64, bne_eq_false_iff_eq, Bool.not_eq_true', Bool.not_eq_false']
  rintro x ⟨hnil, hlen, hx⟩
  have hxx : x.Ok := ⟨hnil, hlen, hx⟩
  refine ⟨hnil, fun h60 => ⟨fun _ s0 hs0 v0 hv0 => ⟨fun h => absurd hv0 h, fun _ w hw => ⟨⟨⟨0, s0⟩, ?_⟩, fun y hy => ?_⟩⟩, fun h => absurd ⟨by decide, by decide⟩ h⟩⟩
  · subst hs0
    have := MS.Ok.new 3
    have h3 : (MS.new 3).n = 3 := rfl
    try dsimp only
    repeat' (with_reducible first | assumption | apply And.intro | intro _)
    all_goals (try simp only [] at *)
    all_goals (first | omega | ((repeat' (first | omega | split)) <;> (try dsimp only) <;> (try (first | omega | contradiction | (subst_vars; first | rfl | omega) | (simp_all; done) | (simp_all; omega)))))
  · obtain ⟨h1, h2, h3, h4⟩ := hy
    have hj := hx y.i
    refine ⟨hnil, fun hlt => ⟨hnil, by omega, by omega, fun v hv v1 hv1 => ⟨y, ⟨fun hw => ⟨⟨h3, hj.2.2⟩, fun r hr v2 hv2 => ⟨⟨y.i, r.2, v, y.s.st, v2⟩, ?_⟩⟩, fun hw => ⟨⟨h3, hj.2.2⟩, fun r hr v2 hv2 => ⟨⟨y.i, r.2, v, y.s.st, v2⟩, ?_⟩⟩⟩, fun z hz => ⟨y, ?_, fun u hu => ?_⟩⟩⟩⟩
    · obtain ⟨f1, f2, f3⟩ := wait_fact h3 (x.core y.i) (x.times y.i)
      have f4 : (y.s.wait (x.core y.i) (x.times y.i)).2.Ok := h3.wait
      have f5 := MS.wait_n y.s (x.core y.i) (x.times y.i)
      rw [← hr] at f1 f2 f3 f4 f5
      try dsimp only
      repeat' (with_reducible first | assumption | apply And.intro | intro _)
      all_goals (try simp only [] at *)
      all_goals (first | omega | ((repeat' (first | omega | split)) <;> (try dsimp only) <;> (try (first | omega | contradiction | (subst_vars; first | rfl | omega) | (simp_all; done) | (simp_all; omega)))))
    · obtain ⟨f1, f2, f3⟩ := charge_fact h3 (x.core y.i) (x.kind y.i) (x.times y.i) hj.2.2.1
      have f4 : (y.s.charge (x.core y.i) (x.kind y.i) (x.times y.i)).2.Ok := h3.charge hj.2.2.1
      have f5 := MS.charge_n y.s (x.core y.i) (x.kind y.i) (x.times y.i)
      rw [← hr] at f1 f2 f3 f4 f5
      try dsimp only
      repeat' (with_reducible first | assumption | apply And.intro | intro _)
      all_goals (try simp only [] at *)
      all_goals (first | omega | ((repeat' (first | omega | split)) <;> (try dsimp only) <;> (try (first | omega | contradiction | (subst_vars; first | rfl | omega) | (simp_all; done) | (simp_all; omega)))))
    · obtain ⟨z1, z3, z4, z5, z6, z7⟩ := hz
      try dsimp only
      repeat' (with_reducible first | assumption | apply And.intro | intro _ | refine Exists.intro ((⟨z.i, z.s⟩ : S1)) ?_)
      all_goals (try simp only [] at *)
      all_goals (first | omega | ((repeat' (first | omega | split)) <;> (try dsimp only) <;> (try (first | omega | contradiction | (subst_vars; first | rfl | omega) | (simp_all; done) | (simp_all; omega)))))
    · obtain ⟨u1, u3, u4⟩ := hu
      have hM1 : ∀ a : S1, (sumsF1 x).μ a = x.len - a.i := fun _ => rfl
      have hM2 : ∀ a : S2, (sumsF2 x u).μ a = 3 - a.k := fun _ => rfl
      have hM3 : ∀ (p : S2) (a : S3), (sumsF3 x p).μ a = 9 - a.j := fun _ _ => rfl
      simp only [hM1, hM3]
      refine fun v hv => ⟨u, ⟨⟨u.i, u.s, 0⟩, ?_⟩, fun p hp => ⟨fun hk a ha b hb => ⟨p, ⟨⟨p.i, p.s, p.k, a, 1⟩, ?_⟩, fun q hq => ⟨fun h8 c hc d hd => ⟨⟨q.i, q.s, q.k, c, q.j + 1⟩, ?_⟩, ?_⟩⟩, ?_⟩⟩
      · try dsimp only
        repeat' (with_reducible first | assumption | apply And.intro | intro _)
        all_goals (try simp only [] at *)
        all_goals (first | omega | ((repeat' (first | omega | split)) <;> (try dsimp only) <;> (try (first | omega | contradiction | (subst_vars; first | rfl | omega) | (simp_all; done) | (simp_all; omega)))))
      · obtain ⟨p1, p3, p4, p5⟩ := hp
        have : a = psum (p.s.by_ p.k) 1 := by
          rw [ha]; unfold MS.idleOf; rw [if_pos (by omega)]
          show _ = (0 : Int) + _
          rw [Int.zero_add]; simp
        try dsimp only
        repeat' (with_reducible first | assumption | apply And.intro | intro _)
        all_goals (try simp only [] at *)
        all_goals (first | omega | ((repeat' (first | omega | split)) <;> (try dsimp only) <;> (try (first | omega | contradiction | (subst_vars; first | rfl | omega) | (simp_all; done) | (simp_all; omega)))))
      · obtain ⟨q1, q3, q4, q5, q6, q7, q8⟩ := hq
        obtain ⟨⟨o1, o2⟩, o3, o4⟩ := q3 q.k (by omega)
        have hs : q.s.spentOf q.k q.j = q.s.by_ q.k q.j := by
          unfold MS.spentOf
          have hkk : ∀ j : Nat, 1 ≤ j → j ≤ 8 → cost j ≠ 0 := by
            intro j h1 h2
            rcases j with _|_|_|_|_|_|_|_|_|j <;> first | omega | decide
          rw [if_pos ⟨by omega, hkk q.j q6 (by omega)⟩]
          try simp
        have e1 : psum (q.s.by_ q.k) (q.j + 1) = psum (q.s.by_ q.k) q.j + q.s.by_ q.k q.j := rfl
        have e2 := psum_le o3 (q.j + 1) (by omega)
        rw [hs] at hc
        try dsimp only
        repeat' (with_reducible first | assumption | apply And.intro | intro _)
        all_goals (try simp only [] at *)
        all_goals (first | omega | ((repeat' (first | omega | split)) <;> (try dsimp only) <;> (try (first | omega | contradiction | (subst_vars; first | rfl | omega) | (simp_all; done) | (simp_all; omega)))))
      · obtain ⟨q1, q3, q4, q5, q6, q7, q8⟩ := hq
        obtain ⟨⟨o1, o2⟩, o3, o4⟩ := q3 q.k (by omega)
        have e0 : q.s.clkOf q.k = q.s.clk q.k := by unfold MS.clkOf; rw [if_pos (by omega)]; simp
        rw [e0]
        refine fun h8 => ?_
        have e9 : q.j = 9 := by omega
        rw [e9, o4] at q8
        try dsimp only
        repeat' (with_reducible first | assumption | apply And.intro | intro _ | refine Exists.intro ((⟨q.i, q.s, q.k + 1⟩ : S2)) ?_)
        all_goals (try simp only [] at *)
        all_goals (first | omega | ((repeat' (first | omega | split)) <;> (try dsimp only) <;> (try (first | omega | contradiction | (subst_vars; first | rfl | omega) | (simp_all; done) | (simp_all; omega)))))
      · obtain ⟨p1, p3, p4, p5⟩ := hp
        try dsimp only
        repeat' (with_reducible first | assumption | apply And.intro | intro _ | refine Exists.intro ((⟨p.i + 1, p.s⟩ : S1)) ?_)
        all_goals (try simp only [] at *)
        all_goals (first | omega | ((repeat' (first | omega | split)) <;> (try dsimp only) <;> (try (first | omega | contradiction | (subst_vars; first | rfl | omega) | (simp_all; done) | (simp_all; omega)))))

def sums_C (x : CS) : Cfg := { Γ := Go.Sx.look tTop, names := true, loops := sumsL x, cuts := sumsK x }
theorem sums_al (x : CS) : Shown (sumsP.vc Try.prog (sums_C x) Try.f4 x) := ⟨@Eq.mp _ _ (by kernel_rfl) (sums_vc x)⟩
theorem sums_ok : SpOk Try.prog 4 sumsP.sp := @Pat.okS _ sumsP Try.prog sums_C 4 Try.f4 (fun x => cfg_tab rfl tTop_ok) (by kernel_rfl) Try.func4 (fun _ => rfl) sums_al
