import Derived.Test.YtijpjhelgggmfaaC1
open Go Go.Sx Go.Proofs
set_option maxRecDepth 100000
namespace Go.Proofs.Ytijpjhelgggmfaa

def sprC (x : LS) (t : Int) : Fam where
  α := Nat × Nat
  I y := (x.l.right ∧ x.len < 8 ∧ rightE 1 1 t) ∧ y.1 = lst (refu x.l t) 0 t.toNat
  st y := { sl := mkSl 87 [(0, x.v 0), (1, .int .u64 t), (5, .int .u64 (y.1 : Nat)), (7, .slice 1 0 [] 0 3 (x.len + 1) y.2)], H := [x.reg, (x.l.ext (y.1 : Nat) t).row y.2] }
  μ _ := 0
def sprC2 (x : LS) (t : Int) : Fam where
  α := Nat × Nat
  I y := (x.l.right ∧ x.len < 8 ∧ rightE 1 1 t) ∧ y.1 = lst (refu x.l t) 0 t.toNat
  st y := { sl := mkSl 87 [(0, x.v 0), (1, .int .u64 t), (5, .int .u64 (y.1 : Nat)), (7, .slice 1 0 [] 0 3 (x.len + 1) y.2)], H := [x.reg, (x.l.ext (y.1 : Nat) t).row y.2] }
  μ _ := 0
def sprK (x : LS) (t : Int) : Nat → Gam
  | 9 => .l [sprC x t]
  | 13 => .l [sprC2 x t]
  | _ => .l []
def tSpr : Tab := [(10, aliveP.sp), (12, RightP.sp), (18, borneP.sp), (20, spareP.sp)]
theorem tSpr_ok : TabOk Try.prog tSpr := (tab_cons alive_ok (tab_cons Right_ok (tab_cons borne_ok (tab_cons spare_ok tab_nil))))

theorem spr_vc : ∀ (x : LS) (t : A64),
    (x.Ok ∧ t.Ok) ∧ True →
      (True ∧ True) ∧
        ((((x.nil = true → x.nil = true) ∧ (x.nil = false → x.nil = false ∧ True ∧ True ∧ x.lo = x.lo ∧ x.len = x.len ∧ x.cap = x.cap)) ∧ t.v = t.v ∧ True) ∧
            ((0 : Nat) ≤ (0 : Nat) ∧ x.n = x.n ∧ ∀ (j : Nat), j < x.n → x.k j = x.k j ∧ x.q j = x.q j ∧ x.t j = x.t j ∧ True) ∧ True) ∧
          (x.Ok ∧ (0 : Int) ≤ t.v ∧ t.v < (18446744073709551616 : Int)) ∧
            ∀ (v : Int),
              v = (spareO x.l t.v).fst →
                ∀ (v_1 : Int),
                  v_1 = (spareO x.l t.v).snd →
                    ((((x.nil = true → x.nil = true) ∧ (x.nil = false → x.nil = false ∧ True ∧ True ∧ x.lo = x.lo ∧ x.len = x.len ∧ x.cap = x.cap)) ∧ True) ∧
                        ((0 : Nat) ≤ (0 : Nat) ∧ x.n = x.n ∧ ∀ (j : Nat), j < x.n → x.k j = x.k j ∧ x.q j = x.q j ∧ x.t j = x.t j ∧ True) ∧ True) ∧
                      x.Ok ∧
                        ((!decide x.l.right) = true →
                            ((v_1 == (11 : Int)) = true →
                                x.Ok ∧ t.Ok →
                                  (v == (0 : Int)) = true ∧
                                    True ∧ ((0 : Nat) ≤ (0 : Nat) ∧ x.n = x.n ∧ ∀ (j : Nat), j < x.n → x.k j = x.k j ∧ x.q j = x.q j ∧ x.t j = x.t j ∧ True) ∧ True) ∧
                              ((v_1 == (11 : Int)) = false →
                                x.Ok ∧ t.Ok →
                                  False ∧ True ∧ ((0 : Nat) ≤ (0 : Nat) ∧ x.n = x.n ∧ ∀ (j : Nat), j < x.n → x.k j = x.k j ∧ x.q j = x.q j ∧ x.t j = x.t j ∧ True) ∧ True)) ∧
                          ((!decide x.l.right) = false →
                            (x.nil = true → x.len = (0 : Nat)) ∧
                              (decide ((↑x.len : Int) > (7 : Int)) = true →
                                  ((v_1 == (11 : Int)) = true →
                                      x.Ok ∧ t.Ok →
                                        (v == (0 : Int)) = true ∧
                                          True ∧ ((0 : Nat) ≤ (0 : Nat) ∧ x.n = x.n ∧ ∀ (j : Nat), j < x.n → x.k j = x.k j ∧ x.q j = x.q j ∧ x.t j = x.t j ∧ True) ∧ True) ∧
                                    ((v_1 == (11 : Int)) = false →
                                      x.Ok ∧ t.Ok →
                                        False ∧ True ∧ ((0 : Nat) ≤ (0 : Nat) ∧ x.n = x.n ∧ ∀ (j : Nat), j < x.n → x.k j = x.k j ∧ x.q j = x.q j ∧ x.t j = x.t j ∧ True) ∧ True)) ∧
                                (decide ((↑x.len : Int) > (7 : Int)) = false →
                                  (decide (t.v < (1 : Int)) = true →
                                      ((v_1 == (11 : Int)) = true →
                                          x.Ok ∧ t.Ok →
                                            (v == (0 : Int)) = true ∧
                                              True ∧ ((0 : Nat) ≤ (0 : Nat) ∧ x.n = x.n ∧ ∀ (j : Nat), j < x.n → x.k j = x.k j ∧ x.q j = x.q j ∧ x.t j = x.t j ∧ True) ∧ True) ∧
                                        ((v_1 == (11 : Int)) = false →
                                          x.Ok ∧ t.Ok →
                                            False ∧
                                              True ∧ ((0 : Nat) ≤ (0 : Nat) ∧ x.n = x.n ∧ ∀ (j : Nat), j < x.n → x.k j = x.k j ∧ x.q j = x.q j ∧ x.t j = x.t j ∧ True) ∧ True)) ∧
                                    (decide (t.v < (1 : Int)) = false →
                                      (decide (t.v > (8192 : Int)) = true →
                                          ((v_1 == (11 : Int)) = true →
                                              x.Ok ∧ t.Ok →
                                                (v == (0 : Int)) = true ∧
                                                  True ∧ ((0 : Nat) ≤ (0 : Nat) ∧ x.n = x.n ∧ ∀ (j : Nat), j < x.n → x.k j = x.k j ∧ x.q j = x.q j ∧ x.t j = x.t j ∧ True) ∧ True) ∧
                                            ((v_1 == (11 : Int)) = false →
                                              x.Ok ∧ t.Ok →
                                                False ∧
                                                  True ∧ ((0 : Nat) ≤ (0 : Nat) ∧ x.n = x.n ∧ ∀ (j : Nat), j < x.n → x.k j = x.k j ∧ x.q j = x.q j ∧ x.t j = x.t j ∧ True) ∧ True)) ∧
                                        (decide (t.v > (8192 : Int)) = false →
                                          ((v_1 != (0 : Int)) = true →
                                              x.Ok ∧ t.Ok →
                                                False ∧
                                                  True ∧ ((0 : Nat) ≤ (0 : Nat) ∧ x.n = x.n ∧ ∀ (j : Nat), j < x.n → x.k j = x.k j ∧ x.q j = x.q j ∧ x.t j = x.t j ∧ True) ∧ True) ∧
                                            ((v_1 != (0 : Int)) = false →
                                              (decide (v > t.v) = true →
                                                  x.Ok ∧ t.Ok →
                                                    False ∧
                                                      True ∧
                                                        ((0 : Nat) ≤ (0 : Nat) ∧ x.n = x.n ∧ ∀ (j : Nat), j < x.n → x.k j = x.k j ∧ x.q j = x.q j ∧ x.t j = x.t j ∧ True) ∧ True) ∧
                                                (decide (v > t.v) = false →
                                                  ((x.nil = true → x.len = (0 : Nat)) ∧
                                                      x.lo + x.len ≤ x.n ∧
                                                        ((0 : Nat) = (0 : Nat) ∧
                                                            (0 : Nat) ≤ (0 : Nat) ∧
                                                              (0 : Nat) ≤ (0 : Nat) ∧
                                                                (0 : Nat) ≤ (0 : Nat) ∧
                                                                  ((0 : Nat) + x.len) * (24 : Nat) ≤ (140737488355328 : Nat) ∧
                                                                    (0 : Nat) + x.len ≤ (9223372036854775807 : Nat) ∧
                                                                      (∀ (_ : Nat), (3 : Nat) = (3 : Nat)) ∧ ∀ (_ : Nat), (3 : Nat) = (3 : Nat)) ∧
                                                          ∀ (cap' : Nat),
                                                            (0 : Nat) + x.len ≤ cap' →
                                                              (1 : Nat) ≤ (1 : Nat) ∧
                                                                ((0 : Nat) = (0 : Nat) ∧
                                                                    (0 : Nat) + x.len ≤ (0 : Nat) + x.len ∧
                                                                      (0 : Nat) + x.len ≤ cap' ∧
                                                                        cap' * (3 : Nat) ≤ cap' * (3 : Nat) ∧
                                                                          ((0 : Nat) + x.len + (1 : Nat)) * (24 : Nat) ≤ (140737488355328 : Nat) ∧
                                                                            (0 : Nat) + x.len + (1 : Nat) ≤ (9223372036854775807 : Nat) ∧
                                                                              (∀ (_ : Nat), (3 : Nat) = (3 : Nat)) ∧ ∀ (_ : Nat), (3 : Nat) = (3 : Nat)) ∧
                                                                  ∀ (cap' : Nat),
                                                                    (0 : Nat) + x.len + (1 : Nat) ≤ cap' →
                                                                      ∃ (y : Nat × Nat),
                                                                        ((x.l.right ∧ x.len < (8 : Nat) ∧ rightE (1 : Int) (1 : Int) t.v) ∧
                                                                            y.fst = lst (refu x.l t.v) (0 : Nat) t.v.toNat) ∧
                                                                          ((((x.nil = true → x.nil = true) ∧
                                                                                  (x.nil = false → x.nil = false ∧ True ∧ True ∧ x.lo = x.lo ∧ x.len = x.len ∧ x.cap = x.cap)) ∧
                                                                                t.v = t.v ∧
                                                                                  v = (↑y.fst : Int) ∧
                                                                                    (True ∧
                                                                                        True ∧
                                                                                          (0 : Nat) = (0 : Nat) ∧ (0 : Nat) + x.len + (1 : Nat) = x.len + (1 : Nat) ∧ cap' = y.snd) ∧
                                                                                      True) ∧
                                                                              ((0 : Nat) ≤ (0 : Nat) ∧
                                                                                  x.n = x.n ∧ ∀ (j : Nat), j < x.n → x.k j = x.k j ∧ x.q j = x.q j ∧ x.t j = x.t j ∧ True) ∧
                                                                                (y.snd * (3 : Nat) ≤ cap' * (3 : Nat) ∧
                                                                                    (x.l.ext (↑y.fst : Int) t.v).n = (0 : Nat) + x.len + (1 : Nat) ∧
                                                                                      ∀ (j : Nat),
                                                                                        j < (0 : Nat) + x.len + (1 : Nat) →
                                                                                          (j.blt ((0 : Nat) + x.len) = true →
                                                                                              (j.blt (0 : Nat) = true →
                                                                                                  (0 : Int) = (x.l.ext (↑y.fst : Int) t.v).k j ∧
                                                                                                    (0 : Int) = (x.l.ext (↑y.fst : Int) t.v).q j ∧
                                                                                                      (0 : Int) = (x.l.ext (↑y.fst : Int) t.v).t j ∧ True) ∧
                                                                                                (j.blt (0 : Nat) = false →
                                                                                                  x.k (x.lo + (j - (0 : Nat))) = (x.l.ext (↑y.fst : Int) t.v).k j ∧
                                                                                                    x.q (x.lo + (j - (0 : Nat))) = (x.l.ext (↑y.fst : Int) t.v).q j ∧
                                                                                                      x.t (x.lo + (j - (0 : Nat))) = (x.l.ext (↑y.fst : Int) t.v).t j ∧ True)) ∧
                                                                                            (j.blt ((0 : Nat) + x.len) = false →
                                                                                              (1 : Int) = (x.l.ext (↑y.fst : Int) t.v).k j ∧
                                                                                                v = (x.l.ext (↑y.fst : Int) t.v).q j ∧
                                                                                                  t.v = (x.l.ext (↑y.fst : Int) t.v).t j ∧ True)) ∧
                                                                                  True) ∧
                                                                            True) ∧
                                                    ∀ (y : Nat × Nat),
                                                      (x.l.right ∧ x.len < (8 : Nat) ∧ rightE (1 : Int) (1 : Int) t.v) ∧ y.fst = lst (refu x.l t.v) (0 : Nat) t.v.toNat →
                                                        ((decide ((↑y.fst : Int) > (0 : Int)) = true →
                                                              (((false = false ∧ True ∧ True ∧ (0 : Nat) = (0 : Nat) ∧ x.len + (1 : Nat) = x.len + (1 : Nat) ∧ y.snd = y.snd) ∧
                                                                    True) ∧
                                                                  ((0 : Nat) ≤ y.snd * (3 : Nat) ∧
                                                                      (x.l.ext (↑y.fst : Int) t.v).n = (x.l.ext (↑y.fst : Int) t.v).n ∧
                                                                        ∀ (j : Nat),
                                                                          j < (x.l.ext (↑y.fst : Int) t.v).n →
                                                                            (x.l.ext (↑y.fst : Int) t.v).k j = (x.l.ext (↑y.fst : Int) t.v).k j ∧
                                                                              (x.l.ext (↑y.fst : Int) t.v).q j = (x.l.ext (↑y.fst : Int) t.v).q j ∧
                                                                                (x.l.ext (↑y.fst : Int) t.v).t j = (x.l.ext (↑y.fst : Int) t.v).t j ∧ True) ∧
                                                                    True) ∧
                                                                (LS.mk false (0 : Nat) (x.len + (1 : Nat)) y.snd (x.l.ext (↑y.fst : Int) t.v).n (x.l.ext (↑y.fst : Int) t.v).k
                                                                      (x.l.ext (↑y.fst : Int) t.v).q (x.l.ext (↑y.fst : Int) t.v).t).Ok ∧
                                                                  ∀ (v : Int),
                                                                    v =
                                                                        (LS.mk false (0 : Nat) (x.len + (1 : Nat)) y.snd (x.l.ext (↑y.fst : Int) t.v).n (x.l.ext (↑y.fst : Int) t.v).k
                                                                                (x.l.ext (↑y.fst : Int) t.v).q (x.l.ext (↑y.fst : Int) t.v).t).l.borne.snd →
                                                                      ((v != (0 : Int)) = true →
                                                                          x.Ok ∧ t.Ok →
                                                                            False ∧
                                                                              True ∧
                                                                                ((0 : Nat) ≤ (0 : Nat) ∧
                                                                                    x.n = x.n ∧ ∀ (j : Nat), j < x.n → x.k j = x.k j ∧ x.q j = x.q j ∧ x.t j = x.t j ∧ True) ∧
                                                                                  True) ∧
                                                                        ((v != (0 : Int)) = false →
                                                                          ((!(LS.mk false (0 : Nat) (x.len + (1 : Nat)) y.snd (x.l.ext (↑y.fst : Int) t.v).n
                                                                                          (x.l.ext (↑y.fst : Int) t.v).k (x.l.ext (↑y.fst : Int) t.v).q
                                                                                          (x.l.ext (↑y.fst : Int) t.v).t).l.borne.fst) =
                                                                                true →
                                                                              x.Ok ∧ t.Ok →
                                                                                False ∧
                                                                                  True ∧
                                                                                    ((0 : Nat) ≤ (0 : Nat) ∧
                                                                                        x.n = x.n ∧ ∀ (j : Nat), j < x.n → x.k j = x.k j ∧ x.q j = x.q j ∧ x.t j = x.t j ∧ True) ∧
                                                                                      True) ∧
                                                                            ((!(LS.mk false (0 : Nat) (x.len + (1 : Nat)) y.snd (x.l.ext (↑y.fst : Int) t.v).n
                                                                                          (x.l.ext (↑y.fst : Int) t.v).k (x.l.ext (↑y.fst : Int) t.v).q
                                                                                          (x.l.ext (↑y.fst : Int) t.v).t).l.borne.fst) =
                                                                                false →
                                                                              ∃ (y_1 : Nat × Nat),
                                                                                ((x.l.right ∧ x.len < (8 : Nat) ∧ rightE (1 : Int) (1 : Int) t.v) ∧
                                                                                    y_1.fst = lst (refu x.l t.v) (0 : Nat) t.v.toNat) ∧
                                                                                  ((((x.nil = true → x.nil = true) ∧
                                                                                          (x.nil = false →
                                                                                            x.nil = false ∧ True ∧ True ∧ x.lo = x.lo ∧ x.len = x.len ∧ x.cap = x.cap)) ∧
                                                                                        t.v = t.v ∧
                                                                                          (↑y.fst : Int) = (↑y_1.fst : Int) ∧
                                                                                            (True ∧
                                                                                                True ∧
                                                                                                  (0 : Nat) = (0 : Nat) ∧ x.len + (1 : Nat) = x.len + (1 : Nat) ∧ y.snd = y_1.snd) ∧
                                                                                              True) ∧
                                                                                      ((0 : Nat) ≤ (0 : Nat) ∧
                                                                                          x.n = x.n ∧ ∀ (j : Nat), j < x.n → x.k j = x.k j ∧ x.q j = x.q j ∧ x.t j = x.t j ∧ True) ∧
                                                                                        (y_1.snd * (3 : Nat) ≤ y.snd * (3 : Nat) ∧
                                                                                            (x.l.ext (↑y_1.fst : Int) t.v).n = (x.l.ext (↑y.fst : Int) t.v).n ∧
                                                                                              ∀ (j : Nat),
                                                                                                j < (x.l.ext (↑y.fst : Int) t.v).n →
                                                                                                  (x.l.ext (↑y.fst : Int) t.v).k j = (x.l.ext (↑y_1.fst : Int) t.v).k j ∧
                                                                                                    (x.l.ext (↑y.fst : Int) t.v).q j = (x.l.ext (↑y_1.fst : Int) t.v).q j ∧
                                                                                                      (x.l.ext (↑y.fst : Int) t.v).t j = (x.l.ext (↑y_1.fst : Int) t.v).t j ∧ True) ∧
                                                                                          True) ∧
                                                                                    True))) ∧
                                                            (decide ((↑y.fst : Int) > (0 : Int)) = false →
                                                              ∃ (y_1 : Nat × Nat),
                                                                ((x.l.right ∧ x.len < (8 : Nat) ∧ rightE (1 : Int) (1 : Int) t.v) ∧
                                                                    y_1.fst = lst (refu x.l t.v) (0 : Nat) t.v.toNat) ∧
                                                                  ((((x.nil = true → x.nil = true) ∧
                                                                          (x.nil = false → x.nil = false ∧ True ∧ True ∧ x.lo = x.lo ∧ x.len = x.len ∧ x.cap = x.cap)) ∧
                                                                        t.v = t.v ∧
                                                                          (↑y.fst : Int) = (↑y_1.fst : Int) ∧
                                                                            (True ∧ True ∧ (0 : Nat) = (0 : Nat) ∧ x.len + (1 : Nat) = x.len + (1 : Nat) ∧ y.snd = y_1.snd) ∧ True) ∧
                                                                      ((0 : Nat) ≤ (0 : Nat) ∧
                                                                          x.n = x.n ∧ ∀ (j : Nat), j < x.n → x.k j = x.k j ∧ x.q j = x.q j ∧ x.t j = x.t j ∧ True) ∧
                                                                        (y_1.snd * (3 : Nat) ≤ y.snd * (3 : Nat) ∧
                                                                            (x.l.ext (↑y_1.fst : Int) t.v).n = (x.l.ext (↑y.fst : Int) t.v).n ∧
                                                                              ∀ (j : Nat),
                                                                                j < (x.l.ext (↑y.fst : Int) t.v).n →
                                                                                  (x.l.ext (↑y.fst : Int) t.v).k j = (x.l.ext (↑y_1.fst : Int) t.v).k j ∧
                                                                                    (x.l.ext (↑y.fst : Int) t.v).q j = (x.l.ext (↑y_1.fst : Int) t.v).q j ∧
                                                                                      (x.l.ext (↑y.fst : Int) t.v).t j = (x.l.ext (↑y_1.fst : Int) t.v).t j ∧ True) ∧
                                                                          True) ∧
                                                                    True)) ∧
                                                          ∀ (y : Nat × Nat),
                                                            (x.l.right ∧ x.len < (8 : Nat) ∧ rightE (1 : Int) (1 : Int) t.v) ∧ y.fst = lst (refu x.l t.v) (0 : Nat) t.v.toNat →
                                                              (((↑y.fst : Int) == t.v) = true →
                                                                  x.Ok ∧ t.Ok →
                                                                    True ∧
                                                                      True ∧
                                                                        ((0 : Nat) ≤ (0 : Nat) ∧
                                                                            x.n = x.n ∧ ∀ (j : Nat), j < x.n → x.k j = x.k j ∧ x.q j = x.q j ∧ x.t j = x.t j ∧ True) ∧
                                                                          True) ∧
                                                                (((↑y.fst : Int) == t.v) = false →
                                                                  (x.nil = true → x.len = (0 : Nat)) ∧
                                                                    ((0 : Int) ≤ (↑x.len : Int) ∧ (↑x.len : Int) < (↑(x.len + (1 : Nat)) : Int)) ∧
                                                                      (0 : Nat) + (↑x.len : Int).toNat < (x.l.ext (↑y.fst : Int) t.v).n ∧
                                                                        (((false = false ∧
                                                                                True ∧ True ∧ (0 : Nat) = (0 : Nat) ∧ x.len + (1 : Nat) = x.len + (1 : Nat) ∧ y.snd = y.snd) ∧
                                                                              True) ∧
                                                                            ((0 : Nat) ≤ y.snd * (3 : Nat) ∧
                                                                                (x.l.ext (↑y.fst : Int) t.v).n = (x.l.ext (↑y.fst : Int) t.v).n ∧
                                                                                  ∀ (j : Nat),
                                                                                    j < (x.l.ext (↑y.fst : Int) t.v).n →
                                                                                      ((bif j.beq ((0 : Nat) + (↑x.len : Int).toNat) then
                                                                                            (x.l.ext (↑y.fst : Int) t.v).k ((0 : Nat) + (↑x.len : Int).toNat)
                                                                                          else (x.l.ext (↑y.fst : Int) t.v).k j) =
                                                                                          bif j.beq ((0 : Nat) + (↑x.len : Int).toNat) then
                                                                                            (x.l.ext (↑y.fst : Int) t.v).k ((0 : Nat) + (↑x.len : Int).toNat)
                                                                                          else (x.l.ext (↑y.fst : Int) t.v).k j) ∧
                                                                                        ((bif j.beq ((0 : Nat) + (↑x.len : Int).toNat) then
                                                                                              IntKind.u64.wrap ((↑y.fst : Int) + (1 : Int))
                                                                                            else (x.l.ext (↑y.fst : Int) t.v).q j) =
                                                                                            bif j.beq ((0 : Nat) + (↑x.len : Int).toNat) then
                                                                                              IntKind.u64.wrap ((↑y.fst : Int) + (1 : Int))
                                                                                            else (x.l.ext (↑y.fst : Int) t.v).q j) ∧
                                                                                          ((bif j.beq ((0 : Nat) + (↑x.len : Int).toNat) then
                                                                                                (x.l.ext (↑y.fst : Int) t.v).t ((0 : Nat) + (↑x.len : Int).toNat)
                                                                                              else (x.l.ext (↑y.fst : Int) t.v).t j) =
                                                                                              bif j.beq ((0 : Nat) + (↑x.len : Int).toNat) then
                                                                                                (x.l.ext (↑y.fst : Int) t.v).t ((0 : Nat) + (↑x.len : Int).toNat)
                                                                                              else (x.l.ext (↑y.fst : Int) t.v).t j) ∧
                                                                                            True) ∧
                                                                              True) ∧
                                                                          (LS.mk false (0 : Nat) (x.len + (1 : Nat)) y.snd (x.l.ext (↑y.fst : Int) t.v).n
                                                                                (fun (j : Nat) =>
                                                                                  bif j.beq ((0 : Nat) + (↑x.len : Int).toNat) then
                                                                                    (x.l.ext (↑y.fst : Int) t.v).k ((0 : Nat) + (↑x.len : Int).toNat)
                                                                                  else (x.l.ext (↑y.fst : Int) t.v).k j)
                                                                                (fun (j : Nat) =>
                                                                                  bif j.beq ((0 : Nat) + (↑x.len : Int).toNat) then IntKind.u64.wrap ((↑y.fst : Int) + (1 : Int))
                                                                                  else (x.l.ext (↑y.fst : Int) t.v).q j)
                                                                                fun (j : Nat) =>
                                                                                bif j.beq ((0 : Nat) + (↑x.len : Int).toNat) then
                                                                                  (x.l.ext (↑y.fst : Int) t.v).t ((0 : Nat) + (↑x.len : Int).toNat)
                                                                                else (x.l.ext (↑y.fst : Int) t.v).t j).Ok ∧
                                                                            ∀ (v : Int),
                                                                              v =
                                                                                  (LS.mk false (0 : Nat) (x.len + (1 : Nat)) y.snd (x.l.ext (↑y.fst : Int) t.v).n
                                                                                          (fun (j : Nat) =>
                                                                                            bif j.beq ((0 : Nat) + (↑x.len : Int).toNat) then
                                                                                              (x.l.ext (↑y.fst : Int) t.v).k ((0 : Nat) + (↑x.len : Int).toNat)
                                                                                            else (x.l.ext (↑y.fst : Int) t.v).k j)
                                                                                          (fun (j : Nat) =>
                                                                                            bif j.beq ((0 : Nat) + (↑x.len : Int).toNat) then
                                                                                              IntKind.u64.wrap ((↑y.fst : Int) + (1 : Int))
                                                                                            else (x.l.ext (↑y.fst : Int) t.v).q j)
                                                                                          fun (j : Nat) =>
                                                                                          bif j.beq ((0 : Nat) + (↑x.len : Int).toNat) then
                                                                                            (x.l.ext (↑y.fst : Int) t.v).t ((0 : Nat) + (↑x.len : Int).toNat)
                                                                                          else (x.l.ext (↑y.fst : Int) t.v).t j).l.borne.snd →
                                                                                x.Ok ∧ t.Ok →
                                                                                  (!(LS.mk false (0 : Nat) (x.len + (1 : Nat)) y.snd (x.l.ext (↑y.fst : Int) t.v).n
                                                                                                (fun (j : Nat) =>
                                                                                                  bif j.beq ((0 : Nat) + (↑x.len : Int).toNat) then
                                                                                                    (x.l.ext (↑y.fst : Int) t.v).k ((0 : Nat) + (↑x.len : Int).toNat)
                                                                                                  else (x.l.ext (↑y.fst : Int) t.v).k j)
                                                                                                (fun (j : Nat) =>
                                                                                                  bif j.beq ((0 : Nat) + (↑x.len : Int).toNat) then
                                                                                                    IntKind.u64.wrap ((↑y.fst : Int) + (1 : Int))
                                                                                                  else (x.l.ext (↑y.fst : Int) t.v).q j)
                                                                                                fun (j : Nat) =>
                                                                                                bif j.beq ((0 : Nat) + (↑x.len : Int).toNat) then
                                                                                                  (x.l.ext (↑y.fst : Int) t.v).t ((0 : Nat) + (↑x.len : Int).toNat)
                                                                                                else (x.l.ext (↑y.fst : Int) t.v).t j).l.borne.fst) =
                                                                                      true ∧
                                                                                    True ∧
                                                                                      ((0 : Nat) ≤ (0 : Nat) ∧
                                                                                          x.n = x.n ∧ ∀ (j : Nat), j < x.n → x.k j = x.k j ∧ x.q j = x.q j ∧ x.t j = x.t j ∧ True) ∧
                                                                                        True))))))) := by
  simp only [true_and, and_true, eq_self, Nat.le_refl, decide_eq_true_eq, decide_eq_false_iff_not, beq_iff_eq, beq_eq_false_iff_ne, implies_true, and_self, bne_iff_ne, Int.not_lt, gt_iff_lt, ne_eq, Nat.zero_add, Int.toNat_natCast, cond_nbeq, nblt_true, nblt_false, IntKind.wrap_u64, bne_eq_false_iff_eq, Bool.not_eq_true', Bool.not_eq_false']
  rintro x ⟨t⟩ ⟨hx, ht, ht'⟩
  dsimp only at ht ht' ⊢
  have gd : x.l.right → x.len < 8 → 1 ≤ t → t ≤ 8192 → spareO x.l t = (((lst (refu x.l t) 0 t.toNat : Nat) : Int), 0) := fun h1 h2 h3 h4 => by unfold spareO; rw [if_pos ⟨h1, h2, by unfold rightE; omega⟩]
  have bd : ¬ (x.l.right ∧ x.len < 8 ∧ 1 ≤ t ∧ t ≤ 8192) → spareO x.l t = (0, 11) := fun h => by
    unfold spareO; rw [if_neg fun h2 => h ⟨h2.1, h2.2.1, by have := h2.2.2; unfold rightE at this; omega⟩]
  have eL : ∀ (q : Int) (c : Nat), ({ nil := false, lo := 0, len := x.len + 1, cap := c, n := (x.l.ext q t).n, k := (x.l.ext q t).k, q := (x.l.ext q t).q, t := (x.l.ext q t).t } : LS).l = x.l.ext q t := fun q c => by
    unfold LS.l
    simp only [Nat.zero_add]
    rfl
  have eK : ∀ (q : Int) (j : Nat), (if j = x.len then (x.l.ext q t).k x.len else (x.l.ext q t).k j) = (x.l.ext (q + 1) t).k j := fun q j => by
    by_cases h : j = x.len
    · rw [if_pos h, h]; rfl
    · rw [if_neg h]; rfl
  have eT : ∀ (q : Int) (j : Nat), (if j = x.len then (x.l.ext q t).t x.len else (x.l.ext q t).t j) = (x.l.ext (q + 1) t).t j := fun q j => by
    by_cases h : j = x.len
    · rw [if_pos h, h]; rfl
    · rw [if_neg h]; rfl
  have eQ : ∀ (q : Int), 0 ≤ q → q ≤ 8192 → ∀ j : Nat, (if j = x.len then (q + 1) % 18446744073709551616 else (x.l.ext q t).q j) = (x.l.ext (q + 1) t).q j := fun q h0 h1 j => by
    rw [show (q + 1) % 18446744073709551616 = q + 1 by omega]
    show _ = if j = x.len then q + 1 else x.l.q j
    by_cases h : j = x.len
    · rw [if_pos h, if_pos h]
    · rw [if_neg h, if_neg h]; exact if_neg h
  have ok1 : ∀ q c, LS.Ok { nil := false, lo := 0, len := x.len + 1, cap := c, n := (x.l.ext q t).n, k := (x.l.ext q t).k, q := (x.l.ext q t).q, t := (x.l.ext q t).t } := fun q c => ⟨fun h => (nomatch h), by show 0 + (x.len + 1) ≤ x.len + 1; omega⟩
  simp only [eL, eK, eT]
  have hb := lst_bd (refu x.l t) t.toNat 0
  have hs := lst_spec (refu x.l t) t.toNat 0
  refine ⟨⟨id, id⟩, ⟨hx, ht, ht'⟩, fun v hv v1 hv1 => ⟨⟨id, id⟩, hx, fun h => ?_, fun hr => ⟨hx.1, fun h => ?_, fun h7 => ⟨fun h => ?_, fun h1 => ⟨fun h => ?_, fun h2 => ?_⟩⟩⟩⟩⟩
  · rw [bd fun h2 => h h2.1] at hv hv1
    exact ⟨fun _ _ => hv, fun h3 => absurd hv1 h3⟩
  · rw [bd fun h2 => by omega] at hv hv1
    exact ⟨fun _ _ => hv, fun h3 => absurd hv1 h3⟩
  · rw [bd fun h2 => by omega] at hv hv1
    exact ⟨fun _ _ => hv, fun h3 => absurd hv1 h3⟩
  · rw [bd fun h2 => by omega] at hv hv1
    exact ⟨fun _ _ => hv, fun h3 => absurd hv1 h3⟩
  · rw [gd hr (by omega) h1 h2] at hv hv1
    have hv : v = ((lst (refu x.l t) 0 t.toNat : Nat) : Int) := hv
    have hE : rightE 1 1 t := by unfold rightE; omega
    have h8 : x.len < 8 := by omega
    generalize lst (refu x.l t) 0 t.toNat = N at *
    have same : ∀ y : Nat × Nat, ((x.l.right ∧ x.len < 8 ∧ rightE 1 1 t) ∧ y.fst = N) → ∃ y_1 : Nat × Nat, ((x.l.right ∧ x.len < 8 ∧ rightE 1 1 t) ∧ y_1.fst = N) ∧ (((x.nil = true → x.nil = true) ∧ (x.nil = false → x.nil = false)) ∧ (y.fst : Int) = (y_1.fst : Nat) ∧ y.snd = y_1.snd) ∧ y_1.snd * 3 ≤ y.snd * 3 ∧ (x.l.ext (y_1.fst : Nat) t).n = (x.l.ext (y.fst : Nat) t).n ∧ ∀ (j : Nat), j < (x.l.ext (y.fst : Nat) t).n → (x.l.ext (y.fst : Nat) t).k j = (x.l.ext (y_1.fst : Nat) t).k j ∧ (x.l.ext (y.fst : Nat) t).q j = (x.l.ext (y_1.fst : Nat) t).q j ∧ (x.l.ext (y.fst : Nat) t).t j = (x.l.ext (y_1.fst : Nat) t).t j := fun y hy => ⟨y, hy, ⟨⟨id, id⟩, rfl, rfl⟩, Nat.le_refl _, rfl, fun j _ => ⟨rfl, rfl, rfl⟩⟩
    refine ⟨fun h => absurd hv1 h, fun _ => ⟨fun h => by omega, fun _ => ⟨⟨hx.1, hx.2, by omega, fun c hc => ⟨by omega, fun c2 hc2 => ⟨(N, c2), ⟨⟨hr, h8, hE⟩, rfl⟩, ⟨⟨id, id⟩, hv, rfl⟩, Nat.le_refl _, rfl, fun j hj => ⟨fun h3 => ⟨fun h4 => absurd h4 (Nat.not_lt_zero j), fun _ => ?_⟩, fun h3 => ?_⟩⟩⟩⟩, fun y hy => ⟨⟨fun h3 => ⟨by omega, ok1 _ _, fun v4 hv4 => ?_⟩, fun _ => same y hy⟩, fun y hy hne => ?_⟩⟩⟩⟩
    · have h : ¬ j = x.l.n := by show ¬ j = x.len; omega
      simp only [LL.ext, if_neg h]
      exact ⟨rfl, rfl, rfl⟩
    · have h : j = x.l.n := by show j = x.len; omega
      simp only [LL.ext, if_pos h]
      exact ⟨trivial, hv, trivial⟩
    · have hyN := hy.2
      rw [hyN] at hv4 h3 ⊢
      have hr0 := hs.1 (N - 1) (Nat.zero_le _) (by omega)
      unfold refu at hr0
      rw [show ((N - 1 : Nat) : Int) + 1 = N by omega] at hr0
      have hO : (x.l.ext N t).borne.1 = true := by simpa using hr0
      have hO2 := (LL.ok_of_borne hO).borne
      rw [hO2] at hv4 ⊢
      refine ⟨fun h => absurd hv4 h, fun _ => ⟨fun h => (nomatch h), fun _ => ?_⟩⟩
      have := same y hy
      rw [hyN] at this
      exact this
    · have hyN := hy.2
      have hN : (y.1 : Int) ≤ 8192 := by omega
      simp only [eQ _ (show (0 : Int) ≤ (y.1 : Nat) by omega) hN]
      have hR : refu x.l t N = true := by
        rcases hs.2 with h | h
        · omega
        · exact h
      unfold refu at hR
      have hbo : (x.l.ext ((y.1 : Nat) + 1) t).borne.1 = false := by rw [hyN]; simpa using hR
      have e := eL ((y.1 : Nat) + 1) y.2
      refine ⟨hx.1, by omega, Nat.lt_succ_self _, by omega, ok1 ((y.1 : Nat) + 1) y.2, fun v4 _ _ => ?_⟩
      rw [← e] at hbo
      exact hbo

def spr_C (x : (LS × A64)) : Cfg := { Γ := Go.Sx.look tSpr, names := true, cuts := sprK (x.1) (x.2).v }
theorem spr_al (x : (LS × A64)) : Shown (demsP.vc Try.prog (spr_C x) Try.f6 x) := ⟨@Eq.mp _ _ (by kernel_rfl) (spr_vc (x.1) (x.2))⟩
theorem spr_ok : SpOk Try.prog 6 demsP.sp := @Pat.okS _ demsP Try.prog spr_C 6 Try.f6 (fun x => cfg_tab rfl tSpr_ok) (by kernel_rfl) Try.func6 (fun _ => rfl) spr_al
end Go.Proofs.Ytijpjhelgggmfaa
