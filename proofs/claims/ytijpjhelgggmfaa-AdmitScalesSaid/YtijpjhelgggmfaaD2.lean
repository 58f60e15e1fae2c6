import Derived.Test.YtijpjhelgggmfaaD1
open Go Go.Sx Go.Proofs
set_option maxRecDepth 100000
namespace Go.Proofs.Ytijpjhelgggmfaa

structure JI where
  v : Int
def JI.t (x : JI) : T := .int .i64 x.v
def JI.Ok (x : JI) : Prop := i64 x.v
def leSl (x : LS) (a : Nat) : List (Nat × T) := [(0, x.v 0), (1, .int .i64 (a : Nat))]
def leC1 (x : LS) (a : Nat) : Fam where
  α := Nat
  I _ := a < x.len ∧ x.len ≤ 8 ∧ x.l.Ok
  st y := { sl := mkSl 120 (leSl x a ++ [(7, .slice 1 0 [] 0 3 (x.len - 1) y)]), H := [x.reg, (x.l.less a).row y] }
  μ _ := 0
def leC2 (x : LS) (a : Nat) : Fam where
  α := Nat
  I _ := a < x.len ∧ x.len ≤ 8 ∧ x.l.Ok
  st _ := { sl := mkSl 120 (leSl x a ++ [(8, .tt), (9, .int .i64 0)]), H := [x.reg] }
  μ _ := 0
def leC3 (x : LS) (a : Nat) : Fam where
  α := Nat
  I _ := a < x.len ∧ x.len ≤ 8 ∧ x.l.Ok
  st y := { sl := mkSl 120 (leSl x a ++ [(8, .tt), (9, .int .i64 0), (10, .slice 1 0 [] 0 3 x.len y)]), H := [x.reg, (x.l.turn a).row y] }
  μ _ := 0
def leC4 (x : LS) (a : Nat) : Fam where
  α := Nat
  I _ := a < x.len ∧ x.len ≤ 8 ∧ x.l.Ok
  st _ := { sl := mkSl 120 (leSl x a ++ [(8, .tt), (9, .int .i64 0), (11, .tt), (12, .int .i64 0)]), H := [x.reg] }
  μ _ := 0
def leC5 (x : LS) (a : Nat) : Fam where
  α := Nat
  I _ := a < x.len ∧ x.len ≤ 8 ∧ x.l.Ok ∧ x.l.k a = 1 ∧ 2 ≤ x.l.q a
  st y := { sl := mkSl 120 [(1, .int .i64 (a : Nat)), (13, .slice 1 0 [] 0 3 x.len y)], H := [x.reg, x.l.row y] }
  μ _ := 0
def leK (x : LS) (a : Int) : Nat → Gam
  | 9 => .l [leC1 x a.toNat]
  | 10 => .l [leC2 x a.toNat]
  | 11 => .l [leC3 x a.toNat]
  | 12 => .l [leC4 x a.toNat]
  | 17 => .l [leC5 x a.toNat]
  | _ => .l []
def leM : Nat → Nat
  | 8 => 1
  | 10 => 1
  | _ => 0
def lessP : Pat (LS × JI) where
  view _ _ := none
  args x := [x.1.v 0, x.2.t]
  H x := [x.1.reg]
  out x := .need ((x.1.Ok ∧ x.1.len ≤ x.1.cap) ∧ x.2.Ok) (.retq .tt)
def tLess : Tab := [(10, aliveP.sp), (18, borneP.sp)]
theorem tLess_ok : TabOk Try.prog tLess := (tab_cons alive_ok (tab_cons borne_ok tab_nil))

theorem less_vc : ∀ (x : LS) (a : JI),
    ((x.Ok ∧ x.len ≤ x.cap) ∧ a.Ok) ∧ True →
      (True ∧ True) ∧
        (x.nil = true → x.len = (0 : Nat)) ∧
          (decide ((↑x.len : Int) > (8 : Int)) = true →
              (x.Ok ∧ x.len ≤ x.cap) ∧ a.Ok →
                True ∧ True ∧ ((0 : Nat) ≤ (0 : Nat) ∧ x.n = x.n ∧ ∀ (j : Nat), j < x.n → x.k j = x.k j ∧ x.q j = x.q j ∧ x.t j = x.t j ∧ True) ∧ True) ∧
            (decide ((↑x.len : Int) > (8 : Int)) = false →
              (decide (a.v < (0 : Int)) = true →
                  (x.Ok ∧ x.len ≤ x.cap) ∧ a.Ok →
                    True ∧ True ∧ ((0 : Nat) ≤ (0 : Nat) ∧ x.n = x.n ∧ ∀ (j : Nat), j < x.n → x.k j = x.k j ∧ x.q j = x.q j ∧ x.t j = x.t j ∧ True) ∧ True) ∧
                (decide (a.v < (0 : Int)) = false →
                  (x.nil = true → x.len = (0 : Nat)) ∧
                    (decide (a.v ≥ (↑x.len : Int)) = true →
                        (x.Ok ∧ x.len ≤ x.cap) ∧ a.Ok →
                          True ∧ True ∧ ((0 : Nat) ≤ (0 : Nat) ∧ x.n = x.n ∧ ∀ (j : Nat), j < x.n → x.k j = x.k j ∧ x.q j = x.q j ∧ x.t j = x.t j ∧ True) ∧ True) ∧
                      (decide (a.v ≥ (↑x.len : Int)) = false →
                        ((((x.nil = true → x.nil = true) ∧ (x.nil = false → x.nil = false ∧ True ∧ True ∧ x.lo = x.lo ∧ x.len = x.len ∧ x.cap = x.cap)) ∧ True) ∧
                            ((0 : Nat) ≤ (0 : Nat) ∧ x.n = x.n ∧ ∀ (j : Nat), j < x.n → x.k j = x.k j ∧ x.q j = x.q j ∧ x.t j = x.t j ∧ True) ∧ True) ∧
                          x.Ok ∧
                            ∀ (v : Int),
                              v = x.l.borne.snd →
                                ((v != (0 : Int)) = true →
                                    (x.Ok ∧ x.len ≤ x.cap) ∧ a.Ok →
                                      True ∧ True ∧ ((0 : Nat) ≤ (0 : Nat) ∧ x.n = x.n ∧ ∀ (j : Nat), j < x.n → x.k j = x.k j ∧ x.q j = x.q j ∧ x.t j = x.t j ∧ True) ∧ True) ∧
                                  ((v != (0 : Int)) = false →
                                    ((!x.l.borne.fst) = true →
                                        (x.Ok ∧ x.len ≤ x.cap) ∧ a.Ok →
                                          True ∧ True ∧ ((0 : Nat) ≤ (0 : Nat) ∧ x.n = x.n ∧ ∀ (j : Nat), j < x.n → x.k j = x.k j ∧ x.q j = x.q j ∧ x.t j = x.t j ∧ True) ∧ True) ∧
                                      ((!x.l.borne.fst) = false →
                                        ((x.nil = true → True ∧ a.v = (0 : Int) ∧ True) ∧
                                            ((0 : Int) ≤ a.v ∧ a.v ≤ (↑x.cap : Int)) ∧
                                              (x.nil = true → IntKind.i64.wrap (a.v + (1 : Int)) = (0 : Int) ∧ True ∧ True) ∧
                                                ((0 : Int) ≤ IntKind.i64.wrap (a.v + (1 : Int)) ∧ IntKind.i64.wrap (a.v + (1 : Int)) ≤ (↑x.len : Int)) ∧
                                                  (x.nil = true → a.v.toNat = (0 : Nat)) ∧
                                                    x.lo + a.v.toNat ≤ x.n ∧
                                                      ((0 : Nat) = (0 : Nat) ∧
                                                          (0 : Nat) ≤ (0 : Nat) ∧
                                                            (0 : Nat) ≤ (0 : Nat) ∧
                                                              (0 : Nat) ≤ (0 : Nat) ∧
                                                                ((0 : Nat) + a.v.toNat) * (24 : Nat) ≤ (140737488355328 : Nat) ∧
                                                                  (0 : Nat) + a.v.toNat ≤ (9223372036854775807 : Nat) ∧
                                                                    (∀ (_ : Nat), (3 : Nat) = (3 : Nat)) ∧ ∀ (_ : Nat), (3 : Nat) = (3 : Nat)) ∧
                                                        ∀ (cap' : Nat),
                                                          (0 : Nat) + a.v.toNat ≤ cap' →
                                                            (x.nil = true → x.len - (IntKind.i64.wrap (a.v + (1 : Int))).toNat = (0 : Nat)) ∧
                                                              (if x.cap = (IntKind.i64.wrap (a.v + (1 : Int))).toNat then x.lo
                                                                    else x.lo + (IntKind.i64.wrap (a.v + (1 : Int))).toNat) +
                                                                    (x.len - (IntKind.i64.wrap (a.v + (1 : Int))).toNat) ≤
                                                                  x.n ∧
                                                                ((0 : Nat) = (0 : Nat) ∧
                                                                    (0 : Nat) + a.v.toNat ≤ (0 : Nat) + a.v.toNat ∧
                                                                      (0 : Nat) + a.v.toNat ≤ cap' ∧
                                                                        cap' * (3 : Nat) ≤ cap' * (3 : Nat) ∧
                                                                          ((0 : Nat) + a.v.toNat + (x.len - (IntKind.i64.wrap (a.v + (1 : Int))).toNat)) * (24 : Nat) ≤
                                                                              (140737488355328 : Nat) ∧
                                                                            (0 : Nat) + a.v.toNat + (x.len - (IntKind.i64.wrap (a.v + (1 : Int))).toNat) ≤
                                                                                (9223372036854775807 : Nat) ∧
                                                                              (∀ (_ : Nat), (3 : Nat) = (3 : Nat)) ∧ ∀ (_ : Nat), (3 : Nat) = (3 : Nat)) ∧
                                                                  ∀ (cap' : Nat),
                                                                    (0 : Nat) + a.v.toNat + (x.len - (IntKind.i64.wrap (a.v + (1 : Int))).toNat) ≤ cap' →
                                                                      ∃ (y : Nat),
                                                                        (a.v.toNat < x.len ∧ x.len ≤ (8 : Nat) ∧ x.l.Ok) ∧
                                                                          ((((x.nil = true → x.nil = true) ∧
                                                                                  (x.nil = false → x.nil = false ∧ True ∧ True ∧ x.lo = x.lo ∧ x.len = x.len ∧ x.cap = x.cap)) ∧
                                                                                a.v = (↑a.v.toNat : Int) ∧
                                                                                  (True ∧
                                                                                      True ∧
                                                                                        (0 : Nat) = (0 : Nat) ∧
                                                                                          (0 : Nat) + a.v.toNat + (x.len - (IntKind.i64.wrap (a.v + (1 : Int))).toNat) =
                                                                                              x.len - (1 : Nat) ∧
                                                                                            cap' = y) ∧
                                                                                    True) ∧
                                                                              ((0 : Nat) ≤ (0 : Nat) ∧
                                                                                  x.n = x.n ∧ ∀ (j : Nat), j < x.n → x.k j = x.k j ∧ x.q j = x.q j ∧ x.t j = x.t j ∧ True) ∧
                                                                                (y * (3 : Nat) ≤ cap' * (3 : Nat) ∧
                                                                                    (x.l.less a.v.toNat).n =
                                                                                        (0 : Nat) + a.v.toNat + (x.len - (IntKind.i64.wrap (a.v + (1 : Int))).toNat) ∧
                                                                                      ∀ (j : Nat),
                                                                                        j < (0 : Nat) + a.v.toNat + (x.len - (IntKind.i64.wrap (a.v + (1 : Int))).toNat) →
                                                                                          (j.blt ((0 : Nat) + a.v.toNat) = true →
                                                                                              (j.blt (0 : Nat) = true →
                                                                                                  (0 : Int) = (x.l.less a.v.toNat).k j ∧
                                                                                                    (0 : Int) = (x.l.less a.v.toNat).q j ∧
                                                                                                      (0 : Int) = (x.l.less a.v.toNat).t j ∧ True) ∧
                                                                                                (j.blt (0 : Nat) = false →
                                                                                                  x.k (x.lo + (j - (0 : Nat))) = (x.l.less a.v.toNat).k j ∧
                                                                                                    x.q (x.lo + (j - (0 : Nat))) = (x.l.less a.v.toNat).q j ∧
                                                                                                      x.t (x.lo + (j - (0 : Nat))) = (x.l.less a.v.toNat).t j ∧ True)) ∧
                                                                                            (j.blt ((0 : Nat) + a.v.toNat) = false →
                                                                                              x.k
                                                                                                    ((if x.cap = (IntKind.i64.wrap (a.v + (1 : Int))).toNat then x.lo
                                                                                                      else x.lo + (IntKind.i64.wrap (a.v + (1 : Int))).toNat) +
                                                                                                      (j - ((0 : Nat) + a.v.toNat))) =
                                                                                                  (x.l.less a.v.toNat).k j ∧
                                                                                                x.q
                                                                                                      ((if x.cap = (IntKind.i64.wrap (a.v + (1 : Int))).toNat then x.lo
                                                                                                        else x.lo + (IntKind.i64.wrap (a.v + (1 : Int))).toNat) +
                                                                                                        (j - ((0 : Nat) + a.v.toNat))) =
                                                                                                    (x.l.less a.v.toNat).q j ∧
                                                                                                  x.t
                                                                                                        ((if x.cap = (IntKind.i64.wrap (a.v + (1 : Int))).toNat then x.lo
                                                                                                          else x.lo + (IntKind.i64.wrap (a.v + (1 : Int))).toNat) +
                                                                                                          (j - ((0 : Nat) + a.v.toNat))) =
                                                                                                      (x.l.less a.v.toNat).t j ∧
                                                                                                    True)) ∧
                                                                                  True) ∧
                                                                            True) ∧
                                          ∀ (y : Nat),
                                            a.v.toNat < x.len ∧ x.len ≤ (8 : Nat) ∧ x.l.Ok →
                                              ((((false = false ∧ True ∧ True ∧ (0 : Nat) = (0 : Nat) ∧ x.len - (1 : Nat) = x.len - (1 : Nat) ∧ y = y) ∧ True) ∧
                                                    ((0 : Nat) ≤ y * (3 : Nat) ∧
                                                        (x.l.less a.v.toNat).n = (x.l.less a.v.toNat).n ∧
                                                          ∀ (j : Nat),
                                                            j < (x.l.less a.v.toNat).n →
                                                              (x.l.less a.v.toNat).k j = (x.l.less a.v.toNat).k j ∧
                                                                (x.l.less a.v.toNat).q j = (x.l.less a.v.toNat).q j ∧ (x.l.less a.v.toNat).t j = (x.l.less a.v.toNat).t j ∧ True) ∧
                                                      True) ∧
                                                  (LS.mk false (0 : Nat) (x.len - (1 : Nat)) y (x.l.less a.v.toNat).n (x.l.less a.v.toNat).k (x.l.less a.v.toNat).q
                                                        (x.l.less a.v.toNat).t).Ok ∧
                                                    ∀ (v : Int),
                                                      v =
                                                          (LS.mk false (0 : Nat) (x.len - (1 : Nat)) y (x.l.less a.v.toNat).n (x.l.less a.v.toNat).k (x.l.less a.v.toNat).q
                                                                  (x.l.less a.v.toNat).t).l.borne.snd →
                                                        ∃ (_ : Nat),
                                                          (a.v.toNat < x.len ∧ x.len ≤ (8 : Nat) ∧ x.l.Ok) ∧
                                                            ((((x.nil = true → x.nil = true) ∧
                                                                    (x.nil = false → x.nil = false ∧ True ∧ True ∧ x.lo = x.lo ∧ x.len = x.len ∧ x.cap = x.cap)) ∧
                                                                  (↑a.v.toNat : Int) = (↑a.v.toNat : Int) ∧
                                                                    (LS.mk false (0 : Nat) (x.len - (1 : Nat)) y (x.l.less a.v.toNat).n (x.l.less a.v.toNat).k (x.l.less a.v.toNat).q
                                                                                (x.l.less a.v.toNat).t).l.borne.fst =
                                                                        true ∧
                                                                      v = (0 : Int) ∧ True) ∧
                                                                ((0 : Nat) ≤ (0 : Nat) ∧ x.n = x.n ∧ ∀ (j : Nat), j < x.n → x.k j = x.k j ∧ x.q j = x.q j ∧ x.t j = x.t j ∧ True) ∧
                                                                  True) ∧
                                                              True) ∧
                                                ∀ (_ : Nat),
                                                  a.v.toNat < x.len ∧ x.len ≤ (8 : Nat) ∧ x.l.Ok →
                                                    ((x.nil = true → (↑a.v.toNat : Int) = (0 : Int) ∧ True ∧ True) ∧
                                                        ((0 : Int) ≤ (↑a.v.toNat : Int) ∧ (↑a.v.toNat : Int) ≤ (↑x.len : Int)) ∧
                                                          (x.nil = true → True ∧ (↑a.v.toNat : Int) = (0 : Int) ∧ True) ∧
                                                            ((0 : Int) ≤ (↑a.v.toNat : Int) ∧ (↑a.v.toNat : Int) ≤ (↑x.cap : Int)) ∧
                                                              (x.nil = true → x.len - (↑a.v.toNat : Int).toNat = (0 : Nat)) ∧
                                                                (if x.cap = (↑a.v.toNat : Int).toNat then x.lo else x.lo + (↑a.v.toNat : Int).toNat) +
                                                                      (x.len - (↑a.v.toNat : Int).toNat) ≤
                                                                    x.n ∧
                                                                  ((0 : Nat) = (0 : Nat) ∧
                                                                      (0 : Nat) ≤ (0 : Nat) ∧
                                                                        (0 : Nat) ≤ (0 : Nat) ∧
                                                                          (0 : Nat) ≤ (0 : Nat) ∧
                                                                            ((0 : Nat) + (x.len - (↑a.v.toNat : Int).toNat)) * (24 : Nat) ≤ (140737488355328 : Nat) ∧
                                                                              (0 : Nat) + (x.len - (↑a.v.toNat : Int).toNat) ≤ (9223372036854775807 : Nat) ∧
                                                                                (∀ (_ : Nat), (3 : Nat) = (3 : Nat)) ∧ ∀ (_ : Nat), (3 : Nat) = (3 : Nat)) ∧
                                                                    ∀ (cap' : Nat),
                                                                      (0 : Nat) + (x.len - (↑a.v.toNat : Int).toNat) ≤ cap' →
                                                                        (x.nil = true → (↑a.v.toNat : Int).toNat = (0 : Nat)) ∧
                                                                          x.lo + (↑a.v.toNat : Int).toNat ≤ x.n ∧
                                                                            ((0 : Nat) = (0 : Nat) ∧
                                                                                (0 : Nat) + (x.len - (↑a.v.toNat : Int).toNat) ≤ (0 : Nat) + (x.len - (↑a.v.toNat : Int).toNat) ∧
                                                                                  (0 : Nat) + (x.len - (↑a.v.toNat : Int).toNat) ≤ cap' ∧
                                                                                    cap' * (3 : Nat) ≤ cap' * (3 : Nat) ∧
                                                                                      ((0 : Nat) + (x.len - (↑a.v.toNat : Int).toNat) + (↑a.v.toNat : Int).toNat) * (24 : Nat) ≤
                                                                                          (140737488355328 : Nat) ∧
                                                                                        (0 : Nat) + (x.len - (↑a.v.toNat : Int).toNat) + (↑a.v.toNat : Int).toNat ≤
                                                                                            (9223372036854775807 : Nat) ∧
                                                                                          (∀ (_ : Nat), (3 : Nat) = (3 : Nat)) ∧ ∀ (_ : Nat), (3 : Nat) = (3 : Nat)) ∧
                                                                              ∀ (cap' : Nat),
                                                                                (0 : Nat) + (x.len - (↑a.v.toNat : Int).toNat) + (↑a.v.toNat : Int).toNat ≤ cap' →
                                                                                  ∃ (y : Nat),
                                                                                    (a.v.toNat < x.len ∧ x.len ≤ (8 : Nat) ∧ x.l.Ok) ∧
                                                                                      ((((x.nil = true → x.nil = true) ∧
                                                                                              (x.nil = false →
                                                                                                x.nil = false ∧ True ∧ True ∧ x.lo = x.lo ∧ x.len = x.len ∧ x.cap = x.cap)) ∧
                                                                                            (↑a.v.toNat : Int) = (↑a.v.toNat : Int) ∧
                                                                                              True ∧
                                                                                                (0 : Int) = (0 : Int) ∧
                                                                                                  (True ∧
                                                                                                      True ∧
                                                                                                        (0 : Nat) = (0 : Nat) ∧
                                                                                                          (0 : Nat) + (x.len - (↑a.v.toNat : Int).toNat) + (↑a.v.toNat : Int).toNat =
                                                                                                              x.len ∧
                                                                                                            cap' = y) ∧
                                                                                                    True) ∧
                                                                                          ((0 : Nat) ≤ (0 : Nat) ∧
                                                                                              x.n = x.n ∧
                                                                                                ∀ (j : Nat), j < x.n → x.k j = x.k j ∧ x.q j = x.q j ∧ x.t j = x.t j ∧ True) ∧
                                                                                            (y * (3 : Nat) ≤ cap' * (3 : Nat) ∧
                                                                                                (x.l.turn a.v.toNat).n =
                                                                                                    (0 : Nat) + (x.len - (↑a.v.toNat : Int).toNat) + (↑a.v.toNat : Int).toNat ∧
                                                                                                  ∀ (j : Nat),
                                                                                                    j < (0 : Nat) + (x.len - (↑a.v.toNat : Int).toNat) + (↑a.v.toNat : Int).toNat →
                                                                                                      (j.blt ((0 : Nat) + (x.len - (↑a.v.toNat : Int).toNat)) = true →
                                                                                                          (j.blt (0 : Nat) = true →
                                                                                                              (0 : Int) = (x.l.turn a.v.toNat).k j ∧
                                                                                                                (0 : Int) = (x.l.turn a.v.toNat).q j ∧
                                                                                                                  (0 : Int) = (x.l.turn a.v.toNat).t j ∧ True) ∧
                                                                                                            (j.blt (0 : Nat) = false →
                                                                                                              x.k
                                                                                                                    ((if x.cap = (↑a.v.toNat : Int).toNat then x.lo
                                                                                                                      else x.lo + (↑a.v.toNat : Int).toNat) +
                                                                                                                      (j - (0 : Nat))) =
                                                                                                                  (x.l.turn a.v.toNat).k j ∧
                                                                                                                x.q
                                                                                                                      ((if x.cap = (↑a.v.toNat : Int).toNat then x.lo
                                                                                                                        else x.lo + (↑a.v.toNat : Int).toNat) +
                                                                                                                        (j - (0 : Nat))) =
                                                                                                                    (x.l.turn a.v.toNat).q j ∧
                                                                                                                  x.t
                                                                                                                        ((if x.cap = (↑a.v.toNat : Int).toNat then x.lo
                                                                                                                          else x.lo + (↑a.v.toNat : Int).toNat) +
                                                                                                                          (j - (0 : Nat))) =
                                                                                                                      (x.l.turn a.v.toNat).t j ∧
                                                                                                                    True)) ∧
                                                                                                        (j.blt ((0 : Nat) + (x.len - (↑a.v.toNat : Int).toNat)) = false →
                                                                                                          x.k (x.lo + (j - ((0 : Nat) + (x.len - (↑a.v.toNat : Int).toNat)))) =
                                                                                                              (x.l.turn a.v.toNat).k j ∧
                                                                                                            x.q (x.lo + (j - ((0 : Nat) + (x.len - (↑a.v.toNat : Int).toNat)))) =
                                                                                                                (x.l.turn a.v.toNat).q j ∧
                                                                                                              x.t (x.lo + (j - ((0 : Nat) + (x.len - (↑a.v.toNat : Int).toNat)))) =
                                                                                                                  (x.l.turn a.v.toNat).t j ∧
                                                                                                                True)) ∧
                                                                                              True) ∧
                                                                                        True) ∧
                                                      ∀ (y : Nat),
                                                        a.v.toNat < x.len ∧ x.len ≤ (8 : Nat) ∧ x.l.Ok →
                                                          ((((false = false ∧ True ∧ True ∧ (0 : Nat) = (0 : Nat) ∧ x.len = x.len ∧ y = y) ∧ True) ∧
                                                                ((0 : Nat) ≤ y * (3 : Nat) ∧
                                                                    (x.l.turn a.v.toNat).n = (x.l.turn a.v.toNat).n ∧
                                                                      ∀ (j : Nat),
                                                                        j < (x.l.turn a.v.toNat).n →
                                                                          (x.l.turn a.v.toNat).k j = (x.l.turn a.v.toNat).k j ∧
                                                                            (x.l.turn a.v.toNat).q j = (x.l.turn a.v.toNat).q j ∧
                                                                              (x.l.turn a.v.toNat).t j = (x.l.turn a.v.toNat).t j ∧ True) ∧
                                                                  True) ∧
                                                              (LS.mk false (0 : Nat) x.len y (x.l.turn a.v.toNat).n (x.l.turn a.v.toNat).k (x.l.turn a.v.toNat).q
                                                                    (x.l.turn a.v.toNat).t).Ok ∧
                                                                ∀ (v : Int),
                                                                  v =
                                                                      (LS.mk false (0 : Nat) x.len y (x.l.turn a.v.toNat).n (x.l.turn a.v.toNat).k (x.l.turn a.v.toNat).q
                                                                              (x.l.turn a.v.toNat).t).l.borne.snd →
                                                                    ∃ (_ : Nat),
                                                                      (a.v.toNat < x.len ∧ x.len ≤ (8 : Nat) ∧ x.l.Ok) ∧
                                                                        ((((x.nil = true → x.nil = true) ∧
                                                                                (x.nil = false → x.nil = false ∧ True ∧ True ∧ x.lo = x.lo ∧ x.len = x.len ∧ x.cap = x.cap)) ∧
                                                                              (↑a.v.toNat : Int) = (↑a.v.toNat : Int) ∧
                                                                                True ∧
                                                                                  (0 : Int) = (0 : Int) ∧
                                                                                    (LS.mk false (0 : Nat) x.len y (x.l.turn a.v.toNat).n (x.l.turn a.v.toNat).k
                                                                                                (x.l.turn a.v.toNat).q (x.l.turn a.v.toNat).t).l.borne.fst =
                                                                                        true ∧
                                                                                      v = (0 : Int) ∧ True) ∧
                                                                            ((0 : Nat) ≤ (0 : Nat) ∧
                                                                                x.n = x.n ∧ ∀ (j : Nat), j < x.n → x.k j = x.k j ∧ x.q j = x.q j ∧ x.t j = x.t j ∧ True) ∧
                                                                              True) ∧
                                                                          True) ∧
                                                            ∀ (_ : Nat),
                                                              a.v.toNat < x.len ∧ x.len ≤ (8 : Nat) ∧ x.l.Ok →
                                                                (((0 : Int) != (0 : Int)) = true →
                                                                    (x.Ok ∧ x.len ≤ x.cap) ∧ a.Ok →
                                                                      False ∧
                                                                        True ∧
                                                                          ((0 : Nat) ≤ (0 : Nat) ∧
                                                                              x.n = x.n ∧ ∀ (j : Nat), j < x.n → x.k j = x.k j ∧ x.q j = x.q j ∧ x.t j = x.t j ∧ True) ∧
                                                                            True) ∧
                                                                  (((0 : Int) != (0 : Int)) = false →
                                                                    (((0 : Int) != (0 : Int)) = true →
                                                                        (x.Ok ∧ x.len ≤ x.cap) ∧ a.Ok →
                                                                          False ∧
                                                                            True ∧
                                                                              ((0 : Nat) ≤ (0 : Nat) ∧
                                                                                  x.n = x.n ∧ ∀ (j : Nat), j < x.n → x.k j = x.k j ∧ x.q j = x.q j ∧ x.t j = x.t j ∧ True) ∧
                                                                                True) ∧
                                                                      (((0 : Int) != (0 : Int)) = false →
                                                                        (x.nil = true → x.len = (0 : Nat)) ∧
                                                                          ((0 : Int) ≤ (↑a.v.toNat : Int) ∧ (↑a.v.toNat : Int) < (↑x.len : Int)) ∧
                                                                            x.lo + (↑a.v.toNat : Int).toNat < x.n ∧
                                                                              ((x.k (x.lo + (↑a.v.toNat : Int).toNat) != (1 : Int)) = true →
                                                                                  (x.Ok ∧ x.len ≤ x.cap) ∧ a.Ok →
                                                                                    True ∧
                                                                                      True ∧
                                                                                        ((0 : Nat) ≤ (0 : Nat) ∧
                                                                                            x.n = x.n ∧ ∀ (j : Nat), j < x.n → x.k j = x.k j ∧ x.q j = x.q j ∧ x.t j = x.t j ∧ True) ∧
                                                                                          True) ∧
                                                                                ((x.k (x.lo + (↑a.v.toNat : Int).toNat) != (1 : Int)) = false →
                                                                                  (x.nil = true → x.len = (0 : Nat)) ∧
                                                                                    ((0 : Int) ≤ (↑a.v.toNat : Int) ∧ (↑a.v.toNat : Int) < (↑x.len : Int)) ∧
                                                                                      x.lo + (↑a.v.toNat : Int).toNat < x.n ∧
                                                                                        (decide (x.q (x.lo + (↑a.v.toNat : Int).toNat) < (2 : Int)) = true →
                                                                                            (x.Ok ∧ x.len ≤ x.cap) ∧ a.Ok →
                                                                                              True ∧
                                                                                                True ∧
                                                                                                  ((0 : Nat) ≤ (0 : Nat) ∧
                                                                                                      x.n = x.n ∧
                                                                                                        ∀ (j : Nat), j < x.n → x.k j = x.k j ∧ x.q j = x.q j ∧ x.t j = x.t j ∧ True) ∧
                                                                                                    True) ∧
                                                                                          (decide (x.q (x.lo + (↑a.v.toNat : Int).toNat) < (2 : Int)) = false →
                                                                                            ((x.nil = true → x.len = (0 : Nat)) ∧
                                                                                                x.lo + x.len ≤ x.n ∧
                                                                                                  ((0 : Nat) = (0 : Nat) ∧
                                                                                                      (0 : Nat) ≤ (0 : Nat) ∧
                                                                                                        (0 : Nat) ≤ (0 : Nat) ∧
                                                                                                          (0 : Nat) ≤ (0 : Nat) ∧
                                                                                                            ((0 : Nat) + x.len) * (24 : Nat) ≤ (140737488355328 : Nat) ∧
                                                                                                              (0 : Nat) + x.len ≤ (9223372036854775807 : Nat) ∧
                                                                                                                (∀ (_ : Nat), (3 : Nat) = (3 : Nat)) ∧
                                                                                                                  ∀ (_ : Nat), (3 : Nat) = (3 : Nat)) ∧
                                                                                                    ∀ (cap' : Nat),
                                                                                                      (0 : Nat) + x.len ≤ cap' →
                                                                                                        ∃ (y : Nat),
                                                                                                          (a.v.toNat < x.len ∧
                                                                                                              x.len ≤ (8 : Nat) ∧
                                                                                                                x.l.Ok ∧ x.l.k a.v.toNat = (1 : Int) ∧ (2 : Int) ≤ x.l.q a.v.toNat) ∧
                                                                                                            (((↑a.v.toNat : Int) = (↑a.v.toNat : Int) ∧
                                                                                                                  (True ∧
                                                                                                                      True ∧
                                                                                                                        (0 : Nat) = (0 : Nat) ∧
                                                                                                                          (0 : Nat) + x.len = x.len ∧ cap' = y) ∧
                                                                                                                    True) ∧
                                                                                                                ((0 : Nat) ≤ (0 : Nat) ∧
                                                                                                                    x.n = x.n ∧
                                                                                                                      ∀ (j : Nat),
                                                                                                                        j < x.n →
                                                                                                                          x.k j = x.k j ∧ x.q j = x.q j ∧ x.t j = x.t j ∧ True) ∧
                                                                                                                  (y * (3 : Nat) ≤ cap' * (3 : Nat) ∧
                                                                                                                      x.l.n = (0 : Nat) + x.len ∧
                                                                                                                        ∀ (j : Nat),
                                                                                                                          j < (0 : Nat) + x.len →
                                                                                                                            (j.blt (0 : Nat) = true →
                                                                                                                                (0 : Int) = x.l.k j ∧
                                                                                                                                  (0 : Int) = x.l.q j ∧ (0 : Int) = x.l.t j ∧ True) ∧
                                                                                                                              (j.blt (0 : Nat) = false →
                                                                                                                                x.k (x.lo + (j - (0 : Nat))) = x.l.k j ∧
                                                                                                                                  x.q (x.lo + (j - (0 : Nat))) = x.l.q j ∧
                                                                                                                                    x.t (x.lo + (j - (0 : Nat))) = x.l.t j ∧ True)) ∧
                                                                                                                    True) ∧
                                                                                                              True) ∧
                                                                                              ∀ (y : Nat),
                                                                                                a.v.toNat < x.len ∧
                                                                                                    x.len ≤ (8 : Nat) ∧
                                                                                                      x.l.Ok ∧ x.l.k a.v.toNat = (1 : Int) ∧ (2 : Int) ≤ x.l.q a.v.toNat →
                                                                                                  ((0 : Int) ≤ (↑a.v.toNat : Int) ∧ (↑a.v.toNat : Int) < (↑x.len : Int)) ∧
                                                                                                    (0 : Nat) + (↑a.v.toNat : Int).toNat < x.l.n ∧
                                                                                                      ((0 : Int) ≤ (↑a.v.toNat : Int) ∧ (↑a.v.toNat : Int) < (↑x.len : Int)) ∧
                                                                                                        (0 : Nat) + (↑a.v.toNat : Int).toNat < x.l.n ∧
                                                                                                          (((false = false ∧
                                                                                                                  True ∧ True ∧ (0 : Nat) = (0 : Nat) ∧ x.len = x.len ∧ y = y) ∧
                                                                                                                True) ∧
                                                                                                              ((0 : Nat) ≤ y * (3 : Nat) ∧
                                                                                                                  x.l.n = x.l.n ∧
                                                                                                                    ∀ (j : Nat),
                                                                                                                      j < x.l.n →
                                                                                                                        ((bif j.beq ((0 : Nat) + (↑a.v.toNat : Int).toNat) then
                                                                                                                              x.l.k ((0 : Nat) + (↑a.v.toNat : Int).toNat)
                                                                                                                            else x.l.k j) =
                                                                                                                            bif j.beq ((0 : Nat) + (↑a.v.toNat : Int).toNat) then
                                                                                                                              x.l.k ((0 : Nat) + (↑a.v.toNat : Int).toNat)
                                                                                                                            else x.l.k j) ∧
                                                                                                                          ((bif j.beq ((0 : Nat) + (↑a.v.toNat : Int).toNat) then
                                                                                                                                IntKind.u64.wrap
                                                                                                                                  (x.l.q ((0 : Nat) + (↑a.v.toNat : Int).toNat) -
                                                                                                                                    (1 : Int))
                                                                                                                              else x.l.q j) =
                                                                                                                              bif j.beq ((0 : Nat) + (↑a.v.toNat : Int).toNat) then
                                                                                                                                IntKind.u64.wrap
                                                                                                                                  (x.l.q ((0 : Nat) + (↑a.v.toNat : Int).toNat) -
                                                                                                                                    (1 : Int))
                                                                                                                              else x.l.q j) ∧
                                                                                                                            ((bif j.beq ((0 : Nat) + (↑a.v.toNat : Int).toNat) then
                                                                                                                                  x.l.t ((0 : Nat) + (↑a.v.toNat : Int).toNat)
                                                                                                                                else x.l.t j) =
                                                                                                                                bif j.beq ((0 : Nat) + (↑a.v.toNat : Int).toNat) then
                                                                                                                                  x.l.t ((0 : Nat) + (↑a.v.toNat : Int).toNat)
                                                                                                                                else x.l.t j) ∧
                                                                                                                              True) ∧
                                                                                                                True) ∧
                                                                                                            (LS.mk false (0 : Nat) x.len y x.l.n
                                                                                                                  (fun (j : Nat) =>
                                                                                                                    bif j.beq ((0 : Nat) + (↑a.v.toNat : Int).toNat) then
                                                                                                                      x.l.k ((0 : Nat) + (↑a.v.toNat : Int).toNat)
                                                                                                                    else x.l.k j)
                                                                                                                  (fun (j : Nat) =>
                                                                                                                    bif j.beq ((0 : Nat) + (↑a.v.toNat : Int).toNat) then
                                                                                                                      IntKind.u64.wrap
                                                                                                                        (x.l.q ((0 : Nat) + (↑a.v.toNat : Int).toNat) - (1 : Int))
                                                                                                                    else x.l.q j)
                                                                                                                  fun (j : Nat) =>
                                                                                                                  bif j.beq ((0 : Nat) + (↑a.v.toNat : Int).toNat) then
                                                                                                                    x.l.t ((0 : Nat) + (↑a.v.toNat : Int).toNat)
                                                                                                                  else x.l.t j).Ok ∧
                                                                                                              ∀ (v : Int),
                                                                                                                v =
                                                                                                                    (LS.mk false (0 : Nat) x.len y x.l.n
                                                                                                                            (fun (j : Nat) =>
                                                                                                                              bif j.beq ((0 : Nat) + (↑a.v.toNat : Int).toNat) then
                                                                                                                                x.l.k ((0 : Nat) + (↑a.v.toNat : Int).toNat)
                                                                                                                              else x.l.k j)
                                                                                                                            (fun (j : Nat) =>
                                                                                                                              bif j.beq ((0 : Nat) + (↑a.v.toNat : Int).toNat) then
                                                                                                                                IntKind.u64.wrap
                                                                                                                                  (x.l.q ((0 : Nat) + (↑a.v.toNat : Int).toNat) -
                                                                                                                                    (1 : Int))
                                                                                                                              else x.l.q j)
                                                                                                                            fun (j : Nat) =>
                                                                                                                            bif j.beq ((0 : Nat) + (↑a.v.toNat : Int).toNat) then
                                                                                                                              x.l.t ((0 : Nat) + (↑a.v.toNat : Int).toNat)
                                                                                                                            else x.l.t j).l.borne.snd →
                                                                                                                  ((v == (0 : Int)) = true →
                                                                                                                      (x.Ok ∧ x.len ≤ x.cap) ∧ a.Ok →
                                                                                                                        (LS.mk false (0 : Nat) x.len y x.l.n
                                                                                                                                    (fun (j : Nat) =>
                                                                                                                                      bif
                                                                                                                                          j.beq
                                                                                                                                            ((0 : Nat) +
                                                                                                                                              (↑a.v.toNat : Int).toNat) then
                                                                                                                                        x.l.k ((0 : Nat) + (↑a.v.toNat : Int).toNat)
                                                                                                                                      else x.l.k j)
                                                                                                                                    (fun (j : Nat) =>
                                                                                                                                      bif
                                                                                                                                          j.beq
                                                                                                                                            ((0 : Nat) +
                                                                                                                                              (↑a.v.toNat : Int).toNat) then
                                                                                                                                        IntKind.u64.wrap
                                                                                                                                          (x.l.q
                                                                                                                                              ((0 : Nat) + (↑a.v.toNat : Int).toNat) -
                                                                                                                                            (1 : Int))
                                                                                                                                      else x.l.q j)
                                                                                                                                    fun (j : Nat) =>
                                                                                                                                    bif
                                                                                                                                        j.beq
                                                                                                                                          ((0 : Nat) + (↑a.v.toNat : Int).toNat) then
                                                                                                                                      x.l.t ((0 : Nat) + (↑a.v.toNat : Int).toNat)
                                                                                                                                    else x.l.t j).l.borne.fst =
                                                                                                                            true ∧
                                                                                                                          True ∧
                                                                                                                            ((0 : Nat) ≤ (0 : Nat) ∧
                                                                                                                                x.n = x.n ∧
                                                                                                                                  ∀ (j : Nat),
                                                                                                                                    j < x.n →
                                                                                                                                      x.k j = x.k j ∧
                                                                                                                                        x.q j = x.q j ∧ x.t j = x.t j ∧ True) ∧
                                                                                                                              True) ∧
                                                                                                                    ((v == (0 : Int)) = false →
                                                                                                                      (x.Ok ∧ x.len ≤ x.cap) ∧ a.Ok →
                                                                                                                        False ∧
                                                                                                                          True ∧
                                                                                                                            ((0 : Nat) ≤ (0 : Nat) ∧
                                                                                                                                x.n = x.n ∧
                                                                                                                                  ∀ (j : Nat),
                                                                                                                                    j < x.n →
                                                                                                                                      x.k j = x.k j ∧
                                                                                                                                        x.q j = x.q j ∧ x.t j = x.t j ∧ True) ∧
                                                                                                                              True)))))))))) := by
  simp only [true_and, and_true, eq_self, Nat.le_refl, decide_eq_true_eq, decide_eq_false_iff_not, beq_iff_eq, beq_eq_false_iff_ne, implies_true, true_implies, and_self, bne_iff_ne, Int.not_lt, Int.not_le, ge_iff_le, gt_iff_lt, ne_eq, Nat.zero_add, Int.toNat_natCast, cond_nbeq, nblt_true, nblt_false, IntKind.wrap_u64, IntKind.wrap_i64, bne_eq_false_iff_eq, Bool.not_eq_true', Bool.not_eq_false']
  rintro x ⟨a⟩ ⟨⟨hx, hcap⟩, ha, ha'⟩
  dsimp only at ha ha' ⊢
  refine ⟨hx.1, fun h8 h0 => ⟨hx.1, fun hlt => ?_⟩⟩
  obtain ⟨A, rfl⟩ := Int.eq_ofNat_of_zero_le h0
  have hA : A < x.len := by omega
  have h8' : x.len ≤ 8 := by omega
  have hlo := hx.2
  have hnn : x.nil = true → False := fun h => by have := hx.1 h; omega
  have e1 : ((A : Int) + 1 + 9223372036854775808) % 18446744073709551616 - 9223372036854775808 = ((A + 1 : Nat) : Int) := by omega
  simp only [e1, Int.toNat_natCast]
  have eL : ∀ (l : LL) (c : Nat), (LS.mk false 0 l.n c l.n l.k l.q l.t).l = l := fun l c => by
    unfold LS.l
    simp only [Nat.zero_add]
  have eL1 : ∀ c, ({ nil := false, lo := 0, len := x.len - 1, cap := c, n := (x.l.less A).n, k := (x.l.less A).k, q := (x.l.less A).q, t := (x.l.less A).t } : LS).l = x.l.less A := fun c => eL (x.l.less A) c
  have eL2 : ∀ c, ({ nil := false, lo := 0, len := x.len, cap := c, n := (x.l.turn A).n, k := (x.l.turn A).k, q := (x.l.turn A).q, t := (x.l.turn A).t } : LS).l = x.l.turn A := fun c => eL (x.l.turn A) c
  have ok : ∀ (l : LL) (c : Nat), LS.Ok (LS.mk false 0 l.n c l.n l.k l.q l.t) := fun l c => ⟨fun h => (nomatch h), by show 0 + l.n ≤ l.n; omega⟩
  have cutv : ∀ (f : Nat → Int) j, (j < A → f (x.lo + j) = cut (fun j => f (x.lo + j)) A j) ∧ (A ≤ j → j < A + (x.len - (A + 1)) → f ((if x.cap = A + 1 then x.lo else x.lo + (A + 1)) + (j - A)) = cut (fun j => f (x.lo + j)) A j) := fun f j => by
    unfold cut
    refine ⟨fun h => by rw [if_pos h], fun h h2 => ?_⟩
    rw [if_neg (by omega), if_neg (by omega)]
    exact congrArg f (show x.lo + (A + 1) + (j - A) = x.lo + (j + 1) by omega)
  have rotv : ∀ (f : Nat → Int) j, (j < x.len - A → f ((if x.cap = A then x.lo else x.lo + A) + j) = rot (fun j => f (x.lo + j)) x.len A j) ∧ (x.len - A ≤ j → f (x.lo + (j - (x.len - A))) = rot (fun j => f (x.lo + j)) x.len A j) := fun f j => by
    unfold rot
    refine ⟨fun h => ?_, fun h => by rw [if_neg (by omega)]⟩
    rw [if_pos h, if_neg (by omega)]
    exact congrArg f (show x.lo + A + j = x.lo + (A + j) by omega)
  simp only [eL1, eL2, Nat.sub_zero]
  refine ⟨⟨id, id⟩, hx, fun v hv hv0 hb => ?_⟩
  have hO := LL.ok_of_borne hb
  have b1 := (hO.less (show A < x.l.n from hA)).borne
  have b2 := (hO.turn (show A ≤ x.l.n from Nat.le_of_lt hA)).borne
  rw [b1, b2]
  refine ⟨⟨fun h => (hnn h).elim, by omega, fun h => (hnn h).elim, by omega, fun h => (hnn h).elim, by omega, by omega, fun c hc => ⟨fun h => (hnn h).elim, by split <;> omega, by omega, fun c2 hc2 => ⟨c2, ⟨hA, h8', hO⟩, ⟨⟨id, id⟩, trivial, by omega, rfl⟩, Nat.le_refl _, (by show x.len - 1 = _; omega), fun j hj => ⟨fun h => ⟨fun h => absurd h (Nat.not_lt_zero j), fun _ => ⟨(cutv x.k j).1 h, (cutv x.q j).1 h, (cutv x.t j).1 h⟩⟩, fun h => ⟨(cutv x.k j).2 h hj, (cutv x.q j).2 h hj, (cutv x.t j).2 h hj⟩⟩⟩⟩⟩, fun y _ => ⟨⟨by omega, ok (x.l.less A) y, fun v4 hv4 => ⟨0, ⟨hA, h8', hO⟩, ⟨id, id⟩, rfl, hv4⟩⟩, fun y _ => ⟨⟨fun h => (hnn h).elim, by omega, fun h => (hnn h).elim, by omega, fun h => (hnn h).elim, by split <;> omega, by omega, fun c hc => ⟨fun h => (hnn h).elim, by omega, by omega, fun c2 hc2 => ⟨c2, ⟨hA, h8', hO⟩, ⟨⟨id, id⟩, by omega, rfl⟩, Nat.le_refl _, (by show x.len = _; omega), fun j hj => ⟨fun h => ⟨fun h => absurd h (Nat.not_lt_zero j), fun _ => ⟨(rotv x.k j).1 h, (rotv x.q j).1 h, (rotv x.t j).1 h⟩⟩, fun h => ⟨(rotv x.k j).2 h, (rotv x.q j).2 h, (rotv x.t j).2 h⟩⟩⟩⟩⟩, fun y _ => ⟨⟨by omega, ok (x.l.turn A) y, fun v4 hv4 => ⟨0, ⟨hA, h8', hO⟩, ⟨id, id⟩, rfl, hv4⟩⟩, fun y _ => ⟨fun h => absurd trivial h, fun h => absurd trivial h, hx.1, by omega, by omega, fun hk => ⟨hx.1, by omega, by omega, fun hq => ?_⟩⟩⟩⟩⟩⟩
  refine ⟨⟨hx.1, hx.2, by omega, fun c hc => ⟨c, ⟨hA, h8', hO, hk, hq⟩, rfl, Nat.le_refl _, rfl, fun j hj => ⟨fun h => absurd h (Nat.not_lt_zero j), fun _ => ⟨rfl, rfl, rfl⟩⟩⟩⟩, fun y _ => ?_⟩
  have hqb : x.l.q A ≤ 8192 := by have := hO.r.2 A hA; unfold rightE at this; omega
  have hq' : 2 ≤ x.l.q A := hq
  have eK : ∀ j, (if j = A then x.l.k A else x.l.k j) = (x.l.small A).k j := fun j => by
    show _ = x.l.k j
    by_cases h : j = A
    · rw [if_pos h, h]
    · rw [if_neg h]
  have eT : ∀ j, (if j = A then x.l.t A else x.l.t j) = (x.l.small A).t j := fun j => by
    show _ = x.l.t j
    by_cases h : j = A
    · rw [if_pos h, h]
    · rw [if_neg h]
  have eQ : ∀ j, (if j = A then (x.l.q A - 1) % 18446744073709551616 else x.l.q j) = (x.l.small A).q j := fun j => by
    show _ = if j = A then x.l.q j - 1 else x.l.q j
    by_cases h : j = A
    · rw [if_pos h, if_pos h, h]; omega
    · rw [if_neg h, if_neg h]
  simp only [eK, eT, eQ]
  have b3 := (hO.small (show A < x.l.n from hA) hk hq).borne
  have eL3 : ∀ c, ({ nil := false, lo := 0, len := x.len, cap := c, n := x.l.n, k := fun j => (x.l.small A).k j, q := fun j => (x.l.small A).q j, t := fun j => (x.l.small A).t j } : LS).l = x.l.small A := fun c => eL (x.l.small A) c
  rw [eL3, b3]
  exact ⟨by omega, hA, by omega, hA, by omega, ok (x.l.small A) y, fun v4 hv4 => ⟨fun _ _ => rfl, fun h => absurd hv4 h⟩⟩

def less_C (x : (LS × JI)) : Cfg := { Γ := Go.Sx.look tLess, names := true, cuts := leK (x.1) (x.2).v, mode := leM }
theorem less_al (x : (LS × JI)) : Shown (lessP.vc Try.prog (less_C x) Try.f5 x) := ⟨@Eq.mp _ _ (by kernel_rfl) (less_vc (x.1) (x.2))⟩
theorem less_ok : SpOk Try.prog 5 lessP.sp := @Pat.okS _ lessP Try.prog less_C 5 Try.f5 (fun x => cfg_tab rfl tLess_ok) (by kernel_rfl) Try.func5 (fun _ => rfl) less_al
end Go.Proofs.Ytijpjhelgggmfaa
