import Derived.Test.YtokiakcmdbihhaaS27
open Go Go.Sx Go.Proofs
set_option maxRecDepth 100000
namespace Go.Proofs.Ytokiakcmdbihhaa

def bdP2 : Pat (A64 × A64 × A64 × CS) where
  view _ _ := none
  args x := [.int .i64 2, x.1.t, x.2.1.t, x.2.2.1.t, x.2.2.2.v 0]
  H x := [x.2.2.2.reg]
  out x := .need ((x.1.Ok ∧ x.2.1.Ok ∧ x.2.2.1.Ok ∧ x.2.2.2.Ok) ∧ rngI x.1.v x.2.1.v x.2.2.1.v) (.retq .tt)
def tBd2 : Tab := [(8, aliveP.sp), (9, n2P.sp), (10, grP.sp), (11, sdwP.sp), (12, sduP.sp), (13, sdcP.sp)]
theorem tBd2_ok : TabOk Try.prog tBd2 := (tab_cons alive_ok (tab_cons n2_ok (tab_cons gr_ok (tab_cons sdw_ok (tab_cons sdu_ok (tab_cons sdc_ok tab_nil))))))

theorem bd2_vc : ∀ (q t n : A64) (x : CS), ((q.Ok ∧ t.Ok ∧ n.Ok ∧ x.Ok) ∧ rngI q.v t.v n.v) ∧ True → (True ∧ True) ∧ (((2 : Int) = (2 : Int) ∧ q.v = q.v ∧ t.v = t.v ∧ n.v = n.v ∧ True) ∧ True) ∧ rngI q.v t.v n.v ∧ ∀ (v : Int), v = (0 :
  Int) → ((v != (0 : Int)) = true → (q.Ok ∧ t.Ok ∧ n.Ok ∧ x.Ok) ∧ rngI q.v t.v n.v → True ∧ True ∧ ((0 : Nat) ≤ (0 : Nat) ∧ x.n = x.n ∧ ∀ (j : Nat), j < x.n → x.w j = x.w j ∧ x.a j = x.a j ∧ x.c j = x.c j ∧ True) ∧ True) ∧
  ((v != (0 : Int)) = false → ((n.v = n.v ∧ ((x.nil = true → x.nil = true) ∧ (x.nil = false → x.nil = false ∧ True ∧ True ∧ x.lo = x.lo ∧ x.len = x.len ∧ x.cap = x.cap)) ∧ True) ∧ ((0 : Nat) ≤ (0 : Nat) ∧ x.n = x.n ∧ ∀ (j
  : Nat), j < x.n → x.w j = x.w j ∧ x.a j = x.a j ∧ x.c j = x.c j ∧ True) ∧ True) ∧ ((x.nil = true → x.len = (0 : Nat)) ∧ x.lo + x.len ≤ x.n) ∧ ((!decide (small n.v x)) = true → (q.Ok ∧ t.Ok ∧ n.Ok ∧ x.Ok) ∧ rngI q.v t.v
  n.v → True ∧ True ∧ ((0 : Nat) ≤ (0 : Nat) ∧ x.n = x.n ∧ ∀ (j : Nat), j < x.n → x.w j = x.w j ∧ x.a j = x.a j ∧ x.c j = x.c j ∧ True) ∧ True) ∧ ((!decide (small n.v x)) = false → (decide (q.v > (1073741824 : Int)) = true
  → (q.Ok ∧ t.Ok ∧ n.Ok ∧ x.Ok) ∧ rngI q.v t.v n.v → True ∧ True ∧ ((0 : Nat) ≤ (0 : Nat) ∧ x.n = x.n ∧ ∀ (j : Nat), j < x.n → x.w j = x.w j ∧ x.a j = x.a j ∧ x.c j = x.c j ∧ True) ∧ True) ∧ (decide (q.v > (1073741824 :
  Int)) = false → (decide (t.v > (1073741824 : Int)) = true → (q.Ok ∧ t.Ok ∧ n.Ok ∧ x.Ok) ∧ rngI q.v t.v n.v → True ∧ True ∧ ((0 : Nat) ≤ (0 : Nat) ∧ x.n = x.n ∧ ∀ (j : Nat), j < x.n → x.w j = x.w j ∧ x.a j = x.a j ∧ x.c j
  = x.c j ∧ True) ∧ True) ∧ (decide (t.v > (1073741824 : Int)) = false → ∀ (v : Int), v = (0 : Int) → (∃ (y : BI), (At n.v x y.i y.m ∧ (DS.mk q.v t.v n.v y.p y.g).Ok ∧ (y.T.len = y.K.len ∧ y.T.len ≤ y.T.cap ∧ y.K.len ≤
  y.K.cap ∧ y.T.len ≤ y.i) ∧ (q.v ≤ (1073741824 : Int) ∧ t.v ≤ (1073741824 : Int)) ∧ BD q.v t.v n.v y.p y.g y.m y.T.f y.K.f y.T.len) ∧ ((q.v = q.v ∧ t.v = t.v ∧ n.v = y.m ∧ ((x.nil = true → x.nil = true) ∧ (x.nil = false →
  x.nil = false ∧ True ∧ True ∧ x.lo = x.lo ∧ x.len = x.len ∧ x.cap = x.cap)) ∧ (True ∧ True) ∧ (True ∧ True ∧ (0 : Nat) = (0 : Nat) ∧ (0 : Nat) = y.T.len ∧ (0 : Nat) = y.T.cap) ∧ (True ∧ True ∧ (0 : Nat) = (0 : Nat) ∧ (0
  : Nat) = y.K.len ∧ (0 : Nat) = y.K.cap) ∧ v = (↑y.i : Int) ∧ True) ∧ ((0 : Nat) ≤ (0 : Nat) ∧ x.n = x.n ∧ ∀ (j : Nat), j < x.n → x.w j = x.w j ∧ x.a j = x.a j ∧ x.c j = x.c j ∧ True) ∧ ((5 : Nat) ≤ (5 : Nat) ∧ (q.v = q.v
  ∧ t.v = t.v ∧ n.v = n.v ∧ True) ∧ (2 : Int) = (2 : Int) ∧ (True ∧ True) ∧ True) ∧ ((5 : Nat) ≤ (5 : Nat) ∧ (q.v = q.v ∧ t.v = t.v ∧ n.v = n.v ∧ True) ∧ (0 : Int) = y.p ∧ (0 : Int) = y.g ∧ True) ∧ (y.T.cap * (1 : Nat) ≤
  (0 : Nat) ∧ y.T.len = (0 : Nat) ∧ ∀ (j : Nat), j < (0 : Nat) → (0 : Int) = y.T.f j) ∧ (y.K.cap * (1 : Nat) ≤ (0 : Nat) ∧ y.K.len = (0 : Nat) ∧ ∀ (j : Nat), j < (0 : Nat) → (0 : Int) = y.K.f j) ∧ True) ∧ True) ∧ ∀ (y :
  BI), At n.v x y.i y.m ∧ (DS.mk q.v t.v n.v y.p y.g).Ok ∧ (y.T.len = y.K.len ∧ y.T.len ≤ y.T.cap ∧ y.K.len ≤ y.K.cap ∧ y.T.len ≤ y.i) ∧ (q.v ≤ (1073741824 : Int) ∧ t.v ≤ (1073741824 : Int)) ∧ BD q.v t.v n.v y.p y.g y.m
  y.T.f y.K.f y.T.len → (x.nil = true → x.len = (0 : Nat)) ∧ (decide ((↑y.i : Int) < (↑x.len : Int)) = true → (x.nil = true → x.len = (0 : Nat)) ∧ ((0 : Int) ≤ (↑y.i : Int) ∧ (↑y.i : Int) < (↑x.len : Int)) ∧ x.lo + (↑y.i :
  Int).toNat < x.n ∧ ∀ (v : Int), v = IntKind.u64.wrap (y.m + x.a (x.lo + (↑y.i : Int).toNat)) → (x.nil = true → x.len = (0 : Nat)) ∧ ((0 : Int) ≤ (↑y.i : Int) ∧ (↑y.i : Int) < (↑x.len : Int)) ∧ x.lo + (↑y.i : Int).toNat <
  x.n ∧ ((x.w (x.lo + (↑y.i : Int).toNat) == (0 : Int)) = true → (((True ∧ True) ∧ v = v ∧ True) ∧ ((5 : Nat) ≤ (5 : Nat) ∧ (q.v = q.v ∧ t.v = t.v ∧ n.v = n.v ∧ True) ∧ (2 : Int) = (2 : Int) ∧ (True ∧ True) ∧ True) ∧ ((5 :
  Nat) ≤ (5 : Nat) ∧ (q.v = q.v ∧ t.v = t.v ∧ n.v = n.v ∧ True) ∧ y.p = y.p ∧ y.g = y.g ∧ True) ∧ True) ∧ ∀ (v_1 : Int), v_1 = IntKind.i64.wrap ((↑y.i : Int) + (1 : Int)) → ∃ (y_1 : BI), (At n.v x y_1.i y_1.m ∧ (DS.mk q.v
  t.v n.v y_1.p y_1.g).Ok ∧ (y_1.T.len = y_1.K.len ∧ y_1.T.len ≤ y_1.T.cap ∧ y_1.K.len ≤ y_1.K.cap ∧ y_1.T.len ≤ y_1.i) ∧ (q.v ≤ (1073741824 : Int) ∧ t.v ≤ (1073741824 : Int)) ∧ BD q.v t.v n.v y_1.p y_1.g y_1.m y_1.T.f
  y_1.K.f y_1.T.len) ∧ ((q.v = q.v ∧ t.v = t.v ∧ v = y_1.m ∧ ((x.nil = true → x.nil = true) ∧ (x.nil = false → x.nil = false ∧ True ∧ True ∧ x.lo = x.lo ∧ x.len = x.len ∧ x.cap = x.cap)) ∧ (True ∧ True) ∧ (True ∧ True ∧ (0
  : Nat) = (0 : Nat) ∧ y.T.len = y_1.T.len ∧ y.T.cap = y_1.T.cap) ∧ (True ∧ True ∧ (0 : Nat) = (0 : Nat) ∧ y.K.len = y_1.K.len ∧ y.K.cap = y_1.K.cap) ∧ v_1 = (↑y_1.i : Int) ∧ True) ∧ ((0 : Nat) ≤ (0 : Nat) ∧ x.n = x.n ∧ ∀
  (j : Nat), j < x.n → x.w j = x.w j ∧ x.a j = x.a j ∧ x.c j = x.c j ∧ True) ∧ ((5 : Nat) ≤ (5 : Nat) ∧ (q.v = q.v ∧ t.v = t.v ∧ n.v = n.v ∧ True) ∧ (2 : Int) = (2 : Int) ∧ (True ∧ True) ∧ True) ∧ ((5 : Nat) ≤ (5 : Nat) ∧
  (q.v = q.v ∧ t.v = t.v ∧ n.v = n.v ∧ True) ∧ y.p = y_1.p ∧ y.g = y_1.g ∧ True) ∧ (y_1.T.cap * (1 : Nat) ≤ y.T.cap * (1 : Nat) ∧ y_1.T.len = y.T.len ∧ ∀ (j : Nat), j < y.T.len → y.T.f j = y_1.T.f j) ∧ (y_1.K.cap * (1 :
  Nat) ≤ y.K.cap * (1 : Nat) ∧ y_1.K.len = y.K.len ∧ ∀ (j : Nat), j < y.K.len → y.K.f j = y_1.K.f j) ∧ True) ∧ (bdF2 q.v t.v n.v x).μ y_1 < (bdF2 q.v t.v n.v x).μ y) ∧ ((x.w (x.lo + (↑y.i : Int).toNat) == (0 : Int)) =
  false → (x.nil = true → x.len = (0 : Nat)) ∧ ((0 : Int) ≤ (↑y.i : Int) ∧ (↑y.i : Int) < (↑x.len : Int)) ∧ x.lo + (↑y.i : Int).toNat < x.n ∧ (((True ∧ True) ∧ v = v ∧ True) ∧ ((5 : Nat) ≤ (5 : Nat) ∧ (q.v = q.v ∧ t.v =
  t.v ∧ n.v = n.v ∧ True) ∧ (2 : Int) = (2 : Int) ∧ (True ∧ True) ∧ True) ∧ ((5 : Nat) ≤ (5 : Nat) ∧ (q.v = q.v ∧ t.v = t.v ∧ n.v = n.v ∧ True) ∧ y.p = y.p ∧ y.g = y.g ∧ True) ∧ True) ∧ (DS.mk q.v t.v n.v y.p y.g).Ok ∧ ∀
  (v_1 : Int), (v_1 = if (DS.mk q.v t.v n.v y.p y.g).us (atI n.v v) < x.c (x.lo + (↑y.i : Int).toNat) then (DS.mk q.v t.v n.v y.p y.g).us (atI n.v v) else x.c (x.lo + (↑y.i : Int).toNat)) → (((True ∧ True) ∧ v = v ∧ v_1 =
  v_1 ∧ True) ∧ ((5 : Nat) ≤ (5 : Nat) ∧ (q.v = q.v ∧ t.v = t.v ∧ n.v = n.v ∧ True) ∧ (2 : Int) = (2 : Int) ∧ (True ∧ True) ∧ True) ∧ ((5 : Nat) ≤ (5 : Nat) ∧ (q.v = q.v ∧ t.v = t.v ∧ n.v = n.v ∧ True) ∧ y.p = y.p ∧ y.g =
  y.g ∧ True) ∧ True) ∧ ((DS.mk q.v t.v n.v y.p y.g).Ok ∧ (0 : Int) ≤ v_1) ∧ (((DS.mk q.v t.v n.v y.p y.g).chg (atI n.v v) v_1 != v_1) = true → (q.Ok ∧ t.Ok ∧ n.Ok ∧ x.Ok) ∧ rngI q.v t.v n.v → False ∧ True ∧ ((0 : Nat) ≤
  (0 : Nat) ∧ x.n = x.n ∧ ∀ (j : Nat), j < x.n → x.w j = x.w j ∧ x.a j = x.a j ∧ x.c j = x.c j ∧ True) ∧ True) ∧ (((DS.mk q.v t.v n.v y.p y.g).chg (atI n.v v) v_1 != v_1) = false → (1 : Nat) ≤ (1 : Nat) ∧ ((0 : Nat) = (0 :
  Nat) ∧ y.T.len ≤ y.T.len ∧ y.T.len ≤ y.T.cap ∧ y.T.cap * (1 : Nat) ≤ y.T.cap * (1 : Nat) ∧ (y.T.len + (1 : Nat)) * (8 : Nat) ≤ (140737488355328 : Nat) ∧ y.T.len + (1 : Nat) ≤ (9223372036854775807 : Nat) ∧ (∀ (_ : Nat),
  (1 : Nat) = (1 : Nat)) ∧ ∀ (_ : Nat), (1 : Nat) = (1 : Nat)) ∧ ∀ (cap' : Nat), y.T.len + (1 : Nat) ≤ cap' → (1 : Nat) ≤ (1 : Nat) ∧ ((0 : Nat) = (0 : Nat) ∧ y.K.len ≤ y.K.len ∧ y.K.len ≤ y.K.cap ∧ y.K.cap * (1 : Nat) ≤
  y.K.cap * (1 : Nat) ∧ (y.K.len + (1 : Nat)) * (8 : Nat) ≤ (140737488355328 : Nat) ∧ y.K.len + (1 : Nat) ≤ (9223372036854775807 : Nat) ∧ (∀ (_ : Nat), (1 : Nat) = (1 : Nat)) ∧ ∀ (_ : Nat), (1 : Nat) = (1 : Nat)) ∧ ∀
  (cap'_1 : Nat), y.K.len + (1 : Nat) ≤ cap'_1 → ∀ (v_2 : Int), v_2 = IntKind.i64.wrap ((↑y.i : Int) + (1 : Int)) → ∃ (y_1 : BI), (At n.v x y_1.i y_1.m ∧ (DS.mk q.v t.v n.v y_1.p y_1.g).Ok ∧ (y_1.T.len = y_1.K.len ∧
  y_1.T.len ≤ y_1.T.cap ∧ y_1.K.len ≤ y_1.K.cap ∧ y_1.T.len ≤ y_1.i) ∧ (q.v ≤ (1073741824 : Int) ∧ t.v ≤ (1073741824 : Int)) ∧ BD q.v t.v n.v y_1.p y_1.g y_1.m y_1.T.f y_1.K.f y_1.T.len) ∧ ((q.v = q.v ∧ t.v = t.v ∧ v =
  y_1.m ∧ ((x.nil = true → x.nil = true) ∧ (x.nil = false → x.nil = false ∧ True ∧ True ∧ x.lo = x.lo ∧ x.len = x.len ∧ x.cap = x.cap)) ∧ (True ∧ True) ∧ (True ∧ True ∧ (0 : Nat) = (0 : Nat) ∧ y.T.len + (1 : Nat) =
  y_1.T.len ∧ cap' = y_1.T.cap) ∧ (True ∧ True ∧ (0 : Nat) = (0 : Nat) ∧ y.K.len + (1 : Nat) = y_1.K.len ∧ cap'_1 = y_1.K.cap) ∧ v_2 = (↑y_1.i : Int) ∧ True) ∧ ((0 : Nat) ≤ (0 : Nat) ∧ x.n = x.n ∧ ∀ (j : Nat), j < x.n →
  x.w j = x.w j ∧ x.a j = x.a j ∧ x.c j = x.c j ∧ True) ∧ ((5 : Nat) ≤ (5 : Nat) ∧ (((DS.mk q.v t.v n.v y.p y.g).aft (atI n.v v) v_1).q = q.v ∧ ((DS.mk q.v t.v n.v y.p y.g).aft (atI n.v v) v_1).t = t.v ∧ ((DS.mk q.v t.v
  n.v y.p y.g).aft (atI n.v v) v_1).b = n.v ∧ True) ∧ (2 : Int) = (2 : Int) ∧ (True ∧ True) ∧ True) ∧ ((5 : Nat) ≤ (5 : Nat) ∧ (((DS.mk q.v t.v n.v y.p y.g).aft (atI n.v v) v_1).q = q.v ∧ ((DS.mk q.v t.v n.v y.p y.g).aft
  (atI n.v v) v_1).t = t.v ∧ ((DS.mk q.v t.v n.v y.p y.g).aft (atI n.v v) v_1).b = n.v ∧ True) ∧ ((DS.mk q.v t.v n.v y.p y.g).aft (atI n.v v) v_1).p = y_1.p ∧ ((DS.mk q.v t.v n.v y.p y.g).aft (atI n.v v) v_1).g = y_1.g ∧
  True) ∧ (y_1.T.cap * (1 : Nat) ≤ cap' * (1 : Nat) ∧ y_1.T.len = y.T.len + (1 : Nat) ∧ ∀ (j : Nat), j < y.T.len + (1 : Nat) → (j.blt y.T.len = true → y.T.f j = y_1.T.f j) ∧ (j.blt y.T.len = false → v = y_1.T.f j)) ∧
  (y_1.K.cap * (1 : Nat) ≤ cap'_1 * (1 : Nat) ∧ y_1.K.len = y.K.len + (1 : Nat) ∧ ∀ (j : Nat), j < y.K.len + (1 : Nat) → (j.blt y.K.len = true → y.K.f j = y_1.K.f j) ∧ (j.blt y.K.len = false → v_1 = y_1.K.f j)) ∧ True) ∧
  (bdF2 q.v t.v n.v x).μ y_1 < (bdF2 q.v t.v n.v x).μ y))) ∧ (decide ((↑y.i : Int) < (↑x.len : Int)) = false → ∀ (v : Int), v = (0 : Int) → (∃ (y_1 : BO), ((y_1.T.len = y_1.K.len ∧ y_1.a ≤ y_1.T.len) ∧ BP q.v t.v y_1.T.f
  y_1.K.f y_1.T.len) ∧ ((q.v = q.v ∧ t.v = t.v ∧ (True ∧ True ∧ (0 : Nat) = (0 : Nat) ∧ y.T.len = y_1.T.len ∧ y.T.cap = y_1.T.cap) ∧ (True ∧ True ∧ (0 : Nat) = (0 : Nat) ∧ y.K.len = y_1.K.len ∧ y.K.cap = y_1.K.cap) ∧ v =
  (↑y_1.a : Int) ∧ True) ∧ ((0 : Nat) ≤ (0 : Nat) ∧ x.n = x.n ∧ ∀ (j : Nat), j < x.n → x.w j = x.w j ∧ x.a j = x.a j ∧ x.c j = x.c j ∧ True) ∧ (y_1.T.cap * (1 : Nat) ≤ y.T.cap * (1 : Nat) ∧ y_1.T.len = y.T.len ∧ ∀ (j :
  Nat), j < y.T.len → y.T.f j = y_1.T.f j) ∧ (y_1.K.cap * (1 : Nat) ≤ y.K.cap * (1 : Nat) ∧ y_1.K.len = y.K.len ∧ ∀ (j : Nat), j < y.K.len → y.K.f j = y_1.K.f j) ∧ True) ∧ True) ∧ ∀ (y : BO), (y.T.len = y.K.len ∧ y.a ≤
  y.T.len) ∧ BP q.v t.v y.T.f y.K.f y.T.len → (decide ((↑y.a : Int) < (↑y.T.len : Int)) = true → ∀ (v : Int), v = (0 : Int) → ∀ (v_1 : Int), v_1 = (↑y.a : Int) → ∃ (g : Nat × Nat), (∃ (y_1 : BO), (y_1.a = g.fst ∧ y_1.T.len
  = g.snd ∧ y_1.a < y_1.T.len ∧ (y_1.T.len = y_1.K.len ∧ y_1.a ≤ y_1.k ∧ y_1.k ≤ y_1.T.len) ∧ BP q.v t.v y_1.T.f y_1.K.f y_1.T.len) ∧ ((q.v = q.v ∧ t.v = t.v ∧ (True ∧ True ∧ (0 : Nat) = (0 : Nat) ∧ y.T.len = y_1.T.len ∧
  y.T.cap = y_1.T.cap) ∧ (True ∧ True ∧ (0 : Nat) = (0 : Nat) ∧ y.K.len = y_1.K.len ∧ y.K.cap = y_1.K.cap) ∧ (↑y.a : Int) = (↑y_1.a : Int) ∧ v = psm y_1.K.f y_1.k - psm y_1.K.f y_1.a ∧ v_1 = (↑y_1.k : Int) ∧ True) ∧ ((0 :
  Nat) ≤ (0 : Nat) ∧ x.n = x.n ∧ ∀ (j : Nat), j < x.n → x.w j = x.w j ∧ x.a j = x.a j ∧ x.c j = x.c j ∧ True) ∧ (y_1.T.cap * (1 : Nat) ≤ y.T.cap * (1 : Nat) ∧ y_1.T.len = y.T.len ∧ ∀ (j : Nat), j < y.T.len → y.T.f j =
  y_1.T.f j) ∧ (y_1.K.cap * (1 : Nat) ≤ y.K.cap * (1 : Nat) ∧ y_1.K.len = y.K.len ∧ ∀ (j : Nat), j < y.K.len → y.K.f j = y_1.K.f j) ∧ True) ∧ True) ∧ ∀ (y_1 : BO), y_1.a = g.fst ∧ y_1.T.len = g.snd ∧ y_1.a < y_1.T.len ∧
  (y_1.T.len = y_1.K.len ∧ y_1.a ≤ y_1.k ∧ y_1.k ≤ y_1.T.len) ∧ BP q.v t.v y_1.T.f y_1.K.f y_1.T.len → (decide ((↑y_1.k : Int) < (↑y_1.T.len : Int)) = true → ((0 : Int) ≤ (↑y_1.k : Int) ∧ (↑y_1.k : Int) < (↑y_1.K.len :
  Int)) ∧ (0 : Nat) + (↑y_1.k : Int).toNat < y_1.K.len ∧ ∀ (v : Int), v = IntKind.u64.wrap (psm y_1.K.f y_1.k - psm y_1.K.f y_1.a + y_1.K.f ((0 : Nat) + (↑y_1.k : Int).toNat)) → ((0 : Int) ≤ (↑y_1.k : Int) ∧ (↑y_1.k : Int)
  < (↑y_1.T.len : Int)) ∧ (0 : Nat) + (↑y_1.k : Int).toNat < y_1.T.len ∧ ((0 : Int) ≤ (↑y_1.a : Int) ∧ (↑y_1.a : Int) < (↑y_1.T.len : Int)) ∧ (0 : Nat) + (↑y_1.a : Int).toNat < y_1.T.len ∧ t.v ≠ (0 : Int) ∧ (decide (v >
  IntKind.u64.wrap (IntKind.u64.wrap (IntKind.u64.wrap ((IntKind.u64.wrap (y_1.T.f ((0 : Nat) + (↑y_1.k : Int).toNat) - y_1.T.f ((0 : Nat) + (↑y_1.a : Int).toNat))).tdiv t.v) + (2 : Int)) * q.v)) = true → (q.Ok ∧ t.Ok ∧
  n.Ok ∧ x.Ok) ∧ rngI q.v t.v n.v → False ∧ True ∧ ((0 : Nat) ≤ (0 : Nat) ∧ x.n = x.n ∧ ∀ (j : Nat), j < x.n → x.w j = x.w j ∧ x.a j = x.a j ∧ x.c j = x.c j ∧ True) ∧ True) ∧ (decide (v > IntKind.u64.wrap (IntKind.u64.wrap
  (IntKind.u64.wrap ((IntKind.u64.wrap (y_1.T.f ((0 : Nat) + (↑y_1.k : Int).toNat) - y_1.T.f ((0 : Nat) + (↑y_1.a : Int).toNat))).tdiv t.v) + (2 : Int)) * q.v)) = false → ∀ (v_2 : Int), v_2 = IntKind.i64.wrap ((↑y_1.k :
  Int) + (1 : Int)) → ∃ (y : BO), (y.a = g.fst ∧ y.T.len = g.snd ∧ y.a < y.T.len ∧ (y.T.len = y.K.len ∧ y.a ≤ y.k ∧ y.k ≤ y.T.len) ∧ BP q.v t.v y.T.f y.K.f y.T.len) ∧ ((q.v = q.v ∧ t.v = t.v ∧ (True ∧ True ∧ (0 : Nat) = (0
  : Nat) ∧ y_1.T.len = y.T.len ∧ y_1.T.cap = y.T.cap) ∧ (True ∧ True ∧ (0 : Nat) = (0 : Nat) ∧ y_1.K.len = y.K.len ∧ y_1.K.cap = y.K.cap) ∧ (↑y_1.a : Int) = (↑y.a : Int) ∧ v = psm y.K.f y.k - psm y.K.f y.a ∧ v_2 = (↑y.k :
  Int) ∧ True) ∧ ((0 : Nat) ≤ (0 : Nat) ∧ x.n = x.n ∧ ∀ (j : Nat), j < x.n → x.w j = x.w j ∧ x.a j = x.a j ∧ x.c j = x.c j ∧ True) ∧ (y.T.cap * (1 : Nat) ≤ y_1.T.cap * (1 : Nat) ∧ y.T.len = y_1.T.len ∧ ∀ (j : Nat), j <
  y_1.T.len → y_1.T.f j = y.T.f j) ∧ (y.K.cap * (1 : Nat) ≤ y_1.K.cap * (1 : Nat) ∧ y.K.len = y_1.K.len ∧ ∀ (j : Nat), j < y_1.K.len → y_1.K.f j = y.K.f j) ∧ True) ∧ (biF q.v t.v x g).μ y < (biF q.v t.v x g).μ y_1)) ∧
  (decide ((↑y_1.k : Int) < (↑y_1.T.len : Int)) = false → ∀ (v : Int), v = IntKind.i64.wrap ((↑y_1.a : Int) + (1 : Int)) → ∃ (y_2 : BO), ((y_2.T.len = y_2.K.len ∧ y_2.a ≤ y_2.T.len) ∧ BP q.v t.v y_2.T.f y_2.K.f y_2.T.len)
  ∧ ((q.v = q.v ∧ t.v = t.v ∧ (True ∧ True ∧ (0 : Nat) = (0 : Nat) ∧ y_1.T.len = y_2.T.len ∧ y_1.T.cap = y_2.T.cap) ∧ (True ∧ True ∧ (0 : Nat) = (0 : Nat) ∧ y_1.K.len = y_2.K.len ∧ y_1.K.cap = y_2.K.cap) ∧ v = (↑y_2.a :
  Int) ∧ True) ∧ ((0 : Nat) ≤ (0 : Nat) ∧ x.n = x.n ∧ ∀ (j : Nat), j < x.n → x.w j = x.w j ∧ x.a j = x.a j ∧ x.c j = x.c j ∧ True) ∧ (y_2.T.cap * (1 : Nat) ≤ y_1.T.cap * (1 : Nat) ∧ y_2.T.len = y_1.T.len ∧ ∀ (j : Nat), j <
  y_1.T.len → y_1.T.f j = y_2.T.f j) ∧ (y_2.K.cap * (1 : Nat) ≤ y_1.K.cap * (1 : Nat) ∧ y_2.K.len = y_1.K.len ∧ ∀ (j : Nat), j < y_1.K.len → y_1.K.f j = y_2.K.f j) ∧ True) ∧ (boF q.v t.v x).μ y_2 < (boF q.v t.v x).μ y)) ∧
  (decide ((↑y.a : Int) < (↑y.T.len : Int)) = false → (q.Ok ∧ t.Ok ∧ n.Ok ∧ x.Ok) ∧ rngI q.v t.v n.v → True ∧ True ∧ ((0 : Nat) ≤ (0 : Nat) ∧ x.n = x.n ∧ ∀ (j : Nat), j < x.n → x.w j = x.w j ∧ x.a j = x.a j ∧ x.c j = x.c j
  ∧ True) ∧ True)))))) := by
  simp only [true_and, and_true, eq_self, Nat.le_refl, decide_eq_true_eq, decide_eq_false_iff_not, beq_iff_eq, beq_eq_false_iff_ne, implies_true, and_self, bne_iff_ne, Int.not_lt, gt_iff_lt, ne_eq, Nat.zero_add, Int.toNat_natCast, nblt_true, nblt_false, IntKind.wrap_u64, IntKind.wrap_i64, bne_eq_false_iff_eq, Bool.not_eq_true', Bool.not_eq_false']
  rintro q t n x ⟨⟨hq, ht, hn, hx⟩, hr⟩
  have hr0 := hr
  obtain ⟨a1, a2, a3, a4⟩ := hr0
  have hx1 := hx.1
  have hx2 := hx.2.1
  have hn1 := hn.1
  have hM : ∀ z : BI, (bdF2 q.v t.v n.v x).μ z = x.len - z.i := fun _ => rfl
  have hM1 : ∀ z : BO, (boF q.v t.v x).μ z = z.T.len - z.a := fun _ => rfl
  have hM2 : ∀ (u : Nat × Nat) (z : BO), (biF q.v t.v x u).μ z = z.T.len - z.k := fun _ _ => rfl
  simp only [hM, hM1, hM2]
  refine ⟨hr, fun v hv _ => ⟨⟨id, id⟩, ⟨hx1, hx2⟩, fun hsm hq30 ht30 v hv => ⟨⟨⟨0, n.v, ⟨0, 0, 0, 0, fun _ => 0, fun _ => 0⟩, 0, 0, ⟨0, 0, fun _ => 0⟩, ⟨0, 0, fun _ => 0⟩⟩, ⟨At.start hn.1 hsm, DS.ok_new a1 a2 a3 hn.1 a4, ⟨rfl, Nat.le_refl _, Nat.le_refl _, Nat.le_refl _⟩, ⟨hq30, ht30⟩, ⟨BP.nil _ _ _ _, fun i hi => absurd hi (Nat.not_lt_zero i), ?_, fun i hi => absurd hi (Nat.not_lt_zero i), fun i hi => absurd hi (Nat.not_lt_zero i)⟩⟩, ?_⟩, fun y hy => ?_⟩⟩⟩
  · dsimp only
    rw [Int.sub_self, Int.zero_ediv]
    exact Int.le_refl _
  · exact ⟨⟨rfl, ⟨id, id⟩, ⟨rfl, rfl⟩, ⟨rfl, rfl⟩, hv⟩, ⟨rfl, rfl⟩, ⟨Nat.le_refl _, rfl, fun j _ => rfl⟩, Nat.le_refl _, rfl, fun j _ => rfl⟩
  obtain ⟨hA, hd, ⟨hTK, hT, hK, hTi⟩, ⟨hq30, ht30⟩, hbp⟩ := hy
  have hxl := hA.xl
  refine ⟨hx1, fun hlt => ⟨hx1, by omega, by omega, fun v hv => ?_⟩, fun hge v hv => ?_⟩
  · obtain ⟨s1, s2, s3, s4⟩ := hA.step hx (by omega)
    rw [s2] at hv
    have hc := (hx.2.2 y.i (by omega)).2.1
    have m0 := hA.m0
    have hmx := s1.m1
    have hat : atI n.v v = v := atI_id (by omega) (by omega)
    rw [hat]
    have hgb := DS.gon_bd hd v
    have us0 : 0 ≤ (⟨q.v, t.v, n.v, y.p, y.g⟩ : DS).us v := by
      show 0 ≤ q.v - (⟨q.v, t.v, n.v, y.p, y.g⟩ : DS).gon v
      have : (⟨q.v, t.v, n.v, y.p, y.g⟩ : DS).gon v ≤ q.v := hgb.2
      omega
    refine ⟨hx1, by omega, by omega, fun hw v2 hv2 => ⟨⟨y.i + 1, v, y.y, y.p, y.g, y.T, y.K⟩, ⟨by dsimp only; rw [hv]; exact s1, hd, ⟨hTK, hT, hK, by dsimp only; omega⟩, ⟨hq30, ht30⟩, hbp.stay (by omega) (show y.m ≤ v by omega)⟩, ⟨⟨rfl, ⟨id, id⟩, ⟨rfl, rfl⟩, ⟨rfl, rfl⟩, by dsimp only; omega⟩, ⟨rfl, rfl⟩, ⟨Nat.le_refl _, rfl, fun j _ => rfl⟩, Nat.le_refl _, rfl, fun j _ => rfl⟩, by dsimp only; omega⟩, fun hw => ⟨hx1, by omega, by omega, hd, fun c0 hc0 => ?_⟩⟩
    have c1 : 0 ≤ c0 ∧ c0 ≤ (⟨q.v, t.v, n.v, y.p, y.g⟩ : DS).us v := by split at hc0 <;> omega
    obtain ⟨k1, k2⟩ := hbp.add hd hn1 (show n.v ≤ v by omega) (show y.m ≤ v by omega) (by omega) c1.1 c1.2 (by omega)
    refine ⟨⟨hd, c1.1⟩, fun h _ => h k1, fun _ => ⟨⟨hT, by omega, by omega⟩, fun p1 hp1 => ⟨⟨hK, by omega, by omega⟩, fun p2 hp2 v2 hv2 => ?_⟩⟩⟩
    have k3 : BD q.v t.v n.v ((v - n.v) / t.v) ((⟨q.v, t.v, n.v, y.p, y.g⟩ : DS).gon v + (⟨q.v, t.v, n.v, y.p, y.g⟩ : DS).chg v c0) v (snoc y.T.f y.T.len v) (snoc y.K.f y.T.len c0) (y.T.len + 1) := by rw [k1]; exact k2
    exact ⟨⟨y.i + 1, v, y.y, (v - n.v) / t.v, (⟨q.v, t.v, n.v, y.p, y.g⟩ : DS).gon v + (⟨q.v, t.v, n.v, y.p, y.g⟩ : DS).chg v c0, ⟨y.T.len + 1, p1, snoc y.T.f y.T.len v⟩, ⟨y.K.len + 1, p2, snoc y.K.f y.T.len c0⟩⟩, ⟨by dsimp only; rw [hv]; exact s1, hd.aft c1.1 (n := v), ⟨by dsimp only; omega, hp1, hp2, by dsimp only; omega⟩, ⟨hq30, ht30⟩, k3⟩, ⟨⟨rfl, ⟨id, id⟩, ⟨rfl, rfl⟩, ⟨rfl, rfl⟩, by dsimp only; omega⟩, ⟨rfl, rfl, rfl⟩, ⟨⟨rfl, rfl, rfl⟩, rfl, rfl⟩, ⟨Nat.le_refl _, rfl, fun j hj => ⟨fun h => (if_pos h).symm, fun h => (if_neg (by omega)).symm⟩⟩, Nat.le_refl _, rfl, fun j hj => ⟨fun h => (if_pos (by omega)).symm, fun h => (if_neg (by omega)).symm⟩⟩, by dsimp only; omega⟩
  · have bp0 := hbp.bp
    refine ⟨⟨⟨0, y.T, y.K, 0⟩, ⟨⟨hTK, Nat.zero_le _⟩, bp0⟩, ⟨⟨rfl, rfl⟩, ⟨rfl, rfl⟩, hv⟩, ⟨Nat.le_refl _, rfl, fun j _ => rfl⟩, Nat.le_refl _, rfl, fun j _ => rfl⟩, fun w hw hlt v2 hv2 v3 hv3 => ⟨(w.a, w.T.len), ⟨⟨w.a, w.T, w.K, w.a⟩, ⟨rfl, rfl, by dsimp only; omega, ⟨hw.1.1, Nat.le_refl _, hw.1.2⟩, hw.2⟩, ⟨⟨rfl, rfl⟩, ⟨rfl, rfl⟩, rfl, by dsimp only; omega, hv3⟩, ⟨Nat.le_refl _, rfl, fun j _ => rfl⟩, Nat.le_refl _, rfl, fun j _ => rfl⟩, fun z hz => ?_⟩⟩
    obtain ⟨z1, z2, z3, ⟨z4, z5, z6⟩, z7⟩ := hz
    dsimp only at z1 z2
    have z8 := z7.ln
    refine ⟨fun hk => ?_, fun hk v4 hv4 => ⟨⟨z.a + 1, z.T, z.K, 0⟩, ⟨⟨z4, by dsimp only; omega⟩, z7⟩, ⟨⟨⟨rfl, rfl⟩, ⟨rfl, rfl⟩, by dsimp only; omega⟩, ⟨Nat.le_refl _, rfl, fun j _ => rfl⟩, Nat.le_refl _, rfl, fun j _ => rfl⟩, by dsimp only; omega⟩⟩
    obtain ⟨r1, r2, r3, r4, r5, r6, r7, r8⟩ := z7.room a1 a2 (by omega) z5 (show z.k < z.T.len by omega)
    have rs : psm z.K.f (z.k + 1) = psm z.K.f z.k + z.K.f z.k := rfl
    refine ⟨by omega, by omega, fun v4 hv4 => ?_⟩
    have hv4 : v4 = psm z.K.f (z.k + 1) - psm z.K.f z.a := by omega
    subst hv4
    refine ⟨by omega, by omega, by omega, by omega, by omega, ?_⟩
    have t0 := z7.tr z.k (by omega)
    have t1 := z7.tr z.a (by omega)
    have g1 : (z.T.f z.k - z.T.f z.a) % 18446744073709551616 = z.T.f z.k - z.T.f z.a := by omega
    have g2 : (z.T.f z.k - z.T.f z.a).tdiv t.v = (z.T.f z.k - z.T.f z.a) / t.v := Int.tdiv_eq_ediv_of_nonneg (by omega)
    have g3 : (z.T.f z.k - z.T.f z.a) / t.v % 18446744073709551616 = (z.T.f z.k - z.T.f z.a) / t.v := by omega
    have g4 : ((z.T.f z.k - z.T.f z.a) / t.v + 2) % 18446744073709551616 = (z.T.f z.k - z.T.f z.a) / t.v + 2 := by omega
    simp only [g1, g2, g3, g4]
    generalize ((z.T.f z.k - z.T.f z.a) / t.v + 2) * q.v = B at r2 r3 r4 ⊢
    have g5 : B % 18446744073709551616 = B := by omega
    rw [g5]
    refine ⟨fun h _ => by omega, fun _ v5 hv5 => ⟨⟨z.a, z.T, z.K, z.k + 1⟩, ⟨z1, z2, z3, ⟨z4, by dsimp only; omega, by dsimp only; omega⟩, z7⟩, ⟨⟨⟨rfl, rfl⟩, ⟨rfl, rfl⟩, rfl, rfl, by dsimp only; omega⟩, ⟨Nat.le_refl _, rfl, fun j _ => rfl⟩, Nat.le_refl _, rfl, fun j _ => rfl⟩, by dsimp only; omega⟩⟩

def bd2_C (x : (A64 × A64 × A64 × CS)) : Cfg := { Γ := Go.Sx.look tBd2, names := true, loops := bdLp (x.1).v (x.2.1).v (x.2.2.1).v (x.2.2.2) }
theorem bd2_al (x : (A64 × A64 × A64 × CS)) : Shown (bdP2.vc Try.prog (bd2_C x) Try.f3 x) := ⟨@Eq.mp _ _ (by kernel_rfl) (bd2_vc (x.1) (x.2.1) (x.2.2.1) (x.2.2.2))⟩
theorem bd2_ok : SpOk Try.prog 3 bdP2.sp := @Pat.okS _ bdP2 Try.prog bd2_C 3 Try.f3 (fun x => cfg_tab rfl tBd2_ok) (by kernel_rfl) Try.func3 (fun _ => rfl) bd2_al
def boP : Pat (AI × A64 × A64 × A64 × CS) where
  view _ _ := none
  args x := [x.1.t, x.2.1.t, x.2.2.1.t, x.2.2.2.1.t, x.2.2.2.2.v 0]
  H x := [x.2.2.2.2.reg]
  out x := .need ((x.1.Ok ∧ x.2.1.Ok ∧ x.2.2.1.Ok ∧ x.2.2.2.1.Ok ∧ x.2.2.2.2.Ok) ∧ badK x.1.v x.2.1.v x.2.2.1.v x.2.2.2.1.v) (.retq .tt)
theorem bo_vc : ∀ (k : AI) (q t n : A64) (x : CS), ((k.Ok ∧ q.Ok ∧ t.Ok ∧ n.Ok ∧ x.Ok) ∧ badK k.v q.v t.v n.v) ∧ True → (True ∧ True) ∧ ((k.v = k.v ∧ q.v = q.v ∧ t.v = t.v ∧ n.v = n.v ∧ True) ∧ True) ∧ badK k.v q.v t.v n.v ∧ ∀ (v :
  Int), (v = if k.v = (1 : Int) ∨ k.v = (2 : Int) then (11 : Int) else (10 : Int)) → ((v != (0 : Int)) = true → (k.Ok ∧ q.Ok ∧ t.Ok ∧ n.Ok ∧ x.Ok) ∧ badK k.v q.v t.v n.v → True ∧ True ∧ ((0 : Nat) ≤ (0 : Nat) ∧ x.n = x.n ∧
  ∀ (j : Nat), j < x.n → x.w j = x.w j ∧ x.a j = x.a j ∧ x.c j = x.c j ∧ True) ∧ True) ∧ ((v != (0 : Int)) = false → (k.Ok ∧ q.Ok ∧ t.Ok ∧ n.Ok ∧ x.Ok) ∧ badK k.v q.v t.v n.v → True ∧ True ∧ ((0 : Nat) ≤ (0 : Nat) ∧ x.n =
  x.n ∧ ∀ (j : Nat), j < x.n → x.w j = x.w j ∧ x.a j = x.a j ∧ x.c j = x.c j ∧ True) ∧ True) := by
  simp only [true_and, and_true, eq_self, Nat.le_refl, implies_true, and_self, bne_iff_ne, ne_eq, bne_eq_false_iff_eq]
  rintro k q t n x ⟨_, h⟩
  exact h

def bo_C (_ : (AI × A64 × A64 × A64 × CS)) : Cfg := { Γ := Go.Sx.look tBkO, names := true }
theorem bo_al (x : (AI × A64 × A64 × A64 × CS)) : Shown (boP.vc Try.prog (bo_C x) Try.f3 x) := ⟨@Eq.mp _ _ (by kernel_rfl) (bo_vc (x.1) (x.2.1) (x.2.2.1) (x.2.2.2.1) (x.2.2.2.2))⟩
theorem bo_ok : SpOk Try.prog 3 boP.sp := @Pat.okS _ boP Try.prog bo_C 3 Try.f3 (fun x => cfg_tab rfl tBkO_ok) (by kernel_rfl) Try.func3 (fun _ => rfl) bo_al
end Go.Proofs.Ytokiakcmdbihhaa
