import Derived.Test.YtokiakcmdbihhaaS16
open Go Go.Sx Go.Proofs
set_option maxRecDepth 100000
namespace Go.Proofs.Ytokiakcmdbihhaa

structure HI where
  i : Nat
  m : Int
  y : CR
structure HJ where
  i : Nat
  m : Int
  y : CR
  z : CR
  k : Nat
def hsF (q t n : Int) (x : CS) : Fam where
  α := HI
  I w := At n x w.i w.m ∧ w.y.Ok ∧ QL q w.y.L
  st w := { sl := mkSl 191 [(0, .int .i64 1), (1, .int .u64 q), (2, .int .u64 t), (3, .int .u64 w.m), (4, x.v 0), (11, p0 1), (13, .int .u64 n), (14, .int .i64 w.i)], H := [x.reg] ++ (⟨q, t, n, w.y⟩ : SS).Vr 1 }
  μ w := x.len - w.i
def hsC (q t n : Int) (x : CS) (u : Nat) : Fam where
  α := HI
  I w := w.i = u ∧ w.i < x.len ∧ At n x (w.i + 1) w.m ∧ w.y.Ok ∧ QL q w.y.L
  st w := { sl := mkSl 191 [(0, .int .i64 1), (1, .int .u64 q), (2, .int .u64 t), (3, .int .u64 w.m), (4, x.v 0), (11, p0 1), (13, .int .u64 n), (14, .int .i64 w.i)], H := [x.reg] ++ (⟨q, t, n, w.y⟩ : SS).Vr 1 }
  μ _ := 0
def hsG (q t n : Int) (x : CS) (u : Nat) : Fam where
  α := HJ
  I w := w.i = u ∧ w.i < x.len ∧ At n x (w.i + 1) w.m ∧ w.y.Ok ∧ QL q w.y.L ∧ w.z.Ok ∧ w.z.L = w.y.L ∧ w.k ≤ w.z.len
  st w := { sl := mkSl 191 [(0, .int .i64 1), (1, .int .u64 q), (2, .int .u64 t), (3, .int .u64 w.m), (4, x.v 0), (11, p0 1), (13, .int .u64 n), (14, .int .i64 w.i), (16, w.z.v 4), (17, .int .u64 (sumN w.k w.z.L)), (18, .int .i64 w.k)], H := [x.reg] ++ (⟨q, t, n, w.y⟩ : SS).Vr 1 ++ [w.z.reg] }
  μ w := w.z.len - w.k
def hsL (q t n : Int) (x : CS) : Nat → Gam
  | 8 => .l [hsF q t n x]
  | 19 => .g fun u => [hsG q t n x u]
  | _ => .l []
def hsU (q t n : Int) (x : CS) : Nat → Gam
  | 16 => .g fun u => [hsC q t n x u]
  | _ => .l []
def hsP : Pat (A64 × A64 × A64 × CS) where
  view _ _ := none
  args x := [.int .i64 1, x.1.t, x.2.1.t, x.2.2.1.t, x.2.2.2.v 0]
  H x := [x.2.2.2.reg]
  out x := .need ((x.1.Ok ∧ x.2.1.Ok ∧ x.2.2.1.Ok ∧ x.2.2.2.Ok) ∧ rngI x.1.v x.2.1.v x.2.2.1.v) (.retq .tt)
def tHs : Tab := [(8, aliveP.sp), (9, n1P.sp), (10, grP.sp), (11, swP.sp), (12, suP.sp), (13, scP.sp), (15, slP.sp), (14, skP.sp)]
theorem tHs_ok : TabOk Try.prog tHs := (tab_cons alive_ok (tab_cons n1_ok (tab_cons gr_ok (tab_cons sw_ok (tab_cons su_ok (tab_cons sc__ok (tab_cons sl__ok (tab_cons sk_ok tab_nil))))))))

theorem hs_vc : ∀ (q t n : A64) (x : CS), ((q.Ok ∧ t.Ok ∧ n.Ok ∧ x.Ok) ∧ rngI q.v t.v n.v) ∧ True → (True ∧ True) ∧ (((1 : Int) = (1 : Int) ∧ q.v = q.v ∧ t.v = t.v ∧ n.v = n.v ∧ True) ∧ True) ∧ rngI q.v t.v n.v ∧ ∀ (x_1 : CR), x_1.Ok ∧
  x_1.L = [(n.v, q.v)] → ∀ (v : Int), v = (0 : Int) → ((v != (0 : Int)) = true → (q.Ok ∧ t.Ok ∧ n.Ok ∧ x.Ok) ∧ rngI q.v t.v n.v → True ∧ True ∧ ((0 : Nat) ≤ (0 : Nat) ∧ x.n = x.n ∧ ∀ (j : Nat), j < x.n → x.w j = x.w j ∧
  x.a j = x.a j ∧ x.c j = x.c j ∧ True) ∧ True) ∧ ((v != (0 : Int)) = false → ((n.v = n.v ∧ ((x.nil = true → x.nil = true) ∧ (x.nil = false → x.nil = false ∧ True ∧ True ∧ x.lo = x.lo ∧ x.len = x.len ∧ x.cap = x.cap)) ∧
  True) ∧ ((0 : Nat) ≤ (0 : Nat) ∧ x.n = x.n ∧ ∀ (j : Nat), j < x.n → x.w j = x.w j ∧ x.a j = x.a j ∧ x.c j = x.c j ∧ True) ∧ True) ∧ ((x.nil = true → x.len = (0 : Nat)) ∧ x.lo + x.len ≤ x.n) ∧ ((!decide (small n.v x)) =
  true → (q.Ok ∧ t.Ok ∧ n.Ok ∧ x.Ok) ∧ rngI q.v t.v n.v → True ∧ True ∧ ((0 : Nat) ≤ (0 : Nat) ∧ x.n = x.n ∧ ∀ (j : Nat), j < x.n → x.w j = x.w j ∧ x.a j = x.a j ∧ x.c j = x.c j ∧ True) ∧ True) ∧ ((!decide (small n.v x)) =
  false → ∀ (v : Int), v = n.v → ∀ (v_1 : Int), v_1 = (0 : Int) → (∃ (y : HI), (At n.v x y.i y.m ∧ y.y.Ok ∧ QL q.v y.y.L) ∧ (((1 : Int) = (1 : Int) ∧ q.v = q.v ∧ t.v = t.v ∧ n.v = y.m ∧ ((x.nil = true → x.nil = true) ∧
  (x.nil = false → x.nil = false ∧ True ∧ True ∧ x.lo = x.lo ∧ x.len = x.len ∧ x.cap = x.cap)) ∧ (True ∧ True) ∧ v = n.v ∧ v_1 = (↑y.i : Int) ∧ True) ∧ ((0 : Nat) ≤ (0 : Nat) ∧ x.n = x.n ∧ ∀ (j : Nat), j < x.n → x.w j =
  x.w j ∧ x.a j = x.a j ∧ x.c j = x.c j ∧ True) ∧ ((5 : Nat) ≤ (5 : Nat) ∧ (q.v = q.v ∧ t.v = t.v ∧ n.v = n.v ∧ True) ∧ (1 : Int) = (1 : Int) ∧ (True ∧ True) ∧ True) ∧ ((4 : Nat) ≤ (4 : Nat) ∧ (q.v = q.v ∧ t.v = t.v ∧ n.v
  = n.v ∧ True) ∧ (True ∧ True ∧ x_1.lo = y.y.lo ∧ x_1.len = y.y.len ∧ x_1.cap = y.y.cap) ∧ True) ∧ ((y.y.lo + y.y.cap) * (2 : Nat) ≤ (x_1.lo + x_1.cap) * (2 : Nat) ∧ y.y.N = x_1.N ∧ ∀ (j : Nat), j < x_1.N → x_1.a j =
  y.y.a j ∧ x_1.b j = y.y.b j ∧ True) ∧ True) ∧ True) ∧ ∀ (y : HI), At n.v x y.i y.m ∧ y.y.Ok ∧ QL q.v y.y.L → (x.nil = true → x.len = (0 : Nat)) ∧ (decide ((↑y.i : Int) < (↑x.len : Int)) = true → (x.nil = true → x.len =
  (0 : Nat)) ∧ ((0 : Int) ≤ (↑y.i : Int) ∧ (↑y.i : Int) < (↑x.len : Int)) ∧ x.lo + (↑y.i : Int).toNat < x.n ∧ ∀ (v : Int), v = IntKind.u64.wrap (y.m + x.a (x.lo + (↑y.i : Int).toNat)) → ∃ (g : Nat), ((x.nil = true → x.len
  = (0 : Nat)) ∧ ((0 : Int) ≤ (↑y.i : Int) ∧ (↑y.i : Int) < (↑x.len : Int)) ∧ x.lo + (↑y.i : Int).toNat < x.n ∧ ((x.w (x.lo + (↑y.i : Int).toNat) == (0 : Int)) = true → (((True ∧ True) ∧ v = v ∧ True) ∧ ((5 : Nat) ≤ (5 :
  Nat) ∧ (q.v = q.v ∧ t.v = t.v ∧ n.v = n.v ∧ True) ∧ (1 : Int) = (1 : Int) ∧ (True ∧ True) ∧ True) ∧ ((4 : Nat) ≤ (4 : Nat) ∧ (q.v = q.v ∧ t.v = t.v ∧ n.v = n.v ∧ True) ∧ (True ∧ True ∧ y.y.lo = y.y.lo ∧ y.y.len = y.y.len
  ∧ y.y.cap = y.y.cap) ∧ True) ∧ ((y.y.lo + y.y.cap) * (2 : Nat) ≤ (y.y.lo + y.y.cap) * (2 : Nat) ∧ y.y.N = y.y.N ∧ ∀ (j : Nat), j < y.y.N → y.y.a j = y.y.a j ∧ y.y.b j = y.y.b j ∧ True) ∧ True) ∧ (SS.mk q.v t.v n.v (CR.mk
  y.y.lo y.y.len y.y.cap y.y.N (fun (j : Nat) => y.y.a j) fun (j : Nat) => y.y.b j)).Ok ∧ ∀ (x_2 : CR), x_2.Ok ∧ x_2.L = wakeL (atI n.v v) y.y.L → ∃ (y_1 : HI), (y_1.i = g ∧ y_1.i < x.len ∧ At n.v x (y_1.i + (1 : Nat))
  y_1.m ∧ y_1.y.Ok ∧ QL q.v y_1.y.L) ∧ (((1 : Int) = (1 : Int) ∧ q.v = q.v ∧ t.v = t.v ∧ v = y_1.m ∧ ((x.nil = true → x.nil = true) ∧ (x.nil = false → x.nil = false ∧ True ∧ True ∧ x.lo = x.lo ∧ x.len = x.len ∧ x.cap =
  x.cap)) ∧ (True ∧ True) ∧ n.v = n.v ∧ (↑y.i : Int) = (↑y_1.i : Int) ∧ True) ∧ ((0 : Nat) ≤ (0 : Nat) ∧ x.n = x.n ∧ ∀ (j : Nat), j < x.n → x.w j = x.w j ∧ x.a j = x.a j ∧ x.c j = x.c j ∧ True) ∧ ((5 : Nat) ≤ (5 : Nat) ∧
  (q.v = q.v ∧ t.v = t.v ∧ n.v = n.v ∧ True) ∧ (1 : Int) = (1 : Int) ∧ (True ∧ True) ∧ True) ∧ ((4 : Nat) ≤ (4 : Nat) ∧ (q.v = q.v ∧ t.v = t.v ∧ n.v = n.v ∧ True) ∧ (True ∧ True ∧ x_2.lo = y_1.y.lo ∧ x_2.len = y_1.y.len ∧
  x_2.cap = y_1.y.cap) ∧ True) ∧ ((y_1.y.lo + y_1.y.cap) * (2 : Nat) ≤ (x_2.lo + x_2.cap) * (2 : Nat) ∧ y_1.y.N = x_2.N ∧ ∀ (j : Nat), j < x_2.N → x_2.a j = y_1.y.a j ∧ x_2.b j = y_1.y.b j ∧ True) ∧ True) ∧ True) ∧ ((x.w
  (x.lo + (↑y.i : Int).toNat) == (0 : Int)) = false → (x.nil = true → x.len = (0 : Nat)) ∧ ((0 : Int) ≤ (↑y.i : Int) ∧ (↑y.i : Int) < (↑x.len : Int)) ∧ x.lo + (↑y.i : Int).toNat < x.n ∧ (((True ∧ True) ∧ v = v ∧ x.c (x.lo
  + (↑y.i : Int).toNat) = x.c (x.lo + (↑y.i : Int).toNat) ∧ True) ∧ ((5 : Nat) ≤ (5 : Nat) ∧ (q.v = q.v ∧ t.v = t.v ∧ n.v = n.v ∧ True) ∧ (1 : Int) = (1 : Int) ∧ (True ∧ True) ∧ True) ∧ ((4 : Nat) ≤ (4 : Nat) ∧ (q.v = q.v
  ∧ t.v = t.v ∧ n.v = n.v ∧ True) ∧ (True ∧ True ∧ y.y.lo = y.y.lo ∧ y.y.len = y.y.len ∧ y.y.cap = y.y.cap) ∧ True) ∧ ((y.y.lo + y.y.cap) * (2 : Nat) ≤ (y.y.lo + y.y.cap) * (2 : Nat) ∧ y.y.N = y.y.N ∧ ∀ (j : Nat), j <
  y.y.N → y.y.a j = y.y.a j ∧ y.y.b j = y.y.b j ∧ True) ∧ True) ∧ ((SS.mk q.v t.v n.v (CR.mk y.y.lo y.y.len y.y.cap y.y.N (fun (j : Nat) => y.y.a j) fun (j : Nat) => y.y.b j)).Ok ∧ (0 : Int) ≤ x.c (x.lo + (↑y.i :
  Int).toNat)) ∧ ∀ (x_2 : CR), x_2.Ok ∧ x_2.L = chargeL q.v t.v (atI n.v v) (x.c (x.lo + (↑y.i : Int).toNat)) y.y.L → ∀ (v_2 : Int), v_2 = cI q.v (x.c (x.lo + (↑y.i : Int).toNat)) → (x.nil = true → x.len = (0 : Nat)) ∧ ((0
  : Int) ≤ (↑y.i : Int) ∧ (↑y.i : Int) < (↑x.len : Int)) ∧ x.lo + (↑y.i : Int).toNat < x.n ∧ (decide (v_2 > x.c (x.lo + (↑y.i : Int).toNat)) = true → (q.Ok ∧ t.Ok ∧ n.Ok ∧ x.Ok) ∧ rngI q.v t.v n.v → False ∧ True ∧ ((0 :
  Nat) ≤ (0 : Nat) ∧ x.n = x.n ∧ ∀ (j : Nat), j < x.n → x.w j = x.w j ∧ x.a j = x.a j ∧ x.c j = x.c j ∧ True) ∧ True) ∧ (decide (v_2 > x.c (x.lo + (↑y.i : Int).toNat)) = false → (decide (v_2 > q.v) = true → (q.Ok ∧ t.Ok ∧
  n.Ok ∧ x.Ok) ∧ rngI q.v t.v n.v → False ∧ True ∧ ((0 : Nat) ≤ (0 : Nat) ∧ x.n = x.n ∧ ∀ (j : Nat), j < x.n → x.w j = x.w j ∧ x.a j = x.a j ∧ x.c j = x.c j ∧ True) ∧ True) ∧ (decide (v_2 > q.v) = false → (((1 : Int) == (1
  : Int)) = true → (x.nil = true → x.len = (0 : Nat)) ∧ ((0 : Int) ≤ (↑y.i : Int) ∧ (↑y.i : Int) < (↑x.len : Int)) ∧ x.lo + (↑y.i : Int).toNat < x.n ∧ ((v_2 != if q.v < x.c (x.lo + (↑y.i : Int).toNat) then q.v else x.c
  (x.lo + (↑y.i : Int).toNat)) = true → (q.Ok ∧ t.Ok ∧ n.Ok ∧ x.Ok) ∧ rngI q.v t.v n.v → False ∧ True ∧ ((0 : Nat) ≤ (0 : Nat) ∧ x.n = x.n ∧ ∀ (j : Nat), j < x.n → x.w j = x.w j ∧ x.a j = x.a j ∧ x.c j = x.c j ∧ True) ∧
  True) ∧ ((v_2 != if q.v < x.c (x.lo + (↑y.i : Int).toNat) then q.v else x.c (x.lo + (↑y.i : Int).toNat)) = false → ∃ (y_1 : HI), (y_1.i = g ∧ y_1.i < x.len ∧ At n.v x (y_1.i + (1 : Nat)) y_1.m ∧ y_1.y.Ok ∧ QL q.v
  y_1.y.L) ∧ (((1 : Int) = (1 : Int) ∧ q.v = q.v ∧ t.v = t.v ∧ v = y_1.m ∧ ((x.nil = true → x.nil = true) ∧ (x.nil = false → x.nil = false ∧ True ∧ True ∧ x.lo = x.lo ∧ x.len = x.len ∧ x.cap = x.cap)) ∧ (True ∧ True) ∧ n.v
  = n.v ∧ (↑y.i : Int) = (↑y_1.i : Int) ∧ True) ∧ ((0 : Nat) ≤ (0 : Nat) ∧ x.n = x.n ∧ ∀ (j : Nat), j < x.n → x.w j = x.w j ∧ x.a j = x.a j ∧ x.c j = x.c j ∧ True) ∧ ((5 : Nat) ≤ (5 : Nat) ∧ (q.v = q.v ∧ t.v = t.v ∧ n.v =
  n.v ∧ True) ∧ (1 : Int) = (1 : Int) ∧ (True ∧ True) ∧ True) ∧ ((4 : Nat) ≤ (4 : Nat) ∧ (q.v = q.v ∧ t.v = t.v ∧ n.v = n.v ∧ True) ∧ (True ∧ True ∧ x_2.lo = y_1.y.lo ∧ x_2.len = y_1.y.len ∧ x_2.cap = y_1.y.cap) ∧ True) ∧
  ((y_1.y.lo + y_1.y.cap) * (2 : Nat) ≤ (x_2.lo + x_2.cap) * (2 : Nat) ∧ y_1.y.N = x_2.N ∧ ∀ (j : Nat), j < x_2.N → x_2.a j = y_1.y.a j ∧ x_2.b j = y_1.y.b j ∧ True) ∧ True) ∧ True)) ∧ (((1 : Int) == (1 : Int)) = false → ∃
  (y_1 : HI), (y_1.i = g ∧ y_1.i < x.len ∧ At n.v x (y_1.i + (1 : Nat)) y_1.m ∧ y_1.y.Ok ∧ QL q.v y_1.y.L) ∧ (((1 : Int) = (1 : Int) ∧ q.v = q.v ∧ t.v = t.v ∧ v = y_1.m ∧ ((x.nil = true → x.nil = true) ∧ (x.nil = false →
  x.nil = false ∧ True ∧ True ∧ x.lo = x.lo ∧ x.len = x.len ∧ x.cap = x.cap)) ∧ (True ∧ True) ∧ n.v = n.v ∧ (↑y.i : Int) = (↑y_1.i : Int) ∧ True) ∧ ((0 : Nat) ≤ (0 : Nat) ∧ x.n = x.n ∧ ∀ (j : Nat), j < x.n → x.w j = x.w j
  ∧ x.a j = x.a j ∧ x.c j = x.c j ∧ True) ∧ ((5 : Nat) ≤ (5 : Nat) ∧ (q.v = q.v ∧ t.v = t.v ∧ n.v = n.v ∧ True) ∧ (1 : Int) = (1 : Int) ∧ (True ∧ True) ∧ True) ∧ ((4 : Nat) ≤ (4 : Nat) ∧ (q.v = q.v ∧ t.v = t.v ∧ n.v = n.v
  ∧ True) ∧ (True ∧ True ∧ x_2.lo = y_1.y.lo ∧ x_2.len = y_1.y.len ∧ x_2.cap = y_1.y.cap) ∧ True) ∧ ((y_1.y.lo + y_1.y.cap) * (2 : Nat) ≤ (x_2.lo + x_2.cap) * (2 : Nat) ∧ y_1.y.N = x_2.N ∧ ∀ (j : Nat), j < x_2.N → x_2.a j
  = y_1.y.a j ∧ x_2.b j = y_1.y.b j ∧ True) ∧ True) ∧ True))))) ∧ ∀ (y_1 : HI), y_1.i = g ∧ y_1.i < x.len ∧ At n.v x (y_1.i + (1 : Nat)) y_1.m ∧ y_1.y.Ok ∧ QL q.v y_1.y.L → (((True ∧ True) ∧ y_1.m = y_1.m ∧ True) ∧ ((5 :
  Nat) ≤ (5 : Nat) ∧ (q.v = q.v ∧ t.v = t.v ∧ n.v = n.v ∧ True) ∧ (1 : Int) = (1 : Int) ∧ (True ∧ True) ∧ True) ∧ ((4 : Nat) ≤ (4 : Nat) ∧ (q.v = q.v ∧ t.v = t.v ∧ n.v = n.v ∧ True) ∧ (True ∧ True ∧ y_1.y.lo = y_1.y.lo ∧
  y_1.y.len = y_1.y.len ∧ y_1.y.cap = y_1.y.cap) ∧ True) ∧ ((y_1.y.lo + y_1.y.cap) * (2 : Nat) ≤ (y_1.y.lo + y_1.y.cap) * (2 : Nat) ∧ y_1.y.N = y_1.y.N ∧ ∀ (j : Nat), j < y_1.y.N → y_1.y.a j = y_1.y.a j ∧ y_1.y.b j =
  y_1.y.b j ∧ True) ∧ True) ∧ (SS.mk q.v t.v n.v (CR.mk y_1.y.lo y_1.y.len y_1.y.cap y_1.y.N (fun (j : Nat) => y_1.y.a j) fun (j : Nat) => y_1.y.b j)).Ok ∧ ∀ (x_2 : CR), (x_2.Ok ∧ x_2.lo = (0 : Nat) ∧ x_2.len = y_1.y.len ∧
  x_2.N = y_1.y.len) ∧ x_2.L = y_1.y.L → ∀ (v : Int), v = (0 : Int) → ∀ (v_2 : Int), v_2 = (0 : Int) → ∃ (g : Nat), (∃ (y : HJ), (y.i = g ∧ y.i < x.len ∧ At n.v x (y.i + (1 : Nat)) y.m ∧ y.y.Ok ∧ QL q.v y.y.L ∧ y.z.Ok ∧
  y.z.L = y.y.L ∧ y.k ≤ y.z.len) ∧ (((1 : Int) = (1 : Int) ∧ q.v = q.v ∧ t.v = t.v ∧ y_1.m = y.m ∧ ((x.nil = true → x.nil = true) ∧ (x.nil = false → x.nil = false ∧ True ∧ True ∧ x.lo = x.lo ∧ x.len = x.len ∧ x.cap =
  x.cap)) ∧ (True ∧ True) ∧ n.v = n.v ∧ (↑y_1.i : Int) = (↑y.i : Int) ∧ (True ∧ True ∧ x_2.lo = y.z.lo ∧ x_2.len = y.z.len ∧ x_2.cap = y.z.cap) ∧ v = sumN y.k y.z.L ∧ v_2 = (↑y.k : Int) ∧ True) ∧ ((0 : Nat) ≤ (0 : Nat) ∧
  x.n = x.n ∧ ∀ (j : Nat), j < x.n → x.w j = x.w j ∧ x.a j = x.a j ∧ x.c j = x.c j ∧ True) ∧ ((5 : Nat) ≤ (5 : Nat) ∧ (q.v = q.v ∧ t.v = t.v ∧ n.v = n.v ∧ True) ∧ (1 : Int) = (1 : Int) ∧ (True ∧ True) ∧ True) ∧ ((4 : Nat)
  ≤ (4 : Nat) ∧ (q.v = q.v ∧ t.v = t.v ∧ n.v = n.v ∧ True) ∧ (True ∧ True ∧ y_1.y.lo = y.y.lo ∧ y_1.y.len = y.y.len ∧ y_1.y.cap = y.y.cap) ∧ True) ∧ ((y.y.lo + y.y.cap) * (2 : Nat) ≤ (y_1.y.lo + y_1.y.cap) * (2 : Nat) ∧
  y.y.N = y_1.y.N ∧ ∀ (j : Nat), j < y_1.y.N → y_1.y.a j = y.y.a j ∧ y_1.y.b j = y.y.b j ∧ True) ∧ ((y.z.lo + y.z.cap) * (2 : Nat) ≤ (x_2.lo + x_2.cap) * (2 : Nat) ∧ y.z.N = x_2.N ∧ ∀ (j : Nat), j < x_2.N → x_2.a j = y.z.a
  j ∧ x_2.b j = y.z.b j ∧ True) ∧ True) ∧ True) ∧ ∀ (y_2 : HJ), y_2.i = g ∧ y_2.i < x.len ∧ At n.v x (y_2.i + (1 : Nat)) y_2.m ∧ y_2.y.Ok ∧ QL q.v y_2.y.L ∧ y_2.z.Ok ∧ y_2.z.L = y_2.y.L ∧ y_2.k ≤ y_2.z.len → (decide
  ((↑y_2.k : Int) < (↑y_2.z.len : Int)) = true → ((0 : Int) ≤ (↑y_2.k : Int) ∧ (↑y_2.k : Int) < (↑y_2.z.len : Int)) ∧ y_2.z.lo + (↑y_2.k : Int).toNat < y_2.z.N ∧ ∀ (v : Int), v = IntKind.u64.wrap (sumN y_2.k y_2.z.L +
  y_2.z.b (y_2.z.lo + (↑y_2.k : Int).toNat)) → ((0 : Int) ≤ (↑y_2.k : Int) ∧ (↑y_2.k : Int) < (↑y_2.z.len : Int)) ∧ y_2.z.lo + (↑y_2.k : Int).toNat < y_2.z.N ∧ ((y_2.z.b (y_2.z.lo + (↑y_2.k : Int).toNat) == (0 : Int)) =
  true → (q.Ok ∧ t.Ok ∧ n.Ok ∧ x.Ok) ∧ rngI q.v t.v n.v → False ∧ True ∧ ((0 : Nat) ≤ (0 : Nat) ∧ x.n = x.n ∧ ∀ (j : Nat), j < x.n → x.w j = x.w j ∧ x.a j = x.a j ∧ x.c j = x.c j ∧ True) ∧ True) ∧ ((y_2.z.b (y_2.z.lo +
  (↑y_2.k : Int).toNat) == (0 : Int)) = false → (decide ((↑y_2.k : Int) > (0 : Int)) = true → ((0 : Int) ≤ (↑y_2.k : Int) ∧ (↑y_2.k : Int) < (↑y_2.z.len : Int)) ∧ y_2.z.lo + (↑y_2.k : Int).toNat < y_2.z.N ∧ ((0 : Int) ≤
  IntKind.i64.wrap ((↑y_2.k : Int) - (1 : Int)) ∧ IntKind.i64.wrap ((↑y_2.k : Int) - (1 : Int)) < (↑y_2.z.len : Int)) ∧ y_2.z.lo + (IntKind.i64.wrap ((↑y_2.k : Int) - (1 : Int))).toNat < y_2.z.N ∧ (decide (y_2.z.a
  (y_2.z.lo + (↑y_2.k : Int).toNat) ≤ y_2.z.a (y_2.z.lo + (IntKind.i64.wrap ((↑y_2.k : Int) - (1 : Int))).toNat)) = true → (q.Ok ∧ t.Ok ∧ n.Ok ∧ x.Ok) ∧ rngI q.v t.v n.v → False ∧ True ∧ ((0 : Nat) ≤ (0 : Nat) ∧ x.n = x.n
  ∧ ∀ (j : Nat), j < x.n → x.w j = x.w j ∧ x.a j = x.a j ∧ x.c j = x.c j ∧ True) ∧ True) ∧ (decide (y_2.z.a (y_2.z.lo + (↑y_2.k : Int).toNat) ≤ y_2.z.a (y_2.z.lo + (IntKind.i64.wrap ((↑y_2.k : Int) - (1 : Int))).toNat)) =
  false → ∀ (v_3 : Int), v_3 = IntKind.i64.wrap ((↑y_2.k : Int) + (1 : Int)) → ∃ (y : HJ), (y.i = g ∧ y.i < x.len ∧ At n.v x (y.i + (1 : Nat)) y.m ∧ y.y.Ok ∧ QL q.v y.y.L ∧ y.z.Ok ∧ y.z.L = y.y.L ∧ y.k ≤ y.z.len) ∧ (((1 :
  Int) = (1 : Int) ∧ q.v = q.v ∧ t.v = t.v ∧ y_2.m = y.m ∧ ((x.nil = true → x.nil = true) ∧ (x.nil = false → x.nil = false ∧ True ∧ True ∧ x.lo = x.lo ∧ x.len = x.len ∧ x.cap = x.cap)) ∧ (True ∧ True) ∧ n.v = n.v ∧ (↑y_2.i
  : Int) = (↑y.i : Int) ∧ (True ∧ True ∧ y_2.z.lo = y.z.lo ∧ y_2.z.len = y.z.len ∧ y_2.z.cap = y.z.cap) ∧ v = sumN y.k y.z.L ∧ v_3 = (↑y.k : Int) ∧ True) ∧ ((0 : Nat) ≤ (0 : Nat) ∧ x.n = x.n ∧ ∀ (j : Nat), j < x.n → x.w j
  = x.w j ∧ x.a j = x.a j ∧ x.c j = x.c j ∧ True) ∧ ((5 : Nat) ≤ (5 : Nat) ∧ (q.v = q.v ∧ t.v = t.v ∧ n.v = n.v ∧ True) ∧ (1 : Int) = (1 : Int) ∧ (True ∧ True) ∧ True) ∧ ((4 : Nat) ≤ (4 : Nat) ∧ (q.v = q.v ∧ t.v = t.v ∧
  n.v = n.v ∧ True) ∧ (True ∧ True ∧ y_2.y.lo = y.y.lo ∧ y_2.y.len = y.y.len ∧ y_2.y.cap = y.y.cap) ∧ True) ∧ ((y.y.lo + y.y.cap) * (2 : Nat) ≤ (y_2.y.lo + y_2.y.cap) * (2 : Nat) ∧ y.y.N = y_2.y.N ∧ ∀ (j : Nat), j <
  y_2.y.N → y_2.y.a j = y.y.a j ∧ y_2.y.b j = y.y.b j ∧ True) ∧ ((y.z.lo + y.z.cap) * (2 : Nat) ≤ (y_2.z.lo + y_2.z.cap) * (2 : Nat) ∧ y.z.N = y_2.z.N ∧ ∀ (j : Nat), j < y_2.z.N → y_2.z.a j = y.z.a j ∧ y_2.z.b j = y.z.b j
  ∧ True) ∧ True) ∧ (hsG q.v t.v n.v x g).μ y < (hsG q.v t.v n.v x g).μ y_2)) ∧ (decide ((↑y_2.k : Int) > (0 : Int)) = false → ∀ (v_3 : Int), v_3 = IntKind.i64.wrap ((↑y_2.k : Int) + (1 : Int)) → ∃ (y : HJ), (y.i = g ∧ y.i
  < x.len ∧ At n.v x (y.i + (1 : Nat)) y.m ∧ y.y.Ok ∧ QL q.v y.y.L ∧ y.z.Ok ∧ y.z.L = y.y.L ∧ y.k ≤ y.z.len) ∧ (((1 : Int) = (1 : Int) ∧ q.v = q.v ∧ t.v = t.v ∧ y_2.m = y.m ∧ ((x.nil = true → x.nil = true) ∧ (x.nil = false
  → x.nil = false ∧ True ∧ True ∧ x.lo = x.lo ∧ x.len = x.len ∧ x.cap = x.cap)) ∧ (True ∧ True) ∧ n.v = n.v ∧ (↑y_2.i : Int) = (↑y.i : Int) ∧ (True ∧ True ∧ y_2.z.lo = y.z.lo ∧ y_2.z.len = y.z.len ∧ y_2.z.cap = y.z.cap) ∧
  v = sumN y.k y.z.L ∧ v_3 = (↑y.k : Int) ∧ True) ∧ ((0 : Nat) ≤ (0 : Nat) ∧ x.n = x.n ∧ ∀ (j : Nat), j < x.n → x.w j = x.w j ∧ x.a j = x.a j ∧ x.c j = x.c j ∧ True) ∧ ((5 : Nat) ≤ (5 : Nat) ∧ (q.v = q.v ∧ t.v = t.v ∧ n.v
  = n.v ∧ True) ∧ (1 : Int) = (1 : Int) ∧ (True ∧ True) ∧ True) ∧ ((4 : Nat) ≤ (4 : Nat) ∧ (q.v = q.v ∧ t.v = t.v ∧ n.v = n.v ∧ True) ∧ (True ∧ True ∧ y_2.y.lo = y.y.lo ∧ y_2.y.len = y.y.len ∧ y_2.y.cap = y.y.cap) ∧ True)
  ∧ ((y.y.lo + y.y.cap) * (2 : Nat) ≤ (y_2.y.lo + y_2.y.cap) * (2 : Nat) ∧ y.y.N = y_2.y.N ∧ ∀ (j : Nat), j < y_2.y.N → y_2.y.a j = y.y.a j ∧ y_2.y.b j = y.y.b j ∧ True) ∧ ((y.z.lo + y.z.cap) * (2 : Nat) ≤ (y_2.z.lo +
  y_2.z.cap) * (2 : Nat) ∧ y.z.N = y_2.z.N ∧ ∀ (j : Nat), j < y_2.z.N → y_2.z.a j = y.z.a j ∧ y_2.z.b j = y.z.b j ∧ True) ∧ True) ∧ (hsG q.v t.v n.v x g).μ y < (hsG q.v t.v n.v x g).μ y_2))) ∧ (decide ((↑y_2.k : Int) <
  (↑y_2.z.len : Int)) = false → (((1 : Int) == (1 : Int)) = true → ((sumN y_2.k y_2.z.L != q.v) = true → (q.Ok ∧ t.Ok ∧ n.Ok ∧ x.Ok) ∧ rngI q.v t.v n.v → False ∧ True ∧ ((0 : Nat) ≤ (0 : Nat) ∧ x.n = x.n ∧ ∀ (j : Nat), j <
  x.n → x.w j = x.w j ∧ x.a j = x.a j ∧ x.c j = x.c j ∧ True) ∧ True) ∧ ((sumN y_2.k y_2.z.L != q.v) = false → (decide ((↑y_2.z.len : Int) > (8 : Int)) = true → (q.Ok ∧ t.Ok ∧ n.Ok ∧ x.Ok) ∧ rngI q.v t.v n.v → False ∧ True
  ∧ ((0 : Nat) ≤ (0 : Nat) ∧ x.n = x.n ∧ ∀ (j : Nat), j < x.n → x.w j = x.w j ∧ x.a j = x.a j ∧ x.c j = x.c j ∧ True) ∧ True) ∧ (decide ((↑y_2.z.len : Int) > (8 : Int)) = false → (((1 : Int) == (2 : Int)) = true → (decide
  (sumN y_2.k y_2.z.L > q.v) = true → (q.Ok ∧ t.Ok ∧ n.Ok ∧ x.Ok) ∧ rngI q.v t.v n.v → False ∧ True ∧ ((0 : Nat) ≤ (0 : Nat) ∧ x.n = x.n ∧ ∀ (j : Nat), j < x.n → x.w j = x.w j ∧ x.a j = x.a j ∧ x.c j = x.c j ∧ True) ∧
  True) ∧ (decide (sumN y_2.k y_2.z.L > q.v) = false → (decide ((↑y_2.z.len : Int) > (1 : Int)) = true → (q.Ok ∧ t.Ok ∧ n.Ok ∧ x.Ok) ∧ rngI q.v t.v n.v → False ∧ True ∧ ((0 : Nat) ≤ (0 : Nat) ∧ x.n = x.n ∧ ∀ (j : Nat), j <
  x.n → x.w j = x.w j ∧ x.a j = x.a j ∧ x.c j = x.c j ∧ True) ∧ True) ∧ (decide ((↑y_2.z.len : Int) > (1 : Int)) = false → t.v ≠ (0 : Int) ∧ ∀ (v : Int), v = IntKind.u64.wrap (n.v + IntKind.u64.wrap (IntKind.u64.wrap
  (IntKind.u64.wrap ((IntKind.u64.wrap (y_2.m - n.v)).tdiv t.v) + (1 : Int)) * t.v)) → (((1 : Int) == (2 : Int)) = true → (((True ∧ True) ∧ v = v ∧ True) ∧ ((5 : Nat) ≤ (5 : Nat) ∧ (q.v = q.v ∧ t.v = t.v ∧ n.v = n.v ∧
  True) ∧ (1 : Int) = (1 : Int) ∧ (True ∧ True) ∧ True) ∧ ((4 : Nat) ≤ (4 : Nat) ∧ (q.v = q.v ∧ t.v = t.v ∧ n.v = n.v ∧ True) ∧ (True ∧ True ∧ y_2.y.lo = y_2.y.lo ∧ y_2.y.len = y_2.y.len ∧ y_2.y.cap = y_2.y.cap) ∧ True) ∧
  ((y_2.y.lo + y_2.y.cap) * (2 : Nat) ≤ (y_2.y.lo + y_2.y.cap) * (2 : Nat) ∧ y_2.y.N = y_2.y.N ∧ ∀ (j : Nat), j < y_2.y.N → y_2.y.a j = y_2.y.a j ∧ y_2.y.b j = y_2.y.b j ∧ True) ∧ True) ∧ (SS.mk q.v t.v n.v (CR.mk y_2.y.lo
  y_2.y.len y_2.y.cap y_2.y.N (fun (j : Nat) => y_2.y.a j) fun (j : Nat) => y_2.y.b j)).Ok ∧ ((usL (atI n.v v) y_2.y.L != q.v) = true → (q.Ok ∧ t.Ok ∧ n.Ok ∧ x.Ok) ∧ rngI q.v t.v n.v → False ∧ True ∧ ((0 : Nat) ≤ (0 : Nat)
  ∧ x.n = x.n ∧ ∀ (j : Nat), j < x.n → x.w j = x.w j ∧ x.a j = x.a j ∧ x.c j = x.c j ∧ True) ∧ True) ∧ ((usL (atI n.v v) y_2.y.L != q.v) = false → (((True ∧ True) ∧ y_2.m = y_2.m ∧ True) ∧ ((5 : Nat) ≤ (5 : Nat) ∧ (q.v =
  q.v ∧ t.v = t.v ∧ n.v = n.v ∧ True) ∧ (1 : Int) = (1 : Int) ∧ (True ∧ True) ∧ True) ∧ ((4 : Nat) ≤ (4 : Nat) ∧ (q.v = q.v ∧ t.v = t.v ∧ n.v = n.v ∧ True) ∧ (True ∧ True ∧ y_2.y.lo = y_2.y.lo ∧ y_2.y.len = y_2.y.len ∧
  y_2.y.cap = y_2.y.cap) ∧ True) ∧ ((y_2.y.lo + y_2.y.cap) * (2 : Nat) ≤ (y_2.y.lo + y_2.y.cap) * (2 : Nat) ∧ y_2.y.N = y_2.y.N ∧ ∀ (j : Nat), j < y_2.y.N → y_2.y.a j = y_2.y.a j ∧ y_2.y.b j = y_2.y.b j ∧ True) ∧ True) ∧
  (SS.mk q.v t.v n.v (CR.mk y_2.y.lo y_2.y.len y_2.y.cap y_2.y.N (fun (j : Nat) => y_2.y.a j) fun (j : Nat) => y_2.y.b j)).Ok ∧ ((dueL t.v y_2.y.L != v) = true → (q.Ok ∧ t.Ok ∧ n.Ok ∧ x.Ok) ∧ rngI q.v t.v n.v → False ∧
  True ∧ ((0 : Nat) ≤ (0 : Nat) ∧ x.n = x.n ∧ ∀ (j : Nat), j < x.n → x.w j = x.w j ∧ x.a j = x.a j ∧ x.c j = x.c j ∧ True) ∧ True) ∧ ((dueL t.v y_2.y.L != v) = false → ∀ (v : Int), v = IntKind.i64.wrap ((↑y_2.i : Int) + (1
  : Int)) → ∃ (y_3 : HI), (At n.v x y_3.i y_3.m ∧ y_3.y.Ok ∧ QL q.v y_3.y.L) ∧ (((1 : Int) = (1 : Int) ∧ q.v = q.v ∧ t.v = t.v ∧ y_2.m = y_3.m ∧ ((x.nil = true → x.nil = true) ∧ (x.nil = false → x.nil = false ∧ True ∧ True
  ∧ x.lo = x.lo ∧ x.len = x.len ∧ x.cap = x.cap)) ∧ (True ∧ True) ∧ n.v = n.v ∧ v = (↑y_3.i : Int) ∧ True) ∧ ((0 : Nat) ≤ (0 : Nat) ∧ x.n = x.n ∧ ∀ (j : Nat), j < x.n → x.w j = x.w j ∧ x.a j = x.a j ∧ x.c j = x.c j ∧ True)
  ∧ ((5 : Nat) ≤ (5 : Nat) ∧ (q.v = q.v ∧ t.v = t.v ∧ n.v = n.v ∧ True) ∧ (1 : Int) = (1 : Int) ∧ (True ∧ True) ∧ True) ∧ ((4 : Nat) ≤ (4 : Nat) ∧ (q.v = q.v ∧ t.v = t.v ∧ n.v = n.v ∧ True) ∧ (True ∧ True ∧ y_2.y.lo =
  y_3.y.lo ∧ y_2.y.len = y_3.y.len ∧ y_2.y.cap = y_3.y.cap) ∧ True) ∧ ((y_3.y.lo + y_3.y.cap) * (2 : Nat) ≤ (y_2.y.lo + y_2.y.cap) * (2 : Nat) ∧ y_3.y.N = y_2.y.N ∧ ∀ (j : Nat), j < y_2.y.N → y_2.y.a j = y_3.y.a j ∧
  y_2.y.b j = y_3.y.b j ∧ True) ∧ True) ∧ (hsF q.v t.v n.v x).μ y_3 < (hsF q.v t.v n.v x).μ y))) ∧ (((1 : Int) == (2 : Int)) = false → ∀ (v : Int), v = IntKind.i64.wrap ((↑y_2.i : Int) + (1 : Int)) → ∃ (y_3 : HI), (At n.v
  x y_3.i y_3.m ∧ y_3.y.Ok ∧ QL q.v y_3.y.L) ∧ (((1 : Int) = (1 : Int) ∧ q.v = q.v ∧ t.v = t.v ∧ y_2.m = y_3.m ∧ ((x.nil = true → x.nil = true) ∧ (x.nil = false → x.nil = false ∧ True ∧ True ∧ x.lo = x.lo ∧ x.len = x.len ∧
  x.cap = x.cap)) ∧ (True ∧ True) ∧ n.v = n.v ∧ v = (↑y_3.i : Int) ∧ True) ∧ ((0 : Nat) ≤ (0 : Nat) ∧ x.n = x.n ∧ ∀ (j : Nat), j < x.n → x.w j = x.w j ∧ x.a j = x.a j ∧ x.c j = x.c j ∧ True) ∧ ((5 : Nat) ≤ (5 : Nat) ∧ (q.v
  = q.v ∧ t.v = t.v ∧ n.v = n.v ∧ True) ∧ (1 : Int) = (1 : Int) ∧ (True ∧ True) ∧ True) ∧ ((4 : Nat) ≤ (4 : Nat) ∧ (q.v = q.v ∧ t.v = t.v ∧ n.v = n.v ∧ True) ∧ (True ∧ True ∧ y_2.y.lo = y_3.y.lo ∧ y_2.y.len = y_3.y.len ∧
  y_2.y.cap = y_3.y.cap) ∧ True) ∧ ((y_3.y.lo + y_3.y.cap) * (2 : Nat) ≤ (y_2.y.lo + y_2.y.cap) * (2 : Nat) ∧ y_3.y.N = y_2.y.N ∧ ∀ (j : Nat), j < y_2.y.N → y_2.y.a j = y_3.y.a j ∧ y_2.y.b j = y_3.y.b j ∧ True) ∧ True) ∧
  (hsF q.v t.v n.v x).μ y_3 < (hsF q.v t.v n.v x).μ y)))) ∧ (((1 : Int) == (2 : Int)) = false → t.v ≠ (0 : Int) ∧ ∀ (v : Int), v = IntKind.u64.wrap (n.v + IntKind.u64.wrap (IntKind.u64.wrap (IntKind.u64.wrap
  ((IntKind.u64.wrap (y_2.m - n.v)).tdiv t.v) + (1 : Int)) * t.v)) → (((1 : Int) == (2 : Int)) = true → (((True ∧ True) ∧ v = v ∧ True) ∧ ((5 : Nat) ≤ (5 : Nat) ∧ (q.v = q.v ∧ t.v = t.v ∧ n.v = n.v ∧ True) ∧ (1 : Int) = (1
  : Int) ∧ (True ∧ True) ∧ True) ∧ ((4 : Nat) ≤ (4 : Nat) ∧ (q.v = q.v ∧ t.v = t.v ∧ n.v = n.v ∧ True) ∧ (True ∧ True ∧ y_2.y.lo = y_2.y.lo ∧ y_2.y.len = y_2.y.len ∧ y_2.y.cap = y_2.y.cap) ∧ True) ∧ ((y_2.y.lo + y_2.y.cap)
  * (2 : Nat) ≤ (y_2.y.lo + y_2.y.cap) * (2 : Nat) ∧ y_2.y.N = y_2.y.N ∧ ∀ (j : Nat), j < y_2.y.N → y_2.y.a j = y_2.y.a j ∧ y_2.y.b j = y_2.y.b j ∧ True) ∧ True) ∧ (SS.mk q.v t.v n.v (CR.mk y_2.y.lo y_2.y.len y_2.y.cap
  y_2.y.N (fun (j : Nat) => y_2.y.a j) fun (j : Nat) => y_2.y.b j)).Ok ∧ ((usL (atI n.v v) y_2.y.L != q.v) = true → (q.Ok ∧ t.Ok ∧ n.Ok ∧ x.Ok) ∧ rngI q.v t.v n.v → False ∧ True ∧ ((0 : Nat) ≤ (0 : Nat) ∧ x.n = x.n ∧ ∀ (j
  : Nat), j < x.n → x.w j = x.w j ∧ x.a j = x.a j ∧ x.c j = x.c j ∧ True) ∧ True) ∧ ((usL (atI n.v v) y_2.y.L != q.v) = false → (((True ∧ True) ∧ y_2.m = y_2.m ∧ True) ∧ ((5 : Nat) ≤ (5 : Nat) ∧ (q.v = q.v ∧ t.v = t.v ∧
  n.v = n.v ∧ True) ∧ (1 : Int) = (1 : Int) ∧ (True ∧ True) ∧ True) ∧ ((4 : Nat) ≤ (4 : Nat) ∧ (q.v = q.v ∧ t.v = t.v ∧ n.v = n.v ∧ True) ∧ (True ∧ True ∧ y_2.y.lo = y_2.y.lo ∧ y_2.y.len = y_2.y.len ∧ y_2.y.cap =
  y_2.y.cap) ∧ True) ∧ ((y_2.y.lo + y_2.y.cap) * (2 : Nat) ≤ (y_2.y.lo + y_2.y.cap) * (2 : Nat) ∧ y_2.y.N = y_2.y.N ∧ ∀ (j : Nat), j < y_2.y.N → y_2.y.a j = y_2.y.a j ∧ y_2.y.b j = y_2.y.b j ∧ True) ∧ True) ∧ (SS.mk q.v
  t.v n.v (CR.mk y_2.y.lo y_2.y.len y_2.y.cap y_2.y.N (fun (j : Nat) => y_2.y.a j) fun (j : Nat) => y_2.y.b j)).Ok ∧ ((dueL t.v y_2.y.L != v) = true → (q.Ok ∧ t.Ok ∧ n.Ok ∧ x.Ok) ∧ rngI q.v t.v n.v → False ∧ True ∧ ((0 :
  Nat) ≤ (0 : Nat) ∧ x.n = x.n ∧ ∀ (j : Nat), j < x.n → x.w j = x.w j ∧ x.a j = x.a j ∧ x.c j = x.c j ∧ True) ∧ True) ∧ ((dueL t.v y_2.y.L != v) = false → ∀ (v : Int), v = IntKind.i64.wrap ((↑y_2.i : Int) + (1 : Int)) → ∃
  (y_3 : HI), (At n.v x y_3.i y_3.m ∧ y_3.y.Ok ∧ QL q.v y_3.y.L) ∧ (((1 : Int) = (1 : Int) ∧ q.v = q.v ∧ t.v = t.v ∧ y_2.m = y_3.m ∧ ((x.nil = true → x.nil = true) ∧ (x.nil = false → x.nil = false ∧ True ∧ True ∧ x.lo =
  x.lo ∧ x.len = x.len ∧ x.cap = x.cap)) ∧ (True ∧ True) ∧ n.v = n.v ∧ v = (↑y_3.i : Int) ∧ True) ∧ ((0 : Nat) ≤ (0 : Nat) ∧ x.n = x.n ∧ ∀ (j : Nat), j < x.n → x.w j = x.w j ∧ x.a j = x.a j ∧ x.c j = x.c j ∧ True) ∧ ((5 :
  Nat) ≤ (5 : Nat) ∧ (q.v = q.v ∧ t.v = t.v ∧ n.v = n.v ∧ True) ∧ (1 : Int) = (1 : Int) ∧ (True ∧ True) ∧ True) ∧ ((4 : Nat) ≤ (4 : Nat) ∧ (q.v = q.v ∧ t.v = t.v ∧ n.v = n.v ∧ True) ∧ (True ∧ True ∧ y_2.y.lo = y_3.y.lo ∧
  y_2.y.len = y_3.y.len ∧ y_2.y.cap = y_3.y.cap) ∧ True) ∧ ((y_3.y.lo + y_3.y.cap) * (2 : Nat) ≤ (y_2.y.lo + y_2.y.cap) * (2 : Nat) ∧ y_3.y.N = y_2.y.N ∧ ∀ (j : Nat), j < y_2.y.N → y_2.y.a j = y_3.y.a j ∧ y_2.y.b j =
  y_3.y.b j ∧ True) ∧ True) ∧ (hsF q.v t.v n.v x).μ y_3 < (hsF q.v t.v n.v x).μ y))) ∧ (((1 : Int) == (2 : Int)) = false → ∀ (v : Int), v = IntKind.i64.wrap ((↑y_2.i : Int) + (1 : Int)) → ∃ (y_3 : HI), (At n.v x y_3.i
  y_3.m ∧ y_3.y.Ok ∧ QL q.v y_3.y.L) ∧ (((1 : Int) = (1 : Int) ∧ q.v = q.v ∧ t.v = t.v ∧ y_2.m = y_3.m ∧ ((x.nil = true → x.nil = true) ∧ (x.nil = false → x.nil = false ∧ True ∧ True ∧ x.lo = x.lo ∧ x.len = x.len ∧ x.cap =
  x.cap)) ∧ (True ∧ True) ∧ n.v = n.v ∧ v = (↑y_3.i : Int) ∧ True) ∧ ((0 : Nat) ≤ (0 : Nat) ∧ x.n = x.n ∧ ∀ (j : Nat), j < x.n → x.w j = x.w j ∧ x.a j = x.a j ∧ x.c j = x.c j ∧ True) ∧ ((5 : Nat) ≤ (5 : Nat) ∧ (q.v = q.v ∧
  t.v = t.v ∧ n.v = n.v ∧ True) ∧ (1 : Int) = (1 : Int) ∧ (True ∧ True) ∧ True) ∧ ((4 : Nat) ≤ (4 : Nat) ∧ (q.v = q.v ∧ t.v = t.v ∧ n.v = n.v ∧ True) ∧ (True ∧ True ∧ y_2.y.lo = y_3.y.lo ∧ y_2.y.len = y_3.y.len ∧ y_2.y.cap
  = y_3.y.cap) ∧ True) ∧ ((y_3.y.lo + y_3.y.cap) * (2 : Nat) ≤ (y_2.y.lo + y_2.y.cap) * (2 : Nat) ∧ y_3.y.N = y_2.y.N ∧ ∀ (j : Nat), j < y_2.y.N → y_2.y.a j = y_3.y.a j ∧ y_2.y.b j = y_3.y.b j ∧ True) ∧ True) ∧ (hsF q.v
  t.v n.v x).μ y_3 < (hsF q.v t.v n.v x).μ y))))) ∧ (((1 : Int) == (1 : Int)) = false → (((1 : Int) == (2 : Int)) = true → (decide (sumN y_2.k y_2.z.L > q.v) = true → (q.Ok ∧ t.Ok ∧ n.Ok ∧ x.Ok) ∧ rngI q.v t.v n.v → False
  ∧ True ∧ ((0 : Nat) ≤ (0 : Nat) ∧ x.n = x.n ∧ ∀ (j : Nat), j < x.n → x.w j = x.w j ∧ x.a j = x.a j ∧ x.c j = x.c j ∧ True) ∧ True) ∧ (decide (sumN y_2.k y_2.z.L > q.v) = false → (decide ((↑y_2.z.len : Int) > (1 : Int)) =
  true → (q.Ok ∧ t.Ok ∧ n.Ok ∧ x.Ok) ∧ rngI q.v t.v n.v → False ∧ True ∧ ((0 : Nat) ≤ (0 : Nat) ∧ x.n = x.n ∧ ∀ (j : Nat), j < x.n → x.w j = x.w j ∧ x.a j = x.a j ∧ x.c j = x.c j ∧ True) ∧ True) ∧ (decide ((↑y_2.z.len :
  Int) > (1 : Int)) = false → t.v ≠ (0 : Int) ∧ ∀ (v : Int), v = IntKind.u64.wrap (n.v + IntKind.u64.wrap (IntKind.u64.wrap (IntKind.u64.wrap ((IntKind.u64.wrap (y_2.m - n.v)).tdiv t.v) + (1 : Int)) * t.v)) → (((1 : Int)
  == (2 : Int)) = true → (((True ∧ True) ∧ v = v ∧ True) ∧ ((5 : Nat) ≤ (5 : Nat) ∧ (q.v = q.v ∧ t.v = t.v ∧ n.v = n.v ∧ True) ∧ (1 : Int) = (1 : Int) ∧ (True ∧ True) ∧ True) ∧ ((4 : Nat) ≤ (4 : Nat) ∧ (q.v = q.v ∧ t.v =
  t.v ∧ n.v = n.v ∧ True) ∧ (True ∧ True ∧ y_2.y.lo = y_2.y.lo ∧ y_2.y.len = y_2.y.len ∧ y_2.y.cap = y_2.y.cap) ∧ True) ∧ ((y_2.y.lo + y_2.y.cap) * (2 : Nat) ≤ (y_2.y.lo + y_2.y.cap) * (2 : Nat) ∧ y_2.y.N = y_2.y.N ∧ ∀ (j
  : Nat), j < y_2.y.N → y_2.y.a j = y_2.y.a j ∧ y_2.y.b j = y_2.y.b j ∧ True) ∧ True) ∧ (SS.mk q.v t.v n.v (CR.mk y_2.y.lo y_2.y.len y_2.y.cap y_2.y.N (fun (j : Nat) => y_2.y.a j) fun (j : Nat) => y_2.y.b j)).Ok ∧ ((usL
  (atI n.v v) y_2.y.L != q.v) = true → (q.Ok ∧ t.Ok ∧ n.Ok ∧ x.Ok) ∧ rngI q.v t.v n.v → False ∧ True ∧ ((0 : Nat) ≤ (0 : Nat) ∧ x.n = x.n ∧ ∀ (j : Nat), j < x.n → x.w j = x.w j ∧ x.a j = x.a j ∧ x.c j = x.c j ∧ True) ∧
  True) ∧ ((usL (atI n.v v) y_2.y.L != q.v) = false → (((True ∧ True) ∧ y_2.m = y_2.m ∧ True) ∧ ((5 : Nat) ≤ (5 : Nat) ∧ (q.v = q.v ∧ t.v = t.v ∧ n.v = n.v ∧ True) ∧ (1 : Int) = (1 : Int) ∧ (True ∧ True) ∧ True) ∧ ((4 :
  Nat) ≤ (4 : Nat) ∧ (q.v = q.v ∧ t.v = t.v ∧ n.v = n.v ∧ True) ∧ (True ∧ True ∧ y_2.y.lo = y_2.y.lo ∧ y_2.y.len = y_2.y.len ∧ y_2.y.cap = y_2.y.cap) ∧ True) ∧ ((y_2.y.lo + y_2.y.cap) * (2 : Nat) ≤ (y_2.y.lo + y_2.y.cap) *
  (2 : Nat) ∧ y_2.y.N = y_2.y.N ∧ ∀ (j : Nat), j < y_2.y.N → y_2.y.a j = y_2.y.a j ∧ y_2.y.b j = y_2.y.b j ∧ True) ∧ True) ∧ (SS.mk q.v t.v n.v (CR.mk y_2.y.lo y_2.y.len y_2.y.cap y_2.y.N (fun (j : Nat) => y_2.y.a j) fun
  (j : Nat) => y_2.y.b j)).Ok ∧ ((dueL t.v y_2.y.L != v) = true → (q.Ok ∧ t.Ok ∧ n.Ok ∧ x.Ok) ∧ rngI q.v t.v n.v → False ∧ True ∧ ((0 : Nat) ≤ (0 : Nat) ∧ x.n = x.n ∧ ∀ (j : Nat), j < x.n → x.w j = x.w j ∧ x.a j = x.a j ∧
  x.c j = x.c j ∧ True) ∧ True) ∧ ((dueL t.v y_2.y.L != v) = false → ∀ (v : Int), v = IntKind.i64.wrap ((↑y_2.i : Int) + (1 : Int)) → ∃ (y_3 : HI), (At n.v x y_3.i y_3.m ∧ y_3.y.Ok ∧ QL q.v y_3.y.L) ∧ (((1 : Int) = (1 :
  Int) ∧ q.v = q.v ∧ t.v = t.v ∧ y_2.m = y_3.m ∧ ((x.nil = true → x.nil = true) ∧ (x.nil = false → x.nil = false ∧ True ∧ True ∧ x.lo = x.lo ∧ x.len = x.len ∧ x.cap = x.cap)) ∧ (True ∧ True) ∧ n.v = n.v ∧ v = (↑y_3.i :
  Int) ∧ True) ∧ ((0 : Nat) ≤ (0 : Nat) ∧ x.n = x.n ∧ ∀ (j : Nat), j < x.n → x.w j = x.w j ∧ x.a j = x.a j ∧ x.c j = x.c j ∧ True) ∧ ((5 : Nat) ≤ (5 : Nat) ∧ (q.v = q.v ∧ t.v = t.v ∧ n.v = n.v ∧ True) ∧ (1 : Int) = (1 :
  Int) ∧ (True ∧ True) ∧ True) ∧ ((4 : Nat) ≤ (4 : Nat) ∧ (q.v = q.v ∧ t.v = t.v ∧ n.v = n.v ∧ True) ∧ (True ∧ True ∧ y_2.y.lo = y_3.y.lo ∧ y_2.y.len = y_3.y.len ∧ y_2.y.cap = y_3.y.cap) ∧ True) ∧ ((y_3.y.lo + y_3.y.cap) *
  (2 : Nat) ≤ (y_2.y.lo + y_2.y.cap) * (2 : Nat) ∧ y_3.y.N = y_2.y.N ∧ ∀ (j : Nat), j < y_2.y.N → y_2.y.a j = y_3.y.a j ∧ y_2.y.b j = y_3.y.b j ∧ True) ∧ True) ∧ (hsF q.v t.v n.v x).μ y_3 < (hsF q.v t.v n.v x).μ y))) ∧
  (((1 : Int) == (2 : Int)) = false → ∀ (v : Int), v = IntKind.i64.wrap ((↑y_2.i : Int) + (1 : Int)) → ∃ (y_3 : HI), (At n.v x y_3.i y_3.m ∧ y_3.y.Ok ∧ QL q.v y_3.y.L) ∧ (((1 : Int) = (1 : Int) ∧ q.v = q.v ∧ t.v = t.v ∧
  y_2.m = y_3.m ∧ ((x.nil = true → x.nil = true) ∧ (x.nil = false → x.nil = false ∧ True ∧ True ∧ x.lo = x.lo ∧ x.len = x.len ∧ x.cap = x.cap)) ∧ (True ∧ True) ∧ n.v = n.v ∧ v = (↑y_3.i : Int) ∧ True) ∧ ((0 : Nat) ≤ (0 :
  Nat) ∧ x.n = x.n ∧ ∀ (j : Nat), j < x.n → x.w j = x.w j ∧ x.a j = x.a j ∧ x.c j = x.c j ∧ True) ∧ ((5 : Nat) ≤ (5 : Nat) ∧ (q.v = q.v ∧ t.v = t.v ∧ n.v = n.v ∧ True) ∧ (1 : Int) = (1 : Int) ∧ (True ∧ True) ∧ True) ∧ ((4
  : Nat) ≤ (4 : Nat) ∧ (q.v = q.v ∧ t.v = t.v ∧ n.v = n.v ∧ True) ∧ (True ∧ True ∧ y_2.y.lo = y_3.y.lo ∧ y_2.y.len = y_3.y.len ∧ y_2.y.cap = y_3.y.cap) ∧ True) ∧ ((y_3.y.lo + y_3.y.cap) * (2 : Nat) ≤ (y_2.y.lo + y_2.y.cap)
  * (2 : Nat) ∧ y_3.y.N = y_2.y.N ∧ ∀ (j : Nat), j < y_2.y.N → y_2.y.a j = y_3.y.a j ∧ y_2.y.b j = y_3.y.b j ∧ True) ∧ True) ∧ (hsF q.v t.v n.v x).μ y_3 < (hsF q.v t.v n.v x).μ y)))) ∧ (((1 : Int) == (2 : Int)) = false →
  t.v ≠ (0 : Int) ∧ ∀ (v : Int), v = IntKind.u64.wrap (n.v + IntKind.u64.wrap (IntKind.u64.wrap (IntKind.u64.wrap ((IntKind.u64.wrap (y_2.m - n.v)).tdiv t.v) + (1 : Int)) * t.v)) → (((1 : Int) == (2 : Int)) = true →
  (((True ∧ True) ∧ v = v ∧ True) ∧ ((5 : Nat) ≤ (5 : Nat) ∧ (q.v = q.v ∧ t.v = t.v ∧ n.v = n.v ∧ True) ∧ (1 : Int) = (1 : Int) ∧ (True ∧ True) ∧ True) ∧ ((4 : Nat) ≤ (4 : Nat) ∧ (q.v = q.v ∧ t.v = t.v ∧ n.v = n.v ∧ True)
  ∧ (True ∧ True ∧ y_2.y.lo = y_2.y.lo ∧ y_2.y.len = y_2.y.len ∧ y_2.y.cap = y_2.y.cap) ∧ True) ∧ ((y_2.y.lo + y_2.y.cap) * (2 : Nat) ≤ (y_2.y.lo + y_2.y.cap) * (2 : Nat) ∧ y_2.y.N = y_2.y.N ∧ ∀ (j : Nat), j < y_2.y.N →
  y_2.y.a j = y_2.y.a j ∧ y_2.y.b j = y_2.y.b j ∧ True) ∧ True) ∧ (SS.mk q.v t.v n.v (CR.mk y_2.y.lo y_2.y.len y_2.y.cap y_2.y.N (fun (j : Nat) => y_2.y.a j) fun (j : Nat) => y_2.y.b j)).Ok ∧ ((usL (atI n.v v) y_2.y.L !=
  q.v) = true → (q.Ok ∧ t.Ok ∧ n.Ok ∧ x.Ok) ∧ rngI q.v t.v n.v → False ∧ True ∧ ((0 : Nat) ≤ (0 : Nat) ∧ x.n = x.n ∧ ∀ (j : Nat), j < x.n → x.w j = x.w j ∧ x.a j = x.a j ∧ x.c j = x.c j ∧ True) ∧ True) ∧ ((usL (atI n.v v)
  y_2.y.L != q.v) = false → (((True ∧ True) ∧ y_2.m = y_2.m ∧ True) ∧ ((5 : Nat) ≤ (5 : Nat) ∧ (q.v = q.v ∧ t.v = t.v ∧ n.v = n.v ∧ True) ∧ (1 : Int) = (1 : Int) ∧ (True ∧ True) ∧ True) ∧ ((4 : Nat) ≤ (4 : Nat) ∧ (q.v =
  q.v ∧ t.v = t.v ∧ n.v = n.v ∧ True) ∧ (True ∧ True ∧ y_2.y.lo = y_2.y.lo ∧ y_2.y.len = y_2.y.len ∧ y_2.y.cap = y_2.y.cap) ∧ True) ∧ ((y_2.y.lo + y_2.y.cap) * (2 : Nat) ≤ (y_2.y.lo + y_2.y.cap) * (2 : Nat) ∧ y_2.y.N =
  y_2.y.N ∧ ∀ (j : Nat), j < y_2.y.N → y_2.y.a j = y_2.y.a j ∧ y_2.y.b j = y_2.y.b j ∧ True) ∧ True) ∧ (SS.mk q.v t.v n.v (CR.mk y_2.y.lo y_2.y.len y_2.y.cap y_2.y.N (fun (j : Nat) => y_2.y.a j) fun (j : Nat) => y_2.y.b
  j)).Ok ∧ ((dueL t.v y_2.y.L != v) = true → (q.Ok ∧ t.Ok ∧ n.Ok ∧ x.Ok) ∧ rngI q.v t.v n.v → False ∧ True ∧ ((0 : Nat) ≤ (0 : Nat) ∧ x.n = x.n ∧ ∀ (j : Nat), j < x.n → x.w j = x.w j ∧ x.a j = x.a j ∧ x.c j = x.c j ∧ True)
  ∧ True) ∧ ((dueL t.v y_2.y.L != v) = false → ∀ (v : Int), v = IntKind.i64.wrap ((↑y_2.i : Int) + (1 : Int)) → ∃ (y_3 : HI), (At n.v x y_3.i y_3.m ∧ y_3.y.Ok ∧ QL q.v y_3.y.L) ∧ (((1 : Int) = (1 : Int) ∧ q.v = q.v ∧ t.v =
  t.v ∧ y_2.m = y_3.m ∧ ((x.nil = true → x.nil = true) ∧ (x.nil = false → x.nil = false ∧ True ∧ True ∧ x.lo = x.lo ∧ x.len = x.len ∧ x.cap = x.cap)) ∧ (True ∧ True) ∧ n.v = n.v ∧ v = (↑y_3.i : Int) ∧ True) ∧ ((0 : Nat) ≤
  (0 : Nat) ∧ x.n = x.n ∧ ∀ (j : Nat), j < x.n → x.w j = x.w j ∧ x.a j = x.a j ∧ x.c j = x.c j ∧ True) ∧ ((5 : Nat) ≤ (5 : Nat) ∧ (q.v = q.v ∧ t.v = t.v ∧ n.v = n.v ∧ True) ∧ (1 : Int) = (1 : Int) ∧ (True ∧ True) ∧ True) ∧
  ((4 : Nat) ≤ (4 : Nat) ∧ (q.v = q.v ∧ t.v = t.v ∧ n.v = n.v ∧ True) ∧ (True ∧ True ∧ y_2.y.lo = y_3.y.lo ∧ y_2.y.len = y_3.y.len ∧ y_2.y.cap = y_3.y.cap) ∧ True) ∧ ((y_3.y.lo + y_3.y.cap) * (2 : Nat) ≤ (y_2.y.lo +
  y_2.y.cap) * (2 : Nat) ∧ y_3.y.N = y_2.y.N ∧ ∀ (j : Nat), j < y_2.y.N → y_2.y.a j = y_3.y.a j ∧ y_2.y.b j = y_3.y.b j ∧ True) ∧ True) ∧ (hsF q.v t.v n.v x).μ y_3 < (hsF q.v t.v n.v x).μ y))) ∧ (((1 : Int) == (2 : Int)) =
  false → ∀ (v : Int), v = IntKind.i64.wrap ((↑y_2.i : Int) + (1 : Int)) → ∃ (y_3 : HI), (At n.v x y_3.i y_3.m ∧ y_3.y.Ok ∧ QL q.v y_3.y.L) ∧ (((1 : Int) = (1 : Int) ∧ q.v = q.v ∧ t.v = t.v ∧ y_2.m = y_3.m ∧ ((x.nil = true
  → x.nil = true) ∧ (x.nil = false → x.nil = false ∧ True ∧ True ∧ x.lo = x.lo ∧ x.len = x.len ∧ x.cap = x.cap)) ∧ (True ∧ True) ∧ n.v = n.v ∧ v = (↑y_3.i : Int) ∧ True) ∧ ((0 : Nat) ≤ (0 : Nat) ∧ x.n = x.n ∧ ∀ (j : Nat),
  j < x.n → x.w j = x.w j ∧ x.a j = x.a j ∧ x.c j = x.c j ∧ True) ∧ ((5 : Nat) ≤ (5 : Nat) ∧ (q.v = q.v ∧ t.v = t.v ∧ n.v = n.v ∧ True) ∧ (1 : Int) = (1 : Int) ∧ (True ∧ True) ∧ True) ∧ ((4 : Nat) ≤ (4 : Nat) ∧ (q.v = q.v
  ∧ t.v = t.v ∧ n.v = n.v ∧ True) ∧ (True ∧ True ∧ y_2.y.lo = y_3.y.lo ∧ y_2.y.len = y_3.y.len ∧ y_2.y.cap = y_3.y.cap) ∧ True) ∧ ((y_3.y.lo + y_3.y.cap) * (2 : Nat) ≤ (y_2.y.lo + y_2.y.cap) * (2 : Nat) ∧ y_3.y.N = y_2.y.N
  ∧ ∀ (j : Nat), j < y_2.y.N → y_2.y.a j = y_3.y.a j ∧ y_2.y.b j = y_3.y.b j ∧ True) ∧ True) ∧ (hsF q.v t.v n.v x).μ y_3 < (hsF q.v t.v n.v x).μ y))))) ∧ (decide ((↑y.i : Int) < (↑x.len : Int)) = false → (q.Ok ∧ t.Ok ∧
  n.Ok ∧ x.Ok) ∧ rngI q.v t.v n.v → True ∧ True ∧ ((0 : Nat) ≤ (0 : Nat) ∧ x.n = x.n ∧ ∀ (j : Nat), j < x.n → x.w j = x.w j ∧ x.a j = x.a j ∧ x.c j = x.c j ∧ True) ∧ True))) := by
  simp only [true_and, and_true, eq_self, Nat.le_refl, decide_eq_true_eq, decide_eq_false_iff_not, beq_iff_eq, beq_eq_false_iff_ne, implies_true, true_implies, and_self, bne_iff_ne, Int.not_lt, Int.not_le, gt_iff_lt, ne_eq, Int.toNat_natCast, IntKind.wrap_u64, IntKind.wrap_i64, bne_eq_false_iff_eq, Bool.not_eq_true', Bool.not_eq_false']
  rintro q t n x ⟨⟨hq, ht, hn, hx⟩, hr⟩
  have hr0 := hr
  obtain ⟨a1, a2, a3, a4⟩ := hr0
  have hx1 := hx.1
  have hx2 := hx.2.1
  have hn1 := hn.1
  have hM : ∀ z : HI, (hsF q.v t.v n.v x).μ z = x.len - z.i := fun _ => rfl
  have hM2 : ∀ (u : Nat) (z : HJ), (hsG q.v t.v n.v x u).μ z = z.z.len - z.k := fun _ _ => rfl
  simp only [hM, hM2]
  have mk : ∀ y : CR, y.Ok → QL q.v y.L → (⟨q.v, t.v, n.v, y⟩ : SS).Ok := fun y h1 h2 => SS.ok_of h1 h2 a1 a2 a3 hn.1 a4
  refine ⟨hr, fun x1 h1 v hv _ => ⟨⟨id, id⟩, ⟨hx1, hx2⟩, fun hsm v hv v1 hv1 => ⟨⟨⟨0, n.v, x1⟩, ⟨At.start hn.1 hsm, h1.1, by dsimp only; rw [h1.2]; exact QL.new a1 hn.1 (by omega)⟩, ⟨rfl, ⟨id, id⟩, hv, hv1⟩, ⟨rfl, rfl, rfl⟩, Nat.le_refl _, rfl, fun j _ => ⟨rfl, rfl⟩⟩, fun y hy => ?_⟩⟩⟩
  obtain ⟨hA, hyo, hyq⟩ := hy
  have hxl := hA.xl
  refine ⟨hx1, fun hlt => ⟨hx1, by omega, by omega, fun v hv => ?_⟩⟩
  obtain ⟨s1, s2, s3, s4⟩ := hA.step hx (by omega)
  rw [s2] at hv
  have hc := (hx.2.2 y.i (by omega)).2.1
  have m0 := hA.m0
  have hat : atI n.v v = v := atI_id (by omega) (by omega)
  rw [hat]
  refine ⟨y.i, ⟨hx1, by omega, by omega, fun hw => ⟨mk _ hyo hyq, fun z hz => ⟨⟨y.i, v, z⟩, ⟨rfl, by dsimp only; omega, by dsimp only; rw [hv]; exact s1, hz.1, by dsimp only; rw [hz.2]; exact hyq.wake a1 (by omega) (by omega)⟩, ⟨rfl, ⟨id, id⟩, rfl⟩, ⟨rfl, rfl, rfl⟩, Nat.le_refl _, rfl, fun j _ => ⟨rfl, rfl⟩⟩⟩, fun hw => ?_⟩, fun u hu => ?_⟩
  · refine ⟨hx1, by omega, by omega, ⟨mk _ hyo hyq, hc⟩, fun z hz w hw2 => ⟨hx1, by omega, by omega, ?_⟩⟩
    have qz : QL q.v z.L := by rw [hz.2]; exact hyq.charge a1 (by omega) hc (by omega) (by omega)
    have hmin : w = if q.v < x.c (x.lo + y.i) then q.v else x.c (x.lo + y.i) := hw2
    have hb : w ≤ x.c (x.lo + y.i) ∧ w ≤ q.v := by rw [hmin]; split <;> omega
    exact ⟨fun h _ => by omega, fun _ => ⟨fun h _ => by omega, fun _ => ⟨⟨hx1, by omega, by omega, fun h _ => h hmin, fun _ => ⟨⟨y.i, v, z⟩, ⟨rfl, by dsimp only; omega, by dsimp only; rw [hv]; exact s1, hz.1, qz⟩, ⟨rfl, ⟨id, id⟩, rfl⟩, ⟨rfl, rfl, rfl⟩, Nat.le_refl _, rfl, fun j _ => ⟨rfl, rfl⟩⟩⟩, fun h => absurd trivial h⟩⟩⟩
  · obtain ⟨u1, u2, u3, u4, u5⟩ := hu
    refine ⟨mk _ u4 u5, fun z hz v hv v2 hv2 => ⟨y.i, ⟨⟨u.i, u.m, u.y, z, 0⟩, ⟨u1, u2, u3, u4, u5, hz.1.1, hz.2, Nat.zero_le _⟩, ⟨rfl, ⟨id, id⟩, rfl, ⟨rfl, rfl, rfl⟩, hv, hv2⟩, ⟨rfl, rfl, rfl⟩, ⟨Nat.le_refl _, rfl, fun j _ => ⟨rfl, rfl⟩⟩, Nat.le_refl _, rfl, fun j _ => ⟨rfl, rfl⟩⟩, fun w hw => ?_⟩⟩
    obtain ⟨w0, w1, w2, w3, w4, w5, w6, w7⟩ := hw
    have o5 := w5.1
    have qz : QL q.v w.z.L := by rw [w6]; exact w4
    have hln := qz.ln
    rw [CR.L_len] at hln
    refine ⟨fun hk => ?_, fun hk => ?_⟩
    · have hg : w.z.L[w.k]? = some (w.z.a (w.z.lo + w.k), w.z.b (w.z.lo + w.k)) := by rw [CR.L_get, if_pos (by omega)]
      have hp := qz.inl.pos _ (List.mem_of_getElem? hg)
      have hp : 1 ≤ w.z.b (w.z.lo + w.k) := hp
      have hs := sumN_succ hg
      have hb := sumN_bd qz.inl.pos (w.k + 1)
      rw [qz.tot] at hb
      have nx : ∀ v2 v3 : Int, v2 = (sumN w.k w.z.L + w.z.b (w.z.lo + w.k)) % 18446744073709551616 → v3 = ((w.k : Int) + 1 + 9223372036854775808) % 18446744073709551616 - 9223372036854775808 → v2 = sumN (w.k + 1) w.z.L ∧ v3 = ((w.k + 1 : Nat) : Int) := fun v2 v3 h1 h2 => ⟨by omega, by omega⟩
      refine ⟨by omega, by omega, fun v2 hv2 => ⟨by omega, by omega, fun h _ => by omega, fun _ => ⟨fun hk0 => ⟨by omega, by omega, by omega, by omega, fun h _ => ?_, fun _ v3 hv3 => ?_⟩, fun hk0 v3 hv3 => ?_⟩⟩⟩
      · have e1 : (((w.k : Int) - 1 + 9223372036854775808) % 18446744073709551616 - 9223372036854775808).toNat = w.k - 1 := by omega
        rw [e1] at h
        have hg2 : w.z.L[w.k - 1]? = some (w.z.a (w.z.lo + (w.k - 1)), w.z.b (w.z.lo + (w.k - 1))) := by rw [CR.L_get, if_pos (by omega)]
        have := rise_lt qz.inl.rise (w.k - 1) w.k _ _ (by omega) hg2 hg
        dsimp only at this
        omega
      · obtain ⟨n1, n2⟩ := nx v2 v3 hv2 hv3
        exact ⟨⟨w.i, w.m, w.y, w.z, w.k + 1⟩, ⟨w0, w1, w2, w3, w4, w5, w6, by dsimp only; omega⟩, ⟨⟨rfl, ⟨id, id⟩, rfl, ⟨rfl, rfl, rfl⟩, n1, n2⟩, ⟨rfl, rfl, rfl⟩, ⟨Nat.le_refl _, rfl, fun j _ => ⟨rfl, rfl⟩⟩, Nat.le_refl _, rfl, fun j _ => ⟨rfl, rfl⟩⟩, by dsimp only; omega⟩
      · obtain ⟨n1, n2⟩ := nx v2 v3 hv2 hv3
        exact ⟨⟨w.i, w.m, w.y, w.z, w.k + 1⟩, ⟨w0, w1, w2, w3, w4, w5, w6, by dsimp only; omega⟩, ⟨⟨rfl, ⟨id, id⟩, rfl, ⟨rfl, rfl, rfl⟩, n1, n2⟩, ⟨rfl, rfl, rfl⟩, ⟨Nat.le_refl _, rfl, fun j _ => ⟨rfl, rfl⟩⟩, Nat.le_refl _, rfl, fun j _ => ⟨rfl, rfl⟩⟩, by dsimp only; omega⟩
    · have hs : sumN w.k w.z.L = q.v := by
        have h1 := sumN_drop w.k w.z.L
        rw [List.drop_eq_nil_of_le (by rw [CR.L_len]; omega), qz.tot] at h1
        simp only [totL] at h1
        omega
      exact ⟨⟨fun h _ => h hs, fun _ => ⟨fun h _ => by omega, fun _ => ⟨fun h => absurd h (by decide), fun _ => ⟨by omega, fun v2 hv2 => ⟨fun h => absurd h (by decide), fun _ v3 hv3 => ⟨⟨w.i + 1, w.m, w.y⟩, ⟨w2, w3, w4⟩, ⟨⟨rfl, ⟨id, id⟩, by dsimp only; omega⟩, ⟨rfl, rfl, rfl⟩, Nat.le_refl _, rfl, fun j _ => ⟨rfl, rfl⟩⟩, by dsimp only; omega⟩⟩⟩⟩⟩⟩, fun h => absurd trivial h⟩

def hs_C (x : (A64 × A64 × A64 × CS)) : Cfg := { Γ := Go.Sx.look tHs, names := true, loops := hsL (x.1).v (x.2.1).v (x.2.2.1).v (x.2.2.2), cuts := hsU (x.1).v (x.2.1).v (x.2.2.1).v (x.2.2.2) }
theorem hs_al (x : (A64 × A64 × A64 × CS)) : Shown (hsP.vc Try.prog (hs_C x) Try.f4 x) := ⟨@Eq.mp _ _ (by kernel_rfl) (hs_vc (x.1) (x.2.1) (x.2.2.1) (x.2.2.2))⟩
theorem hs_ok : SpOk Try.prog 4 hsP.sp := @Pat.okS _ hsP Try.prog hs_C 4 Try.f4 (fun x => cfg_tab rfl tHs_ok) (by kernel_rfl) Try.func4 (fun _ => rfl) hs_al
end Go.Proofs.Ytokiakcmdbihhaa
