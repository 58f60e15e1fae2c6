import Derived.Test.YtokiakcmdbihhaaS16
open Go Go.Sx Go.Proofs
set_option maxRecDepth 100000
namespace Go.Proofs.Ytokiakcmdbihhaa

structure WI where
  i : Nat
  m : Int
  y : CR
  z : CR
def wsF (q t n : Int) (x : CS) : Fam where
  α := WI
  I w := At n x w.i w.m ∧ w.y.Ok ∧ w.z.Ok ∧ QL q w.y.L ∧ w.z.L = w.y.L
  st w := { sl := mkSl 165 [(3, .int .u64 w.m), (4, x.v 0), (11, p0 1), (13, p0 4), (15, .int .i64 w.i)], H := [x.reg] ++ (⟨q, t, n, w.y⟩ : SS).Vr 1 ++ (⟨q, t, n, w.z⟩ : SS).Vr 4 }
  μ w := x.len - w.i
structure WK where
  k : Nat
  y : CR
  z : CR
def wsG (x : CS) : Fam where
  α := WK
  I w := w.k ≤ w.y.len ∧ w.y.len ≤ 8 ∧ w.y.Ok ∧ w.z.Ok ∧ w.y.L = w.z.L
  st w := { sl := mkSl 165 [(18, w.y.v 1), (19, w.z.v 2), (20, .int .i64 w.k)], H := [x.reg, w.y.reg, w.z.reg] }
  μ w := w.y.len - w.k
def wsL (q t n : Int) (x : CS) : Nat → Gam
  | 8 => .l [wsF q t n x]
  | 26 => .l [wsG x]
  | _ => .l []
def wM : Nat → Nat
  | 12 => 1
  | _ => 0
def wsP : Pat (A64 × A64 × A64 × CS) where
  view _ _ := none
  args x := [.int .i64 1, x.1.t, x.2.1.t, x.2.2.1.t, x.2.2.2.v 0]
  H x := [x.2.2.2.reg]
  out x := .need ((x.1.Ok ∧ x.2.1.Ok ∧ x.2.2.1.Ok ∧ x.2.2.2.Ok) ∧ rngI x.1.v x.2.1.v x.2.2.1.v) (.retq .tt)
def tWs : Tab := [(8, aliveP.sp), (9, n1P.sp), (10, grP.sp), (11, swP.sp), (12, suP.sp), (13, scP.sp), (15, slP.sp), (14, skP.sp)]
theorem tWs_ok : TabOk Try.prog tWs := (tab_cons alive_ok (tab_cons n1_ok (tab_cons gr_ok (tab_cons sw_ok (tab_cons su_ok (tab_cons sc__ok (tab_cons sl__ok (tab_cons sk_ok tab_nil))))))))

theorem ws_vc : ∀ (q t n : A64) (x : CS), ((q.Ok ∧ t.Ok ∧ n.Ok ∧ x.Ok) ∧ rngI q.v t.v n.v) ∧ True → (True ∧ True) ∧ (((1 : Int) = (1 : Int) ∧ q.v = q.v ∧ t.v = t.v ∧ n.v = n.v ∧ True) ∧ True) ∧ rngI q.v t.v n.v ∧ ∀ (x_1 : CR), x_1.Ok ∧
  x_1.L = [(n.v, q.v)] → ∀ (v : Int), v = (0 : Int) → (((1 : Int) = (1 : Int) ∧ q.v = q.v ∧ t.v = t.v ∧ n.v = n.v ∧ True) ∧ True) ∧ rngI q.v t.v n.v ∧ ∀ (x_2 : CR), x_2.Ok ∧ x_2.L = [(n.v, q.v)] → ∀ (v_1 : Int), v_1 = (0 :
  Int) → ((v != (0 : Int)) = true → (q.Ok ∧ t.Ok ∧ n.Ok ∧ x.Ok) ∧ rngI q.v t.v n.v → True ∧ True ∧ ((0 : Nat) ≤ (0 : Nat) ∧ x.n = x.n ∧ ∀ (j : Nat), j < x.n → x.w j = x.w j ∧ x.a j = x.a j ∧ x.c j = x.c j ∧ True) ∧ True) ∧
  ((v != (0 : Int)) = false → ((v_1 != (0 : Int)) = true → (q.Ok ∧ t.Ok ∧ n.Ok ∧ x.Ok) ∧ rngI q.v t.v n.v → True ∧ True ∧ ((0 : Nat) ≤ (0 : Nat) ∧ x.n = x.n ∧ ∀ (j : Nat), j < x.n → x.w j = x.w j ∧ x.a j = x.a j ∧ x.c j =
  x.c j ∧ True) ∧ True) ∧ ((v_1 != (0 : Int)) = false → ((n.v = n.v ∧ ((x.nil = true → x.nil = true) ∧ (x.nil = false → x.nil = false ∧ True ∧ True ∧ x.lo = x.lo ∧ x.len = x.len ∧ x.cap = x.cap)) ∧ True) ∧ ((0 : Nat) ≤ (0
  : Nat) ∧ x.n = x.n ∧ ∀ (j : Nat), j < x.n → x.w j = x.w j ∧ x.a j = x.a j ∧ x.c j = x.c j ∧ True) ∧ True) ∧ ((x.nil = true → x.len = (0 : Nat)) ∧ x.lo + x.len ≤ x.n) ∧ ((!decide (small n.v x)) = true → (q.Ok ∧ t.Ok ∧
  n.Ok ∧ x.Ok) ∧ rngI q.v t.v n.v → True ∧ True ∧ ((0 : Nat) ≤ (0 : Nat) ∧ x.n = x.n ∧ ∀ (j : Nat), j < x.n → x.w j = x.w j ∧ x.a j = x.a j ∧ x.c j = x.c j ∧ True) ∧ True) ∧ ((!decide (small n.v x)) = false → ∀ (v : Int),
  v = (0 : Int) → (∃ (y : WI), (At n.v x y.i y.m ∧ y.y.Ok ∧ y.z.Ok ∧ QL q.v y.y.L ∧ y.z.L = y.y.L) ∧ ((n.v = y.m ∧ ((x.nil = true → x.nil = true) ∧ (x.nil = false → x.nil = false ∧ True ∧ True ∧ x.lo = x.lo ∧ x.len = x.len
  ∧ x.cap = x.cap)) ∧ (True ∧ True) ∧ (True ∧ True) ∧ v = (↑y.i : Int) ∧ True) ∧ ((0 : Nat) ≤ (0 : Nat) ∧ x.n = x.n ∧ ∀ (j : Nat), j < x.n → x.w j = x.w j ∧ x.a j = x.a j ∧ x.c j = x.c j ∧ True) ∧ ((5 : Nat) ≤ (5 : Nat) ∧
  (q.v = q.v ∧ t.v = t.v ∧ n.v = n.v ∧ True) ∧ (1 : Int) = (1 : Int) ∧ (True ∧ True) ∧ True) ∧ ((4 : Nat) ≤ (4 : Nat) ∧ (q.v = q.v ∧ t.v = t.v ∧ n.v = n.v ∧ True) ∧ (True ∧ True ∧ x_1.lo = y.y.lo ∧ x_1.len = y.y.len ∧
  x_1.cap = y.y.cap) ∧ True) ∧ ((y.y.lo + y.y.cap) * (2 : Nat) ≤ (x_1.lo + x_1.cap) * (2 : Nat) ∧ y.y.N = x_1.N ∧ ∀ (j : Nat), j < x_1.N → x_1.a j = y.y.a j ∧ x_1.b j = y.y.b j ∧ True) ∧ ((5 : Nat) ≤ (5 : Nat) ∧ (q.v = q.v
  ∧ t.v = t.v ∧ n.v = n.v ∧ True) ∧ (1 : Int) = (1 : Int) ∧ (True ∧ True) ∧ True) ∧ ((4 : Nat) ≤ (4 : Nat) ∧ (q.v = q.v ∧ t.v = t.v ∧ n.v = n.v ∧ True) ∧ (True ∧ True ∧ x_2.lo = y.z.lo ∧ x_2.len = y.z.len ∧ x_2.cap =
  y.z.cap) ∧ True) ∧ ((y.z.lo + y.z.cap) * (2 : Nat) ≤ (x_2.lo + x_2.cap) * (2 : Nat) ∧ y.z.N = x_2.N ∧ ∀ (j : Nat), j < x_2.N → x_2.a j = y.z.a j ∧ x_2.b j = y.z.b j ∧ True) ∧ True) ∧ True) ∧ ∀ (y : WI), At n.v x y.i y.m
  ∧ y.y.Ok ∧ y.z.Ok ∧ QL q.v y.y.L ∧ y.z.L = y.y.L → (x.nil = true → x.len = (0 : Nat)) ∧ (decide ((↑y.i : Int) < (↑x.len : Int)) = true → (x.nil = true → x.len = (0 : Nat)) ∧ ((0 : Int) ≤ (↑y.i : Int) ∧ (↑y.i : Int) <
  (↑x.len : Int)) ∧ x.lo + (↑y.i : Int).toNat < x.n ∧ ∀ (v : Int), v = IntKind.u64.wrap (y.m + x.a (x.lo + (↑y.i : Int).toNat)) → (x.nil = true → x.len = (0 : Nat)) ∧ ((0 : Int) ≤ (↑y.i : Int) ∧ (↑y.i : Int) < (↑x.len :
  Int)) ∧ x.lo + (↑y.i : Int).toNat < x.n ∧ ((x.w (x.lo + (↑y.i : Int).toNat) == (1 : Int)) = true → (x.nil = true → x.len = (0 : Nat)) ∧ ((0 : Int) ≤ (↑y.i : Int) ∧ (↑y.i : Int) < (↑x.len : Int)) ∧ x.lo + (↑y.i :
  Int).toNat < x.n ∧ (x.nil = true → x.len = (0 : Nat)) ∧ ((0 : Int) ≤ (↑y.i : Int) ∧ (↑y.i : Int) < (↑x.len : Int)) ∧ x.lo + (↑y.i : Int).toNat < x.n ∧ (((True ∧ True) ∧ v = v ∧ x.c (x.lo + (↑y.i : Int).toNat) = x.c (x.lo
  + (↑y.i : Int).toNat) ∧ True) ∧ ((5 : Nat) ≤ (5 : Nat) ∧ (q.v = q.v ∧ t.v = t.v ∧ n.v = n.v ∧ True) ∧ (1 : Int) = (1 : Int) ∧ (True ∧ True) ∧ True) ∧ ((4 : Nat) ≤ (4 : Nat) ∧ (q.v = q.v ∧ t.v = t.v ∧ n.v = n.v ∧ True) ∧
  (True ∧ True ∧ y.y.lo = y.y.lo ∧ y.y.len = y.y.len ∧ y.y.cap = y.y.cap) ∧ True) ∧ ((y.y.lo + y.y.cap) * (2 : Nat) ≤ (y.y.lo + y.y.cap) * (2 : Nat) ∧ y.y.N = y.y.N ∧ ∀ (j : Nat), j < y.y.N → y.y.a j = y.y.a j ∧ y.y.b j =
  y.y.b j ∧ True) ∧ True) ∧ ((SS.mk q.v t.v n.v (CR.mk y.y.lo y.y.len y.y.cap y.y.N (fun (j : Nat) => y.y.a j) fun (j : Nat) => y.y.b j)).Ok ∧ (0 : Int) ≤ x.c (x.lo + (↑y.i : Int).toNat)) ∧ ∀ (x_3 : CR), x_3.Ok ∧ x_3.L =
  chargeL q.v t.v (atI n.v v) (x.c (x.lo + (↑y.i : Int).toNat)) y.y.L → (((True ∧ True) ∧ v = v ∧ x.c (x.lo + (↑y.i : Int).toNat) = x.c (x.lo + (↑y.i : Int).toNat) ∧ True) ∧ ((5 : Nat) ≤ (5 : Nat) ∧ (q.v = q.v ∧ t.v = t.v
  ∧ n.v = n.v ∧ True) ∧ (1 : Int) = (1 : Int) ∧ (True ∧ True) ∧ True) ∧ ((4 : Nat) ≤ (4 : Nat) ∧ (q.v = q.v ∧ t.v = t.v ∧ n.v = n.v ∧ True) ∧ (True ∧ True ∧ y.z.lo = y.z.lo ∧ y.z.len = y.z.len ∧ y.z.cap = y.z.cap) ∧ True)
  ∧ ((y.z.lo + y.z.cap) * (2 : Nat) ≤ (y.z.lo + y.z.cap) * (2 : Nat) ∧ y.z.N = y.z.N ∧ ∀ (j : Nat), j < y.z.N → y.z.a j = y.z.a j ∧ y.z.b j = y.z.b j ∧ True) ∧ True) ∧ ((SS.mk q.v t.v n.v (CR.mk y.z.lo y.z.len y.z.cap
  y.z.N (fun (j : Nat) => y.z.a j) fun (j : Nat) => y.z.b j)).Ok ∧ (0 : Int) ≤ x.c (x.lo + (↑y.i : Int).toNat)) ∧ ∀ (x_4 : CR), x_4.Ok ∧ x_4.L = chargeL q.v t.v (atI n.v v) (x.c (x.lo + (↑y.i : Int).toNat)) y.z.L → ((cI
  q.v (x.c (x.lo + (↑y.i : Int).toNat)) != cI q.v (x.c (x.lo + (↑y.i : Int).toNat))) = true → (q.Ok ∧ t.Ok ∧ n.Ok ∧ x.Ok) ∧ rngI q.v t.v n.v → False ∧ True ∧ ((0 : Nat) ≤ (0 : Nat) ∧ x.n = x.n ∧ ∀ (j : Nat), j < x.n → x.w
  j = x.w j ∧ x.a j = x.a j ∧ x.c j = x.c j ∧ True) ∧ True) ∧ ((cI q.v (x.c (x.lo + (↑y.i : Int).toNat)) != cI q.v (x.c (x.lo + (↑y.i : Int).toNat))) = false → ∀ (v_2 : Int), v_2 = IntKind.i64.wrap ((↑y.i : Int) + (1 :
  Int)) → ∃ (y_1 : WI), (At n.v x y_1.i y_1.m ∧ y_1.y.Ok ∧ y_1.z.Ok ∧ QL q.v y_1.y.L ∧ y_1.z.L = y_1.y.L) ∧ ((v = y_1.m ∧ ((x.nil = true → x.nil = true) ∧ (x.nil = false → x.nil = false ∧ True ∧ True ∧ x.lo = x.lo ∧ x.len
  = x.len ∧ x.cap = x.cap)) ∧ (True ∧ True) ∧ (True ∧ True) ∧ v_2 = (↑y_1.i : Int) ∧ True) ∧ ((0 : Nat) ≤ (0 : Nat) ∧ x.n = x.n ∧ ∀ (j : Nat), j < x.n → x.w j = x.w j ∧ x.a j = x.a j ∧ x.c j = x.c j ∧ True) ∧ ((5 : Nat) ≤
  (5 : Nat) ∧ (q.v = q.v ∧ t.v = t.v ∧ n.v = n.v ∧ True) ∧ (1 : Int) = (1 : Int) ∧ (True ∧ True) ∧ True) ∧ ((4 : Nat) ≤ (4 : Nat) ∧ (q.v = q.v ∧ t.v = t.v ∧ n.v = n.v ∧ True) ∧ (True ∧ True ∧ x_3.lo = y_1.y.lo ∧ x_3.len =
  y_1.y.len ∧ x_3.cap = y_1.y.cap) ∧ True) ∧ ((y_1.y.lo + y_1.y.cap) * (2 : Nat) ≤ (x_3.lo + x_3.cap) * (2 : Nat) ∧ y_1.y.N = x_3.N ∧ ∀ (j : Nat), j < x_3.N → x_3.a j = y_1.y.a j ∧ x_3.b j = y_1.y.b j ∧ True) ∧ ((5 : Nat)
  ≤ (5 : Nat) ∧ (q.v = q.v ∧ t.v = t.v ∧ n.v = n.v ∧ True) ∧ (1 : Int) = (1 : Int) ∧ (True ∧ True) ∧ True) ∧ ((4 : Nat) ≤ (4 : Nat) ∧ (q.v = q.v ∧ t.v = t.v ∧ n.v = n.v ∧ True) ∧ (True ∧ True ∧ x_4.lo = y_1.z.lo ∧ x_4.len
  = y_1.z.len ∧ x_4.cap = y_1.z.cap) ∧ True) ∧ ((y_1.z.lo + y_1.z.cap) * (2 : Nat) ≤ (x_4.lo + x_4.cap) * (2 : Nat) ∧ y_1.z.N = x_4.N ∧ ∀ (j : Nat), j < x_4.N → x_4.a j = y_1.z.a j ∧ x_4.b j = y_1.z.b j ∧ True) ∧ True) ∧
  (wsF q.v t.v n.v x).μ y_1 < (wsF q.v t.v n.v x).μ y)) ∧ ((x.w (x.lo + (↑y.i : Int).toNat) == (1 : Int)) = false → (((True ∧ True) ∧ v = v ∧ True) ∧ ((5 : Nat) ≤ (5 : Nat) ∧ (q.v = q.v ∧ t.v = t.v ∧ n.v = n.v ∧ True) ∧ (1
  : Int) = (1 : Int) ∧ (True ∧ True) ∧ True) ∧ ((4 : Nat) ≤ (4 : Nat) ∧ (q.v = q.v ∧ t.v = t.v ∧ n.v = n.v ∧ True) ∧ (True ∧ True ∧ y.y.lo = y.y.lo ∧ y.y.len = y.y.len ∧ y.y.cap = y.y.cap) ∧ True) ∧ ((y.y.lo + y.y.cap) *
  (2 : Nat) ≤ (y.y.lo + y.y.cap) * (2 : Nat) ∧ y.y.N = y.y.N ∧ ∀ (j : Nat), j < y.y.N → y.y.a j = y.y.a j ∧ y.y.b j = y.y.b j ∧ True) ∧ True) ∧ (SS.mk q.v t.v n.v (CR.mk y.y.lo y.y.len y.y.cap y.y.N (fun (j : Nat) => y.y.a
  j) fun (j : Nat) => y.y.b j)).Ok ∧ ∀ (v_2 : Int), v_2 = usL (atI n.v v) y.y.L → (((True ∧ True) ∧ v = v ∧ True) ∧ ((5 : Nat) ≤ (5 : Nat) ∧ (q.v = q.v ∧ t.v = t.v ∧ n.v = n.v ∧ True) ∧ (1 : Int) = (1 : Int) ∧ (True ∧
  True) ∧ True) ∧ ((4 : Nat) ≤ (4 : Nat) ∧ (q.v = q.v ∧ t.v = t.v ∧ n.v = n.v ∧ True) ∧ (True ∧ True ∧ y.y.lo = y.y.lo ∧ y.y.len = y.y.len ∧ y.y.cap = y.y.cap) ∧ True) ∧ ((y.y.lo + y.y.cap) * (2 : Nat) ≤ (y.y.lo + y.y.cap)
  * (2 : Nat) ∧ y.y.N = y.y.N ∧ ∀ (j : Nat), j < y.y.N → y.y.a j = y.y.a j ∧ y.y.b j = y.y.b j ∧ True) ∧ True) ∧ (SS.mk q.v t.v n.v (CR.mk y.y.lo y.y.len y.y.cap y.y.N (fun (j : Nat) => y.y.a j) fun (j : Nat) => y.y.b
  j)).Ok ∧ ∀ (v_3 : Int), v_3 = dueL t.v y.y.L → (((True ∧ True) ∧ v = v ∧ True) ∧ ((5 : Nat) ≤ (5 : Nat) ∧ (q.v = q.v ∧ t.v = t.v ∧ n.v = n.v ∧ True) ∧ (1 : Int) = (1 : Int) ∧ (True ∧ True) ∧ True) ∧ ((4 : Nat) ≤ (4 :
  Nat) ∧ (q.v = q.v ∧ t.v = t.v ∧ n.v = n.v ∧ True) ∧ (True ∧ True ∧ y.y.lo = y.y.lo ∧ y.y.len = y.y.len ∧ y.y.cap = y.y.cap) ∧ True) ∧ ((y.y.lo + y.y.cap) * (2 : Nat) ≤ (y.y.lo + y.y.cap) * (2 : Nat) ∧ y.y.N = y.y.N ∧ ∀
  (j : Nat), j < y.y.N → y.y.a j = y.y.a j ∧ y.y.b j = y.y.b j ∧ True) ∧ True) ∧ (SS.mk q.v t.v n.v (CR.mk y.y.lo y.y.len y.y.cap y.y.N (fun (j : Nat) => y.y.a j) fun (j : Nat) => y.y.b j)).Ok ∧ ∀ (x_3 : CR), x_3.Ok ∧
  x_3.L = wakeL (atI n.v v) y.y.L → (((True ∧ True) ∧ v = v ∧ True) ∧ ((5 : Nat) ≤ (5 : Nat) ∧ (q.v = q.v ∧ t.v = t.v ∧ n.v = n.v ∧ True) ∧ (1 : Int) = (1 : Int) ∧ (True ∧ True) ∧ True) ∧ ((4 : Nat) ≤ (4 : Nat) ∧ (q.v =
  q.v ∧ t.v = t.v ∧ n.v = n.v ∧ True) ∧ (True ∧ True ∧ y.z.lo = y.z.lo ∧ y.z.len = y.z.len ∧ y.z.cap = y.z.cap) ∧ True) ∧ ((y.z.lo + y.z.cap) * (2 : Nat) ≤ (y.z.lo + y.z.cap) * (2 : Nat) ∧ y.z.N = y.z.N ∧ ∀ (j : Nat), j <
  y.z.N → y.z.a j = y.z.a j ∧ y.z.b j = y.z.b j ∧ True) ∧ True) ∧ (SS.mk q.v t.v n.v (CR.mk y.z.lo y.z.len y.z.cap y.z.N (fun (j : Nat) => y.z.a j) fun (j : Nat) => y.z.b j)).Ok ∧ ∀ (x_4 : CR), x_4.Ok ∧ x_4.L = wakeL (atI
  n.v v) y.z.L → (((True ∧ True) ∧ v = v ∧ True) ∧ ((5 : Nat) ≤ (5 : Nat) ∧ (q.v = q.v ∧ t.v = t.v ∧ n.v = n.v ∧ True) ∧ (1 : Int) = (1 : Int) ∧ (True ∧ True) ∧ True) ∧ ((4 : Nat) ≤ (4 : Nat) ∧ (q.v = q.v ∧ t.v = t.v ∧ n.v
  = n.v ∧ True) ∧ (True ∧ True ∧ x_4.lo = x_4.lo ∧ x_4.len = x_4.len ∧ x_4.cap = x_4.cap) ∧ True) ∧ ((x_4.lo + x_4.cap) * (2 : Nat) ≤ (x_4.lo + x_4.cap) * (2 : Nat) ∧ x_4.N = x_4.N ∧ ∀ (j : Nat), j < x_4.N → x_4.a j =
  x_4.a j ∧ x_4.b j = x_4.b j ∧ True) ∧ True) ∧ (SS.mk q.v t.v n.v (CR.mk x_4.lo x_4.len x_4.cap x_4.N (fun (j : Nat) => x_4.a j) fun (j : Nat) => x_4.b j)).Ok ∧ ∀ (x_5 : CR), x_5.Ok ∧ x_5.L = wakeL (atI n.v v) x_4.L →
  (((True ∧ True) ∧ v = v ∧ True) ∧ ((5 : Nat) ≤ (5 : Nat) ∧ (q.v = q.v ∧ t.v = t.v ∧ n.v = n.v ∧ True) ∧ (1 : Int) = (1 : Int) ∧ (True ∧ True) ∧ True) ∧ ((4 : Nat) ≤ (4 : Nat) ∧ (q.v = q.v ∧ t.v = t.v ∧ n.v = n.v ∧ True)
  ∧ (True ∧ True ∧ x_3.lo = x_3.lo ∧ x_3.len = x_3.len ∧ x_3.cap = x_3.cap) ∧ True) ∧ ((x_3.lo + x_3.cap) * (2 : Nat) ≤ (x_3.lo + x_3.cap) * (2 : Nat) ∧ x_3.N = x_3.N ∧ ∀ (j : Nat), j < x_3.N → x_3.a j = x_3.a j ∧ x_3.b j
  = x_3.b j ∧ True) ∧ True) ∧ (SS.mk q.v t.v n.v (CR.mk x_3.lo x_3.len x_3.cap x_3.N (fun (j : Nat) => x_3.a j) fun (j : Nat) => x_3.b j)).Ok ∧ (decide (usL (atI n.v v) x_3.L < v_2) = true → (q.Ok ∧ t.Ok ∧ n.Ok ∧ x.Ok) ∧
  rngI q.v t.v n.v → False ∧ True ∧ ((0 : Nat) ≤ (0 : Nat) ∧ x.n = x.n ∧ ∀ (j : Nat), j < x.n → x.w j = x.w j ∧ x.a j = x.a j ∧ x.c j = x.c j ∧ True) ∧ True) ∧ (decide (usL (atI n.v v) x_3.L < v_2) = false → (((True ∧
  True) ∧ v = v ∧ True) ∧ ((5 : Nat) ≤ (5 : Nat) ∧ (q.v = q.v ∧ t.v = t.v ∧ n.v = n.v ∧ True) ∧ (1 : Int) = (1 : Int) ∧ (True ∧ True) ∧ True) ∧ ((4 : Nat) ≤ (4 : Nat) ∧ (q.v = q.v ∧ t.v = t.v ∧ n.v = n.v ∧ True) ∧ (True ∧
  True ∧ x_3.lo = x_3.lo ∧ x_3.len = x_3.len ∧ x_3.cap = x_3.cap) ∧ True) ∧ ((x_3.lo + x_3.cap) * (2 : Nat) ≤ (x_3.lo + x_3.cap) * (2 : Nat) ∧ x_3.N = x_3.N ∧ ∀ (j : Nat), j < x_3.N → x_3.a j = x_3.a j ∧ x_3.b j = x_3.b j
  ∧ True) ∧ True) ∧ (SS.mk q.v t.v n.v (CR.mk x_3.lo x_3.len x_3.cap x_3.N (fun (j : Nat) => x_3.a j) fun (j : Nat) => x_3.b j)).Ok ∧ (decide (dueL t.v x_3.L < v_3) = true → (q.Ok ∧ t.Ok ∧ n.Ok ∧ x.Ok) ∧ rngI q.v t.v n.v →
  False ∧ True ∧ ((0 : Nat) ≤ (0 : Nat) ∧ x.n = x.n ∧ ∀ (j : Nat), j < x.n → x.w j = x.w j ∧ x.a j = x.a j ∧ x.c j = x.c j ∧ True) ∧ True) ∧ (decide (dueL t.v x_3.L < v_3) = false → (((True ∧ True) ∧ v = v ∧ True) ∧ ((5 :
  Nat) ≤ (5 : Nat) ∧ (q.v = q.v ∧ t.v = t.v ∧ n.v = n.v ∧ True) ∧ (1 : Int) = (1 : Int) ∧ (True ∧ True) ∧ True) ∧ ((4 : Nat) ≤ (4 : Nat) ∧ (q.v = q.v ∧ t.v = t.v ∧ n.v = n.v ∧ True) ∧ (True ∧ True ∧ x_3.lo = x_3.lo ∧
  x_3.len = x_3.len ∧ x_3.cap = x_3.cap) ∧ True) ∧ ((x_3.lo + x_3.cap) * (2 : Nat) ≤ (x_3.lo + x_3.cap) * (2 : Nat) ∧ x_3.N = x_3.N ∧ ∀ (j : Nat), j < x_3.N → x_3.a j = x_3.a j ∧ x_3.b j = x_3.b j ∧ True) ∧ True) ∧ (SS.mk
  q.v t.v n.v (CR.mk x_3.lo x_3.len x_3.cap x_3.N (fun (j : Nat) => x_3.a j) fun (j : Nat) => x_3.b j)).Ok ∧ (((True ∧ True) ∧ v = v ∧ True) ∧ ((5 : Nat) ≤ (5 : Nat) ∧ (q.v = q.v ∧ t.v = t.v ∧ n.v = n.v ∧ True) ∧ (1 : Int)
  = (1 : Int) ∧ (True ∧ True) ∧ True) ∧ ((4 : Nat) ≤ (4 : Nat) ∧ (q.v = q.v ∧ t.v = t.v ∧ n.v = n.v ∧ True) ∧ (True ∧ True ∧ x_5.lo = x_5.lo ∧ x_5.len = x_5.len ∧ x_5.cap = x_5.cap) ∧ True) ∧ ((x_5.lo + x_5.cap) * (2 :
  Nat) ≤ (x_5.lo + x_5.cap) * (2 : Nat) ∧ x_5.N = x_5.N ∧ ∀ (j : Nat), j < x_5.N → x_5.a j = x_5.a j ∧ x_5.b j = x_5.b j ∧ True) ∧ True) ∧ (SS.mk q.v t.v n.v (CR.mk x_5.lo x_5.len x_5.cap x_5.N (fun (j : Nat) => x_5.a j)
  fun (j : Nat) => x_5.b j)).Ok ∧ ((usL (atI n.v v) x_3.L != usL (atI n.v v) x_5.L) = true → (q.Ok ∧ t.Ok ∧ n.Ok ∧ x.Ok) ∧ rngI q.v t.v n.v → False ∧ True ∧ ((0 : Nat) ≤ (0 : Nat) ∧ x.n = x.n ∧ ∀ (j : Nat), j < x.n → x.w j
  = x.w j ∧ x.a j = x.a j ∧ x.c j = x.c j ∧ True) ∧ True) ∧ ((usL (atI n.v v) x_3.L != usL (atI n.v v) x_5.L) = false → (((True ∧ True) ∧ v = v ∧ True) ∧ ((5 : Nat) ≤ (5 : Nat) ∧ (q.v = q.v ∧ t.v = t.v ∧ n.v = n.v ∧ True)
  ∧ (1 : Int) = (1 : Int) ∧ (True ∧ True) ∧ True) ∧ ((4 : Nat) ≤ (4 : Nat) ∧ (q.v = q.v ∧ t.v = t.v ∧ n.v = n.v ∧ True) ∧ (True ∧ True ∧ x_3.lo = x_3.lo ∧ x_3.len = x_3.len ∧ x_3.cap = x_3.cap) ∧ True) ∧ ((x_3.lo +
  x_3.cap) * (2 : Nat) ≤ (x_3.lo + x_3.cap) * (2 : Nat) ∧ x_3.N = x_3.N ∧ ∀ (j : Nat), j < x_3.N → x_3.a j = x_3.a j ∧ x_3.b j = x_3.b j ∧ True) ∧ True) ∧ (SS.mk q.v t.v n.v (CR.mk x_3.lo x_3.len x_3.cap x_3.N (fun (j :
  Nat) => x_3.a j) fun (j : Nat) => x_3.b j)).Ok ∧ (((True ∧ True) ∧ v = v ∧ True) ∧ ((5 : Nat) ≤ (5 : Nat) ∧ (q.v = q.v ∧ t.v = t.v ∧ n.v = n.v ∧ True) ∧ (1 : Int) = (1 : Int) ∧ (True ∧ True) ∧ True) ∧ ((4 : Nat) ≤ (4 :
  Nat) ∧ (q.v = q.v ∧ t.v = t.v ∧ n.v = n.v ∧ True) ∧ (True ∧ True ∧ x_5.lo = x_5.lo ∧ x_5.len = x_5.len ∧ x_5.cap = x_5.cap) ∧ True) ∧ ((x_5.lo + x_5.cap) * (2 : Nat) ≤ (x_5.lo + x_5.cap) * (2 : Nat) ∧ x_5.N = x_5.N ∧ ∀
  (j : Nat), j < x_5.N → x_5.a j = x_5.a j ∧ x_5.b j = x_5.b j ∧ True) ∧ True) ∧ (SS.mk q.v t.v n.v (CR.mk x_5.lo x_5.len x_5.cap x_5.N (fun (j : Nat) => x_5.a j) fun (j : Nat) => x_5.b j)).Ok ∧ ((dueL t.v x_3.L != dueL
  t.v x_5.L) = true → (q.Ok ∧ t.Ok ∧ n.Ok ∧ x.Ok) ∧ rngI q.v t.v n.v → False ∧ True ∧ ((0 : Nat) ≤ (0 : Nat) ∧ x.n = x.n ∧ ∀ (j : Nat), j < x.n → x.w j = x.w j ∧ x.a j = x.a j ∧ x.c j = x.c j ∧ True) ∧ True) ∧ ((dueL t.v
  x_3.L != dueL t.v x_5.L) = false → ∀ (v_4 : Int), v_4 = IntKind.i64.wrap ((↑y.i : Int) + (1 : Int)) → ∃ (y_1 : WI), (At n.v x y_1.i y_1.m ∧ y_1.y.Ok ∧ y_1.z.Ok ∧ QL q.v y_1.y.L ∧ y_1.z.L = y_1.y.L) ∧ ((v = y_1.m ∧
  ((x.nil = true → x.nil = true) ∧ (x.nil = false → x.nil = false ∧ True ∧ True ∧ x.lo = x.lo ∧ x.len = x.len ∧ x.cap = x.cap)) ∧ (True ∧ True) ∧ (True ∧ True) ∧ v_4 = (↑y_1.i : Int) ∧ True) ∧ ((0 : Nat) ≤ (0 : Nat) ∧ x.n
  = x.n ∧ ∀ (j : Nat), j < x.n → x.w j = x.w j ∧ x.a j = x.a j ∧ x.c j = x.c j ∧ True) ∧ ((5 : Nat) ≤ (5 : Nat) ∧ (q.v = q.v ∧ t.v = t.v ∧ n.v = n.v ∧ True) ∧ (1 : Int) = (1 : Int) ∧ (True ∧ True) ∧ True) ∧ ((4 : Nat) ≤ (4
  : Nat) ∧ (q.v = q.v ∧ t.v = t.v ∧ n.v = n.v ∧ True) ∧ (True ∧ True ∧ x_3.lo = y_1.y.lo ∧ x_3.len = y_1.y.len ∧ x_3.cap = y_1.y.cap) ∧ True) ∧ ((y_1.y.lo + y_1.y.cap) * (2 : Nat) ≤ (x_3.lo + x_3.cap) * (2 : Nat) ∧ y_1.y.N
  = x_3.N ∧ ∀ (j : Nat), j < x_3.N → x_3.a j = y_1.y.a j ∧ x_3.b j = y_1.y.b j ∧ True) ∧ ((5 : Nat) ≤ (5 : Nat) ∧ (q.v = q.v ∧ t.v = t.v ∧ n.v = n.v ∧ True) ∧ (1 : Int) = (1 : Int) ∧ (True ∧ True) ∧ True) ∧ ((4 : Nat) ≤ (4
  : Nat) ∧ (q.v = q.v ∧ t.v = t.v ∧ n.v = n.v ∧ True) ∧ (True ∧ True ∧ x_5.lo = y_1.z.lo ∧ x_5.len = y_1.z.len ∧ x_5.cap = y_1.z.cap) ∧ True) ∧ ((y_1.z.lo + y_1.z.cap) * (2 : Nat) ≤ (x_5.lo + x_5.cap) * (2 : Nat) ∧ y_1.z.N
  = x_5.N ∧ ∀ (j : Nat), j < x_5.N → x_5.a j = y_1.z.a j ∧ x_5.b j = y_1.z.b j ∧ True) ∧ True) ∧ (wsF q.v t.v n.v x).μ y_1 < (wsF q.v t.v n.v x).μ y)))))) ∧ (decide ((↑y.i : Int) < (↑x.len : Int)) = false → (((True ∧ True)
  ∧ y.m = y.m ∧ True) ∧ ((5 : Nat) ≤ (5 : Nat) ∧ (q.v = q.v ∧ t.v = t.v ∧ n.v = n.v ∧ True) ∧ (1 : Int) = (1 : Int) ∧ (True ∧ True) ∧ True) ∧ ((4 : Nat) ≤ (4 : Nat) ∧ (q.v = q.v ∧ t.v = t.v ∧ n.v = n.v ∧ True) ∧ (True ∧
  True ∧ y.y.lo = y.y.lo ∧ y.y.len = y.y.len ∧ y.y.cap = y.y.cap) ∧ True) ∧ ((y.y.lo + y.y.cap) * (2 : Nat) ≤ (y.y.lo + y.y.cap) * (2 : Nat) ∧ y.y.N = y.y.N ∧ ∀ (j : Nat), j < y.y.N → y.y.a j = y.y.a j ∧ y.y.b j = y.y.b j
  ∧ True) ∧ True) ∧ (SS.mk q.v t.v n.v (CR.mk y.y.lo y.y.len y.y.cap y.y.N (fun (j : Nat) => y.y.a j) fun (j : Nat) => y.y.b j)).Ok ∧ ∀ (x_3 : CR), (x_3.Ok ∧ x_3.lo = (0 : Nat) ∧ x_3.len = y.y.len ∧ x_3.N = y.y.len) ∧
  x_3.L = y.y.L → (((True ∧ True) ∧ y.m = y.m ∧ True) ∧ ((5 : Nat) ≤ (5 : Nat) ∧ (q.v = q.v ∧ t.v = t.v ∧ n.v = n.v ∧ True) ∧ (1 : Int) = (1 : Int) ∧ (True ∧ True) ∧ True) ∧ ((4 : Nat) ≤ (4 : Nat) ∧ (q.v = q.v ∧ t.v = t.v
  ∧ n.v = n.v ∧ True) ∧ (True ∧ True ∧ y.z.lo = y.z.lo ∧ y.z.len = y.z.len ∧ y.z.cap = y.z.cap) ∧ True) ∧ ((y.z.lo + y.z.cap) * (2 : Nat) ≤ (y.z.lo + y.z.cap) * (2 : Nat) ∧ y.z.N = y.z.N ∧ ∀ (j : Nat), j < y.z.N → y.z.a j
  = y.z.a j ∧ y.z.b j = y.z.b j ∧ True) ∧ True) ∧ (SS.mk q.v t.v n.v (CR.mk y.z.lo y.z.len y.z.cap y.z.N (fun (j : Nat) => y.z.a j) fun (j : Nat) => y.z.b j)).Ok ∧ ∀ (x_4 : CR), (x_4.Ok ∧ x_4.lo = (0 : Nat) ∧ x_4.len =
  y.z.len ∧ x_4.N = y.z.len) ∧ x_4.L = y.z.L → (((↑x_3.len : Int) != (↑x_4.len : Int)) = true → (q.Ok ∧ t.Ok ∧ n.Ok ∧ x.Ok) ∧ rngI q.v t.v n.v → False ∧ True ∧ ((0 : Nat) ≤ (0 : Nat) ∧ x.n = x.n ∧ ∀ (j : Nat), j < x.n →
  x.w j = x.w j ∧ x.a j = x.a j ∧ x.c j = x.c j ∧ True) ∧ True) ∧ (((↑x_3.len : Int) != (↑x_4.len : Int)) = false → ∀ (v : Int), v = (0 : Int) → (∃ (y : WK), (y.k ≤ y.y.len ∧ y.y.len ≤ (8 : Nat) ∧ y.y.Ok ∧ y.z.Ok ∧ y.y.L =
  y.z.L) ∧ (((True ∧ True ∧ x_3.lo = y.y.lo ∧ x_3.len = y.y.len ∧ x_3.cap = y.y.cap) ∧ (True ∧ True ∧ x_4.lo = y.z.lo ∧ x_4.len = y.z.len ∧ x_4.cap = y.z.cap) ∧ v = (↑y.k : Int) ∧ True) ∧ ((0 : Nat) ≤ (0 : Nat) ∧ x.n = x.n
  ∧ ∀ (j : Nat), j < x.n → x.w j = x.w j ∧ x.a j = x.a j ∧ x.c j = x.c j ∧ True) ∧ ((y.y.lo + y.y.cap) * (2 : Nat) ≤ (x_3.lo + x_3.cap) * (2 : Nat) ∧ y.y.N = x_3.N ∧ ∀ (j : Nat), j < x_3.N → x_3.a j = y.y.a j ∧ x_3.b j =
  y.y.b j ∧ True) ∧ ((y.z.lo + y.z.cap) * (2 : Nat) ≤ (x_4.lo + x_4.cap) * (2 : Nat) ∧ y.z.N = x_4.N ∧ ∀ (j : Nat), j < x_4.N → x_4.a j = y.z.a j ∧ x_4.b j = y.z.b j ∧ True) ∧ True) ∧ True) ∧ ∀ (y : WK), y.k ≤ y.y.len ∧
  y.y.len ≤ (8 : Nat) ∧ y.y.Ok ∧ y.z.Ok ∧ y.y.L = y.z.L → (decide ((↑y.k : Int) < (↑y.y.len : Int)) = true → ((0 : Int) ≤ (↑y.k : Int) ∧ (↑y.k : Int) < (↑y.y.len : Int)) ∧ y.y.lo + (↑y.k : Int).toNat < y.y.N ∧ ((0 : Int) ≤
  (↑y.k : Int) ∧ (↑y.k : Int) < (↑y.z.len : Int)) ∧ y.z.lo + (↑y.k : Int).toNat < y.z.N ∧ ((!(y.y.a (y.y.lo + (↑y.k : Int).toNat) == y.z.a (y.z.lo + (↑y.k : Int).toNat) && (y.y.b (y.y.lo + (↑y.k : Int).toNat) == y.z.b
  (y.z.lo + (↑y.k : Int).toNat) && true))) = true → (q.Ok ∧ t.Ok ∧ n.Ok ∧ x.Ok) ∧ rngI q.v t.v n.v → False ∧ True ∧ ((0 : Nat) ≤ (0 : Nat) ∧ x.n = x.n ∧ ∀ (j : Nat), j < x.n → x.w j = x.w j ∧ x.a j = x.a j ∧ x.c j = x.c j
  ∧ True) ∧ True) ∧ ((!(y.y.a (y.y.lo + (↑y.k : Int).toNat) == y.z.a (y.z.lo + (↑y.k : Int).toNat) && (y.y.b (y.y.lo + (↑y.k : Int).toNat) == y.z.b (y.z.lo + (↑y.k : Int).toNat) && true))) = false → ∀ (v : Int), v =
  IntKind.i64.wrap ((↑y.k : Int) + (1 : Int)) → ∃ (y_1 : WK), (y_1.k ≤ y_1.y.len ∧ y_1.y.len ≤ (8 : Nat) ∧ y_1.y.Ok ∧ y_1.z.Ok ∧ y_1.y.L = y_1.z.L) ∧ (((True ∧ True ∧ y.y.lo = y_1.y.lo ∧ y.y.len = y_1.y.len ∧ y.y.cap =
  y_1.y.cap) ∧ (True ∧ True ∧ y.z.lo = y_1.z.lo ∧ y.z.len = y_1.z.len ∧ y.z.cap = y_1.z.cap) ∧ v = (↑y_1.k : Int) ∧ True) ∧ ((0 : Nat) ≤ (0 : Nat) ∧ x.n = x.n ∧ ∀ (j : Nat), j < x.n → x.w j = x.w j ∧ x.a j = x.a j ∧ x.c j
  = x.c j ∧ True) ∧ ((y_1.y.lo + y_1.y.cap) * (2 : Nat) ≤ (y.y.lo + y.y.cap) * (2 : Nat) ∧ y_1.y.N = y.y.N ∧ ∀ (j : Nat), j < y.y.N → y.y.a j = y_1.y.a j ∧ y.y.b j = y_1.y.b j ∧ True) ∧ ((y_1.z.lo + y_1.z.cap) * (2 : Nat)
  ≤ (y.z.lo + y.z.cap) * (2 : Nat) ∧ y_1.z.N = y.z.N ∧ ∀ (j : Nat), j < y.z.N → y.z.a j = y_1.z.a j ∧ y.z.b j = y_1.z.b j ∧ True) ∧ True) ∧ (wsG x).μ y_1 < (wsG x).μ y)) ∧ (decide ((↑y.k : Int) < (↑y.y.len : Int)) = false
  → (q.Ok ∧ t.Ok ∧ n.Ok ∧ x.Ok) ∧ rngI q.v t.v n.v → True ∧ True ∧ ((0 : Nat) ≤ (0 : Nat) ∧ x.n = x.n ∧ ∀ (j : Nat), j < x.n → x.w j = x.w j ∧ x.a j = x.a j ∧ x.c j = x.c j ∧ True) ∧ True)))))) := by
  simp only [true_and, and_true, eq_self, Nat.le_refl, decide_eq_true_eq, decide_eq_false_iff_not, beq_iff_eq, beq_eq_false_iff_ne, implies_true, true_implies, and_self, bne_iff_ne, Int.not_lt, ne_eq, Int.toNat_natCast, IntKind.wrap_u64, IntKind.wrap_i64, bne_eq_false_iff_eq, Bool.not_eq_true', Bool.not_eq_false']
  rintro q t n x ⟨⟨hq, ht, hn, hx⟩, hr⟩
  have hr0 := hr
  obtain ⟨a1, a2, a3, a4⟩ := hr0
  have hx1 := hx.1
  have hx2 := hx.2.1
  have hM : ∀ z : WI, (wsF q.v t.v n.v x).μ z = x.len - z.i := fun _ => rfl
  have hM2 : ∀ z : WK, (wsG x).μ z = z.y.len - z.k := fun _ => rfl
  simp only [hM, hM2]
  have mk : ∀ y : CR, y.Ok → QL q.v y.L → (⟨q.v, t.v, n.v, y⟩ : SS).Ok := fun y h1 h2 => SS.ok_of h1 h2 a1 a2 a3 hn.1 a4
  refine ⟨hr, fun x1 h1 v hv => ⟨hr, fun x2 h2 v1 hv1 _ _ => ⟨⟨id, id⟩, ⟨hx1, hx2⟩, fun hsm v hv => ⟨⟨⟨0, n.v, x1, x2⟩, ⟨At.start hn.1 hsm, h1.1, h2.1, by dsimp only; rw [h1.2]; exact QL.new a1 hn.1 (by omega), by dsimp only; rw [h2.2, h1.2]⟩, ⟨rfl, ⟨id, id⟩, hv⟩, ⟨rfl, rfl, rfl⟩, ⟨Nat.le_refl _, rfl, fun j _ => ⟨rfl, rfl⟩⟩, ⟨rfl, rfl, rfl⟩, Nat.le_refl _, rfl, fun j _ => ⟨rfl, rfl⟩⟩, fun y hy => ?_⟩⟩⟩⟩
  obtain ⟨hA, hy1, hz1, hq1, he⟩ := hy
  have hqz : QL q.v y.z.L := by rw [he]; exact hq1
  refine ⟨hx1, fun hlt => ⟨hx1, by omega, by omega, fun v hv => ⟨hx1, by omega, by omega, fun hw => ?_, fun hw => ?_⟩⟩, fun hge => ⟨mk _ hy1 hq1, fun z hz => ⟨mk _ hz1 hqz, fun z2 hz2 => ?_⟩⟩⟩
  · obtain ⟨s1, s2, s3, s4⟩ := hA.step hx (by omega)
    have hxl := hA.xl
    rw [s2] at hv
    have hc := (hx.2.2 y.i (by omega)).2.1
    have m0 := hA.m0
    have hat : atI n.v v = v := atI_id (by omega) (by omega)
    rw [hat]
    refine ⟨hx1, by omega, by omega, hx1, by omega, by omega, ⟨mk _ hy1 hq1, hc⟩, fun z3 hz3 => ⟨⟨mk _ hz1 hqz, hc⟩, fun z4 hz4 => ⟨fun h => absurd trivial h, fun v2 hv2 => ?_⟩⟩⟩
    have ec : z4.L = z3.L := by rw [hz4.2, hz3.2, he]
    have qc : QL q.v z3.L := by rw [hz3.2]; exact hq1.charge a1 (by omega) hc (by have := hn.1; omega) (by omega)
    exact ⟨⟨y.i + 1, v, z3, z4⟩, ⟨by dsimp only; rw [hv]; exact s1, hz3.1, hz4.1, qc, ec⟩, ⟨⟨rfl, ⟨id, id⟩, by dsimp only; omega⟩, ⟨rfl, rfl, rfl⟩, ⟨Nat.le_refl _, rfl, fun j _ => ⟨rfl, rfl⟩⟩, ⟨rfl, rfl, rfl⟩, Nat.le_refl _, rfl, fun j _ => ⟨rfl, rfl⟩⟩, by dsimp only; omega⟩
  · obtain ⟨s1, s2, s3, s4⟩ := hA.step hx (by omega)
    have hxl := hA.xl
    rw [s2] at hv
    have m0 := hA.m0
    have hat : atI n.v v = v := atI_id (by omega) (by omega)
    rw [hat]
    have hn1 := hn.1
    refine ⟨mk _ hy1 hq1, fun u hu => ⟨mk _ hy1 hq1, fun d hd => ⟨mk _ hy1 hq1, fun z3 hz3 => ⟨mk _ hz1 hqz, fun z4 hz4 => ?_⟩⟩⟩⟩
    have q3 : QL q.v z3.L := by rw [hz3.2]; exact hq1.wake a1 (by omega) (by omega)
    have e4 : z4.L = z3.L := by rw [hz4.2, hz3.2, he]
    have q4 : QL q.v z4.L := by rw [e4]; exact q3
    refine ⟨mk _ hz4.1 q4, fun z5 hz5 => ?_⟩
    have e5 : z5.L = z3.L := by rw [hz5.2, e4, hz3.2, wake_idem]
    have q5 : QL q.v z5.L := by rw [e5]; exact q3
    obtain ⟨k1, k2⟩ := wake_more (n := v) (t := t.v) hq1.inl.pos (hq1.one a1)
    rw [← hz3.2] at k1 k2
    have o3 := mk _ hz3.1 q3
    have o5 := mk _ hz5.1 q5
    exact ⟨o3, fun h _ => by omega, fun _ => ⟨o3, fun h _ => by omega, fun _ => ⟨o3, o5, fun h _ => h (by rw [e5]), fun _ => ⟨o3, o5, fun h _ => h (by rw [e5]), fun _ v4 hv4 => ⟨⟨y.i + 1, v, z3, z5⟩, ⟨by dsimp only; rw [hv]; exact s1, hz3.1, hz5.1, q3, e5⟩, ⟨⟨rfl, ⟨id, id⟩, by dsimp only; omega⟩, ⟨rfl, rfl, rfl⟩, ⟨Nat.le_refl _, rfl, fun j _ => ⟨rfl, rfl⟩⟩, ⟨rfl, rfl, rfl⟩, Nat.le_refl _, rfl, fun j _ => ⟨rfl, rfl⟩⟩, by dsimp only; omega⟩⟩⟩⟩⟩
  · have hl : z.len = z2.len := by rw [hz.1.2.2.1, hz2.1.2.2.1, ← CR.L_len, ← CR.L_len, he]
    have hyl := hq1.ln
    rw [CR.L_len] at hyl
    have hzl := hz.1.2.2.1
    refine ⟨fun h => absurd (by omega) h, fun _ v hv => ⟨⟨⟨0, z, z2⟩, ⟨Nat.zero_le _, by dsimp only; omega, hz.1.1, hz2.1.1, by dsimp only; rw [hz.2, hz2.2, he]⟩, ⟨⟨rfl, rfl, rfl⟩, ⟨rfl, rfl, rfl⟩, hv⟩, ⟨Nat.le_refl _, rfl, fun j _ => ⟨rfl, rfl⟩⟩, Nat.le_refl _, rfl, fun j _ => ⟨rfl, rfl⟩⟩, fun w hw hk => ?_⟩⟩
    obtain ⟨w1, w2, w3, w4, w5⟩ := hw
    have w6 : w.y.len = w.z.len := by rw [← CR.L_len, ← CR.L_len, w5]
    have w7 := w3.1
    have w8 := w4.1
    have g1 := w.y.L_get w.k
    have g2 := w.z.L_get w.k
    rw [w5, g2, if_pos (by omega), if_pos (by omega)] at g1
    simp only [Option.some.injEq, Prod.mk.injEq] at g1
    refine ⟨by omega, by omega, by omega, by omega, fun h => ?_, fun _ v2 hv2 => ?_⟩
    · rw [g1.1, g1.2] at h
      simp at h
    · exact ⟨⟨w.k + 1, w.y, w.z⟩, ⟨by dsimp only; omega, w2, w3, w4, w5⟩, ⟨⟨⟨rfl, rfl, rfl⟩, ⟨rfl, rfl, rfl⟩, by dsimp only; omega⟩, ⟨Nat.le_refl _, rfl, fun j _ => ⟨rfl, rfl⟩⟩, Nat.le_refl _, rfl, fun j _ => ⟨rfl, rfl⟩⟩, by dsimp only; omega⟩

def ws_C (x : (A64 × A64 × A64 × CS)) : Cfg := { Γ := Go.Sx.look tWs, names := true, loops := wsL (x.1).v (x.2.1).v (x.2.2.1).v (x.2.2.2), mode := wM }
theorem ws_al (x : (A64 × A64 × A64 × CS)) : Shown (wsP.vc Try.prog (ws_C x) Try.f6 x) := ⟨@Eq.mp _ _ (by kernel_rfl) (ws_vc (x.1) (x.2.1) (x.2.2.1) (x.2.2.2))⟩
theorem ws_ok : SpOk Try.prog 6 wsP.sp := @Pat.okS _ wsP Try.prog ws_C 6 Try.f6 (fun x => cfg_tab rfl tWs_ok) (by kernel_rfl) Try.func6 (fun _ => rfl) ws_al
structure WD where
  i : Nat
  m : Int
  p : Int
  g : Int
def wdF (q t n : Int) (x : CS) : Fam where
  α := WD
  I w := At n x w.i w.m ∧ (⟨q, t, n, w.p, w.g⟩ : DS).Ok
  st w := { sl := mkSl 165 [(3, .int .u64 w.m), (4, x.v 0), (11, p0 1), (13, p0 3), (15, .int .i64 w.i)], H := [x.reg] ++ (⟨q, t, n, w.p, w.g⟩ : DS).Vr 1 ++ (⟨q, t, n, w.p, w.g⟩ : DS).Vr 3 }
  μ w := x.len - w.i
def wdA (x : CS) : Fam where
  α := Nat
  I w := w = 0
  st _ := { sl := mkSl 165 [(18, .nils), (19, .nils), (20, .int .i64 0)], H := [x.reg] }
  μ _ := 0
structure WQ where
  k : Nat
  a : Int
  b : Int
def wdB (x : CS) : Fam where
  α := WQ
  I w := w.k ≤ 1
  st w := { sl := mkSl 165 [(18, .slice 1 0 [] 0 2 1 1), (19, .slice 2 0 [] 0 2 1 1), (20, .int .i64 w.k)], H := [x.reg, dRow w.a w.b, dRow w.a w.b] }
  μ w := 1 - w.k
def wdL (q t n : Int) (x : CS) : Nat → Gam
  | 8 => .l [wdF q t n x]
  | 26 => .l [wdA x, wdB x]
  | _ => .l []
def wdP : Pat (A64 × A64 × A64 × CS) where
  view _ _ := none
  args x := [.int .i64 2, x.1.t, x.2.1.t, x.2.2.1.t, x.2.2.2.v 0]
  H x := [x.2.2.2.reg]
  out x := .need ((x.1.Ok ∧ x.2.1.Ok ∧ x.2.2.1.Ok ∧ x.2.2.2.Ok) ∧ rngI x.1.v x.2.1.v x.2.2.1.v) (.retq .tt)
def tWd : Tab := [(8, aliveP.sp), (9, n2P.sp), (10, grP.sp), (11, sdwP.sp), (12, sduP.sp), (13, sdcP.sp), (15, sdlP.sp), (14, sdkP.sp)]
theorem tWd_ok : TabOk Try.prog tWd := (tab_cons alive_ok (tab_cons n2_ok (tab_cons gr_ok (tab_cons sdw_ok (tab_cons sdu_ok (tab_cons sdc_ok (tab_cons sdl_ok (tab_cons sdk_ok tab_nil))))))))

theorem wd_vc : ∀ (q t n : A64) (x : CS), ((q.Ok ∧ t.Ok ∧ n.Ok ∧ x.Ok) ∧ rngI q.v t.v n.v) ∧ True → (True ∧ True) ∧ (((2 : Int) = (2 : Int) ∧ q.v = q.v ∧ t.v = t.v ∧ n.v = n.v ∧ True) ∧ True) ∧ rngI q.v t.v n.v ∧ ∀ (v : Int), v = (0 :
  Int) → (((2 : Int) = (2 : Int) ∧ q.v = q.v ∧ t.v = t.v ∧ n.v = n.v ∧ True) ∧ True) ∧ rngI q.v t.v n.v ∧ ∀ (v_1 : Int), v_1 = (0 : Int) → ((v != (0 : Int)) = true → (q.Ok ∧ t.Ok ∧ n.Ok ∧ x.Ok) ∧ rngI q.v t.v n.v → True ∧
  True ∧ ((0 : Nat) ≤ (0 : Nat) ∧ x.n = x.n ∧ ∀ (j : Nat), j < x.n → x.w j = x.w j ∧ x.a j = x.a j ∧ x.c j = x.c j ∧ True) ∧ True) ∧ ((v != (0 : Int)) = false → ((v_1 != (0 : Int)) = true → (q.Ok ∧ t.Ok ∧ n.Ok ∧ x.Ok) ∧
  rngI q.v t.v n.v → True ∧ True ∧ ((0 : Nat) ≤ (0 : Nat) ∧ x.n = x.n ∧ ∀ (j : Nat), j < x.n → x.w j = x.w j ∧ x.a j = x.a j ∧ x.c j = x.c j ∧ True) ∧ True) ∧ ((v_1 != (0 : Int)) = false → ((n.v = n.v ∧ ((x.nil = true →
  x.nil = true) ∧ (x.nil = false → x.nil = false ∧ True ∧ True ∧ x.lo = x.lo ∧ x.len = x.len ∧ x.cap = x.cap)) ∧ True) ∧ ((0 : Nat) ≤ (0 : Nat) ∧ x.n = x.n ∧ ∀ (j : Nat), j < x.n → x.w j = x.w j ∧ x.a j = x.a j ∧ x.c j =
  x.c j ∧ True) ∧ True) ∧ ((x.nil = true → x.len = (0 : Nat)) ∧ x.lo + x.len ≤ x.n) ∧ ((!decide (small n.v x)) = true → (q.Ok ∧ t.Ok ∧ n.Ok ∧ x.Ok) ∧ rngI q.v t.v n.v → True ∧ True ∧ ((0 : Nat) ≤ (0 : Nat) ∧ x.n = x.n ∧ ∀
  (j : Nat), j < x.n → x.w j = x.w j ∧ x.a j = x.a j ∧ x.c j = x.c j ∧ True) ∧ True) ∧ ((!decide (small n.v x)) = false → ∀ (v : Int), v = (0 : Int) → (∃ (y : WD), (At n.v x y.i y.m ∧ (DS.mk q.v t.v n.v y.p y.g).Ok) ∧
  ((n.v = y.m ∧ ((x.nil = true → x.nil = true) ∧ (x.nil = false → x.nil = false ∧ True ∧ True ∧ x.lo = x.lo ∧ x.len = x.len ∧ x.cap = x.cap)) ∧ (True ∧ True) ∧ (True ∧ True) ∧ v = (↑y.i : Int) ∧ True) ∧ ((0 : Nat) ≤ (0 :
  Nat) ∧ x.n = x.n ∧ ∀ (j : Nat), j < x.n → x.w j = x.w j ∧ x.a j = x.a j ∧ x.c j = x.c j ∧ True) ∧ ((5 : Nat) ≤ (5 : Nat) ∧ (q.v = q.v ∧ t.v = t.v ∧ n.v = n.v ∧ True) ∧ (2 : Int) = (2 : Int) ∧ (True ∧ True) ∧ True) ∧ ((5
  : Nat) ≤ (5 : Nat) ∧ (q.v = q.v ∧ t.v = t.v ∧ n.v = n.v ∧ True) ∧ (0 : Int) = y.p ∧ (0 : Int) = y.g ∧ True) ∧ ((5 : Nat) ≤ (5 : Nat) ∧ (q.v = q.v ∧ t.v = t.v ∧ n.v = n.v ∧ True) ∧ (2 : Int) = (2 : Int) ∧ (True ∧ True) ∧
  True) ∧ ((5 : Nat) ≤ (5 : Nat) ∧ (q.v = q.v ∧ t.v = t.v ∧ n.v = n.v ∧ True) ∧ (0 : Int) = y.p ∧ (0 : Int) = y.g ∧ True) ∧ True) ∧ True) ∧ ∀ (y : WD), At n.v x y.i y.m ∧ (DS.mk q.v t.v n.v y.p y.g).Ok → (x.nil = true →
  x.len = (0 : Nat)) ∧ (decide ((↑y.i : Int) < (↑x.len : Int)) = true → (x.nil = true → x.len = (0 : Nat)) ∧ ((0 : Int) ≤ (↑y.i : Int) ∧ (↑y.i : Int) < (↑x.len : Int)) ∧ x.lo + (↑y.i : Int).toNat < x.n ∧ ∀ (v : Int), v =
  IntKind.u64.wrap (y.m + x.a (x.lo + (↑y.i : Int).toNat)) → (x.nil = true → x.len = (0 : Nat)) ∧ ((0 : Int) ≤ (↑y.i : Int) ∧ (↑y.i : Int) < (↑x.len : Int)) ∧ x.lo + (↑y.i : Int).toNat < x.n ∧ ((x.w (x.lo + (↑y.i :
  Int).toNat) == (1 : Int)) = true → (x.nil = true → x.len = (0 : Nat)) ∧ ((0 : Int) ≤ (↑y.i : Int) ∧ (↑y.i : Int) < (↑x.len : Int)) ∧ x.lo + (↑y.i : Int).toNat < x.n ∧ (x.nil = true → x.len = (0 : Nat)) ∧ ((0 : Int) ≤
  (↑y.i : Int) ∧ (↑y.i : Int) < (↑x.len : Int)) ∧ x.lo + (↑y.i : Int).toNat < x.n ∧ (((True ∧ True) ∧ v = v ∧ x.c (x.lo + (↑y.i : Int).toNat) = x.c (x.lo + (↑y.i : Int).toNat) ∧ True) ∧ ((5 : Nat) ≤ (5 : Nat) ∧ (q.v = q.v
  ∧ t.v = t.v ∧ n.v = n.v ∧ True) ∧ (2 : Int) = (2 : Int) ∧ (True ∧ True) ∧ True) ∧ ((5 : Nat) ≤ (5 : Nat) ∧ (q.v = q.v ∧ t.v = t.v ∧ n.v = n.v ∧ True) ∧ y.p = y.p ∧ y.g = y.g ∧ True) ∧ True) ∧ ((DS.mk q.v t.v n.v y.p
  y.g).Ok ∧ (0 : Int) ≤ x.c (x.lo + (↑y.i : Int).toNat)) ∧ (((True ∧ True) ∧ v = v ∧ x.c (x.lo + (↑y.i : Int).toNat) = x.c (x.lo + (↑y.i : Int).toNat) ∧ True) ∧ ((5 : Nat) ≤ (5 : Nat) ∧ (q.v = q.v ∧ t.v = t.v ∧ n.v = n.v ∧
  True) ∧ (2 : Int) = (2 : Int) ∧ (True ∧ True) ∧ True) ∧ ((5 : Nat) ≤ (5 : Nat) ∧ (q.v = q.v ∧ t.v = t.v ∧ n.v = n.v ∧ True) ∧ y.p = y.p ∧ y.g = y.g ∧ True) ∧ True) ∧ ((DS.mk q.v t.v n.v y.p y.g).Ok ∧ (0 : Int) ≤ x.c
  (x.lo + (↑y.i : Int).toNat)) ∧ (((DS.mk q.v t.v n.v y.p y.g).chg (atI n.v v) (x.c (x.lo + (↑y.i : Int).toNat)) != (DS.mk q.v t.v n.v y.p y.g).chg (atI n.v v) (x.c (x.lo + (↑y.i : Int).toNat))) = true → (q.Ok ∧ t.Ok ∧
  n.Ok ∧ x.Ok) ∧ rngI q.v t.v n.v → False ∧ True ∧ ((0 : Nat) ≤ (0 : Nat) ∧ x.n = x.n ∧ ∀ (j : Nat), j < x.n → x.w j = x.w j ∧ x.a j = x.a j ∧ x.c j = x.c j ∧ True) ∧ True) ∧ (((DS.mk q.v t.v n.v y.p y.g).chg (atI n.v v)
  (x.c (x.lo + (↑y.i : Int).toNat)) != (DS.mk q.v t.v n.v y.p y.g).chg (atI n.v v) (x.c (x.lo + (↑y.i : Int).toNat))) = false → ∀ (v_2 : Int), v_2 = IntKind.i64.wrap ((↑y.i : Int) + (1 : Int)) → ∃ (y_1 : WD), (At n.v x
  y_1.i y_1.m ∧ (DS.mk q.v t.v n.v y_1.p y_1.g).Ok) ∧ ((v = y_1.m ∧ ((x.nil = true → x.nil = true) ∧ (x.nil = false → x.nil = false ∧ True ∧ True ∧ x.lo = x.lo ∧ x.len = x.len ∧ x.cap = x.cap)) ∧ (True ∧ True) ∧ (True ∧
  True) ∧ v_2 = (↑y_1.i : Int) ∧ True) ∧ ((0 : Nat) ≤ (0 : Nat) ∧ x.n = x.n ∧ ∀ (j : Nat), j < x.n → x.w j = x.w j ∧ x.a j = x.a j ∧ x.c j = x.c j ∧ True) ∧ ((5 : Nat) ≤ (5 : Nat) ∧ (((DS.mk q.v t.v n.v y.p y.g).aft (atI
  n.v v) (x.c (x.lo + (↑y.i : Int).toNat))).q = q.v ∧ ((DS.mk q.v t.v n.v y.p y.g).aft (atI n.v v) (x.c (x.lo + (↑y.i : Int).toNat))).t = t.v ∧ ((DS.mk q.v t.v n.v y.p y.g).aft (atI n.v v) (x.c (x.lo + (↑y.i :
  Int).toNat))).b = n.v ∧ True) ∧ (2 : Int) = (2 : Int) ∧ (True ∧ True) ∧ True) ∧ ((5 : Nat) ≤ (5 : Nat) ∧ (((DS.mk q.v t.v n.v y.p y.g).aft (atI n.v v) (x.c (x.lo + (↑y.i : Int).toNat))).q = q.v ∧ ((DS.mk q.v t.v n.v y.p
  y.g).aft (atI n.v v) (x.c (x.lo + (↑y.i : Int).toNat))).t = t.v ∧ ((DS.mk q.v t.v n.v y.p y.g).aft (atI n.v v) (x.c (x.lo + (↑y.i : Int).toNat))).b = n.v ∧ True) ∧ ((DS.mk q.v t.v n.v y.p y.g).aft (atI n.v v) (x.c (x.lo
  + (↑y.i : Int).toNat))).p = y_1.p ∧ ((DS.mk q.v t.v n.v y.p y.g).aft (atI n.v v) (x.c (x.lo + (↑y.i : Int).toNat))).g = y_1.g ∧ True) ∧ ((5 : Nat) ≤ (5 : Nat) ∧ (((DS.mk q.v t.v n.v y.p y.g).aft (atI n.v v) (x.c (x.lo +
  (↑y.i : Int).toNat))).q = q.v ∧ ((DS.mk q.v t.v n.v y.p y.g).aft (atI n.v v) (x.c (x.lo + (↑y.i : Int).toNat))).t = t.v ∧ ((DS.mk q.v t.v n.v y.p y.g).aft (atI n.v v) (x.c (x.lo + (↑y.i : Int).toNat))).b = n.v ∧ True) ∧
  (2 : Int) = (2 : Int) ∧ (True ∧ True) ∧ True) ∧ ((5 : Nat) ≤ (5 : Nat) ∧ (((DS.mk q.v t.v n.v y.p y.g).aft (atI n.v v) (x.c (x.lo + (↑y.i : Int).toNat))).q = q.v ∧ ((DS.mk q.v t.v n.v y.p y.g).aft (atI n.v v) (x.c (x.lo
  + (↑y.i : Int).toNat))).t = t.v ∧ ((DS.mk q.v t.v n.v y.p y.g).aft (atI n.v v) (x.c (x.lo + (↑y.i : Int).toNat))).b = n.v ∧ True) ∧ ((DS.mk q.v t.v n.v y.p y.g).aft (atI n.v v) (x.c (x.lo + (↑y.i : Int).toNat))).p =
  y_1.p ∧ ((DS.mk q.v t.v n.v y.p y.g).aft (atI n.v v) (x.c (x.lo + (↑y.i : Int).toNat))).g = y_1.g ∧ True) ∧ True) ∧ (wdF q.v t.v n.v x).μ y_1 < (wdF q.v t.v n.v x).μ y)) ∧ ((x.w (x.lo + (↑y.i : Int).toNat) == (1 : Int))
  = false → (((True ∧ True) ∧ v = v ∧ True) ∧ ((5 : Nat) ≤ (5 : Nat) ∧ (q.v = q.v ∧ t.v = t.v ∧ n.v = n.v ∧ True) ∧ (2 : Int) = (2 : Int) ∧ (True ∧ True) ∧ True) ∧ ((5 : Nat) ≤ (5 : Nat) ∧ (q.v = q.v ∧ t.v = t.v ∧ n.v =
  n.v ∧ True) ∧ y.p = y.p ∧ y.g = y.g ∧ True) ∧ True) ∧ (DS.mk q.v t.v n.v y.p y.g).Ok ∧ ∀ (v_2 : Int), v_2 = (DS.mk q.v t.v n.v y.p y.g).us (atI n.v v) → (((True ∧ True) ∧ v = v ∧ True) ∧ ((5 : Nat) ≤ (5 : Nat) ∧ (q.v =
  q.v ∧ t.v = t.v ∧ n.v = n.v ∧ True) ∧ (2 : Int) = (2 : Int) ∧ (True ∧ True) ∧ True) ∧ ((5 : Nat) ≤ (5 : Nat) ∧ (q.v = q.v ∧ t.v = t.v ∧ n.v = n.v ∧ True) ∧ y.p = y.p ∧ y.g = y.g ∧ True) ∧ True) ∧ (DS.mk q.v t.v n.v y.p
  y.g).Ok ∧ ∀ (v_3 : Int), v_3 = (DS.mk q.v t.v n.v y.p y.g).due (atI n.v v) → (((True ∧ True) ∧ v = v ∧ True) ∧ ((5 : Nat) ≤ (5 : Nat) ∧ (q.v = q.v ∧ t.v = t.v ∧ n.v = n.v ∧ True) ∧ (2 : Int) = (2 : Int) ∧ (True ∧ True) ∧
  True) ∧ ((5 : Nat) ≤ (5 : Nat) ∧ (q.v = q.v ∧ t.v = t.v ∧ n.v = n.v ∧ True) ∧ y.p = y.p ∧ y.g = y.g ∧ True) ∧ True) ∧ (((True ∧ True) ∧ v = v ∧ True) ∧ ((5 : Nat) ≤ (5 : Nat) ∧ (q.v = q.v ∧ t.v = t.v ∧ n.v = n.v ∧ True)
  ∧ (2 : Int) = (2 : Int) ∧ (True ∧ True) ∧ True) ∧ ((5 : Nat) ≤ (5 : Nat) ∧ (q.v = q.v ∧ t.v = t.v ∧ n.v = n.v ∧ True) ∧ y.p = y.p ∧ y.g = y.g ∧ True) ∧ True) ∧ (((True ∧ True) ∧ v = v ∧ True) ∧ ((5 : Nat) ≤ (5 : Nat) ∧
  (q.v = q.v ∧ t.v = t.v ∧ n.v = n.v ∧ True) ∧ (2 : Int) = (2 : Int) ∧ (True ∧ True) ∧ True) ∧ ((5 : Nat) ≤ (5 : Nat) ∧ (q.v = q.v ∧ t.v = t.v ∧ n.v = n.v ∧ True) ∧ y.p = y.p ∧ y.g = y.g ∧ True) ∧ True) ∧ (((True ∧ True) ∧
  v = v ∧ True) ∧ ((5 : Nat) ≤ (5 : Nat) ∧ (q.v = q.v ∧ t.v = t.v ∧ n.v = n.v ∧ True) ∧ (2 : Int) = (2 : Int) ∧ (True ∧ True) ∧ True) ∧ ((5 : Nat) ≤ (5 : Nat) ∧ (q.v = q.v ∧ t.v = t.v ∧ n.v = n.v ∧ True) ∧ y.p = y.p ∧ y.g
  = y.g ∧ True) ∧ True) ∧ (DS.mk q.v t.v n.v y.p y.g).Ok ∧ (decide ((DS.mk q.v t.v n.v y.p y.g).us (atI n.v v) < v_2) = true → (q.Ok ∧ t.Ok ∧ n.Ok ∧ x.Ok) ∧ rngI q.v t.v n.v → False ∧ True ∧ ((0 : Nat) ≤ (0 : Nat) ∧ x.n =
  x.n ∧ ∀ (j : Nat), j < x.n → x.w j = x.w j ∧ x.a j = x.a j ∧ x.c j = x.c j ∧ True) ∧ True) ∧ (decide ((DS.mk q.v t.v n.v y.p y.g).us (atI n.v v) < v_2) = false → (((True ∧ True) ∧ v = v ∧ True) ∧ ((5 : Nat) ≤ (5 : Nat) ∧
  (q.v = q.v ∧ t.v = t.v ∧ n.v = n.v ∧ True) ∧ (2 : Int) = (2 : Int) ∧ (True ∧ True) ∧ True) ∧ ((5 : Nat) ≤ (5 : Nat) ∧ (q.v = q.v ∧ t.v = t.v ∧ n.v = n.v ∧ True) ∧ y.p = y.p ∧ y.g = y.g ∧ True) ∧ True) ∧ (DS.mk q.v t.v
  n.v y.p y.g).Ok ∧ (decide ((DS.mk q.v t.v n.v y.p y.g).due (atI n.v v) < v_3) = true → (q.Ok ∧ t.Ok ∧ n.Ok ∧ x.Ok) ∧ rngI q.v t.v n.v → False ∧ True ∧ ((0 : Nat) ≤ (0 : Nat) ∧ x.n = x.n ∧ ∀ (j : Nat), j < x.n → x.w j =
  x.w j ∧ x.a j = x.a j ∧ x.c j = x.c j ∧ True) ∧ True) ∧ (decide ((DS.mk q.v t.v n.v y.p y.g).due (atI n.v v) < v_3) = false → (((True ∧ True) ∧ v = v ∧ True) ∧ ((5 : Nat) ≤ (5 : Nat) ∧ (q.v = q.v ∧ t.v = t.v ∧ n.v = n.v
  ∧ True) ∧ (2 : Int) = (2 : Int) ∧ (True ∧ True) ∧ True) ∧ ((5 : Nat) ≤ (5 : Nat) ∧ (q.v = q.v ∧ t.v = t.v ∧ n.v = n.v ∧ True) ∧ y.p = y.p ∧ y.g = y.g ∧ True) ∧ True) ∧ (DS.mk q.v t.v n.v y.p y.g).Ok ∧ (((True ∧ True) ∧ v
  = v ∧ True) ∧ ((5 : Nat) ≤ (5 : Nat) ∧ (q.v = q.v ∧ t.v = t.v ∧ n.v = n.v ∧ True) ∧ (2 : Int) = (2 : Int) ∧ (True ∧ True) ∧ True) ∧ ((5 : Nat) ≤ (5 : Nat) ∧ (q.v = q.v ∧ t.v = t.v ∧ n.v = n.v ∧ True) ∧ y.p = y.p ∧ y.g =
  y.g ∧ True) ∧ True) ∧ (DS.mk q.v t.v n.v y.p y.g).Ok ∧ (((DS.mk q.v t.v n.v y.p y.g).us (atI n.v v) != (DS.mk q.v t.v n.v y.p y.g).us (atI n.v v)) = true → (q.Ok ∧ t.Ok ∧ n.Ok ∧ x.Ok) ∧ rngI q.v t.v n.v → False ∧ True ∧
  ((0 : Nat) ≤ (0 : Nat) ∧ x.n = x.n ∧ ∀ (j : Nat), j < x.n → x.w j = x.w j ∧ x.a j = x.a j ∧ x.c j = x.c j ∧ True) ∧ True) ∧ (((DS.mk q.v t.v n.v y.p y.g).us (atI n.v v) != (DS.mk q.v t.v n.v y.p y.g).us (atI n.v v)) =
  false → (((True ∧ True) ∧ v = v ∧ True) ∧ ((5 : Nat) ≤ (5 : Nat) ∧ (q.v = q.v ∧ t.v = t.v ∧ n.v = n.v ∧ True) ∧ (2 : Int) = (2 : Int) ∧ (True ∧ True) ∧ True) ∧ ((5 : Nat) ≤ (5 : Nat) ∧ (q.v = q.v ∧ t.v = t.v ∧ n.v = n.v
  ∧ True) ∧ y.p = y.p ∧ y.g = y.g ∧ True) ∧ True) ∧ (DS.mk q.v t.v n.v y.p y.g).Ok ∧ (((True ∧ True) ∧ v = v ∧ True) ∧ ((5 : Nat) ≤ (5 : Nat) ∧ (q.v = q.v ∧ t.v = t.v ∧ n.v = n.v ∧ True) ∧ (2 : Int) = (2 : Int) ∧ (True ∧
  True) ∧ True) ∧ ((5 : Nat) ≤ (5 : Nat) ∧ (q.v = q.v ∧ t.v = t.v ∧ n.v = n.v ∧ True) ∧ y.p = y.p ∧ y.g = y.g ∧ True) ∧ True) ∧ (DS.mk q.v t.v n.v y.p y.g).Ok ∧ (((DS.mk q.v t.v n.v y.p y.g).due (atI n.v v) != (DS.mk q.v
  t.v n.v y.p y.g).due (atI n.v v)) = true → (q.Ok ∧ t.Ok ∧ n.Ok ∧ x.Ok) ∧ rngI q.v t.v n.v → False ∧ True ∧ ((0 : Nat) ≤ (0 : Nat) ∧ x.n = x.n ∧ ∀ (j : Nat), j < x.n → x.w j = x.w j ∧ x.a j = x.a j ∧ x.c j = x.c j ∧ True)
  ∧ True) ∧ (((DS.mk q.v t.v n.v y.p y.g).due (atI n.v v) != (DS.mk q.v t.v n.v y.p y.g).due (atI n.v v)) = false → ∀ (v_4 : Int), v_4 = IntKind.i64.wrap ((↑y.i : Int) + (1 : Int)) → ∃ (y_1 : WD), (At n.v x y_1.i y_1.m ∧
  (DS.mk q.v t.v n.v y_1.p y_1.g).Ok) ∧ ((v = y_1.m ∧ ((x.nil = true → x.nil = true) ∧ (x.nil = false → x.nil = false ∧ True ∧ True ∧ x.lo = x.lo ∧ x.len = x.len ∧ x.cap = x.cap)) ∧ (True ∧ True) ∧ (True ∧ True) ∧ v_4 =
  (↑y_1.i : Int) ∧ True) ∧ ((0 : Nat) ≤ (0 : Nat) ∧ x.n = x.n ∧ ∀ (j : Nat), j < x.n → x.w j = x.w j ∧ x.a j = x.a j ∧ x.c j = x.c j ∧ True) ∧ ((5 : Nat) ≤ (5 : Nat) ∧ (q.v = q.v ∧ t.v = t.v ∧ n.v = n.v ∧ True) ∧ (2 : Int)
  = (2 : Int) ∧ (True ∧ True) ∧ True) ∧ ((5 : Nat) ≤ (5 : Nat) ∧ (q.v = q.v ∧ t.v = t.v ∧ n.v = n.v ∧ True) ∧ y.p = y_1.p ∧ y.g = y_1.g ∧ True) ∧ ((5 : Nat) ≤ (5 : Nat) ∧ (q.v = q.v ∧ t.v = t.v ∧ n.v = n.v ∧ True) ∧ (2 :
  Int) = (2 : Int) ∧ (True ∧ True) ∧ True) ∧ ((5 : Nat) ≤ (5 : Nat) ∧ (q.v = q.v ∧ t.v = t.v ∧ n.v = n.v ∧ True) ∧ y.p = y_1.p ∧ y.g = y_1.g ∧ True) ∧ True) ∧ (wdF q.v t.v n.v x).μ y_1 < (wdF q.v t.v n.v x).μ y)))))) ∧
  (decide ((↑y.i : Int) < (↑x.len : Int)) = false → (((True ∧ True) ∧ y.m = y.m ∧ True) ∧ ((5 : Nat) ≤ (5 : Nat) ∧ (q.v = q.v ∧ t.v = t.v ∧ n.v = n.v ∧ True) ∧ (2 : Int) = (2 : Int) ∧ (True ∧ True) ∧ True) ∧ ((5 : Nat) ≤
  (5 : Nat) ∧ (q.v = q.v ∧ t.v = t.v ∧ n.v = n.v ∧ True) ∧ y.p = y.p ∧ y.g = y.g ∧ True) ∧ True) ∧ (DS.mk q.v t.v n.v y.p y.g).Ok ∧ ((DS.mk q.v t.v n.v y.p y.g).gon (atI n.v y.m) = q.v → (((True ∧ True) ∧ y.m = y.m ∧ True)
  ∧ ((5 : Nat) ≤ (5 : Nat) ∧ (q.v = q.v ∧ t.v = t.v ∧ n.v = n.v ∧ True) ∧ (2 : Int) = (2 : Int) ∧ (True ∧ True) ∧ True) ∧ ((5 : Nat) ≤ (5 : Nat) ∧ (q.v = q.v ∧ t.v = t.v ∧ n.v = n.v ∧ True) ∧ y.p = y.p ∧ y.g = y.g ∧ True)
  ∧ True) ∧ (DS.mk q.v t.v n.v y.p y.g).Ok ∧ ((DS.mk q.v t.v n.v y.p y.g).gon (atI n.v y.m) = q.v → (((0 : Int) != (0 : Int)) = true → (q.Ok ∧ t.Ok ∧ n.Ok ∧ x.Ok) ∧ rngI q.v t.v n.v → False ∧ True ∧ ((0 : Nat) ≤ (0 : Nat)
  ∧ x.n = x.n ∧ ∀ (j : Nat), j < x.n → x.w j = x.w j ∧ x.a j = x.a j ∧ x.c j = x.c j ∧ True) ∧ True) ∧ (((0 : Int) != (0 : Int)) = false → ∀ (v : Int), v = (0 : Int) → ((∃ (y : Nat), y = (0 : Nat) ∧ ((True ∧ True ∧ v = (0
  : Int) ∧ True) ∧ ((0 : Nat) ≤ (0 : Nat) ∧ x.n = x.n ∧ ∀ (j : Nat), j < x.n → x.w j = x.w j ∧ x.a j = x.a j ∧ x.c j = x.c j ∧ True) ∧ True) ∧ True) ∨ ∃ (y : WQ), (wdB x).I y ∧ False ∧ True) ∧ (∀ (y : Nat), y = (0 : Nat) →
  (decide ((0 : Int) < (0 : Int)) = true → False) ∧ (decide ((0 : Int) < (0 : Int)) = false → (q.Ok ∧ t.Ok ∧ n.Ok ∧ x.Ok) ∧ rngI q.v t.v n.v → True ∧ True ∧ ((0 : Nat) ≤ (0 : Nat) ∧ x.n = x.n ∧ ∀ (j : Nat), j < x.n → x.w j
  = x.w j ∧ x.a j = x.a j ∧ x.c j = x.c j ∧ True) ∧ True)) ∧ ∀ (y : WQ), (wdB x).I y → (decide ((↑y.k : Int) < (↑(1 : Nat) : Int)) = true → ((0 : Int) ≤ (↑y.k : Int) ∧ (↑y.k : Int) < (↑(1 : Nat) : Int)) ∧ (0 : Nat) + (↑y.k
  : Int).toNat < (1 : Nat) ∧ ((0 : Int) ≤ (↑y.k : Int) ∧ (↑y.k : Int) < (↑(1 : Nat) : Int)) ∧ (0 : Nat) + (↑y.k : Int).toNat < (1 : Nat) ∧ ((!(y.a == y.a && (y.b == y.b && true))) = true → (q.Ok ∧ t.Ok ∧ n.Ok ∧ x.Ok) ∧
  rngI q.v t.v n.v → False ∧ True ∧ ((0 : Nat) ≤ (0 : Nat) ∧ x.n = x.n ∧ ∀ (j : Nat), j < x.n → x.w j = x.w j ∧ x.a j = x.a j ∧ x.c j = x.c j ∧ True) ∧ True) ∧ ((!(y.a == y.a && (y.b == y.b && true))) = false → ∀ (v :
  Int), v = IntKind.i64.wrap ((↑y.k : Int) + (1 : Int)) → (∃ (y_1 : Nat), y_1 = (0 : Nat) ∧ ((False ∧ False ∧ v = (0 : Int) ∧ True) ∧ ((0 : Nat) ≤ (0 : Nat) ∧ x.n = x.n ∧ ∀ (j : Nat), j < x.n → x.w j = x.w j ∧ x.a j = x.a
  j ∧ x.c j = x.c j ∧ True) ∧ True) ∧ (wdA x).μ y_1 < (wdB x).μ y) ∨ ∃ (y_1 : WQ), (wdB x).I y_1 ∧ (((True ∧ True ∧ (0 : Nat) = (0 : Nat) ∧ (1 : Nat) = (1 : Nat) ∧ (1 : Nat) = (1 : Nat)) ∧ (True ∧ True ∧ (0 : Nat) = (0 :
  Nat) ∧ (1 : Nat) = (1 : Nat) ∧ (1 : Nat) = (1 : Nat)) ∧ v = (↑y_1.k : Int) ∧ True) ∧ ((0 : Nat) ≤ (0 : Nat) ∧ x.n = x.n ∧ ∀ (j : Nat), j < x.n → x.w j = x.w j ∧ x.a j = x.a j ∧ x.c j = x.c j ∧ True) ∧ ((2 : Nat) ≤ (2 :
  Nat) ∧ (1 : Nat) = (1 : Nat) ∧ ∀ (j : Nat), j < (1 : Nat) → y.a = y_1.a ∧ y.b = y_1.b ∧ True) ∧ ((2 : Nat) ≤ (2 : Nat) ∧ (1 : Nat) = (1 : Nat) ∧ ∀ (j : Nat), j < (1 : Nat) → y.a = y_1.a ∧ y.b = y_1.b ∧ True) ∧ True) ∧
  (wdB x).μ y_1 < (wdB x).μ y)) ∧ (decide ((↑y.k : Int) < (↑(1 : Nat) : Int)) = false → (q.Ok ∧ t.Ok ∧ n.Ok ∧ x.Ok) ∧ rngI q.v t.v n.v → True ∧ True ∧ ((0 : Nat) ≤ (0 : Nat) ∧ x.n = x.n ∧ ∀ (j : Nat), j < x.n → x.w j = x.w
  j ∧ x.a j = x.a j ∧ x.c j = x.c j ∧ True) ∧ True))) ∧ (¬(DS.mk q.v t.v n.v y.p y.g).gon (atI n.v y.m) = q.v → (((0 : Int) != (↑(1 : Nat) : Int)) = true → (q.Ok ∧ t.Ok ∧ n.Ok ∧ x.Ok) ∧ rngI q.v t.v n.v → False ∧ True ∧
  ((0 : Nat) ≤ (0 : Nat) ∧ x.n = x.n ∧ ∀ (j : Nat), j < x.n → x.w j = x.w j ∧ x.a j = x.a j ∧ x.c j = x.c j ∧ True) ∧ True) ∧ (((0 : Int) != (↑(1 : Nat) : Int)) = false → ∀ (v : Int), v = (0 : Int) → ((∃ (y : Nat), y = (0
  : Nat) ∧ ((True ∧ False ∧ v = (0 : Int) ∧ True) ∧ ((0 : Nat) ≤ (0 : Nat) ∧ x.n = x.n ∧ ∀ (j : Nat), j < x.n → x.w j = x.w j ∧ x.a j = x.a j ∧ x.c j = x.c j ∧ True) ∧ True) ∧ True) ∨ ∃ (y : WQ), (wdB x).I y ∧ False ∧
  True) ∧ (∀ (y : Nat), y = (0 : Nat) → (decide ((0 : Int) < (0 : Int)) = true → False) ∧ (decide ((0 : Int) < (0 : Int)) = false → (q.Ok ∧ t.Ok ∧ n.Ok ∧ x.Ok) ∧ rngI q.v t.v n.v → True ∧ True ∧ ((0 : Nat) ≤ (0 : Nat) ∧
  x.n = x.n ∧ ∀ (j : Nat), j < x.n → x.w j = x.w j ∧ x.a j = x.a j ∧ x.c j = x.c j ∧ True) ∧ True)) ∧ ∀ (y : WQ), (wdB x).I y → (decide ((↑y.k : Int) < (↑(1 : Nat) : Int)) = true → ((0 : Int) ≤ (↑y.k : Int) ∧ (↑y.k : Int)
  < (↑(1 : Nat) : Int)) ∧ (0 : Nat) + (↑y.k : Int).toNat < (1 : Nat) ∧ ((0 : Int) ≤ (↑y.k : Int) ∧ (↑y.k : Int) < (↑(1 : Nat) : Int)) ∧ (0 : Nat) + (↑y.k : Int).toNat < (1 : Nat) ∧ ((!(y.a == y.a && (y.b == y.b && true)))
  = true → (q.Ok ∧ t.Ok ∧ n.Ok ∧ x.Ok) ∧ rngI q.v t.v n.v → False ∧ True ∧ ((0 : Nat) ≤ (0 : Nat) ∧ x.n = x.n ∧ ∀ (j : Nat), j < x.n → x.w j = x.w j ∧ x.a j = x.a j ∧ x.c j = x.c j ∧ True) ∧ True) ∧ ((!(y.a == y.a && (y.b
  == y.b && true))) = false → ∀ (v : Int), v = IntKind.i64.wrap ((↑y.k : Int) + (1 : Int)) → (∃ (y_1 : Nat), y_1 = (0 : Nat) ∧ ((False ∧ False ∧ v = (0 : Int) ∧ True) ∧ ((0 : Nat) ≤ (0 : Nat) ∧ x.n = x.n ∧ ∀ (j : Nat), j <
  x.n → x.w j = x.w j ∧ x.a j = x.a j ∧ x.c j = x.c j ∧ True) ∧ True) ∧ (wdA x).μ y_1 < (wdB x).μ y) ∨ ∃ (y_1 : WQ), (wdB x).I y_1 ∧ (((True ∧ True ∧ (0 : Nat) = (0 : Nat) ∧ (1 : Nat) = (1 : Nat) ∧ (1 : Nat) = (1 : Nat)) ∧
  (True ∧ True ∧ (0 : Nat) = (0 : Nat) ∧ (1 : Nat) = (1 : Nat) ∧ (1 : Nat) = (1 : Nat)) ∧ v = (↑y_1.k : Int) ∧ True) ∧ ((0 : Nat) ≤ (0 : Nat) ∧ x.n = x.n ∧ ∀ (j : Nat), j < x.n → x.w j = x.w j ∧ x.a j = x.a j ∧ x.c j = x.c
  j ∧ True) ∧ ((2 : Nat) ≤ (2 : Nat) ∧ (1 : Nat) = (1 : Nat) ∧ ∀ (j : Nat), j < (1 : Nat) → y.a = y_1.a ∧ y.b = y_1.b ∧ True) ∧ ((2 : Nat) ≤ (2 : Nat) ∧ (1 : Nat) = (1 : Nat) ∧ ∀ (j : Nat), j < (1 : Nat) → y.a = y_1.a ∧
  y.b = y_1.b ∧ True) ∧ True) ∧ (wdB x).μ y_1 < (wdB x).μ y)) ∧ (decide ((↑y.k : Int) < (↑(1 : Nat) : Int)) = false → (q.Ok ∧ t.Ok ∧ n.Ok ∧ x.Ok) ∧ rngI q.v t.v n.v → True ∧ True ∧ ((0 : Nat) ≤ (0 : Nat) ∧ x.n = x.n ∧ ∀ (j
  : Nat), j < x.n → x.w j = x.w j ∧ x.a j = x.a j ∧ x.c j = x.c j ∧ True) ∧ True)))) ∧ (¬(DS.mk q.v t.v n.v y.p y.g).gon (atI n.v y.m) = q.v → (((True ∧ True) ∧ y.m = y.m ∧ True) ∧ ((5 : Nat) ≤ (5 : Nat) ∧ (q.v = q.v ∧ t.v
  = t.v ∧ n.v = n.v ∧ True) ∧ (2 : Int) = (2 : Int) ∧ (True ∧ True) ∧ True) ∧ ((5 : Nat) ≤ (5 : Nat) ∧ (q.v = q.v ∧ t.v = t.v ∧ n.v = n.v ∧ True) ∧ y.p = y.p ∧ y.g = y.g ∧ True) ∧ True) ∧ (DS.mk q.v t.v n.v y.p y.g).Ok ∧
  ((DS.mk q.v t.v n.v y.p y.g).gon (atI n.v y.m) = q.v → (((↑(1 : Nat) : Int) != (0 : Int)) = true → (q.Ok ∧ t.Ok ∧ n.Ok ∧ x.Ok) ∧ rngI q.v t.v n.v → False ∧ True ∧ ((0 : Nat) ≤ (0 : Nat) ∧ x.n = x.n ∧ ∀ (j : Nat), j < x.n
  → x.w j = x.w j ∧ x.a j = x.a j ∧ x.c j = x.c j ∧ True) ∧ True) ∧ (((↑(1 : Nat) : Int) != (0 : Int)) = false → ∀ (v : Int), v = (0 : Int) → ((∃ (y : Nat), y = (0 : Nat) ∧ ((False ∧ True ∧ v = (0 : Int) ∧ True) ∧ ((0 :
  Nat) ≤ (0 : Nat) ∧ x.n = x.n ∧ ∀ (j : Nat), j < x.n → x.w j = x.w j ∧ x.a j = x.a j ∧ x.c j = x.c j ∧ True) ∧ True) ∧ True) ∨ ∃ (y : WQ), (wdB x).I y ∧ False ∧ True) ∧ (∀ (y : Nat), y = (0 : Nat) → (decide ((0 : Int) <
  (0 : Int)) = true → False) ∧ (decide ((0 : Int) < (0 : Int)) = false → (q.Ok ∧ t.Ok ∧ n.Ok ∧ x.Ok) ∧ rngI q.v t.v n.v → True ∧ True ∧ ((0 : Nat) ≤ (0 : Nat) ∧ x.n = x.n ∧ ∀ (j : Nat), j < x.n → x.w j = x.w j ∧ x.a j =
  x.a j ∧ x.c j = x.c j ∧ True) ∧ True)) ∧ ∀ (y : WQ), (wdB x).I y → (decide ((↑y.k : Int) < (↑(1 : Nat) : Int)) = true → ((0 : Int) ≤ (↑y.k : Int) ∧ (↑y.k : Int) < (↑(1 : Nat) : Int)) ∧ (0 : Nat) + (↑y.k : Int).toNat < (1
  : Nat) ∧ ((0 : Int) ≤ (↑y.k : Int) ∧ (↑y.k : Int) < (↑(1 : Nat) : Int)) ∧ (0 : Nat) + (↑y.k : Int).toNat < (1 : Nat) ∧ ((!(y.a == y.a && (y.b == y.b && true))) = true → (q.Ok ∧ t.Ok ∧ n.Ok ∧ x.Ok) ∧ rngI q.v t.v n.v →
  False ∧ True ∧ ((0 : Nat) ≤ (0 : Nat) ∧ x.n = x.n ∧ ∀ (j : Nat), j < x.n → x.w j = x.w j ∧ x.a j = x.a j ∧ x.c j = x.c j ∧ True) ∧ True) ∧ ((!(y.a == y.a && (y.b == y.b && true))) = false → ∀ (v : Int), v =
  IntKind.i64.wrap ((↑y.k : Int) + (1 : Int)) → (∃ (y_1 : Nat), y_1 = (0 : Nat) ∧ ((False ∧ False ∧ v = (0 : Int) ∧ True) ∧ ((0 : Nat) ≤ (0 : Nat) ∧ x.n = x.n ∧ ∀ (j : Nat), j < x.n → x.w j = x.w j ∧ x.a j = x.a j ∧ x.c j
  = x.c j ∧ True) ∧ True) ∧ (wdA x).μ y_1 < (wdB x).μ y) ∨ ∃ (y_1 : WQ), (wdB x).I y_1 ∧ (((True ∧ True ∧ (0 : Nat) = (0 : Nat) ∧ (1 : Nat) = (1 : Nat) ∧ (1 : Nat) = (1 : Nat)) ∧ (True ∧ True ∧ (0 : Nat) = (0 : Nat) ∧ (1 :
  Nat) = (1 : Nat) ∧ (1 : Nat) = (1 : Nat)) ∧ v = (↑y_1.k : Int) ∧ True) ∧ ((0 : Nat) ≤ (0 : Nat) ∧ x.n = x.n ∧ ∀ (j : Nat), j < x.n → x.w j = x.w j ∧ x.a j = x.a j ∧ x.c j = x.c j ∧ True) ∧ ((2 : Nat) ≤ (2 : Nat) ∧ (1 :
  Nat) = (1 : Nat) ∧ ∀ (j : Nat), j < (1 : Nat) → y.a = y_1.a ∧ y.b = y_1.b ∧ True) ∧ ((2 : Nat) ≤ (2 : Nat) ∧ (1 : Nat) = (1 : Nat) ∧ ∀ (j : Nat), j < (1 : Nat) → y.a = y_1.a ∧ y.b = y_1.b ∧ True) ∧ True) ∧ (wdB x).μ y_1
  < (wdB x).μ y)) ∧ (decide ((↑y.k : Int) < (↑(1 : Nat) : Int)) = false → (q.Ok ∧ t.Ok ∧ n.Ok ∧ x.Ok) ∧ rngI q.v t.v n.v → True ∧ True ∧ ((0 : Nat) ≤ (0 : Nat) ∧ x.n = x.n ∧ ∀ (j : Nat), j < x.n → x.w j = x.w j ∧ x.a j =
  x.a j ∧ x.c j = x.c j ∧ True) ∧ True))) ∧ (¬(DS.mk q.v t.v n.v y.p y.g).gon (atI n.v y.m) = q.v → (((↑(1 : Nat) : Int) != (↑(1 : Nat) : Int)) = true → (q.Ok ∧ t.Ok ∧ n.Ok ∧ x.Ok) ∧ rngI q.v t.v n.v → False ∧ True ∧ ((0 :
  Nat) ≤ (0 : Nat) ∧ x.n = x.n ∧ ∀ (j : Nat), j < x.n → x.w j = x.w j ∧ x.a j = x.a j ∧ x.c j = x.c j ∧ True) ∧ True) ∧ (((↑(1 : Nat) : Int) != (↑(1 : Nat) : Int)) = false → ∀ (v : Int), v = (0 : Int) → ((∃ (y : Nat), y =
  (0 : Nat) ∧ ((False ∧ False ∧ v = (0 : Int) ∧ True) ∧ ((0 : Nat) ≤ (0 : Nat) ∧ x.n = x.n ∧ ∀ (j : Nat), j < x.n → x.w j = x.w j ∧ x.a j = x.a j ∧ x.c j = x.c j ∧ True) ∧ True) ∧ True) ∨ ∃ (y_1 : WQ), (wdB x).I y_1 ∧
  (((True ∧ True ∧ (0 : Nat) = (0 : Nat) ∧ (1 : Nat) = (1 : Nat) ∧ (1 : Nat) = (1 : Nat)) ∧ (True ∧ True ∧ (0 : Nat) = (0 : Nat) ∧ (1 : Nat) = (1 : Nat) ∧ (1 : Nat) = (1 : Nat)) ∧ v = (↑y_1.k : Int) ∧ True) ∧ ((0 : Nat) ≤
  (0 : Nat) ∧ x.n = x.n ∧ ∀ (j : Nat), j < x.n → x.w j = x.w j ∧ x.a j = x.a j ∧ x.c j = x.c j ∧ True) ∧ ((2 : Nat) ≤ (2 : Nat) ∧ (1 : Nat) = (1 : Nat) ∧ ∀ (j : Nat), j < (1 : Nat) → n.v + (DS.mk q.v t.v n.v y.p y.g).per
  (atI n.v y.m) * t.v = y_1.a ∧ q.v - (DS.mk q.v t.v n.v y.p y.g).gon (atI n.v y.m) = y_1.b ∧ True) ∧ ((2 : Nat) ≤ (2 : Nat) ∧ (1 : Nat) = (1 : Nat) ∧ ∀ (j : Nat), j < (1 : Nat) → n.v + (DS.mk q.v t.v n.v y.p y.g).per (atI
  n.v y.m) * t.v = y_1.a ∧ q.v - (DS.mk q.v t.v n.v y.p y.g).gon (atI n.v y.m) = y_1.b ∧ True) ∧ True) ∧ True) ∧ (∀ (y : Nat), y = (0 : Nat) → (decide ((0 : Int) < (0 : Int)) = true → False) ∧ (decide ((0 : Int) < (0 :
  Int)) = false → (q.Ok ∧ t.Ok ∧ n.Ok ∧ x.Ok) ∧ rngI q.v t.v n.v → True ∧ True ∧ ((0 : Nat) ≤ (0 : Nat) ∧ x.n = x.n ∧ ∀ (j : Nat), j < x.n → x.w j = x.w j ∧ x.a j = x.a j ∧ x.c j = x.c j ∧ True) ∧ True)) ∧ ∀ (y : WQ), (wdB
  x).I y → (decide ((↑y.k : Int) < (↑(1 : Nat) : Int)) = true → ((0 : Int) ≤ (↑y.k : Int) ∧ (↑y.k : Int) < (↑(1 : Nat) : Int)) ∧ (0 : Nat) + (↑y.k : Int).toNat < (1 : Nat) ∧ ((0 : Int) ≤ (↑y.k : Int) ∧ (↑y.k : Int) < (↑(1
  : Nat) : Int)) ∧ (0 : Nat) + (↑y.k : Int).toNat < (1 : Nat) ∧ ((!(y.a == y.a && (y.b == y.b && true))) = true → (q.Ok ∧ t.Ok ∧ n.Ok ∧ x.Ok) ∧ rngI q.v t.v n.v → False ∧ True ∧ ((0 : Nat) ≤ (0 : Nat) ∧ x.n = x.n ∧ ∀ (j :
  Nat), j < x.n → x.w j = x.w j ∧ x.a j = x.a j ∧ x.c j = x.c j ∧ True) ∧ True) ∧ ((!(y.a == y.a && (y.b == y.b && true))) = false → ∀ (v : Int), v = IntKind.i64.wrap ((↑y.k : Int) + (1 : Int)) → (∃ (y_1 : Nat), y_1 = (0 :
  Nat) ∧ ((False ∧ False ∧ v = (0 : Int) ∧ True) ∧ ((0 : Nat) ≤ (0 : Nat) ∧ x.n = x.n ∧ ∀ (j : Nat), j < x.n → x.w j = x.w j ∧ x.a j = x.a j ∧ x.c j = x.c j ∧ True) ∧ True) ∧ (wdA x).μ y_1 < (wdB x).μ y) ∨ ∃ (y_1 : WQ),
  (wdB x).I y_1 ∧ (((True ∧ True ∧ (0 : Nat) = (0 : Nat) ∧ (1 : Nat) = (1 : Nat) ∧ (1 : Nat) = (1 : Nat)) ∧ (True ∧ True ∧ (0 : Nat) = (0 : Nat) ∧ (1 : Nat) = (1 : Nat) ∧ (1 : Nat) = (1 : Nat)) ∧ v = (↑y_1.k : Int) ∧ True)
  ∧ ((0 : Nat) ≤ (0 : Nat) ∧ x.n = x.n ∧ ∀ (j : Nat), j < x.n → x.w j = x.w j ∧ x.a j = x.a j ∧ x.c j = x.c j ∧ True) ∧ ((2 : Nat) ≤ (2 : Nat) ∧ (1 : Nat) = (1 : Nat) ∧ ∀ (j : Nat), j < (1 : Nat) → y.a = y_1.a ∧ y.b =
  y_1.b ∧ True) ∧ ((2 : Nat) ≤ (2 : Nat) ∧ (1 : Nat) = (1 : Nat) ∧ ∀ (j : Nat), j < (1 : Nat) → y.a = y_1.a ∧ y.b = y_1.b ∧ True) ∧ True) ∧ (wdB x).μ y_1 < (wdB x).μ y)) ∧ (decide ((↑y.k : Int) < (↑(1 : Nat) : Int)) =
  false → (q.Ok ∧ t.Ok ∧ n.Ok ∧ x.Ok) ∧ rngI q.v t.v n.v → True ∧ True ∧ ((0 : Nat) ≤ (0 : Nat) ∧ x.n = x.n ∧ ∀ (j : Nat), j < x.n → x.w j = x.w j ∧ x.a j = x.a j ∧ x.c j = x.c j ∧ True) ∧ True)))))))) := by
  simp only [true_and, and_true, eq_self, Nat.le_refl, decide_eq_true_eq, decide_eq_false_iff_not, beq_iff_eq, beq_eq_false_iff_ne, implies_true, true_implies, and_self, bne_iff_ne, Int.not_lt, ne_eq, Nat.zero_add, Int.toNat_natCast, IntKind.wrap_u64, IntKind.wrap_i64, bne_eq_false_iff_eq, exists_eq_left, Bool.not_eq_true', Bool.not_eq_false']
  rintro q t n x ⟨⟨hq, ht, hn, hx⟩, hr⟩
  have hr0 := hr
  obtain ⟨a1, a2, a3, a4⟩ := hr0
  have hx1 := hx.1
  have hx2 := hx.2.1
  have hM : ∀ z : WD, (wdF q.v t.v n.v x).μ z = x.len - z.i := fun _ => rfl
  have hM2 : ∀ z : WQ, (wdB x).μ z = 1 - z.k := fun _ => rfl
  have hI2 : ∀ z : WQ, (wdB x).I z = (z.k ≤ 1) := fun _ => rfl
  have hI1 : ∀ z : Nat, (wdA x).I z = (z = 0) := fun _ => rfl
  simp only [hM, hM2, hI2]
  refine ⟨hr, fun v hv => ⟨hr, fun v1 hv1 _ _ => ⟨⟨id, id⟩, ⟨hx1, hx2⟩, fun hsm v hv => ⟨⟨⟨0, n.v, 0, 0⟩, ⟨At.start hn.1 hsm, DS.ok_new a1 a2 a3 hn.1 a4⟩, ⟨rfl, ⟨id, id⟩, hv⟩, rfl, rfl⟩, fun y hy => ?_⟩⟩⟩⟩
  obtain ⟨hA, hd⟩ := hy
  have hxl := hA.xl
  have lp : ∀ y : WQ, y.k ≤ 1 → ↑y.k < (↑1 : Int) → (0 ≤ (↑y.k : Int) ∧ (↑y.k : Int) < ↑1) ∧ y.k < 1 ∧ (0 ≤ (↑y.k : Int) ∧ (↑y.k : Int) < ↑1) ∧ y.k < 1 ∧
      ((y.a == y.a && (y.b == y.b && true)) = false → (q.Ok ∧ t.Ok ∧ n.Ok ∧ x.Ok) ∧ rngI q.v t.v n.v → False) := fun y hy hk => ⟨by omega, by omega, by omega, by omega, fun h => by simp at h⟩
  refine ⟨hx1, fun hlt => ⟨hx1, by omega, by omega, fun v hv => ⟨hx1, by omega, by omega, fun hw => ?_, fun hw => ?_⟩⟩, fun hge => ?_⟩
  · obtain ⟨s1, s2, s3, s4⟩ := hA.step hx (by omega)
    rw [s2] at hv
    have hc := (hx.2.2 y.i (by omega)).2.1
    refine ⟨hx1, by omega, by omega, hx1, by omega, by omega, ⟨hd, hc⟩, ⟨hd, hc⟩, fun h => absurd trivial h, fun v2 hv2 => ⟨⟨y.i + 1, v, _, _⟩, ⟨by dsimp only; rw [hv]; exact s1, hd.aft hc (n := atI n.v v)⟩, ⟨⟨rfl, ⟨id, id⟩, by dsimp only; omega⟩, by repeat' (first | apply And.intro | rfl)⟩, by dsimp only; omega⟩⟩
  · obtain ⟨s1, s2, s3, s4⟩ := hA.step hx (by omega)
    rw [s2] at hv
    refine ⟨hd, fun u hu => ⟨hd, fun e he => ⟨hd, fun h _ => by omega, fun _ => ⟨hd, fun h _ => by omega, fun _ => ⟨hd, hd, fun h => absurd trivial h, hd, hd, fun h => absurd trivial h, fun v4 hv4 => ⟨⟨y.i + 1, v, y.p, y.g⟩, ⟨by dsimp only; rw [hv]; exact s1, hd⟩, ?_, by dsimp only; omega⟩⟩⟩⟩⟩⟩
    exact ⟨⟨rfl, ⟨id, id⟩, by dsimp only; omega⟩, rfl, rfl⟩
  · refine ⟨hd, fun hg => ⟨hd, fun _ => ⟨fun h => absurd trivial h, fun v hv => ⟨?_, ?_, ?_⟩⟩, fun h => absurd hg h⟩, fun hg => ⟨hd, fun h => absurd h hg, fun _ => ⟨fun h => absurd trivial h, fun v hv => ⟨?_, ?_, ?_⟩⟩⟩⟩
    · exact .inl hv
    · exact fun _ _ h => absurd h (by decide)
    · exact fun y hy hk => ⟨(lp y hy hk).1, (lp y hy hk).2.1, (lp y hy hk).2.2.1, (lp y hy hk).2.2.2.1, (lp y hy hk).2.2.2.2, fun _ v2 hv2 => .inr ⟨⟨y.k + 1, y.a, y.b⟩, by dsimp only; omega, ⟨by dsimp only; omega, fun j _ => ⟨rfl, rfl⟩⟩, by dsimp only; omega⟩⟩
    · exact .inr ⟨⟨0, _, _⟩, Nat.zero_le _, hv, fun j _ => ⟨rfl, rfl⟩⟩
    · exact fun _ _ h => absurd h (by decide)
    · exact fun y hy hk => ⟨(lp y hy hk).1, (lp y hy hk).2.1, (lp y hy hk).2.2.1, (lp y hy hk).2.2.2.1, (lp y hy hk).2.2.2.2, fun _ v2 hv2 => .inr ⟨⟨y.k + 1, y.a, y.b⟩, by dsimp only; omega, ⟨by dsimp only; omega, fun j _ => ⟨rfl, rfl⟩⟩, by dsimp only; omega⟩⟩

def wd_C (x : (A64 × A64 × A64 × CS)) : Cfg := { Γ := Go.Sx.look tWd, names := true, loops := wdL (x.1).v (x.2.1).v (x.2.2.1).v (x.2.2.2), mode := wM }
theorem wd_al (x : (A64 × A64 × A64 × CS)) : Shown (wdP.vc Try.prog (wd_C x) Try.f6 x) := ⟨@Eq.mp _ _ (by kernel_rfl) (wd_vc (x.1) (x.2.1) (x.2.2.1) (x.2.2.2))⟩
theorem wd_ok : SpOk Try.prog 6 wdP.sp := @Pat.okS _ wdP Try.prog wd_C 6 Try.f6 (fun x => cfg_tab rfl tWd_ok) (by kernel_rfl) Try.func6 (fun _ => rfl) wd_al
def woP : Pat (AI × A64 × A64 × A64 × CS) where
  view _ _ := none
  args x := [x.1.t, x.2.1.t, x.2.2.1.t, x.2.2.2.1.t, x.2.2.2.2.v 0]
  H x := [x.2.2.2.2.reg]
  out x := .need ((x.1.Ok ∧ x.2.1.Ok ∧ x.2.2.1.Ok ∧ x.2.2.2.1.Ok ∧ x.2.2.2.2.Ok) ∧ badK x.1.v x.2.1.v x.2.2.1.v x.2.2.2.1.v) (.retq .tt)
theorem wo_vc : ∀ (k : AI) (q t n : A64) (x : CS), ((k.Ok ∧ q.Ok ∧ t.Ok ∧ n.Ok ∧ x.Ok) ∧ badK k.v q.v t.v n.v) ∧ True → (True ∧ True) ∧ ((k.v = k.v ∧ q.v = q.v ∧ t.v = t.v ∧ n.v = n.v ∧ True) ∧ True) ∧ badK k.v q.v t.v n.v ∧ ∀ (v :
  Int), (v = if k.v = (1 : Int) ∨ k.v = (2 : Int) then (11 : Int) else (10 : Int)) → ((k.v = k.v ∧ q.v = q.v ∧ t.v = t.v ∧ n.v = n.v ∧ True) ∧ True) ∧ badK k.v q.v t.v n.v ∧ ∀ (v_1 : Int), (v_1 = if k.v = (1 : Int) ∨ k.v =
  (2 : Int) then (11 : Int) else (10 : Int)) → ((v != (0 : Int)) = true → (k.Ok ∧ q.Ok ∧ t.Ok ∧ n.Ok ∧ x.Ok) ∧ badK k.v q.v t.v n.v → True ∧ True ∧ ((0 : Nat) ≤ (0 : Nat) ∧ x.n = x.n ∧ ∀ (j : Nat), j < x.n → x.w j = x.w j
  ∧ x.a j = x.a j ∧ x.c j = x.c j ∧ True) ∧ True) ∧ ((v != (0 : Int)) = false → ((v_1 != (0 : Int)) = true → (k.Ok ∧ q.Ok ∧ t.Ok ∧ n.Ok ∧ x.Ok) ∧ badK k.v q.v t.v n.v → True ∧ True ∧ ((0 : Nat) ≤ (0 : Nat) ∧ x.n = x.n ∧ ∀
  (j : Nat), j < x.n → x.w j = x.w j ∧ x.a j = x.a j ∧ x.c j = x.c j ∧ True) ∧ True) ∧ ((v_1 != (0 : Int)) = false → (k.Ok ∧ q.Ok ∧ t.Ok ∧ n.Ok ∧ x.Ok) ∧ badK k.v q.v t.v n.v → True ∧ True ∧ ((0 : Nat) ≤ (0 : Nat) ∧ x.n =
  x.n ∧ ∀ (j : Nat), j < x.n → x.w j = x.w j ∧ x.a j = x.a j ∧ x.c j = x.c j ∧ True) ∧ True)) := by
  simp only [true_and, and_true, eq_self, Nat.le_refl, implies_true, and_self, bne_iff_ne, ne_eq, bne_eq_false_iff_eq]
  first | (rintro k q t n x ⟨_, h⟩; exact h) | (rintro k q t n x ⟨_, h⟩; exact ⟨h, fun _ _ => h⟩) | (rintro k q t n x ⟨_, h⟩; trace_state; sorry)

def wo_C (_ : (AI × A64 × A64 × A64 × CS)) : Cfg := { Γ := Go.Sx.look tBkO, names := true }
theorem wo_al (x : (AI × A64 × A64 × A64 × CS)) : Shown (woP.vc Try.prog (wo_C x) Try.f6 x) := ⟨@Eq.mp _ _ (by kernel_rfl) (wo_vc (x.1) (x.2.1) (x.2.2.1) (x.2.2.2.1) (x.2.2.2.2))⟩
theorem wo_ok : SpOk Try.prog 6 woP.sp := @Pat.okS _ woP Try.prog wo_C 6 Try.f6 (fun x => cfg_tab rfl tBkO_ok) (by kernel_rfl) Try.func6 (fun _ => rfl) wo_al
end Go.Proofs.Ytokiakcmdbihhaa
