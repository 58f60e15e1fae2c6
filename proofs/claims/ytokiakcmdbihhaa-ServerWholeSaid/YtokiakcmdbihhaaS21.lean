import Derived.Test.YtokiakcmdbihhaaS20
open Go Go.Sx Go.Proofs
set_option maxRecDepth 100000
namespace Go.Proofs.Ytokiakcmdbihhaa

structure DI where
  i : Nat
  m : Int
  p : Int
  g : Int
structure DJ where
  i : Nat
  m : Int
  p : Int
  g : Int
  a : Int
  b : Int
  k : Nat
theorem dnext {d : DS} (h : d.Ok) {m : Int} (h0 : d.b ≤ m) (h1 : m ≤ 2305843009213693952 + 67553994410557440) (hp : d.p ≤ (m - d.b) / d.t) :
    (d.b + (((m - d.b) % 18446744073709551616).tdiv d.t % 18446744073709551616 + 1) % 18446744073709551616 * d.t % 18446744073709551616) % 18446744073709551616 = d.b + (d.per m + 1) * d.t ∧
    d.us (atI d.b (d.b + (d.per m + 1) * d.t)) = d.q ∧ d.due (atI d.b m) = d.b + (d.per m + 1) * d.t := by
  have q0 := h.q0; have qt := h.qt; have t1 := h.t1; have b0 := h.b0; have b1 := h.b1
  obtain ⟨p1, p2, p3, p4⟩ := DS.per_bd h (n := m) ⟨h0, by omega⟩
  have hpe : (m - d.b) / d.t = d.per m := rfl
  rw [hpe] at hp
  have e1 : (m - d.b) % 18446744073709551616 = m - d.b := by omega
  have e2 : (m - d.b).tdiv d.t = d.per m := Int.tdiv_eq_ediv_of_nonneg (by omega)
  have e3 : (d.per m + 1) * d.t = d.per m * d.t + d.t := by rw [Int.add_mul, Int.one_mul]
  have hz := Int.mul_nonneg p1 (show 0 ≤ d.t by omega)
  have hX : 0 ≤ (d.per m + 1) * d.t ∧ d.b + (d.per m + 1) * d.t ≤ 4611686018427387904 := by rw [e3]; omega
  have hat : atI d.b m = m := atI_id h0 (by omega)
  have hat2 : atI d.b (d.b + (d.per m + 1) * d.t) = d.b + (d.per m + 1) * d.t := atI_id (by omega) hX.2
  refine ⟨?_, ?_, ?_⟩
  · rw [e1, e2]
    have e4 : d.per m % 18446744073709551616 = d.per m := by omega
    have e5 : (d.per m + 1) % 18446744073709551616 = d.per m + 1 := by omega
    rw [e4, e5]
    generalize (d.per m + 1) * d.t = X at hX
    omega
  · rw [hat2]
    have e6 : d.per (d.b + (d.per m + 1) * d.t) = d.per m + 1 := by
      show (d.b + (d.per m + 1) * d.t - d.b) / d.t = d.per m + 1
      rw [show d.b + (d.per m + 1) * d.t - d.b = (d.per m + 1) * d.t by omega]
      exact Int.mul_ediv_cancel _ (by omega)
    unfold DS.us DS.gon
    rw [e6, if_neg (by omega)]
    omega
  · rw [hat]
    exact cutI_id hX.2
theorem At.m2 {n : Int} {x : CS} {i : Nat} {m : Int} (h : At n x i m) : m ≤ 2305843009213693952 + 67553994410557440 := by
  obtain ⟨h1, h2, h3, h4, h5, h6, h7⟩ := h
  omega
theorem per_mono {t n m m' : Int} (ht : 1 ≤ t) (h : m ≤ m') : (m - n) / t ≤ (m' - n) / t := Int.ediv_le_ediv (by omega) (by omega)
def hdF (q t n : Int) (x : CS) : Fam where
  α := DI
  I w := At n x w.i w.m ∧ (⟨q, t, n, w.p, w.g⟩ : DS).Ok ∧ w.p ≤ (w.m - n) / t
  st w := { sl := mkSl 191 [(0, .int .i64 2), (1, .int .u64 q), (2, .int .u64 t), (3, .int .u64 w.m), (4, x.v 0), (11, p0 1), (13, .int .u64 n), (14, .int .i64 w.i)], H := [x.reg] ++ (⟨q, t, n, w.p, w.g⟩ : DS).Vr 1 }
  μ w := x.len - w.i
def hdC (q t n : Int) (x : CS) (u : Nat) : Fam where
  α := DI
  I w := w.i = u ∧ w.i < x.len ∧ At n x (w.i + 1) w.m ∧ (⟨q, t, n, w.p, w.g⟩ : DS).Ok ∧ w.p ≤ (w.m - n) / t
  st w := { sl := mkSl 191 [(0, .int .i64 2), (1, .int .u64 q), (2, .int .u64 t), (3, .int .u64 w.m), (4, x.v 0), (11, p0 1), (13, .int .u64 n), (14, .int .i64 w.i)], H := [x.reg] ++ (⟨q, t, n, w.p, w.g⟩ : DS).Vr 1 }
  μ _ := 0
def hdA (q t n : Int) (x : CS) (u : Nat) : Fam where
  α := DI
  I w := w.i = u ∧ w.i < x.len ∧ At n x (w.i + 1) w.m ∧ (⟨q, t, n, w.p, w.g⟩ : DS).Ok ∧ w.p ≤ (w.m - n) / t
  st w := { sl := mkSl 191 [(0, .int .i64 2), (1, .int .u64 q), (2, .int .u64 t), (3, .int .u64 w.m), (4, x.v 0), (11, p0 1), (13, .int .u64 n), (14, .int .i64 w.i), (16, .nils), (17, .int .u64 0), (18, .int .i64 0)], H := [x.reg] ++ (⟨q, t, n, w.p, w.g⟩ : DS).Vr 1 }
  μ _ := 0
def hdB (q t n : Int) (x : CS) (u : Nat) : Fam where
  α := DJ
  I w := w.i = u ∧ w.i < x.len ∧ At n x (w.i + 1) w.m ∧ (⟨q, t, n, w.p, w.g⟩ : DS).Ok ∧ w.p ≤ (w.m - n) / t ∧ w.k ≤ 1 ∧ 1 ≤ w.b ∧ w.b ≤ q
  st w := { sl := mkSl 191 [(0, .int .i64 2), (1, .int .u64 q), (2, .int .u64 t), (3, .int .u64 w.m), (4, x.v 0), (11, p0 1), (13, .int .u64 n), (14, .int .i64 w.i), (16, .slice 3 0 [] 0 2 1 1), (17, .int .u64 (if w.k = 0 then 0 else w.b)), (18, .int .i64 w.k)], H := [x.reg] ++ (⟨q, t, n, w.p, w.g⟩ : DS).Vr 1 ++ [dRow w.a w.b] }
  μ w := 1 - w.k
def hdL (q t n : Int) (x : CS) : Nat → Gam
  | 8 => .l [hdF q t n x]
  | 19 => .g fun u => [hdA q t n x u, hdB q t n x u]
  | _ => .l []
def hdU (q t n : Int) (x : CS) : Nat → Gam
  | 16 => .g fun u => [hdC q t n x u]
  | _ => .l []
def hdP : Pat (A64 × A64 × A64 × CS) where
  view _ _ := none
  args x := [.int .i64 2, x.1.t, x.2.1.t, x.2.2.1.t, x.2.2.2.v 0]
  H x := [x.2.2.2.reg]
  out x := .need ((x.1.Ok ∧ x.2.1.Ok ∧ x.2.2.1.Ok ∧ x.2.2.2.Ok) ∧ rngI x.1.v x.2.1.v x.2.2.1.v) (.retq .tt)
def tHd : Tab := [(8, aliveP.sp), (9, n2P.sp), (10, grP.sp), (11, sdwP.sp), (12, sduP.sp), (13, sdcP.sp), (15, sdlP.sp), (14, sdkP.sp)]
theorem tHd_ok : TabOk Try.prog tHd := (tab_cons alive_ok (tab_cons n2_ok (tab_cons gr_ok (tab_cons sdw_ok (tab_cons sdu_ok (tab_cons sdc_ok (tab_cons sdl_ok (tab_cons sdk_ok tab_nil))))))))

theorem hd_vc : ∀ (q t n : A64) (x : CS), ((q.Ok ∧ t.Ok ∧ n.Ok ∧ x.Ok) ∧ rngI q.v t.v n.v) ∧ True → (True ∧ True) ∧ (((2 : Int) = (2 : Int) ∧ q.v = q.v ∧ t.v = t.v ∧ n.v = n.v ∧ True) ∧ True) ∧ rngI q.v t.v n.v ∧ ∀ (v : Int), v = (0 :
  Int) → ((v != (0 : Int)) = true → (q.Ok ∧ t.Ok ∧ n.Ok ∧ x.Ok) ∧ rngI q.v t.v n.v → True ∧ True ∧ ((0 : Nat) ≤ (0 : Nat) ∧ x.n = x.n ∧ ∀ (j : Nat), j < x.n → x.w j = x.w j ∧ x.a j = x.a j ∧ x.c j = x.c j ∧ True) ∧ True) ∧
  ((v != (0 : Int)) = false → ((n.v = n.v ∧ ((x.nil = true → x.nil = true) ∧ (x.nil = false → x.nil = false ∧ True ∧ True ∧ x.lo = x.lo ∧ x.len = x.len ∧ x.cap = x.cap)) ∧ True) ∧ ((0 : Nat) ≤ (0 : Nat) ∧ x.n = x.n ∧ ∀ (j
  : Nat), j < x.n → x.w j = x.w j ∧ x.a j = x.a j ∧ x.c j = x.c j ∧ True) ∧ True) ∧ ((x.nil = true → x.len = (0 : Nat)) ∧ x.lo + x.len ≤ x.n) ∧ ((!decide (small n.v x)) = true → (q.Ok ∧ t.Ok ∧ n.Ok ∧ x.Ok) ∧ rngI q.v t.v
  n.v → True ∧ True ∧ ((0 : Nat) ≤ (0 : Nat) ∧ x.n = x.n ∧ ∀ (j : Nat), j < x.n → x.w j = x.w j ∧ x.a j = x.a j ∧ x.c j = x.c j ∧ True) ∧ True) ∧ ((!decide (small n.v x)) = false → ∀ (v : Int), v = n.v → ∀ (v_1 : Int), v_1
  = (0 : Int) → (∃ (y : DI), (At n.v x y.i y.m ∧ (DS.mk q.v t.v n.v y.p y.g).Ok ∧ y.p ≤ (y.m - n.v) / t.v) ∧ (((2 : Int) = (2 : Int) ∧ q.v = q.v ∧ t.v = t.v ∧ n.v = y.m ∧ ((x.nil = true → x.nil = true) ∧ (x.nil = false →
  x.nil = false ∧ True ∧ True ∧ x.lo = x.lo ∧ x.len = x.len ∧ x.cap = x.cap)) ∧ (True ∧ True) ∧ v = n.v ∧ v_1 = (↑y.i : Int) ∧ True) ∧ ((0 : Nat) ≤ (0 : Nat) ∧ x.n = x.n ∧ ∀ (j : Nat), j < x.n → x.w j = x.w j ∧ x.a j = x.a
  j ∧ x.c j = x.c j ∧ True) ∧ ((5 : Nat) ≤ (5 : Nat) ∧ (q.v = q.v ∧ t.v = t.v ∧ n.v = n.v ∧ True) ∧ (2 : Int) = (2 : Int) ∧ (True ∧ True) ∧ True) ∧ ((5 : Nat) ≤ (5 : Nat) ∧ (q.v = q.v ∧ t.v = t.v ∧ n.v = n.v ∧ True) ∧ (0 :
  Int) = y.p ∧ (0 : Int) = y.g ∧ True) ∧ True) ∧ True) ∧ ∀ (y : DI), At n.v x y.i y.m ∧ (DS.mk q.v t.v n.v y.p y.g).Ok ∧ y.p ≤ (y.m - n.v) / t.v → (x.nil = true → x.len = (0 : Nat)) ∧ (decide ((↑y.i : Int) < (↑x.len :
  Int)) = true → (x.nil = true → x.len = (0 : Nat)) ∧ ((0 : Int) ≤ (↑y.i : Int) ∧ (↑y.i : Int) < (↑x.len : Int)) ∧ x.lo + (↑y.i : Int).toNat < x.n ∧ ∀ (v : Int), v = IntKind.u64.wrap (y.m + x.a (x.lo + (↑y.i : Int).toNat))
  → ∃ (g : Nat), ((x.nil = true → x.len = (0 : Nat)) ∧ ((0 : Int) ≤ (↑y.i : Int) ∧ (↑y.i : Int) < (↑x.len : Int)) ∧ x.lo + (↑y.i : Int).toNat < x.n ∧ ((x.w (x.lo + (↑y.i : Int).toNat) == (0 : Int)) = true → (((True ∧ True)
  ∧ v = v ∧ True) ∧ ((5 : Nat) ≤ (5 : Nat) ∧ (q.v = q.v ∧ t.v = t.v ∧ n.v = n.v ∧ True) ∧ (2 : Int) = (2 : Int) ∧ (True ∧ True) ∧ True) ∧ ((5 : Nat) ≤ (5 : Nat) ∧ (q.v = q.v ∧ t.v = t.v ∧ n.v = n.v ∧ True) ∧ y.p = y.p ∧
  y.g = y.g ∧ True) ∧ True) ∧ ∃ (y_1 : DI), (y_1.i = g ∧ y_1.i < x.len ∧ At n.v x (y_1.i + (1 : Nat)) y_1.m ∧ (DS.mk q.v t.v n.v y_1.p y_1.g).Ok ∧ y_1.p ≤ (y_1.m - n.v) / t.v) ∧ (((2 : Int) = (2 : Int) ∧ q.v = q.v ∧ t.v =
  t.v ∧ v = y_1.m ∧ ((x.nil = true → x.nil = true) ∧ (x.nil = false → x.nil = false ∧ True ∧ True ∧ x.lo = x.lo ∧ x.len = x.len ∧ x.cap = x.cap)) ∧ (True ∧ True) ∧ n.v = n.v ∧ (↑y.i : Int) = (↑y_1.i : Int) ∧ True) ∧ ((0 :
  Nat) ≤ (0 : Nat) ∧ x.n = x.n ∧ ∀ (j : Nat), j < x.n → x.w j = x.w j ∧ x.a j = x.a j ∧ x.c j = x.c j ∧ True) ∧ ((5 : Nat) ≤ (5 : Nat) ∧ (q.v = q.v ∧ t.v = t.v ∧ n.v = n.v ∧ True) ∧ (2 : Int) = (2 : Int) ∧ (True ∧ True) ∧
  True) ∧ ((5 : Nat) ≤ (5 : Nat) ∧ (q.v = q.v ∧ t.v = t.v ∧ n.v = n.v ∧ True) ∧ y.p = y_1.p ∧ y.g = y_1.g ∧ True) ∧ True) ∧ True) ∧ ((x.w (x.lo + (↑y.i : Int).toNat) == (0 : Int)) = false → (x.nil = true → x.len = (0 :
  Nat)) ∧ ((0 : Int) ≤ (↑y.i : Int) ∧ (↑y.i : Int) < (↑x.len : Int)) ∧ x.lo + (↑y.i : Int).toNat < x.n ∧ (((True ∧ True) ∧ v = v ∧ x.c (x.lo + (↑y.i : Int).toNat) = x.c (x.lo + (↑y.i : Int).toNat) ∧ True) ∧ ((5 : Nat) ≤ (5
  : Nat) ∧ (q.v = q.v ∧ t.v = t.v ∧ n.v = n.v ∧ True) ∧ (2 : Int) = (2 : Int) ∧ (True ∧ True) ∧ True) ∧ ((5 : Nat) ≤ (5 : Nat) ∧ (q.v = q.v ∧ t.v = t.v ∧ n.v = n.v ∧ True) ∧ y.p = y.p ∧ y.g = y.g ∧ True) ∧ True) ∧ ((DS.mk
  q.v t.v n.v y.p y.g).Ok ∧ (0 : Int) ≤ x.c (x.lo + (↑y.i : Int).toNat)) ∧ ∀ (v_2 : Int), v_2 = (DS.mk q.v t.v n.v y.p y.g).chg (atI n.v v) (x.c (x.lo + (↑y.i : Int).toNat)) → (x.nil = true → x.len = (0 : Nat)) ∧ ((0 :
  Int) ≤ (↑y.i : Int) ∧ (↑y.i : Int) < (↑x.len : Int)) ∧ x.lo + (↑y.i : Int).toNat < x.n ∧ (decide (v_2 > x.c (x.lo + (↑y.i : Int).toNat)) = true → (q.Ok ∧ t.Ok ∧ n.Ok ∧ x.Ok) ∧ rngI q.v t.v n.v → False ∧ True ∧ ((0 : Nat)
  ≤ (0 : Nat) ∧ x.n = x.n ∧ ∀ (j : Nat), j < x.n → x.w j = x.w j ∧ x.a j = x.a j ∧ x.c j = x.c j ∧ True) ∧ True) ∧ (decide (v_2 > x.c (x.lo + (↑y.i : Int).toNat)) = false → (decide (v_2 > q.v) = true → (q.Ok ∧ t.Ok ∧ n.Ok
  ∧ x.Ok) ∧ rngI q.v t.v n.v → False ∧ True ∧ ((0 : Nat) ≤ (0 : Nat) ∧ x.n = x.n ∧ ∀ (j : Nat), j < x.n → x.w j = x.w j ∧ x.a j = x.a j ∧ x.c j = x.c j ∧ True) ∧ True) ∧ (decide (v_2 > q.v) = false → (((2 : Int) == (1 :
  Int)) = true → (x.nil = true → x.len = (0 : Nat)) ∧ ((0 : Int) ≤ (↑y.i : Int) ∧ (↑y.i : Int) < (↑x.len : Int)) ∧ x.lo + (↑y.i : Int).toNat < x.n ∧ ((v_2 != if q.v < x.c (x.lo + (↑y.i : Int).toNat) then q.v else x.c (x.lo
  + (↑y.i : Int).toNat)) = true → (q.Ok ∧ t.Ok ∧ n.Ok ∧ x.Ok) ∧ rngI q.v t.v n.v → False ∧ True ∧ ((0 : Nat) ≤ (0 : Nat) ∧ x.n = x.n ∧ ∀ (j : Nat), j < x.n → x.w j = x.w j ∧ x.a j = x.a j ∧ x.c j = x.c j ∧ True) ∧ True) ∧
  ((v_2 != if q.v < x.c (x.lo + (↑y.i : Int).toNat) then q.v else x.c (x.lo + (↑y.i : Int).toNat)) = false → ∃ (y_1 : DI), (y_1.i = g ∧ y_1.i < x.len ∧ At n.v x (y_1.i + (1 : Nat)) y_1.m ∧ (DS.mk q.v t.v n.v y_1.p
  y_1.g).Ok ∧ y_1.p ≤ (y_1.m - n.v) / t.v) ∧ (((2 : Int) = (2 : Int) ∧ q.v = q.v ∧ t.v = t.v ∧ v = y_1.m ∧ ((x.nil = true → x.nil = true) ∧ (x.nil = false → x.nil = false ∧ True ∧ True ∧ x.lo = x.lo ∧ x.len = x.len ∧ x.cap
  = x.cap)) ∧ (True ∧ True) ∧ n.v = n.v ∧ (↑y.i : Int) = (↑y_1.i : Int) ∧ True) ∧ ((0 : Nat) ≤ (0 : Nat) ∧ x.n = x.n ∧ ∀ (j : Nat), j < x.n → x.w j = x.w j ∧ x.a j = x.a j ∧ x.c j = x.c j ∧ True) ∧ ((5 : Nat) ≤ (5 : Nat) ∧
  (((DS.mk q.v t.v n.v y.p y.g).aft (atI n.v v) (x.c (x.lo + (↑y.i : Int).toNat))).q = q.v ∧ ((DS.mk q.v t.v n.v y.p y.g).aft (atI n.v v) (x.c (x.lo + (↑y.i : Int).toNat))).t = t.v ∧ ((DS.mk q.v t.v n.v y.p y.g).aft (atI
  n.v v) (x.c (x.lo + (↑y.i : Int).toNat))).b = n.v ∧ True) ∧ (2 : Int) = (2 : Int) ∧ (True ∧ True) ∧ True) ∧ ((5 : Nat) ≤ (5 : Nat) ∧ (((DS.mk q.v t.v n.v y.p y.g).aft (atI n.v v) (x.c (x.lo + (↑y.i : Int).toNat))).q =
  q.v ∧ ((DS.mk q.v t.v n.v y.p y.g).aft (atI n.v v) (x.c (x.lo + (↑y.i : Int).toNat))).t = t.v ∧ ((DS.mk q.v t.v n.v y.p y.g).aft (atI n.v v) (x.c (x.lo + (↑y.i : Int).toNat))).b = n.v ∧ True) ∧ ((DS.mk q.v t.v n.v y.p
  y.g).aft (atI n.v v) (x.c (x.lo + (↑y.i : Int).toNat))).p = y_1.p ∧ ((DS.mk q.v t.v n.v y.p y.g).aft (atI n.v v) (x.c (x.lo + (↑y.i : Int).toNat))).g = y_1.g ∧ True) ∧ True) ∧ True)) ∧ (((2 : Int) == (1 : Int)) = false →
  ∃ (y_1 : DI), (y_1.i = g ∧ y_1.i < x.len ∧ At n.v x (y_1.i + (1 : Nat)) y_1.m ∧ (DS.mk q.v t.v n.v y_1.p y_1.g).Ok ∧ y_1.p ≤ (y_1.m - n.v) / t.v) ∧ (((2 : Int) = (2 : Int) ∧ q.v = q.v ∧ t.v = t.v ∧ v = y_1.m ∧ ((x.nil =
  true → x.nil = true) ∧ (x.nil = false → x.nil = false ∧ True ∧ True ∧ x.lo = x.lo ∧ x.len = x.len ∧ x.cap = x.cap)) ∧ (True ∧ True) ∧ n.v = n.v ∧ (↑y.i : Int) = (↑y_1.i : Int) ∧ True) ∧ ((0 : Nat) ≤ (0 : Nat) ∧ x.n = x.n
  ∧ ∀ (j : Nat), j < x.n → x.w j = x.w j ∧ x.a j = x.a j ∧ x.c j = x.c j ∧ True) ∧ ((5 : Nat) ≤ (5 : Nat) ∧ (((DS.mk q.v t.v n.v y.p y.g).aft (atI n.v v) (x.c (x.lo + (↑y.i : Int).toNat))).q = q.v ∧ ((DS.mk q.v t.v n.v y.p
  y.g).aft (atI n.v v) (x.c (x.lo + (↑y.i : Int).toNat))).t = t.v ∧ ((DS.mk q.v t.v n.v y.p y.g).aft (atI n.v v) (x.c (x.lo + (↑y.i : Int).toNat))).b = n.v ∧ True) ∧ (2 : Int) = (2 : Int) ∧ (True ∧ True) ∧ True) ∧ ((5 :
  Nat) ≤ (5 : Nat) ∧ (((DS.mk q.v t.v n.v y.p y.g).aft (atI n.v v) (x.c (x.lo + (↑y.i : Int).toNat))).q = q.v ∧ ((DS.mk q.v t.v n.v y.p y.g).aft (atI n.v v) (x.c (x.lo + (↑y.i : Int).toNat))).t = t.v ∧ ((DS.mk q.v t.v n.v
  y.p y.g).aft (atI n.v v) (x.c (x.lo + (↑y.i : Int).toNat))).b = n.v ∧ True) ∧ ((DS.mk q.v t.v n.v y.p y.g).aft (atI n.v v) (x.c (x.lo + (↑y.i : Int).toNat))).p = y_1.p ∧ ((DS.mk q.v t.v n.v y.p y.g).aft (atI n.v v) (x.c
  (x.lo + (↑y.i : Int).toNat))).g = y_1.g ∧ True) ∧ True) ∧ True))))) ∧ ∀ (y_1 : DI), y_1.i = g ∧ y_1.i < x.len ∧ At n.v x (y_1.i + (1 : Nat)) y_1.m ∧ (DS.mk q.v t.v n.v y_1.p y_1.g).Ok ∧ y_1.p ≤ (y_1.m - n.v) / t.v →
  (((True ∧ True) ∧ y_1.m = y_1.m ∧ True) ∧ ((5 : Nat) ≤ (5 : Nat) ∧ (q.v = q.v ∧ t.v = t.v ∧ n.v = n.v ∧ True) ∧ (2 : Int) = (2 : Int) ∧ (True ∧ True) ∧ True) ∧ ((5 : Nat) ≤ (5 : Nat) ∧ (q.v = q.v ∧ t.v = t.v ∧ n.v = n.v
  ∧ True) ∧ y_1.p = y_1.p ∧ y_1.g = y_1.g ∧ True) ∧ True) ∧ (DS.mk q.v t.v n.v y_1.p y_1.g).Ok ∧ ((DS.mk q.v t.v n.v y_1.p y_1.g).gon (atI n.v y_1.m) = q.v → ∀ (v : Int), v = (0 : Int) → ∀ (v_2 : Int), v_2 = (0 : Int) → ∃
  (g : Nat), ((∃ (y : DI), (y.i = g ∧ y.i < x.len ∧ At n.v x (y.i + (1 : Nat)) y.m ∧ (DS.mk q.v t.v n.v y.p y.g).Ok ∧ y.p ≤ (y.m - n.v) / t.v) ∧ (((2 : Int) = (2 : Int) ∧ q.v = q.v ∧ t.v = t.v ∧ y_1.m = y.m ∧ ((x.nil =
  true → x.nil = true) ∧ (x.nil = false → x.nil = false ∧ True ∧ True ∧ x.lo = x.lo ∧ x.len = x.len ∧ x.cap = x.cap)) ∧ (True ∧ True) ∧ n.v = n.v ∧ (↑y_1.i : Int) = (↑y.i : Int) ∧ True ∧ v = (0 : Int) ∧ v_2 = (0 : Int) ∧
  True) ∧ ((0 : Nat) ≤ (0 : Nat) ∧ x.n = x.n ∧ ∀ (j : Nat), j < x.n → x.w j = x.w j ∧ x.a j = x.a j ∧ x.c j = x.c j ∧ True) ∧ ((5 : Nat) ≤ (5 : Nat) ∧ (q.v = q.v ∧ t.v = t.v ∧ n.v = n.v ∧ True) ∧ (2 : Int) = (2 : Int) ∧
  (True ∧ True) ∧ True) ∧ ((5 : Nat) ≤ (5 : Nat) ∧ (q.v = q.v ∧ t.v = t.v ∧ n.v = n.v ∧ True) ∧ y_1.p = y.p ∧ y_1.g = y.g ∧ True) ∧ True) ∧ True) ∨ ∃ (y : DJ), (y.i = g ∧ y.i < x.len ∧ At n.v x (y.i + (1 : Nat)) y.m ∧
  (DS.mk q.v t.v n.v y.p y.g).Ok ∧ y.p ≤ (y.m - n.v) / t.v ∧ y.k ≤ (1 : Nat) ∧ (1 : Int) ≤ y.b ∧ y.b ≤ q.v) ∧ False ∧ True) ∧ (∀ (y_2 : DI), y_2.i = g ∧ y_2.i < x.len ∧ At n.v x (y_2.i + (1 : Nat)) y_2.m ∧ (DS.mk q.v t.v
  n.v y_2.p y_2.g).Ok ∧ y_2.p ≤ (y_2.m - n.v) / t.v → (decide ((0 : Int) < (0 : Int)) = true → False) ∧ (decide ((0 : Int) < (0 : Int)) = false → (((2 : Int) == (1 : Int)) = true → (((0 : Int) != q.v) = true → (q.Ok ∧ t.Ok
  ∧ n.Ok ∧ x.Ok) ∧ rngI q.v t.v n.v → False ∧ True ∧ ((0 : Nat) ≤ (0 : Nat) ∧ x.n = x.n ∧ ∀ (j : Nat), j < x.n → x.w j = x.w j ∧ x.a j = x.a j ∧ x.c j = x.c j ∧ True) ∧ True) ∧ (((0 : Int) != q.v) = false → (decide ((0 :
  Int) > (8 : Int)) = true → (q.Ok ∧ t.Ok ∧ n.Ok ∧ x.Ok) ∧ rngI q.v t.v n.v → False ∧ True ∧ ((0 : Nat) ≤ (0 : Nat) ∧ x.n = x.n ∧ ∀ (j : Nat), j < x.n → x.w j = x.w j ∧ x.a j = x.a j ∧ x.c j = x.c j ∧ True) ∧ True) ∧
  (decide ((0 : Int) > (8 : Int)) = false → (((2 : Int) == (2 : Int)) = true → (decide ((0 : Int) > q.v) = true → (q.Ok ∧ t.Ok ∧ n.Ok ∧ x.Ok) ∧ rngI q.v t.v n.v → False ∧ True ∧ ((0 : Nat) ≤ (0 : Nat) ∧ x.n = x.n ∧ ∀ (j :
  Nat), j < x.n → x.w j = x.w j ∧ x.a j = x.a j ∧ x.c j = x.c j ∧ True) ∧ True) ∧ (decide ((0 : Int) > q.v) = false → (decide ((0 : Int) > (1 : Int)) = true → (q.Ok ∧ t.Ok ∧ n.Ok ∧ x.Ok) ∧ rngI q.v t.v n.v → False ∧ True ∧
  ((0 : Nat) ≤ (0 : Nat) ∧ x.n = x.n ∧ ∀ (j : Nat), j < x.n → x.w j = x.w j ∧ x.a j = x.a j ∧ x.c j = x.c j ∧ True) ∧ True) ∧ (decide ((0 : Int) > (1 : Int)) = false → t.v ≠ (0 : Int) ∧ ∀ (v : Int), v = IntKind.u64.wrap
  (n.v + IntKind.u64.wrap (IntKind.u64.wrap (IntKind.u64.wrap ((IntKind.u64.wrap (y_2.m - n.v)).tdiv t.v) + (1 : Int)) * t.v)) → (((2 : Int) == (2 : Int)) = true → (((True ∧ True) ∧ v = v ∧ True) ∧ ((5 : Nat) ≤ (5 : Nat) ∧
  (q.v = q.v ∧ t.v = t.v ∧ n.v = n.v ∧ True) ∧ (2 : Int) = (2 : Int) ∧ (True ∧ True) ∧ True) ∧ ((5 : Nat) ≤ (5 : Nat) ∧ (q.v = q.v ∧ t.v = t.v ∧ n.v = n.v ∧ True) ∧ y_2.p = y_2.p ∧ y_2.g = y_2.g ∧ True) ∧ True) ∧ (DS.mk
  q.v t.v n.v y_2.p y_2.g).Ok ∧ (((DS.mk q.v t.v n.v y_2.p y_2.g).us (atI n.v v) != q.v) = true → (q.Ok ∧ t.Ok ∧ n.Ok ∧ x.Ok) ∧ rngI q.v t.v n.v → False ∧ True ∧ ((0 : Nat) ≤ (0 : Nat) ∧ x.n = x.n ∧ ∀ (j : Nat), j < x.n →
  x.w j = x.w j ∧ x.a j = x.a j ∧ x.c j = x.c j ∧ True) ∧ True) ∧ (((DS.mk q.v t.v n.v y_2.p y_2.g).us (atI n.v v) != q.v) = false → (((True ∧ True) ∧ y_2.m = y_2.m ∧ True) ∧ ((5 : Nat) ≤ (5 : Nat) ∧ (q.v = q.v ∧ t.v = t.v
  ∧ n.v = n.v ∧ True) ∧ (2 : Int) = (2 : Int) ∧ (True ∧ True) ∧ True) ∧ ((5 : Nat) ≤ (5 : Nat) ∧ (q.v = q.v ∧ t.v = t.v ∧ n.v = n.v ∧ True) ∧ y_2.p = y_2.p ∧ y_2.g = y_2.g ∧ True) ∧ True) ∧ (DS.mk q.v t.v n.v y_2.p
  y_2.g).Ok ∧ (((DS.mk q.v t.v n.v y_2.p y_2.g).due (atI n.v y_2.m) != v) = true → (q.Ok ∧ t.Ok ∧ n.Ok ∧ x.Ok) ∧ rngI q.v t.v n.v → False ∧ True ∧ ((0 : Nat) ≤ (0 : Nat) ∧ x.n = x.n ∧ ∀ (j : Nat), j < x.n → x.w j = x.w j ∧
  x.a j = x.a j ∧ x.c j = x.c j ∧ True) ∧ True) ∧ (((DS.mk q.v t.v n.v y_2.p y_2.g).due (atI n.v y_2.m) != v) = false → ∀ (v : Int), v = IntKind.i64.wrap ((↑y_2.i : Int) + (1 : Int)) → ∃ (y_3 : DI), (At n.v x y_3.i y_3.m ∧
  (DS.mk q.v t.v n.v y_3.p y_3.g).Ok ∧ y_3.p ≤ (y_3.m - n.v) / t.v) ∧ (((2 : Int) = (2 : Int) ∧ q.v = q.v ∧ t.v = t.v ∧ y_2.m = y_3.m ∧ ((x.nil = true → x.nil = true) ∧ (x.nil = false → x.nil = false ∧ True ∧ True ∧ x.lo =
  x.lo ∧ x.len = x.len ∧ x.cap = x.cap)) ∧ (True ∧ True) ∧ n.v = n.v ∧ v = (↑y_3.i : Int) ∧ True) ∧ ((0 : Nat) ≤ (0 : Nat) ∧ x.n = x.n ∧ ∀ (j : Nat), j < x.n → x.w j = x.w j ∧ x.a j = x.a j ∧ x.c j = x.c j ∧ True) ∧ ((5 :
  Nat) ≤ (5 : Nat) ∧ (q.v = q.v ∧ t.v = t.v ∧ n.v = n.v ∧ True) ∧ (2 : Int) = (2 : Int) ∧ (True ∧ True) ∧ True) ∧ ((5 : Nat) ≤ (5 : Nat) ∧ (q.v = q.v ∧ t.v = t.v ∧ n.v = n.v ∧ True) ∧ y_2.p = y_3.p ∧ y_2.g = y_3.g ∧ True)
  ∧ True) ∧ (hdF q.v t.v n.v x).μ y_3 < (hdF q.v t.v n.v x).μ y))) ∧ (((2 : Int) == (2 : Int)) = false → ∀ (v : Int), v = IntKind.i64.wrap ((↑y_2.i : Int) + (1 : Int)) → ∃ (y_3 : DI), (At n.v x y_3.i y_3.m ∧ (DS.mk q.v t.v
  n.v y_3.p y_3.g).Ok ∧ y_3.p ≤ (y_3.m - n.v) / t.v) ∧ (((2 : Int) = (2 : Int) ∧ q.v = q.v ∧ t.v = t.v ∧ y_2.m = y_3.m ∧ ((x.nil = true → x.nil = true) ∧ (x.nil = false → x.nil = false ∧ True ∧ True ∧ x.lo = x.lo ∧ x.len =
  x.len ∧ x.cap = x.cap)) ∧ (True ∧ True) ∧ n.v = n.v ∧ v = (↑y_3.i : Int) ∧ True) ∧ ((0 : Nat) ≤ (0 : Nat) ∧ x.n = x.n ∧ ∀ (j : Nat), j < x.n → x.w j = x.w j ∧ x.a j = x.a j ∧ x.c j = x.c j ∧ True) ∧ ((5 : Nat) ≤ (5 :
  Nat) ∧ (q.v = q.v ∧ t.v = t.v ∧ n.v = n.v ∧ True) ∧ (2 : Int) = (2 : Int) ∧ (True ∧ True) ∧ True) ∧ ((5 : Nat) ≤ (5 : Nat) ∧ (q.v = q.v ∧ t.v = t.v ∧ n.v = n.v ∧ True) ∧ y_2.p = y_3.p ∧ y_2.g = y_3.g ∧ True) ∧ True) ∧
  (hdF q.v t.v n.v x).μ y_3 < (hdF q.v t.v n.v x).μ y)))) ∧ (((2 : Int) == (2 : Int)) = false → t.v ≠ (0 : Int) ∧ ∀ (v : Int), v = IntKind.u64.wrap (n.v + IntKind.u64.wrap (IntKind.u64.wrap (IntKind.u64.wrap
  ((IntKind.u64.wrap (y_2.m - n.v)).tdiv t.v) + (1 : Int)) * t.v)) → (((2 : Int) == (2 : Int)) = true → (((True ∧ True) ∧ v = v ∧ True) ∧ ((5 : Nat) ≤ (5 : Nat) ∧ (q.v = q.v ∧ t.v = t.v ∧ n.v = n.v ∧ True) ∧ (2 : Int) = (2
  : Int) ∧ (True ∧ True) ∧ True) ∧ ((5 : Nat) ≤ (5 : Nat) ∧ (q.v = q.v ∧ t.v = t.v ∧ n.v = n.v ∧ True) ∧ y_2.p = y_2.p ∧ y_2.g = y_2.g ∧ True) ∧ True) ∧ (DS.mk q.v t.v n.v y_2.p y_2.g).Ok ∧ (((DS.mk q.v t.v n.v y_2.p
  y_2.g).us (atI n.v v) != q.v) = true → (q.Ok ∧ t.Ok ∧ n.Ok ∧ x.Ok) ∧ rngI q.v t.v n.v → False ∧ True ∧ ((0 : Nat) ≤ (0 : Nat) ∧ x.n = x.n ∧ ∀ (j : Nat), j < x.n → x.w j = x.w j ∧ x.a j = x.a j ∧ x.c j = x.c j ∧ True) ∧
  True) ∧ (((DS.mk q.v t.v n.v y_2.p y_2.g).us (atI n.v v) != q.v) = false → (((True ∧ True) ∧ y_2.m = y_2.m ∧ True) ∧ ((5 : Nat) ≤ (5 : Nat) ∧ (q.v = q.v ∧ t.v = t.v ∧ n.v = n.v ∧ True) ∧ (2 : Int) = (2 : Int) ∧ (True ∧
  True) ∧ True) ∧ ((5 : Nat) ≤ (5 : Nat) ∧ (q.v = q.v ∧ t.v = t.v ∧ n.v = n.v ∧ True) ∧ y_2.p = y_2.p ∧ y_2.g = y_2.g ∧ True) ∧ True) ∧ (DS.mk q.v t.v n.v y_2.p y_2.g).Ok ∧ (((DS.mk q.v t.v n.v y_2.p y_2.g).due (atI n.v
  y_2.m) != v) = true → (q.Ok ∧ t.Ok ∧ n.Ok ∧ x.Ok) ∧ rngI q.v t.v n.v → False ∧ True ∧ ((0 : Nat) ≤ (0 : Nat) ∧ x.n = x.n ∧ ∀ (j : Nat), j < x.n → x.w j = x.w j ∧ x.a j = x.a j ∧ x.c j = x.c j ∧ True) ∧ True) ∧ (((DS.mk
  q.v t.v n.v y_2.p y_2.g).due (atI n.v y_2.m) != v) = false → ∀ (v : Int), v = IntKind.i64.wrap ((↑y_2.i : Int) + (1 : Int)) → ∃ (y_3 : DI), (At n.v x y_3.i y_3.m ∧ (DS.mk q.v t.v n.v y_3.p y_3.g).Ok ∧ y_3.p ≤ (y_3.m -
  n.v) / t.v) ∧ (((2 : Int) = (2 : Int) ∧ q.v = q.v ∧ t.v = t.v ∧ y_2.m = y_3.m ∧ ((x.nil = true → x.nil = true) ∧ (x.nil = false → x.nil = false ∧ True ∧ True ∧ x.lo = x.lo ∧ x.len = x.len ∧ x.cap = x.cap)) ∧ (True ∧
  True) ∧ n.v = n.v ∧ v = (↑y_3.i : Int) ∧ True) ∧ ((0 : Nat) ≤ (0 : Nat) ∧ x.n = x.n ∧ ∀ (j : Nat), j < x.n → x.w j = x.w j ∧ x.a j = x.a j ∧ x.c j = x.c j ∧ True) ∧ ((5 : Nat) ≤ (5 : Nat) ∧ (q.v = q.v ∧ t.v = t.v ∧ n.v =
  n.v ∧ True) ∧ (2 : Int) = (2 : Int) ∧ (True ∧ True) ∧ True) ∧ ((5 : Nat) ≤ (5 : Nat) ∧ (q.v = q.v ∧ t.v = t.v ∧ n.v = n.v ∧ True) ∧ y_2.p = y_3.p ∧ y_2.g = y_3.g ∧ True) ∧ True) ∧ (hdF q.v t.v n.v x).μ y_3 < (hdF q.v t.v
  n.v x).μ y))) ∧ (((2 : Int) == (2 : Int)) = false → ∀ (v : Int), v = IntKind.i64.wrap ((↑y_2.i : Int) + (1 : Int)) → ∃ (y_3 : DI), (At n.v x y_3.i y_3.m ∧ (DS.mk q.v t.v n.v y_3.p y_3.g).Ok ∧ y_3.p ≤ (y_3.m - n.v) / t.v)
  ∧ (((2 : Int) = (2 : Int) ∧ q.v = q.v ∧ t.v = t.v ∧ y_2.m = y_3.m ∧ ((x.nil = true → x.nil = true) ∧ (x.nil = false → x.nil = false ∧ True ∧ True ∧ x.lo = x.lo ∧ x.len = x.len ∧ x.cap = x.cap)) ∧ (True ∧ True) ∧ n.v =
  n.v ∧ v = (↑y_3.i : Int) ∧ True) ∧ ((0 : Nat) ≤ (0 : Nat) ∧ x.n = x.n ∧ ∀ (j : Nat), j < x.n → x.w j = x.w j ∧ x.a j = x.a j ∧ x.c j = x.c j ∧ True) ∧ ((5 : Nat) ≤ (5 : Nat) ∧ (q.v = q.v ∧ t.v = t.v ∧ n.v = n.v ∧ True) ∧
  (2 : Int) = (2 : Int) ∧ (True ∧ True) ∧ True) ∧ ((5 : Nat) ≤ (5 : Nat) ∧ (q.v = q.v ∧ t.v = t.v ∧ n.v = n.v ∧ True) ∧ y_2.p = y_3.p ∧ y_2.g = y_3.g ∧ True) ∧ True) ∧ (hdF q.v t.v n.v x).μ y_3 < (hdF q.v t.v n.v x).μ
  y))))) ∧ (((2 : Int) == (1 : Int)) = false → (((2 : Int) == (2 : Int)) = true → (decide ((0 : Int) > q.v) = true → (q.Ok ∧ t.Ok ∧ n.Ok ∧ x.Ok) ∧ rngI q.v t.v n.v → False ∧ True ∧ ((0 : Nat) ≤ (0 : Nat) ∧ x.n = x.n ∧ ∀ (j
  : Nat), j < x.n → x.w j = x.w j ∧ x.a j = x.a j ∧ x.c j = x.c j ∧ True) ∧ True) ∧ (decide ((0 : Int) > q.v) = false → (decide ((0 : Int) > (1 : Int)) = true → (q.Ok ∧ t.Ok ∧ n.Ok ∧ x.Ok) ∧ rngI q.v t.v n.v → False ∧ True
  ∧ ((0 : Nat) ≤ (0 : Nat) ∧ x.n = x.n ∧ ∀ (j : Nat), j < x.n → x.w j = x.w j ∧ x.a j = x.a j ∧ x.c j = x.c j ∧ True) ∧ True) ∧ (decide ((0 : Int) > (1 : Int)) = false → t.v ≠ (0 : Int) ∧ ∀ (v : Int), v = IntKind.u64.wrap
  (n.v + IntKind.u64.wrap (IntKind.u64.wrap (IntKind.u64.wrap ((IntKind.u64.wrap (y_2.m - n.v)).tdiv t.v) + (1 : Int)) * t.v)) → (((2 : Int) == (2 : Int)) = true → (((True ∧ True) ∧ v = v ∧ True) ∧ ((5 : Nat) ≤ (5 : Nat) ∧
  (q.v = q.v ∧ t.v = t.v ∧ n.v = n.v ∧ True) ∧ (2 : Int) = (2 : Int) ∧ (True ∧ True) ∧ True) ∧ ((5 : Nat) ≤ (5 : Nat) ∧ (q.v = q.v ∧ t.v = t.v ∧ n.v = n.v ∧ True) ∧ y_2.p = y_2.p ∧ y_2.g = y_2.g ∧ True) ∧ True) ∧ (DS.mk
  q.v t.v n.v y_2.p y_2.g).Ok ∧ (((DS.mk q.v t.v n.v y_2.p y_2.g).us (atI n.v v) != q.v) = true → (q.Ok ∧ t.Ok ∧ n.Ok ∧ x.Ok) ∧ rngI q.v t.v n.v → False ∧ True ∧ ((0 : Nat) ≤ (0 : Nat) ∧ x.n = x.n ∧ ∀ (j : Nat), j < x.n →
  x.w j = x.w j ∧ x.a j = x.a j ∧ x.c j = x.c j ∧ True) ∧ True) ∧ (((DS.mk q.v t.v n.v y_2.p y_2.g).us (atI n.v v) != q.v) = false → (((True ∧ True) ∧ y_2.m = y_2.m ∧ True) ∧ ((5 : Nat) ≤ (5 : Nat) ∧ (q.v = q.v ∧ t.v = t.v
  ∧ n.v = n.v ∧ True) ∧ (2 : Int) = (2 : Int) ∧ (True ∧ True) ∧ True) ∧ ((5 : Nat) ≤ (5 : Nat) ∧ (q.v = q.v ∧ t.v = t.v ∧ n.v = n.v ∧ True) ∧ y_2.p = y_2.p ∧ y_2.g = y_2.g ∧ True) ∧ True) ∧ (DS.mk q.v t.v n.v y_2.p
  y_2.g).Ok ∧ (((DS.mk q.v t.v n.v y_2.p y_2.g).due (atI n.v y_2.m) != v) = true → (q.Ok ∧ t.Ok ∧ n.Ok ∧ x.Ok) ∧ rngI q.v t.v n.v → False ∧ True ∧ ((0 : Nat) ≤ (0 : Nat) ∧ x.n = x.n ∧ ∀ (j : Nat), j < x.n → x.w j = x.w j ∧
  x.a j = x.a j ∧ x.c j = x.c j ∧ True) ∧ True) ∧ (((DS.mk q.v t.v n.v y_2.p y_2.g).due (atI n.v y_2.m) != v) = false → ∀ (v : Int), v = IntKind.i64.wrap ((↑y_2.i : Int) + (1 : Int)) → ∃ (y_3 : DI), (At n.v x y_3.i y_3.m ∧
  (DS.mk q.v t.v n.v y_3.p y_3.g).Ok ∧ y_3.p ≤ (y_3.m - n.v) / t.v) ∧ (((2 : Int) = (2 : Int) ∧ q.v = q.v ∧ t.v = t.v ∧ y_2.m = y_3.m ∧ ((x.nil = true → x.nil = true) ∧ (x.nil = false → x.nil = false ∧ True ∧ True ∧ x.lo =
  x.lo ∧ x.len = x.len ∧ x.cap = x.cap)) ∧ (True ∧ True) ∧ n.v = n.v ∧ v = (↑y_3.i : Int) ∧ True) ∧ ((0 : Nat) ≤ (0 : Nat) ∧ x.n = x.n ∧ ∀ (j : Nat), j < x.n → x.w j = x.w j ∧ x.a j = x.a j ∧ x.c j = x.c j ∧ True) ∧ ((5 :
  Nat) ≤ (5 : Nat) ∧ (q.v = q.v ∧ t.v = t.v ∧ n.v = n.v ∧ True) ∧ (2 : Int) = (2 : Int) ∧ (True ∧ True) ∧ True) ∧ ((5 : Nat) ≤ (5 : Nat) ∧ (q.v = q.v ∧ t.v = t.v ∧ n.v = n.v ∧ True) ∧ y_2.p = y_3.p ∧ y_2.g = y_3.g ∧ True)
  ∧ True) ∧ (hdF q.v t.v n.v x).μ y_3 < (hdF q.v t.v n.v x).μ y))) ∧ (((2 : Int) == (2 : Int)) = false → ∀ (v : Int), v = IntKind.i64.wrap ((↑y_2.i : Int) + (1 : Int)) → ∃ (y_3 : DI), (At n.v x y_3.i y_3.m ∧ (DS.mk q.v t.v
  n.v y_3.p y_3.g).Ok ∧ y_3.p ≤ (y_3.m - n.v) / t.v) ∧ (((2 : Int) = (2 : Int) ∧ q.v = q.v ∧ t.v = t.v ∧ y_2.m = y_3.m ∧ ((x.nil = true → x.nil = true) ∧ (x.nil = false → x.nil = false ∧ True ∧ True ∧ x.lo = x.lo ∧ x.len =
  x.len ∧ x.cap = x.cap)) ∧ (True ∧ True) ∧ n.v = n.v ∧ v = (↑y_3.i : Int) ∧ True) ∧ ((0 : Nat) ≤ (0 : Nat) ∧ x.n = x.n ∧ ∀ (j : Nat), j < x.n → x.w j = x.w j ∧ x.a j = x.a j ∧ x.c j = x.c j ∧ True) ∧ ((5 : Nat) ≤ (5 :
  Nat) ∧ (q.v = q.v ∧ t.v = t.v ∧ n.v = n.v ∧ True) ∧ (2 : Int) = (2 : Int) ∧ (True ∧ True) ∧ True) ∧ ((5 : Nat) ≤ (5 : Nat) ∧ (q.v = q.v ∧ t.v = t.v ∧ n.v = n.v ∧ True) ∧ y_2.p = y_3.p ∧ y_2.g = y_3.g ∧ True) ∧ True) ∧
  (hdF q.v t.v n.v x).μ y_3 < (hdF q.v t.v n.v x).μ y)))) ∧ (((2 : Int) == (2 : Int)) = false → t.v ≠ (0 : Int) ∧ ∀ (v : Int), v = IntKind.u64.wrap (n.v + IntKind.u64.wrap (IntKind.u64.wrap (IntKind.u64.wrap
  ((IntKind.u64.wrap (y_2.m - n.v)).tdiv t.v) + (1 : Int)) * t.v)) → (((2 : Int) == (2 : Int)) = true → (((True ∧ True) ∧ v = v ∧ True) ∧ ((5 : Nat) ≤ (5 : Nat) ∧ (q.v = q.v ∧ t.v = t.v ∧ n.v = n.v ∧ True) ∧ (2 : Int) = (2
  : Int) ∧ (True ∧ True) ∧ True) ∧ ((5 : Nat) ≤ (5 : Nat) ∧ (q.v = q.v ∧ t.v = t.v ∧ n.v = n.v ∧ True) ∧ y_2.p = y_2.p ∧ y_2.g = y_2.g ∧ True) ∧ True) ∧ (DS.mk q.v t.v n.v y_2.p y_2.g).Ok ∧ (((DS.mk q.v t.v n.v y_2.p
  y_2.g).us (atI n.v v) != q.v) = true → (q.Ok ∧ t.Ok ∧ n.Ok ∧ x.Ok) ∧ rngI q.v t.v n.v → False ∧ True ∧ ((0 : Nat) ≤ (0 : Nat) ∧ x.n = x.n ∧ ∀ (j : Nat), j < x.n → x.w j = x.w j ∧ x.a j = x.a j ∧ x.c j = x.c j ∧ True) ∧
  True) ∧ (((DS.mk q.v t.v n.v y_2.p y_2.g).us (atI n.v v) != q.v) = false → (((True ∧ True) ∧ y_2.m = y_2.m ∧ True) ∧ ((5 : Nat) ≤ (5 : Nat) ∧ (q.v = q.v ∧ t.v = t.v ∧ n.v = n.v ∧ True) ∧ (2 : Int) = (2 : Int) ∧ (True ∧
  True) ∧ True) ∧ ((5 : Nat) ≤ (5 : Nat) ∧ (q.v = q.v ∧ t.v = t.v ∧ n.v = n.v ∧ True) ∧ y_2.p = y_2.p ∧ y_2.g = y_2.g ∧ True) ∧ True) ∧ (DS.mk q.v t.v n.v y_2.p y_2.g).Ok ∧ (((DS.mk q.v t.v n.v y_2.p y_2.g).due (atI n.v
  y_2.m) != v) = true → (q.Ok ∧ t.Ok ∧ n.Ok ∧ x.Ok) ∧ rngI q.v t.v n.v → False ∧ True ∧ ((0 : Nat) ≤ (0 : Nat) ∧ x.n = x.n ∧ ∀ (j : Nat), j < x.n → x.w j = x.w j ∧ x.a j = x.a j ∧ x.c j = x.c j ∧ True) ∧ True) ∧ (((DS.mk
  q.v t.v n.v y_2.p y_2.g).due (atI n.v y_2.m) != v) = false → ∀ (v : Int), v = IntKind.i64.wrap ((↑y_2.i : Int) + (1 : Int)) → ∃ (y_3 : DI), (At n.v x y_3.i y_3.m ∧ (DS.mk q.v t.v n.v y_3.p y_3.g).Ok ∧ y_3.p ≤ (y_3.m -
  n.v) / t.v) ∧ (((2 : Int) = (2 : Int) ∧ q.v = q.v ∧ t.v = t.v ∧ y_2.m = y_3.m ∧ ((x.nil = true → x.nil = true) ∧ (x.nil = false → x.nil = false ∧ True ∧ True ∧ x.lo = x.lo ∧ x.len = x.len ∧ x.cap = x.cap)) ∧ (True ∧
  True) ∧ n.v = n.v ∧ v = (↑y_3.i : Int) ∧ True) ∧ ((0 : Nat) ≤ (0 : Nat) ∧ x.n = x.n ∧ ∀ (j : Nat), j < x.n → x.w j = x.w j ∧ x.a j = x.a j ∧ x.c j = x.c j ∧ True) ∧ ((5 : Nat) ≤ (5 : Nat) ∧ (q.v = q.v ∧ t.v = t.v ∧ n.v =
  n.v ∧ True) ∧ (2 : Int) = (2 : Int) ∧ (True ∧ True) ∧ True) ∧ ((5 : Nat) ≤ (5 : Nat) ∧ (q.v = q.v ∧ t.v = t.v ∧ n.v = n.v ∧ True) ∧ y_2.p = y_3.p ∧ y_2.g = y_3.g ∧ True) ∧ True) ∧ (hdF q.v t.v n.v x).μ y_3 < (hdF q.v t.v
  n.v x).μ y))) ∧ (((2 : Int) == (2 : Int)) = false → ∀ (v : Int), v = IntKind.i64.wrap ((↑y_2.i : Int) + (1 : Int)) → ∃ (y_3 : DI), (At n.v x y_3.i y_3.m ∧ (DS.mk q.v t.v n.v y_3.p y_3.g).Ok ∧ y_3.p ≤ (y_3.m - n.v) / t.v)
  ∧ (((2 : Int) = (2 : Int) ∧ q.v = q.v ∧ t.v = t.v ∧ y_2.m = y_3.m ∧ ((x.nil = true → x.nil = true) ∧ (x.nil = false → x.nil = false ∧ True ∧ True ∧ x.lo = x.lo ∧ x.len = x.len ∧ x.cap = x.cap)) ∧ (True ∧ True) ∧ n.v =
  n.v ∧ v = (↑y_3.i : Int) ∧ True) ∧ ((0 : Nat) ≤ (0 : Nat) ∧ x.n = x.n ∧ ∀ (j : Nat), j < x.n → x.w j = x.w j ∧ x.a j = x.a j ∧ x.c j = x.c j ∧ True) ∧ ((5 : Nat) ≤ (5 : Nat) ∧ (q.v = q.v ∧ t.v = t.v ∧ n.v = n.v ∧ True) ∧
  (2 : Int) = (2 : Int) ∧ (True ∧ True) ∧ True) ∧ ((5 : Nat) ≤ (5 : Nat) ∧ (q.v = q.v ∧ t.v = t.v ∧ n.v = n.v ∧ True) ∧ y_2.p = y_3.p ∧ y_2.g = y_3.g ∧ True) ∧ True) ∧ (hdF q.v t.v n.v x).μ y_3 < (hdF q.v t.v n.v x).μ
  y))))) ∧ ∀ (y_2 : DJ), y_2.i = g ∧ y_2.i < x.len ∧ At n.v x (y_2.i + (1 : Nat)) y_2.m ∧ (DS.mk q.v t.v n.v y_2.p y_2.g).Ok ∧ y_2.p ≤ (y_2.m - n.v) / t.v ∧ y_2.k ≤ (1 : Nat) ∧ (1 : Int) ≤ y_2.b ∧ y_2.b ≤ q.v → (decide
  ((↑y_2.k : Int) < (↑(1 : Nat) : Int)) = true → ((0 : Int) ≤ (↑y_2.k : Int) ∧ (↑y_2.k : Int) < (↑(1 : Nat) : Int)) ∧ (0 : Nat) + (↑y_2.k : Int).toNat < (1 : Nat) ∧ ∀ (v : Int), v = IntKind.u64.wrap ((if y_2.k = (0 : Nat)
  then (0 : Int) else y_2.b) + y_2.b) → ((0 : Int) ≤ (↑y_2.k : Int) ∧ (↑y_2.k : Int) < (↑(1 : Nat) : Int)) ∧ (0 : Nat) + (↑y_2.k : Int).toNat < (1 : Nat) ∧ ((y_2.b == (0 : Int)) = true → (q.Ok ∧ t.Ok ∧ n.Ok ∧ x.Ok) ∧ rngI
  q.v t.v n.v → False ∧ True ∧ ((0 : Nat) ≤ (0 : Nat) ∧ x.n = x.n ∧ ∀ (j : Nat), j < x.n → x.w j = x.w j ∧ x.a j = x.a j ∧ x.c j = x.c j ∧ True) ∧ True) ∧ ((y_2.b == (0 : Int)) = false → (decide ((↑y_2.k : Int) > (0 :
  Int)) = true → ((0 : Int) ≤ (↑y_2.k : Int) ∧ (↑y_2.k : Int) < (↑(1 : Nat) : Int)) ∧ (0 : Nat) + (↑y_2.k : Int).toNat < (1 : Nat) ∧ ((0 : Int) ≤ IntKind.i64.wrap ((↑y_2.k : Int) - (1 : Int)) ∧ IntKind.i64.wrap ((↑y_2.k :
  Int) - (1 : Int)) < (↑(1 : Nat) : Int)) ∧ (0 : Nat) + (IntKind.i64.wrap ((↑y_2.k : Int) - (1 : Int))).toNat < (1 : Nat) ∧ (decide (y_2.a ≤ y_2.a) = true → (q.Ok ∧ t.Ok ∧ n.Ok ∧ x.Ok) ∧ rngI q.v t.v n.v → False ∧ True ∧
  ((0 : Nat) ≤ (0 : Nat) ∧ x.n = x.n ∧ ∀ (j : Nat), j < x.n → x.w j = x.w j ∧ x.a j = x.a j ∧ x.c j = x.c j ∧ True) ∧ True) ∧ (decide (y_2.a ≤ y_2.a) = false → ∀ (v_3 : Int), v_3 = IntKind.i64.wrap ((↑y_2.k : Int) + (1 :
  Int)) → (∃ (y : DI), (y.i = g ∧ y.i < x.len ∧ At n.v x (y.i + (1 : Nat)) y.m ∧ (DS.mk q.v t.v n.v y.p y.g).Ok ∧ y.p ≤ (y.m - n.v) / t.v) ∧ (((2 : Int) = (2 : Int) ∧ q.v = q.v ∧ t.v = t.v ∧ y_2.m = y.m ∧ ((x.nil = true →
  x.nil = true) ∧ (x.nil = false → x.nil = false ∧ True ∧ True ∧ x.lo = x.lo ∧ x.len = x.len ∧ x.cap = x.cap)) ∧ (True ∧ True) ∧ n.v = n.v ∧ (↑y_2.i : Int) = (↑y.i : Int) ∧ False ∧ v = (0 : Int) ∧ v_3 = (0 : Int) ∧ True) ∧
  ((0 : Nat) ≤ (0 : Nat) ∧ x.n = x.n ∧ ∀ (j : Nat), j < x.n → x.w j = x.w j ∧ x.a j = x.a j ∧ x.c j = x.c j ∧ True) ∧ ((5 : Nat) ≤ (5 : Nat) ∧ (q.v = q.v ∧ t.v = t.v ∧ n.v = n.v ∧ True) ∧ (2 : Int) = (2 : Int) ∧ (True ∧
  True) ∧ True) ∧ ((5 : Nat) ≤ (5 : Nat) ∧ (q.v = q.v ∧ t.v = t.v ∧ n.v = n.v ∧ True) ∧ y_2.p = y.p ∧ y_2.g = y.g ∧ True) ∧ True) ∧ (hdA q.v t.v n.v x g).μ y < (hdB q.v t.v n.v x g).μ y_2) ∨ ∃ (y : DJ), (y.i = g ∧ y.i <
  x.len ∧ At n.v x (y.i + (1 : Nat)) y.m ∧ (DS.mk q.v t.v n.v y.p y.g).Ok ∧ y.p ≤ (y.m - n.v) / t.v ∧ y.k ≤ (1 : Nat) ∧ (1 : Int) ≤ y.b ∧ y.b ≤ q.v) ∧ (((2 : Int) = (2 : Int) ∧ q.v = q.v ∧ t.v = t.v ∧ y_2.m = y.m ∧ ((x.nil
  = true → x.nil = true) ∧ (x.nil = false → x.nil = false ∧ True ∧ True ∧ x.lo = x.lo ∧ x.len = x.len ∧ x.cap = x.cap)) ∧ (True ∧ True) ∧ n.v = n.v ∧ (↑y_2.i : Int) = (↑y.i : Int) ∧ (True ∧ True ∧ (0 : Nat) = (0 : Nat) ∧
  (1 : Nat) = (1 : Nat) ∧ (1 : Nat) = (1 : Nat)) ∧ (v = if y.k = (0 : Nat) then (0 : Int) else y.b) ∧ v_3 = (↑y.k : Int) ∧ True) ∧ ((0 : Nat) ≤ (0 : Nat) ∧ x.n = x.n ∧ ∀ (j : Nat), j < x.n → x.w j = x.w j ∧ x.a j = x.a j ∧
  x.c j = x.c j ∧ True) ∧ ((5 : Nat) ≤ (5 : Nat) ∧ (q.v = q.v ∧ t.v = t.v ∧ n.v = n.v ∧ True) ∧ (2 : Int) = (2 : Int) ∧ (True ∧ True) ∧ True) ∧ ((5 : Nat) ≤ (5 : Nat) ∧ (q.v = q.v ∧ t.v = t.v ∧ n.v = n.v ∧ True) ∧ y_2.p =
  y.p ∧ y_2.g = y.g ∧ True) ∧ ((2 : Nat) ≤ (2 : Nat) ∧ (1 : Nat) = (1 : Nat) ∧ ∀ (j : Nat), j < (1 : Nat) → y_2.a = y.a ∧ y_2.b = y.b ∧ True) ∧ True) ∧ (hdB q.v t.v n.v x g).μ y < (hdB q.v t.v n.v x g).μ y_2)) ∧ (decide
  ((↑y_2.k : Int) > (0 : Int)) = false → ∀ (v_3 : Int), v_3 = IntKind.i64.wrap ((↑y_2.k : Int) + (1 : Int)) → (∃ (y : DI), (y.i = g ∧ y.i < x.len ∧ At n.v x (y.i + (1 : Nat)) y.m ∧ (DS.mk q.v t.v n.v y.p y.g).Ok ∧ y.p ≤
  (y.m - n.v) / t.v) ∧ (((2 : Int) = (2 : Int) ∧ q.v = q.v ∧ t.v = t.v ∧ y_2.m = y.m ∧ ((x.nil = true → x.nil = true) ∧ (x.nil = false → x.nil = false ∧ True ∧ True ∧ x.lo = x.lo ∧ x.len = x.len ∧ x.cap = x.cap)) ∧ (True ∧
  True) ∧ n.v = n.v ∧ (↑y_2.i : Int) = (↑y.i : Int) ∧ False ∧ v = (0 : Int) ∧ v_3 = (0 : Int) ∧ True) ∧ ((0 : Nat) ≤ (0 : Nat) ∧ x.n = x.n ∧ ∀ (j : Nat), j < x.n → x.w j = x.w j ∧ x.a j = x.a j ∧ x.c j = x.c j ∧ True) ∧
  ((5 : Nat) ≤ (5 : Nat) ∧ (q.v = q.v ∧ t.v = t.v ∧ n.v = n.v ∧ True) ∧ (2 : Int) = (2 : Int) ∧ (True ∧ True) ∧ True) ∧ ((5 : Nat) ≤ (5 : Nat) ∧ (q.v = q.v ∧ t.v = t.v ∧ n.v = n.v ∧ True) ∧ y_2.p = y.p ∧ y_2.g = y.g ∧
  True) ∧ True) ∧ (hdA q.v t.v n.v x g).μ y < (hdB q.v t.v n.v x g).μ y_2) ∨ ∃ (y : DJ), (y.i = g ∧ y.i < x.len ∧ At n.v x (y.i + (1 : Nat)) y.m ∧ (DS.mk q.v t.v n.v y.p y.g).Ok ∧ y.p ≤ (y.m - n.v) / t.v ∧ y.k ≤ (1 : Nat)
  ∧ (1 : Int) ≤ y.b ∧ y.b ≤ q.v) ∧ (((2 : Int) = (2 : Int) ∧ q.v = q.v ∧ t.v = t.v ∧ y_2.m = y.m ∧ ((x.nil = true → x.nil = true) ∧ (x.nil = false → x.nil = false ∧ True ∧ True ∧ x.lo = x.lo ∧ x.len = x.len ∧ x.cap =
  x.cap)) ∧ (True ∧ True) ∧ n.v = n.v ∧ (↑y_2.i : Int) = (↑y.i : Int) ∧ (True ∧ True ∧ (0 : Nat) = (0 : Nat) ∧ (1 : Nat) = (1 : Nat) ∧ (1 : Nat) = (1 : Nat)) ∧ (v = if y.k = (0 : Nat) then (0 : Int) else y.b) ∧ v_3 = (↑y.k
  : Int) ∧ True) ∧ ((0 : Nat) ≤ (0 : Nat) ∧ x.n = x.n ∧ ∀ (j : Nat), j < x.n → x.w j = x.w j ∧ x.a j = x.a j ∧ x.c j = x.c j ∧ True) ∧ ((5 : Nat) ≤ (5 : Nat) ∧ (q.v = q.v ∧ t.v = t.v ∧ n.v = n.v ∧ True) ∧ (2 : Int) = (2 :
  Int) ∧ (True ∧ True) ∧ True) ∧ ((5 : Nat) ≤ (5 : Nat) ∧ (q.v = q.v ∧ t.v = t.v ∧ n.v = n.v ∧ True) ∧ y_2.p = y.p ∧ y_2.g = y.g ∧ True) ∧ ((2 : Nat) ≤ (2 : Nat) ∧ (1 : Nat) = (1 : Nat) ∧ ∀ (j : Nat), j < (1 : Nat) → y_2.a
  = y.a ∧ y_2.b = y.b ∧ True) ∧ True) ∧ (hdB q.v t.v n.v x g).μ y < (hdB q.v t.v n.v x g).μ y_2))) ∧ (decide ((↑y_2.k : Int) < (↑(1 : Nat) : Int)) = false → (((2 : Int) == (1 : Int)) = true → (((if y_2.k = (0 : Nat) then
  (0 : Int) else y_2.b) != q.v) = true → (q.Ok ∧ t.Ok ∧ n.Ok ∧ x.Ok) ∧ rngI q.v t.v n.v → False ∧ True ∧ ((0 : Nat) ≤ (0 : Nat) ∧ x.n = x.n ∧ ∀ (j : Nat), j < x.n → x.w j = x.w j ∧ x.a j = x.a j ∧ x.c j = x.c j ∧ True) ∧
  True) ∧ (((if y_2.k = (0 : Nat) then (0 : Int) else y_2.b) != q.v) = false → (decide ((↑(1 : Nat) : Int) > (8 : Int)) = true → (q.Ok ∧ t.Ok ∧ n.Ok ∧ x.Ok) ∧ rngI q.v t.v n.v → False ∧ True ∧ ((0 : Nat) ≤ (0 : Nat) ∧ x.n
  = x.n ∧ ∀ (j : Nat), j < x.n → x.w j = x.w j ∧ x.a j = x.a j ∧ x.c j = x.c j ∧ True) ∧ True) ∧ (decide ((↑(1 : Nat) : Int) > (8 : Int)) = false → (((2 : Int) == (2 : Int)) = true → (decide ((if y_2.k = (0 : Nat) then (0
  : Int) else y_2.b) > q.v) = true → (q.Ok ∧ t.Ok ∧ n.Ok ∧ x.Ok) ∧ rngI q.v t.v n.v → False ∧ True ∧ ((0 : Nat) ≤ (0 : Nat) ∧ x.n = x.n ∧ ∀ (j : Nat), j < x.n → x.w j = x.w j ∧ x.a j = x.a j ∧ x.c j = x.c j ∧ True) ∧ True)
  ∧ (decide ((if y_2.k = (0 : Nat) then (0 : Int) else y_2.b) > q.v) = false → (decide ((↑(1 : Nat) : Int) > (1 : Int)) = true → (q.Ok ∧ t.Ok ∧ n.Ok ∧ x.Ok) ∧ rngI q.v t.v n.v → False ∧ True ∧ ((0 : Nat) ≤ (0 : Nat) ∧ x.n
  = x.n ∧ ∀ (j : Nat), j < x.n → x.w j = x.w j ∧ x.a j = x.a j ∧ x.c j = x.c j ∧ True) ∧ True) ∧ (decide ((↑(1 : Nat) : Int) > (1 : Int)) = false → t.v ≠ (0 : Int) ∧ ∀ (v : Int), v = IntKind.u64.wrap (n.v +
  IntKind.u64.wrap (IntKind.u64.wrap (IntKind.u64.wrap ((IntKind.u64.wrap (y_2.m - n.v)).tdiv t.v) + (1 : Int)) * t.v)) → (((2 : Int) == (2 : Int)) = true → (((True ∧ True) ∧ v = v ∧ True) ∧ ((5 : Nat) ≤ (5 : Nat) ∧ (q.v =
  q.v ∧ t.v = t.v ∧ n.v = n.v ∧ True) ∧ (2 : Int) = (2 : Int) ∧ (True ∧ True) ∧ True) ∧ ((5 : Nat) ≤ (5 : Nat) ∧ (q.v = q.v ∧ t.v = t.v ∧ n.v = n.v ∧ True) ∧ y_2.p = y_2.p ∧ y_2.g = y_2.g ∧ True) ∧ True) ∧ (DS.mk q.v t.v
  n.v y_2.p y_2.g).Ok ∧ (((DS.mk q.v t.v n.v y_2.p y_2.g).us (atI n.v v) != q.v) = true → (q.Ok ∧ t.Ok ∧ n.Ok ∧ x.Ok) ∧ rngI q.v t.v n.v → False ∧ True ∧ ((0 : Nat) ≤ (0 : Nat) ∧ x.n = x.n ∧ ∀ (j : Nat), j < x.n → x.w j =
  x.w j ∧ x.a j = x.a j ∧ x.c j = x.c j ∧ True) ∧ True) ∧ (((DS.mk q.v t.v n.v y_2.p y_2.g).us (atI n.v v) != q.v) = false → (((True ∧ True) ∧ y_2.m = y_2.m ∧ True) ∧ ((5 : Nat) ≤ (5 : Nat) ∧ (q.v = q.v ∧ t.v = t.v ∧ n.v =
  n.v ∧ True) ∧ (2 : Int) = (2 : Int) ∧ (True ∧ True) ∧ True) ∧ ((5 : Nat) ≤ (5 : Nat) ∧ (q.v = q.v ∧ t.v = t.v ∧ n.v = n.v ∧ True) ∧ y_2.p = y_2.p ∧ y_2.g = y_2.g ∧ True) ∧ True) ∧ (DS.mk q.v t.v n.v y_2.p y_2.g).Ok ∧
  (((DS.mk q.v t.v n.v y_2.p y_2.g).due (atI n.v y_2.m) != v) = true → (q.Ok ∧ t.Ok ∧ n.Ok ∧ x.Ok) ∧ rngI q.v t.v n.v → False ∧ True ∧ ((0 : Nat) ≤ (0 : Nat) ∧ x.n = x.n ∧ ∀ (j : Nat), j < x.n → x.w j = x.w j ∧ x.a j = x.a
  j ∧ x.c j = x.c j ∧ True) ∧ True) ∧ (((DS.mk q.v t.v n.v y_2.p y_2.g).due (atI n.v y_2.m) != v) = false → ∀ (v : Int), v = IntKind.i64.wrap ((↑y_2.i : Int) + (1 : Int)) → ∃ (y_3 : DI), (At n.v x y_3.i y_3.m ∧ (DS.mk q.v
  t.v n.v y_3.p y_3.g).Ok ∧ y_3.p ≤ (y_3.m - n.v) / t.v) ∧ (((2 : Int) = (2 : Int) ∧ q.v = q.v ∧ t.v = t.v ∧ y_2.m = y_3.m ∧ ((x.nil = true → x.nil = true) ∧ (x.nil = false → x.nil = false ∧ True ∧ True ∧ x.lo = x.lo ∧
  x.len = x.len ∧ x.cap = x.cap)) ∧ (True ∧ True) ∧ n.v = n.v ∧ v = (↑y_3.i : Int) ∧ True) ∧ ((0 : Nat) ≤ (0 : Nat) ∧ x.n = x.n ∧ ∀ (j : Nat), j < x.n → x.w j = x.w j ∧ x.a j = x.a j ∧ x.c j = x.c j ∧ True) ∧ ((5 : Nat) ≤
  (5 : Nat) ∧ (q.v = q.v ∧ t.v = t.v ∧ n.v = n.v ∧ True) ∧ (2 : Int) = (2 : Int) ∧ (True ∧ True) ∧ True) ∧ ((5 : Nat) ≤ (5 : Nat) ∧ (q.v = q.v ∧ t.v = t.v ∧ n.v = n.v ∧ True) ∧ y_2.p = y_3.p ∧ y_2.g = y_3.g ∧ True) ∧ True)
  ∧ (hdF q.v t.v n.v x).μ y_3 < (hdF q.v t.v n.v x).μ y))) ∧ (((2 : Int) == (2 : Int)) = false → ∀ (v : Int), v = IntKind.i64.wrap ((↑y_2.i : Int) + (1 : Int)) → ∃ (y_3 : DI), (At n.v x y_3.i y_3.m ∧ (DS.mk q.v t.v n.v
  y_3.p y_3.g).Ok ∧ y_3.p ≤ (y_3.m - n.v) / t.v) ∧ (((2 : Int) = (2 : Int) ∧ q.v = q.v ∧ t.v = t.v ∧ y_2.m = y_3.m ∧ ((x.nil = true → x.nil = true) ∧ (x.nil = false → x.nil = false ∧ True ∧ True ∧ x.lo = x.lo ∧ x.len =
  x.len ∧ x.cap = x.cap)) ∧ (True ∧ True) ∧ n.v = n.v ∧ v = (↑y_3.i : Int) ∧ True) ∧ ((0 : Nat) ≤ (0 : Nat) ∧ x.n = x.n ∧ ∀ (j : Nat), j < x.n → x.w j = x.w j ∧ x.a j = x.a j ∧ x.c j = x.c j ∧ True) ∧ ((5 : Nat) ≤ (5 :
  Nat) ∧ (q.v = q.v ∧ t.v = t.v ∧ n.v = n.v ∧ True) ∧ (2 : Int) = (2 : Int) ∧ (True ∧ True) ∧ True) ∧ ((5 : Nat) ≤ (5 : Nat) ∧ (q.v = q.v ∧ t.v = t.v ∧ n.v = n.v ∧ True) ∧ y_2.p = y_3.p ∧ y_2.g = y_3.g ∧ True) ∧ True) ∧
  (hdF q.v t.v n.v x).μ y_3 < (hdF q.v t.v n.v x).μ y)))) ∧ (((2 : Int) == (2 : Int)) = false → t.v ≠ (0 : Int) ∧ ∀ (v : Int), v = IntKind.u64.wrap (n.v + IntKind.u64.wrap (IntKind.u64.wrap (IntKind.u64.wrap
  ((IntKind.u64.wrap (y_2.m - n.v)).tdiv t.v) + (1 : Int)) * t.v)) → (((2 : Int) == (2 : Int)) = true → (((True ∧ True) ∧ v = v ∧ True) ∧ ((5 : Nat) ≤ (5 : Nat) ∧ (q.v = q.v ∧ t.v = t.v ∧ n.v = n.v ∧ True) ∧ (2 : Int) = (2
  : Int) ∧ (True ∧ True) ∧ True) ∧ ((5 : Nat) ≤ (5 : Nat) ∧ (q.v = q.v ∧ t.v = t.v ∧ n.v = n.v ∧ True) ∧ y_2.p = y_2.p ∧ y_2.g = y_2.g ∧ True) ∧ True) ∧ (DS.mk q.v t.v n.v y_2.p y_2.g).Ok ∧ (((DS.mk q.v t.v n.v y_2.p
  y_2.g).us (atI n.v v) != q.v) = true → (q.Ok ∧ t.Ok ∧ n.Ok ∧ x.Ok) ∧ rngI q.v t.v n.v → False ∧ True ∧ ((0 : Nat) ≤ (0 : Nat) ∧ x.n = x.n ∧ ∀ (j : Nat), j < x.n → x.w j = x.w j ∧ x.a j = x.a j ∧ x.c j = x.c j ∧ True) ∧
  True) ∧ (((DS.mk q.v t.v n.v y_2.p y_2.g).us (atI n.v v) != q.v) = false → (((True ∧ True) ∧ y_2.m = y_2.m ∧ True) ∧ ((5 : Nat) ≤ (5 : Nat) ∧ (q.v = q.v ∧ t.v = t.v ∧ n.v = n.v ∧ True) ∧ (2 : Int) = (2 : Int) ∧ (True ∧
  True) ∧ True) ∧ ((5 : Nat) ≤ (5 : Nat) ∧ (q.v = q.v ∧ t.v = t.v ∧ n.v = n.v ∧ True) ∧ y_2.p = y_2.p ∧ y_2.g = y_2.g ∧ True) ∧ True) ∧ (DS.mk q.v t.v n.v y_2.p y_2.g).Ok ∧ (((DS.mk q.v t.v n.v y_2.p y_2.g).due (atI n.v
  y_2.m) != v) = true → (q.Ok ∧ t.Ok ∧ n.Ok ∧ x.Ok) ∧ rngI q.v t.v n.v → False ∧ True ∧ ((0 : Nat) ≤ (0 : Nat) ∧ x.n = x.n ∧ ∀ (j : Nat), j < x.n → x.w j = x.w j ∧ x.a j = x.a j ∧ x.c j = x.c j ∧ True) ∧ True) ∧ (((DS.mk
  q.v t.v n.v y_2.p y_2.g).due (atI n.v y_2.m) != v) = false → ∀ (v : Int), v = IntKind.i64.wrap ((↑y_2.i : Int) + (1 : Int)) → ∃ (y_3 : DI), (At n.v x y_3.i y_3.m ∧ (DS.mk q.v t.v n.v y_3.p y_3.g).Ok ∧ y_3.p ≤ (y_3.m -
  n.v) / t.v) ∧ (((2 : Int) = (2 : Int) ∧ q.v = q.v ∧ t.v = t.v ∧ y_2.m = y_3.m ∧ ((x.nil = true → x.nil = true) ∧ (x.nil = false → x.nil = false ∧ True ∧ True ∧ x.lo = x.lo ∧ x.len = x.len ∧ x.cap = x.cap)) ∧ (True ∧
  True) ∧ n.v = n.v ∧ v = (↑y_3.i : Int) ∧ True) ∧ ((0 : Nat) ≤ (0 : Nat) ∧ x.n = x.n ∧ ∀ (j : Nat), j < x.n → x.w j = x.w j ∧ x.a j = x.a j ∧ x.c j = x.c j ∧ True) ∧ ((5 : Nat) ≤ (5 : Nat) ∧ (q.v = q.v ∧ t.v = t.v ∧ n.v =
  n.v ∧ True) ∧ (2 : Int) = (2 : Int) ∧ (True ∧ True) ∧ True) ∧ ((5 : Nat) ≤ (5 : Nat) ∧ (q.v = q.v ∧ t.v = t.v ∧ n.v = n.v ∧ True) ∧ y_2.p = y_3.p ∧ y_2.g = y_3.g ∧ True) ∧ True) ∧ (hdF q.v t.v n.v x).μ y_3 < (hdF q.v t.v
  n.v x).μ y))) ∧ (((2 : Int) == (2 : Int)) = false → ∀ (v : Int), v = IntKind.i64.wrap ((↑y_2.i : Int) + (1 : Int)) → ∃ (y_3 : DI), (At n.v x y_3.i y_3.m ∧ (DS.mk q.v t.v n.v y_3.p y_3.g).Ok ∧ y_3.p ≤ (y_3.m - n.v) / t.v)
  ∧ (((2 : Int) = (2 : Int) ∧ q.v = q.v ∧ t.v = t.v ∧ y_2.m = y_3.m ∧ ((x.nil = true → x.nil = true) ∧ (x.nil = false → x.nil = false ∧ True ∧ True ∧ x.lo = x.lo ∧ x.len = x.len ∧ x.cap = x.cap)) ∧ (True ∧ True) ∧ n.v =
  n.v ∧ v = (↑y_3.i : Int) ∧ True) ∧ ((0 : Nat) ≤ (0 : Nat) ∧ x.n = x.n ∧ ∀ (j : Nat), j < x.n → x.w j = x.w j ∧ x.a j = x.a j ∧ x.c j = x.c j ∧ True) ∧ ((5 : Nat) ≤ (5 : Nat) ∧ (q.v = q.v ∧ t.v = t.v ∧ n.v = n.v ∧ True) ∧
  (2 : Int) = (2 : Int) ∧ (True ∧ True) ∧ True) ∧ ((5 : Nat) ≤ (5 : Nat) ∧ (q.v = q.v ∧ t.v = t.v ∧ n.v = n.v ∧ True) ∧ y_2.p = y_3.p ∧ y_2.g = y_3.g ∧ True) ∧ True) ∧ (hdF q.v t.v n.v x).μ y_3 < (hdF q.v t.v n.v x).μ
  y))))) ∧ (((2 : Int) == (1 : Int)) = false → (((2 : Int) == (2 : Int)) = true → (decide ((if y_2.k = (0 : Nat) then (0 : Int) else y_2.b) > q.v) = true → (q.Ok ∧ t.Ok ∧ n.Ok ∧ x.Ok) ∧ rngI q.v t.v n.v → False ∧ True ∧
  ((0 : Nat) ≤ (0 : Nat) ∧ x.n = x.n ∧ ∀ (j : Nat), j < x.n → x.w j = x.w j ∧ x.a j = x.a j ∧ x.c j = x.c j ∧ True) ∧ True) ∧ (decide ((if y_2.k = (0 : Nat) then (0 : Int) else y_2.b) > q.v) = false → (decide ((↑(1 : Nat)
  : Int) > (1 : Int)) = true → (q.Ok ∧ t.Ok ∧ n.Ok ∧ x.Ok) ∧ rngI q.v t.v n.v → False ∧ True ∧ ((0 : Nat) ≤ (0 : Nat) ∧ x.n = x.n ∧ ∀ (j : Nat), j < x.n → x.w j = x.w j ∧ x.a j = x.a j ∧ x.c j = x.c j ∧ True) ∧ True) ∧
  (decide ((↑(1 : Nat) : Int) > (1 : Int)) = false → t.v ≠ (0 : Int) ∧ ∀ (v : Int), v = IntKind.u64.wrap (n.v + IntKind.u64.wrap (IntKind.u64.wrap (IntKind.u64.wrap ((IntKind.u64.wrap (y_2.m - n.v)).tdiv t.v) + (1 : Int))
  * t.v)) → (((2 : Int) == (2 : Int)) = true → (((True ∧ True) ∧ v = v ∧ True) ∧ ((5 : Nat) ≤ (5 : Nat) ∧ (q.v = q.v ∧ t.v = t.v ∧ n.v = n.v ∧ True) ∧ (2 : Int) = (2 : Int) ∧ (True ∧ True) ∧ True) ∧ ((5 : Nat) ≤ (5 : Nat)
  ∧ (q.v = q.v ∧ t.v = t.v ∧ n.v = n.v ∧ True) ∧ y_2.p = y_2.p ∧ y_2.g = y_2.g ∧ True) ∧ True) ∧ (DS.mk q.v t.v n.v y_2.p y_2.g).Ok ∧ (((DS.mk q.v t.v n.v y_2.p y_2.g).us (atI n.v v) != q.v) = true → (q.Ok ∧ t.Ok ∧ n.Ok ∧
  x.Ok) ∧ rngI q.v t.v n.v → False ∧ True ∧ ((0 : Nat) ≤ (0 : Nat) ∧ x.n = x.n ∧ ∀ (j : Nat), j < x.n → x.w j = x.w j ∧ x.a j = x.a j ∧ x.c j = x.c j ∧ True) ∧ True) ∧ (((DS.mk q.v t.v n.v y_2.p y_2.g).us (atI n.v v) !=
  q.v) = false → (((True ∧ True) ∧ y_2.m = y_2.m ∧ True) ∧ ((5 : Nat) ≤ (5 : Nat) ∧ (q.v = q.v ∧ t.v = t.v ∧ n.v = n.v ∧ True) ∧ (2 : Int) = (2 : Int) ∧ (True ∧ True) ∧ True) ∧ ((5 : Nat) ≤ (5 : Nat) ∧ (q.v = q.v ∧ t.v =
  t.v ∧ n.v = n.v ∧ True) ∧ y_2.p = y_2.p ∧ y_2.g = y_2.g ∧ True) ∧ True) ∧ (DS.mk q.v t.v n.v y_2.p y_2.g).Ok ∧ (((DS.mk q.v t.v n.v y_2.p y_2.g).due (atI n.v y_2.m) != v) = true → (q.Ok ∧ t.Ok ∧ n.Ok ∧ x.Ok) ∧ rngI q.v
  t.v n.v → False ∧ True ∧ ((0 : Nat) ≤ (0 : Nat) ∧ x.n = x.n ∧ ∀ (j : Nat), j < x.n → x.w j = x.w j ∧ x.a j = x.a j ∧ x.c j = x.c j ∧ True) ∧ True) ∧ (((DS.mk q.v t.v n.v y_2.p y_2.g).due (atI n.v y_2.m) != v) = false → ∀
  (v : Int), v = IntKind.i64.wrap ((↑y_2.i : Int) + (1 : Int)) → ∃ (y_3 : DI), (At n.v x y_3.i y_3.m ∧ (DS.mk q.v t.v n.v y_3.p y_3.g).Ok ∧ y_3.p ≤ (y_3.m - n.v) / t.v) ∧ (((2 : Int) = (2 : Int) ∧ q.v = q.v ∧ t.v = t.v ∧
  y_2.m = y_3.m ∧ ((x.nil = true → x.nil = true) ∧ (x.nil = false → x.nil = false ∧ True ∧ True ∧ x.lo = x.lo ∧ x.len = x.len ∧ x.cap = x.cap)) ∧ (True ∧ True) ∧ n.v = n.v ∧ v = (↑y_3.i : Int) ∧ True) ∧ ((0 : Nat) ≤ (0 :
  Nat) ∧ x.n = x.n ∧ ∀ (j : Nat), j < x.n → x.w j = x.w j ∧ x.a j = x.a j ∧ x.c j = x.c j ∧ True) ∧ ((5 : Nat) ≤ (5 : Nat) ∧ (q.v = q.v ∧ t.v = t.v ∧ n.v = n.v ∧ True) ∧ (2 : Int) = (2 : Int) ∧ (True ∧ True) ∧ True) ∧ ((5
  : Nat) ≤ (5 : Nat) ∧ (q.v = q.v ∧ t.v = t.v ∧ n.v = n.v ∧ True) ∧ y_2.p = y_3.p ∧ y_2.g = y_3.g ∧ True) ∧ True) ∧ (hdF q.v t.v n.v x).μ y_3 < (hdF q.v t.v n.v x).μ y))) ∧ (((2 : Int) == (2 : Int)) = false → ∀ (v : Int),
  v = IntKind.i64.wrap ((↑y_2.i : Int) + (1 : Int)) → ∃ (y_3 : DI), (At n.v x y_3.i y_3.m ∧ (DS.mk q.v t.v n.v y_3.p y_3.g).Ok ∧ y_3.p ≤ (y_3.m - n.v) / t.v) ∧ (((2 : Int) = (2 : Int) ∧ q.v = q.v ∧ t.v = t.v ∧ y_2.m =
  y_3.m ∧ ((x.nil = true → x.nil = true) ∧ (x.nil = false → x.nil = false ∧ True ∧ True ∧ x.lo = x.lo ∧ x.len = x.len ∧ x.cap = x.cap)) ∧ (True ∧ True) ∧ n.v = n.v ∧ v = (↑y_3.i : Int) ∧ True) ∧ ((0 : Nat) ≤ (0 : Nat) ∧
  x.n = x.n ∧ ∀ (j : Nat), j < x.n → x.w j = x.w j ∧ x.a j = x.a j ∧ x.c j = x.c j ∧ True) ∧ ((5 : Nat) ≤ (5 : Nat) ∧ (q.v = q.v ∧ t.v = t.v ∧ n.v = n.v ∧ True) ∧ (2 : Int) = (2 : Int) ∧ (True ∧ True) ∧ True) ∧ ((5 : Nat)
  ≤ (5 : Nat) ∧ (q.v = q.v ∧ t.v = t.v ∧ n.v = n.v ∧ True) ∧ y_2.p = y_3.p ∧ y_2.g = y_3.g ∧ True) ∧ True) ∧ (hdF q.v t.v n.v x).μ y_3 < (hdF q.v t.v n.v x).μ y)))) ∧ (((2 : Int) == (2 : Int)) = false → t.v ≠ (0 : Int) ∧ ∀
  (v : Int), v = IntKind.u64.wrap (n.v + IntKind.u64.wrap (IntKind.u64.wrap (IntKind.u64.wrap ((IntKind.u64.wrap (y_2.m - n.v)).tdiv t.v) + (1 : Int)) * t.v)) → (((2 : Int) == (2 : Int)) = true → (((True ∧ True) ∧ v = v ∧
  True) ∧ ((5 : Nat) ≤ (5 : Nat) ∧ (q.v = q.v ∧ t.v = t.v ∧ n.v = n.v ∧ True) ∧ (2 : Int) = (2 : Int) ∧ (True ∧ True) ∧ True) ∧ ((5 : Nat) ≤ (5 : Nat) ∧ (q.v = q.v ∧ t.v = t.v ∧ n.v = n.v ∧ True) ∧ y_2.p = y_2.p ∧ y_2.g =
  y_2.g ∧ True) ∧ True) ∧ (DS.mk q.v t.v n.v y_2.p y_2.g).Ok ∧ (((DS.mk q.v t.v n.v y_2.p y_2.g).us (atI n.v v) != q.v) = true → (q.Ok ∧ t.Ok ∧ n.Ok ∧ x.Ok) ∧ rngI q.v t.v n.v → False ∧ True ∧ ((0 : Nat) ≤ (0 : Nat) ∧ x.n
  = x.n ∧ ∀ (j : Nat), j < x.n → x.w j = x.w j ∧ x.a j = x.a j ∧ x.c j = x.c j ∧ True) ∧ True) ∧ (((DS.mk q.v t.v n.v y_2.p y_2.g).us (atI n.v v) != q.v) = false → (((True ∧ True) ∧ y_2.m = y_2.m ∧ True) ∧ ((5 : Nat) ≤ (5
  : Nat) ∧ (q.v = q.v ∧ t.v = t.v ∧ n.v = n.v ∧ True) ∧ (2 : Int) = (2 : Int) ∧ (True ∧ True) ∧ True) ∧ ((5 : Nat) ≤ (5 : Nat) ∧ (q.v = q.v ∧ t.v = t.v ∧ n.v = n.v ∧ True) ∧ y_2.p = y_2.p ∧ y_2.g = y_2.g ∧ True) ∧ True) ∧
  (DS.mk q.v t.v n.v y_2.p y_2.g).Ok ∧ (((DS.mk q.v t.v n.v y_2.p y_2.g).due (atI n.v y_2.m) != v) = true → (q.Ok ∧ t.Ok ∧ n.Ok ∧ x.Ok) ∧ rngI q.v t.v n.v → False ∧ True ∧ ((0 : Nat) ≤ (0 : Nat) ∧ x.n = x.n ∧ ∀ (j : Nat),
  j < x.n → x.w j = x.w j ∧ x.a j = x.a j ∧ x.c j = x.c j ∧ True) ∧ True) ∧ (((DS.mk q.v t.v n.v y_2.p y_2.g).due (atI n.v y_2.m) != v) = false → ∀ (v : Int), v = IntKind.i64.wrap ((↑y_2.i : Int) + (1 : Int)) → ∃ (y_3 :
  DI), (At n.v x y_3.i y_3.m ∧ (DS.mk q.v t.v n.v y_3.p y_3.g).Ok ∧ y_3.p ≤ (y_3.m - n.v) / t.v) ∧ (((2 : Int) = (2 : Int) ∧ q.v = q.v ∧ t.v = t.v ∧ y_2.m = y_3.m ∧ ((x.nil = true → x.nil = true) ∧ (x.nil = false → x.nil =
  false ∧ True ∧ True ∧ x.lo = x.lo ∧ x.len = x.len ∧ x.cap = x.cap)) ∧ (True ∧ True) ∧ n.v = n.v ∧ v = (↑y_3.i : Int) ∧ True) ∧ ((0 : Nat) ≤ (0 : Nat) ∧ x.n = x.n ∧ ∀ (j : Nat), j < x.n → x.w j = x.w j ∧ x.a j = x.a j ∧
  x.c j = x.c j ∧ True) ∧ ((5 : Nat) ≤ (5 : Nat) ∧ (q.v = q.v ∧ t.v = t.v ∧ n.v = n.v ∧ True) ∧ (2 : Int) = (2 : Int) ∧ (True ∧ True) ∧ True) ∧ ((5 : Nat) ≤ (5 : Nat) ∧ (q.v = q.v ∧ t.v = t.v ∧ n.v = n.v ∧ True) ∧ y_2.p =
  y_3.p ∧ y_2.g = y_3.g ∧ True) ∧ True) ∧ (hdF q.v t.v n.v x).μ y_3 < (hdF q.v t.v n.v x).μ y))) ∧ (((2 : Int) == (2 : Int)) = false → ∀ (v : Int), v = IntKind.i64.wrap ((↑y_2.i : Int) + (1 : Int)) → ∃ (y_3 : DI), (At n.v
  x y_3.i y_3.m ∧ (DS.mk q.v t.v n.v y_3.p y_3.g).Ok ∧ y_3.p ≤ (y_3.m - n.v) / t.v) ∧ (((2 : Int) = (2 : Int) ∧ q.v = q.v ∧ t.v = t.v ∧ y_2.m = y_3.m ∧ ((x.nil = true → x.nil = true) ∧ (x.nil = false → x.nil = false ∧ True
  ∧ True ∧ x.lo = x.lo ∧ x.len = x.len ∧ x.cap = x.cap)) ∧ (True ∧ True) ∧ n.v = n.v ∧ v = (↑y_3.i : Int) ∧ True) ∧ ((0 : Nat) ≤ (0 : Nat) ∧ x.n = x.n ∧ ∀ (j : Nat), j < x.n → x.w j = x.w j ∧ x.a j = x.a j ∧ x.c j = x.c j
  ∧ True) ∧ ((5 : Nat) ≤ (5 : Nat) ∧ (q.v = q.v ∧ t.v = t.v ∧ n.v = n.v ∧ True) ∧ (2 : Int) = (2 : Int) ∧ (True ∧ True) ∧ True) ∧ ((5 : Nat) ≤ (5 : Nat) ∧ (q.v = q.v ∧ t.v = t.v ∧ n.v = n.v ∧ True) ∧ y_2.p = y_3.p ∧ y_2.g
  = y_3.g ∧ True) ∧ True) ∧ (hdF q.v t.v n.v x).μ y_3 < (hdF q.v t.v n.v x).μ y))))) ∧ (¬(DS.mk q.v t.v n.v y_1.p y_1.g).gon (atI n.v y_1.m) = q.v → ∀ (v : Int), v = (0 : Int) → ∀ (v_2 : Int), v_2 = (0 : Int) → ∃ (g :
  Nat), ((∃ (y : DI), (y.i = g ∧ y.i < x.len ∧ At n.v x (y.i + (1 : Nat)) y.m ∧ (DS.mk q.v t.v n.v y.p y.g).Ok ∧ y.p ≤ (y.m - n.v) / t.v) ∧ (((2 : Int) = (2 : Int) ∧ q.v = q.v ∧ t.v = t.v ∧ y_1.m = y.m ∧ ((x.nil = true →
  x.nil = true) ∧ (x.nil = false → x.nil = false ∧ True ∧ True ∧ x.lo = x.lo ∧ x.len = x.len ∧ x.cap = x.cap)) ∧ (True ∧ True) ∧ n.v = n.v ∧ (↑y_1.i : Int) = (↑y.i : Int) ∧ False ∧ v = (0 : Int) ∧ v_2 = (0 : Int) ∧ True) ∧
  ((0 : Nat) ≤ (0 : Nat) ∧ x.n = x.n ∧ ∀ (j : Nat), j < x.n → x.w j = x.w j ∧ x.a j = x.a j ∧ x.c j = x.c j ∧ True) ∧ ((5 : Nat) ≤ (5 : Nat) ∧ (q.v = q.v ∧ t.v = t.v ∧ n.v = n.v ∧ True) ∧ (2 : Int) = (2 : Int) ∧ (True ∧
  True) ∧ True) ∧ ((5 : Nat) ≤ (5 : Nat) ∧ (q.v = q.v ∧ t.v = t.v ∧ n.v = n.v ∧ True) ∧ y_1.p = y.p ∧ y_1.g = y.g ∧ True) ∧ True) ∧ True) ∨ ∃ (y : DJ), (y.i = g ∧ y.i < x.len ∧ At n.v x (y.i + (1 : Nat)) y.m ∧ (DS.mk q.v
  t.v n.v y.p y.g).Ok ∧ y.p ≤ (y.m - n.v) / t.v ∧ y.k ≤ (1 : Nat) ∧ (1 : Int) ≤ y.b ∧ y.b ≤ q.v) ∧ (((2 : Int) = (2 : Int) ∧ q.v = q.v ∧ t.v = t.v ∧ y_1.m = y.m ∧ ((x.nil = true → x.nil = true) ∧ (x.nil = false → x.nil =
  false ∧ True ∧ True ∧ x.lo = x.lo ∧ x.len = x.len ∧ x.cap = x.cap)) ∧ (True ∧ True) ∧ n.v = n.v ∧ (↑y_1.i : Int) = (↑y.i : Int) ∧ (True ∧ True ∧ (0 : Nat) = (0 : Nat) ∧ (1 : Nat) = (1 : Nat) ∧ (1 : Nat) = (1 : Nat)) ∧ (v
  = if y.k = (0 : Nat) then (0 : Int) else y.b) ∧ v_2 = (↑y.k : Int) ∧ True) ∧ ((0 : Nat) ≤ (0 : Nat) ∧ x.n = x.n ∧ ∀ (j : Nat), j < x.n → x.w j = x.w j ∧ x.a j = x.a j ∧ x.c j = x.c j ∧ True) ∧ ((5 : Nat) ≤ (5 : Nat) ∧
  (q.v = q.v ∧ t.v = t.v ∧ n.v = n.v ∧ True) ∧ (2 : Int) = (2 : Int) ∧ (True ∧ True) ∧ True) ∧ ((5 : Nat) ≤ (5 : Nat) ∧ (q.v = q.v ∧ t.v = t.v ∧ n.v = n.v ∧ True) ∧ y_1.p = y.p ∧ y_1.g = y.g ∧ True) ∧ ((2 : Nat) ≤ (2 :
  Nat) ∧ (1 : Nat) = (1 : Nat) ∧ ∀ (j : Nat), j < (1 : Nat) → n.v + (DS.mk q.v t.v n.v y_1.p y_1.g).per (atI n.v y_1.m) * t.v = y.a ∧ q.v - (DS.mk q.v t.v n.v y_1.p y_1.g).gon (atI n.v y_1.m) = y.b ∧ True) ∧ True) ∧ True)
  ∧ (∀ (y_2 : DI), y_2.i = g ∧ y_2.i < x.len ∧ At n.v x (y_2.i + (1 : Nat)) y_2.m ∧ (DS.mk q.v t.v n.v y_2.p y_2.g).Ok ∧ y_2.p ≤ (y_2.m - n.v) / t.v → (decide ((0 : Int) < (0 : Int)) = true → False) ∧ (decide ((0 : Int) <
  (0 : Int)) = false → (((2 : Int) == (1 : Int)) = true → (((0 : Int) != q.v) = true → (q.Ok ∧ t.Ok ∧ n.Ok ∧ x.Ok) ∧ rngI q.v t.v n.v → False ∧ True ∧ ((0 : Nat) ≤ (0 : Nat) ∧ x.n = x.n ∧ ∀ (j : Nat), j < x.n → x.w j = x.w
  j ∧ x.a j = x.a j ∧ x.c j = x.c j ∧ True) ∧ True) ∧ (((0 : Int) != q.v) = false → (decide ((0 : Int) > (8 : Int)) = true → (q.Ok ∧ t.Ok ∧ n.Ok ∧ x.Ok) ∧ rngI q.v t.v n.v → False ∧ True ∧ ((0 : Nat) ≤ (0 : Nat) ∧ x.n =
  x.n ∧ ∀ (j : Nat), j < x.n → x.w j = x.w j ∧ x.a j = x.a j ∧ x.c j = x.c j ∧ True) ∧ True) ∧ (decide ((0 : Int) > (8 : Int)) = false → (((2 : Int) == (2 : Int)) = true → (decide ((0 : Int) > q.v) = true → (q.Ok ∧ t.Ok ∧
  n.Ok ∧ x.Ok) ∧ rngI q.v t.v n.v → False ∧ True ∧ ((0 : Nat) ≤ (0 : Nat) ∧ x.n = x.n ∧ ∀ (j : Nat), j < x.n → x.w j = x.w j ∧ x.a j = x.a j ∧ x.c j = x.c j ∧ True) ∧ True) ∧ (decide ((0 : Int) > q.v) = false → (decide ((0
  : Int) > (1 : Int)) = true → (q.Ok ∧ t.Ok ∧ n.Ok ∧ x.Ok) ∧ rngI q.v t.v n.v → False ∧ True ∧ ((0 : Nat) ≤ (0 : Nat) ∧ x.n = x.n ∧ ∀ (j : Nat), j < x.n → x.w j = x.w j ∧ x.a j = x.a j ∧ x.c j = x.c j ∧ True) ∧ True) ∧
  (decide ((0 : Int) > (1 : Int)) = false → t.v ≠ (0 : Int) ∧ ∀ (v : Int), v = IntKind.u64.wrap (n.v + IntKind.u64.wrap (IntKind.u64.wrap (IntKind.u64.wrap ((IntKind.u64.wrap (y_2.m - n.v)).tdiv t.v) + (1 : Int)) * t.v)) →
  (((2 : Int) == (2 : Int)) = true → (((True ∧ True) ∧ v = v ∧ True) ∧ ((5 : Nat) ≤ (5 : Nat) ∧ (q.v = q.v ∧ t.v = t.v ∧ n.v = n.v ∧ True) ∧ (2 : Int) = (2 : Int) ∧ (True ∧ True) ∧ True) ∧ ((5 : Nat) ≤ (5 : Nat) ∧ (q.v =
  q.v ∧ t.v = t.v ∧ n.v = n.v ∧ True) ∧ y_2.p = y_2.p ∧ y_2.g = y_2.g ∧ True) ∧ True) ∧ (DS.mk q.v t.v n.v y_2.p y_2.g).Ok ∧ (((DS.mk q.v t.v n.v y_2.p y_2.g).us (atI n.v v) != q.v) = true → (q.Ok ∧ t.Ok ∧ n.Ok ∧ x.Ok) ∧
  rngI q.v t.v n.v → False ∧ True ∧ ((0 : Nat) ≤ (0 : Nat) ∧ x.n = x.n ∧ ∀ (j : Nat), j < x.n → x.w j = x.w j ∧ x.a j = x.a j ∧ x.c j = x.c j ∧ True) ∧ True) ∧ (((DS.mk q.v t.v n.v y_2.p y_2.g).us (atI n.v v) != q.v) =
  false → (((True ∧ True) ∧ y_2.m = y_2.m ∧ True) ∧ ((5 : Nat) ≤ (5 : Nat) ∧ (q.v = q.v ∧ t.v = t.v ∧ n.v = n.v ∧ True) ∧ (2 : Int) = (2 : Int) ∧ (True ∧ True) ∧ True) ∧ ((5 : Nat) ≤ (5 : Nat) ∧ (q.v = q.v ∧ t.v = t.v ∧
  n.v = n.v ∧ True) ∧ y_2.p = y_2.p ∧ y_2.g = y_2.g ∧ True) ∧ True) ∧ (DS.mk q.v t.v n.v y_2.p y_2.g).Ok ∧ (((DS.mk q.v t.v n.v y_2.p y_2.g).due (atI n.v y_2.m) != v) = true → (q.Ok ∧ t.Ok ∧ n.Ok ∧ x.Ok) ∧ rngI q.v t.v n.v
  → False ∧ True ∧ ((0 : Nat) ≤ (0 : Nat) ∧ x.n = x.n ∧ ∀ (j : Nat), j < x.n → x.w j = x.w j ∧ x.a j = x.a j ∧ x.c j = x.c j ∧ True) ∧ True) ∧ (((DS.mk q.v t.v n.v y_2.p y_2.g).due (atI n.v y_2.m) != v) = false → ∀ (v :
  Int), v = IntKind.i64.wrap ((↑y_2.i : Int) + (1 : Int)) → ∃ (y_3 : DI), (At n.v x y_3.i y_3.m ∧ (DS.mk q.v t.v n.v y_3.p y_3.g).Ok ∧ y_3.p ≤ (y_3.m - n.v) / t.v) ∧ (((2 : Int) = (2 : Int) ∧ q.v = q.v ∧ t.v = t.v ∧ y_2.m
  = y_3.m ∧ ((x.nil = true → x.nil = true) ∧ (x.nil = false → x.nil = false ∧ True ∧ True ∧ x.lo = x.lo ∧ x.len = x.len ∧ x.cap = x.cap)) ∧ (True ∧ True) ∧ n.v = n.v ∧ v = (↑y_3.i : Int) ∧ True) ∧ ((0 : Nat) ≤ (0 : Nat) ∧
  x.n = x.n ∧ ∀ (j : Nat), j < x.n → x.w j = x.w j ∧ x.a j = x.a j ∧ x.c j = x.c j ∧ True) ∧ ((5 : Nat) ≤ (5 : Nat) ∧ (q.v = q.v ∧ t.v = t.v ∧ n.v = n.v ∧ True) ∧ (2 : Int) = (2 : Int) ∧ (True ∧ True) ∧ True) ∧ ((5 : Nat)
  ≤ (5 : Nat) ∧ (q.v = q.v ∧ t.v = t.v ∧ n.v = n.v ∧ True) ∧ y_2.p = y_3.p ∧ y_2.g = y_3.g ∧ True) ∧ True) ∧ (hdF q.v t.v n.v x).μ y_3 < (hdF q.v t.v n.v x).μ y))) ∧ (((2 : Int) == (2 : Int)) = false → ∀ (v : Int), v =
  IntKind.i64.wrap ((↑y_2.i : Int) + (1 : Int)) → ∃ (y_3 : DI), (At n.v x y_3.i y_3.m ∧ (DS.mk q.v t.v n.v y_3.p y_3.g).Ok ∧ y_3.p ≤ (y_3.m - n.v) / t.v) ∧ (((2 : Int) = (2 : Int) ∧ q.v = q.v ∧ t.v = t.v ∧ y_2.m = y_3.m ∧
  ((x.nil = true → x.nil = true) ∧ (x.nil = false → x.nil = false ∧ True ∧ True ∧ x.lo = x.lo ∧ x.len = x.len ∧ x.cap = x.cap)) ∧ (True ∧ True) ∧ n.v = n.v ∧ v = (↑y_3.i : Int) ∧ True) ∧ ((0 : Nat) ≤ (0 : Nat) ∧ x.n = x.n
  ∧ ∀ (j : Nat), j < x.n → x.w j = x.w j ∧ x.a j = x.a j ∧ x.c j = x.c j ∧ True) ∧ ((5 : Nat) ≤ (5 : Nat) ∧ (q.v = q.v ∧ t.v = t.v ∧ n.v = n.v ∧ True) ∧ (2 : Int) = (2 : Int) ∧ (True ∧ True) ∧ True) ∧ ((5 : Nat) ≤ (5 :
  Nat) ∧ (q.v = q.v ∧ t.v = t.v ∧ n.v = n.v ∧ True) ∧ y_2.p = y_3.p ∧ y_2.g = y_3.g ∧ True) ∧ True) ∧ (hdF q.v t.v n.v x).μ y_3 < (hdF q.v t.v n.v x).μ y)))) ∧ (((2 : Int) == (2 : Int)) = false → t.v ≠ (0 : Int) ∧ ∀ (v :
  Int), v = IntKind.u64.wrap (n.v + IntKind.u64.wrap (IntKind.u64.wrap (IntKind.u64.wrap ((IntKind.u64.wrap (y_2.m - n.v)).tdiv t.v) + (1 : Int)) * t.v)) → (((2 : Int) == (2 : Int)) = true → (((True ∧ True) ∧ v = v ∧ True)
  ∧ ((5 : Nat) ≤ (5 : Nat) ∧ (q.v = q.v ∧ t.v = t.v ∧ n.v = n.v ∧ True) ∧ (2 : Int) = (2 : Int) ∧ (True ∧ True) ∧ True) ∧ ((5 : Nat) ≤ (5 : Nat) ∧ (q.v = q.v ∧ t.v = t.v ∧ n.v = n.v ∧ True) ∧ y_2.p = y_2.p ∧ y_2.g = y_2.g
  ∧ True) ∧ True) ∧ (DS.mk q.v t.v n.v y_2.p y_2.g).Ok ∧ (((DS.mk q.v t.v n.v y_2.p y_2.g).us (atI n.v v) != q.v) = true → (q.Ok ∧ t.Ok ∧ n.Ok ∧ x.Ok) ∧ rngI q.v t.v n.v → False ∧ True ∧ ((0 : Nat) ≤ (0 : Nat) ∧ x.n = x.n
  ∧ ∀ (j : Nat), j < x.n → x.w j = x.w j ∧ x.a j = x.a j ∧ x.c j = x.c j ∧ True) ∧ True) ∧ (((DS.mk q.v t.v n.v y_2.p y_2.g).us (atI n.v v) != q.v) = false → (((True ∧ True) ∧ y_2.m = y_2.m ∧ True) ∧ ((5 : Nat) ≤ (5 : Nat)
  ∧ (q.v = q.v ∧ t.v = t.v ∧ n.v = n.v ∧ True) ∧ (2 : Int) = (2 : Int) ∧ (True ∧ True) ∧ True) ∧ ((5 : Nat) ≤ (5 : Nat) ∧ (q.v = q.v ∧ t.v = t.v ∧ n.v = n.v ∧ True) ∧ y_2.p = y_2.p ∧ y_2.g = y_2.g ∧ True) ∧ True) ∧ (DS.mk
  q.v t.v n.v y_2.p y_2.g).Ok ∧ (((DS.mk q.v t.v n.v y_2.p y_2.g).due (atI n.v y_2.m) != v) = true → (q.Ok ∧ t.Ok ∧ n.Ok ∧ x.Ok) ∧ rngI q.v t.v n.v → False ∧ True ∧ ((0 : Nat) ≤ (0 : Nat) ∧ x.n = x.n ∧ ∀ (j : Nat), j < x.n
  → x.w j = x.w j ∧ x.a j = x.a j ∧ x.c j = x.c j ∧ True) ∧ True) ∧ (((DS.mk q.v t.v n.v y_2.p y_2.g).due (atI n.v y_2.m) != v) = false → ∀ (v : Int), v = IntKind.i64.wrap ((↑y_2.i : Int) + (1 : Int)) → ∃ (y_3 : DI), (At
  n.v x y_3.i y_3.m ∧ (DS.mk q.v t.v n.v y_3.p y_3.g).Ok ∧ y_3.p ≤ (y_3.m - n.v) / t.v) ∧ (((2 : Int) = (2 : Int) ∧ q.v = q.v ∧ t.v = t.v ∧ y_2.m = y_3.m ∧ ((x.nil = true → x.nil = true) ∧ (x.nil = false → x.nil = false ∧
  True ∧ True ∧ x.lo = x.lo ∧ x.len = x.len ∧ x.cap = x.cap)) ∧ (True ∧ True) ∧ n.v = n.v ∧ v = (↑y_3.i : Int) ∧ True) ∧ ((0 : Nat) ≤ (0 : Nat) ∧ x.n = x.n ∧ ∀ (j : Nat), j < x.n → x.w j = x.w j ∧ x.a j = x.a j ∧ x.c j =
  x.c j ∧ True) ∧ ((5 : Nat) ≤ (5 : Nat) ∧ (q.v = q.v ∧ t.v = t.v ∧ n.v = n.v ∧ True) ∧ (2 : Int) = (2 : Int) ∧ (True ∧ True) ∧ True) ∧ ((5 : Nat) ≤ (5 : Nat) ∧ (q.v = q.v ∧ t.v = t.v ∧ n.v = n.v ∧ True) ∧ y_2.p = y_3.p ∧
  y_2.g = y_3.g ∧ True) ∧ True) ∧ (hdF q.v t.v n.v x).μ y_3 < (hdF q.v t.v n.v x).μ y))) ∧ (((2 : Int) == (2 : Int)) = false → ∀ (v : Int), v = IntKind.i64.wrap ((↑y_2.i : Int) + (1 : Int)) → ∃ (y_3 : DI), (At n.v x y_3.i
  y_3.m ∧ (DS.mk q.v t.v n.v y_3.p y_3.g).Ok ∧ y_3.p ≤ (y_3.m - n.v) / t.v) ∧ (((2 : Int) = (2 : Int) ∧ q.v = q.v ∧ t.v = t.v ∧ y_2.m = y_3.m ∧ ((x.nil = true → x.nil = true) ∧ (x.nil = false → x.nil = false ∧ True ∧ True
  ∧ x.lo = x.lo ∧ x.len = x.len ∧ x.cap = x.cap)) ∧ (True ∧ True) ∧ n.v = n.v ∧ v = (↑y_3.i : Int) ∧ True) ∧ ((0 : Nat) ≤ (0 : Nat) ∧ x.n = x.n ∧ ∀ (j : Nat), j < x.n → x.w j = x.w j ∧ x.a j = x.a j ∧ x.c j = x.c j ∧ True)
  ∧ ((5 : Nat) ≤ (5 : Nat) ∧ (q.v = q.v ∧ t.v = t.v ∧ n.v = n.v ∧ True) ∧ (2 : Int) = (2 : Int) ∧ (True ∧ True) ∧ True) ∧ ((5 : Nat) ≤ (5 : Nat) ∧ (q.v = q.v ∧ t.v = t.v ∧ n.v = n.v ∧ True) ∧ y_2.p = y_3.p ∧ y_2.g = y_3.g
  ∧ True) ∧ True) ∧ (hdF q.v t.v n.v x).μ y_3 < (hdF q.v t.v n.v x).μ y))))) ∧ (((2 : Int) == (1 : Int)) = false → (((2 : Int) == (2 : Int)) = true → (decide ((0 : Int) > q.v) = true → (q.Ok ∧ t.Ok ∧ n.Ok ∧ x.Ok) ∧ rngI
  q.v t.v n.v → False ∧ True ∧ ((0 : Nat) ≤ (0 : Nat) ∧ x.n = x.n ∧ ∀ (j : Nat), j < x.n → x.w j = x.w j ∧ x.a j = x.a j ∧ x.c j = x.c j ∧ True) ∧ True) ∧ (decide ((0 : Int) > q.v) = false → (decide ((0 : Int) > (1 : Int))
  = true → (q.Ok ∧ t.Ok ∧ n.Ok ∧ x.Ok) ∧ rngI q.v t.v n.v → False ∧ True ∧ ((0 : Nat) ≤ (0 : Nat) ∧ x.n = x.n ∧ ∀ (j : Nat), j < x.n → x.w j = x.w j ∧ x.a j = x.a j ∧ x.c j = x.c j ∧ True) ∧ True) ∧ (decide ((0 : Int) > (1
  : Int)) = false → t.v ≠ (0 : Int) ∧ ∀ (v : Int), v = IntKind.u64.wrap (n.v + IntKind.u64.wrap (IntKind.u64.wrap (IntKind.u64.wrap ((IntKind.u64.wrap (y_2.m - n.v)).tdiv t.v) + (1 : Int)) * t.v)) → (((2 : Int) == (2 :
  Int)) = true → (((True ∧ True) ∧ v = v ∧ True) ∧ ((5 : Nat) ≤ (5 : Nat) ∧ (q.v = q.v ∧ t.v = t.v ∧ n.v = n.v ∧ True) ∧ (2 : Int) = (2 : Int) ∧ (True ∧ True) ∧ True) ∧ ((5 : Nat) ≤ (5 : Nat) ∧ (q.v = q.v ∧ t.v = t.v ∧ n.v
  = n.v ∧ True) ∧ y_2.p = y_2.p ∧ y_2.g = y_2.g ∧ True) ∧ True) ∧ (DS.mk q.v t.v n.v y_2.p y_2.g).Ok ∧ (((DS.mk q.v t.v n.v y_2.p y_2.g).us (atI n.v v) != q.v) = true → (q.Ok ∧ t.Ok ∧ n.Ok ∧ x.Ok) ∧ rngI q.v t.v n.v →
  False ∧ True ∧ ((0 : Nat) ≤ (0 : Nat) ∧ x.n = x.n ∧ ∀ (j : Nat), j < x.n → x.w j = x.w j ∧ x.a j = x.a j ∧ x.c j = x.c j ∧ True) ∧ True) ∧ (((DS.mk q.v t.v n.v y_2.p y_2.g).us (atI n.v v) != q.v) = false → (((True ∧
  True) ∧ y_2.m = y_2.m ∧ True) ∧ ((5 : Nat) ≤ (5 : Nat) ∧ (q.v = q.v ∧ t.v = t.v ∧ n.v = n.v ∧ True) ∧ (2 : Int) = (2 : Int) ∧ (True ∧ True) ∧ True) ∧ ((5 : Nat) ≤ (5 : Nat) ∧ (q.v = q.v ∧ t.v = t.v ∧ n.v = n.v ∧ True) ∧
  y_2.p = y_2.p ∧ y_2.g = y_2.g ∧ True) ∧ True) ∧ (DS.mk q.v t.v n.v y_2.p y_2.g).Ok ∧ (((DS.mk q.v t.v n.v y_2.p y_2.g).due (atI n.v y_2.m) != v) = true → (q.Ok ∧ t.Ok ∧ n.Ok ∧ x.Ok) ∧ rngI q.v t.v n.v → False ∧ True ∧
  ((0 : Nat) ≤ (0 : Nat) ∧ x.n = x.n ∧ ∀ (j : Nat), j < x.n → x.w j = x.w j ∧ x.a j = x.a j ∧ x.c j = x.c j ∧ True) ∧ True) ∧ (((DS.mk q.v t.v n.v y_2.p y_2.g).due (atI n.v y_2.m) != v) = false → ∀ (v : Int), v =
  IntKind.i64.wrap ((↑y_2.i : Int) + (1 : Int)) → ∃ (y_3 : DI), (At n.v x y_3.i y_3.m ∧ (DS.mk q.v t.v n.v y_3.p y_3.g).Ok ∧ y_3.p ≤ (y_3.m - n.v) / t.v) ∧ (((2 : Int) = (2 : Int) ∧ q.v = q.v ∧ t.v = t.v ∧ y_2.m = y_3.m ∧
  ((x.nil = true → x.nil = true) ∧ (x.nil = false → x.nil = false ∧ True ∧ True ∧ x.lo = x.lo ∧ x.len = x.len ∧ x.cap = x.cap)) ∧ (True ∧ True) ∧ n.v = n.v ∧ v = (↑y_3.i : Int) ∧ True) ∧ ((0 : Nat) ≤ (0 : Nat) ∧ x.n = x.n
  ∧ ∀ (j : Nat), j < x.n → x.w j = x.w j ∧ x.a j = x.a j ∧ x.c j = x.c j ∧ True) ∧ ((5 : Nat) ≤ (5 : Nat) ∧ (q.v = q.v ∧ t.v = t.v ∧ n.v = n.v ∧ True) ∧ (2 : Int) = (2 : Int) ∧ (True ∧ True) ∧ True) ∧ ((5 : Nat) ≤ (5 :
  Nat) ∧ (q.v = q.v ∧ t.v = t.v ∧ n.v = n.v ∧ True) ∧ y_2.p = y_3.p ∧ y_2.g = y_3.g ∧ True) ∧ True) ∧ (hdF q.v t.v n.v x).μ y_3 < (hdF q.v t.v n.v x).μ y))) ∧ (((2 : Int) == (2 : Int)) = false → ∀ (v : Int), v =
  IntKind.i64.wrap ((↑y_2.i : Int) + (1 : Int)) → ∃ (y_3 : DI), (At n.v x y_3.i y_3.m ∧ (DS.mk q.v t.v n.v y_3.p y_3.g).Ok ∧ y_3.p ≤ (y_3.m - n.v) / t.v) ∧ (((2 : Int) = (2 : Int) ∧ q.v = q.v ∧ t.v = t.v ∧ y_2.m = y_3.m ∧
  ((x.nil = true → x.nil = true) ∧ (x.nil = false → x.nil = false ∧ True ∧ True ∧ x.lo = x.lo ∧ x.len = x.len ∧ x.cap = x.cap)) ∧ (True ∧ True) ∧ n.v = n.v ∧ v = (↑y_3.i : Int) ∧ True) ∧ ((0 : Nat) ≤ (0 : Nat) ∧ x.n = x.n
  ∧ ∀ (j : Nat), j < x.n → x.w j = x.w j ∧ x.a j = x.a j ∧ x.c j = x.c j ∧ True) ∧ ((5 : Nat) ≤ (5 : Nat) ∧ (q.v = q.v ∧ t.v = t.v ∧ n.v = n.v ∧ True) ∧ (2 : Int) = (2 : Int) ∧ (True ∧ True) ∧ True) ∧ ((5 : Nat) ≤ (5 :
  Nat) ∧ (q.v = q.v ∧ t.v = t.v ∧ n.v = n.v ∧ True) ∧ y_2.p = y_3.p ∧ y_2.g = y_3.g ∧ True) ∧ True) ∧ (hdF q.v t.v n.v x).μ y_3 < (hdF q.v t.v n.v x).μ y)))) ∧ (((2 : Int) == (2 : Int)) = false → t.v ≠ (0 : Int) ∧ ∀ (v :
  Int), v = IntKind.u64.wrap (n.v + IntKind.u64.wrap (IntKind.u64.wrap (IntKind.u64.wrap ((IntKind.u64.wrap (y_2.m - n.v)).tdiv t.v) + (1 : Int)) * t.v)) → (((2 : Int) == (2 : Int)) = true → (((True ∧ True) ∧ v = v ∧ True)
  ∧ ((5 : Nat) ≤ (5 : Nat) ∧ (q.v = q.v ∧ t.v = t.v ∧ n.v = n.v ∧ True) ∧ (2 : Int) = (2 : Int) ∧ (True ∧ True) ∧ True) ∧ ((5 : Nat) ≤ (5 : Nat) ∧ (q.v = q.v ∧ t.v = t.v ∧ n.v = n.v ∧ True) ∧ y_2.p = y_2.p ∧ y_2.g = y_2.g
  ∧ True) ∧ True) ∧ (DS.mk q.v t.v n.v y_2.p y_2.g).Ok ∧ (((DS.mk q.v t.v n.v y_2.p y_2.g).us (atI n.v v) != q.v) = true → (q.Ok ∧ t.Ok ∧ n.Ok ∧ x.Ok) ∧ rngI q.v t.v n.v → False ∧ True ∧ ((0 : Nat) ≤ (0 : Nat) ∧ x.n = x.n
  ∧ ∀ (j : Nat), j < x.n → x.w j = x.w j ∧ x.a j = x.a j ∧ x.c j = x.c j ∧ True) ∧ True) ∧ (((DS.mk q.v t.v n.v y_2.p y_2.g).us (atI n.v v) != q.v) = false → (((True ∧ True) ∧ y_2.m = y_2.m ∧ True) ∧ ((5 : Nat) ≤ (5 : Nat)
  ∧ (q.v = q.v ∧ t.v = t.v ∧ n.v = n.v ∧ True) ∧ (2 : Int) = (2 : Int) ∧ (True ∧ True) ∧ True) ∧ ((5 : Nat) ≤ (5 : Nat) ∧ (q.v = q.v ∧ t.v = t.v ∧ n.v = n.v ∧ True) ∧ y_2.p = y_2.p ∧ y_2.g = y_2.g ∧ True) ∧ True) ∧ (DS.mk
  q.v t.v n.v y_2.p y_2.g).Ok ∧ (((DS.mk q.v t.v n.v y_2.p y_2.g).due (atI n.v y_2.m) != v) = true → (q.Ok ∧ t.Ok ∧ n.Ok ∧ x.Ok) ∧ rngI q.v t.v n.v → False ∧ True ∧ ((0 : Nat) ≤ (0 : Nat) ∧ x.n = x.n ∧ ∀ (j : Nat), j < x.n
  → x.w j = x.w j ∧ x.a j = x.a j ∧ x.c j = x.c j ∧ True) ∧ True) ∧ (((DS.mk q.v t.v n.v y_2.p y_2.g).due (atI n.v y_2.m) != v) = false → ∀ (v : Int), v = IntKind.i64.wrap ((↑y_2.i : Int) + (1 : Int)) → ∃ (y_3 : DI), (At
  n.v x y_3.i y_3.m ∧ (DS.mk q.v t.v n.v y_3.p y_3.g).Ok ∧ y_3.p ≤ (y_3.m - n.v) / t.v) ∧ (((2 : Int) = (2 : Int) ∧ q.v = q.v ∧ t.v = t.v ∧ y_2.m = y_3.m ∧ ((x.nil = true → x.nil = true) ∧ (x.nil = false → x.nil = false ∧
  True ∧ True ∧ x.lo = x.lo ∧ x.len = x.len ∧ x.cap = x.cap)) ∧ (True ∧ True) ∧ n.v = n.v ∧ v = (↑y_3.i : Int) ∧ True) ∧ ((0 : Nat) ≤ (0 : Nat) ∧ x.n = x.n ∧ ∀ (j : Nat), j < x.n → x.w j = x.w j ∧ x.a j = x.a j ∧ x.c j =
  x.c j ∧ True) ∧ ((5 : Nat) ≤ (5 : Nat) ∧ (q.v = q.v ∧ t.v = t.v ∧ n.v = n.v ∧ True) ∧ (2 : Int) = (2 : Int) ∧ (True ∧ True) ∧ True) ∧ ((5 : Nat) ≤ (5 : Nat) ∧ (q.v = q.v ∧ t.v = t.v ∧ n.v = n.v ∧ True) ∧ y_2.p = y_3.p ∧
  y_2.g = y_3.g ∧ True) ∧ True) ∧ (hdF q.v t.v n.v x).μ y_3 < (hdF q.v t.v n.v x).μ y))) ∧ (((2 : Int) == (2 : Int)) = false → ∀ (v : Int), v = IntKind.i64.wrap ((↑y_2.i : Int) + (1 : Int)) → ∃ (y_3 : DI), (At n.v x y_3.i
  y_3.m ∧ (DS.mk q.v t.v n.v y_3.p y_3.g).Ok ∧ y_3.p ≤ (y_3.m - n.v) / t.v) ∧ (((2 : Int) = (2 : Int) ∧ q.v = q.v ∧ t.v = t.v ∧ y_2.m = y_3.m ∧ ((x.nil = true → x.nil = true) ∧ (x.nil = false → x.nil = false ∧ True ∧ True
  ∧ x.lo = x.lo ∧ x.len = x.len ∧ x.cap = x.cap)) ∧ (True ∧ True) ∧ n.v = n.v ∧ v = (↑y_3.i : Int) ∧ True) ∧ ((0 : Nat) ≤ (0 : Nat) ∧ x.n = x.n ∧ ∀ (j : Nat), j < x.n → x.w j = x.w j ∧ x.a j = x.a j ∧ x.c j = x.c j ∧ True)
  ∧ ((5 : Nat) ≤ (5 : Nat) ∧ (q.v = q.v ∧ t.v = t.v ∧ n.v = n.v ∧ True) ∧ (2 : Int) = (2 : Int) ∧ (True ∧ True) ∧ True) ∧ ((5 : Nat) ≤ (5 : Nat) ∧ (q.v = q.v ∧ t.v = t.v ∧ n.v = n.v ∧ True) ∧ y_2.p = y_3.p ∧ y_2.g = y_3.g
  ∧ True) ∧ True) ∧ (hdF q.v t.v n.v x).μ y_3 < (hdF q.v t.v n.v x).μ y))))) ∧ ∀ (y_2 : DJ), y_2.i = g ∧ y_2.i < x.len ∧ At n.v x (y_2.i + (1 : Nat)) y_2.m ∧ (DS.mk q.v t.v n.v y_2.p y_2.g).Ok ∧ y_2.p ≤ (y_2.m - n.v) / t.v
  ∧ y_2.k ≤ (1 : Nat) ∧ (1 : Int) ≤ y_2.b ∧ y_2.b ≤ q.v → (decide ((↑y_2.k : Int) < (↑(1 : Nat) : Int)) = true → ((0 : Int) ≤ (↑y_2.k : Int) ∧ (↑y_2.k : Int) < (↑(1 : Nat) : Int)) ∧ (0 : Nat) + (↑y_2.k : Int).toNat < (1 :
  Nat) ∧ ∀ (v : Int), v = IntKind.u64.wrap ((if y_2.k = (0 : Nat) then (0 : Int) else y_2.b) + y_2.b) → ((0 : Int) ≤ (↑y_2.k : Int) ∧ (↑y_2.k : Int) < (↑(1 : Nat) : Int)) ∧ (0 : Nat) + (↑y_2.k : Int).toNat < (1 : Nat) ∧
  ((y_2.b == (0 : Int)) = true → (q.Ok ∧ t.Ok ∧ n.Ok ∧ x.Ok) ∧ rngI q.v t.v n.v → False ∧ True ∧ ((0 : Nat) ≤ (0 : Nat) ∧ x.n = x.n ∧ ∀ (j : Nat), j < x.n → x.w j = x.w j ∧ x.a j = x.a j ∧ x.c j = x.c j ∧ True) ∧ True) ∧
  ((y_2.b == (0 : Int)) = false → (decide ((↑y_2.k : Int) > (0 : Int)) = true → ((0 : Int) ≤ (↑y_2.k : Int) ∧ (↑y_2.k : Int) < (↑(1 : Nat) : Int)) ∧ (0 : Nat) + (↑y_2.k : Int).toNat < (1 : Nat) ∧ ((0 : Int) ≤
  IntKind.i64.wrap ((↑y_2.k : Int) - (1 : Int)) ∧ IntKind.i64.wrap ((↑y_2.k : Int) - (1 : Int)) < (↑(1 : Nat) : Int)) ∧ (0 : Nat) + (IntKind.i64.wrap ((↑y_2.k : Int) - (1 : Int))).toNat < (1 : Nat) ∧ (decide (y_2.a ≤
  y_2.a) = true → (q.Ok ∧ t.Ok ∧ n.Ok ∧ x.Ok) ∧ rngI q.v t.v n.v → False ∧ True ∧ ((0 : Nat) ≤ (0 : Nat) ∧ x.n = x.n ∧ ∀ (j : Nat), j < x.n → x.w j = x.w j ∧ x.a j = x.a j ∧ x.c j = x.c j ∧ True) ∧ True) ∧ (decide (y_2.a ≤
  y_2.a) = false → ∀ (v_3 : Int), v_3 = IntKind.i64.wrap ((↑y_2.k : Int) + (1 : Int)) → (∃ (y : DI), (y.i = g ∧ y.i < x.len ∧ At n.v x (y.i + (1 : Nat)) y.m ∧ (DS.mk q.v t.v n.v y.p y.g).Ok ∧ y.p ≤ (y.m - n.v) / t.v) ∧
  (((2 : Int) = (2 : Int) ∧ q.v = q.v ∧ t.v = t.v ∧ y_2.m = y.m ∧ ((x.nil = true → x.nil = true) ∧ (x.nil = false → x.nil = false ∧ True ∧ True ∧ x.lo = x.lo ∧ x.len = x.len ∧ x.cap = x.cap)) ∧ (True ∧ True) ∧ n.v = n.v ∧
  (↑y_2.i : Int) = (↑y.i : Int) ∧ False ∧ v = (0 : Int) ∧ v_3 = (0 : Int) ∧ True) ∧ ((0 : Nat) ≤ (0 : Nat) ∧ x.n = x.n ∧ ∀ (j : Nat), j < x.n → x.w j = x.w j ∧ x.a j = x.a j ∧ x.c j = x.c j ∧ True) ∧ ((5 : Nat) ≤ (5 : Nat)
  ∧ (q.v = q.v ∧ t.v = t.v ∧ n.v = n.v ∧ True) ∧ (2 : Int) = (2 : Int) ∧ (True ∧ True) ∧ True) ∧ ((5 : Nat) ≤ (5 : Nat) ∧ (q.v = q.v ∧ t.v = t.v ∧ n.v = n.v ∧ True) ∧ y_2.p = y.p ∧ y_2.g = y.g ∧ True) ∧ True) ∧ (hdA q.v
  t.v n.v x g).μ y < (hdB q.v t.v n.v x g).μ y_2) ∨ ∃ (y : DJ), (y.i = g ∧ y.i < x.len ∧ At n.v x (y.i + (1 : Nat)) y.m ∧ (DS.mk q.v t.v n.v y.p y.g).Ok ∧ y.p ≤ (y.m - n.v) / t.v ∧ y.k ≤ (1 : Nat) ∧ (1 : Int) ≤ y.b ∧ y.b ≤
  q.v) ∧ (((2 : Int) = (2 : Int) ∧ q.v = q.v ∧ t.v = t.v ∧ y_2.m = y.m ∧ ((x.nil = true → x.nil = true) ∧ (x.nil = false → x.nil = false ∧ True ∧ True ∧ x.lo = x.lo ∧ x.len = x.len ∧ x.cap = x.cap)) ∧ (True ∧ True) ∧ n.v =
  n.v ∧ (↑y_2.i : Int) = (↑y.i : Int) ∧ (True ∧ True ∧ (0 : Nat) = (0 : Nat) ∧ (1 : Nat) = (1 : Nat) ∧ (1 : Nat) = (1 : Nat)) ∧ (v = if y.k = (0 : Nat) then (0 : Int) else y.b) ∧ v_3 = (↑y.k : Int) ∧ True) ∧ ((0 : Nat) ≤
  (0 : Nat) ∧ x.n = x.n ∧ ∀ (j : Nat), j < x.n → x.w j = x.w j ∧ x.a j = x.a j ∧ x.c j = x.c j ∧ True) ∧ ((5 : Nat) ≤ (5 : Nat) ∧ (q.v = q.v ∧ t.v = t.v ∧ n.v = n.v ∧ True) ∧ (2 : Int) = (2 : Int) ∧ (True ∧ True) ∧ True) ∧
  ((5 : Nat) ≤ (5 : Nat) ∧ (q.v = q.v ∧ t.v = t.v ∧ n.v = n.v ∧ True) ∧ y_2.p = y.p ∧ y_2.g = y.g ∧ True) ∧ ((2 : Nat) ≤ (2 : Nat) ∧ (1 : Nat) = (1 : Nat) ∧ ∀ (j : Nat), j < (1 : Nat) → y_2.a = y.a ∧ y_2.b = y.b ∧ True) ∧
  True) ∧ (hdB q.v t.v n.v x g).μ y < (hdB q.v t.v n.v x g).μ y_2)) ∧ (decide ((↑y_2.k : Int) > (0 : Int)) = false → ∀ (v_3 : Int), v_3 = IntKind.i64.wrap ((↑y_2.k : Int) + (1 : Int)) → (∃ (y : DI), (y.i = g ∧ y.i < x.len
  ∧ At n.v x (y.i + (1 : Nat)) y.m ∧ (DS.mk q.v t.v n.v y.p y.g).Ok ∧ y.p ≤ (y.m - n.v) / t.v) ∧ (((2 : Int) = (2 : Int) ∧ q.v = q.v ∧ t.v = t.v ∧ y_2.m = y.m ∧ ((x.nil = true → x.nil = true) ∧ (x.nil = false → x.nil =
  false ∧ True ∧ True ∧ x.lo = x.lo ∧ x.len = x.len ∧ x.cap = x.cap)) ∧ (True ∧ True) ∧ n.v = n.v ∧ (↑y_2.i : Int) = (↑y.i : Int) ∧ False ∧ v = (0 : Int) ∧ v_3 = (0 : Int) ∧ True) ∧ ((0 : Nat) ≤ (0 : Nat) ∧ x.n = x.n ∧ ∀
  (j : Nat), j < x.n → x.w j = x.w j ∧ x.a j = x.a j ∧ x.c j = x.c j ∧ True) ∧ ((5 : Nat) ≤ (5 : Nat) ∧ (q.v = q.v ∧ t.v = t.v ∧ n.v = n.v ∧ True) ∧ (2 : Int) = (2 : Int) ∧ (True ∧ True) ∧ True) ∧ ((5 : Nat) ≤ (5 : Nat) ∧
  (q.v = q.v ∧ t.v = t.v ∧ n.v = n.v ∧ True) ∧ y_2.p = y.p ∧ y_2.g = y.g ∧ True) ∧ True) ∧ (hdA q.v t.v n.v x g).μ y < (hdB q.v t.v n.v x g).μ y_2) ∨ ∃ (y : DJ), (y.i = g ∧ y.i < x.len ∧ At n.v x (y.i + (1 : Nat)) y.m ∧
  (DS.mk q.v t.v n.v y.p y.g).Ok ∧ y.p ≤ (y.m - n.v) / t.v ∧ y.k ≤ (1 : Nat) ∧ (1 : Int) ≤ y.b ∧ y.b ≤ q.v) ∧ (((2 : Int) = (2 : Int) ∧ q.v = q.v ∧ t.v = t.v ∧ y_2.m = y.m ∧ ((x.nil = true → x.nil = true) ∧ (x.nil = false
  → x.nil = false ∧ True ∧ True ∧ x.lo = x.lo ∧ x.len = x.len ∧ x.cap = x.cap)) ∧ (True ∧ True) ∧ n.v = n.v ∧ (↑y_2.i : Int) = (↑y.i : Int) ∧ (True ∧ True ∧ (0 : Nat) = (0 : Nat) ∧ (1 : Nat) = (1 : Nat) ∧ (1 : Nat) = (1 :
  Nat)) ∧ (v = if y.k = (0 : Nat) then (0 : Int) else y.b) ∧ v_3 = (↑y.k : Int) ∧ True) ∧ ((0 : Nat) ≤ (0 : Nat) ∧ x.n = x.n ∧ ∀ (j : Nat), j < x.n → x.w j = x.w j ∧ x.a j = x.a j ∧ x.c j = x.c j ∧ True) ∧ ((5 : Nat) ≤ (5
  : Nat) ∧ (q.v = q.v ∧ t.v = t.v ∧ n.v = n.v ∧ True) ∧ (2 : Int) = (2 : Int) ∧ (True ∧ True) ∧ True) ∧ ((5 : Nat) ≤ (5 : Nat) ∧ (q.v = q.v ∧ t.v = t.v ∧ n.v = n.v ∧ True) ∧ y_2.p = y.p ∧ y_2.g = y.g ∧ True) ∧ ((2 : Nat) ≤
  (2 : Nat) ∧ (1 : Nat) = (1 : Nat) ∧ ∀ (j : Nat), j < (1 : Nat) → y_2.a = y.a ∧ y_2.b = y.b ∧ True) ∧ True) ∧ (hdB q.v t.v n.v x g).μ y < (hdB q.v t.v n.v x g).μ y_2))) ∧ (decide ((↑y_2.k : Int) < (↑(1 : Nat) : Int)) =
  false → (((2 : Int) == (1 : Int)) = true → (((if y_2.k = (0 : Nat) then (0 : Int) else y_2.b) != q.v) = true → (q.Ok ∧ t.Ok ∧ n.Ok ∧ x.Ok) ∧ rngI q.v t.v n.v → False ∧ True ∧ ((0 : Nat) ≤ (0 : Nat) ∧ x.n = x.n ∧ ∀ (j :
  Nat), j < x.n → x.w j = x.w j ∧ x.a j = x.a j ∧ x.c j = x.c j ∧ True) ∧ True) ∧ (((if y_2.k = (0 : Nat) then (0 : Int) else y_2.b) != q.v) = false → (decide ((↑(1 : Nat) : Int) > (8 : Int)) = true → (q.Ok ∧ t.Ok ∧ n.Ok ∧
  x.Ok) ∧ rngI q.v t.v n.v → False ∧ True ∧ ((0 : Nat) ≤ (0 : Nat) ∧ x.n = x.n ∧ ∀ (j : Nat), j < x.n → x.w j = x.w j ∧ x.a j = x.a j ∧ x.c j = x.c j ∧ True) ∧ True) ∧ (decide ((↑(1 : Nat) : Int) > (8 : Int)) = false →
  (((2 : Int) == (2 : Int)) = true → (decide ((if y_2.k = (0 : Nat) then (0 : Int) else y_2.b) > q.v) = true → (q.Ok ∧ t.Ok ∧ n.Ok ∧ x.Ok) ∧ rngI q.v t.v n.v → False ∧ True ∧ ((0 : Nat) ≤ (0 : Nat) ∧ x.n = x.n ∧ ∀ (j :
  Nat), j < x.n → x.w j = x.w j ∧ x.a j = x.a j ∧ x.c j = x.c j ∧ True) ∧ True) ∧ (decide ((if y_2.k = (0 : Nat) then (0 : Int) else y_2.b) > q.v) = false → (decide ((↑(1 : Nat) : Int) > (1 : Int)) = true → (q.Ok ∧ t.Ok ∧
  n.Ok ∧ x.Ok) ∧ rngI q.v t.v n.v → False ∧ True ∧ ((0 : Nat) ≤ (0 : Nat) ∧ x.n = x.n ∧ ∀ (j : Nat), j < x.n → x.w j = x.w j ∧ x.a j = x.a j ∧ x.c j = x.c j ∧ True) ∧ True) ∧ (decide ((↑(1 : Nat) : Int) > (1 : Int)) =
  false → t.v ≠ (0 : Int) ∧ ∀ (v : Int), v = IntKind.u64.wrap (n.v + IntKind.u64.wrap (IntKind.u64.wrap (IntKind.u64.wrap ((IntKind.u64.wrap (y_2.m - n.v)).tdiv t.v) + (1 : Int)) * t.v)) → (((2 : Int) == (2 : Int)) = true
  → (((True ∧ True) ∧ v = v ∧ True) ∧ ((5 : Nat) ≤ (5 : Nat) ∧ (q.v = q.v ∧ t.v = t.v ∧ n.v = n.v ∧ True) ∧ (2 : Int) = (2 : Int) ∧ (True ∧ True) ∧ True) ∧ ((5 : Nat) ≤ (5 : Nat) ∧ (q.v = q.v ∧ t.v = t.v ∧ n.v = n.v ∧
  True) ∧ y_2.p = y_2.p ∧ y_2.g = y_2.g ∧ True) ∧ True) ∧ (DS.mk q.v t.v n.v y_2.p y_2.g).Ok ∧ (((DS.mk q.v t.v n.v y_2.p y_2.g).us (atI n.v v) != q.v) = true → (q.Ok ∧ t.Ok ∧ n.Ok ∧ x.Ok) ∧ rngI q.v t.v n.v → False ∧ True
  ∧ ((0 : Nat) ≤ (0 : Nat) ∧ x.n = x.n ∧ ∀ (j : Nat), j < x.n → x.w j = x.w j ∧ x.a j = x.a j ∧ x.c j = x.c j ∧ True) ∧ True) ∧ (((DS.mk q.v t.v n.v y_2.p y_2.g).us (atI n.v v) != q.v) = false → (((True ∧ True) ∧ y_2.m =
  y_2.m ∧ True) ∧ ((5 : Nat) ≤ (5 : Nat) ∧ (q.v = q.v ∧ t.v = t.v ∧ n.v = n.v ∧ True) ∧ (2 : Int) = (2 : Int) ∧ (True ∧ True) ∧ True) ∧ ((5 : Nat) ≤ (5 : Nat) ∧ (q.v = q.v ∧ t.v = t.v ∧ n.v = n.v ∧ True) ∧ y_2.p = y_2.p ∧
  y_2.g = y_2.g ∧ True) ∧ True) ∧ (DS.mk q.v t.v n.v y_2.p y_2.g).Ok ∧ (((DS.mk q.v t.v n.v y_2.p y_2.g).due (atI n.v y_2.m) != v) = true → (q.Ok ∧ t.Ok ∧ n.Ok ∧ x.Ok) ∧ rngI q.v t.v n.v → False ∧ True ∧ ((0 : Nat) ≤ (0 :
  Nat) ∧ x.n = x.n ∧ ∀ (j : Nat), j < x.n → x.w j = x.w j ∧ x.a j = x.a j ∧ x.c j = x.c j ∧ True) ∧ True) ∧ (((DS.mk q.v t.v n.v y_2.p y_2.g).due (atI n.v y_2.m) != v) = false → ∀ (v : Int), v = IntKind.i64.wrap ((↑y_2.i :
  Int) + (1 : Int)) → ∃ (y_3 : DI), (At n.v x y_3.i y_3.m ∧ (DS.mk q.v t.v n.v y_3.p y_3.g).Ok ∧ y_3.p ≤ (y_3.m - n.v) / t.v) ∧ (((2 : Int) = (2 : Int) ∧ q.v = q.v ∧ t.v = t.v ∧ y_2.m = y_3.m ∧ ((x.nil = true → x.nil =
  true) ∧ (x.nil = false → x.nil = false ∧ True ∧ True ∧ x.lo = x.lo ∧ x.len = x.len ∧ x.cap = x.cap)) ∧ (True ∧ True) ∧ n.v = n.v ∧ v = (↑y_3.i : Int) ∧ True) ∧ ((0 : Nat) ≤ (0 : Nat) ∧ x.n = x.n ∧ ∀ (j : Nat), j < x.n →
  x.w j = x.w j ∧ x.a j = x.a j ∧ x.c j = x.c j ∧ True) ∧ ((5 : Nat) ≤ (5 : Nat) ∧ (q.v = q.v ∧ t.v = t.v ∧ n.v = n.v ∧ True) ∧ (2 : Int) = (2 : Int) ∧ (True ∧ True) ∧ True) ∧ ((5 : Nat) ≤ (5 : Nat) ∧ (q.v = q.v ∧ t.v =
  t.v ∧ n.v = n.v ∧ True) ∧ y_2.p = y_3.p ∧ y_2.g = y_3.g ∧ True) ∧ True) ∧ (hdF q.v t.v n.v x).μ y_3 < (hdF q.v t.v n.v x).μ y))) ∧ (((2 : Int) == (2 : Int)) = false → ∀ (v : Int), v = IntKind.i64.wrap ((↑y_2.i : Int) +
  (1 : Int)) → ∃ (y_3 : DI), (At n.v x y_3.i y_3.m ∧ (DS.mk q.v t.v n.v y_3.p y_3.g).Ok ∧ y_3.p ≤ (y_3.m - n.v) / t.v) ∧ (((2 : Int) = (2 : Int) ∧ q.v = q.v ∧ t.v = t.v ∧ y_2.m = y_3.m ∧ ((x.nil = true → x.nil = true) ∧
  (x.nil = false → x.nil = false ∧ True ∧ True ∧ x.lo = x.lo ∧ x.len = x.len ∧ x.cap = x.cap)) ∧ (True ∧ True) ∧ n.v = n.v ∧ v = (↑y_3.i : Int) ∧ True) ∧ ((0 : Nat) ≤ (0 : Nat) ∧ x.n = x.n ∧ ∀ (j : Nat), j < x.n → x.w j =
  x.w j ∧ x.a j = x.a j ∧ x.c j = x.c j ∧ True) ∧ ((5 : Nat) ≤ (5 : Nat) ∧ (q.v = q.v ∧ t.v = t.v ∧ n.v = n.v ∧ True) ∧ (2 : Int) = (2 : Int) ∧ (True ∧ True) ∧ True) ∧ ((5 : Nat) ≤ (5 : Nat) ∧ (q.v = q.v ∧ t.v = t.v ∧ n.v
  = n.v ∧ True) ∧ y_2.p = y_3.p ∧ y_2.g = y_3.g ∧ True) ∧ True) ∧ (hdF q.v t.v n.v x).μ y_3 < (hdF q.v t.v n.v x).μ y)))) ∧ (((2 : Int) == (2 : Int)) = false → t.v ≠ (0 : Int) ∧ ∀ (v : Int), v = IntKind.u64.wrap (n.v +
  IntKind.u64.wrap (IntKind.u64.wrap (IntKind.u64.wrap ((IntKind.u64.wrap (y_2.m - n.v)).tdiv t.v) + (1 : Int)) * t.v)) → (((2 : Int) == (2 : Int)) = true → (((True ∧ True) ∧ v = v ∧ True) ∧ ((5 : Nat) ≤ (5 : Nat) ∧ (q.v =
  q.v ∧ t.v = t.v ∧ n.v = n.v ∧ True) ∧ (2 : Int) = (2 : Int) ∧ (True ∧ True) ∧ True) ∧ ((5 : Nat) ≤ (5 : Nat) ∧ (q.v = q.v ∧ t.v = t.v ∧ n.v = n.v ∧ True) ∧ y_2.p = y_2.p ∧ y_2.g = y_2.g ∧ True) ∧ True) ∧ (DS.mk q.v t.v
  n.v y_2.p y_2.g).Ok ∧ (((DS.mk q.v t.v n.v y_2.p y_2.g).us (atI n.v v) != q.v) = true → (q.Ok ∧ t.Ok ∧ n.Ok ∧ x.Ok) ∧ rngI q.v t.v n.v → False ∧ True ∧ ((0 : Nat) ≤ (0 : Nat) ∧ x.n = x.n ∧ ∀ (j : Nat), j < x.n → x.w j =
  x.w j ∧ x.a j = x.a j ∧ x.c j = x.c j ∧ True) ∧ True) ∧ (((DS.mk q.v t.v n.v y_2.p y_2.g).us (atI n.v v) != q.v) = false → (((True ∧ True) ∧ y_2.m = y_2.m ∧ True) ∧ ((5 : Nat) ≤ (5 : Nat) ∧ (q.v = q.v ∧ t.v = t.v ∧ n.v =
  n.v ∧ True) ∧ (2 : Int) = (2 : Int) ∧ (True ∧ True) ∧ True) ∧ ((5 : Nat) ≤ (5 : Nat) ∧ (q.v = q.v ∧ t.v = t.v ∧ n.v = n.v ∧ True) ∧ y_2.p = y_2.p ∧ y_2.g = y_2.g ∧ True) ∧ True) ∧ (DS.mk q.v t.v n.v y_2.p y_2.g).Ok ∧
  (((DS.mk q.v t.v n.v y_2.p y_2.g).due (atI n.v y_2.m) != v) = true → (q.Ok ∧ t.Ok ∧ n.Ok ∧ x.Ok) ∧ rngI q.v t.v n.v → False ∧ True ∧ ((0 : Nat) ≤ (0 : Nat) ∧ x.n = x.n ∧ ∀ (j : Nat), j < x.n → x.w j = x.w j ∧ x.a j = x.a
  j ∧ x.c j = x.c j ∧ True) ∧ True) ∧ (((DS.mk q.v t.v n.v y_2.p y_2.g).due (atI n.v y_2.m) != v) = false → ∀ (v : Int), v = IntKind.i64.wrap ((↑y_2.i : Int) + (1 : Int)) → ∃ (y_3 : DI), (At n.v x y_3.i y_3.m ∧ (DS.mk q.v
  t.v n.v y_3.p y_3.g).Ok ∧ y_3.p ≤ (y_3.m - n.v) / t.v) ∧ (((2 : Int) = (2 : Int) ∧ q.v = q.v ∧ t.v = t.v ∧ y_2.m = y_3.m ∧ ((x.nil = true → x.nil = true) ∧ (x.nil = false → x.nil = false ∧ True ∧ True ∧ x.lo = x.lo ∧
  x.len = x.len ∧ x.cap = x.cap)) ∧ (True ∧ True) ∧ n.v = n.v ∧ v = (↑y_3.i : Int) ∧ True) ∧ ((0 : Nat) ≤ (0 : Nat) ∧ x.n = x.n ∧ ∀ (j : Nat), j < x.n → x.w j = x.w j ∧ x.a j = x.a j ∧ x.c j = x.c j ∧ True) ∧ ((5 : Nat) ≤
  (5 : Nat) ∧ (q.v = q.v ∧ t.v = t.v ∧ n.v = n.v ∧ True) ∧ (2 : Int) = (2 : Int) ∧ (True ∧ True) ∧ True) ∧ ((5 : Nat) ≤ (5 : Nat) ∧ (q.v = q.v ∧ t.v = t.v ∧ n.v = n.v ∧ True) ∧ y_2.p = y_3.p ∧ y_2.g = y_3.g ∧ True) ∧ True)
  ∧ (hdF q.v t.v n.v x).μ y_3 < (hdF q.v t.v n.v x).μ y))) ∧ (((2 : Int) == (2 : Int)) = false → ∀ (v : Int), v = IntKind.i64.wrap ((↑y_2.i : Int) + (1 : Int)) → ∃ (y_3 : DI), (At n.v x y_3.i y_3.m ∧ (DS.mk q.v t.v n.v
  y_3.p y_3.g).Ok ∧ y_3.p ≤ (y_3.m - n.v) / t.v) ∧ (((2 : Int) = (2 : Int) ∧ q.v = q.v ∧ t.v = t.v ∧ y_2.m = y_3.m ∧ ((x.nil = true → x.nil = true) ∧ (x.nil = false → x.nil = false ∧ True ∧ True ∧ x.lo = x.lo ∧ x.len =
  x.len ∧ x.cap = x.cap)) ∧ (True ∧ True) ∧ n.v = n.v ∧ v = (↑y_3.i : Int) ∧ True) ∧ ((0 : Nat) ≤ (0 : Nat) ∧ x.n = x.n ∧ ∀ (j : Nat), j < x.n → x.w j = x.w j ∧ x.a j = x.a j ∧ x.c j = x.c j ∧ True) ∧ ((5 : Nat) ≤ (5 :
  Nat) ∧ (q.v = q.v ∧ t.v = t.v ∧ n.v = n.v ∧ True) ∧ (2 : Int) = (2 : Int) ∧ (True ∧ True) ∧ True) ∧ ((5 : Nat) ≤ (5 : Nat) ∧ (q.v = q.v ∧ t.v = t.v ∧ n.v = n.v ∧ True) ∧ y_2.p = y_3.p ∧ y_2.g = y_3.g ∧ True) ∧ True) ∧
  (hdF q.v t.v n.v x).μ y_3 < (hdF q.v t.v n.v x).μ y))))) ∧ (((2 : Int) == (1 : Int)) = false → (((2 : Int) == (2 : Int)) = true → (decide ((if y_2.k = (0 : Nat) then (0 : Int) else y_2.b) > q.v) = true → (q.Ok ∧ t.Ok ∧
  n.Ok ∧ x.Ok) ∧ rngI q.v t.v n.v → False ∧ True ∧ ((0 : Nat) ≤ (0 : Nat) ∧ x.n = x.n ∧ ∀ (j : Nat), j < x.n → x.w j = x.w j ∧ x.a j = x.a j ∧ x.c j = x.c j ∧ True) ∧ True) ∧ (decide ((if y_2.k = (0 : Nat) then (0 : Int)
  else y_2.b) > q.v) = false → (decide ((↑(1 : Nat) : Int) > (1 : Int)) = true → (q.Ok ∧ t.Ok ∧ n.Ok ∧ x.Ok) ∧ rngI q.v t.v n.v → False ∧ True ∧ ((0 : Nat) ≤ (0 : Nat) ∧ x.n = x.n ∧ ∀ (j : Nat), j < x.n → x.w j = x.w j ∧
  x.a j = x.a j ∧ x.c j = x.c j ∧ True) ∧ True) ∧ (decide ((↑(1 : Nat) : Int) > (1 : Int)) = false → t.v ≠ (0 : Int) ∧ ∀ (v : Int), v = IntKind.u64.wrap (n.v + IntKind.u64.wrap (IntKind.u64.wrap (IntKind.u64.wrap
  ((IntKind.u64.wrap (y_2.m - n.v)).tdiv t.v) + (1 : Int)) * t.v)) → (((2 : Int) == (2 : Int)) = true → (((True ∧ True) ∧ v = v ∧ True) ∧ ((5 : Nat) ≤ (5 : Nat) ∧ (q.v = q.v ∧ t.v = t.v ∧ n.v = n.v ∧ True) ∧ (2 : Int) = (2
  : Int) ∧ (True ∧ True) ∧ True) ∧ ((5 : Nat) ≤ (5 : Nat) ∧ (q.v = q.v ∧ t.v = t.v ∧ n.v = n.v ∧ True) ∧ y_2.p = y_2.p ∧ y_2.g = y_2.g ∧ True) ∧ True) ∧ (DS.mk q.v t.v n.v y_2.p y_2.g).Ok ∧ (((DS.mk q.v t.v n.v y_2.p
  y_2.g).us (atI n.v v) != q.v) = true → (q.Ok ∧ t.Ok ∧ n.Ok ∧ x.Ok) ∧ rngI q.v t.v n.v → False ∧ True ∧ ((0 : Nat) ≤ (0 : Nat) ∧ x.n = x.n ∧ ∀ (j : Nat), j < x.n → x.w j = x.w j ∧ x.a j = x.a j ∧ x.c j = x.c j ∧ True) ∧
  True) ∧ (((DS.mk q.v t.v n.v y_2.p y_2.g).us (atI n.v v) != q.v) = false → (((True ∧ True) ∧ y_2.m = y_2.m ∧ True) ∧ ((5 : Nat) ≤ (5 : Nat) ∧ (q.v = q.v ∧ t.v = t.v ∧ n.v = n.v ∧ True) ∧ (2 : Int) = (2 : Int) ∧ (True ∧
  True) ∧ True) ∧ ((5 : Nat) ≤ (5 : Nat) ∧ (q.v = q.v ∧ t.v = t.v ∧ n.v = n.v ∧ True) ∧ y_2.p = y_2.p ∧ y_2.g = y_2.g ∧ True) ∧ True) ∧ (DS.mk q.v t.v n.v y_2.p y_2.g).Ok ∧ (((DS.mk q.v t.v n.v y_2.p y_2.g).due (atI n.v
  y_2.m) != v) = true → (q.Ok ∧ t.Ok ∧ n.Ok ∧ x.Ok) ∧ rngI q.v t.v n.v → False ∧ True ∧ ((0 : Nat) ≤ (0 : Nat) ∧ x.n = x.n ∧ ∀ (j : Nat), j < x.n → x.w j = x.w j ∧ x.a j = x.a j ∧ x.c j = x.c j ∧ True) ∧ True) ∧ (((DS.mk
  q.v t.v n.v y_2.p y_2.g).due (atI n.v y_2.m) != v) = false → ∀ (v : Int), v = IntKind.i64.wrap ((↑y_2.i : Int) + (1 : Int)) → ∃ (y_3 : DI), (At n.v x y_3.i y_3.m ∧ (DS.mk q.v t.v n.v y_3.p y_3.g).Ok ∧ y_3.p ≤ (y_3.m -
  n.v) / t.v) ∧ (((2 : Int) = (2 : Int) ∧ q.v = q.v ∧ t.v = t.v ∧ y_2.m = y_3.m ∧ ((x.nil = true → x.nil = true) ∧ (x.nil = false → x.nil = false ∧ True ∧ True ∧ x.lo = x.lo ∧ x.len = x.len ∧ x.cap = x.cap)) ∧ (True ∧
  True) ∧ n.v = n.v ∧ v = (↑y_3.i : Int) ∧ True) ∧ ((0 : Nat) ≤ (0 : Nat) ∧ x.n = x.n ∧ ∀ (j : Nat), j < x.n → x.w j = x.w j ∧ x.a j = x.a j ∧ x.c j = x.c j ∧ True) ∧ ((5 : Nat) ≤ (5 : Nat) ∧ (q.v = q.v ∧ t.v = t.v ∧ n.v =
  n.v ∧ True) ∧ (2 : Int) = (2 : Int) ∧ (True ∧ True) ∧ True) ∧ ((5 : Nat) ≤ (5 : Nat) ∧ (q.v = q.v ∧ t.v = t.v ∧ n.v = n.v ∧ True) ∧ y_2.p = y_3.p ∧ y_2.g = y_3.g ∧ True) ∧ True) ∧ (hdF q.v t.v n.v x).μ y_3 < (hdF q.v t.v
  n.v x).μ y))) ∧ (((2 : Int) == (2 : Int)) = false → ∀ (v : Int), v = IntKind.i64.wrap ((↑y_2.i : Int) + (1 : Int)) → ∃ (y_3 : DI), (At n.v x y_3.i y_3.m ∧ (DS.mk q.v t.v n.v y_3.p y_3.g).Ok ∧ y_3.p ≤ (y_3.m - n.v) / t.v)
  ∧ (((2 : Int) = (2 : Int) ∧ q.v = q.v ∧ t.v = t.v ∧ y_2.m = y_3.m ∧ ((x.nil = true → x.nil = true) ∧ (x.nil = false → x.nil = false ∧ True ∧ True ∧ x.lo = x.lo ∧ x.len = x.len ∧ x.cap = x.cap)) ∧ (True ∧ True) ∧ n.v =
  n.v ∧ v = (↑y_3.i : Int) ∧ True) ∧ ((0 : Nat) ≤ (0 : Nat) ∧ x.n = x.n ∧ ∀ (j : Nat), j < x.n → x.w j = x.w j ∧ x.a j = x.a j ∧ x.c j = x.c j ∧ True) ∧ ((5 : Nat) ≤ (5 : Nat) ∧ (q.v = q.v ∧ t.v = t.v ∧ n.v = n.v ∧ True) ∧
  (2 : Int) = (2 : Int) ∧ (True ∧ True) ∧ True) ∧ ((5 : Nat) ≤ (5 : Nat) ∧ (q.v = q.v ∧ t.v = t.v ∧ n.v = n.v ∧ True) ∧ y_2.p = y_3.p ∧ y_2.g = y_3.g ∧ True) ∧ True) ∧ (hdF q.v t.v n.v x).μ y_3 < (hdF q.v t.v n.v x).μ
  y)))) ∧ (((2 : Int) == (2 : Int)) = false → t.v ≠ (0 : Int) ∧ ∀ (v : Int), v = IntKind.u64.wrap (n.v + IntKind.u64.wrap (IntKind.u64.wrap (IntKind.u64.wrap ((IntKind.u64.wrap (y_2.m - n.v)).tdiv t.v) + (1 : Int)) * t.v))
  → (((2 : Int) == (2 : Int)) = true → (((True ∧ True) ∧ v = v ∧ True) ∧ ((5 : Nat) ≤ (5 : Nat) ∧ (q.v = q.v ∧ t.v = t.v ∧ n.v = n.v ∧ True) ∧ (2 : Int) = (2 : Int) ∧ (True ∧ True) ∧ True) ∧ ((5 : Nat) ≤ (5 : Nat) ∧ (q.v =
  q.v ∧ t.v = t.v ∧ n.v = n.v ∧ True) ∧ y_2.p = y_2.p ∧ y_2.g = y_2.g ∧ True) ∧ True) ∧ (DS.mk q.v t.v n.v y_2.p y_2.g).Ok ∧ (((DS.mk q.v t.v n.v y_2.p y_2.g).us (atI n.v v) != q.v) = true → (q.Ok ∧ t.Ok ∧ n.Ok ∧ x.Ok) ∧
  rngI q.v t.v n.v → False ∧ True ∧ ((0 : Nat) ≤ (0 : Nat) ∧ x.n = x.n ∧ ∀ (j : Nat), j < x.n → x.w j = x.w j ∧ x.a j = x.a j ∧ x.c j = x.c j ∧ True) ∧ True) ∧ (((DS.mk q.v t.v n.v y_2.p y_2.g).us (atI n.v v) != q.v) =
  false → (((True ∧ True) ∧ y_2.m = y_2.m ∧ True) ∧ ((5 : Nat) ≤ (5 : Nat) ∧ (q.v = q.v ∧ t.v = t.v ∧ n.v = n.v ∧ True) ∧ (2 : Int) = (2 : Int) ∧ (True ∧ True) ∧ True) ∧ ((5 : Nat) ≤ (5 : Nat) ∧ (q.v = q.v ∧ t.v = t.v ∧
  n.v = n.v ∧ True) ∧ y_2.p = y_2.p ∧ y_2.g = y_2.g ∧ True) ∧ True) ∧ (DS.mk q.v t.v n.v y_2.p y_2.g).Ok ∧ (((DS.mk q.v t.v n.v y_2.p y_2.g).due (atI n.v y_2.m) != v) = true → (q.Ok ∧ t.Ok ∧ n.Ok ∧ x.Ok) ∧ rngI q.v t.v n.v
  → False ∧ True ∧ ((0 : Nat) ≤ (0 : Nat) ∧ x.n = x.n ∧ ∀ (j : Nat), j < x.n → x.w j = x.w j ∧ x.a j = x.a j ∧ x.c j = x.c j ∧ True) ∧ True) ∧ (((DS.mk q.v t.v n.v y_2.p y_2.g).due (atI n.v y_2.m) != v) = false → ∀ (v :
  Int), v = IntKind.i64.wrap ((↑y_2.i : Int) + (1 : Int)) → ∃ (y_3 : DI), (At n.v x y_3.i y_3.m ∧ (DS.mk q.v t.v n.v y_3.p y_3.g).Ok ∧ y_3.p ≤ (y_3.m - n.v) / t.v) ∧ (((2 : Int) = (2 : Int) ∧ q.v = q.v ∧ t.v = t.v ∧ y_2.m
  = y_3.m ∧ ((x.nil = true → x.nil = true) ∧ (x.nil = false → x.nil = false ∧ True ∧ True ∧ x.lo = x.lo ∧ x.len = x.len ∧ x.cap = x.cap)) ∧ (True ∧ True) ∧ n.v = n.v ∧ v = (↑y_3.i : Int) ∧ True) ∧ ((0 : Nat) ≤ (0 : Nat) ∧
  x.n = x.n ∧ ∀ (j : Nat), j < x.n → x.w j = x.w j ∧ x.a j = x.a j ∧ x.c j = x.c j ∧ True) ∧ ((5 : Nat) ≤ (5 : Nat) ∧ (q.v = q.v ∧ t.v = t.v ∧ n.v = n.v ∧ True) ∧ (2 : Int) = (2 : Int) ∧ (True ∧ True) ∧ True) ∧ ((5 : Nat)
  ≤ (5 : Nat) ∧ (q.v = q.v ∧ t.v = t.v ∧ n.v = n.v ∧ True) ∧ y_2.p = y_3.p ∧ y_2.g = y_3.g ∧ True) ∧ True) ∧ (hdF q.v t.v n.v x).μ y_3 < (hdF q.v t.v n.v x).μ y))) ∧ (((2 : Int) == (2 : Int)) = false → ∀ (v : Int), v =
  IntKind.i64.wrap ((↑y_2.i : Int) + (1 : Int)) → ∃ (y_3 : DI), (At n.v x y_3.i y_3.m ∧ (DS.mk q.v t.v n.v y_3.p y_3.g).Ok ∧ y_3.p ≤ (y_3.m - n.v) / t.v) ∧ (((2 : Int) = (2 : Int) ∧ q.v = q.v ∧ t.v = t.v ∧ y_2.m = y_3.m ∧
  ((x.nil = true → x.nil = true) ∧ (x.nil = false → x.nil = false ∧ True ∧ True ∧ x.lo = x.lo ∧ x.len = x.len ∧ x.cap = x.cap)) ∧ (True ∧ True) ∧ n.v = n.v ∧ v = (↑y_3.i : Int) ∧ True) ∧ ((0 : Nat) ≤ (0 : Nat) ∧ x.n = x.n
  ∧ ∀ (j : Nat), j < x.n → x.w j = x.w j ∧ x.a j = x.a j ∧ x.c j = x.c j ∧ True) ∧ ((5 : Nat) ≤ (5 : Nat) ∧ (q.v = q.v ∧ t.v = t.v ∧ n.v = n.v ∧ True) ∧ (2 : Int) = (2 : Int) ∧ (True ∧ True) ∧ True) ∧ ((5 : Nat) ≤ (5 :
  Nat) ∧ (q.v = q.v ∧ t.v = t.v ∧ n.v = n.v ∧ True) ∧ y_2.p = y_3.p ∧ y_2.g = y_3.g ∧ True) ∧ True) ∧ (hdF q.v t.v n.v x).μ y_3 < (hdF q.v t.v n.v x).μ y)))))) ∧ (decide ((↑y.i : Int) < (↑x.len : Int)) = false → (q.Ok ∧
  t.Ok ∧ n.Ok ∧ x.Ok) ∧ rngI q.v t.v n.v → True ∧ True ∧ ((0 : Nat) ≤ (0 : Nat) ∧ x.n = x.n ∧ ∀ (j : Nat), j < x.n → x.w j = x.w j ∧ x.a j = x.a j ∧ x.c j = x.c j ∧ True) ∧ True))) := by
  simp only [true_and, and_true, eq_self, Nat.le_refl, decide_eq_true_eq, decide_eq_false_iff_not, beq_iff_eq, beq_eq_false_iff_ne, implies_true, true_implies, and_self, bne_iff_ne, Int.not_lt, Int.not_le, gt_iff_lt, ne_eq, Nat.zero_add, Int.toNat_natCast, IntKind.wrap_u64, IntKind.wrap_i64, bne_eq_false_iff_eq, Bool.not_eq_true', Bool.not_eq_false']
  rintro q t n x ⟨⟨hq, ht, hn, hx⟩, hr⟩
  have hr0 := hr
  obtain ⟨a1, a2, a3, a4⟩ := hr0
  have hx1 := hx.1
  have hx2 := hx.2.1
  have hn1 := hn.1
  have hM : ∀ z : DI, (hdF q.v t.v n.v x).μ z = x.len - z.i := fun _ => rfl
  have hM1 : ∀ (u : Nat) (z : DI), (hdA q.v t.v n.v x u).μ z = 0 := fun _ _ => rfl
  have hM2 : ∀ (u : Nat) (z : DJ), (hdB q.v t.v n.v x u).μ z = 1 - z.k := fun _ _ => rfl
  have hI : ∀ z : DI, (hdF q.v t.v n.v x).I z = (At n.v x z.i z.m ∧ (⟨q.v, t.v, n.v, z.p, z.g⟩ : DS).Ok ∧ z.p ≤ (z.m - n.v) / t.v) := fun _ => rfl
  have hI1 : ∀ (u : Nat) (w : DI), (hdA q.v t.v n.v x u).I w = (w.i = u ∧ w.i < x.len ∧ At n.v x (w.i + 1) w.m ∧ (⟨q.v, t.v, n.v, w.p, w.g⟩ : DS).Ok ∧ w.p ≤ (w.m - n.v) / t.v) := fun _ _ => rfl
  have hI2 : ∀ (u : Nat) (w : DJ), (hdB q.v t.v n.v x u).I w = (w.i = u ∧ w.i < x.len ∧ At n.v x (w.i + 1) w.m ∧ (⟨q.v, t.v, n.v, w.p, w.g⟩ : DS).Ok ∧ w.p ≤ (w.m - n.v) / t.v ∧ w.k ≤ 1 ∧ 1 ≤ w.b ∧ w.b ≤ q.v) := fun _ _ => rfl
  have e21 : ((2 : Int) = 1) = False := by simp
  simp only [hM, hM1, hM2, e21, not_true_eq_false, not_false_eq_true, false_imp_iff, true_imp_iff, and_true, true_and]
  refine ⟨hr, fun v hv _ => ⟨⟨id, id⟩, ⟨hx1, hx2⟩, fun hsm v hv v1 hv1 => ⟨⟨⟨0, n.v, 0, 0⟩, ⟨At.start hn.1 hsm, DS.ok_new a1 a2 a3 hn.1 a4, ?_⟩, ⟨rfl, ⟨id, id⟩, hv, hv1⟩, rfl, rfl⟩, fun y hy => ?_⟩⟩⟩
  · dsimp only
    rw [Int.sub_self, Int.zero_ediv]
    exact Int.le_refl _
  obtain ⟨hA, hd, hp⟩ := hy
  have hxl := hA.xl
  refine ⟨hx1, fun hlt => ⟨hx1, by omega, by omega, fun v hv => ?_⟩⟩
  obtain ⟨s1, s2, s3, s4⟩ := hA.step hx (by omega)
  rw [s2] at hv
  have hc := (hx.2.2 y.i (by omega)).2.1
  have m0 := hA.m0
  have hat : atI n.v v = v := atI_id (by omega) (by omega)
  rw [hat]
  have hpm : (y.m - n.v) / t.v ≤ (v - n.v) / t.v := per_mono (by omega) (by omega)
  have kd : ∀ (i : Nat) (m p g : Int), i = y.i → At n.v x (i + 1) m → (⟨q.v, t.v, n.v, p, g⟩ : DS).Ok → p ≤ (m - n.v) / t.v → ¬t.v = 0 ∧ ∀ (v : Int), v = (n.v + (((m - n.v) % 18446744073709551616).tdiv t.v % 18446744073709551616 + 1) % 18446744073709551616 * t.v % 18446744073709551616) % 18446744073709551616 →
      (⟨q.v, t.v, n.v, p, g⟩ : DS).Ok ∧ (¬(⟨q.v, t.v, n.v, p, g⟩ : DS).us (atI n.v v) = q.v → (q.Ok ∧ t.Ok ∧ n.Ok ∧ x.Ok) ∧ rngI q.v t.v n.v → False) ∧ ((⟨q.v, t.v, n.v, p, g⟩ : DS).us (atI n.v v) = q.v → (⟨q.v, t.v, n.v, p, g⟩ : DS).Ok ∧
      (¬(⟨q.v, t.v, n.v, p, g⟩ : DS).due (atI n.v m) = v → (q.Ok ∧ t.Ok ∧ n.Ok ∧ x.Ok) ∧ rngI q.v t.v n.v → False) ∧ ((⟨q.v, t.v, n.v, p, g⟩ : DS).due (atI n.v m) = v → ∀ (v : Int), v = (↑i + 1 + 9223372036854775808) % 18446744073709551616 - 9223372036854775808 →
      ∃ y3 : DI, (At n.v x y3.i y3.m ∧ (⟨q.v, t.v, n.v, y3.p, y3.g⟩ : DS).Ok ∧ y3.p ≤ (y3.m - n.v) / t.v) ∧ ((m = y3.m ∧ ((x.nil = true → x.nil = true) ∧ (x.nil = false → x.nil = false)) ∧ v = ↑y3.i) ∧ p = y3.p ∧ g = y3.g) ∧ x.len - y3.i < x.len - y.i)) := fun i m p g hi hAt hd2 hp2 => by
    obtain ⟨k1, k2, k3⟩ := dnext hd2 (m := m) hAt.m0 hAt.m2 hp2
    dsimp only at k1 k2 k3
    refine ⟨by omega, fun v hv => ?_⟩
    have hv : v = n.v + ((⟨q.v, t.v, n.v, p, g⟩ : DS).per m + 1) * t.v := hv.trans k1
    subst hv
    exact ⟨hd2, fun h _ => h k2, fun _ => ⟨hd2, fun h _ => h k3, fun _ v3 hv3 => ⟨⟨i + 1, m, p, g⟩, ⟨hAt, hd2, hp2⟩, ⟨⟨rfl, ⟨id, id⟩, by dsimp only; omega⟩, rfl, rfl⟩, by dsimp only; omega⟩⟩⟩
  refine ⟨y.i, ⟨hx1, by omega, by omega, fun hw => ⟨⟨y.i, v, y.p, y.g⟩, ⟨rfl, by dsimp only; omega, by dsimp only; rw [hv]; exact s1, hd, by dsimp only; omega⟩, ⟨rfl, ⟨id, id⟩, rfl⟩, rfl, rfl⟩, fun hw => ?_⟩, fun u hu => ?_⟩
  · have hcg : (⟨q.v, t.v, n.v, y.p, y.g⟩ : DS).chg v (x.c (x.lo + y.i)) ≤ x.c (x.lo + y.i) ∧ (⟨q.v, t.v, n.v, y.p, y.g⟩ : DS).chg v (x.c (x.lo + y.i)) ≤ q.v := by
      have hgb := DS.gon_bd hd v
      unfold DS.chg
      dsimp only at hgb ⊢
      split <;> omega
    exact ⟨hx1, by omega, by omega, ⟨hd, hc⟩, fun v2 hv2 => ⟨hx1, by omega, by omega, fun h _ => by omega, fun _ => ⟨fun h _ => by omega, fun _ => ⟨⟨y.i, v, _, _⟩, ⟨rfl, by dsimp only; omega, by dsimp only; rw [hv]; exact s1, hd.aft hc (n := v), Int.le_refl _⟩, ⟨rfl, ⟨id, id⟩, rfl⟩, by repeat' (first | apply And.intro | rfl)⟩⟩⟩⟩
  · obtain ⟨u1, u2, u3, u4, u5⟩ := hu
    refine ⟨u4, fun hg v hv v2 hv2 => ⟨y.i, .inl ⟨⟨u.i, u.m, u.p, u.g⟩, ⟨u1, u2, u3, u4, u5⟩, ⟨rfl, ⟨id, id⟩, rfl, hv, hv2⟩, rfl, rfl⟩, ?_, ?_⟩, fun hg v hv v2 hv2 => ⟨y.i, ?_, ?_, ?_⟩⟩
    · exact fun w ⟨w1, w2, w3, w4, w5⟩ => ⟨fun h => absurd h (by decide), fun _ => ⟨fun h _ => by omega, fun _ => ⟨fun h _ => absurd h (by decide), fun _ => kd w.i w.m w.p w.g w1 w3 w4 w5⟩⟩⟩
    · intro w hw
      obtain ⟨w1, w2, w3, w4, w5, w6, w7, w8⟩ := hw
      refine ⟨fun hk => ⟨by omega, by omega, fun v2 hv2 => ⟨by omega, by omega, fun h _ => by omega, fun _ => ⟨fun h => by omega, fun _ v3 hv3 => .inr ⟨⟨w.i, w.m, w.p, w.g, w.a, w.b, w.k + 1⟩, ⟨w1, w2, w3, w4, w5, by dsimp only; omega, w7, w8⟩, ⟨⟨rfl, ⟨id, id⟩, rfl, ?_, by dsimp only; omega⟩, ⟨rfl, rfl⟩, fun j _ => ⟨rfl, rfl⟩⟩, by dsimp only; omega⟩⟩⟩⟩,
        fun hk => ⟨fun h _ => ?_, fun _ => ⟨fun h _ => absurd h (by decide), fun _ => kd w.i w.m w.p w.g w1 w3 w4 w5⟩⟩⟩
      · dsimp only
        rw [if_pos (by omega)] at hv2
        rw [if_neg (by omega)]
        omega
      · split at h <;> omega
    · have hgb := DS.gon_bd u4 (atI n.v u.m)
      dsimp only at hgb
      refine .inr ⟨⟨u.i, u.m, u.p, u.g, _, _, 0⟩, ⟨u1, u2, u3, u4, u5, Nat.zero_le _, ?_, ?_⟩, ⟨rfl, ⟨id, id⟩, rfl, hv, hv2⟩, ⟨rfl, rfl⟩, fun j _ => ⟨rfl, rfl⟩⟩
      · dsimp only; omega
      · dsimp only; omega
    · exact fun w ⟨w1, w2, w3, w4, w5⟩ => ⟨fun h => absurd h (by decide), fun _ => ⟨fun h _ => by omega, fun _ => ⟨fun h _ => absurd h (by decide), fun _ => kd w.i w.m w.p w.g w1 w3 w4 w5⟩⟩⟩
    · intro w hw
      obtain ⟨w1, w2, w3, w4, w5, w6, w7, w8⟩ := hw
      refine ⟨fun hk => ⟨by omega, by omega, fun v2 hv2 => ⟨by omega, by omega, fun h _ => by omega, fun _ => ⟨fun h => by omega, fun _ v3 hv3 => .inr ⟨⟨w.i, w.m, w.p, w.g, w.a, w.b, w.k + 1⟩, ⟨w1, w2, w3, w4, w5, by dsimp only; omega, w7, w8⟩, ⟨⟨rfl, ⟨id, id⟩, rfl, ?_, by dsimp only; omega⟩, ⟨rfl, rfl⟩, fun j _ => ⟨rfl, rfl⟩⟩, by dsimp only; omega⟩⟩⟩⟩,
        fun hk => ⟨fun h _ => ?_, fun _ => ⟨fun h _ => absurd h (by decide), fun _ => kd w.i w.m w.p w.g w1 w3 w4 w5⟩⟩⟩
      · dsimp only
        rw [if_pos (by omega)] at hv2
        rw [if_neg (by omega)]
        omega
      · split at h <;> omega

def hd_C (x : (A64 × A64 × A64 × CS)) : Cfg := { Γ := Go.Sx.look tHd, names := true, loops := hdL (x.1).v (x.2.1).v (x.2.2.1).v (x.2.2.2), cuts := hdU (x.1).v (x.2.1).v (x.2.2.1).v (x.2.2.2) }
theorem hd_al (x : (A64 × A64 × A64 × CS)) : Shown (hdP.vc Try.prog (hd_C x) Try.f4 x) := ⟨@Eq.mp _ _ (by kernel_rfl) (hd_vc (x.1) (x.2.1) (x.2.2.1) (x.2.2.2))⟩
theorem hd_ok : SpOk Try.prog 4 hdP.sp := @Pat.okS _ hdP Try.prog hd_C 4 Try.f4 (fun x => cfg_tab rfl tHd_ok) (by kernel_rfl) Try.func4 (fun _ => rfl) hd_al
def hoP : Pat (AI × A64 × A64 × A64 × CS) where
  view _ _ := none
  args x := [x.1.t, x.2.1.t, x.2.2.1.t, x.2.2.2.1.t, x.2.2.2.2.v 0]
  H x := [x.2.2.2.2.reg]
  out x := .need ((x.1.Ok ∧ x.2.1.Ok ∧ x.2.2.1.Ok ∧ x.2.2.2.1.Ok ∧ x.2.2.2.2.Ok) ∧ badK x.1.v x.2.1.v x.2.2.1.v x.2.2.2.1.v) (.retq .tt)
theorem ho_vc : ∀ (k : AI) (q t n : A64) (x : CS), ((k.Ok ∧ q.Ok ∧ t.Ok ∧ n.Ok ∧ x.Ok) ∧ badK k.v q.v t.v n.v) ∧ True → (True ∧ True) ∧ ((k.v = k.v ∧ q.v = q.v ∧ t.v = t.v ∧ n.v = n.v ∧ True) ∧ True) ∧ badK k.v q.v t.v n.v ∧ ∀ (v :
  Int), (v = if k.v = (1 : Int) ∨ k.v = (2 : Int) then (11 : Int) else (10 : Int)) → ((v != (0 : Int)) = true → (k.Ok ∧ q.Ok ∧ t.Ok ∧ n.Ok ∧ x.Ok) ∧ badK k.v q.v t.v n.v → True ∧ True ∧ ((0 : Nat) ≤ (0 : Nat) ∧ x.n = x.n ∧
  ∀ (j : Nat), j < x.n → x.w j = x.w j ∧ x.a j = x.a j ∧ x.c j = x.c j ∧ True) ∧ True) ∧ ((v != (0 : Int)) = false → (k.Ok ∧ q.Ok ∧ t.Ok ∧ n.Ok ∧ x.Ok) ∧ badK k.v q.v t.v n.v → True ∧ True ∧ ((0 : Nat) ≤ (0 : Nat) ∧ x.n =
  x.n ∧ ∀ (j : Nat), j < x.n → x.w j = x.w j ∧ x.a j = x.a j ∧ x.c j = x.c j ∧ True) ∧ True) := by
  simp only [true_and, and_true, eq_self, Nat.le_refl, implies_true, and_self, bne_iff_ne, ne_eq, bne_eq_false_iff_eq]
  rintro k q t n x ⟨_, h⟩
  exact h

def ho_C (_ : (AI × A64 × A64 × A64 × CS)) : Cfg := { Γ := Go.Sx.look tBkO, names := true }
theorem ho_al (x : (AI × A64 × A64 × A64 × CS)) : Shown (hoP.vc Try.prog (ho_C x) Try.f4 x) := ⟨@Eq.mp _ _ (by kernel_rfl) (ho_vc (x.1) (x.2.1) (x.2.2.1) (x.2.2.2.1) (x.2.2.2.2))⟩
theorem ho_ok : SpOk Try.prog 4 hoP.sp := @Pat.okS _ hoP Try.prog ho_C 4 Try.f4 (fun x => cfg_tab rfl tBkO_ok) (by kernel_rfl) Try.func4 (fun _ => rfl) ho_al
end Go.Proofs.Ytokiakcmdbihhaa
