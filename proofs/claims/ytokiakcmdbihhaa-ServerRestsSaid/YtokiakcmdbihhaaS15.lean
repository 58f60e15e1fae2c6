import Derived.Test.YtokiakcmdbihhaaS13
open Go Go.Sx Go.Proofs
set_option maxRecDepth 100000
namespace Go.Proofs.Ytokiakcmdbihhaa

/-- A row of numbers. -/
structure US where
  nil : Bool
  lo : Nat
  len : Nat
  cap : Nat
  n : Nat
  f : Nat → Int
def US.reg (x : US) : Reg := { own := false, pl := true, fam := 1, el := 22, tot := fun _ => 0, c := fun _ => .arr x.n 1 (fun j => .int .u64 (x.f j)) }
def US.v (x : US) (r : Nat) : T := .ite x.nil .nils (.slice r 0 [] x.lo 1 x.len x.cap)
def US.Ok (x : US) : Prop := (x.nil = true → x.len = 0) ∧ x.lo + x.len ≤ x.n ∧ ∀ j, j < x.len → u64 (x.f (x.lo + j))
structure RI where
  i : Nat
  m : Int
  y : CR
structure RI.Ok (n : Int) (x : US) (w : RI) : Prop where
  il : w.i ≤ x.len
  xl : x.len ≤ 60
  n0 : 0 ≤ n
  n1 : n ≤ 1152921504606846976
  m0 : n ≤ w.m
  m1 : w.m ≤ n + w.i * 1099511627776
def rsF (q t n : Int) (x : US) : Fam where
  α := RI
  I w := w.Ok n x ∧ w.y.Ok ∧ ∃ a, (0 ≤ a ∧ a ≤ w.m) ∧ w.y.L = [(a, q)]
  st w := { sl := mkSl 114 [(1, .int .u64 q), (2, .int .u64 t), (3, .int .u64 w.m), (4, x.v 0), (11, p0 1), (13, .int .i64 w.i)], H := [x.reg] ++ (⟨q, t, n, w.y⟩ : SS).Vr 1 }
  μ w := x.len - w.i
def rdF (q t n : Int) (x : US) : Fam where
  α := RI
  I w := w.Ok n x
  st w := { sl := mkSl 114 [(1, .int .u64 q), (2, .int .u64 t), (3, .int .u64 w.m), (4, x.v 0), (11, p0 1), (13, .int .i64 w.i)], H := [x.reg] ++ (⟨q, t, n, 0, 0⟩ : DS).Vr 1 }
  μ w := x.len - w.i
def rsP : Pat (A64 × A64 × A64 × US) where
  view _ _ := none
  args x := [.int .i64 1, x.1.t, x.2.1.t, x.2.2.1.t, x.2.2.2.v 0]
  H x := [x.2.2.2.reg]
  out x := .need ((x.1.Ok ∧ x.2.1.Ok ∧ x.2.2.1.Ok ∧ x.2.2.2.Ok) ∧ rngI x.1.v x.2.1.v x.2.2.1.v) (.retq .tt)
def rdP : Pat (A64 × A64 × A64 × US) where
  view _ _ := none
  args x := [.int .i64 2, x.1.t, x.2.1.t, x.2.2.1.t, x.2.2.2.v 0]
  H x := [x.2.2.2.reg]
  out x := .need ((x.1.Ok ∧ x.2.1.Ok ∧ x.2.2.1.Ok ∧ x.2.2.2.Ok) ∧ rngI x.1.v x.2.1.v x.2.2.1.v) (.retq .tt)
def roP : Pat (AI × A64 × A64 × A64 × US) where
  view _ _ := none
  args x := [x.1.t, x.2.1.t, x.2.2.1.t, x.2.2.2.1.t, x.2.2.2.2.v 0]
  H x := [x.2.2.2.2.reg]
  out x := .need ((x.1.Ok ∧ x.2.1.Ok ∧ x.2.2.1.Ok ∧ x.2.2.2.1.Ok ∧ x.2.2.2.2.Ok) ∧ badK x.1.v x.2.1.v x.2.2.1.v x.2.2.2.1.v) (.retq .tt)
theorem ro_vc : ∀ (k : AI) (q t n : A64) (x : US), ((k.Ok ∧ q.Ok ∧ t.Ok ∧ n.Ok ∧ x.Ok) ∧ badK k.v q.v t.v n.v) ∧ True → (True ∧ True) ∧ ((k.v = k.v ∧ q.v = q.v ∧ t.v = t.v ∧ n.v = n.v ∧ True) ∧ True) ∧ badK k.v q.v t.v n.v ∧ ∀ (v :
  Int), (v = if k.v = (1 : Int) ∨ k.v = (2 : Int) then (11 : Int) else (10 : Int)) → ((v != (0 : Int)) = true → (k.Ok ∧ q.Ok ∧ t.Ok ∧ n.Ok ∧ x.Ok) ∧ badK k.v q.v t.v n.v → True ∧ True ∧ ((0 : Nat) ≤ (0 : Nat) ∧ x.n = x.n ∧
  ∀ (j : Nat), j < x.n → x.f j = x.f j) ∧ True) ∧ ((v != (0 : Int)) = false → (k.Ok ∧ q.Ok ∧ t.Ok ∧ n.Ok ∧ x.Ok) ∧ badK k.v q.v t.v n.v → True ∧ True ∧ ((0 : Nat) ≤ (0 : Nat) ∧ x.n = x.n ∧ ∀ (j : Nat), j < x.n → x.f j =
  x.f j) ∧ True) := by
  simp only [true_and, and_true, eq_self, Nat.le_refl, implies_true, and_self, bne_iff_ne, ne_eq, bne_eq_false_iff_eq]
  rintro k q t n x ⟨_, h⟩
  exact h

def ro_C (_ : (AI × A64 × A64 × A64 × US)) : Cfg := { Γ := Go.Sx.look tBkO, names := true }
theorem ro_al (x : (AI × A64 × A64 × A64 × US)) : Shown (roP.vc Try.prog (ro_C x) Try.f7 x) := ⟨@Eq.mp _ _ (by kernel_rfl) (ro_vc (x.1) (x.2.1) (x.2.2.1) (x.2.2.2.1) (x.2.2.2.2))⟩
theorem ro_ok : SpOk Try.prog 7 roP.sp := @Pat.okS _ roP Try.prog ro_C 7 Try.f7 (fun x => cfg_tab rfl tBkO_ok) (by kernel_rfl) Try.func7 (fun _ => rfl) ro_al
def tRs : Tab := [(8, aliveP.sp), (9, n1P.sp), (11, swP.sp), (12, suP.sp), (13, scP.sp), (15, slP.sp), (17, snP.sp), (14, skP.sp)]
theorem tRs_ok : TabOk Try.prog tRs := (tab_cons alive_ok (tab_cons n1_ok (tab_cons sw_ok (tab_cons su_ok (tab_cons sc__ok (tab_cons sl__ok (tab_cons sn_ok (tab_cons sk_ok tab_nil))))))))

theorem rs_vc : ∀ (q t n : A64) (x : US), ((q.Ok ∧ t.Ok ∧ n.Ok ∧ x.Ok) ∧ rngI q.v t.v n.v) ∧ True → (True ∧ True) ∧ (((1 : Int) = (1 : Int) ∧ q.v = q.v ∧ t.v = t.v ∧ n.v = n.v ∧ True) ∧ True) ∧ rngI q.v t.v n.v ∧ ∀ (x_1 : CR), x_1.Ok ∧
  x_1.L = [(n.v, q.v)] → ∀ (v : Int), v = (0 : Int) → ((v != (0 : Int)) = true → (q.Ok ∧ t.Ok ∧ n.Ok ∧ x.Ok) ∧ rngI q.v t.v n.v → True ∧ True ∧ ((0 : Nat) ≤ (0 : Nat) ∧ x.n = x.n ∧ ∀ (j : Nat), j < x.n → x.f j = x.f j) ∧
  True) ∧ ((v != (0 : Int)) = false → (x.nil = true → x.len = (0 : Nat)) ∧ (decide ((↑x.len : Int) > (60 : Int)) = true → (q.Ok ∧ t.Ok ∧ n.Ok ∧ x.Ok) ∧ rngI q.v t.v n.v → True ∧ True ∧ ((0 : Nat) ≤ (0 : Nat) ∧ x.n = x.n ∧
  ∀ (j : Nat), j < x.n → x.f j = x.f j) ∧ True) ∧ (decide ((↑x.len : Int) > (60 : Int)) = false → (decide (n.v > (1152921504606846976 : Int)) = true → (q.Ok ∧ t.Ok ∧ n.Ok ∧ x.Ok) ∧ rngI q.v t.v n.v → True ∧ True ∧ ((0 :
  Nat) ≤ (0 : Nat) ∧ x.n = x.n ∧ ∀ (j : Nat), j < x.n → x.f j = x.f j) ∧ True) ∧ (decide (n.v > (1152921504606846976 : Int)) = false → ∀ (v : Int), v = (0 : Int) → (∃ (y : RI), (RI.Ok n.v x y ∧ y.y.Ok ∧ ∃ (a : Int), ((0 :
  Int) ≤ a ∧ a ≤ y.m) ∧ y.y.L = [(a, q.v)]) ∧ ((q.v = q.v ∧ t.v = t.v ∧ n.v = y.m ∧ ((x.nil = true → x.nil = true) ∧ (x.nil = false → x.nil = false ∧ True ∧ True ∧ x.lo = x.lo ∧ x.len = x.len ∧ x.cap = x.cap)) ∧ (True ∧
  True) ∧ v = (↑y.i : Int) ∧ True) ∧ ((0 : Nat) ≤ (0 : Nat) ∧ x.n = x.n ∧ ∀ (j : Nat), j < x.n → x.f j = x.f j) ∧ ((5 : Nat) ≤ (5 : Nat) ∧ (q.v = q.v ∧ t.v = t.v ∧ n.v = n.v ∧ True) ∧ (1 : Int) = (1 : Int) ∧ (True ∧ True)
  ∧ True) ∧ ((4 : Nat) ≤ (4 : Nat) ∧ (q.v = q.v ∧ t.v = t.v ∧ n.v = n.v ∧ True) ∧ (True ∧ True ∧ x_1.lo = y.y.lo ∧ x_1.len = y.y.len ∧ x_1.cap = y.y.cap) ∧ True) ∧ ((y.y.lo + y.y.cap) * (2 : Nat) ≤ (x_1.lo + x_1.cap) * (2
  : Nat) ∧ y.y.N = x_1.N ∧ ∀ (j : Nat), j < x_1.N → x_1.a j = y.y.a j ∧ x_1.b j = y.y.b j ∧ True) ∧ True) ∧ True) ∧ ∀ (y : RI), (RI.Ok n.v x y ∧ y.y.Ok ∧ ∃ (a : Int), ((0 : Int) ≤ a ∧ a ≤ y.m) ∧ y.y.L = [(a, q.v)]) →
  (x.nil = true → x.len = (0 : Nat)) ∧ (decide ((↑y.i : Int) < (↑x.len : Int)) = true → (x.nil = true → x.len = (0 : Nat)) ∧ ((0 : Int) ≤ (↑y.i : Int) ∧ (↑y.i : Int) < (↑x.len : Int)) ∧ x.lo + (↑y.i : Int).toNat < x.n ∧
  (decide (x.f (x.lo + (↑y.i : Int).toNat) > (1099511627776 : Int)) = true → (q.Ok ∧ t.Ok ∧ n.Ok ∧ x.Ok) ∧ rngI q.v t.v n.v → True ∧ True ∧ ((0 : Nat) ≤ (0 : Nat) ∧ x.n = x.n ∧ ∀ (j : Nat), j < x.n → x.f j = x.f j) ∧ True)
  ∧ (decide (x.f (x.lo + (↑y.i : Int).toNat) > (1099511627776 : Int)) = false → (x.nil = true → x.len = (0 : Nat)) ∧ ((0 : Int) ≤ (↑y.i : Int) ∧ (↑y.i : Int) < (↑x.len : Int)) ∧ x.lo + (↑y.i : Int).toNat < x.n ∧ ∀ (v :
  Int), v = IntKind.u64.wrap (y.m + x.f (x.lo + (↑y.i : Int).toNat)) → ((bits BinOp.and IntKind.i64 (↑y.i : Int) (1 : Int) == (1 : Int)) = true → (((True ∧ True) ∧ v = v ∧ True) ∧ ((5 : Nat) ≤ (5 : Nat) ∧ (q.v = q.v ∧ t.v
  = t.v ∧ n.v = n.v ∧ True) ∧ (1 : Int) = (1 : Int) ∧ (True ∧ True) ∧ True) ∧ ((4 : Nat) ≤ (4 : Nat) ∧ (q.v = q.v ∧ t.v = t.v ∧ n.v = n.v ∧ True) ∧ (True ∧ True ∧ y.y.lo = y.y.lo ∧ y.y.len = y.y.len ∧ y.y.cap = y.y.cap) ∧
  True) ∧ ((y.y.lo + y.y.cap) * (2 : Nat) ≤ (y.y.lo + y.y.cap) * (2 : Nat) ∧ y.y.N = y.y.N ∧ ∀ (j : Nat), j < y.y.N → y.y.a j = y.y.a j ∧ y.y.b j = y.y.b j ∧ True) ∧ True) ∧ (SS.mk q.v t.v n.v (CR.mk y.y.lo y.y.len y.y.cap
  y.y.N (fun (j : Nat) => y.y.a j) fun (j : Nat) => y.y.b j)).Ok ∧ ∀ (x_2 : CR), x_2.Ok ∧ x_2.L = wakeL (atI n.v v) y.y.L → (((True ∧ True) ∧ v = v ∧ True) ∧ ((5 : Nat) ≤ (5 : Nat) ∧ (q.v = q.v ∧ t.v = t.v ∧ n.v = n.v ∧
  True) ∧ (1 : Int) = (1 : Int) ∧ (True ∧ True) ∧ True) ∧ ((4 : Nat) ≤ (4 : Nat) ∧ (q.v = q.v ∧ t.v = t.v ∧ n.v = n.v ∧ True) ∧ (True ∧ True ∧ x_2.lo = x_2.lo ∧ x_2.len = x_2.len ∧ x_2.cap = x_2.cap) ∧ True) ∧ ((x_2.lo +
  x_2.cap) * (2 : Nat) ≤ (x_2.lo + x_2.cap) * (2 : Nat) ∧ x_2.N = x_2.N ∧ ∀ (j : Nat), j < x_2.N → x_2.a j = x_2.a j ∧ x_2.b j = x_2.b j ∧ True) ∧ True) ∧ (SS.mk q.v t.v n.v (CR.mk x_2.lo x_2.len x_2.cap x_2.N (fun (j :
  Nat) => x_2.a j) fun (j : Nat) => x_2.b j)).Ok ∧ ∀ (v_1 : Int), (v_1 = if (0 : Int) < usL (atI n.v v) x_2.L then (0 : Int) else fstD x_2.L[(0 : Nat)]?) → (((True ∧ True) ∧ v = v ∧ True) ∧ ((5 : Nat) ≤ (5 : Nat) ∧ (q.v =
  q.v ∧ t.v = t.v ∧ n.v = n.v ∧ True) ∧ (1 : Int) = (1 : Int) ∧ (True ∧ True) ∧ True) ∧ ((4 : Nat) ≤ (4 : Nat) ∧ (q.v = q.v ∧ t.v = t.v ∧ n.v = n.v ∧ True) ∧ (True ∧ True ∧ x_2.lo = x_2.lo ∧ x_2.len = x_2.len ∧ x_2.cap =
  x_2.cap) ∧ True) ∧ ((x_2.lo + x_2.cap) * (2 : Nat) ≤ (x_2.lo + x_2.cap) * (2 : Nat) ∧ x_2.N = x_2.N ∧ ∀ (j : Nat), j < x_2.N → x_2.a j = x_2.a j ∧ x_2.b j = x_2.b j ∧ True) ∧ True) ∧ (SS.mk q.v t.v n.v (CR.mk x_2.lo
  x_2.len x_2.cap x_2.N (fun (j : Nat) => x_2.a j) fun (j : Nat) => x_2.b j)).Ok ∧ ∀ (x_3 : CR), (x_3.Ok ∧ x_3.lo = (0 : Nat) ∧ x_3.len = x_2.len ∧ x_3.N = x_2.len) ∧ x_3.L = x_2.L → (((True ∧ True) ∧ v = v ∧ True) ∧ ((5 :
  Nat) ≤ (5 : Nat) ∧ (q.v = q.v ∧ t.v = t.v ∧ n.v = n.v ∧ True) ∧ (1 : Int) = (1 : Int) ∧ (True ∧ True) ∧ True) ∧ ((4 : Nat) ≤ (4 : Nat) ∧ (q.v = q.v ∧ t.v = t.v ∧ n.v = n.v ∧ True) ∧ (True ∧ True ∧ x_2.lo = x_2.lo ∧
  x_2.len = x_2.len ∧ x_2.cap = x_2.cap) ∧ True) ∧ ((x_2.lo + x_2.cap) * (2 : Nat) ≤ (x_2.lo + x_2.cap) * (2 : Nat) ∧ x_2.N = x_2.N ∧ ∀ (j : Nat), j < x_2.N → x_2.a j = x_2.a j ∧ x_2.b j = x_2.b j ∧ True) ∧ True) ∧ (SS.mk
  q.v t.v n.v (CR.mk x_2.lo x_2.len x_2.cap x_2.N (fun (j : Nat) => x_2.a j) fun (j : Nat) => x_2.b j)).Ok ∧ ((usL (atI n.v v) (CR.mk x_2.lo x_2.len x_2.cap x_2.N (fun (j : Nat) => x_2.a j) fun (j : Nat) => x_2.b j).L !=
  q.v) = true → (q.Ok ∧ t.Ok ∧ n.Ok ∧ x.Ok) ∧ rngI q.v t.v n.v → False ∧ True ∧ ((0 : Nat) ≤ (0 : Nat) ∧ x.n = x.n ∧ ∀ (j : Nat), j < x.n → x.f j = x.f j) ∧ True) ∧ ((usL (atI n.v v) (CR.mk x_2.lo x_2.len x_2.cap x_2.N
  (fun (j : Nat) => x_2.a j) fun (j : Nat) => x_2.b j).L != q.v) = false → ((!decide ((0 : Int) < usL (atI n.v v) x_2.L)) = true → (q.Ok ∧ t.Ok ∧ n.Ok ∧ x.Ok) ∧ rngI q.v t.v n.v → False ∧ True ∧ ((0 : Nat) ≤ (0 : Nat) ∧
  x.n = x.n ∧ ∀ (j : Nat), j < x.n → x.f j = x.f j) ∧ True) ∧ ((!decide ((0 : Int) < usL (atI n.v v) x_2.L)) = false → (((↑x_3.len : Int) != (1 : Int)) = true → (q.Ok ∧ t.Ok ∧ n.Ok ∧ x.Ok) ∧ rngI q.v t.v n.v → False ∧ True
  ∧ ((0 : Nat) ≤ (0 : Nat) ∧ x.n = x.n ∧ ∀ (j : Nat), j < x.n → x.f j = x.f j) ∧ True) ∧ (((↑x_3.len : Int) != (1 : Int)) = false → ((0 : Int) ≤ (0 : Int) ∧ (0 : Int) < (↑x_3.len : Int)) ∧ x_3.lo + Int.toNat (0 : Int) <
  x_3.N ∧ ((x_3.b (x_3.lo + Int.toNat (0 : Int)) != q.v) = true → (q.Ok ∧ t.Ok ∧ n.Ok ∧ x.Ok) ∧ rngI q.v t.v n.v → False ∧ True ∧ ((0 : Nat) ≤ (0 : Nat) ∧ x.n = x.n ∧ ∀ (j : Nat), j < x.n → x.f j = x.f j) ∧ True) ∧ ((x_3.b
  (x_3.lo + Int.toNat (0 : Int)) != q.v) = false → ((0 : Int) ≤ (0 : Int) ∧ (0 : Int) < (↑x_3.len : Int)) ∧ x_3.lo + Int.toNat (0 : Int) < x_3.N ∧ (decide (x_3.a (x_3.lo + Int.toNat (0 : Int)) > v) = true → (q.Ok ∧ t.Ok ∧
  n.Ok ∧ x.Ok) ∧ rngI q.v t.v n.v → False ∧ True ∧ ((0 : Nat) ≤ (0 : Nat) ∧ x.n = x.n ∧ ∀ (j : Nat), j < x.n → x.f j = x.f j) ∧ True) ∧ (decide (x_3.a (x_3.lo + Int.toNat (0 : Int)) > v) = false → ∀ (v_2 : Int), v_2 =
  IntKind.i64.wrap ((↑y.i : Int) + (1 : Int)) → ∃ (y_1 : RI), (RI.Ok n.v x y_1 ∧ y_1.y.Ok ∧ ∃ (a : Int), ((0 : Int) ≤ a ∧ a ≤ y_1.m) ∧ y_1.y.L = [(a, q.v)]) ∧ ((q.v = q.v ∧ t.v = t.v ∧ v = y_1.m ∧ ((x.nil = true → x.nil =
  true) ∧ (x.nil = false → x.nil = false ∧ True ∧ True ∧ x.lo = x.lo ∧ x.len = x.len ∧ x.cap = x.cap)) ∧ (True ∧ True) ∧ v_2 = (↑y_1.i : Int) ∧ True) ∧ ((0 : Nat) ≤ (0 : Nat) ∧ x.n = x.n ∧ ∀ (j : Nat), j < x.n → x.f j =
  x.f j) ∧ ((5 : Nat) ≤ (5 : Nat) ∧ (q.v = q.v ∧ t.v = t.v ∧ n.v = n.v ∧ True) ∧ (1 : Int) = (1 : Int) ∧ (True ∧ True) ∧ True) ∧ ((4 : Nat) ≤ (4 : Nat) ∧ (q.v = q.v ∧ t.v = t.v ∧ n.v = n.v ∧ True) ∧ (True ∧ True ∧ x_2.lo =
  y_1.y.lo ∧ x_2.len = y_1.y.len ∧ x_2.cap = y_1.y.cap) ∧ True) ∧ ((y_1.y.lo + y_1.y.cap) * (2 : Nat) ≤ (x_2.lo + x_2.cap) * (2 : Nat) ∧ y_1.y.N = x_2.N ∧ ∀ (j : Nat), j < x_2.N → x_2.a j = y_1.y.a j ∧ x_2.b j = y_1.y.b j
  ∧ True) ∧ True) ∧ (rsF q.v t.v n.v x).μ y_1 < (rsF q.v t.v n.v x).μ y)))))) ∧ ((bits BinOp.and IntKind.i64 (↑y.i : Int) (1 : Int) == (1 : Int)) = false → (((True ∧ True) ∧ v = v ∧ True) ∧ ((5 : Nat) ≤ (5 : Nat) ∧ (q.v =
  q.v ∧ t.v = t.v ∧ n.v = n.v ∧ True) ∧ (1 : Int) = (1 : Int) ∧ (True ∧ True) ∧ True) ∧ ((4 : Nat) ≤ (4 : Nat) ∧ (q.v = q.v ∧ t.v = t.v ∧ n.v = n.v ∧ True) ∧ (True ∧ True ∧ y.y.lo = y.y.lo ∧ y.y.len = y.y.len ∧ y.y.cap =
  y.y.cap) ∧ True) ∧ ((y.y.lo + y.y.cap) * (2 : Nat) ≤ (y.y.lo + y.y.cap) * (2 : Nat) ∧ y.y.N = y.y.N ∧ ∀ (j : Nat), j < y.y.N → y.y.a j = y.y.a j ∧ y.y.b j = y.y.b j ∧ True) ∧ True) ∧ (SS.mk q.v t.v n.v (CR.mk y.y.lo
  y.y.len y.y.cap y.y.N (fun (j : Nat) => y.y.a j) fun (j : Nat) => y.y.b j)).Ok ∧ ∀ (v_1 : Int), (v_1 = if (0 : Int) < usL (atI n.v v) y.y.L then (0 : Int) else fstD y.y.L[(0 : Nat)]?) → (((True ∧ True) ∧ v = v ∧ True) ∧
  ((5 : Nat) ≤ (5 : Nat) ∧ (q.v = q.v ∧ t.v = t.v ∧ n.v = n.v ∧ True) ∧ (1 : Int) = (1 : Int) ∧ (True ∧ True) ∧ True) ∧ ((4 : Nat) ≤ (4 : Nat) ∧ (q.v = q.v ∧ t.v = t.v ∧ n.v = n.v ∧ True) ∧ (True ∧ True ∧ y.y.lo = y.y.lo ∧
  y.y.len = y.y.len ∧ y.y.cap = y.y.cap) ∧ True) ∧ ((y.y.lo + y.y.cap) * (2 : Nat) ≤ (y.y.lo + y.y.cap) * (2 : Nat) ∧ y.y.N = y.y.N ∧ ∀ (j : Nat), j < y.y.N → y.y.a j = y.y.a j ∧ y.y.b j = y.y.b j ∧ True) ∧ True) ∧ (SS.mk
  q.v t.v n.v (CR.mk y.y.lo y.y.len y.y.cap y.y.N (fun (j : Nat) => y.y.a j) fun (j : Nat) => y.y.b j)).Ok ∧ ∀ (x_2 : CR), (x_2.Ok ∧ x_2.lo = (0 : Nat) ∧ x_2.len = y.y.len ∧ x_2.N = y.y.len) ∧ x_2.L = y.y.L → (((True ∧
  True) ∧ v = v ∧ True) ∧ ((5 : Nat) ≤ (5 : Nat) ∧ (q.v = q.v ∧ t.v = t.v ∧ n.v = n.v ∧ True) ∧ (1 : Int) = (1 : Int) ∧ (True ∧ True) ∧ True) ∧ ((4 : Nat) ≤ (4 : Nat) ∧ (q.v = q.v ∧ t.v = t.v ∧ n.v = n.v ∧ True) ∧ (True ∧
  True ∧ y.y.lo = y.y.lo ∧ y.y.len = y.y.len ∧ y.y.cap = y.y.cap) ∧ True) ∧ ((y.y.lo + y.y.cap) * (2 : Nat) ≤ (y.y.lo + y.y.cap) * (2 : Nat) ∧ y.y.N = y.y.N ∧ ∀ (j : Nat), j < y.y.N → y.y.a j = y.y.a j ∧ y.y.b j = y.y.b j
  ∧ True) ∧ True) ∧ (SS.mk q.v t.v n.v (CR.mk y.y.lo y.y.len y.y.cap y.y.N (fun (j : Nat) => y.y.a j) fun (j : Nat) => y.y.b j)).Ok ∧ ((usL (atI n.v v) (CR.mk y.y.lo y.y.len y.y.cap y.y.N (fun (j : Nat) => y.y.a j) fun (j
  : Nat) => y.y.b j).L != q.v) = true → (q.Ok ∧ t.Ok ∧ n.Ok ∧ x.Ok) ∧ rngI q.v t.v n.v → False ∧ True ∧ ((0 : Nat) ≤ (0 : Nat) ∧ x.n = x.n ∧ ∀ (j : Nat), j < x.n → x.f j = x.f j) ∧ True) ∧ ((usL (atI n.v v) (CR.mk y.y.lo
  y.y.len y.y.cap y.y.N (fun (j : Nat) => y.y.a j) fun (j : Nat) => y.y.b j).L != q.v) = false → ((!decide ((0 : Int) < usL (atI n.v v) y.y.L)) = true → (q.Ok ∧ t.Ok ∧ n.Ok ∧ x.Ok) ∧ rngI q.v t.v n.v → False ∧ True ∧ ((0 :
  Nat) ≤ (0 : Nat) ∧ x.n = x.n ∧ ∀ (j : Nat), j < x.n → x.f j = x.f j) ∧ True) ∧ ((!decide ((0 : Int) < usL (atI n.v v) y.y.L)) = false → (((↑x_2.len : Int) != (1 : Int)) = true → (q.Ok ∧ t.Ok ∧ n.Ok ∧ x.Ok) ∧ rngI q.v t.v
  n.v → False ∧ True ∧ ((0 : Nat) ≤ (0 : Nat) ∧ x.n = x.n ∧ ∀ (j : Nat), j < x.n → x.f j = x.f j) ∧ True) ∧ (((↑x_2.len : Int) != (1 : Int)) = false → ((0 : Int) ≤ (0 : Int) ∧ (0 : Int) < (↑x_2.len : Int)) ∧ x_2.lo +
  Int.toNat (0 : Int) < x_2.N ∧ ((x_2.b (x_2.lo + Int.toNat (0 : Int)) != q.v) = true → (q.Ok ∧ t.Ok ∧ n.Ok ∧ x.Ok) ∧ rngI q.v t.v n.v → False ∧ True ∧ ((0 : Nat) ≤ (0 : Nat) ∧ x.n = x.n ∧ ∀ (j : Nat), j < x.n → x.f j =
  x.f j) ∧ True) ∧ ((x_2.b (x_2.lo + Int.toNat (0 : Int)) != q.v) = false → ((0 : Int) ≤ (0 : Int) ∧ (0 : Int) < (↑x_2.len : Int)) ∧ x_2.lo + Int.toNat (0 : Int) < x_2.N ∧ (decide (x_2.a (x_2.lo + Int.toNat (0 : Int)) > v)
  = true → (q.Ok ∧ t.Ok ∧ n.Ok ∧ x.Ok) ∧ rngI q.v t.v n.v → False ∧ True ∧ ((0 : Nat) ≤ (0 : Nat) ∧ x.n = x.n ∧ ∀ (j : Nat), j < x.n → x.f j = x.f j) ∧ True) ∧ (decide (x_2.a (x_2.lo + Int.toNat (0 : Int)) > v) = false → ∀
  (v_2 : Int), v_2 = IntKind.i64.wrap ((↑y.i : Int) + (1 : Int)) → ∃ (y_1 : RI), (RI.Ok n.v x y_1 ∧ y_1.y.Ok ∧ ∃ (a : Int), ((0 : Int) ≤ a ∧ a ≤ y_1.m) ∧ y_1.y.L = [(a, q.v)]) ∧ ((q.v = q.v ∧ t.v = t.v ∧ v = y_1.m ∧
  ((x.nil = true → x.nil = true) ∧ (x.nil = false → x.nil = false ∧ True ∧ True ∧ x.lo = x.lo ∧ x.len = x.len ∧ x.cap = x.cap)) ∧ (True ∧ True) ∧ v_2 = (↑y_1.i : Int) ∧ True) ∧ ((0 : Nat) ≤ (0 : Nat) ∧ x.n = x.n ∧ ∀ (j :
  Nat), j < x.n → x.f j = x.f j) ∧ ((5 : Nat) ≤ (5 : Nat) ∧ (q.v = q.v ∧ t.v = t.v ∧ n.v = n.v ∧ True) ∧ (1 : Int) = (1 : Int) ∧ (True ∧ True) ∧ True) ∧ ((4 : Nat) ≤ (4 : Nat) ∧ (q.v = q.v ∧ t.v = t.v ∧ n.v = n.v ∧ True) ∧
  (True ∧ True ∧ y.y.lo = y_1.y.lo ∧ y.y.len = y_1.y.len ∧ y.y.cap = y_1.y.cap) ∧ True) ∧ ((y_1.y.lo + y_1.y.cap) * (2 : Nat) ≤ (y.y.lo + y.y.cap) * (2 : Nat) ∧ y_1.y.N = y.y.N ∧ ∀ (j : Nat), j < y.y.N → y.y.a j = y_1.y.a
  j ∧ y.y.b j = y_1.y.b j ∧ True) ∧ True) ∧ (rsF q.v t.v n.v x).μ y_1 < (rsF q.v t.v n.v x).μ y)))))))) ∧ (decide ((↑y.i : Int) < (↑x.len : Int)) = false → (((True ∧ True) ∧ y.m = y.m ∧ (0 : Int) = (0 : Int) ∧ True) ∧ ((5
  : Nat) ≤ (5 : Nat) ∧ (q.v = q.v ∧ t.v = t.v ∧ n.v = n.v ∧ True) ∧ (1 : Int) = (1 : Int) ∧ (True ∧ True) ∧ True) ∧ ((4 : Nat) ≤ (4 : Nat) ∧ (q.v = q.v ∧ t.v = t.v ∧ n.v = n.v ∧ True) ∧ (True ∧ True ∧ y.y.lo = y.y.lo ∧
  y.y.len = y.y.len ∧ y.y.cap = y.y.cap) ∧ True) ∧ ((y.y.lo + y.y.cap) * (2 : Nat) ≤ (y.y.lo + y.y.cap) * (2 : Nat) ∧ y.y.N = y.y.N ∧ ∀ (j : Nat), j < y.y.N → y.y.a j = y.y.a j ∧ y.y.b j = y.y.b j ∧ True) ∧ True) ∧ ((SS.mk
  q.v t.v n.v (CR.mk y.y.lo y.y.len y.y.cap y.y.N (fun (j : Nat) => y.y.a j) fun (j : Nat) => y.y.b j)).Ok ∧ (0 : Int) ≤ (0 : Int)) ∧ ∀ (x_2 : CR), x_2.Ok ∧ x_2.L = chargeL q.v t.v (atI n.v y.m) (0 : Int) y.y.L → ((cI q.v
  (0 : Int) == (0 : Int)) = true → (((True ∧ True) ∧ y.m = y.m ∧ True) ∧ ((5 : Nat) ≤ (5 : Nat) ∧ (q.v = q.v ∧ t.v = t.v ∧ n.v = n.v ∧ True) ∧ (1 : Int) = (1 : Int) ∧ (True ∧ True) ∧ True) ∧ ((4 : Nat) ≤ (4 : Nat) ∧ (q.v =
  q.v ∧ t.v = t.v ∧ n.v = n.v ∧ True) ∧ (True ∧ True ∧ x_2.lo = x_2.lo ∧ x_2.len = x_2.len ∧ x_2.cap = x_2.cap) ∧ True) ∧ ((x_2.lo + x_2.cap) * (2 : Nat) ≤ (x_2.lo + x_2.cap) * (2 : Nat) ∧ x_2.N = x_2.N ∧ ∀ (j : Nat), j <
  x_2.N → x_2.a j = x_2.a j ∧ x_2.b j = x_2.b j ∧ True) ∧ True) ∧ (SS.mk q.v t.v n.v (CR.mk x_2.lo x_2.len x_2.cap x_2.N (fun (j : Nat) => x_2.a j) fun (j : Nat) => x_2.b j)).Ok ∧ ((q.Ok ∧ t.Ok ∧ n.Ok ∧ x.Ok) ∧ rngI q.v
  t.v n.v → (usL (atI n.v y.m) x_2.L == q.v) = true ∧ True ∧ ((0 : Nat) ≤ (0 : Nat) ∧ x.n = x.n ∧ ∀ (j : Nat), j < x.n → x.f j = x.f j) ∧ True)) ∧ ((cI q.v (0 : Int) == (0 : Int)) = false → (q.Ok ∧ t.Ok ∧ n.Ok ∧ x.Ok) ∧
  rngI q.v t.v n.v → False ∧ True ∧ ((0 : Nat) ≤ (0 : Nat) ∧ x.n = x.n ∧ ∀ (j : Nat), j < x.n → x.f j = x.f j) ∧ True))))) := by
  simp only [true_and, and_true, eq_self, Nat.le_refl, decide_eq_true_eq, decide_eq_false_iff_not, beq_iff_eq, beq_eq_false_iff_ne, implies_true, and_self, bne_iff_ne, Int.not_lt, gt_iff_lt, ne_eq, Int.toNat_natCast, IntKind.wrap_u64, IntKind.wrap_i64, bne_eq_false_iff_eq, Bool.not_eq_true', Bool.not_eq_false']
  rintro q t n x ⟨⟨hq, ht, hn, hx⟩, hr⟩
  have hr0 := hr
  obtain ⟨a1, a2, a3, a4⟩ := hr0
  have hx1 := hx.1
  have hx2 := hx.2.1
  have hn1 := hn.1
  have hM : ∀ z : RI, (rsF q.v t.v n.v x).μ z = x.len - z.i := fun _ => rfl
  simp only [hM]
  have z0 : Int.toNat (0 : Int) = 0 := rfl
  simp only [z0, Nat.add_zero]
  have mk : ∀ y : CR, y.Ok → QL q.v y.L → (⟨q.v, t.v, n.v, y⟩ : SS).Ok := fun y h1 h2 => SS.ok_of h1 h2 a1 a2 a3 hn.1 a4
  refine ⟨hr, fun x1 h1 v hv _ => ⟨hx1, fun h60 hn2 v hv => ⟨⟨⟨0, n.v, x1⟩, ⟨⟨Nat.zero_le _, by omega, hn1, hn2, Int.le_refl _, by dsimp only; omega⟩, h1.1, n.v, ⟨hn1, Int.le_refl _⟩, h1.2⟩, ⟨rfl, ⟨id, id⟩, hv⟩, ⟨rfl, rfl, rfl⟩, Nat.le_refl _, rfl, fun j _ => ⟨rfl, rfl⟩⟩, fun y hy => ?_⟩⟩⟩
  obtain ⟨hA, hyo, a, ha, hyL⟩ := hy
  obtain ⟨b1, b2, b3, b4, b5, b6⟩ := hA
  refine ⟨hx1, fun hlt => ⟨hx1, by omega, by omega, fun hf => ⟨hx1, by omega, by omega, fun v hv => ⟨fun hb => ?_, fun hb => ?_⟩⟩⟩, fun hge => ?_⟩
  · have hf0 := (hx.2.2 y.i (by omega)).1
    have hv : v = y.m + x.f (x.lo + y.i) := by omega
    have hat : atI n.v v = v := atI_id (by omega) (by omega)
    rw [hat]
    refine ⟨mk _ hyo (by rw [hyL]; exact QL.new a1 ha.1 (by omega)), fun z hz => ?_⟩
    have hzo := hz.1
    have hzL : z.L = [(v, q.v)] := by
      rw [hz.2, hyL]
      unfold wakeL
      have e : wakeN v [(a, q.v)] = 1 := by simp only [wakeN]; rw [if_pos (by omega)]
      rw [e, if_neg (by decide)]
      show [(v, q.v + 0)] = [(v, q.v)]
      rw [Int.add_zero]
    have u : usL v z.L = q.v := by
      rw [hzL]
      show (if v < v then 0 else q.v) = q.v
      rw [if_neg (by omega)]
    have oz := mk z hzo (by rw [hzL]; exact QL.new a1 (by omega) (by omega))
    refine ⟨oz, fun v1 hv1 => ⟨oz, fun w hw => ⟨oz, fun h _ => h u, fun _ => ⟨fun h _ => by omega, fun _ => ?_⟩⟩⟩⟩
    obtain ⟨⟨w1, w2, w3, w4⟩, w5⟩ := hw
    have wl : w.len = 1 := by rw [w3, ← CR.L_len, hzL]; rfl
    have wg := w.L_get 0
    rw [w5, hzL, if_pos (by omega)] at wg
    simp only [List.getElem?_cons_zero, Option.some.injEq, Prod.mk.injEq] at wg
    have w6 := w1.1
    simp only [Nat.add_zero] at wg
    exact ⟨fun h _ => h (by omega), fun _ => ⟨by omega, by omega, fun h _ => h wg.2.symm, fun _ => ⟨by omega, by omega, fun h _ => by omega, fun _ v2 hv2 => ⟨⟨y.i + 1, v, z⟩, ⟨⟨by dsimp only; omega, b2, b3, b4, by dsimp only; omega, by dsimp only; omega⟩, hzo, v, by dsimp only; omega, hzL⟩, ⟨⟨rfl, ⟨id, id⟩, by dsimp only; omega⟩, ⟨rfl, rfl, rfl⟩, Nat.le_refl _, rfl, fun j _ => ⟨rfl, rfl⟩⟩, by dsimp only; omega⟩⟩⟩⟩
  · have hf0 := (hx.2.2 y.i (by omega)).1
    have hv : v = y.m + x.f (x.lo + y.i) := by omega
    have hat : atI n.v v = v := atI_id (by omega) (by omega)
    rw [hat]
    have hzo := hyo
    have hzL := hyL
    have u : usL v y.y.L = q.v := by
      rw [hzL]
      show (if v < a then 0 else q.v) = q.v
      rw [if_neg (by omega)]
    have oz := mk y.y hzo (by rw [hzL]; exact QL.new a1 (by omega) (by omega))
    refine ⟨oz, fun v1 hv1 => ⟨oz, fun w hw => ⟨oz, fun h _ => h u, fun _ => ⟨fun h _ => by omega, fun _ => ?_⟩⟩⟩⟩
    obtain ⟨⟨w1, w2, w3, w4⟩, w5⟩ := hw
    have wl : w.len = 1 := by rw [w3, ← CR.L_len, hzL]; rfl
    have wg := w.L_get 0
    rw [w5, hzL, if_pos (by omega)] at wg
    simp only [List.getElem?_cons_zero, Option.some.injEq, Prod.mk.injEq] at wg
    have w6 := w1.1
    simp only [Nat.add_zero] at wg
    exact ⟨fun h _ => h (by omega), fun _ => ⟨by omega, by omega, fun h _ => h wg.2.symm, fun _ => ⟨by omega, by omega, fun h _ => by omega, fun _ v2 hv2 => ⟨⟨y.i + 1, v, y.y⟩, ⟨⟨by dsimp only; omega, b2, b3, b4, by dsimp only; omega, by dsimp only; omega⟩, hzo, a, by dsimp only; omega, hzL⟩, ⟨⟨rfl, ⟨id, id⟩, by dsimp only; omega⟩, ⟨rfl, rfl, rfl⟩, Nat.le_refl _, rfl, fun j _ => ⟨rfl, rfl⟩⟩, by dsimp only; omega⟩⟩⟩⟩
  · have hat : atI n.v y.m = y.m := atI_id (by omega) (by omega)
    rw [hat]
    have q1 : QL q.v y.y.L := by rw [hyL]; exact QL.new a1 ha.1 (by omega)
    refine ⟨⟨mk _ hyo q1, Int.le_refl _⟩, fun z hz => ?_⟩
    have c0 : cI q.v 0 = 0 := by unfold cI; rw [if_neg (by omega)]
    have hzL : z.L = L1 t.v y.m [(a, q.v)] := by rw [hz.2, charge_def, c0, take0, hyL]; rfl
    have q2 : QL q.v z.L := by rw [hz.2]; exact q1.charge a1 (by omega) (Int.le_refl _) (by omega) (by omega)
    refine ⟨fun _ => ⟨mk _ hz.1 q2, fun _ => ?_⟩, fun h _ => h c0⟩
    rw [hzL]
    unfold L1
    split
    · unfold wakeL
      have e : wakeN y.m [(a, q.v)] = 1 := by simp only [wakeN]; rw [if_pos (by omega)]
      rw [e, if_neg (by decide)]
      show (if y.m < y.m then 0 else q.v + 0) = q.v
      rw [if_neg (by omega)]; omega
    · show (if y.m < a then 0 else q.v) = q.v
      rw [if_neg (by omega)]

def rs_C (x : (A64 × A64 × A64 × US)) : Cfg := { Γ := Go.Sx.look tRs, names := true, loops := onlyAt 7 [rsF (x.1).v (x.2.1).v (x.2.2.1).v (x.2.2.2)] }
theorem rs_al (x : (A64 × A64 × A64 × US)) : Shown (rsP.vc Try.prog (rs_C x) Try.f7 x) := ⟨@Eq.mp _ _ (by kernel_rfl) (rs_vc (x.1) (x.2.1) (x.2.2.1) (x.2.2.2))⟩
theorem rs_ok : SpOk Try.prog 7 rsP.sp := @Pat.okS _ rsP Try.prog rs_C 7 Try.f7 (fun x => cfg_tab rfl tRs_ok) (by kernel_rfl) Try.func7 (fun _ => rfl) rs_al
def tRd : Tab := [(8, aliveP.sp), (9, n2P.sp), (11, sdwP.sp), (12, sduP.sp), (13, sdcP.sp), (15, sdlP.sp), (17, sdnP.sp), (14, sdkP.sp)]
theorem tRd_ok : TabOk Try.prog tRd := (tab_cons alive_ok (tab_cons n2_ok (tab_cons sdw_ok (tab_cons sdu_ok (tab_cons sdc_ok (tab_cons sdl_ok (tab_cons sdn_ok (tab_cons sdk_ok tab_nil))))))))

theorem rd_vc : ∀ (q t n : A64) (x : US), ((q.Ok ∧ t.Ok ∧ n.Ok ∧ x.Ok) ∧ rngI q.v t.v n.v) ∧ True → (True ∧ True) ∧ (((2 : Int) = (2 : Int) ∧ q.v = q.v ∧ t.v = t.v ∧ n.v = n.v ∧ True) ∧ True) ∧ rngI q.v t.v n.v ∧ ∀ (v : Int), v = (0 :
  Int) → ((v != (0 : Int)) = true → (q.Ok ∧ t.Ok ∧ n.Ok ∧ x.Ok) ∧ rngI q.v t.v n.v → True ∧ True ∧ ((0 : Nat) ≤ (0 : Nat) ∧ x.n = x.n ∧ ∀ (j : Nat), j < x.n → x.f j = x.f j) ∧ True) ∧ ((v != (0 : Int)) = false → (x.nil =
  true → x.len = (0 : Nat)) ∧ (decide ((↑x.len : Int) > (60 : Int)) = true → (q.Ok ∧ t.Ok ∧ n.Ok ∧ x.Ok) ∧ rngI q.v t.v n.v → True ∧ True ∧ ((0 : Nat) ≤ (0 : Nat) ∧ x.n = x.n ∧ ∀ (j : Nat), j < x.n → x.f j = x.f j) ∧ True)
  ∧ (decide ((↑x.len : Int) > (60 : Int)) = false → (decide (n.v > (1152921504606846976 : Int)) = true → (q.Ok ∧ t.Ok ∧ n.Ok ∧ x.Ok) ∧ rngI q.v t.v n.v → True ∧ True ∧ ((0 : Nat) ≤ (0 : Nat) ∧ x.n = x.n ∧ ∀ (j : Nat), j <
  x.n → x.f j = x.f j) ∧ True) ∧ (decide (n.v > (1152921504606846976 : Int)) = false → ∀ (v : Int), v = (0 : Int) → (∃ (y : RI), (rdF q.v t.v n.v x).I y ∧ ((q.v = q.v ∧ t.v = t.v ∧ n.v = y.m ∧ ((x.nil = true → x.nil =
  true) ∧ (x.nil = false → x.nil = false ∧ True ∧ True ∧ x.lo = x.lo ∧ x.len = x.len ∧ x.cap = x.cap)) ∧ (True ∧ True) ∧ v = (↑y.i : Int) ∧ True) ∧ ((0 : Nat) ≤ (0 : Nat) ∧ x.n = x.n ∧ ∀ (j : Nat), j < x.n → x.f j = x.f j)
  ∧ ((5 : Nat) ≤ (5 : Nat) ∧ (q.v = q.v ∧ t.v = t.v ∧ n.v = n.v ∧ True) ∧ (2 : Int) = (2 : Int) ∧ (True ∧ True) ∧ True) ∧ ((5 : Nat) ≤ (5 : Nat) ∧ (q.v = q.v ∧ t.v = t.v ∧ n.v = n.v ∧ True) ∧ (0 : Int) = (0 : Int) ∧ (0 :
  Int) = (0 : Int) ∧ True) ∧ True) ∧ True) ∧ ∀ (y : RI), (rdF q.v t.v n.v x).I y → (x.nil = true → x.len = (0 : Nat)) ∧ (decide ((↑y.i : Int) < (↑x.len : Int)) = true → (x.nil = true → x.len = (0 : Nat)) ∧ ((0 : Int) ≤
  (↑y.i : Int) ∧ (↑y.i : Int) < (↑x.len : Int)) ∧ x.lo + (↑y.i : Int).toNat < x.n ∧ (decide (x.f (x.lo + (↑y.i : Int).toNat) > (1099511627776 : Int)) = true → (q.Ok ∧ t.Ok ∧ n.Ok ∧ x.Ok) ∧ rngI q.v t.v n.v → True ∧ True ∧
  ((0 : Nat) ≤ (0 : Nat) ∧ x.n = x.n ∧ ∀ (j : Nat), j < x.n → x.f j = x.f j) ∧ True) ∧ (decide (x.f (x.lo + (↑y.i : Int).toNat) > (1099511627776 : Int)) = false → (x.nil = true → x.len = (0 : Nat)) ∧ ((0 : Int) ≤ (↑y.i :
  Int) ∧ (↑y.i : Int) < (↑x.len : Int)) ∧ x.lo + (↑y.i : Int).toNat < x.n ∧ ∀ (v : Int), v = IntKind.u64.wrap (y.m + x.f (x.lo + (↑y.i : Int).toNat)) → ((bits BinOp.and IntKind.i64 (↑y.i : Int) (1 : Int) == (1 : Int)) =
  true → (((True ∧ True) ∧ v = v ∧ True) ∧ ((5 : Nat) ≤ (5 : Nat) ∧ (q.v = q.v ∧ t.v = t.v ∧ n.v = n.v ∧ True) ∧ (2 : Int) = (2 : Int) ∧ (True ∧ True) ∧ True) ∧ ((5 : Nat) ≤ (5 : Nat) ∧ (q.v = q.v ∧ t.v = t.v ∧ n.v = n.v ∧
  True) ∧ (0 : Int) = (0 : Int) ∧ (0 : Int) = (0 : Int) ∧ True) ∧ True) ∧ (((True ∧ True) ∧ v = v ∧ True) ∧ ((5 : Nat) ≤ (5 : Nat) ∧ (q.v = q.v ∧ t.v = t.v ∧ n.v = n.v ∧ True) ∧ (2 : Int) = (2 : Int) ∧ (True ∧ True) ∧
  True) ∧ ((5 : Nat) ≤ (5 : Nat) ∧ (q.v = q.v ∧ t.v = t.v ∧ n.v = n.v ∧ True) ∧ (0 : Int) = (0 : Int) ∧ (0 : Int) = (0 : Int) ∧ True) ∧ True) ∧ (DS.mk q.v t.v n.v (0 : Int) (0 : Int)).Ok ∧ ∀ (v_1 : Int), (v_1 = if (0 :
  Int) < (DS.mk q.v t.v n.v (0 : Int) (0 : Int)).us (atI n.v v) then (0 : Int) else (DS.mk q.v t.v n.v (0 : Int) (0 : Int)).due (atI n.v v)) → (((True ∧ True) ∧ v = v ∧ True) ∧ ((5 : Nat) ≤ (5 : Nat) ∧ (q.v = q.v ∧ t.v =
  t.v ∧ n.v = n.v ∧ True) ∧ (2 : Int) = (2 : Int) ∧ (True ∧ True) ∧ True) ∧ ((5 : Nat) ≤ (5 : Nat) ∧ (q.v = q.v ∧ t.v = t.v ∧ n.v = n.v ∧ True) ∧ (0 : Int) = (0 : Int) ∧ (0 : Int) = (0 : Int) ∧ True) ∧ True) ∧ (DS.mk q.v
  t.v n.v (0 : Int) (0 : Int)).Ok ∧ ((DS.mk q.v t.v n.v (0 : Int) (0 : Int)).gon (atI n.v v) = q.v → (((True ∧ True) ∧ v = v ∧ True) ∧ ((5 : Nat) ≤ (5 : Nat) ∧ (q.v = q.v ∧ t.v = t.v ∧ n.v = n.v ∧ True) ∧ (2 : Int) = (2 :
  Int) ∧ (True ∧ True) ∧ True) ∧ ((5 : Nat) ≤ (5 : Nat) ∧ (q.v = q.v ∧ t.v = t.v ∧ n.v = n.v ∧ True) ∧ (0 : Int) = (0 : Int) ∧ (0 : Int) = (0 : Int) ∧ True) ∧ True) ∧ (DS.mk q.v t.v n.v (0 : Int) (0 : Int)).Ok ∧ (((DS.mk
  q.v t.v n.v (0 : Int) (0 : Int)).us (atI n.v v) != q.v) = true → (q.Ok ∧ t.Ok ∧ n.Ok ∧ x.Ok) ∧ rngI q.v t.v n.v → False ∧ True ∧ ((0 : Nat) ≤ (0 : Nat) ∧ x.n = x.n ∧ ∀ (j : Nat), j < x.n → x.f j = x.f j) ∧ True) ∧
  (((DS.mk q.v t.v n.v (0 : Int) (0 : Int)).us (atI n.v v) != q.v) = false → ((!decide ((0 : Int) < (DS.mk q.v t.v n.v (0 : Int) (0 : Int)).us (atI n.v v))) = true → (q.Ok ∧ t.Ok ∧ n.Ok ∧ x.Ok) ∧ rngI q.v t.v n.v → False ∧
  True ∧ ((0 : Nat) ≤ (0 : Nat) ∧ x.n = x.n ∧ ∀ (j : Nat), j < x.n → x.f j = x.f j) ∧ True) ∧ ((!decide ((0 : Int) < (DS.mk q.v t.v n.v (0 : Int) (0 : Int)).us (atI n.v v))) = false → (((0 : Int) != (1 : Int)) = true →
  (q.Ok ∧ t.Ok ∧ n.Ok ∧ x.Ok) ∧ rngI q.v t.v n.v → False ∧ True ∧ ((0 : Nat) ≤ (0 : Nat) ∧ x.n = x.n ∧ ∀ (j : Nat), j < x.n → x.f j = x.f j) ∧ True) ∧ (((0 : Int) != (1 : Int)) = false → False)))) ∧ (¬(DS.mk q.v t.v n.v (0
  : Int) (0 : Int)).gon (atI n.v v) = q.v → (((True ∧ True) ∧ v = v ∧ True) ∧ ((5 : Nat) ≤ (5 : Nat) ∧ (q.v = q.v ∧ t.v = t.v ∧ n.v = n.v ∧ True) ∧ (2 : Int) = (2 : Int) ∧ (True ∧ True) ∧ True) ∧ ((5 : Nat) ≤ (5 : Nat) ∧
  (q.v = q.v ∧ t.v = t.v ∧ n.v = n.v ∧ True) ∧ (0 : Int) = (0 : Int) ∧ (0 : Int) = (0 : Int) ∧ True) ∧ True) ∧ (DS.mk q.v t.v n.v (0 : Int) (0 : Int)).Ok ∧ (((DS.mk q.v t.v n.v (0 : Int) (0 : Int)).us (atI n.v v) != q.v) =
  true → (q.Ok ∧ t.Ok ∧ n.Ok ∧ x.Ok) ∧ rngI q.v t.v n.v → False ∧ True ∧ ((0 : Nat) ≤ (0 : Nat) ∧ x.n = x.n ∧ ∀ (j : Nat), j < x.n → x.f j = x.f j) ∧ True) ∧ (((DS.mk q.v t.v n.v (0 : Int) (0 : Int)).us (atI n.v v) != q.v)
  = false → ((!decide ((0 : Int) < (DS.mk q.v t.v n.v (0 : Int) (0 : Int)).us (atI n.v v))) = true → (q.Ok ∧ t.Ok ∧ n.Ok ∧ x.Ok) ∧ rngI q.v t.v n.v → False ∧ True ∧ ((0 : Nat) ≤ (0 : Nat) ∧ x.n = x.n ∧ ∀ (j : Nat), j < x.n
  → x.f j = x.f j) ∧ True) ∧ ((!decide ((0 : Int) < (DS.mk q.v t.v n.v (0 : Int) (0 : Int)).us (atI n.v v))) = false → (((↑(1 : Nat) : Int) != (1 : Int)) = true → (q.Ok ∧ t.Ok ∧ n.Ok ∧ x.Ok) ∧ rngI q.v t.v n.v → False ∧
  True ∧ ((0 : Nat) ≤ (0 : Nat) ∧ x.n = x.n ∧ ∀ (j : Nat), j < x.n → x.f j = x.f j) ∧ True) ∧ (((↑(1 : Nat) : Int) != (1 : Int)) = false → ((0 : Int) ≤ (0 : Int) ∧ (0 : Int) < (↑(1 : Nat) : Int)) ∧ (0 : Nat) < (1 : Nat) ∧
  ((q.v - (DS.mk q.v t.v n.v (0 : Int) (0 : Int)).gon (atI n.v v) != q.v) = true → (q.Ok ∧ t.Ok ∧ n.Ok ∧ x.Ok) ∧ rngI q.v t.v n.v → False ∧ True ∧ ((0 : Nat) ≤ (0 : Nat) ∧ x.n = x.n ∧ ∀ (j : Nat), j < x.n → x.f j = x.f j)
  ∧ True) ∧ ((q.v - (DS.mk q.v t.v n.v (0 : Int) (0 : Int)).gon (atI n.v v) != q.v) = false → ((0 : Int) ≤ (0 : Int) ∧ (0 : Int) < (↑(1 : Nat) : Int)) ∧ (0 : Nat) < (1 : Nat) ∧ (decide (n.v + (DS.mk q.v t.v n.v (0 : Int)
  (0 : Int)).per (atI n.v v) * t.v > v) = true → (q.Ok ∧ t.Ok ∧ n.Ok ∧ x.Ok) ∧ rngI q.v t.v n.v → False ∧ True ∧ ((0 : Nat) ≤ (0 : Nat) ∧ x.n = x.n ∧ ∀ (j : Nat), j < x.n → x.f j = x.f j) ∧ True) ∧ (decide (n.v + (DS.mk
  q.v t.v n.v (0 : Int) (0 : Int)).per (atI n.v v) * t.v > v) = false → ∀ (v_2 : Int), v_2 = IntKind.i64.wrap ((↑y.i : Int) + (1 : Int)) → ∃ (y_1 : RI), (rdF q.v t.v n.v x).I y_1 ∧ ((q.v = q.v ∧ t.v = t.v ∧ v = y_1.m ∧
  ((x.nil = true → x.nil = true) ∧ (x.nil = false → x.nil = false ∧ True ∧ True ∧ x.lo = x.lo ∧ x.len = x.len ∧ x.cap = x.cap)) ∧ (True ∧ True) ∧ v_2 = (↑y_1.i : Int) ∧ True) ∧ ((0 : Nat) ≤ (0 : Nat) ∧ x.n = x.n ∧ ∀ (j :
  Nat), j < x.n → x.f j = x.f j) ∧ ((5 : Nat) ≤ (5 : Nat) ∧ (q.v = q.v ∧ t.v = t.v ∧ n.v = n.v ∧ True) ∧ (2 : Int) = (2 : Int) ∧ (True ∧ True) ∧ True) ∧ ((5 : Nat) ≤ (5 : Nat) ∧ (q.v = q.v ∧ t.v = t.v ∧ n.v = n.v ∧ True) ∧
  (0 : Int) = (0 : Int) ∧ (0 : Int) = (0 : Int) ∧ True) ∧ True) ∧ (rdF q.v t.v n.v x).μ y_1 < (rdF q.v t.v n.v x).μ y))))))) ∧ ((bits BinOp.and IntKind.i64 (↑y.i : Int) (1 : Int) == (1 : Int)) = false → (((True ∧ True) ∧ v
  = v ∧ True) ∧ ((5 : Nat) ≤ (5 : Nat) ∧ (q.v = q.v ∧ t.v = t.v ∧ n.v = n.v ∧ True) ∧ (2 : Int) = (2 : Int) ∧ (True ∧ True) ∧ True) ∧ ((5 : Nat) ≤ (5 : Nat) ∧ (q.v = q.v ∧ t.v = t.v ∧ n.v = n.v ∧ True) ∧ (0 : Int) = (0 :
  Int) ∧ (0 : Int) = (0 : Int) ∧ True) ∧ True) ∧ (DS.mk q.v t.v n.v (0 : Int) (0 : Int)).Ok ∧ ∀ (v_1 : Int), (v_1 = if (0 : Int) < (DS.mk q.v t.v n.v (0 : Int) (0 : Int)).us (atI n.v v) then (0 : Int) else (DS.mk q.v t.v
  n.v (0 : Int) (0 : Int)).due (atI n.v v)) → (((True ∧ True) ∧ v = v ∧ True) ∧ ((5 : Nat) ≤ (5 : Nat) ∧ (q.v = q.v ∧ t.v = t.v ∧ n.v = n.v ∧ True) ∧ (2 : Int) = (2 : Int) ∧ (True ∧ True) ∧ True) ∧ ((5 : Nat) ≤ (5 : Nat) ∧
  (q.v = q.v ∧ t.v = t.v ∧ n.v = n.v ∧ True) ∧ (0 : Int) = (0 : Int) ∧ (0 : Int) = (0 : Int) ∧ True) ∧ True) ∧ (DS.mk q.v t.v n.v (0 : Int) (0 : Int)).Ok ∧ ((DS.mk q.v t.v n.v (0 : Int) (0 : Int)).gon (atI n.v v) = q.v →
  (((True ∧ True) ∧ v = v ∧ True) ∧ ((5 : Nat) ≤ (5 : Nat) ∧ (q.v = q.v ∧ t.v = t.v ∧ n.v = n.v ∧ True) ∧ (2 : Int) = (2 : Int) ∧ (True ∧ True) ∧ True) ∧ ((5 : Nat) ≤ (5 : Nat) ∧ (q.v = q.v ∧ t.v = t.v ∧ n.v = n.v ∧ True)
  ∧ (0 : Int) = (0 : Int) ∧ (0 : Int) = (0 : Int) ∧ True) ∧ True) ∧ (DS.mk q.v t.v n.v (0 : Int) (0 : Int)).Ok ∧ (((DS.mk q.v t.v n.v (0 : Int) (0 : Int)).us (atI n.v v) != q.v) = true → (q.Ok ∧ t.Ok ∧ n.Ok ∧ x.Ok) ∧ rngI
  q.v t.v n.v → False ∧ True ∧ ((0 : Nat) ≤ (0 : Nat) ∧ x.n = x.n ∧ ∀ (j : Nat), j < x.n → x.f j = x.f j) ∧ True) ∧ (((DS.mk q.v t.v n.v (0 : Int) (0 : Int)).us (atI n.v v) != q.v) = false → ((!decide ((0 : Int) < (DS.mk
  q.v t.v n.v (0 : Int) (0 : Int)).us (atI n.v v))) = true → (q.Ok ∧ t.Ok ∧ n.Ok ∧ x.Ok) ∧ rngI q.v t.v n.v → False ∧ True ∧ ((0 : Nat) ≤ (0 : Nat) ∧ x.n = x.n ∧ ∀ (j : Nat), j < x.n → x.f j = x.f j) ∧ True) ∧ ((!decide
  ((0 : Int) < (DS.mk q.v t.v n.v (0 : Int) (0 : Int)).us (atI n.v v))) = false → (((0 : Int) != (1 : Int)) = true → (q.Ok ∧ t.Ok ∧ n.Ok ∧ x.Ok) ∧ rngI q.v t.v n.v → False ∧ True ∧ ((0 : Nat) ≤ (0 : Nat) ∧ x.n = x.n ∧ ∀ (j
  : Nat), j < x.n → x.f j = x.f j) ∧ True) ∧ (((0 : Int) != (1 : Int)) = false → False)))) ∧ (¬(DS.mk q.v t.v n.v (0 : Int) (0 : Int)).gon (atI n.v v) = q.v → (((True ∧ True) ∧ v = v ∧ True) ∧ ((5 : Nat) ≤ (5 : Nat) ∧ (q.v
  = q.v ∧ t.v = t.v ∧ n.v = n.v ∧ True) ∧ (2 : Int) = (2 : Int) ∧ (True ∧ True) ∧ True) ∧ ((5 : Nat) ≤ (5 : Nat) ∧ (q.v = q.v ∧ t.v = t.v ∧ n.v = n.v ∧ True) ∧ (0 : Int) = (0 : Int) ∧ (0 : Int) = (0 : Int) ∧ True) ∧ True)
  ∧ (DS.mk q.v t.v n.v (0 : Int) (0 : Int)).Ok ∧ (((DS.mk q.v t.v n.v (0 : Int) (0 : Int)).us (atI n.v v) != q.v) = true → (q.Ok ∧ t.Ok ∧ n.Ok ∧ x.Ok) ∧ rngI q.v t.v n.v → False ∧ True ∧ ((0 : Nat) ≤ (0 : Nat) ∧ x.n = x.n
  ∧ ∀ (j : Nat), j < x.n → x.f j = x.f j) ∧ True) ∧ (((DS.mk q.v t.v n.v (0 : Int) (0 : Int)).us (atI n.v v) != q.v) = false → ((!decide ((0 : Int) < (DS.mk q.v t.v n.v (0 : Int) (0 : Int)).us (atI n.v v))) = true → (q.Ok
  ∧ t.Ok ∧ n.Ok ∧ x.Ok) ∧ rngI q.v t.v n.v → False ∧ True ∧ ((0 : Nat) ≤ (0 : Nat) ∧ x.n = x.n ∧ ∀ (j : Nat), j < x.n → x.f j = x.f j) ∧ True) ∧ ((!decide ((0 : Int) < (DS.mk q.v t.v n.v (0 : Int) (0 : Int)).us (atI n.v
  v))) = false → (((↑(1 : Nat) : Int) != (1 : Int)) = true → (q.Ok ∧ t.Ok ∧ n.Ok ∧ x.Ok) ∧ rngI q.v t.v n.v → False ∧ True ∧ ((0 : Nat) ≤ (0 : Nat) ∧ x.n = x.n ∧ ∀ (j : Nat), j < x.n → x.f j = x.f j) ∧ True) ∧ (((↑(1 :
  Nat) : Int) != (1 : Int)) = false → ((0 : Int) ≤ (0 : Int) ∧ (0 : Int) < (↑(1 : Nat) : Int)) ∧ (0 : Nat) < (1 : Nat) ∧ ((q.v - (DS.mk q.v t.v n.v (0 : Int) (0 : Int)).gon (atI n.v v) != q.v) = true → (q.Ok ∧ t.Ok ∧ n.Ok
  ∧ x.Ok) ∧ rngI q.v t.v n.v → False ∧ True ∧ ((0 : Nat) ≤ (0 : Nat) ∧ x.n = x.n ∧ ∀ (j : Nat), j < x.n → x.f j = x.f j) ∧ True) ∧ ((q.v - (DS.mk q.v t.v n.v (0 : Int) (0 : Int)).gon (atI n.v v) != q.v) = false → ((0 :
  Int) ≤ (0 : Int) ∧ (0 : Int) < (↑(1 : Nat) : Int)) ∧ (0 : Nat) < (1 : Nat) ∧ (decide (n.v + (DS.mk q.v t.v n.v (0 : Int) (0 : Int)).per (atI n.v v) * t.v > v) = true → (q.Ok ∧ t.Ok ∧ n.Ok ∧ x.Ok) ∧ rngI q.v t.v n.v →
  False ∧ True ∧ ((0 : Nat) ≤ (0 : Nat) ∧ x.n = x.n ∧ ∀ (j : Nat), j < x.n → x.f j = x.f j) ∧ True) ∧ (decide (n.v + (DS.mk q.v t.v n.v (0 : Int) (0 : Int)).per (atI n.v v) * t.v > v) = false → ∀ (v_2 : Int), v_2 =
  IntKind.i64.wrap ((↑y.i : Int) + (1 : Int)) → ∃ (y_1 : RI), (rdF q.v t.v n.v x).I y_1 ∧ ((q.v = q.v ∧ t.v = t.v ∧ v = y_1.m ∧ ((x.nil = true → x.nil = true) ∧ (x.nil = false → x.nil = false ∧ True ∧ True ∧ x.lo = x.lo ∧
  x.len = x.len ∧ x.cap = x.cap)) ∧ (True ∧ True) ∧ v_2 = (↑y_1.i : Int) ∧ True) ∧ ((0 : Nat) ≤ (0 : Nat) ∧ x.n = x.n ∧ ∀ (j : Nat), j < x.n → x.f j = x.f j) ∧ ((5 : Nat) ≤ (5 : Nat) ∧ (q.v = q.v ∧ t.v = t.v ∧ n.v = n.v ∧
  True) ∧ (2 : Int) = (2 : Int) ∧ (True ∧ True) ∧ True) ∧ ((5 : Nat) ≤ (5 : Nat) ∧ (q.v = q.v ∧ t.v = t.v ∧ n.v = n.v ∧ True) ∧ (0 : Int) = (0 : Int) ∧ (0 : Int) = (0 : Int) ∧ True) ∧ True) ∧ (rdF q.v t.v n.v x).μ y_1 <
  (rdF q.v t.v n.v x).μ y))))))))) ∧ (decide ((↑y.i : Int) < (↑x.len : Int)) = false → (((True ∧ True) ∧ y.m = y.m ∧ (0 : Int) = (0 : Int) ∧ True) ∧ ((5 : Nat) ≤ (5 : Nat) ∧ (q.v = q.v ∧ t.v = t.v ∧ n.v = n.v ∧ True) ∧ (2
  : Int) = (2 : Int) ∧ (True ∧ True) ∧ True) ∧ ((5 : Nat) ≤ (5 : Nat) ∧ (q.v = q.v ∧ t.v = t.v ∧ n.v = n.v ∧ True) ∧ (0 : Int) = (0 : Int) ∧ (0 : Int) = (0 : Int) ∧ True) ∧ True) ∧ ((DS.mk q.v t.v n.v (0 : Int) (0 :
  Int)).Ok ∧ (0 : Int) ≤ (0 : Int)) ∧ (((DS.mk q.v t.v n.v (0 : Int) (0 : Int)).chg (atI n.v y.m) (0 : Int) == (0 : Int)) = true → (((True ∧ True) ∧ y.m = y.m ∧ True) ∧ ((5 : Nat) ≤ (5 : Nat) ∧ (((DS.mk q.v t.v n.v (0 :
  Int) (0 : Int)).aft (atI n.v y.m) (0 : Int)).q = ((DS.mk q.v t.v n.v (0 : Int) (0 : Int)).aft (atI n.v y.m) (0 : Int)).q ∧ ((DS.mk q.v t.v n.v (0 : Int) (0 : Int)).aft (atI n.v y.m) (0 : Int)).t = ((DS.mk q.v t.v n.v (0
  : Int) (0 : Int)).aft (atI n.v y.m) (0 : Int)).t ∧ ((DS.mk q.v t.v n.v (0 : Int) (0 : Int)).aft (atI n.v y.m) (0 : Int)).b = ((DS.mk q.v t.v n.v (0 : Int) (0 : Int)).aft (atI n.v y.m) (0 : Int)).b ∧ True) ∧ (2 : Int) =
  (2 : Int) ∧ (True ∧ True) ∧ True) ∧ ((5 : Nat) ≤ (5 : Nat) ∧ (((DS.mk q.v t.v n.v (0 : Int) (0 : Int)).aft (atI n.v y.m) (0 : Int)).q = ((DS.mk q.v t.v n.v (0 : Int) (0 : Int)).aft (atI n.v y.m) (0 : Int)).q ∧ ((DS.mk
  q.v t.v n.v (0 : Int) (0 : Int)).aft (atI n.v y.m) (0 : Int)).t = ((DS.mk q.v t.v n.v (0 : Int) (0 : Int)).aft (atI n.v y.m) (0 : Int)).t ∧ ((DS.mk q.v t.v n.v (0 : Int) (0 : Int)).aft (atI n.v y.m) (0 : Int)).b =
  ((DS.mk q.v t.v n.v (0 : Int) (0 : Int)).aft (atI n.v y.m) (0 : Int)).b ∧ True) ∧ ((DS.mk q.v t.v n.v (0 : Int) (0 : Int)).aft (atI n.v y.m) (0 : Int)).p = ((DS.mk q.v t.v n.v (0 : Int) (0 : Int)).aft (atI n.v y.m) (0 :
  Int)).p ∧ ((DS.mk q.v t.v n.v (0 : Int) (0 : Int)).aft (atI n.v y.m) (0 : Int)).g = ((DS.mk q.v t.v n.v (0 : Int) (0 : Int)).aft (atI n.v y.m) (0 : Int)).g ∧ True) ∧ True) ∧ ((DS.mk q.v t.v n.v (0 : Int) (0 : Int)).aft
  (atI n.v y.m) (0 : Int)).Ok ∧ ((q.Ok ∧ t.Ok ∧ n.Ok ∧ x.Ok) ∧ rngI q.v t.v n.v → (((DS.mk q.v t.v n.v (0 : Int) (0 : Int)).aft (atI n.v y.m) (0 : Int)).us (atI ((DS.mk q.v t.v n.v (0 : Int) (0 : Int)).aft (atI n.v y.m) (0
  : Int)).b y.m) == q.v) = true ∧ True ∧ ((0 : Nat) ≤ (0 : Nat) ∧ x.n = x.n ∧ ∀ (j : Nat), j < x.n → x.f j = x.f j) ∧ True)) ∧ (((DS.mk q.v t.v n.v (0 : Int) (0 : Int)).chg (atI n.v y.m) (0 : Int) == (0 : Int)) = false →
  (q.Ok ∧ t.Ok ∧ n.Ok ∧ x.Ok) ∧ rngI q.v t.v n.v → False ∧ True ∧ ((0 : Nat) ≤ (0 : Nat) ∧ x.n = x.n ∧ ∀ (j : Nat), j < x.n → x.f j = x.f j) ∧ True))))) := by
  simp only [true_and, and_true, eq_self, Nat.le_refl, decide_eq_true_eq, decide_eq_false_iff_not, beq_iff_eq, beq_eq_false_iff_ne, implies_true, and_self, bne_iff_ne, Int.not_lt, gt_iff_lt, ne_eq, Int.toNat_natCast, IntKind.wrap_u64, IntKind.wrap_i64, bne_eq_false_iff_eq, Bool.not_eq_true', Bool.not_eq_false']
  rintro q t n x ⟨⟨hq, ht, hn, hx⟩, hr⟩
  have hr0 := hr
  obtain ⟨a1, a2, a3, a4⟩ := hr0
  have hx1 := hx.1
  have hx2 := hx.2.1
  have hn1 := hn.1
  have hM : ∀ z : RI, (rdF q.v t.v n.v x).μ z = x.len - z.i := fun _ => rfl
  have hI : ∀ z : RI, (rdF q.v t.v n.v x).I z = RI.Ok n.v x z := fun _ => rfl
  simp only [hM, hI]
  have hd : (⟨q.v, t.v, n.v, 0, 0⟩ : DS).Ok := DS.ok_new a1 a2 a3 hn.1 a4
  have hg : ∀ v, (⟨q.v, t.v, n.v, 0, 0⟩ : DS).gon v = 0 := fun v => by unfold DS.gon; split <;> rfl
  have hu : ∀ v, (⟨q.v, t.v, n.v, 0, 0⟩ : DS).us v = q.v := fun v => by unfold DS.us; rw [hg]; exact Int.sub_zero _
  simp only [hg, hu]
  refine ⟨hr, fun v hv _ => ⟨hx1, fun h60 hn2 v hv => ⟨⟨⟨0, n.v, ⟨0, 0, 0, 0, fun _ => 0, fun _ => 0⟩⟩, ⟨Nat.zero_le _, by omega, hn1, hn2, Int.le_refl _, by dsimp only; omega⟩, rfl, ⟨id, id⟩, hv⟩, fun y hy => ?_⟩⟩⟩
  obtain ⟨b1, b2, b3, b4, b5, b6⟩ := hy
  refine ⟨hx1, fun hlt => ⟨hx1, by omega, by omega, fun hf => ⟨hx1, by omega, by omega, fun v hv => ?_⟩⟩, fun hge => ?_⟩
  · have hf0 := (hx.2.2 y.i (by omega)).1
    have hv : v = y.m + x.f (x.lo + y.i) := by omega
    have hat : atI n.v v = v := atI_id (by omega) (by omega)
    have hp := (DS.per_bd hd (n := v) ⟨by show n.v ≤ v; omega, by omega⟩).2.2.1
    have hp : (⟨q.v, t.v, n.v, 0, 0⟩ : DS).per v * t.v ≤ v - n.v := hp
    rw [hat]
    have fin : ∀ v2 : Int, v2 = ((y.i : Int) + 1 + 9223372036854775808) % 18446744073709551616 - 9223372036854775808 → ∃ y1 : RI, RI.Ok n.v x y1 ∧ (v = y1.m ∧ ((x.nil = true → x.nil = true) ∧ (x.nil = false → x.nil = false)) ∧ v2 = ↑y1.i) ∧ x.len - y1.i < x.len - y.i := fun v2 hv2 =>
      ⟨⟨y.i + 1, v, y.y⟩, ⟨by dsimp only; omega, b2, b3, b4, by dsimp only; omega, by dsimp only; omega⟩, ⟨rfl, ⟨id, id⟩, by dsimp only; omega⟩, by dsimp only; omega⟩
    refine ⟨fun _ => ?_, fun _ => ?_⟩
    all_goals exact ⟨hd, fun v1 hv1 => ⟨hd, fun h => by omega, fun _ => ⟨hd, fun h => absurd trivial h, fun _ => ⟨fun h _ => by omega, fun _ => ⟨fun h _ => h (by omega), fun _ => ⟨by omega, by omega, fun h _ => h (by omega), fun _ => ⟨by omega, by omega, fun h _ => by omega, fun _ => fin⟩⟩⟩⟩⟩⟩⟩
  · have e : ∀ v, (⟨q.v, t.v, n.v, 0, 0⟩ : DS).chg v 0 = 0 := fun v => by
      unfold DS.chg
      rw [hg, if_neg (by dsimp only; omega)]
    refine ⟨⟨hd, Int.le_refl _⟩, fun _ => ⟨hd.aft (Int.le_refl _), fun _ => ?_⟩, fun h _ => h (e _)⟩
    have eg : ∀ v w, ((⟨q.v, t.v, n.v, 0, 0⟩ : DS).aft v 0).gon w = 0 := fun v w => by
      show (if _ then (⟨q.v, t.v, n.v, 0, 0⟩ : DS).gon v + (⟨q.v, t.v, n.v, 0, 0⟩ : DS).chg v 0 else 0) = 0
      rw [hg, e]
      split <;> rfl
    unfold DS.us
    rw [eg]
    exact Int.sub_zero _

def rd_C (x : (A64 × A64 × A64 × US)) : Cfg := { Γ := Go.Sx.look tRd, names := true, loops := onlyAt 7 [rdF (x.1).v (x.2.1).v (x.2.2.1).v (x.2.2.2)] }
theorem rd_al (x : (A64 × A64 × A64 × US)) : Shown (rdP.vc Try.prog (rd_C x) Try.f7 x) := ⟨@Eq.mp _ _ (by kernel_rfl) (rd_vc (x.1) (x.2.1) (x.2.2.1) (x.2.2.2))⟩
theorem rd_ok : SpOk Try.prog 7 rdP.sp := @Pat.okS _ rdP Try.prog rd_C 7 Try.f7 (fun x => cfg_tab rfl tRd_ok) (by kernel_rfl) Try.func7 (fun _ => rfl) rd_al
end Go.Proofs.Ytokiakcmdbihhaa
