import Derived.Test.YtijpjhelgggmfaaF4
open Go Go.Sx Go.Proofs
set_option maxRecDepth 100000
namespace Go.Proofs.Ytijpjhelgggmfaa

def LL.rowR (l : LL) (cap : Nat) : Reg := rowReg 52 l.n 3 cap (fun j => ldT (l.k j) (l.q j) (l.t j))
def LL.hd (l : LL) (i : Nat) : LL := ⟨i, l.k, l.q, l.t⟩
def ofP : Pat LS where
  view | [t], H => some (viewL t H) | _, _ => none
  args x := [x.v 0]
  H x := [x.reg]
  out x := .need (x.Ok ∧ x.len ≤ 1000) (.any (fun c : Nat => x.len ≤ c) fun c => .ret (.slice 1 0 [] 0 3 x.len c) [x.reg, x.l.rowR c])
structure OI where
  i : Nat
  c : Nat
def ofF (x : LS) : Fam where
  α := OI
  I y := y.i ≤ x.len ∧ y.i ≤ y.c
  st y := { sl := mkSl 32 [(0, x.v 0), (3, .slice 1 0 [] 0 3 y.i y.c), (4, .int .i64 y.i)], H := [x.reg, (x.l.hd y.i).rowR y.c] }
  μ y := x.len - y.i
def ofM : Nat → Nat
  | 5 => 1
  | _ => 0
theorem of_vc : ∀ (x : LS), (x.Ok ∧ x.len ≤ (1000 : Nat)) ∧ True → ∀ (v : Int), v = (0 : Int) → (∃ (y : OI), (y.i ≤ x.len ∧ y.i ≤ y.c) ∧ ((((x.nil = true → x.nil = true) ∧ (x.nil = false → x.nil = false ∧ True ∧ True ∧ x.lo = x.lo ∧
  x.len = x.len ∧ x.cap = x.cap)) ∧ (True ∧ True ∧ (0 : Nat) = (0 : Nat) ∧ (0 : Nat) = y.i ∧ (0 : Nat) = y.c) ∧ v = (↑y.i : Int) ∧ True) ∧ ((0 : Nat) ≤ (0 : Nat) ∧ x.n = x.n ∧ ∀ (j : Nat), j < x.n → x.k j = x.k j ∧ x.q j =
  x.q j ∧ x.t j = x.t j ∧ True) ∧ (y.c * (3 : Nat) ≤ (0 : Nat) ∧ (x.l.hd y.i).n = (0 : Nat) ∧ ∀ (j : Nat), j < (0 : Nat) → (0 : Int) = (x.l.hd y.i).k j ∧ (0 : Int) = (x.l.hd y.i).q j ∧ (0 : Int) = (x.l.hd y.i).t j ∧ True)
  ∧ True) ∧ True) ∧ ∀ (y : OI), y.i ≤ x.len ∧ y.i ≤ y.c → (x.nil = true → x.len = (0 : Nat)) ∧ (decide ((↑y.i : Int) < (↑x.len : Int)) = true → (x.nil = true → x.len = (0 : Nat)) ∧ ((0 : Int) ≤ (↑y.i : Int) ∧ (↑y.i : Int)
  < (↑x.len : Int)) ∧ x.lo + (↑y.i : Int).toNat < x.n ∧ (x.nil = true → x.len = (0 : Nat)) ∧ ((0 : Int) ≤ (↑y.i : Int) ∧ (↑y.i : Int) < (↑x.len : Int)) ∧ x.lo + (↑y.i : Int).toNat < x.n ∧ (x.nil = true → x.len = (0 : Nat))
  ∧ ((0 : Int) ≤ (↑y.i : Int) ∧ (↑y.i : Int) < (↑x.len : Int)) ∧ x.lo + (↑y.i : Int).toNat < x.n ∧ (1 : Nat) ≤ (1 : Nat) ∧ ((0 : Nat) = (0 : Nat) ∧ y.i ≤ (x.l.hd y.i).n ∧ y.i ≤ y.c ∧ y.c * (3 : Nat) ≤ y.c * (3 : Nat) ∧
  (y.i + (1 : Nat)) * (24 : Nat) ≤ (140737488355328 : Nat) ∧ y.i + (1 : Nat) ≤ (9223372036854775807 : Nat) ∧ (∀ (_ : Nat), (3 : Nat) = (3 : Nat)) ∧ ∀ (_ : Nat), (3 : Nat) = (3 : Nat)) ∧ ∀ (cap' : Nat), y.i + (1 : Nat) ≤
  cap' → ∀ (v : Int), v = IntKind.i64.wrap ((↑y.i : Int) + (1 : Int)) → ∃ (y_1 : OI), (y_1.i ≤ x.len ∧ y_1.i ≤ y_1.c) ∧ ((((x.nil = true → x.nil = true) ∧ (x.nil = false → x.nil = false ∧ True ∧ True ∧ x.lo = x.lo ∧ x.len
  = x.len ∧ x.cap = x.cap)) ∧ (True ∧ True ∧ (0 : Nat) = (0 : Nat) ∧ y.i + (1 : Nat) = y_1.i ∧ cap' = y_1.c) ∧ v = (↑y_1.i : Int) ∧ True) ∧ ((0 : Nat) ≤ (0 : Nat) ∧ x.n = x.n ∧ ∀ (j : Nat), j < x.n → x.k j = x.k j ∧ x.q j
  = x.q j ∧ x.t j = x.t j ∧ True) ∧ (y_1.c * (3 : Nat) ≤ cap' * (3 : Nat) ∧ (x.l.hd y_1.i).n = y.i + (1 : Nat) ∧ ∀ (j : Nat), j < y.i + (1 : Nat) → (j.blt y.i = true → (x.l.hd y.i).k j = (x.l.hd y_1.i).k j ∧ (x.l.hd y.i).q
  j = (x.l.hd y_1.i).q j ∧ (x.l.hd y.i).t j = (x.l.hd y_1.i).t j ∧ True) ∧ (j.blt y.i = false → x.k (x.lo + (↑y.i : Int).toNat) = (x.l.hd y_1.i).k j ∧ x.q (x.lo + (↑y.i : Int).toNat) = (x.l.hd y_1.i).q j ∧ x.t (x.lo +
  (↑y.i : Int).toNat) = (x.l.hd y_1.i).t j ∧ True)) ∧ True) ∧ (ofF x).μ y_1 < (ofF x).μ y) ∧ (decide ((↑y.i : Int) < (↑x.len : Int)) = false → x.Ok ∧ x.len ≤ (1000 : Nat) → ∃ (x_1 : Nat), x.len ≤ x_1 ∧ (True ∧ True ∧ (0 :
  Nat) = (0 : Nat) ∧ y.i = x.len ∧ y.c = x_1) ∧ True ∧ ((0 : Nat) ≤ (0 : Nat) ∧ x.n = x.n ∧ ∀ (j : Nat), j < x.n → x.k j = x.k j ∧ x.q j = x.q j ∧ x.t j = x.t j ∧ True) ∧ (x_1 * (3 : Nat) ≤ y.c * (3 : Nat) ∧ x.l.n =
  (x.l.hd y.i).n ∧ ∀ (j : Nat), j < (x.l.hd y.i).n → (x.l.hd y.i).k j = x.l.k j ∧ (x.l.hd y.i).q j = x.l.q j ∧ (x.l.hd y.i).t j = x.l.t j ∧ True) ∧ True) := by
  simp only [true_and, and_true, eq_self, Nat.le_refl, decide_eq_true_eq, decide_eq_false_iff_not, implies_true, and_self, Int.not_lt, Int.toNat_natCast, nblt_true, nblt_false, IntKind.wrap_i64]
  rintro x ⟨hx, hlen⟩ v hv
  have hlo := hx.2
  refine ⟨⟨⟨0, 0⟩, ⟨Nat.zero_le _, Nat.le_refl _⟩, ⟨⟨id, id⟩, ⟨rfl, rfl⟩, hv⟩, Nat.le_refl _, rfl, fun j hj => absurd hj (Nat.not_lt_zero j)⟩, fun y hy => ?_⟩
  obtain ⟨i, c⟩ := y
  obtain ⟨y1, y2⟩ := hy
  dsimp only at y1 y2 ⊢
  refine ⟨hx.1, fun hlt => ⟨hx.1, by omega, by omega, hx.1, by omega, by omega, hx.1, by omega, by omega, ⟨Nat.le_refl _, y2, by omega, by omega⟩, fun c2 hc2 v2 hv2 => ⟨⟨i + 1, c2⟩, ⟨(by show i + 1 ≤ x.len; omega), hc2⟩, ⟨⟨⟨id, id⟩, ⟨rfl, rfl⟩, (by show v2 = ((i + 1 : Nat) : Int); omega)⟩, Nat.le_refl _, rfl, fun j hj => ⟨fun _ => ⟨rfl, rfl, rfl⟩, fun h => ?_⟩⟩, (by show x.len - (i + 1) < x.len - i; omega)⟩⟩, fun hge _ => ⟨c, by omega, ⟨by omega, rfl⟩, Nat.le_refl _, (by show x.len = i; omega), fun j _ => ⟨rfl, rfl, rfl⟩⟩⟩
  have : j = i := by omega
  subst this
  exact ⟨rfl, rfl, rfl⟩

def of_C (x : LS) : Cfg := { Γ := Go.Sx.look [], names := true, loops := onlyAt 3 [ofF x], mode := ofM }
theorem of_al (x : LS) : Shown (ofP.vc Try.prog (of_C x) Try.f11 x) := ⟨@Eq.mp _ _ (by kernel_rfl) (of_vc x)⟩
theorem of_ok : SpOk Try.prog 11 ofP.sp := @Pat.okS _ ofP Try.prog of_C 11 Try.f11 (fun x => cfg_nil rfl) (by kernel_rfl) Try.func11 (fun _ => rfl) of_al
def tAns : Tab := [(10, aliveP.sp), (11, ofP.sp), (12, RightP.sp), (13, rrP.sp), (14, DemP.sp), (15, rdemP.sp), (16, horP.sp), (17, rhorP.sp), (18, borneP.sp), (19, rborneP.sp)]
theorem tAns_ok : TabOk Try.prog tAns := (tab_cons alive_ok (tab_cons of_ok (tab_cons Right_ok (tab_cons rright_ok (tab_cons Dem_ok (tab_cons rdem_ok (tab_cons hor_ok (tab_cons rhor_ok (tab_cons borne_ok (tab_cons rborne_ok tab_nil))))))))))

theorem ans_vc : ∀ (x : LS) (t : A64), (x.Ok ∧ t.Ok) ∧ True → (True ∧ True) ∧ (x.nil = true → x.len = (0 : Nat)) ∧ (decide ((↑x.len : Int) > (20 : Int)) = true → x.Ok ∧ t.Ok → True ∧ True ∧ ((0 : Nat) ≤ (0 : Nat) ∧ x.n = x.n ∧ ∀ (j :
  Nat), j < x.n → x.k j = x.k j ∧ x.q j = x.q j ∧ x.t j = x.t j ∧ True) ∧ True) ∧ (decide ((↑x.len : Int) > (20 : Int)) = false → ((((x.nil = true → x.nil = true) ∧ (x.nil = false → x.nil = false ∧ True ∧ True ∧ x.lo =
  x.lo ∧ x.len = x.len ∧ x.cap = x.cap)) ∧ True) ∧ ((0 : Nat) ≤ (0 : Nat) ∧ x.n = x.n ∧ ∀ (j : Nat), j < x.n → x.k j = x.k j ∧ x.q j = x.q j ∧ x.t j = x.t j ∧ True) ∧ True) ∧ (x.Ok ∧ x.len ≤ (1000 : Nat)) ∧ ∀ (x_1 : Nat),
  x.len ≤ x_1 → ((((x.nil = true → x.nil = true) ∧ (x.nil = false → x.nil = false ∧ True ∧ True ∧ x.lo = x.lo ∧ x.len = x.len ∧ x.cap = x.cap)) ∧ True) ∧ ((0 : Nat) ≤ (0 : Nat) ∧ x.n = x.n ∧ ∀ (j : Nat), j < x.n → x.k j =
  x.k j ∧ x.q j = x.q j ∧ x.t j = x.t j ∧ True) ∧ True) ∧ x.Ok ∧ (((false = false ∧ True ∧ True ∧ (0 : Nat) = (0 : Nat) ∧ x.len = x.len ∧ x_1 = x_1) ∧ True) ∧ ((0 : Nat) ≤ x_1 * (3 : Nat) ∧ x.l.n = x.l.n ∧ ∀ (j : Nat), j <
  x.l.n → x.l.k j = x.l.k j ∧ x.l.q j = x.l.q j ∧ x.l.t j = x.l.t j ∧ True) ∧ True) ∧ (LS.mk false (0 : Nat) x.len x_1 x.l.n x.l.k x.l.q x.l.t).Ok ∧ ((!decide x.l.right == decide (LS.mk false (0 : Nat) x.len x_1 x.l.n
  x.l.k x.l.q x.l.t).l.right) = true → x.Ok ∧ t.Ok → False ∧ True ∧ ((0 : Nat) ≤ (0 : Nat) ∧ x.n = x.n ∧ ∀ (j : Nat), j < x.n → x.k j = x.k j ∧ x.q j = x.q j ∧ x.t j = x.t j ∧ True) ∧ True) ∧ ((!decide x.l.right == decide
  (LS.mk false (0 : Nat) x.len x_1 x.l.n x.l.k x.l.q x.l.t).l.right) = false → ((((x.nil = true → x.nil = true) ∧ (x.nil = false → x.nil = false ∧ True ∧ True ∧ x.lo = x.lo ∧ x.len = x.len ∧ x.cap = x.cap)) ∧ t.v = t.v ∧
  True) ∧ ((0 : Nat) ≤ (0 : Nat) ∧ x.n = x.n ∧ ∀ (j : Nat), j < x.n → x.k j = x.k j ∧ x.q j = x.q j ∧ x.t j = x.t j ∧ True) ∧ True) ∧ (x.Ok ∧ (0 : Int) ≤ t.v ∧ t.v < (18446744073709551616 : Int)) ∧ (((false = false ∧ True
  ∧ True ∧ (0 : Nat) = (0 : Nat) ∧ x.len = x.len ∧ x_1 = x_1) ∧ t.v = t.v ∧ True) ∧ ((0 : Nat) ≤ x_1 * (3 : Nat) ∧ x.l.n = x.l.n ∧ ∀ (j : Nat), j < x.l.n → x.l.k j = x.l.k j ∧ x.l.q j = x.l.q j ∧ x.l.t j = x.l.t j ∧ True)
  ∧ True) ∧ ((LS.mk false (0 : Nat) x.len x_1 x.l.n x.l.k x.l.q x.l.t).Ok ∧ (0 : Int) ≤ t.v ∧ t.v < (18446744073709551616 : Int)) ∧ (((if x.l.right then x.l.dem (min t.v (1099511627776 : Int)) x.len else (0 : Int)) != if
  (LS.mk false (0 : Nat) x.len x_1 x.l.n x.l.k x.l.q x.l.t).l.right then (LS.mk false (0 : Nat) x.len x_1 x.l.n x.l.k x.l.q x.l.t).l.dem (min t.v (1099511627776 : Int)) x.len else (0 : Int)) = true → x.Ok ∧ t.Ok → False ∧
  True ∧ ((0 : Nat) ≤ (0 : Nat) ∧ x.n = x.n ∧ ∀ (j : Nat), j < x.n → x.k j = x.k j ∧ x.q j = x.q j ∧ x.t j = x.t j ∧ True) ∧ True) ∧ (((if x.l.right then x.l.dem (min t.v (1099511627776 : Int)) x.len else (0 : Int)) != if
  (LS.mk false (0 : Nat) x.len x_1 x.l.n x.l.k x.l.q x.l.t).l.right then (LS.mk false (0 : Nat) x.len x_1 x.l.n x.l.k x.l.q x.l.t).l.dem (min t.v (1099511627776 : Int)) x.len else (0 : Int)) = false → ((((x.nil = true →
  x.nil = true) ∧ (x.nil = false → x.nil = false ∧ True ∧ True ∧ x.lo = x.lo ∧ x.len = x.len ∧ x.cap = x.cap)) ∧ True) ∧ ((0 : Nat) ≤ (0 : Nat) ∧ x.n = x.n ∧ ∀ (j : Nat), j < x.n → x.k j = x.k j ∧ x.q j = x.q j ∧ x.t j =
  x.t j ∧ True) ∧ True) ∧ x.Ok ∧ ∀ (v : Int), v = x.l.hor.fst → ∀ (v_1 : Int), v_1 = x.l.hor.snd → (((false = false ∧ True ∧ True ∧ (0 : Nat) = (0 : Nat) ∧ x.len = x.len ∧ x_1 = x_1) ∧ True) ∧ ((0 : Nat) ≤ x_1 * (3 : Nat)
  ∧ x.l.n = x.l.n ∧ ∀ (j : Nat), j < x.l.n → x.l.k j = x.l.k j ∧ x.l.q j = x.l.q j ∧ x.l.t j = x.l.t j ∧ True) ∧ True) ∧ (LS.mk false (0 : Nat) x.len x_1 x.l.n x.l.k x.l.q x.l.t).Ok ∧ ∀ (v_2 : Int), v_2 = (LS.mk false (0 :
  Nat) x.len x_1 x.l.n x.l.k x.l.q x.l.t).l.hor.fst → ∀ (v_3 : Int), v_3 = (LS.mk false (0 : Nat) x.len x_1 x.l.n x.l.k x.l.q x.l.t).l.hor.snd → ((v != v_2) = true → x.Ok ∧ t.Ok → False ∧ True ∧ ((0 : Nat) ≤ (0 : Nat) ∧
  x.n = x.n ∧ ∀ (j : Nat), j < x.n → x.k j = x.k j ∧ x.q j = x.q j ∧ x.t j = x.t j ∧ True) ∧ True) ∧ ((v != v_2) = false → ((v_1 != v_3) = true → x.Ok ∧ t.Ok → False ∧ True ∧ ((0 : Nat) ≤ (0 : Nat) ∧ x.n = x.n ∧ ∀ (j :
  Nat), j < x.n → x.k j = x.k j ∧ x.q j = x.q j ∧ x.t j = x.t j ∧ True) ∧ True) ∧ ((v_1 != v_3) = false → (decide (v_2 > (20000 : Int)) = true → x.Ok ∧ t.Ok → True ∧ True ∧ ((0 : Nat) ≤ (0 : Nat) ∧ x.n = x.n ∧ ∀ (j : Nat),
  j < x.n → x.k j = x.k j ∧ x.q j = x.q j ∧ x.t j = x.t j ∧ True) ∧ True) ∧ (decide (v_2 > (20000 : Int)) = false → ((((x.nil = true → x.nil = true) ∧ (x.nil = false → x.nil = false ∧ True ∧ True ∧ x.lo = x.lo ∧ x.len =
  x.len ∧ x.cap = x.cap)) ∧ True) ∧ ((0 : Nat) ≤ (0 : Nat) ∧ x.n = x.n ∧ ∀ (j : Nat), j < x.n → x.k j = x.k j ∧ x.q j = x.q j ∧ x.t j = x.t j ∧ True) ∧ True) ∧ x.Ok ∧ ∀ (v : Int), v = x.l.borne.snd → (((false = false ∧
  True ∧ True ∧ (0 : Nat) = (0 : Nat) ∧ x.len = x.len ∧ x_1 = x_1) ∧ True) ∧ ((0 : Nat) ≤ x_1 * (3 : Nat) ∧ x.l.n = x.l.n ∧ ∀ (j : Nat), j < x.l.n → x.l.k j = x.l.k j ∧ x.l.q j = x.l.q j ∧ x.l.t j = x.l.t j ∧ True) ∧ True)
  ∧ (LS.mk false (0 : Nat) x.len x_1 x.l.n x.l.k x.l.q x.l.t).Ok ∧ ∀ (v_4 : Int), v_4 = (LS.mk false (0 : Nat) x.len x_1 x.l.n x.l.k x.l.q x.l.t).l.borne.snd → ((x.l.borne.fst == (LS.mk false (0 : Nat) x.len x_1 x.l.n
  x.l.k x.l.q x.l.t).l.borne.fst) = true → x.Ok ∧ t.Ok → (v == v_4) = true ∧ True ∧ ((0 : Nat) ≤ (0 : Nat) ∧ x.n = x.n ∧ ∀ (j : Nat), j < x.n → x.k j = x.k j ∧ x.q j = x.q j ∧ x.t j = x.t j ∧ True) ∧ True) ∧
  ((x.l.borne.fst == (LS.mk false (0 : Nat) x.len x_1 x.l.n x.l.k x.l.q x.l.t).l.borne.fst) = false → x.Ok ∧ t.Ok → False ∧ True ∧ ((0 : Nat) ≤ (0 : Nat) ∧ x.n = x.n ∧ ∀ (j : Nat), j < x.n → x.k j = x.k j ∧ x.q j = x.q j ∧
  x.t j = x.t j ∧ True) ∧ True))))))) := by
  simp only [true_and, and_true, eq_self, Nat.le_refl, decide_eq_true_eq, decide_eq_false_iff_not, beq_iff_eq, beq_eq_false_iff_ne, implies_true, and_self, bne_iff_ne, Int.not_lt, gt_iff_lt, ne_eq, bne_eq_false_iff_eq, Bool.not_eq_true', Bool.not_eq_false']
  rintro x ⟨t⟩ ⟨hx, ht, ht'⟩
  dsimp only at ht ht' ⊢
  have eL : ∀ c, ({ nil := false, lo := 0, len := x.len, cap := c, n := x.l.n, k := x.l.k, q := x.l.q, t := x.l.t } : LS).l = x.l := fun c => by
    show LL.mk x.len (fun j => x.l.k (0 + j)) (fun j => x.l.q (0 + j)) (fun j => x.l.t (0 + j)) = x.l
    simp only [Nat.zero_add]
    rfl
  have ok : ∀ c, LS.Ok { nil := false, lo := 0, len := x.len, cap := c, n := x.l.n, k := x.l.k, q := x.l.q, t := x.l.t } := fun c => ⟨fun h => (nomatch h), by show 0 + x.len ≤ x.len; omega⟩
  simp only [eL]
  refine ⟨hx.1, fun h20 => ⟨⟨id, id⟩, ⟨hx, by omega⟩, fun c hc => ⟨⟨id, id⟩, hx, by omega, ok c, fun h => absurd trivial h, fun _ => ⟨⟨id, id⟩, ⟨hx, ht, ht'⟩, by omega, ⟨ok c, ht, ht'⟩, fun h => absurd trivial h, fun _ => ⟨⟨id, id⟩, hx, fun v hv v1 hv1 => ⟨by omega, ok c, fun v2 hv2 v3 hv3 => ⟨fun h => absurd (hv.trans hv2.symm) h, fun _ => ⟨fun h => absurd (hv1.trans hv3.symm) h, fun _ _ => ⟨⟨id, id⟩, hx, fun v4 hv4 => ⟨by omega, ok c, fun v5 hv5 => ⟨fun _ _ => hv4.trans hv5.symm, fun h => absurd trivial h⟩⟩⟩⟩⟩⟩⟩⟩⟩⟩⟩

def ans_C (_ : (LS × A64)) : Cfg := { Γ := Go.Sx.look tAns, names := true }
theorem ans_al (x : (LS × A64)) : Shown (demsP.vc Try.prog (ans_C x) Try.f3 x) := ⟨@Eq.mp _ _ (by kernel_rfl) (ans_vc (x.1) (x.2))⟩
theorem ans_ok : SpOk Try.prog 3 demsP.sp := @Pat.okS _ demsP Try.prog ans_C 3 Try.f3 (fun x => cfg_tab rfl tAns_ok) (by kernel_rfl) Try.func3 (fun _ => rfl) ans_al
end Go.Proofs.Ytijpjhelgggmfaa
