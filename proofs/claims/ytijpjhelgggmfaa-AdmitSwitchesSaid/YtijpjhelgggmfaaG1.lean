import Derived.Test.YtijpjhelgggmfaaF4
open Go Go.Sx Go.Proofs
set_option maxRecDepth 100000
namespace Go.Proofs.Ytijpjhelgggmfaa

def growP : Pat Int where
  view | [.nils, .int .i64 n], _ => some n | _, _ => none
  args n := [.nils, .int .i64 n]
  H _ := []
  out n := .need (0 ≤ n ∧ n ≤ 1000) (.br (n = 0) (.retq .nils) (.any (fun c : Nat => n.toNat ≤ c) fun c => .ret (.slice 0 0 [] 0 3 0 c) [rowReg 40 n.toNat 3 c (fun _ => ldT 0 0 0)]))
theorem grow_vc : ∀ (n : Int), ((0 : Int) ≤ n ∧ n ≤ (1000 : Int)) ∧ True → (decide (n < (0 : Int)) = true → False) ∧ (decide (n < (0 : Int)) = false → ∀ (v : Int), v = IntKind.i64.wrap (n - IntKind.i64.wrap ((0 : Int) - (0 : Int))) →
  (decide (v > (0 : Int)) = true → (0 : Int) = (0 : Int) ∧ ((0 : Int) ≤ v ∧ v ≤ (9223372036854775807 : Int)) ∧ (v.toNat = (0 : Nat) → (0 : Int) = (0 : Int) ∧ ((0 : Int) ≤ n ∧ n ≤ (1000 : Int) → (n = (0 : Int) → True ∧ True
  ∧ True) ∧ (¬n = (0 : Int) → ∃ (x : Nat), n.toNat ≤ x ∧ False ∧ False))) ∧ (v.toNat ≠ (0 : Nat) → v.toNat * (24 : Nat) ≤ (140737488355328 : Nat) ∧ v.toNat ≤ (9223372036854775807 : Nat) ∧ ∀ (cap : Nat), v.toNat ≤ cap → ((0
  : Int) ≤ (0 : Int) ∧ (0 : Int) ≤ (↑cap : Int)) ∧ ((0 : Int) ≤ n ∧ n ≤ (1000 : Int) → (n = (0 : Int) → False ∧ True ∧ True) ∧ (¬n = (0 : Int) → ∃ (x : Nat), n.toNat ≤ x ∧ (True ∧ True ∧ (0 : Nat) = (0 : Nat) ∧ (0 : Nat) =
  (0 : Nat) ∧ cap = x) ∧ True ∧ (x * (3 : Nat) ≤ cap * (3 : Nat) ∧ n.toNat = v.toNat ∧ ∀ (j : Nat), j < v.toNat → (0 : Int) = (0 : Int) ∧ (0 : Int) = (0 : Int) ∧ (0 : Int) = (0 : Int) ∧ True) ∧ True)))) ∧ (decide (v > (0 :
  Int)) = false → (0 : Int) ≤ n ∧ n ≤ (1000 : Int) → (n = (0 : Int) → True ∧ True ∧ True) ∧ (¬n = (0 : Int) → ∃ (x : Nat), n.toNat ≤ x ∧ False ∧ False))) := by
  simp only [true_and, and_true, eq_self, decide_eq_true_eq, decide_eq_false_iff_not, implies_true, and_self, Int.not_lt, gt_iff_lt, ne_eq, IntKind.wrap_i64]
  rintro n ⟨h0, h1⟩
  refine ⟨fun h => by omega, fun _ v hv => ?_⟩
  have hv : v = n := by omega
  subst hv
  exact ⟨fun hp => ⟨⟨by omega, by omega⟩, fun hz => by exfalso; omega, fun _ => ⟨by omega, by omega, fun cap hc => ⟨⟨by decide, by omega⟩, fun _ => ⟨fun h => by omega, fun _ => ⟨cap, hc, rfl, Nat.le_refl _, rfl⟩⟩⟩⟩⟩, fun hz _ hne => by exfalso; omega⟩

def grow_C (_ : Int) : Cfg := { Γ := Go.Sx.look [], names := true, lows := true }
theorem grow_al (x : Int) : Shown (growP.vc Try.prog (grow_C x) Try.f62 x) := ⟨@Eq.mp _ _ (by kernel_rfl) (grow_vc x)⟩
theorem grow_ok : SpOk Try.prog 62 growP.sp := @Pat.okS _ growP Try.prog grow_C 62 Try.f62 (fun x => cfg_nil rfl) (by kernel_rfl) Try.func62 (fun _ => rfl) grow_al
def tCat : Tab := [(62, growP.sp)]
theorem tCat_ok : TabOk Try.prog tCat := (tab_cons grow_ok tab_nil)

def LL.cat (b e : LL) : LL := ⟨b.n + e.n, fun j => if j < b.n then b.k j else e.k (j - b.n), fun j => if j < b.n then b.q j else e.q (j - b.n), fun j => if j < b.n then b.t j else e.t (j - b.n)⟩
theorem LL.cat_lo {b e : LL} {j : Nat} (h : j < b.n) : (b.cat e).k j = b.k j ∧ (b.cat e).q j = b.q j ∧ (b.cat e).t j = b.t j := ⟨if_pos h, if_pos h, if_pos h⟩
theorem LL.cat_hi {b e : LL} {j : Nat} (h : b.n ≤ j) : (b.cat e).k j = e.k (j - b.n) ∧ (b.cat e).q j = e.q (j - b.n) ∧ (b.cat e).t j = e.t (j - b.n) := ⟨if_neg (by omega), if_neg (by omega), if_neg (by omega)⟩
def catR (x y : LS) : Reg := ro 22 2 1 (fun j => .ite (Nat.beq j 0) (x.v 0) (y.v 1))
def catA : T := .slice 2 0 [] 0 1 2 2
def viewCat (t : T) (H : List Reg) : Option (LS × LS) := match tArr (regC H (tRef t)) 0 with
  | .ite _ a b => some (viewL a H, viewL b H)
  | _ => none
def catP : Pat (LS × LS) where
  view | [t], H => viewCat t H | _, _ => none
  args _ := [catA]
  H x := [x.1.reg, x.2.reg, catR x.1 x.2]
  out x := .need ((x.1.Ok ∧ x.2.Ok) ∧ x.1.len ≤ 100 ∧ x.2.len ≤ 100) (.br (x.1.len + x.2.len = 0) (.retq .nils)
    (.any (fun c : Nat => x.1.len + x.2.len ≤ c) fun c => .ret (.slice 3 0 [] 0 3 (x.1.len + x.2.len) c) [x.1.reg, x.2.reg, catR x.1 x.2, (x.1.l.cat x.2.l).row c]))
structure CI where
  i : Nat
  c : Nat
  N : Nat
  l : LL
def cSz (x y : LS) (i : Nat) : Nat := if i = 0 then 0 else if i = 1 then x.len else x.len + y.len
def catF1 (x y : LS) : Fam where
  α := Nat
  I i := i ≤ 2
  st i := { sl := mkSl 36 [(0, catA), (3, .int .i64 (cSz x y i)), (9, catA), (10, .int .i64 2), (11, .int .i64 i)], H := [x.reg, y.reg, catR x y] }
  μ i := 2 - i
def catF2 (x y : LS) : Fam where
  α := CI
  I z := z.i ≤ 2 ∧ (0 < x.len + y.len) ∧ ((z.i = 0 → z.N = x.len + y.len) ∧ (z.i ≠ 0 → z.N = cSz x y z.i) ∧ cSz x y z.i ≤ z.c ∧ z.N ≤ z.c) ∧ ∀ j, j < cSz x y z.i → z.l.k j = (x.l.cat y.l).k j ∧ z.l.q j = (x.l.cat y.l).q j ∧ z.l.t j = (x.l.cat y.l).t j
  st z := { sl := mkSl 36 [(6, .slice 3 0 [] 0 3 (cSz x y z.i) z.c), (25, catA), (26, .int .i64 2), (27, .int .i64 z.i)], H := [x.reg, y.reg, catR x y, rowReg 40 z.N 3 z.c (fun j => ldT (z.l.k j) (z.l.q j) (z.l.t j))] }
  μ z := 2 - z.i
def catF3 (x y : LS) : Fam where
  α := Nat
  I i := i ≤ 2 ∧ x.len + y.len = 0
  st i := { sl := mkSl 36 [(6, .nils), (25, catA), (26, .int .i64 2), (27, .int .i64 i)], H := [x.reg, y.reg, catR x y] }
  μ i := 2 - i
def catL (x y : LS) : Nat → Gam
  | 3 => .l [catF1 x y]
  | 11 => .l [catF2 x y, catF3 x y]
  | _ => .l []
theorem cat_vc : ∀ (x y : LS), ((x.Ok ∧ y.Ok) ∧ x.len ≤ (100 : Nat) ∧ y.len ≤ (100 : Nat)) ∧ True → ∀ (v : Int), v = (0 : Int) → (∃ (y_1 : Nat), (catF1 x y).I y_1 ∧ (((True ∧ True ∧ (0 : Nat) = (0 : Nat) ∧ (2 : Nat) = (2 : Nat) ∧ (2 :
  Nat) = (2 : Nat)) ∧ v = (↑(cSz x y y_1) : Int) ∧ (True ∧ True ∧ (0 : Nat) = (0 : Nat) ∧ (2 : Nat) = (2 : Nat) ∧ (2 : Nat) = (2 : Nat)) ∧ (↑(2 : Nat) : Int) = (2 : Int) ∧ (0 : Int) = (↑y_1 : Int) ∧ True) ∧ ((0 : Nat) ≤ (0
  : Nat) ∧ x.n = x.n ∧ ∀ (j : Nat), j < x.n → x.k j = x.k j ∧ x.q j = x.q j ∧ x.t j = x.t j ∧ True) ∧ ((0 : Nat) ≤ (0 : Nat) ∧ y.n = y.n ∧ ∀ (j : Nat), j < y.n → y.k j = y.k j ∧ y.q j = y.q j ∧ y.t j = y.t j ∧ True) ∧ ((0
  : Nat) ≤ (0 : Nat) ∧ (2 : Nat) = (2 : Nat) ∧ ∀ (j : Nat), j < (2 : Nat) → j.beq (0 : Nat) = j.beq (0 : Nat) ∧ (j.beq (0 : Nat) = true → (x.nil = true → x.nil = true) ∧ (x.nil = false → x.nil = false ∧ True ∧ True ∧ x.lo
  = x.lo ∧ x.len = x.len ∧ x.cap = x.cap)) ∧ (j.beq (0 : Nat) = false → (y.nil = true → y.nil = true) ∧ (y.nil = false → y.nil = false ∧ True ∧ True ∧ y.lo = y.lo ∧ y.len = y.len ∧ y.cap = y.cap))) ∧ True) ∧ True) ∧ ∀ (y_1
  : Nat), (catF1 x y).I y_1 → (decide ((↑y_1 : Int) < (2 : Int)) = true → ((0 : Int) ≤ (↑y_1 : Int) ∧ (↑y_1 : Int) < (↑(2 : Nat) : Int)) ∧ (0 : Nat) + (↑y_1 : Int).toNat < (2 : Nat) ∧ (((0 : Nat) + (↑y_1 : Int).toNat).beq
  (0 : Nat) = true → (x.nil = true → x.len = (0 : Nat)) ∧ ∀ (v : Int), v = IntKind.i64.wrap ((↑(cSz x y y_1) : Int) + (↑x.len : Int)) → (decide (v < (0 : Int)) = true → False) ∧ (decide (v < (0 : Int)) = false → ∃ (y_2 :
  Nat), (catF1 x y).I y_2 ∧ (((True ∧ True ∧ (0 : Nat) = (0 : Nat) ∧ (2 : Nat) = (2 : Nat) ∧ (2 : Nat) = (2 : Nat)) ∧ v = (↑(cSz x y y_2) : Int) ∧ (True ∧ True ∧ (0 : Nat) = (0 : Nat) ∧ (2 : Nat) = (2 : Nat) ∧ (2 : Nat) =
  (2 : Nat)) ∧ (2 : Int) = (2 : Int) ∧ IntKind.i64.wrap ((↑y_1 : Int) + (1 : Int)) = (↑y_2 : Int) ∧ True) ∧ ((0 : Nat) ≤ (0 : Nat) ∧ x.n = x.n ∧ ∀ (j : Nat), j < x.n → x.k j = x.k j ∧ x.q j = x.q j ∧ x.t j = x.t j ∧ True)
  ∧ ((0 : Nat) ≤ (0 : Nat) ∧ y.n = y.n ∧ ∀ (j : Nat), j < y.n → y.k j = y.k j ∧ y.q j = y.q j ∧ y.t j = y.t j ∧ True) ∧ ((0 : Nat) ≤ (0 : Nat) ∧ (2 : Nat) = (2 : Nat) ∧ ∀ (j : Nat), j < (2 : Nat) → j.beq (0 : Nat) = j.beq
  (0 : Nat) ∧ (j.beq (0 : Nat) = true → (x.nil = true → x.nil = true) ∧ (x.nil = false → x.nil = false ∧ True ∧ True ∧ x.lo = x.lo ∧ x.len = x.len ∧ x.cap = x.cap)) ∧ (j.beq (0 : Nat) = false → (y.nil = true → y.nil =
  true) ∧ (y.nil = false → y.nil = false ∧ True ∧ True ∧ y.lo = y.lo ∧ y.len = y.len ∧ y.cap = y.cap))) ∧ True) ∧ (catF1 x y).μ y_2 < (catF1 x y).μ y_1)) ∧ (((0 : Nat) + (↑y_1 : Int).toNat).beq (0 : Nat) = false → (y.nil =
  true → y.len = (0 : Nat)) ∧ ∀ (v : Int), v = IntKind.i64.wrap ((↑(cSz x y y_1) : Int) + (↑y.len : Int)) → (decide (v < (0 : Int)) = true → False) ∧ (decide (v < (0 : Int)) = false → ∃ (y_2 : Nat), (catF1 x y).I y_2 ∧
  (((True ∧ True ∧ (0 : Nat) = (0 : Nat) ∧ (2 : Nat) = (2 : Nat) ∧ (2 : Nat) = (2 : Nat)) ∧ v = (↑(cSz x y y_2) : Int) ∧ (True ∧ True ∧ (0 : Nat) = (0 : Nat) ∧ (2 : Nat) = (2 : Nat) ∧ (2 : Nat) = (2 : Nat)) ∧ (2 : Int) =
  (2 : Int) ∧ IntKind.i64.wrap ((↑y_1 : Int) + (1 : Int)) = (↑y_2 : Int) ∧ True) ∧ ((0 : Nat) ≤ (0 : Nat) ∧ x.n = x.n ∧ ∀ (j : Nat), j < x.n → x.k j = x.k j ∧ x.q j = x.q j ∧ x.t j = x.t j ∧ True) ∧ ((0 : Nat) ≤ (0 : Nat)
  ∧ y.n = y.n ∧ ∀ (j : Nat), j < y.n → y.k j = y.k j ∧ y.q j = y.q j ∧ y.t j = y.t j ∧ True) ∧ ((0 : Nat) ≤ (0 : Nat) ∧ (2 : Nat) = (2 : Nat) ∧ ∀ (j : Nat), j < (2 : Nat) → j.beq (0 : Nat) = j.beq (0 : Nat) ∧ (j.beq (0 :
  Nat) = true → (x.nil = true → x.nil = true) ∧ (x.nil = false → x.nil = false ∧ True ∧ True ∧ x.lo = x.lo ∧ x.len = x.len ∧ x.cap = x.cap)) ∧ (j.beq (0 : Nat) = false → (y.nil = true → y.nil = true) ∧ (y.nil = false →
  y.nil = false ∧ True ∧ True ∧ y.lo = y.lo ∧ y.len = y.len ∧ y.cap = y.cap))) ∧ True) ∧ (catF1 x y).μ y_2 < (catF1 x y).μ y_1))) ∧ (decide ((↑y_1 : Int) < (2 : Int)) = false → ((True ∧ (↑(cSz x y y_1) : Int) = (↑(cSz x y
  y_1) : Int) ∧ True) ∧ True) ∧ ((0 : Int) ≤ (↑(cSz x y y_1) : Int) ∧ (↑(cSz x y y_1) : Int) ≤ (1000 : Int)) ∧ ((↑(cSz x y y_1) : Int) = (0 : Int) → ((∃ (y_2 : CI), (y_2.i ≤ (2 : Nat) ∧ (0 : Nat) < x.len + y.len ∧ ((y_2.i
  = (0 : Nat) → y_2.N = x.len + y.len) ∧ (y_2.i ≠ (0 : Nat) → y_2.N = cSz x y y_2.i) ∧ cSz x y y_2.i ≤ y_2.c ∧ y_2.N ≤ y_2.c) ∧ ∀ (j : Nat), j < cSz x y y_2.i → y_2.l.k j = (x.l.cat y.l).k j ∧ y_2.l.q j = (x.l.cat y.l).q j
  ∧ y_2.l.t j = (x.l.cat y.l).t j) ∧ False ∧ True) ∨ ∃ (y_2 : Nat), (y_2 ≤ (2 : Nat) ∧ x.len + y.len = (0 : Nat)) ∧ ((True ∧ (True ∧ True ∧ (0 : Nat) = (0 : Nat) ∧ (2 : Nat) = (2 : Nat) ∧ (2 : Nat) = (2 : Nat)) ∧ (↑(2 :
  Nat) : Int) = (2 : Int) ∧ (0 : Int) = (↑y_2 : Int) ∧ True) ∧ ((0 : Nat) ≤ (0 : Nat) ∧ x.n = x.n ∧ ∀ (j : Nat), j < x.n → x.k j = x.k j ∧ x.q j = x.q j ∧ x.t j = x.t j ∧ True) ∧ ((0 : Nat) ≤ (0 : Nat) ∧ y.n = y.n ∧ ∀ (j :
  Nat), j < y.n → y.k j = y.k j ∧ y.q j = y.q j ∧ y.t j = y.t j ∧ True) ∧ ((0 : Nat) ≤ (0 : Nat) ∧ (2 : Nat) = (2 : Nat) ∧ ∀ (j : Nat), j < (2 : Nat) → j.beq (0 : Nat) = j.beq (0 : Nat) ∧ (j.beq (0 : Nat) = true → (x.nil =
  true → x.nil = true) ∧ (x.nil = false → x.nil = false ∧ True ∧ True ∧ x.lo = x.lo ∧ x.len = x.len ∧ x.cap = x.cap)) ∧ (j.beq (0 : Nat) = false → (y.nil = true → y.nil = true) ∧ (y.nil = false → y.nil = false ∧ True ∧
  True ∧ y.lo = y.lo ∧ y.len = y.len ∧ y.cap = y.cap))) ∧ True) ∧ True) ∧ (∀ (y_2 : CI), (y_2.i ≤ (2 : Nat) ∧ (0 : Nat) < x.len + y.len ∧ ((y_2.i = (0 : Nat) → y_2.N = x.len + y.len) ∧ (y_2.i ≠ (0 : Nat) → y_2.N = cSz x y
  y_2.i) ∧ cSz x y y_2.i ≤ y_2.c ∧ y_2.N ≤ y_2.c) ∧ ∀ (j : Nat), j < cSz x y y_2.i → y_2.l.k j = (x.l.cat y.l).k j ∧ y_2.l.q j = (x.l.cat y.l).q j ∧ y_2.l.t j = (x.l.cat y.l).t j) → (decide ((↑y_2.i : Int) < (2 : Int)) =
  true → ((0 : Int) ≤ (↑y_2.i : Int) ∧ (↑y_2.i : Int) < (↑(2 : Nat) : Int)) ∧ (0 : Nat) + (↑y_2.i : Int).toNat < (2 : Nat) ∧ (((0 : Nat) + (↑y_2.i : Int).toNat).beq (0 : Nat) = true → (x.nil = true → x.len = (0 : Nat)) ∧
  x.lo + x.len ≤ x.n ∧ ((0 : Nat) = (0 : Nat) ∧ cSz x y y_2.i ≤ y_2.N ∧ cSz x y y_2.i ≤ y_2.c ∧ y_2.c * (3 : Nat) ≤ y_2.c * (3 : Nat) ∧ (cSz x y y_2.i + x.len) * (24 : Nat) ≤ (140737488355328 : Nat) ∧ cSz x y y_2.i + x.len
  ≤ (9223372036854775807 : Nat) ∧ (∀ (_ : Nat), (3 : Nat) = (3 : Nat)) ∧ ∀ (_ : Nat), (3 : Nat) = (3 : Nat)) ∧ ∀ (cap' : Nat), cSz x y y_2.i + x.len ≤ cap' → (∃ (y_3 : CI), (y_3.i ≤ (2 : Nat) ∧ (0 : Nat) < x.len + y.len ∧
  ((y_3.i = (0 : Nat) → y_3.N = x.len + y.len) ∧ (y_3.i ≠ (0 : Nat) → y_3.N = cSz x y y_3.i) ∧ cSz x y y_3.i ≤ y_3.c ∧ y_3.N ≤ y_3.c) ∧ ∀ (j : Nat), j < cSz x y y_3.i → y_3.l.k j = (x.l.cat y.l).k j ∧ y_3.l.q j = (x.l.cat
  y.l).q j ∧ y_3.l.t j = (x.l.cat y.l).t j) ∧ (((True ∧ True ∧ (0 : Nat) = (0 : Nat) ∧ cSz x y y_2.i + x.len = cSz x y y_3.i ∧ cap' = y_3.c) ∧ (True ∧ True ∧ (0 : Nat) = (0 : Nat) ∧ (2 : Nat) = (2 : Nat) ∧ (2 : Nat) = (2 :
  Nat)) ∧ (2 : Int) = (2 : Int) ∧ IntKind.i64.wrap ((↑y_2.i : Int) + (1 : Int)) = (↑y_3.i : Int) ∧ True) ∧ ((0 : Nat) ≤ (0 : Nat) ∧ x.n = x.n ∧ ∀ (j : Nat), j < x.n → x.k j = x.k j ∧ x.q j = x.q j ∧ x.t j = x.t j ∧ True) ∧
  ((0 : Nat) ≤ (0 : Nat) ∧ y.n = y.n ∧ ∀ (j : Nat), j < y.n → y.k j = y.k j ∧ y.q j = y.q j ∧ y.t j = y.t j ∧ True) ∧ ((0 : Nat) ≤ (0 : Nat) ∧ (2 : Nat) = (2 : Nat) ∧ ∀ (j : Nat), j < (2 : Nat) → j.beq (0 : Nat) = j.beq (0
  : Nat) ∧ (j.beq (0 : Nat) = true → (x.nil = true → x.nil = true) ∧ (x.nil = false → x.nil = false ∧ True ∧ True ∧ x.lo = x.lo ∧ x.len = x.len ∧ x.cap = x.cap)) ∧ (j.beq (0 : Nat) = false → (y.nil = true → y.nil = true) ∧
  (y.nil = false → y.nil = false ∧ True ∧ True ∧ y.lo = y.lo ∧ y.len = y.len ∧ y.cap = y.cap))) ∧ (y_3.c * (3 : Nat) ≤ cap' * (3 : Nat) ∧ y_3.N = cSz x y y_2.i + x.len ∧ ∀ (j : Nat), j < cSz x y y_2.i + x.len → (j.blt (cSz
  x y y_2.i) = true → y_2.l.k j = y_3.l.k j ∧ y_2.l.q j = y_3.l.q j ∧ y_2.l.t j = y_3.l.t j ∧ True) ∧ (j.blt (cSz x y y_2.i) = false → x.k (x.lo + (j - cSz x y y_2.i)) = y_3.l.k j ∧ x.q (x.lo + (j - cSz x y y_2.i)) =
  y_3.l.q j ∧ x.t (x.lo + (j - cSz x y y_2.i)) = y_3.l.t j ∧ True)) ∧ True) ∧ (catF2 x y).μ y_3 < (catF2 x y).μ y_2) ∨ ∃ (y_3 : Nat), (y_3 ≤ (2 : Nat) ∧ x.len + y.len = (0 : Nat)) ∧ ((False ∧ (True ∧ True ∧ (0 : Nat) = (0
  : Nat) ∧ (2 : Nat) = (2 : Nat) ∧ (2 : Nat) = (2 : Nat)) ∧ (2 : Int) = (2 : Int) ∧ IntKind.i64.wrap ((↑y_2.i : Int) + (1 : Int)) = (↑y_3 : Int) ∧ True) ∧ ((0 : Nat) ≤ (0 : Nat) ∧ x.n = x.n ∧ ∀ (j : Nat), j < x.n → x.k j =
  x.k j ∧ x.q j = x.q j ∧ x.t j = x.t j ∧ True) ∧ ((0 : Nat) ≤ (0 : Nat) ∧ y.n = y.n ∧ ∀ (j : Nat), j < y.n → y.k j = y.k j ∧ y.q j = y.q j ∧ y.t j = y.t j ∧ True) ∧ ((0 : Nat) ≤ (0 : Nat) ∧ (2 : Nat) = (2 : Nat) ∧ ∀ (j :
  Nat), j < (2 : Nat) → j.beq (0 : Nat) = j.beq (0 : Nat) ∧ (j.beq (0 : Nat) = true → (x.nil = true → x.nil = true) ∧ (x.nil = false → x.nil = false ∧ True ∧ True ∧ x.lo = x.lo ∧ x.len = x.len ∧ x.cap = x.cap)) ∧ (j.beq (0
  : Nat) = false → (y.nil = true → y.nil = true) ∧ (y.nil = false → y.nil = false ∧ True ∧ True ∧ y.lo = y.lo ∧ y.len = y.len ∧ y.cap = y.cap))) ∧ True) ∧ (catF3 x y).μ y_3 < (catF2 x y).μ y_2) ∧ (((0 : Nat) + (↑y_2.i :
  Int).toNat).beq (0 : Nat) = false → (y.nil = true → y.len = (0 : Nat)) ∧ y.lo + y.len ≤ y.n ∧ ((0 : Nat) = (0 : Nat) ∧ cSz x y y_2.i ≤ y_2.N ∧ cSz x y y_2.i ≤ y_2.c ∧ y_2.c * (3 : Nat) ≤ y_2.c * (3 : Nat) ∧ (cSz x y
  y_2.i + y.len) * (24 : Nat) ≤ (140737488355328 : Nat) ∧ cSz x y y_2.i + y.len ≤ (9223372036854775807 : Nat) ∧ (∀ (_ : Nat), (3 : Nat) = (3 : Nat)) ∧ ∀ (_ : Nat), (3 : Nat) = (3 : Nat)) ∧ ∀ (cap' : Nat), cSz x y y_2.i +
  y.len ≤ cap' → (∃ (y_3 : CI), (y_3.i ≤ (2 : Nat) ∧ (0 : Nat) < x.len + y.len ∧ ((y_3.i = (0 : Nat) → y_3.N = x.len + y.len) ∧ (y_3.i ≠ (0 : Nat) → y_3.N = cSz x y y_3.i) ∧ cSz x y y_3.i ≤ y_3.c ∧ y_3.N ≤ y_3.c) ∧ ∀ (j :
  Nat), j < cSz x y y_3.i → y_3.l.k j = (x.l.cat y.l).k j ∧ y_3.l.q j = (x.l.cat y.l).q j ∧ y_3.l.t j = (x.l.cat y.l).t j) ∧ (((True ∧ True ∧ (0 : Nat) = (0 : Nat) ∧ cSz x y y_2.i + y.len = cSz x y y_3.i ∧ cap' = y_3.c) ∧
  (True ∧ True ∧ (0 : Nat) = (0 : Nat) ∧ (2 : Nat) = (2 : Nat) ∧ (2 : Nat) = (2 : Nat)) ∧ (2 : Int) = (2 : Int) ∧ IntKind.i64.wrap ((↑y_2.i : Int) + (1 : Int)) = (↑y_3.i : Int) ∧ True) ∧ ((0 : Nat) ≤ (0 : Nat) ∧ x.n = x.n
  ∧ ∀ (j : Nat), j < x.n → x.k j = x.k j ∧ x.q j = x.q j ∧ x.t j = x.t j ∧ True) ∧ ((0 : Nat) ≤ (0 : Nat) ∧ y.n = y.n ∧ ∀ (j : Nat), j < y.n → y.k j = y.k j ∧ y.q j = y.q j ∧ y.t j = y.t j ∧ True) ∧ ((0 : Nat) ≤ (0 : Nat)
  ∧ (2 : Nat) = (2 : Nat) ∧ ∀ (j : Nat), j < (2 : Nat) → j.beq (0 : Nat) = j.beq (0 : Nat) ∧ (j.beq (0 : Nat) = true → (x.nil = true → x.nil = true) ∧ (x.nil = false → x.nil = false ∧ True ∧ True ∧ x.lo = x.lo ∧ x.len =
  x.len ∧ x.cap = x.cap)) ∧ (j.beq (0 : Nat) = false → (y.nil = true → y.nil = true) ∧ (y.nil = false → y.nil = false ∧ True ∧ True ∧ y.lo = y.lo ∧ y.len = y.len ∧ y.cap = y.cap))) ∧ (y_3.c * (3 : Nat) ≤ cap' * (3 : Nat) ∧
  y_3.N = cSz x y y_2.i + y.len ∧ ∀ (j : Nat), j < cSz x y y_2.i + y.len → (j.blt (cSz x y y_2.i) = true → y_2.l.k j = y_3.l.k j ∧ y_2.l.q j = y_3.l.q j ∧ y_2.l.t j = y_3.l.t j ∧ True) ∧ (j.blt (cSz x y y_2.i) = false →
  y.k (y.lo + (j - cSz x y y_2.i)) = y_3.l.k j ∧ y.q (y.lo + (j - cSz x y y_2.i)) = y_3.l.q j ∧ y.t (y.lo + (j - cSz x y y_2.i)) = y_3.l.t j ∧ True)) ∧ True) ∧ (catF2 x y).μ y_3 < (catF2 x y).μ y_2) ∨ ∃ (y_3 : Nat), (y_3 ≤
  (2 : Nat) ∧ x.len + y.len = (0 : Nat)) ∧ ((False ∧ (True ∧ True ∧ (0 : Nat) = (0 : Nat) ∧ (2 : Nat) = (2 : Nat) ∧ (2 : Nat) = (2 : Nat)) ∧ (2 : Int) = (2 : Int) ∧ IntKind.i64.wrap ((↑y_2.i : Int) + (1 : Int)) = (↑y_3 :
  Int) ∧ True) ∧ ((0 : Nat) ≤ (0 : Nat) ∧ x.n = x.n ∧ ∀ (j : Nat), j < x.n → x.k j = x.k j ∧ x.q j = x.q j ∧ x.t j = x.t j ∧ True) ∧ ((0 : Nat) ≤ (0 : Nat) ∧ y.n = y.n ∧ ∀ (j : Nat), j < y.n → y.k j = y.k j ∧ y.q j = y.q j
  ∧ y.t j = y.t j ∧ True) ∧ ((0 : Nat) ≤ (0 : Nat) ∧ (2 : Nat) = (2 : Nat) ∧ ∀ (j : Nat), j < (2 : Nat) → j.beq (0 : Nat) = j.beq (0 : Nat) ∧ (j.beq (0 : Nat) = true → (x.nil = true → x.nil = true) ∧ (x.nil = false → x.nil
  = false ∧ True ∧ True ∧ x.lo = x.lo ∧ x.len = x.len ∧ x.cap = x.cap)) ∧ (j.beq (0 : Nat) = false → (y.nil = true → y.nil = true) ∧ (y.nil = false → y.nil = false ∧ True ∧ True ∧ y.lo = y.lo ∧ y.len = y.len ∧ y.cap =
  y.cap))) ∧ True) ∧ (catF3 x y).μ y_3 < (catF2 x y).μ y_2)) ∧ (decide ((↑y_2.i : Int) < (2 : Int)) = false → (x.Ok ∧ y.Ok) ∧ x.len ≤ (100 : Nat) ∧ y.len ≤ (100 : Nat) → (x.len + y.len = (0 : Nat) → False ∧ True ∧ ((0 :
  Nat) ≤ (0 : Nat) ∧ x.n = x.n ∧ ∀ (j : Nat), j < x.n → x.k j = x.k j ∧ x.q j = x.q j ∧ x.t j = x.t j ∧ True) ∧ ((0 : Nat) ≤ (0 : Nat) ∧ y.n = y.n ∧ ∀ (j : Nat), j < y.n → y.k j = y.k j ∧ y.q j = y.q j ∧ y.t j = y.t j ∧
  True) ∧ ((0 : Nat) ≤ (0 : Nat) ∧ (2 : Nat) = (2 : Nat) ∧ ∀ (j : Nat), j < (2 : Nat) → j.beq (0 : Nat) = j.beq (0 : Nat) ∧ (j.beq (0 : Nat) = true → (x.nil = true → x.nil = true) ∧ (x.nil = false → x.nil = false ∧ True ∧
  True ∧ x.lo = x.lo ∧ x.len = x.len ∧ x.cap = x.cap)) ∧ (j.beq (0 : Nat) = false → (y.nil = true → y.nil = true) ∧ (y.nil = false → y.nil = false ∧ True ∧ True ∧ y.lo = y.lo ∧ y.len = y.len ∧ y.cap = y.cap))) ∧ True) ∧
  (¬x.len + y.len = (0 : Nat) → ∃ (x_1 : Nat), x.len + y.len ≤ x_1 ∧ (True ∧ True ∧ (0 : Nat) = (0 : Nat) ∧ cSz x y y_2.i = x.len + y.len ∧ y_2.c = x_1) ∧ True ∧ ((0 : Nat) ≤ (0 : Nat) ∧ x.n = x.n ∧ ∀ (j : Nat), j < x.n →
  x.k j = x.k j ∧ x.q j = x.q j ∧ x.t j = x.t j ∧ True) ∧ ((0 : Nat) ≤ (0 : Nat) ∧ y.n = y.n ∧ ∀ (j : Nat), j < y.n → y.k j = y.k j ∧ y.q j = y.q j ∧ y.t j = y.t j ∧ True) ∧ ((0 : Nat) ≤ (0 : Nat) ∧ (2 : Nat) = (2 : Nat) ∧
  ∀ (j : Nat), j < (2 : Nat) → j.beq (0 : Nat) = j.beq (0 : Nat) ∧ (j.beq (0 : Nat) = true → (x.nil = true → x.nil = true) ∧ (x.nil = false → x.nil = false ∧ True ∧ True ∧ x.lo = x.lo ∧ x.len = x.len ∧ x.cap = x.cap)) ∧
  (j.beq (0 : Nat) = false → (y.nil = true → y.nil = true) ∧ (y.nil = false → y.nil = false ∧ True ∧ True ∧ y.lo = y.lo ∧ y.len = y.len ∧ y.cap = y.cap))) ∧ (x_1 * (3 : Nat) ≤ y_2.c * (3 : Nat) ∧ (x.l.cat y.l).n = y_2.N ∧
  ∀ (j : Nat), j < y_2.N → y_2.l.k j = (x.l.cat y.l).k j ∧ y_2.l.q j = (x.l.cat y.l).q j ∧ y_2.l.t j = (x.l.cat y.l).t j ∧ True) ∧ True))) ∧ ∀ (y_2 : Nat), y_2 ≤ (2 : Nat) ∧ x.len + y.len = (0 : Nat) → (decide ((↑y_2 :
  Int) < (2 : Int)) = true → ((0 : Int) ≤ (↑y_2 : Int) ∧ (↑y_2 : Int) < (↑(2 : Nat) : Int)) ∧ (0 : Nat) + (↑y_2 : Int).toNat < (2 : Nat) ∧ (((0 : Nat) + (↑y_2 : Int).toNat).beq (0 : Nat) = true → (x.nil = true → x.len = (0
  : Nat)) ∧ x.lo + x.len ≤ x.n ∧ (x.len = (0 : Nat) → (∃ (y_3 : CI), (y_3.i ≤ (2 : Nat) ∧ (0 : Nat) < x.len + y.len ∧ ((y_3.i = (0 : Nat) → y_3.N = x.len + y.len) ∧ (y_3.i ≠ (0 : Nat) → y_3.N = cSz x y y_3.i) ∧ cSz x y
  y_3.i ≤ y_3.c ∧ y_3.N ≤ y_3.c) ∧ ∀ (j : Nat), j < cSz x y y_3.i → y_3.l.k j = (x.l.cat y.l).k j ∧ y_3.l.q j = (x.l.cat y.l).q j ∧ y_3.l.t j = (x.l.cat y.l).t j) ∧ False ∧ (catF2 x y).μ y_3 < (catF3 x y).μ y_2) ∨ ∃ (y_3 :
  Nat), (y_3 ≤ (2 : Nat) ∧ x.len + y.len = (0 : Nat)) ∧ ((True ∧ (True ∧ True ∧ (0 : Nat) = (0 : Nat) ∧ (2 : Nat) = (2 : Nat) ∧ (2 : Nat) = (2 : Nat)) ∧ (2 : Int) = (2 : Int) ∧ IntKind.i64.wrap ((↑y_2 : Int) + (1 : Int)) =
  (↑y_3 : Int) ∧ True) ∧ ((0 : Nat) ≤ (0 : Nat) ∧ x.n = x.n ∧ ∀ (j : Nat), j < x.n → x.k j = x.k j ∧ x.q j = x.q j ∧ x.t j = x.t j ∧ True) ∧ ((0 : Nat) ≤ (0 : Nat) ∧ y.n = y.n ∧ ∀ (j : Nat), j < y.n → y.k j = y.k j ∧ y.q j
  = y.q j ∧ y.t j = y.t j ∧ True) ∧ ((0 : Nat) ≤ (0 : Nat) ∧ (2 : Nat) = (2 : Nat) ∧ ∀ (j : Nat), j < (2 : Nat) → j.beq (0 : Nat) = j.beq (0 : Nat) ∧ (j.beq (0 : Nat) = true → (x.nil = true → x.nil = true) ∧ (x.nil = false
  → x.nil = false ∧ True ∧ True ∧ x.lo = x.lo ∧ x.len = x.len ∧ x.cap = x.cap)) ∧ (j.beq (0 : Nat) = false → (y.nil = true → y.nil = true) ∧ (y.nil = false → y.nil = false ∧ True ∧ True ∧ y.lo = y.lo ∧ y.len = y.len ∧
  y.cap = y.cap))) ∧ True) ∧ (catF3 x y).μ y_3 < (catF3 x y).μ y_2) ∧ (x.len ≠ (0 : Nat) → x.len * (24 : Nat) ≤ (140737488355328 : Nat) ∧ x.len ≤ (9223372036854775807 : Nat) ∧ ∀ (cap : Nat), x.len ≤ cap → (∃ (y_3 : CI),
  (y_3.i ≤ (2 : Nat) ∧ (0 : Nat) < x.len + y.len ∧ ((y_3.i = (0 : Nat) → y_3.N = x.len + y.len) ∧ (y_3.i ≠ (0 : Nat) → y_3.N = cSz x y y_3.i) ∧ cSz x y y_3.i ≤ y_3.c ∧ y_3.N ≤ y_3.c) ∧ ∀ (j : Nat), j < cSz x y y_3.i →
  y_3.l.k j = (x.l.cat y.l).k j ∧ y_3.l.q j = (x.l.cat y.l).q j ∧ y_3.l.t j = (x.l.cat y.l).t j) ∧ (((True ∧ True ∧ (0 : Nat) = (0 : Nat) ∧ x.len = cSz x y y_3.i ∧ cap = y_3.c) ∧ (True ∧ True ∧ (0 : Nat) = (0 : Nat) ∧ (2 :
  Nat) = (2 : Nat) ∧ (2 : Nat) = (2 : Nat)) ∧ (2 : Int) = (2 : Int) ∧ IntKind.i64.wrap ((↑y_2 : Int) + (1 : Int)) = (↑y_3.i : Int) ∧ True) ∧ ((0 : Nat) ≤ (0 : Nat) ∧ x.n = x.n ∧ ∀ (j : Nat), j < x.n → x.k j = x.k j ∧ x.q j
  = x.q j ∧ x.t j = x.t j ∧ True) ∧ ((0 : Nat) ≤ (0 : Nat) ∧ y.n = y.n ∧ ∀ (j : Nat), j < y.n → y.k j = y.k j ∧ y.q j = y.q j ∧ y.t j = y.t j ∧ True) ∧ ((0 : Nat) ≤ (0 : Nat) ∧ (2 : Nat) = (2 : Nat) ∧ ∀ (j : Nat), j < (2 :
  Nat) → j.beq (0 : Nat) = j.beq (0 : Nat) ∧ (j.beq (0 : Nat) = true → (x.nil = true → x.nil = true) ∧ (x.nil = false → x.nil = false ∧ True ∧ True ∧ x.lo = x.lo ∧ x.len = x.len ∧ x.cap = x.cap)) ∧ (j.beq (0 : Nat) = false
  → (y.nil = true → y.nil = true) ∧ (y.nil = false → y.nil = false ∧ True ∧ True ∧ y.lo = y.lo ∧ y.len = y.len ∧ y.cap = y.cap))) ∧ (y_3.c * (3 : Nat) ≤ cap * (3 : Nat) ∧ y_3.N = x.len ∧ ∀ (j : Nat), j < x.len → x.k (x.lo
  + j) = y_3.l.k j ∧ x.q (x.lo + j) = y_3.l.q j ∧ x.t (x.lo + j) = y_3.l.t j ∧ True) ∧ True) ∧ (catF2 x y).μ y_3 < (catF3 x y).μ y_2) ∨ ∃ (y_3 : Nat), (y_3 ≤ (2 : Nat) ∧ x.len + y.len = (0 : Nat)) ∧ ((False ∧ (True ∧ True
  ∧ (0 : Nat) = (0 : Nat) ∧ (2 : Nat) = (2 : Nat) ∧ (2 : Nat) = (2 : Nat)) ∧ (2 : Int) = (2 : Int) ∧ IntKind.i64.wrap ((↑y_2 : Int) + (1 : Int)) = (↑y_3 : Int) ∧ True) ∧ ((0 : Nat) ≤ (0 : Nat) ∧ x.n = x.n ∧ ∀ (j : Nat), j
  < x.n → x.k j = x.k j ∧ x.q j = x.q j ∧ x.t j = x.t j ∧ True) ∧ ((0 : Nat) ≤ (0 : Nat) ∧ y.n = y.n ∧ ∀ (j : Nat), j < y.n → y.k j = y.k j ∧ y.q j = y.q j ∧ y.t j = y.t j ∧ True) ∧ ((0 : Nat) ≤ (0 : Nat) ∧ (2 : Nat) = (2
  : Nat) ∧ ∀ (j : Nat), j < (2 : Nat) → j.beq (0 : Nat) = j.beq (0 : Nat) ∧ (j.beq (0 : Nat) = true → (x.nil = true → x.nil = true) ∧ (x.nil = false → x.nil = false ∧ True ∧ True ∧ x.lo = x.lo ∧ x.len = x.len ∧ x.cap =
  x.cap)) ∧ (j.beq (0 : Nat) = false → (y.nil = true → y.nil = true) ∧ (y.nil = false → y.nil = false ∧ True ∧ True ∧ y.lo = y.lo ∧ y.len = y.len ∧ y.cap = y.cap))) ∧ True) ∧ (catF3 x y).μ y_3 < (catF3 x y).μ y_2)) ∧ (((0
  : Nat) + (↑y_2 : Int).toNat).beq (0 : Nat) = false → (y.nil = true → y.len = (0 : Nat)) ∧ y.lo + y.len ≤ y.n ∧ (y.len = (0 : Nat) → (∃ (y_3 : CI), (y_3.i ≤ (2 : Nat) ∧ (0 : Nat) < x.len + y.len ∧ ((y_3.i = (0 : Nat) →
  y_3.N = x.len + y.len) ∧ (y_3.i ≠ (0 : Nat) → y_3.N = cSz x y y_3.i) ∧ cSz x y y_3.i ≤ y_3.c ∧ y_3.N ≤ y_3.c) ∧ ∀ (j : Nat), j < cSz x y y_3.i → y_3.l.k j = (x.l.cat y.l).k j ∧ y_3.l.q j = (x.l.cat y.l).q j ∧ y_3.l.t j =
  (x.l.cat y.l).t j) ∧ False ∧ (catF2 x y).μ y_3 < (catF3 x y).μ y_2) ∨ ∃ (y_3 : Nat), (y_3 ≤ (2 : Nat) ∧ x.len + y.len = (0 : Nat)) ∧ ((True ∧ (True ∧ True ∧ (0 : Nat) = (0 : Nat) ∧ (2 : Nat) = (2 : Nat) ∧ (2 : Nat) = (2
  : Nat)) ∧ (2 : Int) = (2 : Int) ∧ IntKind.i64.wrap ((↑y_2 : Int) + (1 : Int)) = (↑y_3 : Int) ∧ True) ∧ ((0 : Nat) ≤ (0 : Nat) ∧ x.n = x.n ∧ ∀ (j : Nat), j < x.n → x.k j = x.k j ∧ x.q j = x.q j ∧ x.t j = x.t j ∧ True) ∧
  ((0 : Nat) ≤ (0 : Nat) ∧ y.n = y.n ∧ ∀ (j : Nat), j < y.n → y.k j = y.k j ∧ y.q j = y.q j ∧ y.t j = y.t j ∧ True) ∧ ((0 : Nat) ≤ (0 : Nat) ∧ (2 : Nat) = (2 : Nat) ∧ ∀ (j : Nat), j < (2 : Nat) → j.beq (0 : Nat) = j.beq (0
  : Nat) ∧ (j.beq (0 : Nat) = true → (x.nil = true → x.nil = true) ∧ (x.nil = false → x.nil = false ∧ True ∧ True ∧ x.lo = x.lo ∧ x.len = x.len ∧ x.cap = x.cap)) ∧ (j.beq (0 : Nat) = false → (y.nil = true → y.nil = true) ∧
  (y.nil = false → y.nil = false ∧ True ∧ True ∧ y.lo = y.lo ∧ y.len = y.len ∧ y.cap = y.cap))) ∧ True) ∧ (catF3 x y).μ y_3 < (catF3 x y).μ y_2) ∧ (y.len ≠ (0 : Nat) → y.len * (24 : Nat) ≤ (140737488355328 : Nat) ∧ y.len ≤
  (9223372036854775807 : Nat) ∧ ∀ (cap : Nat), y.len ≤ cap → (∃ (y_3 : CI), (y_3.i ≤ (2 : Nat) ∧ (0 : Nat) < x.len + y.len ∧ ((y_3.i = (0 : Nat) → y_3.N = x.len + y.len) ∧ (y_3.i ≠ (0 : Nat) → y_3.N = cSz x y y_3.i) ∧ cSz
  x y y_3.i ≤ y_3.c ∧ y_3.N ≤ y_3.c) ∧ ∀ (j : Nat), j < cSz x y y_3.i → y_3.l.k j = (x.l.cat y.l).k j ∧ y_3.l.q j = (x.l.cat y.l).q j ∧ y_3.l.t j = (x.l.cat y.l).t j) ∧ (((True ∧ True ∧ (0 : Nat) = (0 : Nat) ∧ y.len = cSz
  x y y_3.i ∧ cap = y_3.c) ∧ (True ∧ True ∧ (0 : Nat) = (0 : Nat) ∧ (2 : Nat) = (2 : Nat) ∧ (2 : Nat) = (2 : Nat)) ∧ (2 : Int) = (2 : Int) ∧ IntKind.i64.wrap ((↑y_2 : Int) + (1 : Int)) = (↑y_3.i : Int) ∧ True) ∧ ((0 : Nat)
  ≤ (0 : Nat) ∧ x.n = x.n ∧ ∀ (j : Nat), j < x.n → x.k j = x.k j ∧ x.q j = x.q j ∧ x.t j = x.t j ∧ True) ∧ ((0 : Nat) ≤ (0 : Nat) ∧ y.n = y.n ∧ ∀ (j : Nat), j < y.n → y.k j = y.k j ∧ y.q j = y.q j ∧ y.t j = y.t j ∧ True) ∧
  ((0 : Nat) ≤ (0 : Nat) ∧ (2 : Nat) = (2 : Nat) ∧ ∀ (j : Nat), j < (2 : Nat) → j.beq (0 : Nat) = j.beq (0 : Nat) ∧ (j.beq (0 : Nat) = true → (x.nil = true → x.nil = true) ∧ (x.nil = false → x.nil = false ∧ True ∧ True ∧
  x.lo = x.lo ∧ x.len = x.len ∧ x.cap = x.cap)) ∧ (j.beq (0 : Nat) = false → (y.nil = true → y.nil = true) ∧ (y.nil = false → y.nil = false ∧ True ∧ True ∧ y.lo = y.lo ∧ y.len = y.len ∧ y.cap = y.cap))) ∧ (y_3.c * (3 :
  Nat) ≤ cap * (3 : Nat) ∧ y_3.N = y.len ∧ ∀ (j : Nat), j < y.len → y.k (y.lo + j) = y_3.l.k j ∧ y.q (y.lo + j) = y_3.l.q j ∧ y.t (y.lo + j) = y_3.l.t j ∧ True) ∧ True) ∧ (catF2 x y).μ y_3 < (catF3 x y).μ y_2) ∨ ∃ (y_3 :
  Nat), (y_3 ≤ (2 : Nat) ∧ x.len + y.len = (0 : Nat)) ∧ ((False ∧ (True ∧ True ∧ (0 : Nat) = (0 : Nat) ∧ (2 : Nat) = (2 : Nat) ∧ (2 : Nat) = (2 : Nat)) ∧ (2 : Int) = (2 : Int) ∧ IntKind.i64.wrap ((↑y_2 : Int) + (1 : Int))
  = (↑y_3 : Int) ∧ True) ∧ ((0 : Nat) ≤ (0 : Nat) ∧ x.n = x.n ∧ ∀ (j : Nat), j < x.n → x.k j = x.k j ∧ x.q j = x.q j ∧ x.t j = x.t j ∧ True) ∧ ((0 : Nat) ≤ (0 : Nat) ∧ y.n = y.n ∧ ∀ (j : Nat), j < y.n → y.k j = y.k j ∧ y.q
  j = y.q j ∧ y.t j = y.t j ∧ True) ∧ ((0 : Nat) ≤ (0 : Nat) ∧ (2 : Nat) = (2 : Nat) ∧ ∀ (j : Nat), j < (2 : Nat) → j.beq (0 : Nat) = j.beq (0 : Nat) ∧ (j.beq (0 : Nat) = true → (x.nil = true → x.nil = true) ∧ (x.nil =
  false → x.nil = false ∧ True ∧ True ∧ x.lo = x.lo ∧ x.len = x.len ∧ x.cap = x.cap)) ∧ (j.beq (0 : Nat) = false → (y.nil = true → y.nil = true) ∧ (y.nil = false → y.nil = false ∧ True ∧ True ∧ y.lo = y.lo ∧ y.len = y.len
  ∧ y.cap = y.cap))) ∧ True) ∧ (catF3 x y).μ y_3 < (catF3 x y).μ y_2))) ∧ (decide ((↑y_2 : Int) < (2 : Int)) = false → (x.Ok ∧ y.Ok) ∧ x.len ≤ (100 : Nat) ∧ y.len ≤ (100 : Nat) → (x.len + y.len = (0 : Nat) → True ∧ True ∧
  ((0 : Nat) ≤ (0 : Nat) ∧ x.n = x.n ∧ ∀ (j : Nat), j < x.n → x.k j = x.k j ∧ x.q j = x.q j ∧ x.t j = x.t j ∧ True) ∧ ((0 : Nat) ≤ (0 : Nat) ∧ y.n = y.n ∧ ∀ (j : Nat), j < y.n → y.k j = y.k j ∧ y.q j = y.q j ∧ y.t j = y.t
  j ∧ True) ∧ ((0 : Nat) ≤ (0 : Nat) ∧ (2 : Nat) = (2 : Nat) ∧ ∀ (j : Nat), j < (2 : Nat) → j.beq (0 : Nat) = j.beq (0 : Nat) ∧ (j.beq (0 : Nat) = true → (x.nil = true → x.nil = true) ∧ (x.nil = false → x.nil = false ∧
  True ∧ True ∧ x.lo = x.lo ∧ x.len = x.len ∧ x.cap = x.cap)) ∧ (j.beq (0 : Nat) = false → (y.nil = true → y.nil = true) ∧ (y.nil = false → y.nil = false ∧ True ∧ True ∧ y.lo = y.lo ∧ y.len = y.len ∧ y.cap = y.cap))) ∧
  True) ∧ (¬x.len + y.len = (0 : Nat) → ∃ (x_1 : Nat), x.len + y.len ≤ x_1 ∧ False ∧ False))) ∧ (¬(↑(cSz x y y_1) : Int) = (0 : Int) → ∀ (x_1 : Nat), (↑(cSz x y y_1) : Int).toNat ≤ x_1 → ((∃ (y_2 : CI), (y_2.i ≤ (2 : Nat)
  ∧ (0 : Nat) < x.len + y.len ∧ ((y_2.i = (0 : Nat) → y_2.N = x.len + y.len) ∧ (y_2.i ≠ (0 : Nat) → y_2.N = cSz x y y_2.i) ∧ cSz x y y_2.i ≤ y_2.c ∧ y_2.N ≤ y_2.c) ∧ ∀ (j : Nat), j < cSz x y y_2.i → y_2.l.k j = (x.l.cat
  y.l).k j ∧ y_2.l.q j = (x.l.cat y.l).q j ∧ y_2.l.t j = (x.l.cat y.l).t j) ∧ (((True ∧ True ∧ (0 : Nat) = (0 : Nat) ∧ (0 : Nat) = cSz x y y_2.i ∧ x_1 = y_2.c) ∧ (True ∧ True ∧ (0 : Nat) = (0 : Nat) ∧ (2 : Nat) = (2 : Nat)
  ∧ (2 : Nat) = (2 : Nat)) ∧ (↑(2 : Nat) : Int) = (2 : Int) ∧ (0 : Int) = (↑y_2.i : Int) ∧ True) ∧ ((0 : Nat) ≤ (0 : Nat) ∧ x.n = x.n ∧ ∀ (j : Nat), j < x.n → x.k j = x.k j ∧ x.q j = x.q j ∧ x.t j = x.t j ∧ True) ∧ ((0 :
  Nat) ≤ (0 : Nat) ∧ y.n = y.n ∧ ∀ (j : Nat), j < y.n → y.k j = y.k j ∧ y.q j = y.q j ∧ y.t j = y.t j ∧ True) ∧ ((0 : Nat) ≤ (0 : Nat) ∧ (2 : Nat) = (2 : Nat) ∧ ∀ (j : Nat), j < (2 : Nat) → j.beq (0 : Nat) = j.beq (0 :
  Nat) ∧ (j.beq (0 : Nat) = true → (x.nil = true → x.nil = true) ∧ (x.nil = false → x.nil = false ∧ True ∧ True ∧ x.lo = x.lo ∧ x.len = x.len ∧ x.cap = x.cap)) ∧ (j.beq (0 : Nat) = false → (y.nil = true → y.nil = true) ∧
  (y.nil = false → y.nil = false ∧ True ∧ True ∧ y.lo = y.lo ∧ y.len = y.len ∧ y.cap = y.cap))) ∧ (y_2.c * (3 : Nat) ≤ x_1 * (3 : Nat) ∧ y_2.N = (↑(cSz x y y_1) : Int).toNat ∧ ∀ (j : Nat), j < (↑(cSz x y y_1) : Int).toNat
  → (0 : Int) = y_2.l.k j ∧ (0 : Int) = y_2.l.q j ∧ (0 : Int) = y_2.l.t j ∧ True) ∧ True) ∧ True) ∨ ∃ (y_2 : Nat), (y_2 ≤ (2 : Nat) ∧ x.len + y.len = (0 : Nat)) ∧ ((False ∧ (True ∧ True ∧ (0 : Nat) = (0 : Nat) ∧ (2 : Nat)
  = (2 : Nat) ∧ (2 : Nat) = (2 : Nat)) ∧ (↑(2 : Nat) : Int) = (2 : Int) ∧ (0 : Int) = (↑y_2 : Int) ∧ True) ∧ ((0 : Nat) ≤ (0 : Nat) ∧ x.n = x.n ∧ ∀ (j : Nat), j < x.n → x.k j = x.k j ∧ x.q j = x.q j ∧ x.t j = x.t j ∧ True)
  ∧ ((0 : Nat) ≤ (0 : Nat) ∧ y.n = y.n ∧ ∀ (j : Nat), j < y.n → y.k j = y.k j ∧ y.q j = y.q j ∧ y.t j = y.t j ∧ True) ∧ ((0 : Nat) ≤ (0 : Nat) ∧ (2 : Nat) = (2 : Nat) ∧ ∀ (j : Nat), j < (2 : Nat) → j.beq (0 : Nat) = j.beq
  (0 : Nat) ∧ (j.beq (0 : Nat) = true → (x.nil = true → x.nil = true) ∧ (x.nil = false → x.nil = false ∧ True ∧ True ∧ x.lo = x.lo ∧ x.len = x.len ∧ x.cap = x.cap)) ∧ (j.beq (0 : Nat) = false → (y.nil = true → y.nil =
  true) ∧ (y.nil = false → y.nil = false ∧ True ∧ True ∧ y.lo = y.lo ∧ y.len = y.len ∧ y.cap = y.cap))) ∧ True) ∧ True) ∧ (∀ (y_2 : CI), (y_2.i ≤ (2 : Nat) ∧ (0 : Nat) < x.len + y.len ∧ ((y_2.i = (0 : Nat) → y_2.N = x.len
  + y.len) ∧ (y_2.i ≠ (0 : Nat) → y_2.N = cSz x y y_2.i) ∧ cSz x y y_2.i ≤ y_2.c ∧ y_2.N ≤ y_2.c) ∧ ∀ (j : Nat), j < cSz x y y_2.i → y_2.l.k j = (x.l.cat y.l).k j ∧ y_2.l.q j = (x.l.cat y.l).q j ∧ y_2.l.t j = (x.l.cat
  y.l).t j) → (decide ((↑y_2.i : Int) < (2 : Int)) = true → ((0 : Int) ≤ (↑y_2.i : Int) ∧ (↑y_2.i : Int) < (↑(2 : Nat) : Int)) ∧ (0 : Nat) + (↑y_2.i : Int).toNat < (2 : Nat) ∧ (((0 : Nat) + (↑y_2.i : Int).toNat).beq (0 :
  Nat) = true → (x.nil = true → x.len = (0 : Nat)) ∧ x.lo + x.len ≤ x.n ∧ ((0 : Nat) = (0 : Nat) ∧ cSz x y y_2.i ≤ y_2.N ∧ cSz x y y_2.i ≤ y_2.c ∧ y_2.c * (3 : Nat) ≤ y_2.c * (3 : Nat) ∧ (cSz x y y_2.i + x.len) * (24 :
  Nat) ≤ (140737488355328 : Nat) ∧ cSz x y y_2.i + x.len ≤ (9223372036854775807 : Nat) ∧ (∀ (_ : Nat), (3 : Nat) = (3 : Nat)) ∧ ∀ (_ : Nat), (3 : Nat) = (3 : Nat)) ∧ ∀ (cap' : Nat), cSz x y y_2.i + x.len ≤ cap' → (∃ (y_3 :
  CI), (y_3.i ≤ (2 : Nat) ∧ (0 : Nat) < x.len + y.len ∧ ((y_3.i = (0 : Nat) → y_3.N = x.len + y.len) ∧ (y_3.i ≠ (0 : Nat) → y_3.N = cSz x y y_3.i) ∧ cSz x y y_3.i ≤ y_3.c ∧ y_3.N ≤ y_3.c) ∧ ∀ (j : Nat), j < cSz x y y_3.i →
  y_3.l.k j = (x.l.cat y.l).k j ∧ y_3.l.q j = (x.l.cat y.l).q j ∧ y_3.l.t j = (x.l.cat y.l).t j) ∧ (((True ∧ True ∧ (0 : Nat) = (0 : Nat) ∧ cSz x y y_2.i + x.len = cSz x y y_3.i ∧ cap' = y_3.c) ∧ (True ∧ True ∧ (0 : Nat) =
  (0 : Nat) ∧ (2 : Nat) = (2 : Nat) ∧ (2 : Nat) = (2 : Nat)) ∧ (2 : Int) = (2 : Int) ∧ IntKind.i64.wrap ((↑y_2.i : Int) + (1 : Int)) = (↑y_3.i : Int) ∧ True) ∧ ((0 : Nat) ≤ (0 : Nat) ∧ x.n = x.n ∧ ∀ (j : Nat), j < x.n →
  x.k j = x.k j ∧ x.q j = x.q j ∧ x.t j = x.t j ∧ True) ∧ ((0 : Nat) ≤ (0 : Nat) ∧ y.n = y.n ∧ ∀ (j : Nat), j < y.n → y.k j = y.k j ∧ y.q j = y.q j ∧ y.t j = y.t j ∧ True) ∧ ((0 : Nat) ≤ (0 : Nat) ∧ (2 : Nat) = (2 : Nat) ∧
  ∀ (j : Nat), j < (2 : Nat) → j.beq (0 : Nat) = j.beq (0 : Nat) ∧ (j.beq (0 : Nat) = true → (x.nil = true → x.nil = true) ∧ (x.nil = false → x.nil = false ∧ True ∧ True ∧ x.lo = x.lo ∧ x.len = x.len ∧ x.cap = x.cap)) ∧
  (j.beq (0 : Nat) = false → (y.nil = true → y.nil = true) ∧ (y.nil = false → y.nil = false ∧ True ∧ True ∧ y.lo = y.lo ∧ y.len = y.len ∧ y.cap = y.cap))) ∧ (y_3.c * (3 : Nat) ≤ cap' * (3 : Nat) ∧ y_3.N = cSz x y y_2.i +
  x.len ∧ ∀ (j : Nat), j < cSz x y y_2.i + x.len → (j.blt (cSz x y y_2.i) = true → y_2.l.k j = y_3.l.k j ∧ y_2.l.q j = y_3.l.q j ∧ y_2.l.t j = y_3.l.t j ∧ True) ∧ (j.blt (cSz x y y_2.i) = false → x.k (x.lo + (j - cSz x y
  y_2.i)) = y_3.l.k j ∧ x.q (x.lo + (j - cSz x y y_2.i)) = y_3.l.q j ∧ x.t (x.lo + (j - cSz x y y_2.i)) = y_3.l.t j ∧ True)) ∧ True) ∧ (catF2 x y).μ y_3 < (catF2 x y).μ y_2) ∨ ∃ (y_3 : Nat), (y_3 ≤ (2 : Nat) ∧ x.len +
  y.len = (0 : Nat)) ∧ ((False ∧ (True ∧ True ∧ (0 : Nat) = (0 : Nat) ∧ (2 : Nat) = (2 : Nat) ∧ (2 : Nat) = (2 : Nat)) ∧ (2 : Int) = (2 : Int) ∧ IntKind.i64.wrap ((↑y_2.i : Int) + (1 : Int)) = (↑y_3 : Int) ∧ True) ∧ ((0 :
  Nat) ≤ (0 : Nat) ∧ x.n = x.n ∧ ∀ (j : Nat), j < x.n → x.k j = x.k j ∧ x.q j = x.q j ∧ x.t j = x.t j ∧ True) ∧ ((0 : Nat) ≤ (0 : Nat) ∧ y.n = y.n ∧ ∀ (j : Nat), j < y.n → y.k j = y.k j ∧ y.q j = y.q j ∧ y.t j = y.t j ∧
  True) ∧ ((0 : Nat) ≤ (0 : Nat) ∧ (2 : Nat) = (2 : Nat) ∧ ∀ (j : Nat), j < (2 : Nat) → j.beq (0 : Nat) = j.beq (0 : Nat) ∧ (j.beq (0 : Nat) = true → (x.nil = true → x.nil = true) ∧ (x.nil = false → x.nil = false ∧ True ∧
  True ∧ x.lo = x.lo ∧ x.len = x.len ∧ x.cap = x.cap)) ∧ (j.beq (0 : Nat) = false → (y.nil = true → y.nil = true) ∧ (y.nil = false → y.nil = false ∧ True ∧ True ∧ y.lo = y.lo ∧ y.len = y.len ∧ y.cap = y.cap))) ∧ True) ∧
  (catF3 x y).μ y_3 < (catF2 x y).μ y_2) ∧ (((0 : Nat) + (↑y_2.i : Int).toNat).beq (0 : Nat) = false → (y.nil = true → y.len = (0 : Nat)) ∧ y.lo + y.len ≤ y.n ∧ ((0 : Nat) = (0 : Nat) ∧ cSz x y y_2.i ≤ y_2.N ∧ cSz x y
  y_2.i ≤ y_2.c ∧ y_2.c * (3 : Nat) ≤ y_2.c * (3 : Nat) ∧ (cSz x y y_2.i + y.len) * (24 : Nat) ≤ (140737488355328 : Nat) ∧ cSz x y y_2.i + y.len ≤ (9223372036854775807 : Nat) ∧ (∀ (_ : Nat), (3 : Nat) = (3 : Nat)) ∧ ∀ (_ :
  Nat), (3 : Nat) = (3 : Nat)) ∧ ∀ (cap' : Nat), cSz x y y_2.i + y.len ≤ cap' → (∃ (y_3 : CI), (y_3.i ≤ (2 : Nat) ∧ (0 : Nat) < x.len + y.len ∧ ((y_3.i = (0 : Nat) → y_3.N = x.len + y.len) ∧ (y_3.i ≠ (0 : Nat) → y_3.N =
  cSz x y y_3.i) ∧ cSz x y y_3.i ≤ y_3.c ∧ y_3.N ≤ y_3.c) ∧ ∀ (j : Nat), j < cSz x y y_3.i → y_3.l.k j = (x.l.cat y.l).k j ∧ y_3.l.q j = (x.l.cat y.l).q j ∧ y_3.l.t j = (x.l.cat y.l).t j) ∧ (((True ∧ True ∧ (0 : Nat) = (0
  : Nat) ∧ cSz x y y_2.i + y.len = cSz x y y_3.i ∧ cap' = y_3.c) ∧ (True ∧ True ∧ (0 : Nat) = (0 : Nat) ∧ (2 : Nat) = (2 : Nat) ∧ (2 : Nat) = (2 : Nat)) ∧ (2 : Int) = (2 : Int) ∧ IntKind.i64.wrap ((↑y_2.i : Int) + (1 :
  Int)) = (↑y_3.i : Int) ∧ True) ∧ ((0 : Nat) ≤ (0 : Nat) ∧ x.n = x.n ∧ ∀ (j : Nat), j < x.n → x.k j = x.k j ∧ x.q j = x.q j ∧ x.t j = x.t j ∧ True) ∧ ((0 : Nat) ≤ (0 : Nat) ∧ y.n = y.n ∧ ∀ (j : Nat), j < y.n → y.k j = y.k
  j ∧ y.q j = y.q j ∧ y.t j = y.t j ∧ True) ∧ ((0 : Nat) ≤ (0 : Nat) ∧ (2 : Nat) = (2 : Nat) ∧ ∀ (j : Nat), j < (2 : Nat) → j.beq (0 : Nat) = j.beq (0 : Nat) ∧ (j.beq (0 : Nat) = true → (x.nil = true → x.nil = true) ∧
  (x.nil = false → x.nil = false ∧ True ∧ True ∧ x.lo = x.lo ∧ x.len = x.len ∧ x.cap = x.cap)) ∧ (j.beq (0 : Nat) = false → (y.nil = true → y.nil = true) ∧ (y.nil = false → y.nil = false ∧ True ∧ True ∧ y.lo = y.lo ∧ y.len
  = y.len ∧ y.cap = y.cap))) ∧ (y_3.c * (3 : Nat) ≤ cap' * (3 : Nat) ∧ y_3.N = cSz x y y_2.i + y.len ∧ ∀ (j : Nat), j < cSz x y y_2.i + y.len → (j.blt (cSz x y y_2.i) = true → y_2.l.k j = y_3.l.k j ∧ y_2.l.q j = y_3.l.q j
  ∧ y_2.l.t j = y_3.l.t j ∧ True) ∧ (j.blt (cSz x y y_2.i) = false → y.k (y.lo + (j - cSz x y y_2.i)) = y_3.l.k j ∧ y.q (y.lo + (j - cSz x y y_2.i)) = y_3.l.q j ∧ y.t (y.lo + (j - cSz x y y_2.i)) = y_3.l.t j ∧ True)) ∧
  True) ∧ (catF2 x y).μ y_3 < (catF2 x y).μ y_2) ∨ ∃ (y_3 : Nat), (y_3 ≤ (2 : Nat) ∧ x.len + y.len = (0 : Nat)) ∧ ((False ∧ (True ∧ True ∧ (0 : Nat) = (0 : Nat) ∧ (2 : Nat) = (2 : Nat) ∧ (2 : Nat) = (2 : Nat)) ∧ (2 : Int)
  = (2 : Int) ∧ IntKind.i64.wrap ((↑y_2.i : Int) + (1 : Int)) = (↑y_3 : Int) ∧ True) ∧ ((0 : Nat) ≤ (0 : Nat) ∧ x.n = x.n ∧ ∀ (j : Nat), j < x.n → x.k j = x.k j ∧ x.q j = x.q j ∧ x.t j = x.t j ∧ True) ∧ ((0 : Nat) ≤ (0 :
  Nat) ∧ y.n = y.n ∧ ∀ (j : Nat), j < y.n → y.k j = y.k j ∧ y.q j = y.q j ∧ y.t j = y.t j ∧ True) ∧ ((0 : Nat) ≤ (0 : Nat) ∧ (2 : Nat) = (2 : Nat) ∧ ∀ (j : Nat), j < (2 : Nat) → j.beq (0 : Nat) = j.beq (0 : Nat) ∧ (j.beq
  (0 : Nat) = true → (x.nil = true → x.nil = true) ∧ (x.nil = false → x.nil = false ∧ True ∧ True ∧ x.lo = x.lo ∧ x.len = x.len ∧ x.cap = x.cap)) ∧ (j.beq (0 : Nat) = false → (y.nil = true → y.nil = true) ∧ (y.nil = false
  → y.nil = false ∧ True ∧ True ∧ y.lo = y.lo ∧ y.len = y.len ∧ y.cap = y.cap))) ∧ True) ∧ (catF3 x y).μ y_3 < (catF2 x y).μ y_2)) ∧ (decide ((↑y_2.i : Int) < (2 : Int)) = false → (x.Ok ∧ y.Ok) ∧ x.len ≤ (100 : Nat) ∧
  y.len ≤ (100 : Nat) → (x.len + y.len = (0 : Nat) → False ∧ True ∧ ((0 : Nat) ≤ (0 : Nat) ∧ x.n = x.n ∧ ∀ (j : Nat), j < x.n → x.k j = x.k j ∧ x.q j = x.q j ∧ x.t j = x.t j ∧ True) ∧ ((0 : Nat) ≤ (0 : Nat) ∧ y.n = y.n ∧ ∀
  (j : Nat), j < y.n → y.k j = y.k j ∧ y.q j = y.q j ∧ y.t j = y.t j ∧ True) ∧ ((0 : Nat) ≤ (0 : Nat) ∧ (2 : Nat) = (2 : Nat) ∧ ∀ (j : Nat), j < (2 : Nat) → j.beq (0 : Nat) = j.beq (0 : Nat) ∧ (j.beq (0 : Nat) = true →
  (x.nil = true → x.nil = true) ∧ (x.nil = false → x.nil = false ∧ True ∧ True ∧ x.lo = x.lo ∧ x.len = x.len ∧ x.cap = x.cap)) ∧ (j.beq (0 : Nat) = false → (y.nil = true → y.nil = true) ∧ (y.nil = false → y.nil = false ∧
  True ∧ True ∧ y.lo = y.lo ∧ y.len = y.len ∧ y.cap = y.cap))) ∧ True) ∧ (¬x.len + y.len = (0 : Nat) → ∃ (x_2 : Nat), x.len + y.len ≤ x_2 ∧ (True ∧ True ∧ (0 : Nat) = (0 : Nat) ∧ cSz x y y_2.i = x.len + y.len ∧ y_2.c =
  x_2) ∧ True ∧ ((0 : Nat) ≤ (0 : Nat) ∧ x.n = x.n ∧ ∀ (j : Nat), j < x.n → x.k j = x.k j ∧ x.q j = x.q j ∧ x.t j = x.t j ∧ True) ∧ ((0 : Nat) ≤ (0 : Nat) ∧ y.n = y.n ∧ ∀ (j : Nat), j < y.n → y.k j = y.k j ∧ y.q j = y.q j
  ∧ y.t j = y.t j ∧ True) ∧ ((0 : Nat) ≤ (0 : Nat) ∧ (2 : Nat) = (2 : Nat) ∧ ∀ (j : Nat), j < (2 : Nat) → j.beq (0 : Nat) = j.beq (0 : Nat) ∧ (j.beq (0 : Nat) = true → (x.nil = true → x.nil = true) ∧ (x.nil = false → x.nil
  = false ∧ True ∧ True ∧ x.lo = x.lo ∧ x.len = x.len ∧ x.cap = x.cap)) ∧ (j.beq (0 : Nat) = false → (y.nil = true → y.nil = true) ∧ (y.nil = false → y.nil = false ∧ True ∧ True ∧ y.lo = y.lo ∧ y.len = y.len ∧ y.cap =
  y.cap))) ∧ (x_2 * (3 : Nat) ≤ y_2.c * (3 : Nat) ∧ (x.l.cat y.l).n = y_2.N ∧ ∀ (j : Nat), j < y_2.N → y_2.l.k j = (x.l.cat y.l).k j ∧ y_2.l.q j = (x.l.cat y.l).q j ∧ y_2.l.t j = (x.l.cat y.l).t j ∧ True) ∧ True))) ∧ ∀
  (y_2 : Nat), y_2 ≤ (2 : Nat) ∧ x.len + y.len = (0 : Nat) → (decide ((↑y_2 : Int) < (2 : Int)) = true → ((0 : Int) ≤ (↑y_2 : Int) ∧ (↑y_2 : Int) < (↑(2 : Nat) : Int)) ∧ (0 : Nat) + (↑y_2 : Int).toNat < (2 : Nat) ∧ (((0 :
  Nat) + (↑y_2 : Int).toNat).beq (0 : Nat) = true → (x.nil = true → x.len = (0 : Nat)) ∧ x.lo + x.len ≤ x.n ∧ (x.len = (0 : Nat) → (∃ (y_3 : CI), (y_3.i ≤ (2 : Nat) ∧ (0 : Nat) < x.len + y.len ∧ ((y_3.i = (0 : Nat) → y_3.N
  = x.len + y.len) ∧ (y_3.i ≠ (0 : Nat) → y_3.N = cSz x y y_3.i) ∧ cSz x y y_3.i ≤ y_3.c ∧ y_3.N ≤ y_3.c) ∧ ∀ (j : Nat), j < cSz x y y_3.i → y_3.l.k j = (x.l.cat y.l).k j ∧ y_3.l.q j = (x.l.cat y.l).q j ∧ y_3.l.t j =
  (x.l.cat y.l).t j) ∧ False ∧ (catF2 x y).μ y_3 < (catF3 x y).μ y_2) ∨ ∃ (y_3 : Nat), (y_3 ≤ (2 : Nat) ∧ x.len + y.len = (0 : Nat)) ∧ ((True ∧ (True ∧ True ∧ (0 : Nat) = (0 : Nat) ∧ (2 : Nat) = (2 : Nat) ∧ (2 : Nat) = (2
  : Nat)) ∧ (2 : Int) = (2 : Int) ∧ IntKind.i64.wrap ((↑y_2 : Int) + (1 : Int)) = (↑y_3 : Int) ∧ True) ∧ ((0 : Nat) ≤ (0 : Nat) ∧ x.n = x.n ∧ ∀ (j : Nat), j < x.n → x.k j = x.k j ∧ x.q j = x.q j ∧ x.t j = x.t j ∧ True) ∧
  ((0 : Nat) ≤ (0 : Nat) ∧ y.n = y.n ∧ ∀ (j : Nat), j < y.n → y.k j = y.k j ∧ y.q j = y.q j ∧ y.t j = y.t j ∧ True) ∧ ((0 : Nat) ≤ (0 : Nat) ∧ (2 : Nat) = (2 : Nat) ∧ ∀ (j : Nat), j < (2 : Nat) → j.beq (0 : Nat) = j.beq (0
  : Nat) ∧ (j.beq (0 : Nat) = true → (x.nil = true → x.nil = true) ∧ (x.nil = false → x.nil = false ∧ True ∧ True ∧ x.lo = x.lo ∧ x.len = x.len ∧ x.cap = x.cap)) ∧ (j.beq (0 : Nat) = false → (y.nil = true → y.nil = true) ∧
  (y.nil = false → y.nil = false ∧ True ∧ True ∧ y.lo = y.lo ∧ y.len = y.len ∧ y.cap = y.cap))) ∧ True) ∧ (catF3 x y).μ y_3 < (catF3 x y).μ y_2) ∧ (x.len ≠ (0 : Nat) → x.len * (24 : Nat) ≤ (140737488355328 : Nat) ∧ x.len ≤
  (9223372036854775807 : Nat) ∧ ∀ (cap : Nat), x.len ≤ cap → (∃ (y_3 : CI), (y_3.i ≤ (2 : Nat) ∧ (0 : Nat) < x.len + y.len ∧ ((y_3.i = (0 : Nat) → y_3.N = x.len + y.len) ∧ (y_3.i ≠ (0 : Nat) → y_3.N = cSz x y y_3.i) ∧ cSz
  x y y_3.i ≤ y_3.c ∧ y_3.N ≤ y_3.c) ∧ ∀ (j : Nat), j < cSz x y y_3.i → y_3.l.k j = (x.l.cat y.l).k j ∧ y_3.l.q j = (x.l.cat y.l).q j ∧ y_3.l.t j = (x.l.cat y.l).t j) ∧ (((True ∧ True ∧ (0 : Nat) = (0 : Nat) ∧ x.len = cSz
  x y y_3.i ∧ cap = y_3.c) ∧ (True ∧ True ∧ (0 : Nat) = (0 : Nat) ∧ (2 : Nat) = (2 : Nat) ∧ (2 : Nat) = (2 : Nat)) ∧ (2 : Int) = (2 : Int) ∧ IntKind.i64.wrap ((↑y_2 : Int) + (1 : Int)) = (↑y_3.i : Int) ∧ True) ∧ ((0 : Nat)
  ≤ (0 : Nat) ∧ x.n = x.n ∧ ∀ (j : Nat), j < x.n → x.k j = x.k j ∧ x.q j = x.q j ∧ x.t j = x.t j ∧ True) ∧ ((0 : Nat) ≤ (0 : Nat) ∧ y.n = y.n ∧ ∀ (j : Nat), j < y.n → y.k j = y.k j ∧ y.q j = y.q j ∧ y.t j = y.t j ∧ True) ∧
  ((0 : Nat) ≤ (0 : Nat) ∧ (2 : Nat) = (2 : Nat) ∧ ∀ (j : Nat), j < (2 : Nat) → j.beq (0 : Nat) = j.beq (0 : Nat) ∧ (j.beq (0 : Nat) = true → (x.nil = true → x.nil = true) ∧ (x.nil = false → x.nil = false ∧ True ∧ True ∧
  x.lo = x.lo ∧ x.len = x.len ∧ x.cap = x.cap)) ∧ (j.beq (0 : Nat) = false → (y.nil = true → y.nil = true) ∧ (y.nil = false → y.nil = false ∧ True ∧ True ∧ y.lo = y.lo ∧ y.len = y.len ∧ y.cap = y.cap))) ∧ (y_3.c * (3 :
  Nat) ≤ cap * (3 : Nat) ∧ y_3.N = x.len ∧ ∀ (j : Nat), j < x.len → x.k (x.lo + j) = y_3.l.k j ∧ x.q (x.lo + j) = y_3.l.q j ∧ x.t (x.lo + j) = y_3.l.t j ∧ True) ∧ True) ∧ (catF2 x y).μ y_3 < (catF3 x y).μ y_2) ∨ ∃ (y_3 :
  Nat), (y_3 ≤ (2 : Nat) ∧ x.len + y.len = (0 : Nat)) ∧ ((False ∧ (True ∧ True ∧ (0 : Nat) = (0 : Nat) ∧ (2 : Nat) = (2 : Nat) ∧ (2 : Nat) = (2 : Nat)) ∧ (2 : Int) = (2 : Int) ∧ IntKind.i64.wrap ((↑y_2 : Int) + (1 : Int))
  = (↑y_3 : Int) ∧ True) ∧ ((0 : Nat) ≤ (0 : Nat) ∧ x.n = x.n ∧ ∀ (j : Nat), j < x.n → x.k j = x.k j ∧ x.q j = x.q j ∧ x.t j = x.t j ∧ True) ∧ ((0 : Nat) ≤ (0 : Nat) ∧ y.n = y.n ∧ ∀ (j : Nat), j < y.n → y.k j = y.k j ∧ y.q
  j = y.q j ∧ y.t j = y.t j ∧ True) ∧ ((0 : Nat) ≤ (0 : Nat) ∧ (2 : Nat) = (2 : Nat) ∧ ∀ (j : Nat), j < (2 : Nat) → j.beq (0 : Nat) = j.beq (0 : Nat) ∧ (j.beq (0 : Nat) = true → (x.nil = true → x.nil = true) ∧ (x.nil =
  false → x.nil = false ∧ True ∧ True ∧ x.lo = x.lo ∧ x.len = x.len ∧ x.cap = x.cap)) ∧ (j.beq (0 : Nat) = false → (y.nil = true → y.nil = true) ∧ (y.nil = false → y.nil = false ∧ True ∧ True ∧ y.lo = y.lo ∧ y.len = y.len
  ∧ y.cap = y.cap))) ∧ True) ∧ (catF3 x y).μ y_3 < (catF3 x y).μ y_2)) ∧ (((0 : Nat) + (↑y_2 : Int).toNat).beq (0 : Nat) = false → (y.nil = true → y.len = (0 : Nat)) ∧ y.lo + y.len ≤ y.n ∧ (y.len = (0 : Nat) → (∃ (y_3 :
  CI), (y_3.i ≤ (2 : Nat) ∧ (0 : Nat) < x.len + y.len ∧ ((y_3.i = (0 : Nat) → y_3.N = x.len + y.len) ∧ (y_3.i ≠ (0 : Nat) → y_3.N = cSz x y y_3.i) ∧ cSz x y y_3.i ≤ y_3.c ∧ y_3.N ≤ y_3.c) ∧ ∀ (j : Nat), j < cSz x y y_3.i →
  y_3.l.k j = (x.l.cat y.l).k j ∧ y_3.l.q j = (x.l.cat y.l).q j ∧ y_3.l.t j = (x.l.cat y.l).t j) ∧ False ∧ (catF2 x y).μ y_3 < (catF3 x y).μ y_2) ∨ ∃ (y_3 : Nat), (y_3 ≤ (2 : Nat) ∧ x.len + y.len = (0 : Nat)) ∧ ((True ∧
  (True ∧ True ∧ (0 : Nat) = (0 : Nat) ∧ (2 : Nat) = (2 : Nat) ∧ (2 : Nat) = (2 : Nat)) ∧ (2 : Int) = (2 : Int) ∧ IntKind.i64.wrap ((↑y_2 : Int) + (1 : Int)) = (↑y_3 : Int) ∧ True) ∧ ((0 : Nat) ≤ (0 : Nat) ∧ x.n = x.n ∧ ∀
  (j : Nat), j < x.n → x.k j = x.k j ∧ x.q j = x.q j ∧ x.t j = x.t j ∧ True) ∧ ((0 : Nat) ≤ (0 : Nat) ∧ y.n = y.n ∧ ∀ (j : Nat), j < y.n → y.k j = y.k j ∧ y.q j = y.q j ∧ y.t j = y.t j ∧ True) ∧ ((0 : Nat) ≤ (0 : Nat) ∧ (2
  : Nat) = (2 : Nat) ∧ ∀ (j : Nat), j < (2 : Nat) → j.beq (0 : Nat) = j.beq (0 : Nat) ∧ (j.beq (0 : Nat) = true → (x.nil = true → x.nil = true) ∧ (x.nil = false → x.nil = false ∧ True ∧ True ∧ x.lo = x.lo ∧ x.len = x.len ∧
  x.cap = x.cap)) ∧ (j.beq (0 : Nat) = false → (y.nil = true → y.nil = true) ∧ (y.nil = false → y.nil = false ∧ True ∧ True ∧ y.lo = y.lo ∧ y.len = y.len ∧ y.cap = y.cap))) ∧ True) ∧ (catF3 x y).μ y_3 < (catF3 x y).μ y_2)
  ∧ (y.len ≠ (0 : Nat) → y.len * (24 : Nat) ≤ (140737488355328 : Nat) ∧ y.len ≤ (9223372036854775807 : Nat) ∧ ∀ (cap : Nat), y.len ≤ cap → (∃ (y_3 : CI), (y_3.i ≤ (2 : Nat) ∧ (0 : Nat) < x.len + y.len ∧ ((y_3.i = (0 : Nat)
  → y_3.N = x.len + y.len) ∧ (y_3.i ≠ (0 : Nat) → y_3.N = cSz x y y_3.i) ∧ cSz x y y_3.i ≤ y_3.c ∧ y_3.N ≤ y_3.c) ∧ ∀ (j : Nat), j < cSz x y y_3.i → y_3.l.k j = (x.l.cat y.l).k j ∧ y_3.l.q j = (x.l.cat y.l).q j ∧ y_3.l.t j
  = (x.l.cat y.l).t j) ∧ (((True ∧ True ∧ (0 : Nat) = (0 : Nat) ∧ y.len = cSz x y y_3.i ∧ cap = y_3.c) ∧ (True ∧ True ∧ (0 : Nat) = (0 : Nat) ∧ (2 : Nat) = (2 : Nat) ∧ (2 : Nat) = (2 : Nat)) ∧ (2 : Int) = (2 : Int) ∧
  IntKind.i64.wrap ((↑y_2 : Int) + (1 : Int)) = (↑y_3.i : Int) ∧ True) ∧ ((0 : Nat) ≤ (0 : Nat) ∧ x.n = x.n ∧ ∀ (j : Nat), j < x.n → x.k j = x.k j ∧ x.q j = x.q j ∧ x.t j = x.t j ∧ True) ∧ ((0 : Nat) ≤ (0 : Nat) ∧ y.n =
  y.n ∧ ∀ (j : Nat), j < y.n → y.k j = y.k j ∧ y.q j = y.q j ∧ y.t j = y.t j ∧ True) ∧ ((0 : Nat) ≤ (0 : Nat) ∧ (2 : Nat) = (2 : Nat) ∧ ∀ (j : Nat), j < (2 : Nat) → j.beq (0 : Nat) = j.beq (0 : Nat) ∧ (j.beq (0 : Nat) =
  true → (x.nil = true → x.nil = true) ∧ (x.nil = false → x.nil = false ∧ True ∧ True ∧ x.lo = x.lo ∧ x.len = x.len ∧ x.cap = x.cap)) ∧ (j.beq (0 : Nat) = false → (y.nil = true → y.nil = true) ∧ (y.nil = false → y.nil =
  false ∧ True ∧ True ∧ y.lo = y.lo ∧ y.len = y.len ∧ y.cap = y.cap))) ∧ (y_3.c * (3 : Nat) ≤ cap * (3 : Nat) ∧ y_3.N = y.len ∧ ∀ (j : Nat), j < y.len → y.k (y.lo + j) = y_3.l.k j ∧ y.q (y.lo + j) = y_3.l.q j ∧ y.t (y.lo +
  j) = y_3.l.t j ∧ True) ∧ True) ∧ (catF2 x y).μ y_3 < (catF3 x y).μ y_2) ∨ ∃ (y_3 : Nat), (y_3 ≤ (2 : Nat) ∧ x.len + y.len = (0 : Nat)) ∧ ((False ∧ (True ∧ True ∧ (0 : Nat) = (0 : Nat) ∧ (2 : Nat) = (2 : Nat) ∧ (2 : Nat)
  = (2 : Nat)) ∧ (2 : Int) = (2 : Int) ∧ IntKind.i64.wrap ((↑y_2 : Int) + (1 : Int)) = (↑y_3 : Int) ∧ True) ∧ ((0 : Nat) ≤ (0 : Nat) ∧ x.n = x.n ∧ ∀ (j : Nat), j < x.n → x.k j = x.k j ∧ x.q j = x.q j ∧ x.t j = x.t j ∧
  True) ∧ ((0 : Nat) ≤ (0 : Nat) ∧ y.n = y.n ∧ ∀ (j : Nat), j < y.n → y.k j = y.k j ∧ y.q j = y.q j ∧ y.t j = y.t j ∧ True) ∧ ((0 : Nat) ≤ (0 : Nat) ∧ (2 : Nat) = (2 : Nat) ∧ ∀ (j : Nat), j < (2 : Nat) → j.beq (0 : Nat) =
  j.beq (0 : Nat) ∧ (j.beq (0 : Nat) = true → (x.nil = true → x.nil = true) ∧ (x.nil = false → x.nil = false ∧ True ∧ True ∧ x.lo = x.lo ∧ x.len = x.len ∧ x.cap = x.cap)) ∧ (j.beq (0 : Nat) = false → (y.nil = true → y.nil
  = true) ∧ (y.nil = false → y.nil = false ∧ True ∧ True ∧ y.lo = y.lo ∧ y.len = y.len ∧ y.cap = y.cap))) ∧ True) ∧ (catF3 x y).μ y_3 < (catF3 x y).μ y_2))) ∧ (decide ((↑y_2 : Int) < (2 : Int)) = false → (x.Ok ∧ y.Ok) ∧
  x.len ≤ (100 : Nat) ∧ y.len ≤ (100 : Nat) → (x.len + y.len = (0 : Nat) → True ∧ True ∧ ((0 : Nat) ≤ (0 : Nat) ∧ x.n = x.n ∧ ∀ (j : Nat), j < x.n → x.k j = x.k j ∧ x.q j = x.q j ∧ x.t j = x.t j ∧ True) ∧ ((0 : Nat) ≤ (0 :
  Nat) ∧ y.n = y.n ∧ ∀ (j : Nat), j < y.n → y.k j = y.k j ∧ y.q j = y.q j ∧ y.t j = y.t j ∧ True) ∧ ((0 : Nat) ≤ (0 : Nat) ∧ (2 : Nat) = (2 : Nat) ∧ ∀ (j : Nat), j < (2 : Nat) → j.beq (0 : Nat) = j.beq (0 : Nat) ∧ (j.beq
  (0 : Nat) = true → (x.nil = true → x.nil = true) ∧ (x.nil = false → x.nil = false ∧ True ∧ True ∧ x.lo = x.lo ∧ x.len = x.len ∧ x.cap = x.cap)) ∧ (j.beq (0 : Nat) = false → (y.nil = true → y.nil = true) ∧ (y.nil = false
  → y.nil = false ∧ True ∧ True ∧ y.lo = y.lo ∧ y.len = y.len ∧ y.cap = y.cap))) ∧ True) ∧ (¬x.len + y.len = (0 : Nat) → ∃ (x_2 : Nat), x.len + y.len ≤ x_2 ∧ False ∧ False)))) := by
  simp only [true_and, and_true, eq_self, Nat.le_refl, decide_eq_true_eq, decide_eq_false_iff_not, implies_true, and_self, Int.not_lt, ne_eq, Nat.zero_add, Int.toNat_natCast, nblt_true, nblt_false, IntKind.wrap_i64]
  intro x y hxy v0 hv0
  have hI1 : ∀ z : Nat, (catF1 x y).I z = (z ≤ 2) := fun _ => rfl
  have hM1 : ∀ z : Nat, (catF1 x y).μ z = 2 - z := fun _ => rfl
  have hM2 : ∀ z : CI, (catF2 x y).μ z = 2 - z.i := fun _ => rfl
  have hM3 : ∀ z : Nat, (catF3 x y).μ z = 2 - z := fun _ => rfl
  simp only [hI1, hM1, hM2, hM3, imp_self, implies_true, and_true, true_and, false_and, and_false, exists_false, or_false, false_or]
  obtain ⟨⟨⟨hx1, hx2⟩, hy1, hy2⟩, hxl, hyl⟩ := hxy
  have c0 : cSz x y 0 = 0 := rfl
  have c1 : cSz x y 1 = x.len := rfl
  have c2 : cSz x y 2 = x.len + y.len := rfl
  have en : x.l.n = x.len := rfl
  clear hI1 hM1 hM2 hM3
  refine ⟨⟨0, by decide, hv0, rfl, rfl⟩, fun i hi => ⟨fun hlt => ⟨⟨by omega, hlt⟩, by omega, fun hb => ?_, fun hb => ?_⟩, fun hge => ?_⟩⟩
  · have e : i = 0 := Nat.eq_of_beq_eq_true hb
    subst e
    refine ⟨hx1, fun v hv => ?_⟩
    rw [c0] at hv
    exact ⟨fun h => by omega, fun _ => ⟨1, by decide, ⟨by rw [c1]; omega, by decide⟩, by decide⟩⟩
  · have e : i ≠ 0 := Nat.ne_of_beq_eq_false hb
    have e : i = 1 := by omega
    subst e
    refine ⟨hy1, fun v hv => ?_⟩
    rw [c1] at hv
    exact ⟨fun h => by omega, fun _ => ⟨2, by decide, ⟨by rw [c2]; omega, by decide⟩, by decide⟩⟩
  · have e : i = 2 := by omega
    subst e
    simp only [c2]
    refine (fun bodyA bodyB => ⟨⟨by omega, by omega⟩, fun h0 => ⟨⟨0, ⟨by decide, by omega⟩, rfl, rfl⟩, bodyA, bodyB⟩, fun hne c hc => ⟨⟨⟨0, c, x.len + y.len, ⟨0, fun _ => 0, fun _ => 0, fun _ => 0⟩⟩, ⟨(by dsimp only; omega), by omega, ⟨fun _ => rfl, fun h => absurd rfl h, Nat.zero_le _, hc⟩, fun j hj => absurd hj (Nat.not_lt_zero j)⟩, ⟨⟨rfl, rfl⟩, rfl, rfl⟩, Nat.le_refl _, rfl, fun j _ => ⟨rfl, rfl, rfl⟩⟩, bodyA, bodyB⟩⟩) ?_ ?_
    · rintro ⟨i, c, N, l⟩ ⟨hi, hpos, ⟨hN0, hN1, hc, hNc⟩, hl⟩
      dsimp only at hi hN0 hN1 hc hNc hl ⊢
      refine ⟨fun hlt => ⟨⟨by omega, hlt⟩, by omega, fun hb => ?_, fun hb => ?_⟩, fun hge hall => ⟨fun h => by omega, fun _ => ?_⟩⟩
      · have e : i = 0 := Nat.eq_of_beq_eq_true hb
        subst e
        simp only [c0, Nat.zero_add, Nat.sub_zero]
        refine ⟨hx1, hx2, ⟨Nat.zero_le _, Nat.zero_le _, by omega, by omega⟩, fun cap hcap => ⟨⟨1, cap, x.len, x.l.cat y.l⟩, ⟨(by dsimp only; omega), hpos, ⟨fun h => (nomatch h), fun _ => rfl, hcap, hcap⟩, fun j _ => ⟨rfl, rfl, rfl⟩⟩, ⟨⟨⟨rfl, rfl⟩, (by dsimp only; omega)⟩, Nat.le_refl _, rfl, fun j hj => ⟨fun h => absurd h (Nat.not_lt_zero j), fun _ => ?_⟩⟩, (by dsimp only; omega)⟩⟩
        obtain ⟨a1, a2, a3⟩ := LL.cat_lo (b := x.l) (e := y.l) (j := j) hj
        exact ⟨a1.symm, a2.symm, a3.symm⟩
      · have e : i ≠ 0 := Nat.ne_of_beq_eq_false hb
        have e : i = 1 := by omega
        subst e
        have hN := hN1 (by decide)
        simp only [c1] at hN hc hl ⊢
        refine ⟨hy1, hy2, ⟨by omega, by omega, by omega, by omega⟩, fun cap hcap => ⟨⟨2, cap, x.len + y.len, x.l.cat y.l⟩, ⟨(by dsimp only; omega), hpos, ⟨fun h => (nomatch h), fun _ => rfl, hcap, hcap⟩, fun j _ => ⟨rfl, rfl, rfl⟩⟩, ⟨⟨⟨rfl, rfl⟩, (by dsimp only; omega)⟩, Nat.le_refl _, rfl, fun j hj => ⟨fun h => hl j h, fun h => ?_⟩⟩, (by dsimp only; omega)⟩⟩
        obtain ⟨a1, a2, a3⟩ := LL.cat_hi (b := x.l) (e := y.l) (j := j) h
        exact ⟨a1.symm, a2.symm, a3.symm⟩
      · have e : i = 2 := by omega
        subst e
        have hN := hN1 (by decide)
        simp only [c2] at hN hc hl ⊢
        subst hN
        exact ⟨c, hc, ⟨trivial, rfl⟩, Nat.le_refl _, rfl, hl⟩
    · rintro i ⟨hi, h0⟩
      exact ⟨fun hlt => ⟨⟨by omega, hlt⟩, by omega, fun _ => ⟨hx1, hx2, fun _ => ⟨i + 1, ⟨by omega, h0⟩, by omega, by omega⟩, fun h => by omega⟩, fun _ => ⟨hy1, hy2, fun _ => ⟨i + 1, ⟨by omega, h0⟩, by omega, by omega⟩, fun h => by omega⟩⟩, fun _ _ h => h h0⟩

def cat_C (x : (LS × LS)) : Cfg := { Γ := Go.Sx.look tCat, names := true, loops := catL (x.1) (x.2) }
theorem cat_al (x : (LS × LS)) : Shown (catP.vc Try.prog (cat_C x) Try.f46 x) := ⟨@Eq.mp _ _ (by kernel_rfl) (cat_vc (x.1) (x.2))⟩
theorem cat_ok : SpOk Try.prog 46 catP.sp := @Pat.okS _ catP Try.prog cat_C 46 Try.f46 (fun x => cfg_tab rfl tCat_ok) (by kernel_rfl) Try.func46 (fun _ => rfl) cat_al
def cmpP2 : Pat ((Int × Int × Int) × (Int × Int × Int)) where
  view | [.cons (.int .i64 k) (.cons (.int .u64 q) (.cons (.int .u64 t) .nil)), .cons (.int .i64 k2) (.cons (.int .u64 q2) (.cons (.int .u64 t2) .nil))], _ => some ((k, q, t), (k2, q2, t2)) | _, _ => none
  args x := [ldT x.1.1 x.1.2.1 x.1.2.2, ldT x.2.1 x.2.2.1 x.2.2.2]
  H _ := []
  out x := .need ((0 ≤ x.1.2.2 ∧ x.1.2.2 ≤ 8192) ∧ 0 ≤ x.2.2.2 ∧ x.2.2.2 ≤ 8192) (.retq (.int .i64 (x.1.2.2 - x.2.2.2)))
theorem cmpT_vc : ∀ (_ _ t _ _ t2 : Int), (((0 : Int) ≤ t ∧ t ≤ (8192 : Int)) ∧ (0 : Int) ≤ t2 ∧ t2 ≤ (8192 : Int)) ∧ True → ∀ (v : Int), v = (0 : Int) → ∀ (v : Int), v = IntKind.i64.wrap (IntKind.i64.wrap t - IntKind.i64.wrap t2) → ((0
  : Int) ≤ t ∧ t ≤ (8192 : Int)) ∧ (0 : Int) ≤ t2 ∧ t2 ≤ (8192 : Int) → v = t - t2 ∧ True ∧ True := by
  simp only [and_true, and_self, IntKind.wrap_i64]
  rintro k q t k2 q2 t2 h v0 _ v hv _
  omega

def cmpT_C (_ : ((Int × Int × Int) × (Int × Int × Int))) : Cfg := { Γ := Go.Sx.look [], names := true }
theorem cmpT_al (x : ((Int × Int × Int) × (Int × Int × Int))) : Shown (cmpP2.vc Try.prog (cmpT_C x) Try.f49 x) := ⟨@Eq.mp _ _ (by kernel_rfl) (cmpT_vc (x.1.1) (x.1.2.1) (x.1.2.2) (x.2.1) (x.2.2.1) (x.2.2.2))⟩
theorem cmpT_ok : SpOk Try.prog 49 cmpP2.sp := @Pat.okS _ cmpP2 Try.prog cmpT_C 49 Try.f49 (fun x => cfg_nil rfl) (by kernel_rfl) Try.func49 (fun _ => rfl) cmpT_al
def tMin : Tab := [(49, cmpP2.sp)]
theorem tMin_ok : TabOk Try.prog tMin := (tab_cons cmpT_ok tab_nil)

/-- The place of the least period. -/
def LL.am (l : LL) : Nat → Nat
  | 0 => 0
  | m + 1 => if l.t (m + 1) < l.t (l.am m) then m + 1 else l.am m
theorem LL.am_le (l : LL) : ∀ m, l.am m ≤ m
  | 0 => Nat.le_refl _
  | m + 1 => by
    have := l.am_le m
    simp only [LL.am]
    split <;> omega
theorem LL.am_min (l : LL) : ∀ m j, j ≤ m → l.t (l.am m) ≤ l.t j
  | 0, j, h => by
    have : j = 0 := by omega
    subst this
    exact Int.le_refl _
  | m + 1, j, h => by
    simp only [LL.am]
    by_cases e : j = m + 1
    · subst e
      split <;> omega
    · have := l.am_min m j (by omega)
      split <;> omega
def minP : Pat LS where
  view | [t, .fn 49 .nil], H => some (viewL t H) | _, _ => none
  args x := [x.v 0, .fn 49 .nil]
  H x := [x.reg]
  out x := .need (x.Ok ∧ (1 ≤ x.len ∧ x.len ≤ 8) ∧ x.l.all) (.retq (ldT (x.l.k (x.l.am (x.len - 1))) (x.l.q (x.l.am (x.len - 1))) (x.l.t (x.l.am (x.len - 1)))))
def minF (x : LS) : Fam where
  α := Nat
  I i := 1 ≤ i ∧ i ≤ x.len
  st i := { sl := mkSl 33 [(0, x.v 0), (1, .fn 49 .nil), (4, p0 1), (5, p0 2), (6, .int .i64 i)], H := [x.reg, newReg 40 (ldT 0 0 0), newReg 40 (ldT (x.l.k (x.l.am (i - 1))) (x.l.q (x.l.am (i - 1))) (x.l.t (x.l.am (i - 1))))] }
  μ i := x.len - i
theorem mini_vc : ∀ (x : LS), (x.Ok ∧ ((1 : Nat) ≤ x.len ∧ x.len ≤ (8 : Nat)) ∧ x.l.all) ∧ True → (x.nil = true → x.len = (0 : Nat)) ∧ (decide ((↑x.len : Int) < (1 : Int)) = true → False) ∧ (decide ((↑x.len : Int) < (1 : Int)) = false →
  (x.nil = true → x.len = (0 : Nat)) ∧ ((0 : Int) ≤ (0 : Int) ∧ (0 : Int) < (↑x.len : Int)) ∧ x.lo + Int.toNat (0 : Int) < x.n ∧ ∀ (v : Int), v = (1 : Int) → (∃ (y : Nat), ((1 : Nat) ≤ y ∧ y ≤ x.len) ∧ ((((x.nil = true →
  x.nil = true) ∧ (x.nil = false → x.nil = false ∧ True ∧ True ∧ x.lo = x.lo ∧ x.len = x.len ∧ x.cap = x.cap)) ∧ True ∧ (True ∧ True) ∧ (True ∧ True) ∧ v = (↑y : Int) ∧ True) ∧ ((0 : Nat) ≤ (0 : Nat) ∧ x.n = x.n ∧ ∀ (j :
  Nat), j < x.n → x.k j = x.k j ∧ x.q j = x.q j ∧ x.t j = x.t j ∧ True) ∧ ((3 : Nat) ≤ (3 : Nat) ∧ (0 : Int) = (0 : Int) ∧ (0 : Int) = (0 : Int) ∧ (0 : Int) = (0 : Int) ∧ True) ∧ ((3 : Nat) ≤ (3 : Nat) ∧ x.k (x.lo +
  Int.toNat (0 : Int)) = x.l.k (x.l.am (y - (1 : Nat))) ∧ x.q (x.lo + Int.toNat (0 : Int)) = x.l.q (x.l.am (y - (1 : Nat))) ∧ x.t (x.lo + Int.toNat (0 : Int)) = x.l.t (x.l.am (y - (1 : Nat))) ∧ True) ∧ True) ∧ True) ∧ ∀ (y
  : Nat), (1 : Nat) ≤ y ∧ y ≤ x.len → (x.nil = true → x.len = (0 : Nat)) ∧ (decide ((↑y : Int) < (↑x.len : Int)) = true → (x.nil = true → x.len = (0 : Nat)) ∧ ((0 : Int) ≤ (↑y : Int) ∧ (↑y : Int) < (↑x.len : Int)) ∧ x.lo +
  (↑y : Int).toNat < x.n ∧ (((x.k (x.lo + (↑y : Int).toNat) = x.k (x.lo + (↑y : Int).toNat) ∧ x.q (x.lo + (↑y : Int).toNat) = x.q (x.lo + (↑y : Int).toNat) ∧ x.t (x.lo + (↑y : Int).toNat) = x.t (x.lo + (↑y : Int).toNat) ∧
  True) ∧ (x.l.k (x.l.am (y - (1 : Nat))) = x.l.k (x.l.am (y - (1 : Nat))) ∧ x.l.q (x.l.am (y - (1 : Nat))) = x.l.q (x.l.am (y - (1 : Nat))) ∧ x.l.t (x.l.am (y - (1 : Nat))) = x.l.t (x.l.am (y - (1 : Nat))) ∧ True) ∧ True)
  ∧ True) ∧ (((0 : Int) ≤ x.t (x.lo + (↑y : Int).toNat) ∧ x.t (x.lo + (↑y : Int).toNat) ≤ (8192 : Int)) ∧ (0 : Int) ≤ x.l.t (x.l.am (y - (1 : Nat))) ∧ x.l.t (x.l.am (y - (1 : Nat))) ≤ (8192 : Int)) ∧ (decide (x.t (x.lo +
  (↑y : Int).toNat) - x.l.t (x.l.am (y - (1 : Nat))) < (0 : Int)) = true → (x.nil = true → x.len = (0 : Nat)) ∧ ((0 : Int) ≤ (↑y : Int) ∧ (↑y : Int) < (↑x.len : Int)) ∧ x.lo + (↑y : Int).toNat < x.n ∧ ∀ (v : Int), v =
  IntKind.i64.wrap ((↑y : Int) + (1 : Int)) → ∃ (y_1 : Nat), ((1 : Nat) ≤ y_1 ∧ y_1 ≤ x.len) ∧ ((((x.nil = true → x.nil = true) ∧ (x.nil = false → x.nil = false ∧ True ∧ True ∧ x.lo = x.lo ∧ x.len = x.len ∧ x.cap = x.cap))
  ∧ True ∧ (True ∧ True) ∧ (True ∧ True) ∧ v = (↑y_1 : Int) ∧ True) ∧ ((0 : Nat) ≤ (0 : Nat) ∧ x.n = x.n ∧ ∀ (j : Nat), j < x.n → x.k j = x.k j ∧ x.q j = x.q j ∧ x.t j = x.t j ∧ True) ∧ ((3 : Nat) ≤ (3 : Nat) ∧ (0 : Int) =
  (0 : Int) ∧ (0 : Int) = (0 : Int) ∧ (0 : Int) = (0 : Int) ∧ True) ∧ ((3 : Nat) ≤ (3 : Nat) ∧ x.k (x.lo + (↑y : Int).toNat) = x.l.k (x.l.am (y_1 - (1 : Nat))) ∧ x.q (x.lo + (↑y : Int).toNat) = x.l.q (x.l.am (y_1 - (1 :
  Nat))) ∧ x.t (x.lo + (↑y : Int).toNat) = x.l.t (x.l.am (y_1 - (1 : Nat))) ∧ True) ∧ True) ∧ (minF x).μ y_1 < (minF x).μ y) ∧ (decide (x.t (x.lo + (↑y : Int).toNat) - x.l.t (x.l.am (y - (1 : Nat))) < (0 : Int)) = false →
  ∀ (v : Int), v = IntKind.i64.wrap ((↑y : Int) + (1 : Int)) → ∃ (y_1 : Nat), ((1 : Nat) ≤ y_1 ∧ y_1 ≤ x.len) ∧ ((((x.nil = true → x.nil = true) ∧ (x.nil = false → x.nil = false ∧ True ∧ True ∧ x.lo = x.lo ∧ x.len = x.len
  ∧ x.cap = x.cap)) ∧ True ∧ (True ∧ True) ∧ (True ∧ True) ∧ v = (↑y_1 : Int) ∧ True) ∧ ((0 : Nat) ≤ (0 : Nat) ∧ x.n = x.n ∧ ∀ (j : Nat), j < x.n → x.k j = x.k j ∧ x.q j = x.q j ∧ x.t j = x.t j ∧ True) ∧ ((3 : Nat) ≤ (3 :
  Nat) ∧ (0 : Int) = (0 : Int) ∧ (0 : Int) = (0 : Int) ∧ (0 : Int) = (0 : Int) ∧ True) ∧ ((3 : Nat) ≤ (3 : Nat) ∧ x.l.k (x.l.am (y - (1 : Nat))) = x.l.k (x.l.am (y_1 - (1 : Nat))) ∧ x.l.q (x.l.am (y - (1 : Nat))) = x.l.q
  (x.l.am (y_1 - (1 : Nat))) ∧ x.l.t (x.l.am (y - (1 : Nat))) = x.l.t (x.l.am (y_1 - (1 : Nat))) ∧ True) ∧ True) ∧ (minF x).μ y_1 < (minF x).μ y)) ∧ (decide ((↑y : Int) < (↑x.len : Int)) = false → x.Ok ∧ ((1 : Nat) ≤ x.len
  ∧ x.len ≤ (8 : Nat)) ∧ x.l.all → (x.l.k (x.l.am (y - (1 : Nat))) = x.l.k (x.l.am (x.len - (1 : Nat))) ∧ x.l.q (x.l.am (y - (1 : Nat))) = x.l.q (x.l.am (x.len - (1 : Nat))) ∧ x.l.t (x.l.am (y - (1 : Nat))) = x.l.t (x.l.am
  (x.len - (1 : Nat))) ∧ True) ∧ True ∧ ((0 : Nat) ≤ (0 : Nat) ∧ x.n = x.n ∧ ∀ (j : Nat), j < x.n → x.k j = x.k j ∧ x.q j = x.q j ∧ x.t j = x.t j ∧ True) ∧ True)) := by
  simp only [true_and, and_true, eq_self, Nat.le_refl, decide_eq_true_eq, decide_eq_false_iff_not, implies_true, and_self, Int.not_lt, Int.toNat_natCast, IntKind.wrap_i64]
  rintro x ⟨⟨hx1, hx2⟩, ⟨h1, h8⟩, hall⟩
  have hM : ∀ z : Nat, (minF x).μ z = x.len - z := fun _ => rfl
  have hE : ∀ j, j < x.len → rightE (x.k (x.lo + j)) (x.q (x.lo + j)) (x.t (x.lo + j)) := fun j hj => hall j hj
  have hA : ∀ m, m < x.len → x.l.am m < x.len := fun m hm => Nat.lt_of_le_of_lt (x.l.am_le m) hm
  simp only [hM, show Int.toNat 0 = 0 from rfl, Nat.add_zero]
  refine ⟨hx1, fun h => by omega, fun _ => ⟨hx1, ⟨Int.le_refl _, by omega⟩, by omega, fun v hv => ⟨⟨1, ⟨Nat.le_refl _, h1⟩, ⟨⟨id, id⟩, by omega⟩, rfl, rfl, rfl⟩, fun y hy => ⟨hx1, fun hlt => ?_, fun hge _ => ?_⟩⟩⟩⟩
  · obtain ⟨y1, y2⟩ := hy
    obtain ⟨m, rfl⟩ : ∃ m, y = m + 1 := ⟨y - 1, by omega⟩
    have e1 := hE (m + 1) (by omega)
    have e2 : rightE (x.l.k (x.l.am m)) (x.l.q (x.l.am m)) (x.l.t (x.l.am m)) := hall _ (hA m (by omega))
    unfold rightE at e1 e2
    have ea : x.l.am (m + 1) = if x.t (x.lo + (m + 1)) < x.l.t (x.l.am m) then m + 1 else x.l.am m := rfl
    simp only [Nat.add_sub_cancel]
    refine ⟨hx1, ⟨by omega, hlt⟩, by omega, ⟨by omega, by omega⟩, fun hl => ⟨hx1, ⟨by omega, hlt⟩, by omega, fun v hv => ⟨m + 1 + 1, ⟨by omega, by omega⟩, ⟨⟨⟨id, id⟩, by omega⟩, ?_⟩, by omega⟩⟩, fun hg v hv => ⟨m + 1 + 1, ⟨by omega, by omega⟩, ⟨⟨⟨id, id⟩, by omega⟩, ?_⟩, by omega⟩⟩
    · rw [Nat.add_sub_cancel, ea, if_pos (by omega)]
      exact ⟨rfl, rfl, rfl⟩
    · rw [Nat.add_sub_cancel, ea, if_neg (by omega)]
      exact ⟨rfl, rfl, rfl⟩
  · have e : y = x.len := by omega
    subst e
    exact ⟨rfl, rfl, rfl⟩

def mini_C (x : LS) : Cfg := { Γ := Go.Sx.look tMin, names := true, loops := onlyAt 5 [minF x] }
theorem mini_al (x : LS) : Shown (minP.vc Try.prog (mini_C x) Try.f48 x) := ⟨@Eq.mp _ _ (by kernel_rfl) (mini_vc x)⟩
theorem mini_ok : SpOk Try.prog 48 minP.sp := @Pat.okS _ minP Try.prog mini_C 48 Try.f48 (fun x => cfg_tab rfl tMin_ok) (by kernel_rfl) Try.func48 (fun _ => rfl) mini_al
def LL.bas (l : LL) (t : Int) : Nat → Int
  | 0 => 0
  | j + 1 => l.bas t j + (t / l.t j + 1) * l.q j
def LL.exs (l : LL) (t : Int) : Nat → Int
  | 0 => 0
  | j + 1 => l.exs t j + t / l.t j * l.q j
def swd (b e : LL) (t : Int) : Int := b.bas t b.n + e.exs t e.n
theorem LL.one_sw {q t u : Int} {k : Int} (h : rightE k q t) (hu : 0 ≤ u) : (0 ≤ u / t ∧ u / t ≤ u) ∧ (0 ≤ u / t * q ∧ u / t * q ≤ u) ∧ 0 ≤ (u / t + 1) * q ∧ (u / t + 1) * q ≤ u + 8192 := by
  unfold rightE at h
  have h1 : 0 ≤ u / t := Int.ediv_nonneg hu (by omega)
  have h2 : u / t ≤ u := Int.ediv_le_self _ hu
  have h3 : u / t * q ≤ u / t * t := Int.mul_le_mul_of_nonneg_left (by omega) h1
  have h4 : u / t * t ≤ u := Int.ediv_mul_le _ (by omega)
  have h5 : 0 ≤ u / t * q := Int.mul_nonneg h1 (by omega)
  rw [Int.add_mul, Int.one_mul]
  omega
theorem LL.sw_bd {l : LL} (h : l.right) {t : Int} (ht : 0 ≤ t) : ∀ m, m ≤ l.n → (0 ≤ l.bas t m ∧ l.bas t m ≤ m * (t + 8192)) ∧ 0 ≤ l.exs t m ∧ l.exs t m ≤ m * t
  | 0, _ => ⟨⟨Int.le_refl _, by simp [LL.bas]⟩, Int.le_refl _, by simp [LL.exs]⟩
  | m + 1, hm => by
    obtain ⟨⟨h1, h2⟩, h3, h4⟩ := LL.sw_bd h ht m (by omega)
    have := LL.one_sw (h.2 m (by omega)) ht
    have e : ((m + 1 : Nat) : Int) * (t + 8192) = m * (t + 8192) + (t + 8192) := by rw [Int.natCast_add, Int.add_mul]; simp
    have e2 : ((m + 1 : Nat) : Int) * t = m * t + t := by rw [Int.natCast_add, Int.add_mul]; simp
    simp only [LL.bas, LL.exs]
    rw [e, e2]
    omega
def swdP : Pat (LS × LS × Int) where
  view | [a, b, .int .u64 t], H => some (viewL a H, viewL b H, t) | _, _ => none
  args x := [x.1.v 0, x.2.1.v 1, .int .u64 x.2.2]
  H x := [x.1.reg, x.2.1.reg]
  out x := .need ((x.1.Ok ∧ x.2.1.Ok) ∧ (x.1.l.right ∧ x.2.1.l.right) ∧ 0 ≤ x.2.2 ∧ x.2.2 ≤ 1048576) (.retq (.int .u64 (swd x.1.l x.2.1.l x.2.2)))
def swdF1 (x y : LS) (t : Int) : Fam where
  α := Nat
  I i := i ≤ x.len
  st i := { sl := mkSl 46 [(1, y.v 1), (2, .int .u64 t), (7, .int .u64 (x.l.bas t i)), (12, x.v 0), (13, .int .i64 x.len), (14, .int .i64 i)], H := [x.reg, y.reg] }
  μ i := x.len - i
def swdF2 (x y : LS) (t : Int) : Fam where
  α := Nat
  I i := i ≤ y.len
  st i := { sl := mkSl 46 [(2, .int .u64 t), (7, .int .u64 (x.l.bas t x.len + y.l.exs t i)), (29, y.v 1), (30, .int .i64 y.len), (31, .int .i64 i)], H := [x.reg, y.reg] }
  μ i := y.len - i
def swdL (x y : LS) (t : Int) : Nat → Gam
  | 3 => .l [swdF1 x y t]
  | 8 => .l [swdF2 x y t]
  | _ => .l []
theorem swd_vc : ∀ (x y : LS) (t : Int), ((x.Ok ∧ y.Ok) ∧ (x.l.right ∧ y.l.right) ∧ (0 : Int) ≤ t ∧ t ≤ (1048576 : Int)) ∧ True → ∀ (v : Int), v = (0 : Int) → ∀ (v : Int), v = (0 : Int) → (x.nil = true → x.len = (0 : Nat)) ∧ (∃ (y_1 :
  Nat), (swdF1 x y t).I y_1 ∧ ((((y.nil = true → y.nil = true) ∧ (y.nil = false → y.nil = false ∧ True ∧ True ∧ y.lo = y.lo ∧ y.len = y.len ∧ y.cap = y.cap)) ∧ t = t ∧ v = x.l.bas t y_1 ∧ ((x.nil = true → x.nil = true) ∧
  (x.nil = false → x.nil = false ∧ True ∧ True ∧ x.lo = x.lo ∧ x.len = x.len ∧ x.cap = x.cap)) ∧ (↑x.len : Int) = (↑x.len : Int) ∧ (0 : Int) = (↑y_1 : Int) ∧ True) ∧ ((0 : Nat) ≤ (0 : Nat) ∧ x.n = x.n ∧ ∀ (j : Nat), j <
  x.n → x.k j = x.k j ∧ x.q j = x.q j ∧ x.t j = x.t j ∧ True) ∧ ((0 : Nat) ≤ (0 : Nat) ∧ y.n = y.n ∧ ∀ (j : Nat), j < y.n → y.k j = y.k j ∧ y.q j = y.q j ∧ y.t j = y.t j ∧ True) ∧ True) ∧ True) ∧ ∀ (y_1 : Nat), (swdF1 x y
  t).I y_1 → (decide ((↑y_1 : Int) < (↑x.len : Int)) = true → (x.nil = true → x.len = (0 : Nat)) ∧ ((0 : Int) ≤ (↑y_1 : Int) ∧ (↑y_1 : Int) < (↑x.len : Int)) ∧ x.lo + (↑y_1 : Int).toNat < x.n ∧ x.t (x.lo + (↑y_1 :
  Int).toNat) ≠ (0 : Int) ∧ ∀ (v : Int), v = IntKind.u64.wrap (x.l.bas t y_1 + IntKind.u64.wrap (IntKind.u64.wrap (IntKind.u64.wrap (t.tdiv (x.t (x.lo + (↑y_1 : Int).toNat))) + (1 : Int)) * x.q (x.lo + (↑y_1 :
  Int).toNat))) → ∃ (y_2 : Nat), (swdF1 x y t).I y_2 ∧ ((((y.nil = true → y.nil = true) ∧ (y.nil = false → y.nil = false ∧ True ∧ True ∧ y.lo = y.lo ∧ y.len = y.len ∧ y.cap = y.cap)) ∧ t = t ∧ v = x.l.bas t y_2 ∧ ((x.nil =
  true → x.nil = true) ∧ (x.nil = false → x.nil = false ∧ True ∧ True ∧ x.lo = x.lo ∧ x.len = x.len ∧ x.cap = x.cap)) ∧ (↑x.len : Int) = (↑x.len : Int) ∧ IntKind.i64.wrap ((↑y_1 : Int) + (1 : Int)) = (↑y_2 : Int) ∧ True) ∧
  ((0 : Nat) ≤ (0 : Nat) ∧ x.n = x.n ∧ ∀ (j : Nat), j < x.n → x.k j = x.k j ∧ x.q j = x.q j ∧ x.t j = x.t j ∧ True) ∧ ((0 : Nat) ≤ (0 : Nat) ∧ y.n = y.n ∧ ∀ (j : Nat), j < y.n → y.k j = y.k j ∧ y.q j = y.q j ∧ y.t j = y.t
  j ∧ True) ∧ True) ∧ (swdF1 x y t).μ y_2 < (swdF1 x y t).μ y_1) ∧ (decide ((↑y_1 : Int) < (↑x.len : Int)) = false → (y.nil = true → y.len = (0 : Nat)) ∧ (∃ (y_2 : Nat), (swdF2 x y t).I y_2 ∧ ((t = t ∧ x.l.bas t y_1 =
  x.l.bas t x.len + y.l.exs t y_2 ∧ ((y.nil = true → y.nil = true) ∧ (y.nil = false → y.nil = false ∧ True ∧ True ∧ y.lo = y.lo ∧ y.len = y.len ∧ y.cap = y.cap)) ∧ (↑y.len : Int) = (↑y.len : Int) ∧ (0 : Int) = (↑y_2 : Int)
  ∧ True) ∧ ((0 : Nat) ≤ (0 : Nat) ∧ x.n = x.n ∧ ∀ (j : Nat), j < x.n → x.k j = x.k j ∧ x.q j = x.q j ∧ x.t j = x.t j ∧ True) ∧ ((0 : Nat) ≤ (0 : Nat) ∧ y.n = y.n ∧ ∀ (j : Nat), j < y.n → y.k j = y.k j ∧ y.q j = y.q j ∧
  y.t j = y.t j ∧ True) ∧ True) ∧ True) ∧ ∀ (y_2 : Nat), (swdF2 x y t).I y_2 → (decide ((↑y_2 : Int) < (↑y.len : Int)) = true → (y.nil = true → y.len = (0 : Nat)) ∧ ((0 : Int) ≤ (↑y_2 : Int) ∧ (↑y_2 : Int) < (↑y.len :
  Int)) ∧ y.lo + (↑y_2 : Int).toNat < y.n ∧ y.t (y.lo + (↑y_2 : Int).toNat) ≠ (0 : Int) ∧ ∀ (v : Int), v = IntKind.u64.wrap (x.l.bas t x.len + y.l.exs t y_2 + IntKind.u64.wrap (IntKind.u64.wrap (t.tdiv (y.t (y.lo + (↑y_2 :
  Int).toNat))) * y.q (y.lo + (↑y_2 : Int).toNat))) → ∃ (y_3 : Nat), (swdF2 x y t).I y_3 ∧ ((t = t ∧ v = x.l.bas t x.len + y.l.exs t y_3 ∧ ((y.nil = true → y.nil = true) ∧ (y.nil = false → y.nil = false ∧ True ∧ True ∧
  y.lo = y.lo ∧ y.len = y.len ∧ y.cap = y.cap)) ∧ (↑y.len : Int) = (↑y.len : Int) ∧ IntKind.i64.wrap ((↑y_2 : Int) + (1 : Int)) = (↑y_3 : Int) ∧ True) ∧ ((0 : Nat) ≤ (0 : Nat) ∧ x.n = x.n ∧ ∀ (j : Nat), j < x.n → x.k j =
  x.k j ∧ x.q j = x.q j ∧ x.t j = x.t j ∧ True) ∧ ((0 : Nat) ≤ (0 : Nat) ∧ y.n = y.n ∧ ∀ (j : Nat), j < y.n → y.k j = y.k j ∧ y.q j = y.q j ∧ y.t j = y.t j ∧ True) ∧ True) ∧ (swdF2 x y t).μ y_3 < (swdF2 x y t).μ y_2) ∧
  (decide ((↑y_2 : Int) < (↑y.len : Int)) = false → ∀ (v : Int), v = x.l.bas t x.len + y.l.exs t y_2 → (x.Ok ∧ y.Ok) ∧ (x.l.right ∧ y.l.right) ∧ (0 : Int) ≤ t ∧ t ≤ (1048576 : Int) → v = swd x.l y.l t ∧ True ∧ ((0 : Nat) ≤
  (0 : Nat) ∧ x.n = x.n ∧ ∀ (j : Nat), j < x.n → x.k j = x.k j ∧ x.q j = x.q j ∧ x.t j = x.t j ∧ True) ∧ ((0 : Nat) ≤ (0 : Nat) ∧ y.n = y.n ∧ ∀ (j : Nat), j < y.n → y.k j = y.k j ∧ y.q j = y.q j ∧ y.t j = y.t j ∧ True) ∧
  True)) := by
  simp only [true_and, and_true, eq_self, Nat.le_refl, decide_eq_true_eq, decide_eq_false_iff_not, implies_true, and_self, Int.not_lt, ne_eq, Int.toNat_natCast, IntKind.wrap_u64, IntKind.wrap_i64]
  rintro x y t ⟨⟨⟨hx1, hx2⟩, hy1, hy2⟩, ⟨hrx, hry⟩, ht0, ht1⟩ _ rfl _ rfl
  have hI1 : ∀ z : Nat, (swdF1 x y t).I z = (z ≤ x.len) := fun _ => rfl
  have hM1 : ∀ z : Nat, (swdF1 x y t).μ z = x.len - z := fun _ => rfl
  have hI2 : ∀ z : Nat, (swdF2 x y t).I z = (z ≤ y.len) := fun _ => rfl
  have hM2 : ∀ z : Nat, (swdF2 x y t).μ z = y.len - z := fun _ => rfl
  simp only [hI1, hI2, hM1, hM2]
  have h8x : x.len ≤ 8 := hrx.1
  have h8y : y.len ≤ 8 := hry.1
  have bX : ∀ m, m ≤ x.len → 0 ≤ x.l.bas t m ∧ x.l.bas t m ≤ 8 * (t + 8192) := fun m hm => by
    have := (LL.sw_bd hrx ht0 m hm).1
    have h : (m : Int) * (t + 8192) ≤ 8 * (t + 8192) := Int.mul_le_mul_of_nonneg_right (by omega) (by omega)
    omega
  have bY : ∀ m, m ≤ y.len → 0 ≤ y.l.exs t m ∧ y.l.exs t m ≤ 8 * t := fun m hm => by
    have := (LL.sw_bd hry ht0 m hm).2
    have h : (m : Int) * t ≤ 8 * t := Int.mul_le_mul_of_nonneg_right (by omega) (by omega)
    omega
  refine ⟨hx1, ⟨0, Nat.zero_le _, ⟨id, id⟩, rfl, ⟨id, id⟩, rfl⟩, fun i hi => ⟨fun hlt => ?_, fun hge => ?_⟩⟩
  · have hr : rightE (x.k (x.lo + i)) (x.q (x.lo + i)) (x.t (x.lo + i)) := hrx.2 i (by show i < x.len; omega)
    have ho := LL.one_sw hr ht0
    unfold rightE at hr
    have b0 := bX i hi
    have b1 := bX (i + 1) (by omega)
    have e : x.l.bas t (i + 1) = x.l.bas t i + (t / x.t (x.lo + i) + 1) * x.q (x.lo + i) := rfl
    refine ⟨hx1, ⟨by omega, hlt⟩, by omega, by omega, fun v hv => ⟨i + 1, by omega, ⟨⟨id, id⟩, ?_, ⟨id, id⟩, by omega⟩, by omega⟩⟩
    rw [Int.tdiv_eq_ediv_of_nonneg ht0] at hv
    have e1 : (t / x.t (x.lo + i) % 18446744073709551616 + 1) % 18446744073709551616 = t / x.t (x.lo + i) + 1 := by omega
    rw [e1] at hv
    generalize (t / x.t (x.lo + i) + 1) * x.q (x.lo + i) = p at *
    omega
  · have e : i = x.len := by omega
    subst e
    refine ⟨hy1, ⟨0, Nat.zero_le _, (Int.add_zero _).symm, ⟨id, id⟩, rfl⟩, fun i hi => ⟨fun hlt => ?_, fun hge v hv _ => ?_⟩⟩
    · have hr : rightE (y.k (y.lo + i)) (y.q (y.lo + i)) (y.t (y.lo + i)) := hry.2 i (by show i < y.len; omega)
      have ho := LL.one_sw hr ht0
      unfold rightE at hr
      have bx := bX x.len (Nat.le_refl _)
      have b0 := bY i hi
      have b1 := bY (i + 1) (by omega)
      have e : y.l.exs t (i + 1) = y.l.exs t i + t / y.t (y.lo + i) * y.q (y.lo + i) := rfl
      refine ⟨hy1, ⟨by omega, hlt⟩, by omega, by omega, fun v hv => ⟨i + 1, by omega, ⟨?_, ⟨id, id⟩, by omega⟩, by omega⟩⟩
      rw [Int.tdiv_eq_ediv_of_nonneg ht0] at hv
      have e1 : t / y.t (y.lo + i) % 18446744073709551616 = t / y.t (y.lo + i) := by omega
      rw [e1] at hv
      generalize t / y.t (y.lo + i) * y.q (y.lo + i) = p at *
      omega
    · have e : i = y.len := by omega
      subst e
      exact hv

def swd_C (x : (LS × LS × Int)) : Cfg := { Γ := Go.Sx.look [], names := true, loops := swdL (x.1) (x.2.1) (x.2.2) }
theorem swd_al (x : (LS × LS × Int)) : Shown (swdP.vc Try.prog (swd_C x) Try.f50 x) := ⟨@Eq.mp _ _ (by kernel_rfl) (swd_vc (x.1) (x.2.1) (x.2.2))⟩
theorem swd_ok : SpOk Try.prog 50 swdP.sp := @Pat.okS _ swdP Try.prog swd_C 50 Try.f50 (fun x => cfg_nil rfl) (by kernel_rfl) Try.func50 (fun _ => rfl) swd_al
end Go.Proofs.Ytijpjhelgggmfaa
