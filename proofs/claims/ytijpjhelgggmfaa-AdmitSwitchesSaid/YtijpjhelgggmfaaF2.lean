import Derived.Test.YtijpjhelgggmfaaF1
open Go Go.Sx Go.Proofs
set_option maxRecDepth 100000
namespace Go.Proofs.Ytijpjhelgggmfaa

def rsumP : Pat LS where
  view | [t], H => some (viewL t H) | _, _ => none
  args x := [x.v 0]
  H x := [x.regR]
  out x := .need (x.Ok ∧ x.l.right) (.retq (.tup (.cons (wO (x.l.prod x.len)) (.cons (wO (x.l.use (x.l.prod x.len) x.len)) (.cons (wO (x.l.slk (x.l.prod x.len) x.len)) .nil)))))
def rsumF1 (x : LS) : Fam where
  α := Nat
  I y := y ≤ x.len
  st y := { sl := mkSl 74 [(0, x.v 0), (2, p0 1), (3, p0 2), (4, p0 3), (5, .int .i64 y)], H := [x.regR, newReg 64 (wO (x.l.prod y)), newReg 64 (wO 0), newReg 64 (wO 0)] }
  μ y := x.len - y
def rsumF2 (x : LS) : Fam where
  α := Nat
  I y := y ≤ x.len
  st y := { sl := mkSl 74 [(0, x.v 0), (2, p0 1), (3, p0 2), (4, p0 3), (6, .int .i64 y)], H := [x.regR, newReg 64 (wO (x.l.prod x.len)), newReg 64 (wO (x.l.use (x.l.prod x.len) y)), newReg 64 (wO (x.l.slk (x.l.prod x.len) y))] }
  μ y := x.len - y
def rsumC (x : LS) (u : Nat) : Fam where
  α := Bool
  I _ := u < x.len
  st _ := { sl := mkSl 74 [(0, x.v 0), (2, p0 1), (3, p0 2), (4, p0 3), (6, .int .i64 (u : Nat)), (7, p0 4)], H := [x.regR, newReg 64 (wO (x.l.prod x.len)), newReg 64 (wO (x.l.use (x.l.prod x.len) u)), newReg 64 (wO (x.l.slk (x.l.prod x.len) u)), newReg 64 (wO (x.l.prod x.len / x.l.t u))] }
  μ _ := 0
def rsumC2 (x : LS) (u : Nat) : Fam where
  α := Bool
  I _ := u < x.len
  st _ := { sl := mkSl 74 [(0, x.v 0), (2, p0 1), (3, p0 2), (4, p0 3), (6, .int .i64 (u : Nat)), (7, p0 4)], H := [x.regR, newReg 64 (wO (x.l.prod x.len)), newReg 64 (wO (x.l.use (x.l.prod x.len) (u + 1))), newReg 64 (wO (x.l.slk (x.l.prod x.len) u)), newReg 64 (wO (x.l.prod x.len / x.l.t u))] }
  μ _ := 0
def rsumL (x : LS) : Nat → Gam
  | 3 => .l [rsumF1 x]
  | 7 => .l [rsumF2 x]
  | _ => .l []
def rsumK (x : LS) : Nat → Gam
  | 10 => .g fun u => [rsumC x u]
  | 11 => .g fun u => [rsumC2 x u]
  | _ => .l []
def rsumM : Nat → Nat
  | 9 => 1
  | 10 => 1
  | 11 => 1
  | 12 => 1
  | _ => 0
def rsumLk : Nat → List Nat
  | 9 => [1]
  | 10 => [4]
  | 11 => [4]
  | _ => []
def rsumLd : Nat → List Nat
  | 10 => [0]
  | 11 => [0]
  | 12 => [0, 1, 2]
  | _ => []
def tRsum : Tab := [(40, timesP.sp), (60, addP.sp), (59, wdivP.sp), (31, rslP.sp)]
theorem tRsum_ok : TabOk Try.prog tRsum := (tab_cons rtimes_ok (tab_cons add_ok (tab_cons rdiv_ok (tab_cons rsl_ok tab_nil))))

theorem rsum_vc : ∀ (x : LS), (x.Ok ∧ x.l.right) ∧ True → ∀ (v : Int), v = (0 : Int) → (∃ (y : Nat), (rsumF1 x).I y ∧ ((((x.nil = true → x.nil = true) ∧ (x.nil = false → x.nil = false ∧ True ∧ True ∧ x.lo = x.lo ∧ x.len = x.len ∧ x.cap =
  x.cap)) ∧ (True ∧ True) ∧ (True ∧ True) ∧ (True ∧ True) ∧ v = (↑y : Int) ∧ True) ∧ ((0 : Nat) ≤ (0 : Nat) ∧ x.n = x.n ∧ ∀ (j : Nat), j < x.n → x.k j = x.k j ∧ x.q j = x.q j ∧ x.t j = x.t j ∧ True) ∧ ((2 : Nat) ≤ (2 :
  Nat) ∧ (0 : Int) = x.l.prod y / (18446744073709551616 : Int) ∧ (1 : Int) = x.l.prod y % (18446744073709551616 : Int) ∧ True) ∧ ((2 : Nat) ≤ (2 : Nat) ∧ (0 : Int) = (0 / 18446744073709551616 : Int) ∧ (0 : Int) = (0 : Int)
  % (18446744073709551616 : Int) ∧ True) ∧ ((2 : Nat) ≤ (2 : Nat) ∧ (0 : Int) = (0 / 18446744073709551616 : Int) ∧ (0 : Int) = (0 : Int) % (18446744073709551616 : Int) ∧ True) ∧ True) ∧ True) ∧ ∀ (y : Nat), (rsumF1 x).I y
  → (x.nil = true → x.len = (0 : Nat)) ∧ (decide ((↑y : Int) < (↑x.len : Int)) = true → (x.nil = true → x.len = (0 : Nat)) ∧ ((0 : Int) ≤ (↑y : Int) ∧ (↑y : Int) < (↑x.len : Int)) ∧ x.lo + (↑y : Int).toNat < x.n ∧
  (((x.l.prod y / (18446744073709551616 : Int) = x.l.prod y / (18446744073709551616 : Int) ∧ x.l.prod y % (18446744073709551616 : Int) = x.l.prod y % (18446744073709551616 : Int) ∧ True) ∧ x.t (x.lo + (↑y : Int).toNat) =
  x.t (x.lo + (↑y : Int).toNat) ∧ True) ∧ True) ∧ ((((0 : Int) ≤ x.l.prod y / (18446744073709551616 : Int) ∧ x.l.prod y / (18446744073709551616 : Int) < (18446744073709551616 : Int)) ∧ (0 : Int) ≤ x.l.prod y %
  (18446744073709551616 : Int) ∧ x.l.prod y % (18446744073709551616 : Int) < (18446744073709551616 : Int)) ∧ ((0 : Int) ≤ x.t (x.lo + (↑y : Int).toNat) ∧ x.t (x.lo + (↑y : Int).toNat) < (18446744073709551616 : Int)) ∧ wN
  (x.l.prod y / (18446744073709551616 : Int)) (x.l.prod y % (18446744073709551616 : Int)) * x.t (x.lo + (↑y : Int).toNat) < two128) ∧ ∀ (v : Int), v = IntKind.i64.wrap ((↑y : Int) + (1 : Int)) → ∃ (y_1 : Nat), (rsumF1 x).I
  y_1 ∧ ((((x.nil = true → x.nil = true) ∧ (x.nil = false → x.nil = false ∧ True ∧ True ∧ x.lo = x.lo ∧ x.len = x.len ∧ x.cap = x.cap)) ∧ (True ∧ True) ∧ (True ∧ True) ∧ (True ∧ True) ∧ v = (↑y_1 : Int) ∧ True) ∧ ((0 :
  Nat) ≤ (0 : Nat) ∧ x.n = x.n ∧ ∀ (j : Nat), j < x.n → x.k j = x.k j ∧ x.q j = x.q j ∧ x.t j = x.t j ∧ True) ∧ ((2 : Nat) ≤ (2 : Nat) ∧ wN (x.l.prod y / (18446744073709551616 : Int)) (x.l.prod y % (18446744073709551616 :
  Int)) * x.t (x.lo + (↑y : Int).toNat) / (18446744073709551616 : Int) = x.l.prod y_1 / (18446744073709551616 : Int) ∧ wN (x.l.prod y / (18446744073709551616 : Int)) (x.l.prod y % (18446744073709551616 : Int)) * x.t (x.lo
  + (↑y : Int).toNat) % (18446744073709551616 : Int) = x.l.prod y_1 % (18446744073709551616 : Int) ∧ True) ∧ ((2 : Nat) ≤ (2 : Nat) ∧ (0 / 18446744073709551616 : Int) = (0 / 18446744073709551616 : Int) ∧ (0 : Int) %
  (18446744073709551616 : Int) = (0 : Int) % (18446744073709551616 : Int) ∧ True) ∧ ((2 : Nat) ≤ (2 : Nat) ∧ (0 / 18446744073709551616 : Int) = (0 / 18446744073709551616 : Int) ∧ (0 : Int) % (18446744073709551616 : Int) =
  (0 : Int) % (18446744073709551616 : Int) ∧ True) ∧ True) ∧ (rsumF1 x).μ y_1 < (rsumF1 x).μ y) ∧ (decide ((↑y : Int) < (↑x.len : Int)) = false → ∀ (v : Int), v = (0 : Int) → (∃ (y_1 : Nat), (rsumF2 x).I y_1 ∧ ((((x.nil =
  true → x.nil = true) ∧ (x.nil = false → x.nil = false ∧ True ∧ True ∧ x.lo = x.lo ∧ x.len = x.len ∧ x.cap = x.cap)) ∧ (True ∧ True) ∧ (True ∧ True) ∧ (True ∧ True) ∧ v = (↑y_1 : Int) ∧ True) ∧ ((0 : Nat) ≤ (0 : Nat) ∧
  x.n = x.n ∧ ∀ (j : Nat), j < x.n → x.k j = x.k j ∧ x.q j = x.q j ∧ x.t j = x.t j ∧ True) ∧ ((2 : Nat) ≤ (2 : Nat) ∧ x.l.prod y / (18446744073709551616 : Int) = x.l.prod x.len / (18446744073709551616 : Int) ∧ x.l.prod y %
  (18446744073709551616 : Int) = x.l.prod x.len % (18446744073709551616 : Int) ∧ True) ∧ ((2 : Nat) ≤ (2 : Nat) ∧ (0 / 18446744073709551616 : Int) = x.l.use (x.l.prod x.len) y_1 / (18446744073709551616 : Int) ∧ (0 : Int) %
  (18446744073709551616 : Int) = x.l.use (x.l.prod x.len) y_1 % (18446744073709551616 : Int) ∧ True) ∧ ((2 : Nat) ≤ (2 : Nat) ∧ (0 / 18446744073709551616 : Int) = x.l.slk (x.l.prod x.len) y_1 / (18446744073709551616 : Int)
  ∧ (0 : Int) % (18446744073709551616 : Int) = x.l.slk (x.l.prod x.len) y_1 % (18446744073709551616 : Int) ∧ True) ∧ True) ∧ True) ∧ ∀ (y : Nat), (rsumF2 x).I y → (x.nil = true → x.len = (0 : Nat)) ∧ (decide ((↑y : Int) <
  (↑x.len : Int)) = true → ∃ (g : Nat), ((x.nil = true → x.len = (0 : Nat)) ∧ ((0 : Int) ≤ (↑y : Int) ∧ (↑y : Int) < (↑x.len : Int)) ∧ x.lo + (↑y : Int).toNat < x.n ∧ ((((x.l.prod x.len / (18446744073709551616 : Int) =
  x.l.prod x.len / (18446744073709551616 : Int) ∧ x.l.prod x.len % (18446744073709551616 : Int) = x.l.prod x.len % (18446744073709551616 : Int) ∧ True) ∧ x.t (x.lo + (↑y : Int).toNat) = x.t (x.lo + (↑y : Int).toNat) ∧
  True) ∧ True) ∧ ((((0 : Int) ≤ x.l.prod x.len / (18446744073709551616 : Int) ∧ x.l.prod x.len / (18446744073709551616 : Int) < (18446744073709551616 : Int)) ∧ (0 : Int) ≤ x.l.prod x.len % (18446744073709551616 : Int) ∧
  x.l.prod x.len % (18446744073709551616 : Int) < (18446744073709551616 : Int)) ∧ (0 : Int) ≤ x.t (x.lo + (↑y : Int).toNat) ∧ x.t (x.lo + (↑y : Int).toNat) < (18446744073709551616 : Int)) ∧ ∀ (v : Int), (v = if x.t (x.lo +
  (↑y : Int).toNat) = (0 : Int) then (0 : Int) else wN (x.l.prod x.len / (18446744073709551616 : Int)) (x.l.prod x.len % (18446744073709551616 : Int)) % x.t (x.lo + (↑y : Int).toNat)) → ∃ (y_1 : Bool), (rsumC x g).I y_1 ∧
  ((((x.nil = true → x.nil = true) ∧ (x.nil = false → x.nil = false ∧ True ∧ True ∧ x.lo = x.lo ∧ x.len = x.len ∧ x.cap = x.cap)) ∧ (True ∧ True) ∧ (True ∧ True) ∧ (True ∧ True) ∧ (↑y : Int) = (↑g : Int) ∧ (True ∧ True) ∧
  True) ∧ ((0 : Nat) ≤ (0 : Nat) ∧ x.n = x.n ∧ ∀ (j : Nat), j < x.n → x.k j = x.k j ∧ x.q j = x.q j ∧ x.t j = x.t j ∧ True) ∧ ((2 : Nat) ≤ (2 : Nat) ∧ x.l.prod x.len / (18446744073709551616 : Int) = x.l.prod x.len /
  (18446744073709551616 : Int) ∧ x.l.prod x.len % (18446744073709551616 : Int) = x.l.prod x.len % (18446744073709551616 : Int) ∧ True) ∧ ((2 : Nat) ≤ (2 : Nat) ∧ x.l.use (x.l.prod x.len) y / (18446744073709551616 : Int) =
  x.l.use (x.l.prod x.len) g / (18446744073709551616 : Int) ∧ x.l.use (x.l.prod x.len) y % (18446744073709551616 : Int) = x.l.use (x.l.prod x.len) g % (18446744073709551616 : Int) ∧ True) ∧ ((2 : Nat) ≤ (2 : Nat) ∧ x.l.slk
  (x.l.prod x.len) y / (18446744073709551616 : Int) = x.l.slk (x.l.prod x.len) g / (18446744073709551616 : Int) ∧ x.l.slk (x.l.prod x.len) y % (18446744073709551616 : Int) = x.l.slk (x.l.prod x.len) g %
  (18446744073709551616 : Int) ∧ True) ∧ ((2 : Nat) ≤ (2 : Nat) ∧ (if x.t (x.lo + (↑y : Int).toNat) = (0 : Int) then (0 : Int) else wN (x.l.prod x.len / (18446744073709551616 : Int)) (x.l.prod x.len % (18446744073709551616
  : Int)) / x.t (x.lo + (↑y : Int).toNat)) / (18446744073709551616 : Int) = x.l.prod x.len / x.l.t g / (18446744073709551616 : Int) ∧ (if x.t (x.lo + (↑y : Int).toNat) = (0 : Int) then (0 : Int) else wN (x.l.prod x.len /
  (18446744073709551616 : Int)) (x.l.prod x.len % (18446744073709551616 : Int)) / x.t (x.lo + (↑y : Int).toNat)) % (18446744073709551616 : Int) = x.l.prod x.len / x.l.t g % (18446744073709551616 : Int) ∧ True) ∧ True) ∧
  True) ∧ (((x.l.prod x.len / (18446744073709551616 : Int) = x.l.prod x.len / (18446744073709551616 : Int) ∧ x.l.prod x.len % (18446744073709551616 : Int) = x.l.prod x.len % (18446744073709551616 : Int) ∧ True) ∧ x.t (x.lo
  + (↑y : Int).toNat) = x.t (x.lo + (↑y : Int).toNat) ∧ True) ∧ True) ∧ ((((0 : Int) ≤ x.l.prod x.len / (18446744073709551616 : Int) ∧ x.l.prod x.len / (18446744073709551616 : Int) < (18446744073709551616 : Int)) ∧ (0 :
  Int) ≤ x.l.prod x.len % (18446744073709551616 : Int) ∧ x.l.prod x.len % (18446744073709551616 : Int) < (18446744073709551616 : Int)) ∧ (0 : Int) ≤ x.t (x.lo + (↑y : Int).toNat) ∧ x.t (x.lo + (↑y : Int).toNat) <
  (18446744073709551616 : Int)) ∧ ∀ (v : Int), (v = if x.t (x.lo + (↑y : Int).toNat) = (0 : Int) then (0 : Int) else wN (x.l.prod x.len / (18446744073709551616 : Int)) (x.l.prod x.len % (18446744073709551616 : Int)) % x.t
  (x.lo + (↑y : Int).toNat)) → ∃ (y_1 : Bool), (rsumC x g).I y_1 ∧ ((((x.nil = true → x.nil = true) ∧ (x.nil = false → x.nil = false ∧ True ∧ True ∧ x.lo = x.lo ∧ x.len = x.len ∧ x.cap = x.cap)) ∧ (True ∧ True) ∧ (True ∧
  True) ∧ (True ∧ True) ∧ (↑y : Int) = (↑g : Int) ∧ (True ∧ True) ∧ True) ∧ ((0 : Nat) ≤ (0 : Nat) ∧ x.n = x.n ∧ ∀ (j : Nat), j < x.n → x.k j = x.k j ∧ x.q j = x.q j ∧ x.t j = x.t j ∧ True) ∧ ((2 : Nat) ≤ (2 : Nat) ∧
  x.l.prod x.len / (18446744073709551616 : Int) = x.l.prod x.len / (18446744073709551616 : Int) ∧ x.l.prod x.len % (18446744073709551616 : Int) = x.l.prod x.len % (18446744073709551616 : Int) ∧ True) ∧ ((2 : Nat) ≤ (2 :
  Nat) ∧ x.l.use (x.l.prod x.len) y / (18446744073709551616 : Int) = x.l.use (x.l.prod x.len) g / (18446744073709551616 : Int) ∧ x.l.use (x.l.prod x.len) y % (18446744073709551616 : Int) = x.l.use (x.l.prod x.len) g %
  (18446744073709551616 : Int) ∧ True) ∧ ((2 : Nat) ≤ (2 : Nat) ∧ x.l.slk (x.l.prod x.len) y / (18446744073709551616 : Int) = x.l.slk (x.l.prod x.len) g / (18446744073709551616 : Int) ∧ x.l.slk (x.l.prod x.len) y %
  (18446744073709551616 : Int) = x.l.slk (x.l.prod x.len) g % (18446744073709551616 : Int) ∧ True) ∧ ((2 : Nat) ≤ (2 : Nat) ∧ (if x.t (x.lo + (↑y : Int).toNat) = (0 : Int) then (0 : Int) else wN (x.l.prod x.len /
  (18446744073709551616 : Int)) (x.l.prod x.len % (18446744073709551616 : Int)) / x.t (x.lo + (↑y : Int).toNat)) / (18446744073709551616 : Int) = x.l.prod x.len / x.l.t g / (18446744073709551616 : Int) ∧ (if x.t (x.lo +
  (↑y : Int).toNat) = (0 : Int) then (0 : Int) else wN (x.l.prod x.len / (18446744073709551616 : Int)) (x.l.prod x.len % (18446744073709551616 : Int)) / x.t (x.lo + (↑y : Int).toNat)) % (18446744073709551616 : Int) =
  x.l.prod x.len / x.l.t g % (18446744073709551616 : Int) ∧ True) ∧ True) ∧ True) ∧ ∀ (y_1 : Bool), (rsumC x g).I y_1 → ∃ (g_1 : Nat), ((x.nil = true → x.len = (0 : Nat)) ∧ ((0 : Int) ≤ (↑g : Int) ∧ (↑g : Int) < (↑x.len :
  Int)) ∧ x.lo + (↑g : Int).toNat < x.n ∧ ((((x.l.prod x.len / x.l.t g / (18446744073709551616 : Int) = x.l.prod x.len / x.l.t g / (18446744073709551616 : Int) ∧ x.l.prod x.len / x.l.t g % (18446744073709551616 : Int) =
  x.l.prod x.len / x.l.t g % (18446744073709551616 : Int) ∧ True) ∧ x.q (x.lo + (↑g : Int).toNat) = x.q (x.lo + (↑g : Int).toNat) ∧ True) ∧ True) ∧ ((((0 : Int) ≤ x.l.prod x.len / x.l.t g / (18446744073709551616 : Int) ∧
  x.l.prod x.len / x.l.t g / (18446744073709551616 : Int) < (18446744073709551616 : Int)) ∧ (0 : Int) ≤ x.l.prod x.len / x.l.t g % (18446744073709551616 : Int) ∧ x.l.prod x.len / x.l.t g % (18446744073709551616 : Int) <
  (18446744073709551616 : Int)) ∧ ((0 : Int) ≤ x.q (x.lo + (↑g : Int).toNat) ∧ x.q (x.lo + (↑g : Int).toNat) < (18446744073709551616 : Int)) ∧ wN (x.l.prod x.len / x.l.t g / (18446744073709551616 : Int)) (x.l.prod x.len /
  x.l.t g % (18446744073709551616 : Int)) * x.q (x.lo + (↑g : Int).toNat) < two128) ∧ (((x.l.use (x.l.prod x.len) g / (18446744073709551616 : Int) = x.l.use (x.l.prod x.len) g / (18446744073709551616 : Int) ∧ x.l.use
  (x.l.prod x.len) g % (18446744073709551616 : Int) = x.l.use (x.l.prod x.len) g % (18446744073709551616 : Int) ∧ True) ∧ (wN (x.l.prod x.len / x.l.t g / (18446744073709551616 : Int)) (x.l.prod x.len / x.l.t g %
  (18446744073709551616 : Int)) * x.q (x.lo + (↑g : Int).toNat) / (18446744073709551616 : Int) = wN (x.l.prod x.len / x.l.t g / (18446744073709551616 : Int)) (x.l.prod x.len / x.l.t g % (18446744073709551616 : Int)) * x.q
  (x.lo + (↑g : Int).toNat) / (18446744073709551616 : Int) ∧ wN (x.l.prod x.len / x.l.t g / (18446744073709551616 : Int)) (x.l.prod x.len / x.l.t g % (18446744073709551616 : Int)) * x.q (x.lo + (↑g : Int).toNat) %
  (18446744073709551616 : Int) = wN (x.l.prod x.len / x.l.t g / (18446744073709551616 : Int)) (x.l.prod x.len / x.l.t g % (18446744073709551616 : Int)) * x.q (x.lo + (↑g : Int).toNat) % (18446744073709551616 : Int) ∧ True)
  ∧ True) ∧ True) ∧ ((((0 : Int) ≤ x.l.use (x.l.prod x.len) g / (18446744073709551616 : Int) ∧ x.l.use (x.l.prod x.len) g / (18446744073709551616 : Int) < (18446744073709551616 : Int)) ∧ (0 : Int) ≤ x.l.use (x.l.prod
  x.len) g % (18446744073709551616 : Int) ∧ x.l.use (x.l.prod x.len) g % (18446744073709551616 : Int) < (18446744073709551616 : Int)) ∧ ((0 : Int) ≤ wN (x.l.prod x.len / x.l.t g / (18446744073709551616 : Int)) (x.l.prod
  x.len / x.l.t g % (18446744073709551616 : Int)) * x.q (x.lo + (↑g : Int).toNat) / (18446744073709551616 : Int) ∧ wN (x.l.prod x.len / x.l.t g / (18446744073709551616 : Int)) (x.l.prod x.len / x.l.t g %
  (18446744073709551616 : Int)) * x.q (x.lo + (↑g : Int).toNat) / (18446744073709551616 : Int) < (18446744073709551616 : Int)) ∧ (0 : Int) ≤ wN (x.l.prod x.len / x.l.t g / (18446744073709551616 : Int)) (x.l.prod x.len /
  x.l.t g % (18446744073709551616 : Int)) * x.q (x.lo + (↑g : Int).toNat) % (18446744073709551616 : Int) ∧ wN (x.l.prod x.len / x.l.t g / (18446744073709551616 : Int)) (x.l.prod x.len / x.l.t g % (18446744073709551616 :
  Int)) * x.q (x.lo + (↑g : Int).toNat) % (18446744073709551616 : Int) < (18446744073709551616 : Int)) ∧ ∃ (y : Bool), (rsumC2 x g_1).I y ∧ ((((x.nil = true → x.nil = true) ∧ (x.nil = false → x.nil = false ∧ True ∧ True ∧
  x.lo = x.lo ∧ x.len = x.len ∧ x.cap = x.cap)) ∧ (True ∧ True) ∧ (True ∧ True) ∧ (True ∧ True) ∧ (↑g : Int) = (↑g_1 : Int) ∧ (True ∧ True) ∧ True) ∧ ((0 : Nat) ≤ (0 : Nat) ∧ x.n = x.n ∧ ∀ (j : Nat), j < x.n → x.k j = x.k
  j ∧ x.q j = x.q j ∧ x.t j = x.t j ∧ True) ∧ ((2 : Nat) ≤ (2 : Nat) ∧ x.l.prod x.len / (18446744073709551616 : Int) = x.l.prod x.len / (18446744073709551616 : Int) ∧ x.l.prod x.len % (18446744073709551616 : Int) =
  x.l.prod x.len % (18446744073709551616 : Int) ∧ True) ∧ ((2 : Nat) ≤ (2 : Nat) ∧ (if wN (x.l.use (x.l.prod x.len) g / (18446744073709551616 : Int)) (x.l.use (x.l.prod x.len) g % (18446744073709551616 : Int)) + wN (wN
  (x.l.prod x.len / x.l.t g / (18446744073709551616 : Int)) (x.l.prod x.len / x.l.t g % (18446744073709551616 : Int)) * x.q (x.lo + (↑g : Int).toNat) / (18446744073709551616 : Int)) (wN (x.l.prod x.len / x.l.t g /
  (18446744073709551616 : Int)) (x.l.prod x.len / x.l.t g % (18446744073709551616 : Int)) * x.q (x.lo + (↑g : Int).toNat) % (18446744073709551616 : Int)) < two128 then wN (x.l.use (x.l.prod x.len) g / (18446744073709551616
  : Int)) (x.l.use (x.l.prod x.len) g % (18446744073709551616 : Int)) + wN (wN (x.l.prod x.len / x.l.t g / (18446744073709551616 : Int)) (x.l.prod x.len / x.l.t g % (18446744073709551616 : Int)) * x.q (x.lo + (↑g :
  Int).toNat) / (18446744073709551616 : Int)) (wN (x.l.prod x.len / x.l.t g / (18446744073709551616 : Int)) (x.l.prod x.len / x.l.t g % (18446744073709551616 : Int)) * x.q (x.lo + (↑g : Int).toNat) % (18446744073709551616
  : Int)) else (0 : Int)) / (18446744073709551616 : Int) = x.l.use (x.l.prod x.len) (g_1 + (1 : Nat)) / (18446744073709551616 : Int) ∧ (if wN (x.l.use (x.l.prod x.len) g / (18446744073709551616 : Int)) (x.l.use (x.l.prod
  x.len) g % (18446744073709551616 : Int)) + wN (wN (x.l.prod x.len / x.l.t g / (18446744073709551616 : Int)) (x.l.prod x.len / x.l.t g % (18446744073709551616 : Int)) * x.q (x.lo + (↑g : Int).toNat) /
  (18446744073709551616 : Int)) (wN (x.l.prod x.len / x.l.t g / (18446744073709551616 : Int)) (x.l.prod x.len / x.l.t g % (18446744073709551616 : Int)) * x.q (x.lo + (↑g : Int).toNat) % (18446744073709551616 : Int)) <
  two128 then wN (x.l.use (x.l.prod x.len) g / (18446744073709551616 : Int)) (x.l.use (x.l.prod x.len) g % (18446744073709551616 : Int)) + wN (wN (x.l.prod x.len / x.l.t g / (18446744073709551616 : Int)) (x.l.prod x.len /
  x.l.t g % (18446744073709551616 : Int)) * x.q (x.lo + (↑g : Int).toNat) / (18446744073709551616 : Int)) (wN (x.l.prod x.len / x.l.t g / (18446744073709551616 : Int)) (x.l.prod x.len / x.l.t g % (18446744073709551616 :
  Int)) * x.q (x.lo + (↑g : Int).toNat) % (18446744073709551616 : Int)) else (0 : Int)) % (18446744073709551616 : Int) = x.l.use (x.l.prod x.len) (g_1 + (1 : Nat)) % (18446744073709551616 : Int) ∧ True) ∧ ((2 : Nat) ≤ (2 :
  Nat) ∧ x.l.slk (x.l.prod x.len) g / (18446744073709551616 : Int) = x.l.slk (x.l.prod x.len) g_1 / (18446744073709551616 : Int) ∧ x.l.slk (x.l.prod x.len) g % (18446744073709551616 : Int) = x.l.slk (x.l.prod x.len) g_1 %
  (18446744073709551616 : Int) ∧ True) ∧ ((2 : Nat) ≤ (2 : Nat) ∧ x.l.prod x.len / x.l.t g / (18446744073709551616 : Int) = x.l.prod x.len / x.l.t g_1 / (18446744073709551616 : Int) ∧ x.l.prod x.len / x.l.t g %
  (18446744073709551616 : Int) = x.l.prod x.len / x.l.t g_1 % (18446744073709551616 : Int) ∧ True) ∧ True) ∧ True) ∧ (((x.l.prod x.len / x.l.t g / (18446744073709551616 : Int) = x.l.prod x.len / x.l.t g /
  (18446744073709551616 : Int) ∧ x.l.prod x.len / x.l.t g % (18446744073709551616 : Int) = x.l.prod x.len / x.l.t g % (18446744073709551616 : Int) ∧ True) ∧ x.q (x.lo + (↑g : Int).toNat) = x.q (x.lo + (↑g : Int).toNat) ∧
  True) ∧ True) ∧ ((((0 : Int) ≤ x.l.prod x.len / x.l.t g / (18446744073709551616 : Int) ∧ x.l.prod x.len / x.l.t g / (18446744073709551616 : Int) < (18446744073709551616 : Int)) ∧ (0 : Int) ≤ x.l.prod x.len / x.l.t g %
  (18446744073709551616 : Int) ∧ x.l.prod x.len / x.l.t g % (18446744073709551616 : Int) < (18446744073709551616 : Int)) ∧ ((0 : Int) ≤ x.q (x.lo + (↑g : Int).toNat) ∧ x.q (x.lo + (↑g : Int).toNat) < (18446744073709551616
  : Int)) ∧ wN (x.l.prod x.len / x.l.t g / (18446744073709551616 : Int)) (x.l.prod x.len / x.l.t g % (18446744073709551616 : Int)) * x.q (x.lo + (↑g : Int).toNat) < two128) ∧ (((x.l.use (x.l.prod x.len) g /
  (18446744073709551616 : Int) = x.l.use (x.l.prod x.len) g / (18446744073709551616 : Int) ∧ x.l.use (x.l.prod x.len) g % (18446744073709551616 : Int) = x.l.use (x.l.prod x.len) g % (18446744073709551616 : Int) ∧ True) ∧
  (wN (x.l.prod x.len / x.l.t g / (18446744073709551616 : Int)) (x.l.prod x.len / x.l.t g % (18446744073709551616 : Int)) * x.q (x.lo + (↑g : Int).toNat) / (18446744073709551616 : Int) = wN (x.l.prod x.len / x.l.t g /
  (18446744073709551616 : Int)) (x.l.prod x.len / x.l.t g % (18446744073709551616 : Int)) * x.q (x.lo + (↑g : Int).toNat) / (18446744073709551616 : Int) ∧ wN (x.l.prod x.len / x.l.t g / (18446744073709551616 : Int))
  (x.l.prod x.len / x.l.t g % (18446744073709551616 : Int)) * x.q (x.lo + (↑g : Int).toNat) % (18446744073709551616 : Int) = wN (x.l.prod x.len / x.l.t g / (18446744073709551616 : Int)) (x.l.prod x.len / x.l.t g %
  (18446744073709551616 : Int)) * x.q (x.lo + (↑g : Int).toNat) % (18446744073709551616 : Int) ∧ True) ∧ True) ∧ True) ∧ ((((0 : Int) ≤ x.l.use (x.l.prod x.len) g / (18446744073709551616 : Int) ∧ x.l.use (x.l.prod x.len) g
  / (18446744073709551616 : Int) < (18446744073709551616 : Int)) ∧ (0 : Int) ≤ x.l.use (x.l.prod x.len) g % (18446744073709551616 : Int) ∧ x.l.use (x.l.prod x.len) g % (18446744073709551616 : Int) < (18446744073709551616 :
  Int)) ∧ ((0 : Int) ≤ wN (x.l.prod x.len / x.l.t g / (18446744073709551616 : Int)) (x.l.prod x.len / x.l.t g % (18446744073709551616 : Int)) * x.q (x.lo + (↑g : Int).toNat) / (18446744073709551616 : Int) ∧ wN (x.l.prod
  x.len / x.l.t g / (18446744073709551616 : Int)) (x.l.prod x.len / x.l.t g % (18446744073709551616 : Int)) * x.q (x.lo + (↑g : Int).toNat) / (18446744073709551616 : Int) < (18446744073709551616 : Int)) ∧ (0 : Int) ≤ wN
  (x.l.prod x.len / x.l.t g / (18446744073709551616 : Int)) (x.l.prod x.len / x.l.t g % (18446744073709551616 : Int)) * x.q (x.lo + (↑g : Int).toNat) % (18446744073709551616 : Int) ∧ wN (x.l.prod x.len / x.l.t g /
  (18446744073709551616 : Int)) (x.l.prod x.len / x.l.t g % (18446744073709551616 : Int)) * x.q (x.lo + (↑g : Int).toNat) % (18446744073709551616 : Int) < (18446744073709551616 : Int)) ∧ ∃ (y : Bool), (rsumC2 x g_1).I y ∧
  ((((x.nil = true → x.nil = true) ∧ (x.nil = false → x.nil = false ∧ True ∧ True ∧ x.lo = x.lo ∧ x.len = x.len ∧ x.cap = x.cap)) ∧ (True ∧ True) ∧ (True ∧ True) ∧ (True ∧ True) ∧ (↑g : Int) = (↑g_1 : Int) ∧ (True ∧ True)
  ∧ True) ∧ ((0 : Nat) ≤ (0 : Nat) ∧ x.n = x.n ∧ ∀ (j : Nat), j < x.n → x.k j = x.k j ∧ x.q j = x.q j ∧ x.t j = x.t j ∧ True) ∧ ((2 : Nat) ≤ (2 : Nat) ∧ x.l.prod x.len / (18446744073709551616 : Int) = x.l.prod x.len /
  (18446744073709551616 : Int) ∧ x.l.prod x.len % (18446744073709551616 : Int) = x.l.prod x.len % (18446744073709551616 : Int) ∧ True) ∧ ((2 : Nat) ≤ (2 : Nat) ∧ (if wN (x.l.use (x.l.prod x.len) g / (18446744073709551616 :
  Int)) (x.l.use (x.l.prod x.len) g % (18446744073709551616 : Int)) + wN (wN (x.l.prod x.len / x.l.t g / (18446744073709551616 : Int)) (x.l.prod x.len / x.l.t g % (18446744073709551616 : Int)) * x.q (x.lo + (↑g :
  Int).toNat) / (18446744073709551616 : Int)) (wN (x.l.prod x.len / x.l.t g / (18446744073709551616 : Int)) (x.l.prod x.len / x.l.t g % (18446744073709551616 : Int)) * x.q (x.lo + (↑g : Int).toNat) % (18446744073709551616
  : Int)) < two128 then wN (x.l.use (x.l.prod x.len) g / (18446744073709551616 : Int)) (x.l.use (x.l.prod x.len) g % (18446744073709551616 : Int)) + wN (wN (x.l.prod x.len / x.l.t g / (18446744073709551616 : Int))
  (x.l.prod x.len / x.l.t g % (18446744073709551616 : Int)) * x.q (x.lo + (↑g : Int).toNat) / (18446744073709551616 : Int)) (wN (x.l.prod x.len / x.l.t g / (18446744073709551616 : Int)) (x.l.prod x.len / x.l.t g %
  (18446744073709551616 : Int)) * x.q (x.lo + (↑g : Int).toNat) % (18446744073709551616 : Int)) else (0 : Int)) / (18446744073709551616 : Int) = x.l.use (x.l.prod x.len) (g_1 + (1 : Nat)) / (18446744073709551616 : Int) ∧
  (if wN (x.l.use (x.l.prod x.len) g / (18446744073709551616 : Int)) (x.l.use (x.l.prod x.len) g % (18446744073709551616 : Int)) + wN (wN (x.l.prod x.len / x.l.t g / (18446744073709551616 : Int)) (x.l.prod x.len / x.l.t g
  % (18446744073709551616 : Int)) * x.q (x.lo + (↑g : Int).toNat) / (18446744073709551616 : Int)) (wN (x.l.prod x.len / x.l.t g / (18446744073709551616 : Int)) (x.l.prod x.len / x.l.t g % (18446744073709551616 : Int)) *
  x.q (x.lo + (↑g : Int).toNat) % (18446744073709551616 : Int)) < two128 then wN (x.l.use (x.l.prod x.len) g / (18446744073709551616 : Int)) (x.l.use (x.l.prod x.len) g % (18446744073709551616 : Int)) + wN (wN (x.l.prod
  x.len / x.l.t g / (18446744073709551616 : Int)) (x.l.prod x.len / x.l.t g % (18446744073709551616 : Int)) * x.q (x.lo + (↑g : Int).toNat) / (18446744073709551616 : Int)) (wN (x.l.prod x.len / x.l.t g /
  (18446744073709551616 : Int)) (x.l.prod x.len / x.l.t g % (18446744073709551616 : Int)) * x.q (x.lo + (↑g : Int).toNat) % (18446744073709551616 : Int)) else (0 : Int)) % (18446744073709551616 : Int) = x.l.use (x.l.prod
  x.len) (g_1 + (1 : Nat)) % (18446744073709551616 : Int) ∧ True) ∧ ((2 : Nat) ≤ (2 : Nat) ∧ x.l.slk (x.l.prod x.len) g / (18446744073709551616 : Int) = x.l.slk (x.l.prod x.len) g_1 / (18446744073709551616 : Int) ∧ x.l.slk
  (x.l.prod x.len) g % (18446744073709551616 : Int) = x.l.slk (x.l.prod x.len) g_1 % (18446744073709551616 : Int) ∧ True) ∧ ((2 : Nat) ≤ (2 : Nat) ∧ x.l.prod x.len / x.l.t g / (18446744073709551616 : Int) = x.l.prod x.len
  / x.l.t g_1 / (18446744073709551616 : Int) ∧ x.l.prod x.len / x.l.t g % (18446744073709551616 : Int) = x.l.prod x.len / x.l.t g_1 % (18446744073709551616 : Int) ∧ True) ∧ True) ∧ True) ∧ ∀ (y_2 : Bool), (rsumC2 x g_1).I
  y_2 → (x.nil = true → x.len = (0 : Nat)) ∧ ((0 : Int) ≤ (↑g_1 : Int) ∧ (↑g_1 : Int) < (↑x.len : Int)) ∧ x.lo + (↑g_1 : Int).toNat < x.n ∧ (x.nil = true → x.len = (0 : Nat)) ∧ ((0 : Int) ≤ (↑g_1 : Int) ∧ (↑g_1 : Int) <
  (↑x.len : Int)) ∧ x.lo + (↑g_1 : Int).toNat < x.n ∧ ((((x.k (x.lo + (↑g_1 : Int).toNat) = x.k (x.lo + (↑g_1 : Int).toNat) ∧ x.q (x.lo + (↑g_1 : Int).toNat) = x.q (x.lo + (↑g_1 : Int).toNat) ∧ x.t (x.lo + (↑g_1 :
  Int).toNat) = x.t (x.lo + (↑g_1 : Int).toNat) ∧ True) ∧ True) ∧ True) ∧ rightE (x.k (x.lo + (↑g_1 : Int).toNat)) (x.q (x.lo + (↑g_1 : Int).toNat)) (x.t (x.lo + (↑g_1 : Int).toNat)) ∧ (((x.l.prod x.len / x.l.t g_1 /
  (18446744073709551616 : Int) = x.l.prod x.len / x.l.t g_1 / (18446744073709551616 : Int) ∧ x.l.prod x.len / x.l.t g_1 % (18446744073709551616 : Int) = x.l.prod x.len / x.l.t g_1 % (18446744073709551616 : Int) ∧ True) ∧
  IntKind.u64.wrap (x.q (x.lo + (↑g_1 : Int).toNat) * if x.k (x.lo + (↑g_1 : Int).toNat) = (1 : Int) then (0 : Int) else x.t (x.lo + (↑g_1 : Int).toNat) - x.q (x.lo + (↑g_1 : Int).toNat)) = IntKind.u64.wrap (x.q (x.lo +
  (↑g_1 : Int).toNat) * if x.k (x.lo + (↑g_1 : Int).toNat) = (1 : Int) then (0 : Int) else x.t (x.lo + (↑g_1 : Int).toNat) - x.q (x.lo + (↑g_1 : Int).toNat)) ∧ True) ∧ True) ∧ ((((0 : Int) ≤ x.l.prod x.len / x.l.t g_1 /
  (18446744073709551616 : Int) ∧ x.l.prod x.len / x.l.t g_1 / (18446744073709551616 : Int) < (18446744073709551616 : Int)) ∧ (0 : Int) ≤ x.l.prod x.len / x.l.t g_1 % (18446744073709551616 : Int) ∧ x.l.prod x.len / x.l.t
  g_1 % (18446744073709551616 : Int) < (18446744073709551616 : Int)) ∧ ((0 : Int) ≤ IntKind.u64.wrap (x.q (x.lo + (↑g_1 : Int).toNat) * if x.k (x.lo + (↑g_1 : Int).toNat) = (1 : Int) then (0 : Int) else x.t (x.lo + (↑g_1 :
  Int).toNat) - x.q (x.lo + (↑g_1 : Int).toNat)) ∧ IntKind.u64.wrap (x.q (x.lo + (↑g_1 : Int).toNat) * if x.k (x.lo + (↑g_1 : Int).toNat) = (1 : Int) then (0 : Int) else x.t (x.lo + (↑g_1 : Int).toNat) - x.q (x.lo + (↑g_1
  : Int).toNat)) < (18446744073709551616 : Int)) ∧ wN (x.l.prod x.len / x.l.t g_1 / (18446744073709551616 : Int)) (x.l.prod x.len / x.l.t g_1 % (18446744073709551616 : Int)) * IntKind.u64.wrap (x.q (x.lo + (↑g_1 :
  Int).toNat) * if x.k (x.lo + (↑g_1 : Int).toNat) = (1 : Int) then (0 : Int) else x.t (x.lo + (↑g_1 : Int).toNat) - x.q (x.lo + (↑g_1 : Int).toNat)) < two128) ∧ (((x.l.slk (x.l.prod x.len) g_1 / (18446744073709551616 :
  Int) = x.l.slk (x.l.prod x.len) g_1 / (18446744073709551616 : Int) ∧ x.l.slk (x.l.prod x.len) g_1 % (18446744073709551616 : Int) = x.l.slk (x.l.prod x.len) g_1 % (18446744073709551616 : Int) ∧ True) ∧ (wN (x.l.prod x.len
  / x.l.t g_1 / (18446744073709551616 : Int)) (x.l.prod x.len / x.l.t g_1 % (18446744073709551616 : Int)) * IntKind.u64.wrap (x.q (x.lo + (↑g_1 : Int).toNat) * if x.k (x.lo + (↑g_1 : Int).toNat) = (1 : Int) then (0 : Int)
  else x.t (x.lo + (↑g_1 : Int).toNat) - x.q (x.lo + (↑g_1 : Int).toNat)) / (18446744073709551616 : Int) = wN (x.l.prod x.len / x.l.t g_1 / (18446744073709551616 : Int)) (x.l.prod x.len / x.l.t g_1 % (18446744073709551616
  : Int)) * IntKind.u64.wrap (x.q (x.lo + (↑g_1 : Int).toNat) * if x.k (x.lo + (↑g_1 : Int).toNat) = (1 : Int) then (0 : Int) else x.t (x.lo + (↑g_1 : Int).toNat) - x.q (x.lo + (↑g_1 : Int).toNat)) / (18446744073709551616
  : Int) ∧ wN (x.l.prod x.len / x.l.t g_1 / (18446744073709551616 : Int)) (x.l.prod x.len / x.l.t g_1 % (18446744073709551616 : Int)) * IntKind.u64.wrap (x.q (x.lo + (↑g_1 : Int).toNat) * if x.k (x.lo + (↑g_1 : Int).toNat)
  = (1 : Int) then (0 : Int) else x.t (x.lo + (↑g_1 : Int).toNat) - x.q (x.lo + (↑g_1 : Int).toNat)) % (18446744073709551616 : Int) = wN (x.l.prod x.len / x.l.t g_1 / (18446744073709551616 : Int)) (x.l.prod x.len / x.l.t
  g_1 % (18446744073709551616 : Int)) * IntKind.u64.wrap (x.q (x.lo + (↑g_1 : Int).toNat) * if x.k (x.lo + (↑g_1 : Int).toNat) = (1 : Int) then (0 : Int) else x.t (x.lo + (↑g_1 : Int).toNat) - x.q (x.lo + (↑g_1 :
  Int).toNat)) % (18446744073709551616 : Int) ∧ True) ∧ True) ∧ True) ∧ ((((0 : Int) ≤ x.l.slk (x.l.prod x.len) g_1 / (18446744073709551616 : Int) ∧ x.l.slk (x.l.prod x.len) g_1 / (18446744073709551616 : Int) <
  (18446744073709551616 : Int)) ∧ (0 : Int) ≤ x.l.slk (x.l.prod x.len) g_1 % (18446744073709551616 : Int) ∧ x.l.slk (x.l.prod x.len) g_1 % (18446744073709551616 : Int) < (18446744073709551616 : Int)) ∧ ((0 : Int) ≤ wN
  (x.l.prod x.len / x.l.t g_1 / (18446744073709551616 : Int)) (x.l.prod x.len / x.l.t g_1 % (18446744073709551616 : Int)) * IntKind.u64.wrap (x.q (x.lo + (↑g_1 : Int).toNat) * if x.k (x.lo + (↑g_1 : Int).toNat) = (1 : Int)
  then (0 : Int) else x.t (x.lo + (↑g_1 : Int).toNat) - x.q (x.lo + (↑g_1 : Int).toNat)) / (18446744073709551616 : Int) ∧ wN (x.l.prod x.len / x.l.t g_1 / (18446744073709551616 : Int)) (x.l.prod x.len / x.l.t g_1 %
  (18446744073709551616 : Int)) * IntKind.u64.wrap (x.q (x.lo + (↑g_1 : Int).toNat) * if x.k (x.lo + (↑g_1 : Int).toNat) = (1 : Int) then (0 : Int) else x.t (x.lo + (↑g_1 : Int).toNat) - x.q (x.lo + (↑g_1 : Int).toNat)) /
  (18446744073709551616 : Int) < (18446744073709551616 : Int)) ∧ (0 : Int) ≤ wN (x.l.prod x.len / x.l.t g_1 / (18446744073709551616 : Int)) (x.l.prod x.len / x.l.t g_1 % (18446744073709551616 : Int)) * IntKind.u64.wrap
  (x.q (x.lo + (↑g_1 : Int).toNat) * if x.k (x.lo + (↑g_1 : Int).toNat) = (1 : Int) then (0 : Int) else x.t (x.lo + (↑g_1 : Int).toNat) - x.q (x.lo + (↑g_1 : Int).toNat)) % (18446744073709551616 : Int) ∧ wN (x.l.prod x.len
  / x.l.t g_1 / (18446744073709551616 : Int)) (x.l.prod x.len / x.l.t g_1 % (18446744073709551616 : Int)) * IntKind.u64.wrap (x.q (x.lo + (↑g_1 : Int).toNat) * if x.k (x.lo + (↑g_1 : Int).toNat) = (1 : Int) then (0 : Int)
  else x.t (x.lo + (↑g_1 : Int).toNat) - x.q (x.lo + (↑g_1 : Int).toNat)) % (18446744073709551616 : Int) < (18446744073709551616 : Int)) ∧ ∀ (v : Int), v = IntKind.i64.wrap ((↑g_1 : Int) + (1 : Int)) → ∃ (y_3 : Nat),
  (rsumF2 x).I y_3 ∧ ((((x.nil = true → x.nil = true) ∧ (x.nil = false → x.nil = false ∧ True ∧ True ∧ x.lo = x.lo ∧ x.len = x.len ∧ x.cap = x.cap)) ∧ (True ∧ True) ∧ (True ∧ True) ∧ (True ∧ True) ∧ v = (↑y_3 : Int) ∧
  True) ∧ ((0 : Nat) ≤ (0 : Nat) ∧ x.n = x.n ∧ ∀ (j : Nat), j < x.n → x.k j = x.k j ∧ x.q j = x.q j ∧ x.t j = x.t j ∧ True) ∧ ((2 : Nat) ≤ (2 : Nat) ∧ x.l.prod x.len / (18446744073709551616 : Int) = x.l.prod x.len /
  (18446744073709551616 : Int) ∧ x.l.prod x.len % (18446744073709551616 : Int) = x.l.prod x.len % (18446744073709551616 : Int) ∧ True) ∧ ((2 : Nat) ≤ (2 : Nat) ∧ x.l.use (x.l.prod x.len) (g_1 + (1 : Nat)) /
  (18446744073709551616 : Int) = x.l.use (x.l.prod x.len) y_3 / (18446744073709551616 : Int) ∧ x.l.use (x.l.prod x.len) (g_1 + (1 : Nat)) % (18446744073709551616 : Int) = x.l.use (x.l.prod x.len) y_3 %
  (18446744073709551616 : Int) ∧ True) ∧ ((2 : Nat) ≤ (2 : Nat) ∧ (if wN (x.l.slk (x.l.prod x.len) g_1 / (18446744073709551616 : Int)) (x.l.slk (x.l.prod x.len) g_1 % (18446744073709551616 : Int)) + wN (wN (x.l.prod x.len
  / x.l.t g_1 / (18446744073709551616 : Int)) (x.l.prod x.len / x.l.t g_1 % (18446744073709551616 : Int)) * IntKind.u64.wrap (x.q (x.lo + (↑g_1 : Int).toNat) * if x.k (x.lo + (↑g_1 : Int).toNat) = (1 : Int) then (0 : Int)
  else x.t (x.lo + (↑g_1 : Int).toNat) - x.q (x.lo + (↑g_1 : Int).toNat)) / (18446744073709551616 : Int)) (wN (x.l.prod x.len / x.l.t g_1 / (18446744073709551616 : Int)) (x.l.prod x.len / x.l.t g_1 % (18446744073709551616
  : Int)) * IntKind.u64.wrap (x.q (x.lo + (↑g_1 : Int).toNat) * if x.k (x.lo + (↑g_1 : Int).toNat) = (1 : Int) then (0 : Int) else x.t (x.lo + (↑g_1 : Int).toNat) - x.q (x.lo + (↑g_1 : Int).toNat)) % (18446744073709551616
  : Int)) < two128 then wN (x.l.slk (x.l.prod x.len) g_1 / (18446744073709551616 : Int)) (x.l.slk (x.l.prod x.len) g_1 % (18446744073709551616 : Int)) + wN (wN (x.l.prod x.len / x.l.t g_1 / (18446744073709551616 : Int))
  (x.l.prod x.len / x.l.t g_1 % (18446744073709551616 : Int)) * IntKind.u64.wrap (x.q (x.lo + (↑g_1 : Int).toNat) * if x.k (x.lo + (↑g_1 : Int).toNat) = (1 : Int) then (0 : Int) else x.t (x.lo + (↑g_1 : Int).toNat) - x.q
  (x.lo + (↑g_1 : Int).toNat)) / (18446744073709551616 : Int)) (wN (x.l.prod x.len / x.l.t g_1 / (18446744073709551616 : Int)) (x.l.prod x.len / x.l.t g_1 % (18446744073709551616 : Int)) * IntKind.u64.wrap (x.q (x.lo +
  (↑g_1 : Int).toNat) * if x.k (x.lo + (↑g_1 : Int).toNat) = (1 : Int) then (0 : Int) else x.t (x.lo + (↑g_1 : Int).toNat) - x.q (x.lo + (↑g_1 : Int).toNat)) % (18446744073709551616 : Int)) else (0 : Int)) /
  (18446744073709551616 : Int) = x.l.slk (x.l.prod x.len) y_3 / (18446744073709551616 : Int) ∧ (if wN (x.l.slk (x.l.prod x.len) g_1 / (18446744073709551616 : Int)) (x.l.slk (x.l.prod x.len) g_1 % (18446744073709551616 :
  Int)) + wN (wN (x.l.prod x.len / x.l.t g_1 / (18446744073709551616 : Int)) (x.l.prod x.len / x.l.t g_1 % (18446744073709551616 : Int)) * IntKind.u64.wrap (x.q (x.lo + (↑g_1 : Int).toNat) * if x.k (x.lo + (↑g_1 :
  Int).toNat) = (1 : Int) then (0 : Int) else x.t (x.lo + (↑g_1 : Int).toNat) - x.q (x.lo + (↑g_1 : Int).toNat)) / (18446744073709551616 : Int)) (wN (x.l.prod x.len / x.l.t g_1 / (18446744073709551616 : Int)) (x.l.prod
  x.len / x.l.t g_1 % (18446744073709551616 : Int)) * IntKind.u64.wrap (x.q (x.lo + (↑g_1 : Int).toNat) * if x.k (x.lo + (↑g_1 : Int).toNat) = (1 : Int) then (0 : Int) else x.t (x.lo + (↑g_1 : Int).toNat) - x.q (x.lo +
  (↑g_1 : Int).toNat)) % (18446744073709551616 : Int)) < two128 then wN (x.l.slk (x.l.prod x.len) g_1 / (18446744073709551616 : Int)) (x.l.slk (x.l.prod x.len) g_1 % (18446744073709551616 : Int)) + wN (wN (x.l.prod x.len /
  x.l.t g_1 / (18446744073709551616 : Int)) (x.l.prod x.len / x.l.t g_1 % (18446744073709551616 : Int)) * IntKind.u64.wrap (x.q (x.lo + (↑g_1 : Int).toNat) * if x.k (x.lo + (↑g_1 : Int).toNat) = (1 : Int) then (0 : Int)
  else x.t (x.lo + (↑g_1 : Int).toNat) - x.q (x.lo + (↑g_1 : Int).toNat)) / (18446744073709551616 : Int)) (wN (x.l.prod x.len / x.l.t g_1 / (18446744073709551616 : Int)) (x.l.prod x.len / x.l.t g_1 % (18446744073709551616
  : Int)) * IntKind.u64.wrap (x.q (x.lo + (↑g_1 : Int).toNat) * if x.k (x.lo + (↑g_1 : Int).toNat) = (1 : Int) then (0 : Int) else x.t (x.lo + (↑g_1 : Int).toNat) - x.q (x.lo + (↑g_1 : Int).toNat)) % (18446744073709551616
  : Int)) else (0 : Int)) % (18446744073709551616 : Int) = x.l.slk (x.l.prod x.len) y_3 % (18446744073709551616 : Int) ∧ True) ∧ True) ∧ (rsumF2 x).μ y_3 < (rsumF2 x).μ y) ∧ (((x.k (x.lo + (↑g_1 : Int).toNat) = x.k (x.lo +
  (↑g_1 : Int).toNat) ∧ x.q (x.lo + (↑g_1 : Int).toNat) = x.q (x.lo + (↑g_1 : Int).toNat) ∧ x.t (x.lo + (↑g_1 : Int).toNat) = x.t (x.lo + (↑g_1 : Int).toNat) ∧ True) ∧ True) ∧ True) ∧ rightE (x.k (x.lo + (↑g_1 :
  Int).toNat)) (x.q (x.lo + (↑g_1 : Int).toNat)) (x.t (x.lo + (↑g_1 : Int).toNat)) ∧ ((((x.l.prod x.len / x.l.t g_1 / (18446744073709551616 : Int) = x.l.prod x.len / x.l.t g_1 / (18446744073709551616 : Int) ∧ x.l.prod
  x.len / x.l.t g_1 % (18446744073709551616 : Int) = x.l.prod x.len / x.l.t g_1 % (18446744073709551616 : Int) ∧ True) ∧ IntKind.u64.wrap (x.q (x.lo + (↑g_1 : Int).toNat) * if x.k (x.lo + (↑g_1 : Int).toNat) = (1 : Int)
  then (0 : Int) else x.t (x.lo + (↑g_1 : Int).toNat) - x.q (x.lo + (↑g_1 : Int).toNat)) = IntKind.u64.wrap (x.q (x.lo + (↑g_1 : Int).toNat) * if x.k (x.lo + (↑g_1 : Int).toNat) = (1 : Int) then (0 : Int) else x.t (x.lo +
  (↑g_1 : Int).toNat) - x.q (x.lo + (↑g_1 : Int).toNat)) ∧ True) ∧ True) ∧ ((((0 : Int) ≤ x.l.prod x.len / x.l.t g_1 / (18446744073709551616 : Int) ∧ x.l.prod x.len / x.l.t g_1 / (18446744073709551616 : Int) <
  (18446744073709551616 : Int)) ∧ (0 : Int) ≤ x.l.prod x.len / x.l.t g_1 % (18446744073709551616 : Int) ∧ x.l.prod x.len / x.l.t g_1 % (18446744073709551616 : Int) < (18446744073709551616 : Int)) ∧ ((0 : Int) ≤
  IntKind.u64.wrap (x.q (x.lo + (↑g_1 : Int).toNat) * if x.k (x.lo + (↑g_1 : Int).toNat) = (1 : Int) then (0 : Int) else x.t (x.lo + (↑g_1 : Int).toNat) - x.q (x.lo + (↑g_1 : Int).toNat)) ∧ IntKind.u64.wrap (x.q (x.lo +
  (↑g_1 : Int).toNat) * if x.k (x.lo + (↑g_1 : Int).toNat) = (1 : Int) then (0 : Int) else x.t (x.lo + (↑g_1 : Int).toNat) - x.q (x.lo + (↑g_1 : Int).toNat)) < (18446744073709551616 : Int)) ∧ wN (x.l.prod x.len / x.l.t g_1
  / (18446744073709551616 : Int)) (x.l.prod x.len / x.l.t g_1 % (18446744073709551616 : Int)) * IntKind.u64.wrap (x.q (x.lo + (↑g_1 : Int).toNat) * if x.k (x.lo + (↑g_1 : Int).toNat) = (1 : Int) then (0 : Int) else x.t
  (x.lo + (↑g_1 : Int).toNat) - x.q (x.lo + (↑g_1 : Int).toNat)) < two128) ∧ (((x.l.slk (x.l.prod x.len) g_1 / (18446744073709551616 : Int) = x.l.slk (x.l.prod x.len) g_1 / (18446744073709551616 : Int) ∧ x.l.slk (x.l.prod
  x.len) g_1 % (18446744073709551616 : Int) = x.l.slk (x.l.prod x.len) g_1 % (18446744073709551616 : Int) ∧ True) ∧ (wN (x.l.prod x.len / x.l.t g_1 / (18446744073709551616 : Int)) (x.l.prod x.len / x.l.t g_1 %
  (18446744073709551616 : Int)) * IntKind.u64.wrap (x.q (x.lo + (↑g_1 : Int).toNat) * if x.k (x.lo + (↑g_1 : Int).toNat) = (1 : Int) then (0 : Int) else x.t (x.lo + (↑g_1 : Int).toNat) - x.q (x.lo + (↑g_1 : Int).toNat)) /
  (18446744073709551616 : Int) = wN (x.l.prod x.len / x.l.t g_1 / (18446744073709551616 : Int)) (x.l.prod x.len / x.l.t g_1 % (18446744073709551616 : Int)) * IntKind.u64.wrap (x.q (x.lo + (↑g_1 : Int).toNat) * if x.k (x.lo
  + (↑g_1 : Int).toNat) = (1 : Int) then (0 : Int) else x.t (x.lo + (↑g_1 : Int).toNat) - x.q (x.lo + (↑g_1 : Int).toNat)) / (18446744073709551616 : Int) ∧ wN (x.l.prod x.len / x.l.t g_1 / (18446744073709551616 : Int))
  (x.l.prod x.len / x.l.t g_1 % (18446744073709551616 : Int)) * IntKind.u64.wrap (x.q (x.lo + (↑g_1 : Int).toNat) * if x.k (x.lo + (↑g_1 : Int).toNat) = (1 : Int) then (0 : Int) else x.t (x.lo + (↑g_1 : Int).toNat) - x.q
  (x.lo + (↑g_1 : Int).toNat)) % (18446744073709551616 : Int) = wN (x.l.prod x.len / x.l.t g_1 / (18446744073709551616 : Int)) (x.l.prod x.len / x.l.t g_1 % (18446744073709551616 : Int)) * IntKind.u64.wrap (x.q (x.lo +
  (↑g_1 : Int).toNat) * if x.k (x.lo + (↑g_1 : Int).toNat) = (1 : Int) then (0 : Int) else x.t (x.lo + (↑g_1 : Int).toNat) - x.q (x.lo + (↑g_1 : Int).toNat)) % (18446744073709551616 : Int) ∧ True) ∧ True) ∧ True) ∧ ((((0 :
  Int) ≤ x.l.slk (x.l.prod x.len) g_1 / (18446744073709551616 : Int) ∧ x.l.slk (x.l.prod x.len) g_1 / (18446744073709551616 : Int) < (18446744073709551616 : Int)) ∧ (0 : Int) ≤ x.l.slk (x.l.prod x.len) g_1 %
  (18446744073709551616 : Int) ∧ x.l.slk (x.l.prod x.len) g_1 % (18446744073709551616 : Int) < (18446744073709551616 : Int)) ∧ ((0 : Int) ≤ wN (x.l.prod x.len / x.l.t g_1 / (18446744073709551616 : Int)) (x.l.prod x.len /
  x.l.t g_1 % (18446744073709551616 : Int)) * IntKind.u64.wrap (x.q (x.lo + (↑g_1 : Int).toNat) * if x.k (x.lo + (↑g_1 : Int).toNat) = (1 : Int) then (0 : Int) else x.t (x.lo + (↑g_1 : Int).toNat) - x.q (x.lo + (↑g_1 :
  Int).toNat)) / (18446744073709551616 : Int) ∧ wN (x.l.prod x.len / x.l.t g_1 / (18446744073709551616 : Int)) (x.l.prod x.len / x.l.t g_1 % (18446744073709551616 : Int)) * IntKind.u64.wrap (x.q (x.lo + (↑g_1 : Int).toNat)
  * if x.k (x.lo + (↑g_1 : Int).toNat) = (1 : Int) then (0 : Int) else x.t (x.lo + (↑g_1 : Int).toNat) - x.q (x.lo + (↑g_1 : Int).toNat)) / (18446744073709551616 : Int) < (18446744073709551616 : Int)) ∧ (0 : Int) ≤ wN
  (x.l.prod x.len / x.l.t g_1 / (18446744073709551616 : Int)) (x.l.prod x.len / x.l.t g_1 % (18446744073709551616 : Int)) * IntKind.u64.wrap (x.q (x.lo + (↑g_1 : Int).toNat) * if x.k (x.lo + (↑g_1 : Int).toNat) = (1 : Int)
  then (0 : Int) else x.t (x.lo + (↑g_1 : Int).toNat) - x.q (x.lo + (↑g_1 : Int).toNat)) % (18446744073709551616 : Int) ∧ wN (x.l.prod x.len / x.l.t g_1 / (18446744073709551616 : Int)) (x.l.prod x.len / x.l.t g_1 %
  (18446744073709551616 : Int)) * IntKind.u64.wrap (x.q (x.lo + (↑g_1 : Int).toNat) * if x.k (x.lo + (↑g_1 : Int).toNat) = (1 : Int) then (0 : Int) else x.t (x.lo + (↑g_1 : Int).toNat) - x.q (x.lo + (↑g_1 : Int).toNat)) %
  (18446744073709551616 : Int) < (18446744073709551616 : Int)) ∧ ∀ (v : Int), v = IntKind.i64.wrap ((↑g_1 : Int) + (1 : Int)) → ∃ (y_3 : Nat), (rsumF2 x).I y_3 ∧ ((((x.nil = true → x.nil = true) ∧ (x.nil = false → x.nil =
  false ∧ True ∧ True ∧ x.lo = x.lo ∧ x.len = x.len ∧ x.cap = x.cap)) ∧ (True ∧ True) ∧ (True ∧ True) ∧ (True ∧ True) ∧ v = (↑y_3 : Int) ∧ True) ∧ ((0 : Nat) ≤ (0 : Nat) ∧ x.n = x.n ∧ ∀ (j : Nat), j < x.n → x.k j = x.k j ∧
  x.q j = x.q j ∧ x.t j = x.t j ∧ True) ∧ ((2 : Nat) ≤ (2 : Nat) ∧ x.l.prod x.len / (18446744073709551616 : Int) = x.l.prod x.len / (18446744073709551616 : Int) ∧ x.l.prod x.len % (18446744073709551616 : Int) = x.l.prod
  x.len % (18446744073709551616 : Int) ∧ True) ∧ ((2 : Nat) ≤ (2 : Nat) ∧ x.l.use (x.l.prod x.len) (g_1 + (1 : Nat)) / (18446744073709551616 : Int) = x.l.use (x.l.prod x.len) y_3 / (18446744073709551616 : Int) ∧ x.l.use
  (x.l.prod x.len) (g_1 + (1 : Nat)) % (18446744073709551616 : Int) = x.l.use (x.l.prod x.len) y_3 % (18446744073709551616 : Int) ∧ True) ∧ ((2 : Nat) ≤ (2 : Nat) ∧ (if wN (x.l.slk (x.l.prod x.len) g_1 /
  (18446744073709551616 : Int)) (x.l.slk (x.l.prod x.len) g_1 % (18446744073709551616 : Int)) + wN (wN (x.l.prod x.len / x.l.t g_1 / (18446744073709551616 : Int)) (x.l.prod x.len / x.l.t g_1 % (18446744073709551616 : Int))
  * IntKind.u64.wrap (x.q (x.lo + (↑g_1 : Int).toNat) * if x.k (x.lo + (↑g_1 : Int).toNat) = (1 : Int) then (0 : Int) else x.t (x.lo + (↑g_1 : Int).toNat) - x.q (x.lo + (↑g_1 : Int).toNat)) / (18446744073709551616 : Int))
  (wN (x.l.prod x.len / x.l.t g_1 / (18446744073709551616 : Int)) (x.l.prod x.len / x.l.t g_1 % (18446744073709551616 : Int)) * IntKind.u64.wrap (x.q (x.lo + (↑g_1 : Int).toNat) * if x.k (x.lo + (↑g_1 : Int).toNat) = (1 :
  Int) then (0 : Int) else x.t (x.lo + (↑g_1 : Int).toNat) - x.q (x.lo + (↑g_1 : Int).toNat)) % (18446744073709551616 : Int)) < two128 then wN (x.l.slk (x.l.prod x.len) g_1 / (18446744073709551616 : Int)) (x.l.slk
  (x.l.prod x.len) g_1 % (18446744073709551616 : Int)) + wN (wN (x.l.prod x.len / x.l.t g_1 / (18446744073709551616 : Int)) (x.l.prod x.len / x.l.t g_1 % (18446744073709551616 : Int)) * IntKind.u64.wrap (x.q (x.lo + (↑g_1
  : Int).toNat) * if x.k (x.lo + (↑g_1 : Int).toNat) = (1 : Int) then (0 : Int) else x.t (x.lo + (↑g_1 : Int).toNat) - x.q (x.lo + (↑g_1 : Int).toNat)) / (18446744073709551616 : Int)) (wN (x.l.prod x.len / x.l.t g_1 /
  (18446744073709551616 : Int)) (x.l.prod x.len / x.l.t g_1 % (18446744073709551616 : Int)) * IntKind.u64.wrap (x.q (x.lo + (↑g_1 : Int).toNat) * if x.k (x.lo + (↑g_1 : Int).toNat) = (1 : Int) then (0 : Int) else x.t (x.lo
  + (↑g_1 : Int).toNat) - x.q (x.lo + (↑g_1 : Int).toNat)) % (18446744073709551616 : Int)) else (0 : Int)) / (18446744073709551616 : Int) = x.l.slk (x.l.prod x.len) y_3 / (18446744073709551616 : Int) ∧ (if wN (x.l.slk
  (x.l.prod x.len) g_1 / (18446744073709551616 : Int)) (x.l.slk (x.l.prod x.len) g_1 % (18446744073709551616 : Int)) + wN (wN (x.l.prod x.len / x.l.t g_1 / (18446744073709551616 : Int)) (x.l.prod x.len / x.l.t g_1 %
  (18446744073709551616 : Int)) * IntKind.u64.wrap (x.q (x.lo + (↑g_1 : Int).toNat) * if x.k (x.lo + (↑g_1 : Int).toNat) = (1 : Int) then (0 : Int) else x.t (x.lo + (↑g_1 : Int).toNat) - x.q (x.lo + (↑g_1 : Int).toNat)) /
  (18446744073709551616 : Int)) (wN (x.l.prod x.len / x.l.t g_1 / (18446744073709551616 : Int)) (x.l.prod x.len / x.l.t g_1 % (18446744073709551616 : Int)) * IntKind.u64.wrap (x.q (x.lo + (↑g_1 : Int).toNat) * if x.k (x.lo
  + (↑g_1 : Int).toNat) = (1 : Int) then (0 : Int) else x.t (x.lo + (↑g_1 : Int).toNat) - x.q (x.lo + (↑g_1 : Int).toNat)) % (18446744073709551616 : Int)) < two128 then wN (x.l.slk (x.l.prod x.len) g_1 /
  (18446744073709551616 : Int)) (x.l.slk (x.l.prod x.len) g_1 % (18446744073709551616 : Int)) + wN (wN (x.l.prod x.len / x.l.t g_1 / (18446744073709551616 : Int)) (x.l.prod x.len / x.l.t g_1 % (18446744073709551616 : Int))
  * IntKind.u64.wrap (x.q (x.lo + (↑g_1 : Int).toNat) * if x.k (x.lo + (↑g_1 : Int).toNat) = (1 : Int) then (0 : Int) else x.t (x.lo + (↑g_1 : Int).toNat) - x.q (x.lo + (↑g_1 : Int).toNat)) / (18446744073709551616 : Int))
  (wN (x.l.prod x.len / x.l.t g_1 / (18446744073709551616 : Int)) (x.l.prod x.len / x.l.t g_1 % (18446744073709551616 : Int)) * IntKind.u64.wrap (x.q (x.lo + (↑g_1 : Int).toNat) * if x.k (x.lo + (↑g_1 : Int).toNat) = (1 :
  Int) then (0 : Int) else x.t (x.lo + (↑g_1 : Int).toNat) - x.q (x.lo + (↑g_1 : Int).toNat)) % (18446744073709551616 : Int)) else (0 : Int)) % (18446744073709551616 : Int) = x.l.slk (x.l.prod x.len) y_3 %
  (18446744073709551616 : Int) ∧ True) ∧ True) ∧ (rsumF2 x).μ y_3 < (rsumF2 x).μ y) ∧ (((x.l.prod x.len / x.l.t g_1 / (18446744073709551616 : Int) = x.l.prod x.len / x.l.t g_1 / (18446744073709551616 : Int) ∧ x.l.prod
  x.len / x.l.t g_1 % (18446744073709551616 : Int) = x.l.prod x.len / x.l.t g_1 % (18446744073709551616 : Int) ∧ True) ∧ IntKind.u64.wrap (x.q (x.lo + (↑g_1 : Int).toNat) * if x.k (x.lo + (↑g_1 : Int).toNat) = (1 : Int)
  then (0 : Int) else x.t (x.lo + (↑g_1 : Int).toNat) - x.q (x.lo + (↑g_1 : Int).toNat)) = IntKind.u64.wrap (x.q (x.lo + (↑g_1 : Int).toNat) * if x.k (x.lo + (↑g_1 : Int).toNat) = (1 : Int) then (0 : Int) else x.t (x.lo +
  (↑g_1 : Int).toNat) - x.q (x.lo + (↑g_1 : Int).toNat)) ∧ True) ∧ True) ∧ ((((0 : Int) ≤ x.l.prod x.len / x.l.t g_1 / (18446744073709551616 : Int) ∧ x.l.prod x.len / x.l.t g_1 / (18446744073709551616 : Int) <
  (18446744073709551616 : Int)) ∧ (0 : Int) ≤ x.l.prod x.len / x.l.t g_1 % (18446744073709551616 : Int) ∧ x.l.prod x.len / x.l.t g_1 % (18446744073709551616 : Int) < (18446744073709551616 : Int)) ∧ ((0 : Int) ≤
  IntKind.u64.wrap (x.q (x.lo + (↑g_1 : Int).toNat) * if x.k (x.lo + (↑g_1 : Int).toNat) = (1 : Int) then (0 : Int) else x.t (x.lo + (↑g_1 : Int).toNat) - x.q (x.lo + (↑g_1 : Int).toNat)) ∧ IntKind.u64.wrap (x.q (x.lo +
  (↑g_1 : Int).toNat) * if x.k (x.lo + (↑g_1 : Int).toNat) = (1 : Int) then (0 : Int) else x.t (x.lo + (↑g_1 : Int).toNat) - x.q (x.lo + (↑g_1 : Int).toNat)) < (18446744073709551616 : Int)) ∧ wN (x.l.prod x.len / x.l.t g_1
  / (18446744073709551616 : Int)) (x.l.prod x.len / x.l.t g_1 % (18446744073709551616 : Int)) * IntKind.u64.wrap (x.q (x.lo + (↑g_1 : Int).toNat) * if x.k (x.lo + (↑g_1 : Int).toNat) = (1 : Int) then (0 : Int) else x.t
  (x.lo + (↑g_1 : Int).toNat) - x.q (x.lo + (↑g_1 : Int).toNat)) < two128) ∧ (((x.l.slk (x.l.prod x.len) g_1 / (18446744073709551616 : Int) = x.l.slk (x.l.prod x.len) g_1 / (18446744073709551616 : Int) ∧ x.l.slk (x.l.prod
  x.len) g_1 % (18446744073709551616 : Int) = x.l.slk (x.l.prod x.len) g_1 % (18446744073709551616 : Int) ∧ True) ∧ (wN (x.l.prod x.len / x.l.t g_1 / (18446744073709551616 : Int)) (x.l.prod x.len / x.l.t g_1 %
  (18446744073709551616 : Int)) * IntKind.u64.wrap (x.q (x.lo + (↑g_1 : Int).toNat) * if x.k (x.lo + (↑g_1 : Int).toNat) = (1 : Int) then (0 : Int) else x.t (x.lo + (↑g_1 : Int).toNat) - x.q (x.lo + (↑g_1 : Int).toNat)) /
  (18446744073709551616 : Int) = wN (x.l.prod x.len / x.l.t g_1 / (18446744073709551616 : Int)) (x.l.prod x.len / x.l.t g_1 % (18446744073709551616 : Int)) * IntKind.u64.wrap (x.q (x.lo + (↑g_1 : Int).toNat) * if x.k (x.lo
  + (↑g_1 : Int).toNat) = (1 : Int) then (0 : Int) else x.t (x.lo + (↑g_1 : Int).toNat) - x.q (x.lo + (↑g_1 : Int).toNat)) / (18446744073709551616 : Int) ∧ wN (x.l.prod x.len / x.l.t g_1 / (18446744073709551616 : Int))
  (x.l.prod x.len / x.l.t g_1 % (18446744073709551616 : Int)) * IntKind.u64.wrap (x.q (x.lo + (↑g_1 : Int).toNat) * if x.k (x.lo + (↑g_1 : Int).toNat) = (1 : Int) then (0 : Int) else x.t (x.lo + (↑g_1 : Int).toNat) - x.q
  (x.lo + (↑g_1 : Int).toNat)) % (18446744073709551616 : Int) = wN (x.l.prod x.len / x.l.t g_1 / (18446744073709551616 : Int)) (x.l.prod x.len / x.l.t g_1 % (18446744073709551616 : Int)) * IntKind.u64.wrap (x.q (x.lo +
  (↑g_1 : Int).toNat) * if x.k (x.lo + (↑g_1 : Int).toNat) = (1 : Int) then (0 : Int) else x.t (x.lo + (↑g_1 : Int).toNat) - x.q (x.lo + (↑g_1 : Int).toNat)) % (18446744073709551616 : Int) ∧ True) ∧ True) ∧ True) ∧ ((((0 :
  Int) ≤ x.l.slk (x.l.prod x.len) g_1 / (18446744073709551616 : Int) ∧ x.l.slk (x.l.prod x.len) g_1 / (18446744073709551616 : Int) < (18446744073709551616 : Int)) ∧ (0 : Int) ≤ x.l.slk (x.l.prod x.len) g_1 %
  (18446744073709551616 : Int) ∧ x.l.slk (x.l.prod x.len) g_1 % (18446744073709551616 : Int) < (18446744073709551616 : Int)) ∧ ((0 : Int) ≤ wN (x.l.prod x.len / x.l.t g_1 / (18446744073709551616 : Int)) (x.l.prod x.len /
  x.l.t g_1 % (18446744073709551616 : Int)) * IntKind.u64.wrap (x.q (x.lo + (↑g_1 : Int).toNat) * if x.k (x.lo + (↑g_1 : Int).toNat) = (1 : Int) then (0 : Int) else x.t (x.lo + (↑g_1 : Int).toNat) - x.q (x.lo + (↑g_1 :
  Int).toNat)) / (18446744073709551616 : Int) ∧ wN (x.l.prod x.len / x.l.t g_1 / (18446744073709551616 : Int)) (x.l.prod x.len / x.l.t g_1 % (18446744073709551616 : Int)) * IntKind.u64.wrap (x.q (x.lo + (↑g_1 : Int).toNat)
  * if x.k (x.lo + (↑g_1 : Int).toNat) = (1 : Int) then (0 : Int) else x.t (x.lo + (↑g_1 : Int).toNat) - x.q (x.lo + (↑g_1 : Int).toNat)) / (18446744073709551616 : Int) < (18446744073709551616 : Int)) ∧ (0 : Int) ≤ wN
  (x.l.prod x.len / x.l.t g_1 / (18446744073709551616 : Int)) (x.l.prod x.len / x.l.t g_1 % (18446744073709551616 : Int)) * IntKind.u64.wrap (x.q (x.lo + (↑g_1 : Int).toNat) * if x.k (x.lo + (↑g_1 : Int).toNat) = (1 : Int)
  then (0 : Int) else x.t (x.lo + (↑g_1 : Int).toNat) - x.q (x.lo + (↑g_1 : Int).toNat)) % (18446744073709551616 : Int) ∧ wN (x.l.prod x.len / x.l.t g_1 / (18446744073709551616 : Int)) (x.l.prod x.len / x.l.t g_1 %
  (18446744073709551616 : Int)) * IntKind.u64.wrap (x.q (x.lo + (↑g_1 : Int).toNat) * if x.k (x.lo + (↑g_1 : Int).toNat) = (1 : Int) then (0 : Int) else x.t (x.lo + (↑g_1 : Int).toNat) - x.q (x.lo + (↑g_1 : Int).toNat)) %
  (18446744073709551616 : Int) < (18446744073709551616 : Int)) ∧ ∀ (v : Int), v = IntKind.i64.wrap ((↑g_1 : Int) + (1 : Int)) → ∃ (y_3 : Nat), (rsumF2 x).I y_3 ∧ ((((x.nil = true → x.nil = true) ∧ (x.nil = false → x.nil =
  false ∧ True ∧ True ∧ x.lo = x.lo ∧ x.len = x.len ∧ x.cap = x.cap)) ∧ (True ∧ True) ∧ (True ∧ True) ∧ (True ∧ True) ∧ v = (↑y_3 : Int) ∧ True) ∧ ((0 : Nat) ≤ (0 : Nat) ∧ x.n = x.n ∧ ∀ (j : Nat), j < x.n → x.k j = x.k j ∧
  x.q j = x.q j ∧ x.t j = x.t j ∧ True) ∧ ((2 : Nat) ≤ (2 : Nat) ∧ x.l.prod x.len / (18446744073709551616 : Int) = x.l.prod x.len / (18446744073709551616 : Int) ∧ x.l.prod x.len % (18446744073709551616 : Int) = x.l.prod
  x.len % (18446744073709551616 : Int) ∧ True) ∧ ((2 : Nat) ≤ (2 : Nat) ∧ x.l.use (x.l.prod x.len) (g_1 + (1 : Nat)) / (18446744073709551616 : Int) = x.l.use (x.l.prod x.len) y_3 / (18446744073709551616 : Int) ∧ x.l.use
  (x.l.prod x.len) (g_1 + (1 : Nat)) % (18446744073709551616 : Int) = x.l.use (x.l.prod x.len) y_3 % (18446744073709551616 : Int) ∧ True) ∧ ((2 : Nat) ≤ (2 : Nat) ∧ (if wN (x.l.slk (x.l.prod x.len) g_1 /
  (18446744073709551616 : Int)) (x.l.slk (x.l.prod x.len) g_1 % (18446744073709551616 : Int)) + wN (wN (x.l.prod x.len / x.l.t g_1 / (18446744073709551616 : Int)) (x.l.prod x.len / x.l.t g_1 % (18446744073709551616 : Int))
  * IntKind.u64.wrap (x.q (x.lo + (↑g_1 : Int).toNat) * if x.k (x.lo + (↑g_1 : Int).toNat) = (1 : Int) then (0 : Int) else x.t (x.lo + (↑g_1 : Int).toNat) - x.q (x.lo + (↑g_1 : Int).toNat)) / (18446744073709551616 : Int))
  (wN (x.l.prod x.len / x.l.t g_1 / (18446744073709551616 : Int)) (x.l.prod x.len / x.l.t g_1 % (18446744073709551616 : Int)) * IntKind.u64.wrap (x.q (x.lo + (↑g_1 : Int).toNat) * if x.k (x.lo + (↑g_1 : Int).toNat) = (1 :
  Int) then (0 : Int) else x.t (x.lo + (↑g_1 : Int).toNat) - x.q (x.lo + (↑g_1 : Int).toNat)) % (18446744073709551616 : Int)) < two128 then wN (x.l.slk (x.l.prod x.len) g_1 / (18446744073709551616 : Int)) (x.l.slk
  (x.l.prod x.len) g_1 % (18446744073709551616 : Int)) + wN (wN (x.l.prod x.len / x.l.t g_1 / (18446744073709551616 : Int)) (x.l.prod x.len / x.l.t g_1 % (18446744073709551616 : Int)) * IntKind.u64.wrap (x.q (x.lo + (↑g_1
  : Int).toNat) * if x.k (x.lo + (↑g_1 : Int).toNat) = (1 : Int) then (0 : Int) else x.t (x.lo + (↑g_1 : Int).toNat) - x.q (x.lo + (↑g_1 : Int).toNat)) / (18446744073709551616 : Int)) (wN (x.l.prod x.len / x.l.t g_1 /
  (18446744073709551616 : Int)) (x.l.prod x.len / x.l.t g_1 % (18446744073709551616 : Int)) * IntKind.u64.wrap (x.q (x.lo + (↑g_1 : Int).toNat) * if x.k (x.lo + (↑g_1 : Int).toNat) = (1 : Int) then (0 : Int) else x.t (x.lo
  + (↑g_1 : Int).toNat) - x.q (x.lo + (↑g_1 : Int).toNat)) % (18446744073709551616 : Int)) else (0 : Int)) / (18446744073709551616 : Int) = x.l.slk (x.l.prod x.len) y_3 / (18446744073709551616 : Int) ∧ (if wN (x.l.slk
  (x.l.prod x.len) g_1 / (18446744073709551616 : Int)) (x.l.slk (x.l.prod x.len) g_1 % (18446744073709551616 : Int)) + wN (wN (x.l.prod x.len / x.l.t g_1 / (18446744073709551616 : Int)) (x.l.prod x.len / x.l.t g_1 %
  (18446744073709551616 : Int)) * IntKind.u64.wrap (x.q (x.lo + (↑g_1 : Int).toNat) * if x.k (x.lo + (↑g_1 : Int).toNat) = (1 : Int) then (0 : Int) else x.t (x.lo + (↑g_1 : Int).toNat) - x.q (x.lo + (↑g_1 : Int).toNat)) /
  (18446744073709551616 : Int)) (wN (x.l.prod x.len / x.l.t g_1 / (18446744073709551616 : Int)) (x.l.prod x.len / x.l.t g_1 % (18446744073709551616 : Int)) * IntKind.u64.wrap (x.q (x.lo + (↑g_1 : Int).toNat) * if x.k (x.lo
  + (↑g_1 : Int).toNat) = (1 : Int) then (0 : Int) else x.t (x.lo + (↑g_1 : Int).toNat) - x.q (x.lo + (↑g_1 : Int).toNat)) % (18446744073709551616 : Int)) < two128 then wN (x.l.slk (x.l.prod x.len) g_1 /
  (18446744073709551616 : Int)) (x.l.slk (x.l.prod x.len) g_1 % (18446744073709551616 : Int)) + wN (wN (x.l.prod x.len / x.l.t g_1 / (18446744073709551616 : Int)) (x.l.prod x.len / x.l.t g_1 % (18446744073709551616 : Int))
  * IntKind.u64.wrap (x.q (x.lo + (↑g_1 : Int).toNat) * if x.k (x.lo + (↑g_1 : Int).toNat) = (1 : Int) then (0 : Int) else x.t (x.lo + (↑g_1 : Int).toNat) - x.q (x.lo + (↑g_1 : Int).toNat)) / (18446744073709551616 : Int))
  (wN (x.l.prod x.len / x.l.t g_1 / (18446744073709551616 : Int)) (x.l.prod x.len / x.l.t g_1 % (18446744073709551616 : Int)) * IntKind.u64.wrap (x.q (x.lo + (↑g_1 : Int).toNat) * if x.k (x.lo + (↑g_1 : Int).toNat) = (1 :
  Int) then (0 : Int) else x.t (x.lo + (↑g_1 : Int).toNat) - x.q (x.lo + (↑g_1 : Int).toNat)) % (18446744073709551616 : Int)) else (0 : Int)) % (18446744073709551616 : Int) = x.l.slk (x.l.prod x.len) y_3 %
  (18446744073709551616 : Int) ∧ True) ∧ True) ∧ (rsumF2 x).μ y_3 < (rsumF2 x).μ y) ∧ (decide ((↑y : Int) < (↑x.len : Int)) = false → (((x.Ok ∧ x.l.right → ((x.l.prod x.len / (18446744073709551616 : Int) = x.l.prod x.len /
  (18446744073709551616 : Int) ∧ x.l.prod x.len % (18446744073709551616 : Int) = x.l.prod x.len % (18446744073709551616 : Int) ∧ True) ∧ (x.l.use (x.l.prod x.len) y / (18446744073709551616 : Int) = x.l.use (x.l.prod x.len)
  x.len / (18446744073709551616 : Int) ∧ x.l.use (x.l.prod x.len) y % (18446744073709551616 : Int) = x.l.use (x.l.prod x.len) x.len % (18446744073709551616 : Int) ∧ True) ∧ (x.l.slk (x.l.prod x.len) y /
  (18446744073709551616 : Int) = x.l.slk (x.l.prod x.len) x.len / (18446744073709551616 : Int) ∧ x.l.slk (x.l.prod x.len) y % (18446744073709551616 : Int) = x.l.slk (x.l.prod x.len) x.len % (18446744073709551616 : Int) ∧
  True) ∧ True) ∧ True ∧ ((0 : Nat) ≤ (0 : Nat) ∧ x.n = x.n ∧ ∀ (j : Nat), j < x.n → x.k j = x.k j ∧ x.q j = x.q j ∧ x.t j = x.t j ∧ True) ∧ True) ∧ (x.Ok ∧ x.l.right → ((x.l.prod x.len / (18446744073709551616 : Int) =
  x.l.prod x.len / (18446744073709551616 : Int) ∧ x.l.prod x.len % (18446744073709551616 : Int) = x.l.prod x.len % (18446744073709551616 : Int) ∧ True) ∧ (x.l.use (x.l.prod x.len) y / (18446744073709551616 : Int) = x.l.use
  (x.l.prod x.len) x.len / (18446744073709551616 : Int) ∧ x.l.use (x.l.prod x.len) y % (18446744073709551616 : Int) = x.l.use (x.l.prod x.len) x.len % (18446744073709551616 : Int) ∧ True) ∧ (x.l.slk (x.l.prod x.len) y /
  (18446744073709551616 : Int) = x.l.slk (x.l.prod x.len) x.len / (18446744073709551616 : Int) ∧ x.l.slk (x.l.prod x.len) y % (18446744073709551616 : Int) = x.l.slk (x.l.prod x.len) x.len % (18446744073709551616 : Int) ∧
  True) ∧ True) ∧ True ∧ ((0 : Nat) ≤ (0 : Nat) ∧ x.n = x.n ∧ ∀ (j : Nat), j < x.n → x.k j = x.k j ∧ x.q j = x.q j ∧ x.t j = x.t j ∧ True) ∧ True) ∧ (x.Ok ∧ x.l.right → ((x.l.prod x.len / (18446744073709551616 : Int) =
  x.l.prod x.len / (18446744073709551616 : Int) ∧ x.l.prod x.len % (18446744073709551616 : Int) = x.l.prod x.len % (18446744073709551616 : Int) ∧ True) ∧ (x.l.use (x.l.prod x.len) y / (18446744073709551616 : Int) = x.l.use
  (x.l.prod x.len) x.len / (18446744073709551616 : Int) ∧ x.l.use (x.l.prod x.len) y % (18446744073709551616 : Int) = x.l.use (x.l.prod x.len) x.len % (18446744073709551616 : Int) ∧ True) ∧ (x.l.slk (x.l.prod x.len) y /
  (18446744073709551616 : Int) = x.l.slk (x.l.prod x.len) x.len / (18446744073709551616 : Int) ∧ x.l.slk (x.l.prod x.len) y % (18446744073709551616 : Int) = x.l.slk (x.l.prod x.len) x.len % (18446744073709551616 : Int) ∧
  True) ∧ True) ∧ True ∧ ((0 : Nat) ≤ (0 : Nat) ∧ x.n = x.n ∧ ∀ (j : Nat), j < x.n → x.k j = x.k j ∧ x.q j = x.q j ∧ x.t j = x.t j ∧ True) ∧ True)) ∧ ((x.Ok ∧ x.l.right → ((x.l.prod x.len / (18446744073709551616 : Int) =
  x.l.prod x.len / (18446744073709551616 : Int) ∧ x.l.prod x.len % (18446744073709551616 : Int) = x.l.prod x.len % (18446744073709551616 : Int) ∧ True) ∧ (x.l.use (x.l.prod x.len) y / (18446744073709551616 : Int) = x.l.use
  (x.l.prod x.len) x.len / (18446744073709551616 : Int) ∧ x.l.use (x.l.prod x.len) y % (18446744073709551616 : Int) = x.l.use (x.l.prod x.len) x.len % (18446744073709551616 : Int) ∧ True) ∧ (x.l.slk (x.l.prod x.len) y /
  (18446744073709551616 : Int) = x.l.slk (x.l.prod x.len) x.len / (18446744073709551616 : Int) ∧ x.l.slk (x.l.prod x.len) y % (18446744073709551616 : Int) = x.l.slk (x.l.prod x.len) x.len % (18446744073709551616 : Int) ∧
  True) ∧ True) ∧ True ∧ ((0 : Nat) ≤ (0 : Nat) ∧ x.n = x.n ∧ ∀ (j : Nat), j < x.n → x.k j = x.k j ∧ x.q j = x.q j ∧ x.t j = x.t j ∧ True) ∧ True) ∧ (x.Ok ∧ x.l.right → ((x.l.prod x.len / (18446744073709551616 : Int) =
  x.l.prod x.len / (18446744073709551616 : Int) ∧ x.l.prod x.len % (18446744073709551616 : Int) = x.l.prod x.len % (18446744073709551616 : Int) ∧ True) ∧ (x.l.use (x.l.prod x.len) y / (18446744073709551616 : Int) = x.l.use
  (x.l.prod x.len) x.len / (18446744073709551616 : Int) ∧ x.l.use (x.l.prod x.len) y % (18446744073709551616 : Int) = x.l.use (x.l.prod x.len) x.len % (18446744073709551616 : Int) ∧ True) ∧ (x.l.slk (x.l.prod x.len) y /
  (18446744073709551616 : Int) = x.l.slk (x.l.prod x.len) x.len / (18446744073709551616 : Int) ∧ x.l.slk (x.l.prod x.len) y % (18446744073709551616 : Int) = x.l.slk (x.l.prod x.len) x.len % (18446744073709551616 : Int) ∧
  True) ∧ True) ∧ True ∧ ((0 : Nat) ≤ (0 : Nat) ∧ x.n = x.n ∧ ∀ (j : Nat), j < x.n → x.k j = x.k j ∧ x.q j = x.q j ∧ x.t j = x.t j ∧ True) ∧ True)) ∧ ((x.Ok ∧ x.l.right → ((x.l.prod x.len / (18446744073709551616 : Int) =
  x.l.prod x.len / (18446744073709551616 : Int) ∧ x.l.prod x.len % (18446744073709551616 : Int) = x.l.prod x.len % (18446744073709551616 : Int) ∧ True) ∧ (x.l.use (x.l.prod x.len) y / (18446744073709551616 : Int) = x.l.use
  (x.l.prod x.len) x.len / (18446744073709551616 : Int) ∧ x.l.use (x.l.prod x.len) y % (18446744073709551616 : Int) = x.l.use (x.l.prod x.len) x.len % (18446744073709551616 : Int) ∧ True) ∧ (x.l.slk (x.l.prod x.len) y /
  (18446744073709551616 : Int) = x.l.slk (x.l.prod x.len) x.len / (18446744073709551616 : Int) ∧ x.l.slk (x.l.prod x.len) y % (18446744073709551616 : Int) = x.l.slk (x.l.prod x.len) x.len % (18446744073709551616 : Int) ∧
  True) ∧ True) ∧ True ∧ ((0 : Nat) ≤ (0 : Nat) ∧ x.n = x.n ∧ ∀ (j : Nat), j < x.n → x.k j = x.k j ∧ x.q j = x.q j ∧ x.t j = x.t j ∧ True) ∧ True) ∧ (x.Ok ∧ x.l.right → ((x.l.prod x.len / (18446744073709551616 : Int) =
  x.l.prod x.len / (18446744073709551616 : Int) ∧ x.l.prod x.len % (18446744073709551616 : Int) = x.l.prod x.len % (18446744073709551616 : Int) ∧ True) ∧ (x.l.use (x.l.prod x.len) y / (18446744073709551616 : Int) = x.l.use
  (x.l.prod x.len) x.len / (18446744073709551616 : Int) ∧ x.l.use (x.l.prod x.len) y % (18446744073709551616 : Int) = x.l.use (x.l.prod x.len) x.len % (18446744073709551616 : Int) ∧ True) ∧ (x.l.slk (x.l.prod x.len) y /
  (18446744073709551616 : Int) = x.l.slk (x.l.prod x.len) x.len / (18446744073709551616 : Int) ∧ x.l.slk (x.l.prod x.len) y % (18446744073709551616 : Int) = x.l.slk (x.l.prod x.len) x.len % (18446744073709551616 : Int) ∧
  True) ∧ True) ∧ True ∧ ((0 : Nat) ≤ (0 : Nat) ∧ x.n = x.n ∧ ∀ (j : Nat), j < x.n → x.k j = x.k j ∧ x.q j = x.q j ∧ x.t j = x.t j ∧ True) ∧ True)) ∧ (x.Ok ∧ x.l.right → ((x.l.prod x.len / (18446744073709551616 : Int) =
  x.l.prod x.len / (18446744073709551616 : Int) ∧ x.l.prod x.len % (18446744073709551616 : Int) = x.l.prod x.len % (18446744073709551616 : Int) ∧ True) ∧ (x.l.use (x.l.prod x.len) y / (18446744073709551616 : Int) = x.l.use
  (x.l.prod x.len) x.len / (18446744073709551616 : Int) ∧ x.l.use (x.l.prod x.len) y % (18446744073709551616 : Int) = x.l.use (x.l.prod x.len) x.len % (18446744073709551616 : Int) ∧ True) ∧ (x.l.slk (x.l.prod x.len) y /
  (18446744073709551616 : Int) = x.l.slk (x.l.prod x.len) x.len / (18446744073709551616 : Int) ∧ x.l.slk (x.l.prod x.len) y % (18446744073709551616 : Int) = x.l.slk (x.l.prod x.len) x.len % (18446744073709551616 : Int) ∧
  True) ∧ True) ∧ True ∧ ((0 : Nat) ≤ (0 : Nat) ∧ x.n = x.n ∧ ∀ (j : Nat), j < x.n → x.k j = x.k j ∧ x.q j = x.q j ∧ x.t j = x.t j ∧ True) ∧ True)) ∧ (((x.Ok ∧ x.l.right → ((x.l.prod x.len / (18446744073709551616 : Int) =
  x.l.prod x.len / (18446744073709551616 : Int) ∧ x.l.prod x.len % (18446744073709551616 : Int) = x.l.prod x.len % (18446744073709551616 : Int) ∧ True) ∧ (x.l.use (x.l.prod x.len) y / (18446744073709551616 : Int) = x.l.use
  (x.l.prod x.len) x.len / (18446744073709551616 : Int) ∧ x.l.use (x.l.prod x.len) y % (18446744073709551616 : Int) = x.l.use (x.l.prod x.len) x.len % (18446744073709551616 : Int) ∧ True) ∧ (x.l.slk (x.l.prod x.len) y /
  (18446744073709551616 : Int) = x.l.slk (x.l.prod x.len) x.len / (18446744073709551616 : Int) ∧ x.l.slk (x.l.prod x.len) y % (18446744073709551616 : Int) = x.l.slk (x.l.prod x.len) x.len % (18446744073709551616 : Int) ∧
  True) ∧ True) ∧ True ∧ ((0 : Nat) ≤ (0 : Nat) ∧ x.n = x.n ∧ ∀ (j : Nat), j < x.n → x.k j = x.k j ∧ x.q j = x.q j ∧ x.t j = x.t j ∧ True) ∧ True) ∧ (x.Ok ∧ x.l.right → ((x.l.prod x.len / (18446744073709551616 : Int) =
  x.l.prod x.len / (18446744073709551616 : Int) ∧ x.l.prod x.len % (18446744073709551616 : Int) = x.l.prod x.len % (18446744073709551616 : Int) ∧ True) ∧ (x.l.use (x.l.prod x.len) y / (18446744073709551616 : Int) = x.l.use
  (x.l.prod x.len) x.len / (18446744073709551616 : Int) ∧ x.l.use (x.l.prod x.len) y % (18446744073709551616 : Int) = x.l.use (x.l.prod x.len) x.len % (18446744073709551616 : Int) ∧ True) ∧ (x.l.slk (x.l.prod x.len) y /
  (18446744073709551616 : Int) = x.l.slk (x.l.prod x.len) x.len / (18446744073709551616 : Int) ∧ x.l.slk (x.l.prod x.len) y % (18446744073709551616 : Int) = x.l.slk (x.l.prod x.len) x.len % (18446744073709551616 : Int) ∧
  True) ∧ True) ∧ True ∧ ((0 : Nat) ≤ (0 : Nat) ∧ x.n = x.n ∧ ∀ (j : Nat), j < x.n → x.k j = x.k j ∧ x.q j = x.q j ∧ x.t j = x.t j ∧ True) ∧ True) ∧ (x.Ok ∧ x.l.right → ((x.l.prod x.len / (18446744073709551616 : Int) =
  x.l.prod x.len / (18446744073709551616 : Int) ∧ x.l.prod x.len % (18446744073709551616 : Int) = x.l.prod x.len % (18446744073709551616 : Int) ∧ True) ∧ (x.l.use (x.l.prod x.len) y / (18446744073709551616 : Int) = x.l.use
  (x.l.prod x.len) x.len / (18446744073709551616 : Int) ∧ x.l.use (x.l.prod x.len) y % (18446744073709551616 : Int) = x.l.use (x.l.prod x.len) x.len % (18446744073709551616 : Int) ∧ True) ∧ (x.l.slk (x.l.prod x.len) y /
  (18446744073709551616 : Int) = x.l.slk (x.l.prod x.len) x.len / (18446744073709551616 : Int) ∧ x.l.slk (x.l.prod x.len) y % (18446744073709551616 : Int) = x.l.slk (x.l.prod x.len) x.len % (18446744073709551616 : Int) ∧
  True) ∧ True) ∧ True ∧ ((0 : Nat) ≤ (0 : Nat) ∧ x.n = x.n ∧ ∀ (j : Nat), j < x.n → x.k j = x.k j ∧ x.q j = x.q j ∧ x.t j = x.t j ∧ True) ∧ True)) ∧ (x.Ok ∧ x.l.right → ((x.l.prod x.len / (18446744073709551616 : Int) =
  x.l.prod x.len / (18446744073709551616 : Int) ∧ x.l.prod x.len % (18446744073709551616 : Int) = x.l.prod x.len % (18446744073709551616 : Int) ∧ True) ∧ (x.l.use (x.l.prod x.len) y / (18446744073709551616 : Int) = x.l.use
  (x.l.prod x.len) x.len / (18446744073709551616 : Int) ∧ x.l.use (x.l.prod x.len) y % (18446744073709551616 : Int) = x.l.use (x.l.prod x.len) x.len % (18446744073709551616 : Int) ∧ True) ∧ (x.l.slk (x.l.prod x.len) y /
  (18446744073709551616 : Int) = x.l.slk (x.l.prod x.len) x.len / (18446744073709551616 : Int) ∧ x.l.slk (x.l.prod x.len) y % (18446744073709551616 : Int) = x.l.slk (x.l.prod x.len) x.len % (18446744073709551616 : Int) ∧
  True) ∧ True) ∧ True ∧ ((0 : Nat) ≤ (0 : Nat) ∧ x.n = x.n ∧ ∀ (j : Nat), j < x.n → x.k j = x.k j ∧ x.q j = x.q j ∧ x.t j = x.t j ∧ True) ∧ True)) ∧ ((x.Ok ∧ x.l.right → ((x.l.prod x.len / (18446744073709551616 : Int) =
  x.l.prod x.len / (18446744073709551616 : Int) ∧ x.l.prod x.len % (18446744073709551616 : Int) = x.l.prod x.len % (18446744073709551616 : Int) ∧ True) ∧ (x.l.use (x.l.prod x.len) y / (18446744073709551616 : Int) = x.l.use
  (x.l.prod x.len) x.len / (18446744073709551616 : Int) ∧ x.l.use (x.l.prod x.len) y % (18446744073709551616 : Int) = x.l.use (x.l.prod x.len) x.len % (18446744073709551616 : Int) ∧ True) ∧ (x.l.slk (x.l.prod x.len) y /
  (18446744073709551616 : Int) = x.l.slk (x.l.prod x.len) x.len / (18446744073709551616 : Int) ∧ x.l.slk (x.l.prod x.len) y % (18446744073709551616 : Int) = x.l.slk (x.l.prod x.len) x.len % (18446744073709551616 : Int) ∧
  True) ∧ True) ∧ True ∧ ((0 : Nat) ≤ (0 : Nat) ∧ x.n = x.n ∧ ∀ (j : Nat), j < x.n → x.k j = x.k j ∧ x.q j = x.q j ∧ x.t j = x.t j ∧ True) ∧ True) ∧ (x.Ok ∧ x.l.right → ((x.l.prod x.len / (18446744073709551616 : Int) =
  x.l.prod x.len / (18446744073709551616 : Int) ∧ x.l.prod x.len % (18446744073709551616 : Int) = x.l.prod x.len % (18446744073709551616 : Int) ∧ True) ∧ (x.l.use (x.l.prod x.len) y / (18446744073709551616 : Int) = x.l.use
  (x.l.prod x.len) x.len / (18446744073709551616 : Int) ∧ x.l.use (x.l.prod x.len) y % (18446744073709551616 : Int) = x.l.use (x.l.prod x.len) x.len % (18446744073709551616 : Int) ∧ True) ∧ (x.l.slk (x.l.prod x.len) y /
  (18446744073709551616 : Int) = x.l.slk (x.l.prod x.len) x.len / (18446744073709551616 : Int) ∧ x.l.slk (x.l.prod x.len) y % (18446744073709551616 : Int) = x.l.slk (x.l.prod x.len) x.len % (18446744073709551616 : Int) ∧
  True) ∧ True) ∧ True ∧ ((0 : Nat) ≤ (0 : Nat) ∧ x.n = x.n ∧ ∀ (j : Nat), j < x.n → x.k j = x.k j ∧ x.q j = x.q j ∧ x.t j = x.t j ∧ True) ∧ True)) ∧ (x.Ok ∧ x.l.right → ((x.l.prod x.len / (18446744073709551616 : Int) =
  x.l.prod x.len / (18446744073709551616 : Int) ∧ x.l.prod x.len % (18446744073709551616 : Int) = x.l.prod x.len % (18446744073709551616 : Int) ∧ True) ∧ (x.l.use (x.l.prod x.len) y / (18446744073709551616 : Int) = x.l.use
  (x.l.prod x.len) x.len / (18446744073709551616 : Int) ∧ x.l.use (x.l.prod x.len) y % (18446744073709551616 : Int) = x.l.use (x.l.prod x.len) x.len % (18446744073709551616 : Int) ∧ True) ∧ (x.l.slk (x.l.prod x.len) y /
  (18446744073709551616 : Int) = x.l.slk (x.l.prod x.len) x.len / (18446744073709551616 : Int) ∧ x.l.slk (x.l.prod x.len) y % (18446744073709551616 : Int) = x.l.slk (x.l.prod x.len) x.len % (18446744073709551616 : Int) ∧
  True) ∧ True) ∧ True ∧ ((0 : Nat) ≤ (0 : Nat) ∧ x.n = x.n ∧ ∀ (j : Nat), j < x.n → x.k j = x.k j ∧ x.q j = x.q j ∧ x.t j = x.t j ∧ True) ∧ True))) := by
  simp only [true_and, and_true, eq_self, Nat.le_refl, decide_eq_true_eq, decide_eq_false_iff_not, implies_true, and_self, Int.not_lt, Int.toNat_natCast, IntKind.wrap_u64, IntKind.wrap_i64]
  simp only [wNdm]
  rintro x ⟨hx, hr⟩ v hv
  have hlo := hx.2
  have h8 : x.len ≤ 8 := hr.1
  have hW := LL.prod_le hr (Nat.le_refl x.len)
  have hbd : ∀ n : Int, 0 ≤ n → n < 340282366920938463463374607431768211456 → (0 ≤ n / 18446744073709551616 ∧ n / 18446744073709551616 < 18446744073709551616) ∧ 0 ≤ n % 18446744073709551616 ∧ n % 18446744073709551616 < 18446744073709551616 := fun n h1 h2 => by omega
  have hub : ∀ u, u ≤ x.len → (0 ≤ x.l.use (x.l.prod x.len) u ∧ x.l.use (x.l.prod x.len) u < 340282366920938463463374607431768211456) ∧ 0 ≤ x.l.slk (x.l.prod x.len) u ∧ x.l.slk (x.l.prod x.len) u < 340282366920938463463374607431768211456 := fun u hu => by
    have h1 := LL.use_bd hr (show 0 ≤ x.l.prod x.len by omega) u hu
    have m1 : (u : Int) * x.l.prod x.len ≤ 8 * x.l.prod x.len := Int.mul_le_mul_of_nonneg_right (by omega) (by omega)
    have m2 : (u : Int) * (x.l.prod x.len * 8191) ≤ 8 * (x.l.prod x.len * 8191) := Int.mul_le_mul_of_nonneg_right (by omega) (by omega)
    omega
  have hE : ∀ u, u < x.len → rightE (x.k (x.lo + u)) (x.q (x.lo + u)) (x.t (x.lo + u)) := fun u hu => hr.2 u hu
  unfold two128
  refine ⟨⟨0, Nat.zero_le _, ⟨⟨id, id⟩, hv⟩, ⟨rfl, rfl⟩, rfl, rfl⟩, fun y hy => ⟨hx.1, fun hlt => ?_, fun hge v2 hv2 => ?_⟩⟩
  · have hy : y ≤ x.len := hy
    have hr1 := hE y (by omega)
    unfold rightE at hr1
    have h1 := LL.prod_le hr (show y ≤ x.len by omega)
    have h2 := LL.prod_le hr (show y + 1 ≤ x.len by omega)
    have hs : x.l.prod (y + 1) = x.l.prod y * x.t (x.lo + y) := rfl
    have hb1 := hbd (x.l.prod y) (by omega) (by omega)
    rw [← hs]
    refine ⟨hx.1, by omega, by omega, ⟨hb1, by omega, by omega⟩, fun v3 hv3 => ⟨y + 1, (by show y + 1 ≤ x.len; omega), ⟨⟨⟨id, id⟩, by omega⟩, rfl, rfl⟩, (by show x.len - (y + 1) < x.len - y; omega)⟩⟩
  · have hyl : y = x.len := by have hy : y ≤ x.len := hy; omega
    subst hyl
    refine ⟨⟨0, Nat.zero_le _, ⟨⟨id, id⟩, hv2⟩, ⟨rfl, rfl⟩, ⟨rfl, rfl⟩, rfl, rfl⟩, fun y hy => ⟨hx.1, fun hlt => ?_, fun hge _ => ?_⟩⟩
    · have hylt : y < x.len := by omega
      have hr1 := hE y hylt
      unfold rightE at hr1
      have hne : ¬ x.t (x.lo + y) = 0 := by omega
      simp only [if_neg hne]
      have ho := LL.one_bd hr (show 0 ≤ x.l.prod x.len by omega) (show y < x.l.n from hylt)
      obtain ⟨⟨o1, o2⟩, ⟨o3, o4⟩, ⟨o5, o6⟩, o7, o8⟩ := ho
      have bo := hbd (x.l.prod x.len / x.l.t y) o1 (by omega)
      have ba := hbd (x.l.prod x.len / x.l.t y * x.l.q y) o3 (by omega)
      have bb := hbd (x.l.prod x.len / x.l.t y * x.l.q y * x.l.sl y) o7 (by omega)
      have bW := hbd (x.l.prod x.len) (by omega) (by omega)
      have hu0 := hub y (by omega)
      have hu1 := hub (y + 1) (by omega)
      have bu := hbd _ hu0.1.1 hu0.1.2
      have bs := hbd _ hu0.2.1 hu0.2.2
      have hs1 : x.l.use (x.l.prod x.len) (y + 1) = x.l.use (x.l.prod x.len) y + x.l.prod x.len / x.l.t y * x.l.q y := rfl
      have hs2 : x.l.slk (x.l.prod x.len) (y + 1) = x.l.slk (x.l.prod x.len) y + x.l.prod x.len / x.l.t y * x.l.q y * x.l.sl y := rfl
      have et : x.l.t y = x.t (x.lo + y) := rfl
      have eq : x.l.q y = x.q (x.lo + y) := rfl
      have es : x.l.sl y = if x.k (x.lo + y) = 1 then 0 else x.t (x.lo + y) - x.q (x.lo + y) := rfl
      refine ⟨y, ⟨hx.1, by omega, by omega, ⟨bW, by omega, by omega⟩, fun v3 hv3 => ⟨true, hylt, ⟨⟨id, id⟩, rfl⟩, ⟨rfl, rfl⟩, ⟨rfl, rfl⟩, rfl, rfl⟩⟩, fun y1 _ => ⟨y, ⟨hx.1, by omega, by omega, ⟨bo, by omega, ?_⟩, ⟨bu, ba⟩, true, hylt, ⟨⟨id, id⟩, rfl⟩, ?_, ⟨rfl, rfl⟩, rfl, rfl⟩, fun y2 _ => ?_⟩⟩
      · rw [← eq]; omega
      · rw [← eq, ← hs1, if_pos hu1.1.2]; exact ⟨rfl, rfl⟩
      · rw [← es, ← eq]
        have hqs : 0 ≤ x.l.q y * x.l.sl y := Int.mul_nonneg (by omega) o5
        have hqs2 : x.l.q y * x.l.sl y ≤ 8192 * 8191 := Int.mul_le_mul (by omega) o6 o5 (by decide)
        have e1 : x.l.q y * x.l.sl y % 18446744073709551616 = x.l.q y * x.l.sl y := by omega
        rw [e1, ← Int.mul_assoc, ← hs2, if_pos hu1.2.2]
        exact ⟨hx.1, by omega, by omega, hx.1, by omega, by omega, hE y hylt, ⟨bo, by omega, by omega⟩, ⟨bs, bb⟩, fun v4 hv4 => ⟨y + 1, (by show y + 1 ≤ x.len; omega), ⟨⟨⟨id, id⟩, by omega⟩, ⟨rfl, rfl⟩, rfl, rfl⟩, (by show x.len - (y + 1) < x.len - y; omega)⟩⟩
    · have hyl : y = x.len := by have hy : y ≤ x.len := hy; omega
      rw [hyl]
      exact ⟨⟨rfl, rfl⟩, rfl, rfl⟩

def rsum_C (x : LS) : Cfg := { Γ := Go.Sx.look tRsum, names := true, loops := rsumL x, cuts := rsumK x, mode := rsumM, locks := rsumLk, louds := rsumLd }
theorem rsum_al (x : LS) : Shown (rsumP.vc Try.prog (rsum_C x) Try.f37 x) := ⟨@Eq.mp _ _ (by kernel_rfl) (rsum_vc x)⟩
theorem rsum_ok : SpOk Try.prog 37 rsumP.sp := @Pat.okS _ rsumP Try.prog rsum_C 37 Try.f37 (fun x => cfg_tab rfl tRsum_ok) (by kernel_rfl) Try.func37 (fun _ => rfl) rsum_al
end Go.Proofs.Ytijpjhelgggmfaa
