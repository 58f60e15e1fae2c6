import Derived.Test.YtijpjhelgggmfaaG4
open Go Go.Sx Go.Proofs
set_option maxRecDepth 100000
namespace Go.Proofs.Ytijpjhelgggmfaa

def swlP : Pat (LS × LS) where
  view _ _ := none
  args x := [x.1.v 0, x.2.v 1]
  H x := [x.1.reg, x.2.reg]
  out x := .need ((x.1.Ok ∧ x.1.len ≤ x.1.cap) ∧ x.2.Ok ∧ x.2.len ≤ x.2.cap) (.retq .tt)
def slC (x y : LS) : Fam where
  α := Bool
  I _ := 2 ≤ y.len ∧ SwOk x.l y.l
  st _ := { sl := mkSl 126 [(0, x.v 0), (1, y.v 1)], H := [x.reg, y.reg] }
  μ _ := 0
def slF1 (x y : LS) : Fam where
  α := Nat
  I u := (y.l.t 0 ≤ u ∧ (u : Int) ≤ y.l.t 0 + 200) ∧ 2 ≤ y.len ∧ SwOk x.l y.l
  st u := { sl := mkSl 126 [(0, x.v 0), (1, y.v 1), (11, .int .u64 (u : Nat))], H := [x.reg, y.reg] }
  μ u := (y.l.t 0 + 200 - u).toNat
def slF2 (x y : LS) (u : Nat) : Fam where
  α := Nat
  I i := i ≤ x.len
  st i := { sl := mkSl 126 [(0, x.v 0), (1, y.v 1), (11, .int .u64 (u : Nat)), (12, .int .u64 (x.l.bas (u : Nat) i)), (13, .int .i64 i)], H := [x.reg, y.reg] }
  μ i := x.len - i
def slF3 (x y : LS) (u : Nat) : Fam where
  α := Nat
  I i := i ≤ y.len
  st i := { sl := mkSl 126 [(0, x.v 0), (1, y.v 1), (11, .int .u64 (u : Nat)), (12, .int .u64 (x.l.bas (u : Nat) x.len + y.l.exs (u : Nat) i)), (14, .int .i64 i)], H := [x.reg, y.reg] }
  μ i := y.len - i
def slLo (x y : LS) : Nat → Gam
  | 15 => .l [slF1 x y]
  | 19 => .g fun u => [slF2 x y u]
  | 23 => .g fun u => [slF3 x y u]
  | _ => .l []
def slCu (x y : LS) : Nat → Gam
  | 11 => .l [slC x y]
  | _ => .l []
def tSwl : Tab := [(10, aliveP.sp), (21, swP.sp), (11, ofP.sp), (22, rswP.sp)]
theorem tSwl_ok : TabOk Try.prog tSwl := (tab_cons alive_ok (tab_cons sw_ok (tab_cons of_ok (tab_cons rsw_ok tab_nil))))

theorem swl_vc : ∀ (x y : LS), ((x.Ok ∧ x.len ≤ x.cap) ∧ y.Ok ∧ y.len ≤ y.cap) ∧ True → (True ∧ True) ∧ (x.nil = true → x.len = (0 : Nat)) ∧ (decide ((↑x.len : Int) > (10 : Int)) = true → (x.Ok ∧ x.len ≤ x.cap) ∧ y.Ok ∧ y.len ≤ y.cap →
  True ∧ True ∧ ((0 : Nat) ≤ (0 : Nat) ∧ x.n = x.n ∧ ∀ (j : Nat), j < x.n → x.k j = x.k j ∧ x.q j = x.q j ∧ x.t j = x.t j ∧ True) ∧ ((0 : Nat) ≤ (0 : Nat) ∧ y.n = y.n ∧ ∀ (j : Nat), j < y.n → y.k j = y.k j ∧ y.q j = y.q j
  ∧ y.t j = y.t j ∧ True) ∧ True) ∧ (decide ((↑x.len : Int) > (10 : Int)) = false → (y.nil = true → y.len = (0 : Nat)) ∧ (decide ((↑y.len : Int) > (10 : Int)) = true → (x.Ok ∧ x.len ≤ x.cap) ∧ y.Ok ∧ y.len ≤ y.cap → True ∧
  True ∧ ((0 : Nat) ≤ (0 : Nat) ∧ x.n = x.n ∧ ∀ (j : Nat), j < x.n → x.k j = x.k j ∧ x.q j = x.q j ∧ x.t j = x.t j ∧ True) ∧ ((0 : Nat) ≤ (0 : Nat) ∧ y.n = y.n ∧ ∀ (j : Nat), j < y.n → y.k j = y.k j ∧ y.q j = y.q j ∧ y.t j
  = y.t j ∧ True) ∧ True) ∧ (decide ((↑y.len : Int) > (10 : Int)) = false → ((((x.nil = true → x.nil = true) ∧ (x.nil = false → x.nil = false ∧ True ∧ True ∧ x.lo = x.lo ∧ x.len = x.len ∧ x.cap = x.cap)) ∧ ((y.nil = true →
  y.nil = true) ∧ (y.nil = false → y.nil = false ∧ True ∧ True ∧ y.lo = y.lo ∧ y.len = y.len ∧ y.cap = y.cap)) ∧ True) ∧ ((0 : Nat) ≤ (0 : Nat) ∧ x.n = x.n ∧ ∀ (j : Nat), j < x.n → x.k j = x.k j ∧ x.q j = x.q j ∧ x.t j =
  x.t j ∧ True) ∧ ((0 : Nat) ≤ (0 : Nat) ∧ y.n = y.n ∧ ∀ (j : Nat), j < y.n → y.k j = y.k j ∧ y.q j = y.q j ∧ y.t j = y.t j ∧ True) ∧ True) ∧ ((x.Ok ∧ y.Ok) ∧ x.len ≤ (100 : Nat) ∧ y.len ≤ (100 : Nat)) ∧ ∀ (v : Int), v =
  (swO x.l y.l).snd → ((((x.nil = true → x.nil = true) ∧ (x.nil = false → x.nil = false ∧ True ∧ True ∧ x.lo = x.lo ∧ x.len = x.len ∧ x.cap = x.cap)) ∧ True) ∧ ((0 : Nat) ≤ (0 : Nat) ∧ x.n = x.n ∧ ∀ (j : Nat), j < x.n →
  x.k j = x.k j ∧ x.q j = x.q j ∧ x.t j = x.t j ∧ True) ∧ True) ∧ (x.Ok ∧ x.len ≤ (1000 : Nat)) ∧ ∀ (x_1 : Nat), x.len ≤ x_1 → ((((y.nil = true → y.nil = true) ∧ (y.nil = false → y.nil = false ∧ True ∧ True ∧ y.lo = y.lo ∧
  y.len = y.len ∧ y.cap = y.cap)) ∧ True) ∧ ((0 : Nat) ≤ (0 : Nat) ∧ y.n = y.n ∧ ∀ (j : Nat), j < y.n → y.k j = y.k j ∧ y.q j = y.q j ∧ y.t j = y.t j ∧ True) ∧ True) ∧ (y.Ok ∧ y.len ≤ (1000 : Nat)) ∧ ∀ (x_2 : Nat), y.len ≤
  x_2 → (((false = false ∧ True ∧ True ∧ (0 : Nat) = (0 : Nat) ∧ x.len = x.len ∧ x_1 = x_1) ∧ (false = false ∧ True ∧ True ∧ (0 : Nat) = (0 : Nat) ∧ y.len = y.len ∧ x_2 = x_2) ∧ True) ∧ ((0 : Nat) ≤ x_1 * (3 : Nat) ∧ x.l.n
  = x.l.n ∧ ∀ (j : Nat), j < x.l.n → x.l.k j = x.l.k j ∧ x.l.q j = x.l.q j ∧ x.l.t j = x.l.t j ∧ True) ∧ ((0 : Nat) ≤ x_2 * (3 : Nat) ∧ y.l.n = y.l.n ∧ ∀ (j : Nat), j < y.l.n → y.l.k j = y.l.k j ∧ y.l.q j = y.l.q j ∧ y.l.t
  j = y.l.t j ∧ True) ∧ True) ∧ (((LS.mk false (0 : Nat) x.len x_1 x.l.n x.l.k x.l.q x.l.t).Ok ∧ (LS.mk false (0 : Nat) y.len x_2 y.l.n y.l.k y.l.q y.l.t).Ok) ∧ x.len ≤ (100 : Nat) ∧ y.len ≤ (100 : Nat)) ∧ ∀ (v_1 : Int),
  v_1 = (swO (LS.mk false (0 : Nat) x.len x_1 x.l.n x.l.k x.l.q x.l.t).l (LS.mk false (0 : Nat) y.len x_2 y.l.n y.l.k y.l.q y.l.t).l).snd → ((!(swO x.l y.l).fst == (swO (LS.mk false (0 : Nat) x.len x_1 x.l.n x.l.k x.l.q
  x.l.t).l (LS.mk false (0 : Nat) y.len x_2 y.l.n y.l.k y.l.q y.l.t).l).fst) = true → (x.Ok ∧ x.len ≤ x.cap) ∧ y.Ok ∧ y.len ≤ y.cap → False ∧ True ∧ ((0 : Nat) ≤ (0 : Nat) ∧ x.n = x.n ∧ ∀ (j : Nat), j < x.n → x.k j = x.k j
  ∧ x.q j = x.q j ∧ x.t j = x.t j ∧ True) ∧ ((0 : Nat) ≤ (0 : Nat) ∧ y.n = y.n ∧ ∀ (j : Nat), j < y.n → y.k j = y.k j ∧ y.q j = y.q j ∧ y.t j = y.t j ∧ True) ∧ True) ∧ ((!(swO x.l y.l).fst == (swO (LS.mk false (0 : Nat)
  x.len x_1 x.l.n x.l.k x.l.q x.l.t).l (LS.mk false (0 : Nat) y.len x_2 y.l.n y.l.k y.l.q y.l.t).l).fst) = false → ((v != v_1) = true → (x.Ok ∧ x.len ≤ x.cap) ∧ y.Ok ∧ y.len ≤ y.cap → False ∧ True ∧ ((0 : Nat) ≤ (0 : Nat)
  ∧ x.n = x.n ∧ ∀ (j : Nat), j < x.n → x.k j = x.k j ∧ x.q j = x.q j ∧ x.t j = x.t j ∧ True) ∧ ((0 : Nat) ≤ (0 : Nat) ∧ y.n = y.n ∧ ∀ (j : Nat), j < y.n → y.k j = y.k j ∧ y.q j = y.q j ∧ y.t j = y.t j ∧ True) ∧ True) ∧ ((v
  != v_1) = false → (((!(swO x.l y.l).fst) = true → (x.Ok ∧ x.len ≤ x.cap) ∧ y.Ok ∧ y.len ≤ y.cap → True ∧ True ∧ ((0 : Nat) ≤ (0 : Nat) ∧ x.n = x.n ∧ ∀ (j : Nat), j < x.n → x.k j = x.k j ∧ x.q j = x.q j ∧ x.t j = x.t j ∧
  True) ∧ ((0 : Nat) ≤ (0 : Nat) ∧ y.n = y.n ∧ ∀ (j : Nat), j < y.n → y.k j = y.k j ∧ y.q j = y.q j ∧ y.t j = y.t j ∧ True) ∧ True) ∧ ((!(swO x.l y.l).fst) = false → (y.nil = true → y.len = (0 : Nat)) ∧ (decide ((↑y.len :
  Int) < (2 : Int)) = true → (x.Ok ∧ x.len ≤ x.cap) ∧ y.Ok ∧ y.len ≤ y.cap → True ∧ True ∧ ((0 : Nat) ≤ (0 : Nat) ∧ x.n = x.n ∧ ∀ (j : Nat), j < x.n → x.k j = x.k j ∧ x.q j = x.q j ∧ x.t j = x.t j ∧ True) ∧ ((0 : Nat) ≤ (0
  : Nat) ∧ y.n = y.n ∧ ∀ (j : Nat), j < y.n → y.k j = y.k j ∧ y.q j = y.q j ∧ y.t j = y.t j ∧ True) ∧ True) ∧ (decide ((↑y.len : Int) < (2 : Int)) = false → ∃ (_ : Bool), ((2 : Nat) ≤ y.len ∧ SwOk x.l y.l) ∧ ((((x.nil =
  true → x.nil = true) ∧ (x.nil = false → x.nil = false ∧ True ∧ True ∧ x.lo = x.lo ∧ x.len = x.len ∧ x.cap = x.cap)) ∧ ((y.nil = true → y.nil = true) ∧ (y.nil = false → y.nil = false ∧ True ∧ True ∧ y.lo = y.lo ∧ y.len =
  y.len ∧ y.cap = y.cap)) ∧ True) ∧ ((0 : Nat) ≤ (0 : Nat) ∧ x.n = x.n ∧ ∀ (j : Nat), j < x.n → x.k j = x.k j ∧ x.q j = x.q j ∧ x.t j = x.t j ∧ True) ∧ ((0 : Nat) ≤ (0 : Nat) ∧ y.n = y.n ∧ ∀ (j : Nat), j < y.n → y.k j =
  y.k j ∧ y.q j = y.q j ∧ y.t j = y.t j ∧ True) ∧ True) ∧ True))) ∧ ∀ (_ : Bool), (2 : Nat) ≤ y.len ∧ SwOk x.l y.l → (y.nil = true → (1 : Int) = (0 : Int) ∧ True ∧ True) ∧ ((0 : Int) ≤ (1 : Int) ∧ (1 : Int) ≤ (↑y.len :
  Int)) ∧ ((((x.nil = true → x.nil = true) ∧ (x.nil = false → x.nil = false ∧ True ∧ True ∧ x.lo = x.lo ∧ x.len = x.len ∧ x.cap = x.cap)) ∧ ((y.nil = true → y.nil = true) ∧ (y.nil = false → y.nil = false ∧ True ∧ True ∧
  ((if y.cap = Int.toNat (1 : Int) then y.lo else y.lo + Int.toNat (1 : Int)) = if y.cap = Int.toNat (1 : Int) then y.lo else y.lo + Int.toNat (1 : Int)) ∧ y.len - Int.toNat (1 : Int) = y.len - Int.toNat (1 : Int) ∧ y.cap
  - Int.toNat (1 : Int) = y.cap - Int.toNat (1 : Int))) ∧ True) ∧ ((0 : Nat) ≤ (0 : Nat) ∧ x.n = x.n ∧ ∀ (j : Nat), j < x.n → x.k j = x.k j ∧ x.q j = x.q j ∧ x.t j = x.t j ∧ True) ∧ ((0 : Nat) ≤ (0 : Nat) ∧ y.n = y.n ∧ ∀
  (j : Nat), j < y.n → y.k j = y.k j ∧ y.q j = y.q j ∧ y.t j = y.t j ∧ True) ∧ True) ∧ ((x.Ok ∧ (LS.mk y.nil (if y.cap = Int.toNat (1 : Int) then y.lo else y.lo + Int.toNat (1 : Int)) (y.len - Int.toNat (1 : Int)) (y.cap -
  Int.toNat (1 : Int)) y.n y.k y.q y.t).Ok) ∧ x.len ≤ (100 : Nat) ∧ y.len - Int.toNat (1 : Int) ≤ (100 : Nat)) ∧ ∀ (v : Int), v = (swO x.l (LS.mk y.nil (if y.cap = Int.toNat (1 : Int) then y.lo else y.lo + Int.toNat (1 :
  Int)) (y.len - Int.toNat (1 : Int)) (y.cap - Int.toNat (1 : Int)) y.n y.k y.q y.t).l).snd → ((v != (0 : Int)) = true → (x.Ok ∧ x.len ≤ x.cap) ∧ y.Ok ∧ y.len ≤ y.cap → False ∧ True ∧ ((0 : Nat) ≤ (0 : Nat) ∧ x.n = x.n ∧ ∀
  (j : Nat), j < x.n → x.k j = x.k j ∧ x.q j = x.q j ∧ x.t j = x.t j ∧ True) ∧ ((0 : Nat) ≤ (0 : Nat) ∧ y.n = y.n ∧ ∀ (j : Nat), j < y.n → y.k j = y.k j ∧ y.q j = y.q j ∧ y.t j = y.t j ∧ True) ∧ True) ∧ ((v != (0 : Int)) =
  false → ((!(swO x.l (LS.mk y.nil (if y.cap = Int.toNat (1 : Int) then y.lo else y.lo + Int.toNat (1 : Int)) (y.len - Int.toNat (1 : Int)) (y.cap - Int.toNat (1 : Int)) y.n y.k y.q y.t).l).fst) = true → (x.Ok ∧ x.len ≤
  x.cap) ∧ y.Ok ∧ y.len ≤ y.cap → False ∧ True ∧ ((0 : Nat) ≤ (0 : Nat) ∧ x.n = x.n ∧ ∀ (j : Nat), j < x.n → x.k j = x.k j ∧ x.q j = x.q j ∧ x.t j = x.t j ∧ True) ∧ ((0 : Nat) ≤ (0 : Nat) ∧ y.n = y.n ∧ ∀ (j : Nat), j < y.n
  → y.k j = y.k j ∧ y.q j = y.q j ∧ y.t j = y.t j ∧ True) ∧ True) ∧ ((!(swO x.l (LS.mk y.nil (if y.cap = Int.toNat (1 : Int) then y.lo else y.lo + Int.toNat (1 : Int)) (y.len - Int.toNat (1 : Int)) (y.cap - Int.toNat (1 :
  Int)) y.n y.k y.q y.t).l).fst) = false → (y.nil = true → y.len = (0 : Nat)) ∧ ((0 : Int) ≤ (0 : Int) ∧ (0 : Int) < (↑y.len : Int)) ∧ y.lo + Int.toNat (0 : Int) < y.n ∧ ∀ (v : Int), v = y.t (y.lo + Int.toNat (0 : Int)) →
  (∃ (y_2 : Nat), ((y.l.t (0 : Nat) ≤ (↑y_2 : Int) ∧ (↑y_2 : Int) ≤ y.l.t (0 : Nat) + (200 : Int)) ∧ (2 : Nat) ≤ y.len ∧ SwOk x.l y.l) ∧ ((((x.nil = true → x.nil = true) ∧ (x.nil = false → x.nil = false ∧ True ∧ True ∧
  x.lo = x.lo ∧ x.len = x.len ∧ x.cap = x.cap)) ∧ ((y.nil = true → y.nil = true) ∧ (y.nil = false → y.nil = false ∧ True ∧ True ∧ y.lo = y.lo ∧ y.len = y.len ∧ y.cap = y.cap)) ∧ v = (↑y_2 : Int) ∧ True) ∧ ((0 : Nat) ≤ (0 :
  Nat) ∧ x.n = x.n ∧ ∀ (j : Nat), j < x.n → x.k j = x.k j ∧ x.q j = x.q j ∧ x.t j = x.t j ∧ True) ∧ ((0 : Nat) ≤ (0 : Nat) ∧ y.n = y.n ∧ ∀ (j : Nat), j < y.n → y.k j = y.k j ∧ y.q j = y.q j ∧ y.t j = y.t j ∧ True) ∧ True)
  ∧ True) ∧ ∀ (y_2 : Nat), (y.l.t (0 : Nat) ≤ (↑y_2 : Int) ∧ (↑y_2 : Int) ≤ y.l.t (0 : Nat) + (200 : Int)) ∧ (2 : Nat) ≤ y.len ∧ SwOk x.l y.l → (y.nil = true → y.len = (0 : Nat)) ∧ ((0 : Int) ≤ (0 : Int) ∧ (0 : Int) <
  (↑y.len : Int)) ∧ y.lo + Int.toNat (0 : Int) < y.n ∧ (decide ((↑y_2 : Int) < IntKind.u64.wrap (y.t (y.lo + Int.toNat (0 : Int)) + (200 : Int))) = true → ∀ (v : Int), v = (0 : Int) → ∀ (v_2 : Int), v_2 = (0 : Int) → ∃ (g
  : Nat), (∃ (y_3 : Nat), (slF2 x y g).I y_3 ∧ ((((x.nil = true → x.nil = true) ∧ (x.nil = false → x.nil = false ∧ True ∧ True ∧ x.lo = x.lo ∧ x.len = x.len ∧ x.cap = x.cap)) ∧ ((y.nil = true → y.nil = true) ∧ (y.nil =
  false → y.nil = false ∧ True ∧ True ∧ y.lo = y.lo ∧ y.len = y.len ∧ y.cap = y.cap)) ∧ (↑y_2 : Int) = (↑g : Int) ∧ v = x.l.bas (↑g : Int) y_3 ∧ v_2 = (↑y_3 : Int) ∧ True) ∧ ((0 : Nat) ≤ (0 : Nat) ∧ x.n = x.n ∧ ∀ (j :
  Nat), j < x.n → x.k j = x.k j ∧ x.q j = x.q j ∧ x.t j = x.t j ∧ True) ∧ ((0 : Nat) ≤ (0 : Nat) ∧ y.n = y.n ∧ ∀ (j : Nat), j < y.n → y.k j = y.k j ∧ y.q j = y.q j ∧ y.t j = y.t j ∧ True) ∧ True) ∧ True) ∧ ∀ (y_3 : Nat),
  (slF2 x y g).I y_3 → (x.nil = true → x.len = (0 : Nat)) ∧ (decide ((↑y_3 : Int) < (↑x.len : Int)) = true → (x.nil = true → x.len = (0 : Nat)) ∧ ((0 : Int) ≤ (↑y_3 : Int) ∧ (↑y_3 : Int) < (↑x.len : Int)) ∧ x.lo + (↑y_3 :
  Int).toNat < x.n ∧ x.t (x.lo + (↑y_3 : Int).toNat) ≠ (0 : Int) ∧ (x.nil = true → x.len = (0 : Nat)) ∧ ((0 : Int) ≤ (↑y_3 : Int) ∧ (↑y_3 : Int) < (↑x.len : Int)) ∧ x.lo + (↑y_3 : Int).toNat < x.n ∧ ∀ (v : Int), v =
  IntKind.u64.wrap (x.l.bas (↑g : Int) y_3 + IntKind.u64.wrap (IntKind.u64.wrap (IntKind.u64.wrap ((↑g : Int).tdiv (x.t (x.lo + (↑y_3 : Int).toNat))) + (1 : Int)) * x.q (x.lo + (↑y_3 : Int).toNat))) → ∀ (v_3 : Int), v_3 =
  IntKind.i64.wrap ((↑y_3 : Int) + (1 : Int)) → ∃ (y_4 : Nat), (slF2 x y g).I y_4 ∧ ((((x.nil = true → x.nil = true) ∧ (x.nil = false → x.nil = false ∧ True ∧ True ∧ x.lo = x.lo ∧ x.len = x.len ∧ x.cap = x.cap)) ∧ ((y.nil
  = true → y.nil = true) ∧ (y.nil = false → y.nil = false ∧ True ∧ True ∧ y.lo = y.lo ∧ y.len = y.len ∧ y.cap = y.cap)) ∧ (↑g : Int) = (↑g : Int) ∧ v = x.l.bas (↑g : Int) y_4 ∧ v_3 = (↑y_4 : Int) ∧ True) ∧ ((0 : Nat) ≤ (0
  : Nat) ∧ x.n = x.n ∧ ∀ (j : Nat), j < x.n → x.k j = x.k j ∧ x.q j = x.q j ∧ x.t j = x.t j ∧ True) ∧ ((0 : Nat) ≤ (0 : Nat) ∧ y.n = y.n ∧ ∀ (j : Nat), j < y.n → y.k j = y.k j ∧ y.q j = y.q j ∧ y.t j = y.t j ∧ True) ∧
  True) ∧ (slF2 x y g).μ y_4 < (slF2 x y g).μ y_3) ∧ (decide ((↑y_3 : Int) < (↑x.len : Int)) = false → ∀ (v : Int), v = (0 : Int) → ∃ (g_1 : Nat), (∃ (y_4 : Nat), (slF3 x y g_1).I y_4 ∧ ((((x.nil = true → x.nil = true) ∧
  (x.nil = false → x.nil = false ∧ True ∧ True ∧ x.lo = x.lo ∧ x.len = x.len ∧ x.cap = x.cap)) ∧ ((y.nil = true → y.nil = true) ∧ (y.nil = false → y.nil = false ∧ True ∧ True ∧ y.lo = y.lo ∧ y.len = y.len ∧ y.cap = y.cap))
  ∧ (↑g : Int) = (↑g_1 : Int) ∧ x.l.bas (↑g : Int) y_3 = x.l.bas (↑g_1 : Int) x.len + y.l.exs (↑g_1 : Int) y_4 ∧ v = (↑y_4 : Int) ∧ True) ∧ ((0 : Nat) ≤ (0 : Nat) ∧ x.n = x.n ∧ ∀ (j : Nat), j < x.n → x.k j = x.k j ∧ x.q j
  = x.q j ∧ x.t j = x.t j ∧ True) ∧ ((0 : Nat) ≤ (0 : Nat) ∧ y.n = y.n ∧ ∀ (j : Nat), j < y.n → y.k j = y.k j ∧ y.q j = y.q j ∧ y.t j = y.t j ∧ True) ∧ True) ∧ True) ∧ ∀ (y_4 : Nat), (slF3 x y g_1).I y_4 → (y.nil = true →
  y.len = (0 : Nat)) ∧ (decide ((↑y_4 : Int) < (↑y.len : Int)) = true → (y.nil = true → y.len = (0 : Nat)) ∧ ((0 : Int) ≤ (↑y_4 : Int) ∧ (↑y_4 : Int) < (↑y.len : Int)) ∧ y.lo + (↑y_4 : Int).toNat < y.n ∧ y.t (y.lo + (↑y_4
  : Int).toNat) ≠ (0 : Int) ∧ (y.nil = true → y.len = (0 : Nat)) ∧ ((0 : Int) ≤ (↑y_4 : Int) ∧ (↑y_4 : Int) < (↑y.len : Int)) ∧ y.lo + (↑y_4 : Int).toNat < y.n ∧ ∀ (v : Int), v = IntKind.u64.wrap (x.l.bas (↑g_1 : Int)
  x.len + y.l.exs (↑g_1 : Int) y_4 + IntKind.u64.wrap (IntKind.u64.wrap ((↑g_1 : Int).tdiv (y.t (y.lo + (↑y_4 : Int).toNat))) * y.q (y.lo + (↑y_4 : Int).toNat))) → ∀ (v_3 : Int), v_3 = IntKind.i64.wrap ((↑y_4 : Int) + (1 :
  Int)) → ∃ (y_5 : Nat), (slF3 x y g_1).I y_5 ∧ ((((x.nil = true → x.nil = true) ∧ (x.nil = false → x.nil = false ∧ True ∧ True ∧ x.lo = x.lo ∧ x.len = x.len ∧ x.cap = x.cap)) ∧ ((y.nil = true → y.nil = true) ∧ (y.nil =
  false → y.nil = false ∧ True ∧ True ∧ y.lo = y.lo ∧ y.len = y.len ∧ y.cap = y.cap)) ∧ (↑g_1 : Int) = (↑g_1 : Int) ∧ v = x.l.bas (↑g_1 : Int) x.len + y.l.exs (↑g_1 : Int) y_5 ∧ v_3 = (↑y_5 : Int) ∧ True) ∧ ((0 : Nat) ≤ (0
  : Nat) ∧ x.n = x.n ∧ ∀ (j : Nat), j < x.n → x.k j = x.k j ∧ x.q j = x.q j ∧ x.t j = x.t j ∧ True) ∧ ((0 : Nat) ≤ (0 : Nat) ∧ y.n = y.n ∧ ∀ (j : Nat), j < y.n → y.k j = y.k j ∧ y.q j = y.q j ∧ y.t j = y.t j ∧ True) ∧
  True) ∧ (slF3 x y g_1).μ y_5 < (slF3 x y g_1).μ y_4) ∧ (decide ((↑y_4 : Int) < (↑y.len : Int)) = false → (decide (x.l.bas (↑g_1 : Int) x.len + y.l.exs (↑g_1 : Int) y_4 > (↑g_1 : Int)) = true → (x.Ok ∧ x.len ≤ x.cap) ∧
  y.Ok ∧ y.len ≤ y.cap → False ∧ True ∧ ((0 : Nat) ≤ (0 : Nat) ∧ x.n = x.n ∧ ∀ (j : Nat), j < x.n → x.k j = x.k j ∧ x.q j = x.q j ∧ x.t j = x.t j ∧ True) ∧ ((0 : Nat) ≤ (0 : Nat) ∧ y.n = y.n ∧ ∀ (j : Nat), j < y.n → y.k j
  = y.k j ∧ y.q j = y.q j ∧ y.t j = y.t j ∧ True) ∧ True) ∧ (decide (x.l.bas (↑g_1 : Int) x.len + y.l.exs (↑g_1 : Int) y_4 > (↑g_1 : Int)) = false → ∀ (v : Int), v = IntKind.u64.wrap ((↑g_1 : Int) + (1 : Int)) → ∃ (y_5 :
  Nat), ((y.l.t (0 : Nat) ≤ (↑y_5 : Int) ∧ (↑y_5 : Int) ≤ y.l.t (0 : Nat) + (200 : Int)) ∧ (2 : Nat) ≤ y.len ∧ SwOk x.l y.l) ∧ ((((x.nil = true → x.nil = true) ∧ (x.nil = false → x.nil = false ∧ True ∧ True ∧ x.lo = x.lo ∧
  x.len = x.len ∧ x.cap = x.cap)) ∧ ((y.nil = true → y.nil = true) ∧ (y.nil = false → y.nil = false ∧ True ∧ True ∧ y.lo = y.lo ∧ y.len = y.len ∧ y.cap = y.cap)) ∧ v = (↑y_5 : Int) ∧ True) ∧ ((0 : Nat) ≤ (0 : Nat) ∧ x.n =
  x.n ∧ ∀ (j : Nat), j < x.n → x.k j = x.k j ∧ x.q j = x.q j ∧ x.t j = x.t j ∧ True) ∧ ((0 : Nat) ≤ (0 : Nat) ∧ y.n = y.n ∧ ∀ (j : Nat), j < y.n → y.k j = y.k j ∧ y.q j = y.q j ∧ y.t j = y.t j ∧ True) ∧ True) ∧ (slF1 x
  y).μ y_5 < (slF1 x y).μ y_2)))) ∧ (decide ((↑y_2 : Int) < IntKind.u64.wrap (y.t (y.lo + Int.toNat (0 : Int)) + (200 : Int))) = false → (x.Ok ∧ x.len ≤ x.cap) ∧ y.Ok ∧ y.len ≤ y.cap → True ∧ True ∧ ((0 : Nat) ≤ (0 : Nat)
  ∧ x.n = x.n ∧ ∀ (j : Nat), j < x.n → x.k j = x.k j ∧ x.q j = x.q j ∧ x.t j = x.t j ∧ True) ∧ ((0 : Nat) ≤ (0 : Nat) ∧ y.n = y.n ∧ ∀ (j : Nat), j < y.n → y.k j = y.k j ∧ y.q j = y.q j ∧ y.t j = y.t j ∧ True) ∧ True))))))) := by
  simp only [true_and, and_true, eq_self, Nat.le_refl, decide_eq_true_eq, decide_eq_false_iff_not, beq_iff_eq, beq_eq_false_iff_ne, implies_true, and_self, bne_iff_ne, Int.not_lt, gt_iff_lt, ne_eq, Int.toNat_natCast, IntKind.wrap_u64, IntKind.wrap_i64, bne_eq_false_iff_eq, Bool.not_eq_true', Bool.not_eq_false']
  intro x y hxy
  have eL : ∀ (z : LS) (c : Nat), ({ nil := false, lo := 0, len := z.len, cap := c, n := z.l.n, k := z.l.k, q := z.l.q, t := z.l.t } : LS).l = z.l := fun z c => rowLS_l z.l c
  have ok : ∀ (z : LS) (c : Nat), LS.Ok { nil := false, lo := 0, len := z.len, cap := c, n := z.l.n, k := z.l.k, q := z.l.q, t := z.l.t } := fun z c => rowLS_ok z.l c
  have hI2 : ∀ u z : Nat, (slF2 x y u).I z = (z ≤ x.len) := fun _ _ => rfl
  have hM2 : ∀ u z : Nat, (slF2 x y u).μ z = x.len - z := fun _ _ => rfl
  have hI3 : ∀ u z : Nat, (slF3 x y u).I z = (z ≤ y.len) := fun _ _ => rfl
  have hM3 : ∀ u z : Nat, (slF3 x y u).μ z = y.len - z := fun _ _ => rfl
  simp only [eL, ok, hI2, hM2, hI3, hM3, hxy, imp_self, and_self, and_true, true_and, not_true_eq_false, false_implies]
  clear eL ok hI2 hM2 hI3 hM3
  obtain ⟨⟨⟨hx1, hx2⟩, hxc⟩, ⟨hy1, hy2⟩, hyc⟩ := hxy
  have hM1 : ∀ z : Nat, (slF1 x y).μ z = (y.l.t 0 + 200 - z).toNat := fun _ => rfl
  have eZ : ∀ lo, lo = y.lo + 1 → ({ nil := y.nil, lo := lo, len := y.len - 1, cap := y.cap - 1, n := y.n, k := y.k, q := y.q, t := y.t } : LS).l = y.l.tl := fun lo h => by
    subst h
    show LL.mk (y.len - 1) (fun j => y.k (y.lo + 1 + j)) (fun j => y.q (y.lo + 1 + j)) (fun j => y.t (y.lo + 1 + j)) = LL.mk (y.len - 1) (fun j => y.k (y.lo + (j + 1))) (fun j => y.q (y.lo + (j + 1))) (fun j => y.t (y.lo + (j + 1)))
    simp only [Nat.add_assoc, Nat.add_comm 1]
  have okZ : ∀ lo, lo = y.lo + 1 → 2 ≤ y.len → LS.Ok { nil := y.nil, lo := lo, len := y.len - 1, cap := y.cap - 1, n := y.n, k := y.k, q := y.q, t := y.t } := fun lo h h2 => by
    subst h
    exact ⟨fun h => by have := hy1 h; omega, by show y.lo + 1 + (y.len - 1) ≤ y.n; omega⟩
  simp only [hM1, show Int.toNat 1 = 1 from rfl, show Int.toNat 0 = 0 from rfl, Nat.add_zero]
  have e0 : y.l.t 0 = y.t y.lo := rfl
  refine ⟨hx1, fun hx10 => ⟨hy1, fun hy10 => ⟨by omega, fun v hv => ⟨by omega, fun c1 hc1 => ⟨by omega, fun c2 hc2 => ⟨by omega, by omega, fun v1 hv1 _ => ⟨fun h => absurd (hv.trans hv1.symm) h, fun _ => ⟨fun ht => ⟨hy1, fun h2 => ⟨true, by omega, swOk_of ht (by show y.len ≠ 0; omega)⟩⟩, ?_⟩⟩⟩⟩⟩⟩⟩⟩
  rintro - ⟨h2, hs⟩
  have hlo : (if y.cap = 1 then y.lo else y.lo + 1) = y.lo + 1 := if_neg (by omega)
  rw [hlo, eZ _ rfl]
  have hst := (hs.tl h2).o
  rw [hst]
  obtain ⟨hrx, hry⟩ := LL.cat_right hs.r
  have ht0 : rightE (y.k (y.lo + 0)) (y.q (y.lo + 0)) (y.t (y.lo + 0)) := hry.2 0 (by show 0 < y.len; omega)
  rw [Nat.add_zero] at ht0
  have hfst : y.l.fst ≤ y.t y.lo := y.l.am_min (y.len - 1) 0 (by omega)
  unfold rightE at ht0
  refine ⟨fun h => by have := hy1 h; omega, by omega, ⟨okZ _ rfl h2, by omega, by omega⟩, fun v2 hv2 => ⟨fun h => absurd hv2 h, fun _ => ⟨fun h => (nomatch h), fun _ => ⟨hy1, by omega, by omega, fun v3 hv3 => ⟨⟨(y.t y.lo).toNat, ⟨by omega, h2, hs⟩, by omega⟩, fun u hu => ⟨hy1, by omega, by omega, fun hlt v4 hv4 v5 hv5 => ⟨u, ⟨0, Nat.zero_le _, rfl, hv4, hv5⟩, fun i hi => ⟨hx1, fun hlt2 => ?_, fun hge v6 hv6 => ⟨u, ⟨0, Nat.zero_le _, rfl, ?_, hv6⟩, fun j hj => ⟨hy1, fun hlt3 => ?_, fun hge2 => ?_⟩⟩⟩⟩⟩⟩⟩⟩⟩⟩
  · have hr1 : rightE (x.k (x.lo + i)) (x.q (x.lo + i)) (x.t (x.lo + i)) := hrx.2 i (by show i < x.len; omega)
    have hb := LL.bX hrx (show 0 ≤ (u : Int) by omega) i hi
    have hw := w_bas hr1 (u := u) (by omega) (acc := x.l.bas (u : Nat) i) (by omega)
    unfold rightE at hr1
    refine ⟨hx1, ⟨by omega, hlt2⟩, by omega, by omega, hx1, ⟨by omega, hlt2⟩, by omega, fun v8 hv8 v9 hv9 => ⟨i + 1, by omega, ⟨?_, by omega⟩, by omega⟩⟩
    rw [hv8, hw]
    rfl
  · have e : i = x.len := by omega
    rw [e]
    exact (Int.add_zero _).symm
  · have hr1 : rightE (y.k (y.lo + j)) (y.q (y.lo + j)) (y.t (y.lo + j)) := hry.2 j (by show j < y.len; omega)
    have hb := LL.bX hrx (show 0 ≤ (u : Int) by omega) x.len (Nat.le_refl _)
    have hb2 := LL.bY hry (show 0 ≤ (u : Int) by omega) j hj
    have hw := w_exs hr1 (u := u) (by omega) (acc := x.l.bas (u : Nat) x.len + y.l.exs (u : Nat) j) (by omega)
    unfold rightE at hr1
    refine ⟨hy1, ⟨by omega, hlt3⟩, by omega, by omega, hy1, ⟨by omega, hlt3⟩, by omega, fun v8 hv8 v9 hv9 => ⟨j + 1, by omega, ⟨?_, by omega⟩, by omega⟩⟩
    rw [hv8, hw, Int.add_assoc]
    rfl
  · have e : j = y.len := by omega
    subst e
    have es : x.l.bas (u : Nat) x.len + y.l.exs (u : Nat) y.len = swd x.l y.l u := rfl
    have hall := hs.all u (by omega)
    rw [es]
    exact ⟨fun hbad _ => by omega, fun _ v9 hv9 => ⟨u + 1, ⟨by omega, h2, hs⟩, by omega, by omega⟩⟩

def swl_C (x : (LS × LS)) : Cfg := { Γ := Go.Sx.look tSwl, names := true, loops := slLo (x.1) (x.2), cuts := slCu (x.1) (x.2) }
theorem swl_al (x : (LS × LS)) : Shown (swlP.vc Try.prog (swl_C x) Try.f8 x) := ⟨@Eq.mp _ _ (by kernel_rfl) (swl_vc (x.1) (x.2))⟩
theorem swl_ok : SpOk Try.prog 8 swlP.sp := @Pat.okS _ swlP Try.prog swl_C 8 Try.f8 (fun x => cfg_tab rfl tSwl_ok) (by kernel_rfl) Try.func8 (fun _ => rfl) swl_al
end Go.Proofs.Ytijpjhelgggmfaa
