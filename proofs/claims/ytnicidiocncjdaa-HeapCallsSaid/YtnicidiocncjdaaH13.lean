import Derived.Test.YtnicidiocncjdaaH11
open Go Go.Sx Go.Proofs
set_option maxRecDepth 100000
namespace Go.Proofs.Ytnicidiocncjdaa
open Go.RowKit Go.Sort

/-- A row of calls. -/
structure HCS where
  nil : Bool
  len : Nat
  cap : Nat
  what : Nat → Int
  id : Nat → Int
  key : Nat → Int
def callT (a b c : Int) : T := .cons (.int .i64 a) (.cons (.int .i64 b) (.cons (.int .u64 c) .nil))
def HCS.v (x : HCS) (r : Nat) : T := .ite x.nil .nils (.slice r 0 [] 0 3 x.len x.cap)
def HCS.reg (x : HCS) : Reg := ro 45 x.len 3 (fun j => callT (x.what j) (x.id j) (x.key j))
def HCS.Ok (x : HCS) : Prop := (x.nil = true → x.len = 0) ∧ ∀ j, j < x.len → 0 ≤ x.key j ∧ x.key j < 18446744073709551616
structure JI where
  v : Int
def JI.t (x : JI) : T := .int .i64 x.v
def JI.Ok (x : JI) : Prop := i64 x.v
def heapMP : Pat (HCS × JI) where
  view _ _ := none
  args x := [x.1.v 0, x.2.t]
  H x := [x.1.reg]
  out x := .need (x.1.Ok ∧ x.2.Ok) (.retq .tt)
theorem HP.Full.least {h : HP} (hf : h.Full) {i q : Int} (e : h.M i = some q) : ¬ h.n = 0 ∧ ¬ ltI (i, q) (h.id 0, h.key 0) := by
  obtain ⟨k, k1, k2, k3⟩ := hf.c.M_ex e
  have := hf.first k k1
  unfold HP.le HP.f at this
  rw [k2, k3] at this
  exact ⟨by omega, this⟩
def mSl (x : HCS) (a : Int) : List (Nat × T) := [(0, x.v 0), (1, .int .i64 a), (5, p0 1)]
def mF0 (x : HCS) (a : Int) : Fam where
  α := Nat
  I i := i ≤ x.len ∧ x.len ≤ 200
  st i := { sl := mkSl 178 (mSl x a ++ [(6, .int .i64 (i : Nat))]), H := [x.reg, nilReg a0] }
  μ i := x.len - i
def mF1 (x : HCS) (a : Int) : Fam where
  α := SA
  I z := (z.i ≤ x.len ∧ x.len ≤ 200) ∧ z.h.Full ∧ z.h.n ≤ z.i
  st z := { sl := mkSl 178 (mSl x a ++ [(6, .int .i64 (z.i : Nat))]), H := [x.reg, z.h.me 2, z.h.row] }
  μ z := x.len - z.i
def mC0 (x : HCS) (a : Int) (u : Nat) : Fam where
  α := Bool
  I _ := u < x.len
  st _ := { sl := mkSl 178 (mSl x a ++ [(6, .int .i64 (u : Nat))]), H := [x.reg, nilReg a0] }
  μ _ := 0
def mC1 (x : HCS) (a : Int) (u : Nat) : Fam where
  α := HP
  I h := u < x.len ∧ h.Full ∧ h.n ≤ u + 1
  st h := { sl := mkSl 178 (mSl x a ++ [(6, .int .i64 (u : Nat))]), H := [x.reg, h.me 2, h.row] }
  μ _ := 0
structure SK where
  h : HP
  k : Nat
def HP.mi (h : HP) : Int := if h.n = 0 then -1 else h.id 0
def HP.mk_ (h : HP) : Int := if h.n = 0 then 0 else h.key 0
def mK0 (x : HCS) (a : Int) : Fam where
  α := Nat
  I k := k ≤ 64
  st k := { sl := mkSl 178 [(1, .int .i64 a), (5, p0 1), (7, .int .i64 (-1)), (8, .int .u64 0), (9, .ff), (10, .int .i64 (k : Nat))], H := [x.reg, nilReg a0] }
  μ k := 64 - k
def mK1 (x : HCS) (a : Int) : Fam where
  α := SK
  I z := z.k ≤ 64 ∧ z.h.Full ∧ z.h.n ≤ 200
  st z := { sl := mkSl 178 [(1, .int .i64 a), (5, p0 1), (7, .int .i64 z.h.mi), (8, .int .u64 z.h.mk_), (9, .bool (decide (z.h.n ≠ 0))), (10, .int .i64 (z.k : Nat))], H := [x.reg, z.h.me 2, z.h.row] }
  μ z := 64 - z.k
def mL (x : HCS) (a : Int) : Nat → Gam
  | 7 => .l [mF0 x a, mF1 x a]
  | 20 => .l [mK0 x a, mK1 x a]
  | _ => .l []
def mC (x : HCS) (a : Int) : Nat → Gam
  | 8 => .g fun u => [mC0 x a u, mC1 x a u]
  | _ => .l []
def mM : Nat → Nat
  | 11 => 1
  | 17 => 1
  | _ => 0
def tHm : Tab := [(7, aliveP.sp), (8, newP.sp), (9, altH nilMe (pushNP.sp) (pushP.sp)), (10, altH nilMe (popNP.sp) (popP.sp)), (11, altH nilMe (lenNP.sp) (lenP.sp)), (13, altH nilMe (remNP.sp) (remP.sp)), (12, altH nilMe (chgNP.sp) (chgP.sp)), (20, altH nilMe (minNP.sp) (minP.sp)), (21, altH nilMe (keyNP.sp) (keyP.sp))]
theorem tHm_ok : TabOk Try.prog tHm := (tab_cons alive_ok (tab_cons new_ok (tab_cons pushA_ok (tab_cons popA_ok (tab_cons lenA_ok (tab_cons remA_ok (tab_cons chgA_ok (tab_cons minA_ok (tab_cons keyA_ok tab_nil)))))))))

theorem hm_vc : ∀ (x : HCS) (a : JI), (x.Ok ∧ a.Ok) ∧ True → (True ∧ True) ∧ (x.nil = true → x.len = (0 : Nat)) ∧ (decide ((↑x.len : Int) > (200 : Int)) = true → x.Ok ∧ a.Ok → True ∧ True ∧ (x.len * (3 : Nat) ≤ x.len * (3 : Nat) ∧ x.len
  = x.len ∧ ∀ (j : Nat), j < x.len → x.what j = x.what j ∧ x.id j = x.id j ∧ x.key j = x.key j ∧ True) ∧ True) ∧ (decide ((↑x.len : Int) > (200 : Int)) = false → (True ∧ True) ∧ ∀ (v : Int), v = (0 : Int) → ((∃ (y : Nat),
  (y ≤ x.len ∧ x.len ≤ (200 : Nat)) ∧ ((((x.nil = true → x.nil = true) ∧ (x.nil = false → x.nil = false ∧ True ∧ True ∧ (0 : Nat) = (0 : Nat) ∧ x.len = x.len ∧ x.cap = x.cap)) ∧ a.v = a.v ∧ (True ∧ True) ∧ v = (↑y : Int) ∧
  True) ∧ (x.len * (3 : Nat) ≤ x.len * (3 : Nat) ∧ x.len = x.len ∧ ∀ (j : Nat), j < x.len → x.what j = x.what j ∧ x.id j = x.id j ∧ x.key j = x.key j ∧ True) ∧ ((65 : Nat) ≤ (65 : Nat) ∧ True ∧ ((64 : Nat) = (64 : Nat) ∧ ∀
  (j : Nat), j < (64 : Nat) → a0 j = a0 j) ∧ True) ∧ True) ∧ True) ∨ ∃ (y : SA), ((y.i ≤ x.len ∧ x.len ≤ (200 : Nat)) ∧ y.h.Full ∧ y.h.n ≤ y.i) ∧ False ∧ True) ∧ (∀ (y : Nat), y ≤ x.len ∧ x.len ≤ (200 : Nat) → (x.nil =
  true → x.len = (0 : Nat)) ∧ (decide ((↑y : Int) < (↑x.len : Int)) = true → ∃ (g : Nat), ((x.nil = true → x.len = (0 : Nat)) ∧ ((0 : Int) ≤ (↑y : Int) ∧ (↑y : Int) < (↑x.len : Int)) ∧ (0 : Nat) + (↑y : Int).toNat < x.len
  ∧ ((x.what ((0 : Nat) + (↑y : Int).toNat) == (0 : Int)) = true → (x.nil = true → x.len = (0 : Nat)) ∧ ((0 : Int) ≤ (↑y : Int) ∧ (↑y : Int) < (↑x.len : Int)) ∧ (0 : Nat) + (↑y : Int).toNat < x.len ∧ (x.nil = true → x.len
  = (0 : Nat)) ∧ ((0 : Int) ≤ (↑y : Int) ∧ (↑y : Int) < (↑x.len : Int)) ∧ (0 : Nat) + (↑y : Int).toNat < x.len ∧ (((True ∧ True) ∧ x.id ((0 : Nat) + (↑y : Int).toNat) = x.id ((0 : Nat) + (↑y : Int).toNat) ∧ x.key ((0 :
  Nat) + (↑y : Int).toNat) = x.key ((0 : Nat) + (↑y : Int).toNat) ∧ True) ∧ ((65 : Nat) ≤ (65 : Nat) ∧ True ∧ ((64 : Nat) = (64 : Nat) ∧ ∀ (j : Nat), j < (64 : Nat) → a0 j = a0 j) ∧ True) ∧ True) ∧ ((∀ (i : Nat), i < (64 :
  Nat) → a0 i = (0 : Int)) ∧ (0 : Int) ≤ x.key ((0 : Nat) + (↑y : Int).toNat) ∧ x.key ((0 : Nat) + (↑y : Int).toNat) < (18446744073709551616 : Int)) ∧ (¬((0 : Int) ≤ x.id ((0 : Nat) + (↑y : Int).toNat) ∧ x.id ((0 : Nat) +
  (↑y : Int).toNat) < (64 : Int)) → (∃ (y_1 : Bool), (mC0 x a.v g).I y_1 ∧ ((((x.nil = true → x.nil = true) ∧ (x.nil = false → x.nil = false ∧ True ∧ True ∧ (0 : Nat) = (0 : Nat) ∧ x.len = x.len ∧ x.cap = x.cap)) ∧ a.v =
  a.v ∧ (True ∧ True) ∧ (↑y : Int) = (↑g : Int) ∧ True) ∧ (x.len * (3 : Nat) ≤ x.len * (3 : Nat) ∧ x.len = x.len ∧ ∀ (j : Nat), j < x.len → x.what j = x.what j ∧ x.id j = x.id j ∧ x.key j = x.key j ∧ True) ∧ ((65 : Nat) ≤
  (65 : Nat) ∧ True ∧ ((64 : Nat) = (64 : Nat) ∧ ∀ (j : Nat), j < (64 : Nat) → a0 j = a0 j) ∧ True) ∧ True) ∧ True) ∨ ∃ (y : HP), (g < x.len ∧ y.Full ∧ y.n ≤ g + (1 : Nat)) ∧ False ∧ True) ∧ (¬¬((0 : Int) ≤ x.id ((0 : Nat)
  + (↑y : Int).toNat) ∧ x.id ((0 : Nat) + (↑y : Int).toNat) < (64 : Int)) → ∀ (x_1 : HP), (x_1.Full ∧ x_1.n = (1 : Nat) ∧ ∀ (i : Int), x_1.M i = if i = x.id ((0 : Nat) + (↑y : Int).toNat) then some (x.key ((0 : Nat) + (↑y
  : Int).toNat)) else none) → (∃ (y_1 : Bool), (mC0 x a.v g).I y_1 ∧ ((((x.nil = true → x.nil = true) ∧ (x.nil = false → x.nil = false ∧ True ∧ True ∧ (0 : Nat) = (0 : Nat) ∧ x.len = x.len ∧ x.cap = x.cap)) ∧ a.v = a.v ∧
  (True ∧ True) ∧ (↑y : Int) = (↑g : Int) ∧ True) ∧ (x.len * (3 : Nat) ≤ x.len * (3 : Nat) ∧ x.len = x.len ∧ ∀ (j : Nat), j < x.len → x.what j = x.what j ∧ x.id j = x.id j ∧ x.key j = x.key j ∧ True) ∧ ((65 : Nat) ≤ (65 :
  Nat) ∧ False ∧ ((64 : Nat) = (64 : Nat) ∧ ∀ (j : Nat), j < (64 : Nat) → x_1.at_ j = a0 j) ∧ True) ∧ True) ∧ True) ∨ ∃ (y_1 : HP), (g < x.len ∧ y_1.Full ∧ y_1.n ≤ g + (1 : Nat)) ∧ ((((x.nil = true → x.nil = true) ∧ (x.nil
  = false → x.nil = false ∧ True ∧ True ∧ (0 : Nat) = (0 : Nat) ∧ x.len = x.len ∧ x.cap = x.cap)) ∧ a.v = a.v ∧ (True ∧ True) ∧ (↑y : Int) = (↑g : Int) ∧ True) ∧ (x.len * (3 : Nat) ≤ x.len * (3 : Nat) ∧ x.len = x.len ∧ ∀
  (j : Nat), j < x.len → x.what j = x.what j ∧ x.id j = x.id j ∧ x.key j = x.key j ∧ True) ∧ ((65 : Nat) ≤ (65 : Nat) ∧ (True ∧ True ∧ (0 : Nat) = (0 : Nat) ∧ x_1.n = y_1.n ∧ x_1.cap = y_1.cap) ∧ ((64 : Nat) = (64 : Nat) ∧
  ∀ (j : Nat), j < (64 : Nat) → x_1.at_ j = y_1.at_ j) ∧ True) ∧ (y_1.cap * (2 : Nat) ≤ x_1.cap * (2 : Nat) ∧ y_1.n ≤ x_1.n ∧ ∀ (j : Nat), j < y_1.n → x_1.id j = y_1.id j ∧ x_1.key j = y_1.key j ∧ True) ∧ True) ∧ True)) ∧
  ((x.what ((0 : Nat) + (↑y : Int).toNat) == (0 : Int)) = false → ((x.what ((0 : Nat) + (↑y : Int).toNat) == (1 : Int)) = true → (((True ∧ True) ∧ True) ∧ ((65 : Nat) ≤ (65 : Nat) ∧ True ∧ ((64 : Nat) = (64 : Nat) ∧ ∀ (j :
  Nat), j < (64 : Nat) → a0 j = a0 j) ∧ True) ∧ True) ∧ (∀ (i : Nat), i < (64 : Nat) → a0 i = (0 : Int)) ∧ ((∃ (y_1 : Bool), (mC0 x a.v g).I y_1 ∧ ((((x.nil = true → x.nil = true) ∧ (x.nil = false → x.nil = false ∧ True ∧
  True ∧ (0 : Nat) = (0 : Nat) ∧ x.len = x.len ∧ x.cap = x.cap)) ∧ a.v = a.v ∧ (True ∧ True) ∧ (↑y : Int) = (↑g : Int) ∧ True) ∧ (x.len * (3 : Nat) ≤ x.len * (3 : Nat) ∧ x.len = x.len ∧ ∀ (j : Nat), j < x.len → x.what j =
  x.what j ∧ x.id j = x.id j ∧ x.key j = x.key j ∧ True) ∧ ((65 : Nat) ≤ (65 : Nat) ∧ True ∧ ((64 : Nat) = (64 : Nat) ∧ ∀ (j : Nat), j < (64 : Nat) → a0 j = a0 j) ∧ True) ∧ True) ∧ True) ∨ ∃ (y : HP), (g < x.len ∧ y.Full ∧
  y.n ≤ g + (1 : Nat)) ∧ False ∧ True)) ∧ ((x.what ((0 : Nat) + (↑y : Int).toNat) == (1 : Int)) = false → ((x.what ((0 : Nat) + (↑y : Int).toNat) == (2 : Int)) = true → (x.nil = true → x.len = (0 : Nat)) ∧ ((0 : Int) ≤ (↑y
  : Int) ∧ (↑y : Int) < (↑x.len : Int)) ∧ (0 : Nat) + (↑y : Int).toNat < x.len ∧ (((True ∧ True) ∧ x.id ((0 : Nat) + (↑y : Int).toNat) = x.id ((0 : Nat) + (↑y : Int).toNat) ∧ True) ∧ ((65 : Nat) ≤ (65 : Nat) ∧ True ∧ ((64
  : Nat) = (64 : Nat) ∧ ∀ (j : Nat), j < (64 : Nat) → a0 j = a0 j) ∧ True) ∧ True) ∧ (∀ (i : Nat), i < (64 : Nat) → a0 i = (0 : Int)) ∧ ((∃ (y_1 : Bool), (mC0 x a.v g).I y_1 ∧ ((((x.nil = true → x.nil = true) ∧ (x.nil =
  false → x.nil = false ∧ True ∧ True ∧ (0 : Nat) = (0 : Nat) ∧ x.len = x.len ∧ x.cap = x.cap)) ∧ a.v = a.v ∧ (True ∧ True) ∧ (↑y : Int) = (↑g : Int) ∧ True) ∧ (x.len * (3 : Nat) ≤ x.len * (3 : Nat) ∧ x.len = x.len ∧ ∀ (j
  : Nat), j < x.len → x.what j = x.what j ∧ x.id j = x.id j ∧ x.key j = x.key j ∧ True) ∧ ((65 : Nat) ≤ (65 : Nat) ∧ True ∧ ((64 : Nat) = (64 : Nat) ∧ ∀ (j : Nat), j < (64 : Nat) → a0 j = a0 j) ∧ True) ∧ True) ∧ True) ∨ ∃
  (y : HP), (g < x.len ∧ y.Full ∧ y.n ≤ g + (1 : Nat)) ∧ False ∧ True)) ∧ ((x.what ((0 : Nat) + (↑y : Int).toNat) == (2 : Int)) = false → ((x.what ((0 : Nat) + (↑y : Int).toNat) == (3 : Int)) = true → (x.nil = true → x.len
  = (0 : Nat)) ∧ ((0 : Int) ≤ (↑y : Int) ∧ (↑y : Int) < (↑x.len : Int)) ∧ (0 : Nat) + (↑y : Int).toNat < x.len ∧ (x.nil = true → x.len = (0 : Nat)) ∧ ((0 : Int) ≤ (↑y : Int) ∧ (↑y : Int) < (↑x.len : Int)) ∧ (0 : Nat) + (↑y
  : Int).toNat < x.len ∧ (((True ∧ True) ∧ x.id ((0 : Nat) + (↑y : Int).toNat) = x.id ((0 : Nat) + (↑y : Int).toNat) ∧ x.key ((0 : Nat) + (↑y : Int).toNat) = x.key ((0 : Nat) + (↑y : Int).toNat) ∧ True) ∧ ((65 : Nat) ≤ (65
  : Nat) ∧ True ∧ ((64 : Nat) = (64 : Nat) ∧ ∀ (j : Nat), j < (64 : Nat) → a0 j = a0 j) ∧ True) ∧ True) ∧ (∀ (i : Nat), i < (64 : Nat) → a0 i = (0 : Int)) ∧ (¬((0 : Int) ≤ x.id ((0 : Nat) + (↑y : Int).toNat) ∧ x.id ((0 :
  Nat) + (↑y : Int).toNat) < (64 : Int)) → (∃ (y_1 : Bool), (mC0 x a.v g).I y_1 ∧ ((((x.nil = true → x.nil = true) ∧ (x.nil = false → x.nil = false ∧ True ∧ True ∧ (0 : Nat) = (0 : Nat) ∧ x.len = x.len ∧ x.cap = x.cap)) ∧
  a.v = a.v ∧ (True ∧ True) ∧ (↑y : Int) = (↑g : Int) ∧ True) ∧ (x.len * (3 : Nat) ≤ x.len * (3 : Nat) ∧ x.len = x.len ∧ ∀ (j : Nat), j < x.len → x.what j = x.what j ∧ x.id j = x.id j ∧ x.key j = x.key j ∧ True) ∧ ((65 :
  Nat) ≤ (65 : Nat) ∧ True ∧ ((64 : Nat) = (64 : Nat) ∧ ∀ (j : Nat), j < (64 : Nat) → a0 j = a0 j) ∧ True) ∧ True) ∧ True) ∨ ∃ (y : HP), (g < x.len ∧ y.Full ∧ y.n ≤ g + (1 : Nat)) ∧ False ∧ True) ∧ (¬¬((0 : Int) ≤ x.id ((0
  : Nat) + (↑y : Int).toNat) ∧ x.id ((0 : Nat) + (↑y : Int).toNat) < (64 : Int)) → (∃ (y_1 : Bool), (mC0 x a.v g).I y_1 ∧ ((((x.nil = true → x.nil = true) ∧ (x.nil = false → x.nil = false ∧ True ∧ True ∧ (0 : Nat) = (0 :
  Nat) ∧ x.len = x.len ∧ x.cap = x.cap)) ∧ a.v = a.v ∧ (True ∧ True) ∧ (↑y : Int) = (↑g : Int) ∧ True) ∧ (x.len * (3 : Nat) ≤ x.len * (3 : Nat) ∧ x.len = x.len ∧ ∀ (j : Nat), j < x.len → x.what j = x.what j ∧ x.id j = x.id
  j ∧ x.key j = x.key j ∧ True) ∧ ((65 : Nat) ≤ (65 : Nat) ∧ True ∧ ((64 : Nat) = (64 : Nat) ∧ ∀ (j : Nat), j < (64 : Nat) → a0 j = a0 j) ∧ True) ∧ True) ∧ True) ∨ ∃ (y : HP), (g < x.len ∧ y.Full ∧ y.n ≤ g + (1 : Nat)) ∧
  False ∧ True)) ∧ ((x.what ((0 : Nat) + (↑y : Int).toNat) == (3 : Int)) = false → (∃ (y_1 : Bool), (mC0 x a.v g).I y_1 ∧ ((((x.nil = true → x.nil = true) ∧ (x.nil = false → x.nil = false ∧ True ∧ True ∧ (0 : Nat) = (0 :
  Nat) ∧ x.len = x.len ∧ x.cap = x.cap)) ∧ a.v = a.v ∧ (True ∧ True) ∧ (↑y : Int) = (↑g : Int) ∧ True) ∧ (x.len * (3 : Nat) ≤ x.len * (3 : Nat) ∧ x.len = x.len ∧ ∀ (j : Nat), j < x.len → x.what j = x.what j ∧ x.id j = x.id
  j ∧ x.key j = x.key j ∧ True) ∧ ((65 : Nat) ≤ (65 : Nat) ∧ True ∧ ((64 : Nat) = (64 : Nat) ∧ ∀ (j : Nat), j < (64 : Nat) → a0 j = a0 j) ∧ True) ∧ True) ∧ True) ∨ ∃ (y : HP), (g < x.len ∧ y.Full ∧ y.n ≤ g + (1 : Nat)) ∧
  False ∧ True))))) ∧ (∀ (y_1 : Bool), (mC0 x a.v g).I y_1 → ∀ (v : Int), v = IntKind.i64.wrap ((↑g : Int) + (1 : Int)) → (∃ (y_2 : Nat), (y_2 ≤ x.len ∧ x.len ≤ (200 : Nat)) ∧ ((((x.nil = true → x.nil = true) ∧ (x.nil =
  false → x.nil = false ∧ True ∧ True ∧ (0 : Nat) = (0 : Nat) ∧ x.len = x.len ∧ x.cap = x.cap)) ∧ a.v = a.v ∧ (True ∧ True) ∧ v = (↑y_2 : Int) ∧ True) ∧ (x.len * (3 : Nat) ≤ x.len * (3 : Nat) ∧ x.len = x.len ∧ ∀ (j : Nat),
  j < x.len → x.what j = x.what j ∧ x.id j = x.id j ∧ x.key j = x.key j ∧ True) ∧ ((65 : Nat) ≤ (65 : Nat) ∧ True ∧ ((64 : Nat) = (64 : Nat) ∧ ∀ (j : Nat), j < (64 : Nat) → a0 j = a0 j) ∧ True) ∧ True) ∧ (mF0 x a.v).μ y_2
  < (mF0 x a.v).μ y) ∨ ∃ (y_2 : SA), ((y_2.i ≤ x.len ∧ x.len ≤ (200 : Nat)) ∧ y_2.h.Full ∧ y_2.h.n ≤ y_2.i) ∧ False ∧ (mF1 x a.v).μ y_2 < (mF0 x a.v).μ y) ∧ ∀ (y_1 : HP), g < x.len ∧ y_1.Full ∧ y_1.n ≤ g + (1 : Nat) → ∀ (v
  : Int), v = IntKind.i64.wrap ((↑g : Int) + (1 : Int)) → (∃ (y_2 : Nat), (y_2 ≤ x.len ∧ x.len ≤ (200 : Nat)) ∧ ((((x.nil = true → x.nil = true) ∧ (x.nil = false → x.nil = false ∧ True ∧ True ∧ (0 : Nat) = (0 : Nat) ∧
  x.len = x.len ∧ x.cap = x.cap)) ∧ a.v = a.v ∧ (True ∧ True) ∧ v = (↑y_2 : Int) ∧ True) ∧ (x.len * (3 : Nat) ≤ x.len * (3 : Nat) ∧ x.len = x.len ∧ ∀ (j : Nat), j < x.len → x.what j = x.what j ∧ x.id j = x.id j ∧ x.key j =
  x.key j ∧ True) ∧ ((65 : Nat) ≤ (65 : Nat) ∧ False ∧ ((64 : Nat) = (64 : Nat) ∧ ∀ (j : Nat), j < (64 : Nat) → y_1.at_ j = a0 j) ∧ True) ∧ True) ∧ (mF0 x a.v).μ y_2 < (mF0 x a.v).μ y) ∨ ∃ (y_2 : SA), ((y_2.i ≤ x.len ∧
  x.len ≤ (200 : Nat)) ∧ y_2.h.Full ∧ y_2.h.n ≤ y_2.i) ∧ ((((x.nil = true → x.nil = true) ∧ (x.nil = false → x.nil = false ∧ True ∧ True ∧ (0 : Nat) = (0 : Nat) ∧ x.len = x.len ∧ x.cap = x.cap)) ∧ a.v = a.v ∧ (True ∧ True)
  ∧ v = (↑y_2.i : Int) ∧ True) ∧ (x.len * (3 : Nat) ≤ x.len * (3 : Nat) ∧ x.len = x.len ∧ ∀ (j : Nat), j < x.len → x.what j = x.what j ∧ x.id j = x.id j ∧ x.key j = x.key j ∧ True) ∧ ((65 : Nat) ≤ (65 : Nat) ∧ (True ∧ True
  ∧ (0 : Nat) = (0 : Nat) ∧ y_1.n = y_2.h.n ∧ y_1.cap = y_2.h.cap) ∧ ((64 : Nat) = (64 : Nat) ∧ ∀ (j : Nat), j < (64 : Nat) → y_1.at_ j = y_2.h.at_ j) ∧ True) ∧ (y_2.h.cap * (2 : Nat) ≤ y_1.cap * (2 : Nat) ∧ y_2.h.n ≤
  y_1.n ∧ ∀ (j : Nat), j < y_2.h.n → y_1.id j = y_2.h.id j ∧ y_1.key j = y_2.h.key j ∧ True) ∧ True) ∧ (mF1 x a.v).μ y_2 < (mF0 x a.v).μ y) ∧ (decide ((↑y : Int) < (↑x.len : Int)) = false → (((True ∧ True) ∧ True) ∧ ((65 :
  Nat) ≤ (65 : Nat) ∧ True ∧ ((64 : Nat) = (64 : Nat) ∧ ∀ (j : Nat), j < (64 : Nat) → a0 j = a0 j) ∧ True) ∧ True) ∧ ∀ (v : Int), v = (-1 : Int) → ∀ (v_1 : Int), v_1 = (0 : Int) → ∀ (v_2 : Int), v_2 = (0 : Int) → ((∃ (y :
  Nat), (mK0 x a.v).I y ∧ ((a.v = a.v ∧ (True ∧ True) ∧ v = (-1 : Int) ∧ v_1 = (0 : Int) ∧ false = false ∧ v_2 = (↑y : Int) ∧ True) ∧ (x.len * (3 : Nat) ≤ x.len * (3 : Nat) ∧ x.len = x.len ∧ ∀ (j : Nat), j < x.len → x.what
  j = x.what j ∧ x.id j = x.id j ∧ x.key j = x.key j ∧ True) ∧ ((65 : Nat) ≤ (65 : Nat) ∧ True ∧ ((64 : Nat) = (64 : Nat) ∧ ∀ (j : Nat), j < (64 : Nat) → a0 j = a0 j) ∧ True) ∧ True) ∧ True) ∨ ∃ (y : SK), (y.k ≤ (64 : Nat)
  ∧ y.h.Full ∧ y.h.n ≤ (200 : Nat)) ∧ False ∧ True) ∧ (∀ (y : Nat), (mK0 x a.v).I y → (decide ((↑y : Int) < (64 : Int)) = true → (((True ∧ True) ∧ (↑y : Int) = (↑y : Int) ∧ True) ∧ ((65 : Nat) ≤ (65 : Nat) ∧ True ∧ ((64 :
  Nat) = (64 : Nat) ∧ ∀ (j : Nat), j < (64 : Nat) → a0 j = a0 j) ∧ True) ∧ True) ∧ (∀ (i : Nat), i < (64 : Nat) → a0 i = (0 : Int)) ∧ ∀ (v : Int), v = oVal none → (oHas none = true → x.Ok ∧ a.Ok → False ∧ True ∧ (x.len *
  (3 : Nat) ≤ x.len * (3 : Nat) ∧ x.len = x.len ∧ ∀ (j : Nat), j < x.len → x.what j = x.what j ∧ x.id j = x.id j ∧ x.key j = x.key j ∧ True) ∧ True) ∧ (oHas none = false → ∀ (v : Int), v = IntKind.i64.wrap ((↑y : Int) + (1
  : Int)) → (∃ (y_1 : Nat), (mK0 x a.v).I y_1 ∧ ((a.v = a.v ∧ (True ∧ True) ∧ (-1 : Int) = (-1 : Int) ∧ (0 : Int) = (0 : Int) ∧ True ∧ v = (↑y_1 : Int) ∧ True) ∧ (x.len * (3 : Nat) ≤ x.len * (3 : Nat) ∧ x.len = x.len ∧ ∀
  (j : Nat), j < x.len → x.what j = x.what j ∧ x.id j = x.id j ∧ x.key j = x.key j ∧ True) ∧ ((65 : Nat) ≤ (65 : Nat) ∧ True ∧ ((64 : Nat) = (64 : Nat) ∧ ∀ (j : Nat), j < (64 : Nat) → a0 j = a0 j) ∧ True) ∧ True) ∧ (mK0 x
  a.v).μ y_1 < (mK0 x a.v).μ y) ∨ ∃ (y_1 : SK), (y_1.k ≤ (64 : Nat) ∧ y_1.h.Full ∧ y_1.h.n ≤ (200 : Nat)) ∧ False ∧ (mK1 x a.v).μ y_1 < (mK0 x a.v).μ y)) ∧ (decide ((↑y : Int) < (64 : Int)) = false → (((True ∧ True) ∧ a.v
  = a.v ∧ True) ∧ ((65 : Nat) ≤ (65 : Nat) ∧ True ∧ ((64 : Nat) = (64 : Nat) ∧ ∀ (j : Nat), j < (64 : Nat) → a0 j = a0 j) ∧ True) ∧ True) ∧ (∀ (i : Nat), i < (64 : Nat) → a0 i = (0 : Int)) ∧ ∀ (v : Int), v = oVal none →
  (((True ∧ True) ∧ True) ∧ ((65 : Nat) ≤ (65 : Nat) ∧ True ∧ ((64 : Nat) = (64 : Nat) ∧ ∀ (j : Nat), j < (64 : Nat) → a0 j = a0 j) ∧ True) ∧ True) ∧ ∀ (v_3 : Int), v_3 = (0 : Int) → (((True ∧ True) ∧ True) ∧ ((65 : Nat) ≤
  (65 : Nat) ∧ True ∧ ((64 : Nat) = (64 : Nat) ∧ ∀ (j : Nat), j < (64 : Nat) → a0 j = a0 j) ∧ True) ∧ True) ∧ (∀ (i : Nat), i < (64 : Nat) → a0 i = (0 : Int)) ∧ ∀ (v_4 : Int), v_4 = (-1 : Int) → ∀ (v_5 : Int), v_5 = (0 :
  Int) → (((True ∧ True) ∧ a.v = a.v ∧ True) ∧ ((65 : Nat) ≤ (65 : Nat) ∧ True ∧ ((64 : Nat) = (64 : Nat) ∧ ∀ (j : Nat), j < (64 : Nat) → a0 j = a0 j) ∧ True) ∧ True) ∧ (∀ (i : Nat), i < (64 : Nat) → a0 i = (0 : Int)) ∧ ∀
  (v_6 : Int), v_6 = oVal none → ((!false == false) = true → x.Ok ∧ a.Ok → False ∧ True ∧ (x.len * (3 : Nat) ≤ x.len * (3 : Nat) ∧ x.len = x.len ∧ ∀ (j : Nat), j < x.len → x.what j = x.what j ∧ x.id j = x.id j ∧ x.key j =
  x.key j ∧ True) ∧ True) ∧ ((!false == false) = false → ((v_4 != (-1 : Int)) = true → x.Ok ∧ a.Ok → False ∧ True ∧ (x.len * (3 : Nat) ≤ x.len * (3 : Nat) ∧ x.len = x.len ∧ ∀ (j : Nat), j < x.len → x.what j = x.what j ∧
  x.id j = x.id j ∧ x.key j = x.key j ∧ True) ∧ True) ∧ ((v_4 != (-1 : Int)) = false → ((v_5 != (0 : Int)) = true → x.Ok ∧ a.Ok → False ∧ True ∧ (x.len * (3 : Nat) ≤ x.len * (3 : Nat) ∧ x.len = x.len ∧ ∀ (j : Nat), j <
  x.len → x.what j = x.what j ∧ x.id j = x.id j ∧ x.key j = x.key j ∧ True) ∧ True) ∧ ((v_5 != (0 : Int)) = false → (oHas none = true → ((oHas none == true) = true → ((!oHas none) = true → x.Ok ∧ a.Ok → True ∧ True ∧
  (x.len * (3 : Nat) ≤ x.len * (3 : Nat) ∧ x.len = x.len ∧ ∀ (j : Nat), j < x.len → x.what j = x.what j ∧ x.id j = x.id j ∧ x.key j = x.key j ∧ True) ∧ True) ∧ ((!oHas none) = false → x.Ok ∧ a.Ok → (v_6 == v) = true ∧ True
  ∧ (x.len * (3 : Nat) ≤ x.len * (3 : Nat) ∧ x.len = x.len ∧ ∀ (j : Nat), j < x.len → x.what j = x.what j ∧ x.id j = x.id j ∧ x.key j = x.key j ∧ True) ∧ True)) ∧ ((oHas none == true) = false → x.Ok ∧ a.Ok → False ∧ True ∧
  (x.len * (3 : Nat) ≤ x.len * (3 : Nat) ∧ x.len = x.len ∧ ∀ (j : Nat), j < x.len → x.what j = x.what j ∧ x.id j = x.id j ∧ x.key j = x.key j ∧ True) ∧ True)) ∧ (oHas none = false → ((oHas none == false) = true → ((!oHas
  none) = true → x.Ok ∧ a.Ok → True ∧ True ∧ (x.len * (3 : Nat) ≤ x.len * (3 : Nat) ∧ x.len = x.len ∧ ∀ (j : Nat), j < x.len → x.what j = x.what j ∧ x.id j = x.id j ∧ x.key j = x.key j ∧ True) ∧ True) ∧ ((!oHas none) =
  false → x.Ok ∧ a.Ok → (v_6 == v) = true ∧ True ∧ (x.len * (3 : Nat) ≤ x.len * (3 : Nat) ∧ x.len = x.len ∧ ∀ (j : Nat), j < x.len → x.what j = x.what j ∧ x.id j = x.id j ∧ x.key j = x.key j ∧ True) ∧ True)) ∧ ((oHas none
  == false) = false → x.Ok ∧ a.Ok → False ∧ True ∧ (x.len * (3 : Nat) ≤ x.len * (3 : Nat) ∧ x.len = x.len ∧ ∀ (j : Nat), j < x.len → x.what j = x.what j ∧ x.id j = x.id j ∧ x.key j = x.key j ∧ True) ∧ True))))))) ∧ ∀ (y :
  SK), y.k ≤ (64 : Nat) ∧ y.h.Full ∧ y.h.n ≤ (200 : Nat) → (decide ((↑y.k : Int) < (64 : Int)) = true → (((True ∧ True) ∧ (↑y.k : Int) = (↑y.k : Int) ∧ True) ∧ ((65 : Nat) ≤ (65 : Nat) ∧ (True ∧ True ∧ (0 : Nat) = (0 :
  Nat) ∧ y.h.n = y.h.n ∧ y.h.cap = y.h.cap) ∧ ((64 : Nat) = (64 : Nat) ∧ ∀ (j : Nat), j < (64 : Nat) → y.h.at_ j = y.h.at_ j) ∧ True) ∧ (y.h.cap * (2 : Nat) ≤ y.h.cap * (2 : Nat) ∧ y.h.n = y.h.n ∧ ∀ (j : Nat), j < y.h.n →
  y.h.id j = y.h.id j ∧ y.h.key j = y.h.key j ∧ True) ∧ True) ∧ ((HP.mk y.h.n y.h.cap (fun (j : Nat) => y.h.id j) (fun (j : Nat) => y.h.key j) y.h.at_).Full ∧ y.h.n ≤ (100000 : Nat)) ∧ ∀ (v : Int), v = oVal ((HP.mk y.h.n
  y.h.cap (fun (j : Nat) => y.h.id j) (fun (j : Nat) => y.h.key j) y.h.at_).M (↑y.k : Int)) → (oHas ((HP.mk y.h.n y.h.cap (fun (j : Nat) => y.h.id j) (fun (j : Nat) => y.h.key j) y.h.at_).M (↑y.k : Int)) = true → ((!decide
  (y.h.n ≠ (0 : Nat))) = true → x.Ok ∧ a.Ok → False ∧ True ∧ (x.len * (3 : Nat) ≤ x.len * (3 : Nat) ∧ x.len = x.len ∧ ∀ (j : Nat), j < x.len → x.what j = x.what j ∧ x.id j = x.id j ∧ x.key j = x.key j ∧ True) ∧ True) ∧
  ((!decide (y.h.n ≠ (0 : Nat))) = false → (decide (v < y.h.mk_) = true → x.Ok ∧ a.Ok → False ∧ True ∧ (x.len * (3 : Nat) ≤ x.len * (3 : Nat) ∧ x.len = x.len ∧ ∀ (j : Nat), j < x.len → x.what j = x.what j ∧ x.id j = x.id j
  ∧ x.key j = x.key j ∧ True) ∧ True) ∧ (decide (v < y.h.mk_) = false → ((v == y.h.mk_) = true → (decide ((↑y.k : Int) < y.h.mi) = true → x.Ok ∧ a.Ok → False ∧ True ∧ (x.len * (3 : Nat) ≤ x.len * (3 : Nat) ∧ x.len = x.len
  ∧ ∀ (j : Nat), j < x.len → x.what j = x.what j ∧ x.id j = x.id j ∧ x.key j = x.key j ∧ True) ∧ True) ∧ (decide ((↑y.k : Int) < y.h.mi) = false → ∀ (v : Int), v = IntKind.i64.wrap ((↑y.k : Int) + (1 : Int)) → (∃ (y_1 :
  Nat), (mK0 x a.v).I y_1 ∧ ((a.v = a.v ∧ (True ∧ True) ∧ y.h.mi = (-1 : Int) ∧ y.h.mk_ = (0 : Int) ∧ decide (y.h.n ≠ (0 : Nat)) = false ∧ v = (↑y_1 : Int) ∧ True) ∧ (x.len * (3 : Nat) ≤ x.len * (3 : Nat) ∧ x.len = x.len ∧
  ∀ (j : Nat), j < x.len → x.what j = x.what j ∧ x.id j = x.id j ∧ x.key j = x.key j ∧ True) ∧ ((65 : Nat) ≤ (65 : Nat) ∧ False ∧ ((64 : Nat) = (64 : Nat) ∧ ∀ (j : Nat), j < (64 : Nat) → y.h.at_ j = a0 j) ∧ True) ∧ True) ∧
  (mK0 x a.v).μ y_1 < (mK1 x a.v).μ y) ∨ ∃ (y_1 : SK), (y_1.k ≤ (64 : Nat) ∧ y_1.h.Full ∧ y_1.h.n ≤ (200 : Nat)) ∧ ((a.v = a.v ∧ (True ∧ True) ∧ y.h.mi = y_1.h.mi ∧ y.h.mk_ = y_1.h.mk_ ∧ decide (y.h.n ≠ (0 : Nat)) = decide
  (y_1.h.n ≠ (0 : Nat)) ∧ v = (↑y_1.k : Int) ∧ True) ∧ (x.len * (3 : Nat) ≤ x.len * (3 : Nat) ∧ x.len = x.len ∧ ∀ (j : Nat), j < x.len → x.what j = x.what j ∧ x.id j = x.id j ∧ x.key j = x.key j ∧ True) ∧ ((65 : Nat) ≤ (65
  : Nat) ∧ (True ∧ True ∧ (0 : Nat) = (0 : Nat) ∧ y.h.n = y_1.h.n ∧ y.h.cap = y_1.h.cap) ∧ ((64 : Nat) = (64 : Nat) ∧ ∀ (j : Nat), j < (64 : Nat) → y.h.at_ j = y_1.h.at_ j) ∧ True) ∧ (y_1.h.cap * (2 : Nat) ≤ y.h.cap * (2 :
  Nat) ∧ y_1.h.n ≤ y.h.n ∧ ∀ (j : Nat), j < y_1.h.n → y.h.id j = y_1.h.id j ∧ y.h.key j = y_1.h.key j ∧ True) ∧ True) ∧ (mK1 x a.v).μ y_1 < (mK1 x a.v).μ y)) ∧ ((v == y.h.mk_) = false → ∀ (v : Int), v = IntKind.i64.wrap
  ((↑y.k : Int) + (1 : Int)) → (∃ (y_1 : Nat), (mK0 x a.v).I y_1 ∧ ((a.v = a.v ∧ (True ∧ True) ∧ y.h.mi = (-1 : Int) ∧ y.h.mk_ = (0 : Int) ∧ decide (y.h.n ≠ (0 : Nat)) = false ∧ v = (↑y_1 : Int) ∧ True) ∧ (x.len * (3 :
  Nat) ≤ x.len * (3 : Nat) ∧ x.len = x.len ∧ ∀ (j : Nat), j < x.len → x.what j = x.what j ∧ x.id j = x.id j ∧ x.key j = x.key j ∧ True) ∧ ((65 : Nat) ≤ (65 : Nat) ∧ False ∧ ((64 : Nat) = (64 : Nat) ∧ ∀ (j : Nat), j < (64 :
  Nat) → y.h.at_ j = a0 j) ∧ True) ∧ True) ∧ (mK0 x a.v).μ y_1 < (mK1 x a.v).μ y) ∨ ∃ (y_1 : SK), (y_1.k ≤ (64 : Nat) ∧ y_1.h.Full ∧ y_1.h.n ≤ (200 : Nat)) ∧ ((a.v = a.v ∧ (True ∧ True) ∧ y.h.mi = y_1.h.mi ∧ y.h.mk_ =
  y_1.h.mk_ ∧ decide (y.h.n ≠ (0 : Nat)) = decide (y_1.h.n ≠ (0 : Nat)) ∧ v = (↑y_1.k : Int) ∧ True) ∧ (x.len * (3 : Nat) ≤ x.len * (3 : Nat) ∧ x.len = x.len ∧ ∀ (j : Nat), j < x.len → x.what j = x.what j ∧ x.id j = x.id j
  ∧ x.key j = x.key j ∧ True) ∧ ((65 : Nat) ≤ (65 : Nat) ∧ (True ∧ True ∧ (0 : Nat) = (0 : Nat) ∧ y.h.n = y_1.h.n ∧ y.h.cap = y_1.h.cap) ∧ ((64 : Nat) = (64 : Nat) ∧ ∀ (j : Nat), j < (64 : Nat) → y.h.at_ j = y_1.h.at_ j) ∧
  True) ∧ (y_1.h.cap * (2 : Nat) ≤ y.h.cap * (2 : Nat) ∧ y_1.h.n ≤ y.h.n ∧ ∀ (j : Nat), j < y_1.h.n → y.h.id j = y_1.h.id j ∧ y.h.key j = y_1.h.key j ∧ True) ∧ True) ∧ (mK1 x a.v).μ y_1 < (mK1 x a.v).μ y)))) ∧ (oHas
  ((HP.mk y.h.n y.h.cap (fun (j : Nat) => y.h.id j) (fun (j : Nat) => y.h.key j) y.h.at_).M (↑y.k : Int)) = false → ∀ (v : Int), v = IntKind.i64.wrap ((↑y.k : Int) + (1 : Int)) → (∃ (y_1 : Nat), (mK0 x a.v).I y_1 ∧ ((a.v =
  a.v ∧ (True ∧ True) ∧ y.h.mi = (-1 : Int) ∧ y.h.mk_ = (0 : Int) ∧ decide (y.h.n ≠ (0 : Nat)) = false ∧ v = (↑y_1 : Int) ∧ True) ∧ (x.len * (3 : Nat) ≤ x.len * (3 : Nat) ∧ x.len = x.len ∧ ∀ (j : Nat), j < x.len → x.what j
  = x.what j ∧ x.id j = x.id j ∧ x.key j = x.key j ∧ True) ∧ ((65 : Nat) ≤ (65 : Nat) ∧ False ∧ ((64 : Nat) = (64 : Nat) ∧ ∀ (j : Nat), j < (64 : Nat) → y.h.at_ j = a0 j) ∧ True) ∧ True) ∧ (mK0 x a.v).μ y_1 < (mK1 x a.v).μ
  y) ∨ ∃ (y_1 : SK), (y_1.k ≤ (64 : Nat) ∧ y_1.h.Full ∧ y_1.h.n ≤ (200 : Nat)) ∧ ((a.v = a.v ∧ (True ∧ True) ∧ y.h.mi = y_1.h.mi ∧ y.h.mk_ = y_1.h.mk_ ∧ decide (y.h.n ≠ (0 : Nat)) = decide (y_1.h.n ≠ (0 : Nat)) ∧ v =
  (↑y_1.k : Int) ∧ True) ∧ (x.len * (3 : Nat) ≤ x.len * (3 : Nat) ∧ x.len = x.len ∧ ∀ (j : Nat), j < x.len → x.what j = x.what j ∧ x.id j = x.id j ∧ x.key j = x.key j ∧ True) ∧ ((65 : Nat) ≤ (65 : Nat) ∧ (True ∧ True ∧ (0
  : Nat) = (0 : Nat) ∧ y.h.n = y_1.h.n ∧ y.h.cap = y_1.h.cap) ∧ ((64 : Nat) = (64 : Nat) ∧ ∀ (j : Nat), j < (64 : Nat) → y.h.at_ j = y_1.h.at_ j) ∧ True) ∧ (y_1.h.cap * (2 : Nat) ≤ y.h.cap * (2 : Nat) ∧ y_1.h.n ≤ y.h.n ∧ ∀
  (j : Nat), j < y_1.h.n → y.h.id j = y_1.h.id j ∧ y.h.key j = y_1.h.key j ∧ True) ∧ True) ∧ (mK1 x a.v).μ y_1 < (mK1 x a.v).μ y)) ∧ (decide ((↑y.k : Int) < (64 : Int)) = false → (((True ∧ True) ∧ a.v = a.v ∧ True) ∧ ((65
  : Nat) ≤ (65 : Nat) ∧ (True ∧ True ∧ (0 : Nat) = (0 : Nat) ∧ y.h.n = y.h.n ∧ y.h.cap = y.h.cap) ∧ ((64 : Nat) = (64 : Nat) ∧ ∀ (j : Nat), j < (64 : Nat) → y.h.at_ j = y.h.at_ j) ∧ True) ∧ (y.h.cap * (2 : Nat) ≤ y.h.cap *
  (2 : Nat) ∧ y.h.n = y.h.n ∧ ∀ (j : Nat), j < y.h.n → y.h.id j = y.h.id j ∧ y.h.key j = y.h.key j ∧ True) ∧ True) ∧ ((HP.mk y.h.n y.h.cap (fun (j : Nat) => y.h.id j) (fun (j : Nat) => y.h.key j) y.h.at_).Full ∧ y.h.n ≤
  (100000 : Nat)) ∧ ∀ (v : Int), v = oVal ((HP.mk y.h.n y.h.cap (fun (j : Nat) => y.h.id j) (fun (j : Nat) => y.h.key j) y.h.at_).M a.v) → (((True ∧ True) ∧ True) ∧ ((65 : Nat) ≤ (65 : Nat) ∧ (True ∧ True ∧ (0 : Nat) = (0
  : Nat) ∧ y.h.n = y.h.n ∧ y.h.cap = y.h.cap) ∧ ((64 : Nat) = (64 : Nat) ∧ ∀ (j : Nat), j < (64 : Nat) → y.h.at_ j = y.h.at_ j) ∧ True) ∧ (y.h.cap * (2 : Nat) ≤ y.h.cap * (2 : Nat) ∧ y.h.n = y.h.n ∧ ∀ (j : Nat), j < y.h.n
  → y.h.id j = y.h.id j ∧ y.h.key j = y.h.key j ∧ True) ∧ True) ∧ ∀ (v_3 : Int), v_3 = (↑y.h.n : Int) → (((True ∧ True) ∧ True) ∧ ((65 : Nat) ≤ (65 : Nat) ∧ (True ∧ True ∧ (0 : Nat) = (0 : Nat) ∧ y.h.n = y.h.n ∧ y.h.cap =
  y.h.cap) ∧ ((64 : Nat) = (64 : Nat) ∧ ∀ (j : Nat), j < (64 : Nat) → y.h.at_ j = y.h.at_ j) ∧ True) ∧ (y.h.cap * (2 : Nat) ≤ y.h.cap * (2 : Nat) ∧ y.h.n = y.h.n ∧ ∀ (j : Nat), j < y.h.n → y.h.id j = y.h.id j ∧ y.h.key j =
  y.h.key j ∧ True) ∧ True) ∧ ((HP.mk y.h.n y.h.cap (fun (j : Nat) => y.h.id j) (fun (j : Nat) => y.h.key j) y.h.at_).Full ∧ y.h.n ≤ (10000 : Nat)) ∧ (y.h.n = (0 : Nat) → ∀ (v_4 : Int), v_4 = (-1 : Int) → ∀ (v_5 : Int),
  v_5 = (0 : Int) → (((True ∧ True) ∧ a.v = a.v ∧ True) ∧ ((65 : Nat) ≤ (65 : Nat) ∧ (True ∧ True ∧ (0 : Nat) = (0 : Nat) ∧ y.h.n = y.h.n ∧ y.h.cap = y.h.cap) ∧ ((64 : Nat) = (64 : Nat) ∧ ∀ (j : Nat), j < (64 : Nat) →
  y.h.at_ j = y.h.at_ j) ∧ True) ∧ (y.h.cap * (2 : Nat) ≤ y.h.cap * (2 : Nat) ∧ y.h.n = y.h.n ∧ ∀ (j : Nat), j < y.h.n → y.h.id j = y.h.id j ∧ y.h.key j = y.h.key j ∧ True) ∧ True) ∧ ((HP.mk y.h.n y.h.cap (fun (j : Nat) =>
  y.h.id j) (fun (j : Nat) => y.h.key j) y.h.at_).Full ∧ y.h.n ≤ (100000 : Nat)) ∧ ∀ (v_6 : Int), v_6 = oVal ((HP.mk y.h.n y.h.cap (fun (j : Nat) => y.h.id j) (fun (j : Nat) => y.h.key j) y.h.at_).M a.v) → ((!false ==
  decide (y.h.n ≠ (0 : Nat))) = true → x.Ok ∧ a.Ok → False ∧ True ∧ (x.len * (3 : Nat) ≤ x.len * (3 : Nat) ∧ x.len = x.len ∧ ∀ (j : Nat), j < x.len → x.what j = x.what j ∧ x.id j = x.id j ∧ x.key j = x.key j ∧ True) ∧
  True) ∧ ((!false == decide (y.h.n ≠ (0 : Nat))) = false → ((v_4 != y.h.mi) = true → x.Ok ∧ a.Ok → False ∧ True ∧ (x.len * (3 : Nat) ≤ x.len * (3 : Nat) ∧ x.len = x.len ∧ ∀ (j : Nat), j < x.len → x.what j = x.what j ∧
  x.id j = x.id j ∧ x.key j = x.key j ∧ True) ∧ True) ∧ ((v_4 != y.h.mi) = false → ((v_5 != y.h.mk_) = true → x.Ok ∧ a.Ok → False ∧ True ∧ (x.len * (3 : Nat) ≤ x.len * (3 : Nat) ∧ x.len = x.len ∧ ∀ (j : Nat), j < x.len →
  x.what j = x.what j ∧ x.id j = x.id j ∧ x.key j = x.key j ∧ True) ∧ True) ∧ ((v_5 != y.h.mk_) = false → (decide (y.h.n ≠ (0 : Nat)) = true → (((True ∧ True) ∧ True) ∧ ((65 : Nat) ≤ (65 : Nat) ∧ (True ∧ True ∧ (0 : Nat) =
  (0 : Nat) ∧ y.h.n = y.h.n ∧ y.h.cap = y.h.cap) ∧ ((64 : Nat) = (64 : Nat) ∧ ∀ (j : Nat), j < (64 : Nat) → y.h.at_ j = y.h.at_ j) ∧ True) ∧ (y.h.cap * (2 : Nat) ≤ y.h.cap * (2 : Nat) ∧ y.h.n = y.h.n ∧ ∀ (j : Nat), j <
  y.h.n → y.h.id j = y.h.id j ∧ y.h.key j = y.h.key j ∧ True) ∧ True) ∧ (((↑y.h.n : Int) != IntKind.i64.wrap (v_3 - (1 : Int))) = true → x.Ok ∧ a.Ok → False ∧ True ∧ (x.len * (3 : Nat) ≤ x.len * (3 : Nat) ∧ x.len = x.len ∧
  ∀ (j : Nat), j < x.len → x.what j = x.what j ∧ x.id j = x.id j ∧ x.key j = x.key j ∧ True) ∧ True) ∧ (((↑y.h.n : Int) != IntKind.i64.wrap (v_3 - (1 : Int))) = false → (oHas ((HP.mk y.h.n y.h.cap (fun (j : Nat) => y.h.id
  j) (fun (j : Nat) => y.h.key j) y.h.at_).M a.v) = true → ((oHas ((HP.mk y.h.n y.h.cap (fun (j : Nat) => y.h.id j) (fun (j : Nat) => y.h.key j) y.h.at_).M a.v) == true) = true → ((!oHas ((HP.mk y.h.n y.h.cap (fun (j :
  Nat) => y.h.id j) (fun (j : Nat) => y.h.key j) y.h.at_).M a.v)) = true → x.Ok ∧ a.Ok → True ∧ True ∧ (x.len * (3 : Nat) ≤ x.len * (3 : Nat) ∧ x.len = x.len ∧ ∀ (j : Nat), j < x.len → x.what j = x.what j ∧ x.id j = x.id j
  ∧ x.key j = x.key j ∧ True) ∧ True) ∧ ((!oHas ((HP.mk y.h.n y.h.cap (fun (j : Nat) => y.h.id j) (fun (j : Nat) => y.h.key j) y.h.at_).M a.v)) = false → x.Ok ∧ a.Ok → (v_6 == v) = true ∧ True ∧ (x.len * (3 : Nat) ≤ x.len
  * (3 : Nat) ∧ x.len = x.len ∧ ∀ (j : Nat), j < x.len → x.what j = x.what j ∧ x.id j = x.id j ∧ x.key j = x.key j ∧ True) ∧ True)) ∧ ((oHas ((HP.mk y.h.n y.h.cap (fun (j : Nat) => y.h.id j) (fun (j : Nat) => y.h.key j)
  y.h.at_).M a.v) == true) = false → x.Ok ∧ a.Ok → False ∧ True ∧ (x.len * (3 : Nat) ≤ x.len * (3 : Nat) ∧ x.len = x.len ∧ ∀ (j : Nat), j < x.len → x.what j = x.what j ∧ x.id j = x.id j ∧ x.key j = x.key j ∧ True) ∧ True))
  ∧ (oHas ((HP.mk y.h.n y.h.cap (fun (j : Nat) => y.h.id j) (fun (j : Nat) => y.h.key j) y.h.at_).M a.v) = false → (decide (y.h.n ≠ (0 : Nat)) = true → ((oHas ((HP.mk y.h.n y.h.cap (fun (j : Nat) => y.h.id j) (fun (j :
  Nat) => y.h.key j) y.h.at_).M a.v) == (y.h.mi == a.v)) = true → ((!oHas ((HP.mk y.h.n y.h.cap (fun (j : Nat) => y.h.id j) (fun (j : Nat) => y.h.key j) y.h.at_).M a.v)) = true → x.Ok ∧ a.Ok → True ∧ True ∧ (x.len * (3 :
  Nat) ≤ x.len * (3 : Nat) ∧ x.len = x.len ∧ ∀ (j : Nat), j < x.len → x.what j = x.what j ∧ x.id j = x.id j ∧ x.key j = x.key j ∧ True) ∧ True) ∧ ((!oHas ((HP.mk y.h.n y.h.cap (fun (j : Nat) => y.h.id j) (fun (j : Nat) =>
  y.h.key j) y.h.at_).M a.v)) = false → x.Ok ∧ a.Ok → (v_6 == v) = true ∧ True ∧ (x.len * (3 : Nat) ≤ x.len * (3 : Nat) ∧ x.len = x.len ∧ ∀ (j : Nat), j < x.len → x.what j = x.what j ∧ x.id j = x.id j ∧ x.key j = x.key j ∧
  True) ∧ True)) ∧ ((oHas ((HP.mk y.h.n y.h.cap (fun (j : Nat) => y.h.id j) (fun (j : Nat) => y.h.key j) y.h.at_).M a.v) == (y.h.mi == a.v)) = false → x.Ok ∧ a.Ok → False ∧ True ∧ (x.len * (3 : Nat) ≤ x.len * (3 : Nat) ∧
  x.len = x.len ∧ ∀ (j : Nat), j < x.len → x.what j = x.what j ∧ x.id j = x.id j ∧ x.key j = x.key j ∧ True) ∧ True)) ∧ (decide (y.h.n ≠ (0 : Nat)) = false → ((oHas ((HP.mk y.h.n y.h.cap (fun (j : Nat) => y.h.id j) (fun (j
  : Nat) => y.h.key j) y.h.at_).M a.v) == false) = true → ((!oHas ((HP.mk y.h.n y.h.cap (fun (j : Nat) => y.h.id j) (fun (j : Nat) => y.h.key j) y.h.at_).M a.v)) = true → x.Ok ∧ a.Ok → True ∧ True ∧ (x.len * (3 : Nat) ≤
  x.len * (3 : Nat) ∧ x.len = x.len ∧ ∀ (j : Nat), j < x.len → x.what j = x.what j ∧ x.id j = x.id j ∧ x.key j = x.key j ∧ True) ∧ True) ∧ ((!oHas ((HP.mk y.h.n y.h.cap (fun (j : Nat) => y.h.id j) (fun (j : Nat) => y.h.key
  j) y.h.at_).M a.v)) = false → x.Ok ∧ a.Ok → (v_6 == v) = true ∧ True ∧ (x.len * (3 : Nat) ≤ x.len * (3 : Nat) ∧ x.len = x.len ∧ ∀ (j : Nat), j < x.len → x.what j = x.what j ∧ x.id j = x.id j ∧ x.key j = x.key j ∧ True) ∧
  True)) ∧ ((oHas ((HP.mk y.h.n y.h.cap (fun (j : Nat) => y.h.id j) (fun (j : Nat) => y.h.key j) y.h.at_).M a.v) == false) = false → x.Ok ∧ a.Ok → False ∧ True ∧ (x.len * (3 : Nat) ≤ x.len * (3 : Nat) ∧ x.len = x.len ∧ ∀
  (j : Nat), j < x.len → x.what j = x.what j ∧ x.id j = x.id j ∧ x.key j = x.key j ∧ True) ∧ True))))) ∧ (decide (y.h.n ≠ (0 : Nat)) = false → (oHas ((HP.mk y.h.n y.h.cap (fun (j : Nat) => y.h.id j) (fun (j : Nat) =>
  y.h.key j) y.h.at_).M a.v) = true → ((oHas ((HP.mk y.h.n y.h.cap (fun (j : Nat) => y.h.id j) (fun (j : Nat) => y.h.key j) y.h.at_).M a.v) == true) = true → ((!oHas ((HP.mk y.h.n y.h.cap (fun (j : Nat) => y.h.id j) (fun
  (j : Nat) => y.h.key j) y.h.at_).M a.v)) = true → x.Ok ∧ a.Ok → True ∧ True ∧ (x.len * (3 : Nat) ≤ x.len * (3 : Nat) ∧ x.len = x.len ∧ ∀ (j : Nat), j < x.len → x.what j = x.what j ∧ x.id j = x.id j ∧ x.key j = x.key j ∧
  True) ∧ True) ∧ ((!oHas ((HP.mk y.h.n y.h.cap (fun (j : Nat) => y.h.id j) (fun (j : Nat) => y.h.key j) y.h.at_).M a.v)) = false → x.Ok ∧ a.Ok → (v_6 == v) = true ∧ True ∧ (x.len * (3 : Nat) ≤ x.len * (3 : Nat) ∧ x.len =
  x.len ∧ ∀ (j : Nat), j < x.len → x.what j = x.what j ∧ x.id j = x.id j ∧ x.key j = x.key j ∧ True) ∧ True)) ∧ ((oHas ((HP.mk y.h.n y.h.cap (fun (j : Nat) => y.h.id j) (fun (j : Nat) => y.h.key j) y.h.at_).M a.v) == true)
  = false → x.Ok ∧ a.Ok → False ∧ True ∧ (x.len * (3 : Nat) ≤ x.len * (3 : Nat) ∧ x.len = x.len ∧ ∀ (j : Nat), j < x.len → x.what j = x.what j ∧ x.id j = x.id j ∧ x.key j = x.key j ∧ True) ∧ True)) ∧ (oHas ((HP.mk y.h.n
  y.h.cap (fun (j : Nat) => y.h.id j) (fun (j : Nat) => y.h.key j) y.h.at_).M a.v) = false → (decide (y.h.n ≠ (0 : Nat)) = true → ((oHas ((HP.mk y.h.n y.h.cap (fun (j : Nat) => y.h.id j) (fun (j : Nat) => y.h.key j)
  y.h.at_).M a.v) == (y.h.mi == a.v)) = true → ((!oHas ((HP.mk y.h.n y.h.cap (fun (j : Nat) => y.h.id j) (fun (j : Nat) => y.h.key j) y.h.at_).M a.v)) = true → x.Ok ∧ a.Ok → True ∧ True ∧ (x.len * (3 : Nat) ≤ x.len * (3 :
  Nat) ∧ x.len = x.len ∧ ∀ (j : Nat), j < x.len → x.what j = x.what j ∧ x.id j = x.id j ∧ x.key j = x.key j ∧ True) ∧ True) ∧ ((!oHas ((HP.mk y.h.n y.h.cap (fun (j : Nat) => y.h.id j) (fun (j : Nat) => y.h.key j)
  y.h.at_).M a.v)) = false → x.Ok ∧ a.Ok → (v_6 == v) = true ∧ True ∧ (x.len * (3 : Nat) ≤ x.len * (3 : Nat) ∧ x.len = x.len ∧ ∀ (j : Nat), j < x.len → x.what j = x.what j ∧ x.id j = x.id j ∧ x.key j = x.key j ∧ True) ∧
  True)) ∧ ((oHas ((HP.mk y.h.n y.h.cap (fun (j : Nat) => y.h.id j) (fun (j : Nat) => y.h.key j) y.h.at_).M a.v) == (y.h.mi == a.v)) = false → x.Ok ∧ a.Ok → False ∧ True ∧ (x.len * (3 : Nat) ≤ x.len * (3 : Nat) ∧ x.len =
  x.len ∧ ∀ (j : Nat), j < x.len → x.what j = x.what j ∧ x.id j = x.id j ∧ x.key j = x.key j ∧ True) ∧ True)) ∧ (decide (y.h.n ≠ (0 : Nat)) = false → ((oHas ((HP.mk y.h.n y.h.cap (fun (j : Nat) => y.h.id j) (fun (j : Nat)
  => y.h.key j) y.h.at_).M a.v) == false) = true → ((!oHas ((HP.mk y.h.n y.h.cap (fun (j : Nat) => y.h.id j) (fun (j : Nat) => y.h.key j) y.h.at_).M a.v)) = true → x.Ok ∧ a.Ok → True ∧ True ∧ (x.len * (3 : Nat) ≤ x.len *
  (3 : Nat) ∧ x.len = x.len ∧ ∀ (j : Nat), j < x.len → x.what j = x.what j ∧ x.id j = x.id j ∧ x.key j = x.key j ∧ True) ∧ True) ∧ ((!oHas ((HP.mk y.h.n y.h.cap (fun (j : Nat) => y.h.id j) (fun (j : Nat) => y.h.key j)
  y.h.at_).M a.v)) = false → x.Ok ∧ a.Ok → (v_6 == v) = true ∧ True ∧ (x.len * (3 : Nat) ≤ x.len * (3 : Nat) ∧ x.len = x.len ∧ ∀ (j : Nat), j < x.len → x.what j = x.what j ∧ x.id j = x.id j ∧ x.key j = x.key j ∧ True) ∧
  True)) ∧ ((oHas ((HP.mk y.h.n y.h.cap (fun (j : Nat) => y.h.id j) (fun (j : Nat) => y.h.key j) y.h.at_).M a.v) == false) = false → x.Ok ∧ a.Ok → False ∧ True ∧ (x.len * (3 : Nat) ≤ x.len * (3 : Nat) ∧ x.len = x.len ∧ ∀
  (j : Nat), j < x.len → x.what j = x.what j ∧ x.id j = x.id j ∧ x.key j = x.key j ∧ True) ∧ True)))))))) ∧ (¬y.h.n = (0 : Nat) → ∀ (x_1 : HP), (x_1.Full ∧ (x_1.n = y.h.n - (1 : Nat) ∧ x_1.cap = y.h.cap) ∧ ∀ (i : Int),
  x_1.M i = if i = y.h.id (0 : Nat) then none else (HP.mk y.h.n y.h.cap (fun (j : Nat) => y.h.id j) (fun (j : Nat) => y.h.key j) y.h.at_).M i) → ∀ (v_4 : Int), v_4 = y.h.id (0 : Nat) → ∀ (v_5 : Int), v_5 = y.h.key (0 :
  Nat) → (((True ∧ True) ∧ a.v = a.v ∧ True) ∧ ((65 : Nat) ≤ (65 : Nat) ∧ (True ∧ True ∧ (0 : Nat) = (0 : Nat) ∧ x_1.n = x_1.n ∧ x_1.cap = x_1.cap) ∧ ((64 : Nat) = (64 : Nat) ∧ ∀ (j : Nat), j < (64 : Nat) → x_1.at_ j =
  x_1.at_ j) ∧ True) ∧ (x_1.cap * (2 : Nat) ≤ y.h.cap * (2 : Nat) ∧ x_1.n = x_1.n ∧ ∀ (j : Nat), j < x_1.n → x_1.id j = x_1.id j ∧ x_1.key j = x_1.key j ∧ True) ∧ True) ∧ ((HP.mk x_1.n x_1.cap (fun (j : Nat) => x_1.id j)
  (fun (j : Nat) => x_1.key j) x_1.at_).Full ∧ x_1.n ≤ (100000 : Nat)) ∧ ∀ (v_6 : Int), v_6 = oVal ((HP.mk x_1.n x_1.cap (fun (j : Nat) => x_1.id j) (fun (j : Nat) => x_1.key j) x_1.at_).M a.v) → ((!true == decide (y.h.n ≠
  (0 : Nat))) = true → x.Ok ∧ a.Ok → False ∧ True ∧ (x.len * (3 : Nat) ≤ x.len * (3 : Nat) ∧ x.len = x.len ∧ ∀ (j : Nat), j < x.len → x.what j = x.what j ∧ x.id j = x.id j ∧ x.key j = x.key j ∧ True) ∧ True) ∧ ((!true ==
  decide (y.h.n ≠ (0 : Nat))) = false → ((v_4 != y.h.mi) = true → x.Ok ∧ a.Ok → False ∧ True ∧ (x.len * (3 : Nat) ≤ x.len * (3 : Nat) ∧ x.len = x.len ∧ ∀ (j : Nat), j < x.len → x.what j = x.what j ∧ x.id j = x.id j ∧ x.key
  j = x.key j ∧ True) ∧ True) ∧ ((v_4 != y.h.mi) = false → ((v_5 != y.h.mk_) = true → x.Ok ∧ a.Ok → False ∧ True ∧ (x.len * (3 : Nat) ≤ x.len * (3 : Nat) ∧ x.len = x.len ∧ ∀ (j : Nat), j < x.len → x.what j = x.what j ∧
  x.id j = x.id j ∧ x.key j = x.key j ∧ True) ∧ True) ∧ ((v_5 != y.h.mk_) = false → (decide (y.h.n ≠ (0 : Nat)) = true → (((True ∧ True) ∧ True) ∧ ((65 : Nat) ≤ (65 : Nat) ∧ (True ∧ True ∧ (0 : Nat) = (0 : Nat) ∧ x_1.n =
  x_1.n ∧ x_1.cap = x_1.cap) ∧ ((64 : Nat) = (64 : Nat) ∧ ∀ (j : Nat), j < (64 : Nat) → x_1.at_ j = x_1.at_ j) ∧ True) ∧ (x_1.cap * (2 : Nat) ≤ y.h.cap * (2 : Nat) ∧ x_1.n = x_1.n ∧ ∀ (j : Nat), j < x_1.n → x_1.id j =
  x_1.id j ∧ x_1.key j = x_1.key j ∧ True) ∧ True) ∧ (((↑x_1.n : Int) != IntKind.i64.wrap (v_3 - (1 : Int))) = true → x.Ok ∧ a.Ok → False ∧ True ∧ (x.len * (3 : Nat) ≤ x.len * (3 : Nat) ∧ x.len = x.len ∧ ∀ (j : Nat), j <
  x.len → x.what j = x.what j ∧ x.id j = x.id j ∧ x.key j = x.key j ∧ True) ∧ True) ∧ (((↑x_1.n : Int) != IntKind.i64.wrap (v_3 - (1 : Int))) = false → (oHas ((HP.mk x_1.n x_1.cap (fun (j : Nat) => x_1.id j) (fun (j : Nat)
  => x_1.key j) x_1.at_).M a.v) = true → ((oHas ((HP.mk y.h.n y.h.cap (fun (j : Nat) => y.h.id j) (fun (j : Nat) => y.h.key j) y.h.at_).M a.v) == true) = true → ((!oHas ((HP.mk x_1.n x_1.cap (fun (j : Nat) => x_1.id j)
  (fun (j : Nat) => x_1.key j) x_1.at_).M a.v)) = true → x.Ok ∧ a.Ok → True ∧ True ∧ (x.len * (3 : Nat) ≤ x.len * (3 : Nat) ∧ x.len = x.len ∧ ∀ (j : Nat), j < x.len → x.what j = x.what j ∧ x.id j = x.id j ∧ x.key j = x.key
  j ∧ True) ∧ True) ∧ ((!oHas ((HP.mk x_1.n x_1.cap (fun (j : Nat) => x_1.id j) (fun (j : Nat) => x_1.key j) x_1.at_).M a.v)) = false → x.Ok ∧ a.Ok → (v_6 == v) = true ∧ True ∧ (x.len * (3 : Nat) ≤ x.len * (3 : Nat) ∧
  x.len = x.len ∧ ∀ (j : Nat), j < x.len → x.what j = x.what j ∧ x.id j = x.id j ∧ x.key j = x.key j ∧ True) ∧ True)) ∧ ((oHas ((HP.mk y.h.n y.h.cap (fun (j : Nat) => y.h.id j) (fun (j : Nat) => y.h.key j) y.h.at_).M a.v)
  == true) = false → x.Ok ∧ a.Ok → False ∧ True ∧ (x.len * (3 : Nat) ≤ x.len * (3 : Nat) ∧ x.len = x.len ∧ ∀ (j : Nat), j < x.len → x.what j = x.what j ∧ x.id j = x.id j ∧ x.key j = x.key j ∧ True) ∧ True)) ∧ (oHas ((HP.mk
  x_1.n x_1.cap (fun (j : Nat) => x_1.id j) (fun (j : Nat) => x_1.key j) x_1.at_).M a.v) = false → (decide (y.h.n ≠ (0 : Nat)) = true → ((oHas ((HP.mk y.h.n y.h.cap (fun (j : Nat) => y.h.id j) (fun (j : Nat) => y.h.key j)
  y.h.at_).M a.v) == (y.h.mi == a.v)) = true → ((!oHas ((HP.mk x_1.n x_1.cap (fun (j : Nat) => x_1.id j) (fun (j : Nat) => x_1.key j) x_1.at_).M a.v)) = true → x.Ok ∧ a.Ok → True ∧ True ∧ (x.len * (3 : Nat) ≤ x.len * (3 :
  Nat) ∧ x.len = x.len ∧ ∀ (j : Nat), j < x.len → x.what j = x.what j ∧ x.id j = x.id j ∧ x.key j = x.key j ∧ True) ∧ True) ∧ ((!oHas ((HP.mk x_1.n x_1.cap (fun (j : Nat) => x_1.id j) (fun (j : Nat) => x_1.key j)
  x_1.at_).M a.v)) = false → x.Ok ∧ a.Ok → (v_6 == v) = true ∧ True ∧ (x.len * (3 : Nat) ≤ x.len * (3 : Nat) ∧ x.len = x.len ∧ ∀ (j : Nat), j < x.len → x.what j = x.what j ∧ x.id j = x.id j ∧ x.key j = x.key j ∧ True) ∧
  True)) ∧ ((oHas ((HP.mk y.h.n y.h.cap (fun (j : Nat) => y.h.id j) (fun (j : Nat) => y.h.key j) y.h.at_).M a.v) == (y.h.mi == a.v)) = false → x.Ok ∧ a.Ok → False ∧ True ∧ (x.len * (3 : Nat) ≤ x.len * (3 : Nat) ∧ x.len =
  x.len ∧ ∀ (j : Nat), j < x.len → x.what j = x.what j ∧ x.id j = x.id j ∧ x.key j = x.key j ∧ True) ∧ True)) ∧ (decide (y.h.n ≠ (0 : Nat)) = false → ((oHas ((HP.mk y.h.n y.h.cap (fun (j : Nat) => y.h.id j) (fun (j : Nat)
  => y.h.key j) y.h.at_).M a.v) == false) = true → ((!oHas ((HP.mk x_1.n x_1.cap (fun (j : Nat) => x_1.id j) (fun (j : Nat) => x_1.key j) x_1.at_).M a.v)) = true → x.Ok ∧ a.Ok → True ∧ True ∧ (x.len * (3 : Nat) ≤ x.len *
  (3 : Nat) ∧ x.len = x.len ∧ ∀ (j : Nat), j < x.len → x.what j = x.what j ∧ x.id j = x.id j ∧ x.key j = x.key j ∧ True) ∧ True) ∧ ((!oHas ((HP.mk x_1.n x_1.cap (fun (j : Nat) => x_1.id j) (fun (j : Nat) => x_1.key j)
  x_1.at_).M a.v)) = false → x.Ok ∧ a.Ok → (v_6 == v) = true ∧ True ∧ (x.len * (3 : Nat) ≤ x.len * (3 : Nat) ∧ x.len = x.len ∧ ∀ (j : Nat), j < x.len → x.what j = x.what j ∧ x.id j = x.id j ∧ x.key j = x.key j ∧ True) ∧
  True)) ∧ ((oHas ((HP.mk y.h.n y.h.cap (fun (j : Nat) => y.h.id j) (fun (j : Nat) => y.h.key j) y.h.at_).M a.v) == false) = false → x.Ok ∧ a.Ok → False ∧ True ∧ (x.len * (3 : Nat) ≤ x.len * (3 : Nat) ∧ x.len = x.len ∧ ∀
  (j : Nat), j < x.len → x.what j = x.what j ∧ x.id j = x.id j ∧ x.key j = x.key j ∧ True) ∧ True))))) ∧ (decide (y.h.n ≠ (0 : Nat)) = false → (oHas ((HP.mk x_1.n x_1.cap (fun (j : Nat) => x_1.id j) (fun (j : Nat) =>
  x_1.key j) x_1.at_).M a.v) = true → ((oHas ((HP.mk y.h.n y.h.cap (fun (j : Nat) => y.h.id j) (fun (j : Nat) => y.h.key j) y.h.at_).M a.v) == true) = true → ((!oHas ((HP.mk x_1.n x_1.cap (fun (j : Nat) => x_1.id j) (fun
  (j : Nat) => x_1.key j) x_1.at_).M a.v)) = true → x.Ok ∧ a.Ok → True ∧ True ∧ (x.len * (3 : Nat) ≤ x.len * (3 : Nat) ∧ x.len = x.len ∧ ∀ (j : Nat), j < x.len → x.what j = x.what j ∧ x.id j = x.id j ∧ x.key j = x.key j ∧
  True) ∧ True) ∧ ((!oHas ((HP.mk x_1.n x_1.cap (fun (j : Nat) => x_1.id j) (fun (j : Nat) => x_1.key j) x_1.at_).M a.v)) = false → x.Ok ∧ a.Ok → (v_6 == v) = true ∧ True ∧ (x.len * (3 : Nat) ≤ x.len * (3 : Nat) ∧ x.len =
  x.len ∧ ∀ (j : Nat), j < x.len → x.what j = x.what j ∧ x.id j = x.id j ∧ x.key j = x.key j ∧ True) ∧ True)) ∧ ((oHas ((HP.mk y.h.n y.h.cap (fun (j : Nat) => y.h.id j) (fun (j : Nat) => y.h.key j) y.h.at_).M a.v) == true)
  = false → x.Ok ∧ a.Ok → False ∧ True ∧ (x.len * (3 : Nat) ≤ x.len * (3 : Nat) ∧ x.len = x.len ∧ ∀ (j : Nat), j < x.len → x.what j = x.what j ∧ x.id j = x.id j ∧ x.key j = x.key j ∧ True) ∧ True)) ∧ (oHas ((HP.mk x_1.n
  x_1.cap (fun (j : Nat) => x_1.id j) (fun (j : Nat) => x_1.key j) x_1.at_).M a.v) = false → (decide (y.h.n ≠ (0 : Nat)) = true → ((oHas ((HP.mk y.h.n y.h.cap (fun (j : Nat) => y.h.id j) (fun (j : Nat) => y.h.key j)
  y.h.at_).M a.v) == (y.h.mi == a.v)) = true → ((!oHas ((HP.mk x_1.n x_1.cap (fun (j : Nat) => x_1.id j) (fun (j : Nat) => x_1.key j) x_1.at_).M a.v)) = true → x.Ok ∧ a.Ok → True ∧ True ∧ (x.len * (3 : Nat) ≤ x.len * (3 :
  Nat) ∧ x.len = x.len ∧ ∀ (j : Nat), j < x.len → x.what j = x.what j ∧ x.id j = x.id j ∧ x.key j = x.key j ∧ True) ∧ True) ∧ ((!oHas ((HP.mk x_1.n x_1.cap (fun (j : Nat) => x_1.id j) (fun (j : Nat) => x_1.key j)
  x_1.at_).M a.v)) = false → x.Ok ∧ a.Ok → (v_6 == v) = true ∧ True ∧ (x.len * (3 : Nat) ≤ x.len * (3 : Nat) ∧ x.len = x.len ∧ ∀ (j : Nat), j < x.len → x.what j = x.what j ∧ x.id j = x.id j ∧ x.key j = x.key j ∧ True) ∧
  True)) ∧ ((oHas ((HP.mk y.h.n y.h.cap (fun (j : Nat) => y.h.id j) (fun (j : Nat) => y.h.key j) y.h.at_).M a.v) == (y.h.mi == a.v)) = false → x.Ok ∧ a.Ok → False ∧ True ∧ (x.len * (3 : Nat) ≤ x.len * (3 : Nat) ∧ x.len =
  x.len ∧ ∀ (j : Nat), j < x.len → x.what j = x.what j ∧ x.id j = x.id j ∧ x.key j = x.key j ∧ True) ∧ True)) ∧ (decide (y.h.n ≠ (0 : Nat)) = false → ((oHas ((HP.mk y.h.n y.h.cap (fun (j : Nat) => y.h.id j) (fun (j : Nat)
  => y.h.key j) y.h.at_).M a.v) == false) = true → ((!oHas ((HP.mk x_1.n x_1.cap (fun (j : Nat) => x_1.id j) (fun (j : Nat) => x_1.key j) x_1.at_).M a.v)) = true → x.Ok ∧ a.Ok → True ∧ True ∧ (x.len * (3 : Nat) ≤ x.len *
  (3 : Nat) ∧ x.len = x.len ∧ ∀ (j : Nat), j < x.len → x.what j = x.what j ∧ x.id j = x.id j ∧ x.key j = x.key j ∧ True) ∧ True) ∧ ((!oHas ((HP.mk x_1.n x_1.cap (fun (j : Nat) => x_1.id j) (fun (j : Nat) => x_1.key j)
  x_1.at_).M a.v)) = false → x.Ok ∧ a.Ok → (v_6 == v) = true ∧ True ∧ (x.len * (3 : Nat) ≤ x.len * (3 : Nat) ∧ x.len = x.len ∧ ∀ (j : Nat), j < x.len → x.what j = x.what j ∧ x.id j = x.id j ∧ x.key j = x.key j ∧ True) ∧
  True)) ∧ ((oHas ((HP.mk y.h.n y.h.cap (fun (j : Nat) => y.h.id j) (fun (j : Nat) => y.h.key j) y.h.at_).M a.v) == false) = false → x.Ok ∧ a.Ok → False ∧ True ∧ (x.len * (3 : Nat) ≤ x.len * (3 : Nat) ∧ x.len = x.len ∧ ∀
  (j : Nat), j < x.len → x.what j = x.what j ∧ x.id j = x.id j ∧ x.key j = x.key j ∧ True) ∧ True))))))))))) ∧ ∀ (y : SA), (y.i ≤ x.len ∧ x.len ≤ (200 : Nat)) ∧ y.h.Full ∧ y.h.n ≤ y.i → (x.nil = true → x.len = (0 : Nat)) ∧
  (decide ((↑y.i : Int) < (↑x.len : Int)) = true → ∃ (g : Nat), ((x.nil = true → x.len = (0 : Nat)) ∧ ((0 : Int) ≤ (↑y.i : Int) ∧ (↑y.i : Int) < (↑x.len : Int)) ∧ (0 : Nat) + (↑y.i : Int).toNat < x.len ∧ ((x.what ((0 :
  Nat) + (↑y.i : Int).toNat) == (0 : Int)) = true → (x.nil = true → x.len = (0 : Nat)) ∧ ((0 : Int) ≤ (↑y.i : Int) ∧ (↑y.i : Int) < (↑x.len : Int)) ∧ (0 : Nat) + (↑y.i : Int).toNat < x.len ∧ (x.nil = true → x.len = (0 :
  Nat)) ∧ ((0 : Int) ≤ (↑y.i : Int) ∧ (↑y.i : Int) < (↑x.len : Int)) ∧ (0 : Nat) + (↑y.i : Int).toNat < x.len ∧ (((True ∧ True) ∧ x.id ((0 : Nat) + (↑y.i : Int).toNat) = x.id ((0 : Nat) + (↑y.i : Int).toNat) ∧ x.key ((0 :
  Nat) + (↑y.i : Int).toNat) = x.key ((0 : Nat) + (↑y.i : Int).toNat) ∧ True) ∧ ((65 : Nat) ≤ (65 : Nat) ∧ (True ∧ True ∧ (0 : Nat) = (0 : Nat) ∧ y.h.n = y.h.n ∧ y.h.cap = y.h.cap) ∧ ((64 : Nat) = (64 : Nat) ∧ ∀ (j : Nat),
  j < (64 : Nat) → y.h.at_ j = y.h.at_ j) ∧ True) ∧ (y.h.cap * (2 : Nat) ≤ y.h.cap * (2 : Nat) ∧ y.h.n = y.h.n ∧ ∀ (j : Nat), j < y.h.n → y.h.id j = y.h.id j ∧ y.h.key j = y.h.key j ∧ True) ∧ True) ∧ (((HP.mk y.h.n y.h.cap
  (fun (j : Nat) => y.h.id j) (fun (j : Nat) => y.h.key j) y.h.at_).Full ∧ y.h.n ≤ (10000 : Nat)) ∧ (0 : Int) ≤ x.key ((0 : Nat) + (↑y.i : Int).toNat) ∧ x.key ((0 : Nat) + (↑y.i : Int).toNat) < (18446744073709551616 :
  Int)) ∧ (¬((0 : Int) ≤ x.id ((0 : Nat) + (↑y.i : Int).toNat) ∧ x.id ((0 : Nat) + (↑y.i : Int).toNat) < (64 : Int)) → (∃ (y_1 : Bool), (mC0 x a.v g).I y_1 ∧ ((((x.nil = true → x.nil = true) ∧ (x.nil = false → x.nil =
  false ∧ True ∧ True ∧ (0 : Nat) = (0 : Nat) ∧ x.len = x.len ∧ x.cap = x.cap)) ∧ a.v = a.v ∧ (True ∧ True) ∧ (↑y.i : Int) = (↑g : Int) ∧ True) ∧ (x.len * (3 : Nat) ≤ x.len * (3 : Nat) ∧ x.len = x.len ∧ ∀ (j : Nat), j <
  x.len → x.what j = x.what j ∧ x.id j = x.id j ∧ x.key j = x.key j ∧ True) ∧ ((65 : Nat) ≤ (65 : Nat) ∧ False ∧ ((64 : Nat) = (64 : Nat) ∧ ∀ (j : Nat), j < (64 : Nat) → y.h.at_ j = a0 j) ∧ True) ∧ True) ∧ True) ∨ ∃ (y_1 :
  HP), (g < x.len ∧ y_1.Full ∧ y_1.n ≤ g + (1 : Nat)) ∧ ((((x.nil = true → x.nil = true) ∧ (x.nil = false → x.nil = false ∧ True ∧ True ∧ (0 : Nat) = (0 : Nat) ∧ x.len = x.len ∧ x.cap = x.cap)) ∧ a.v = a.v ∧ (True ∧ True)
  ∧ (↑y.i : Int) = (↑g : Int) ∧ True) ∧ (x.len * (3 : Nat) ≤ x.len * (3 : Nat) ∧ x.len = x.len ∧ ∀ (j : Nat), j < x.len → x.what j = x.what j ∧ x.id j = x.id j ∧ x.key j = x.key j ∧ True) ∧ ((65 : Nat) ≤ (65 : Nat) ∧ (True
  ∧ True ∧ (0 : Nat) = (0 : Nat) ∧ y.h.n = y_1.n ∧ y.h.cap = y_1.cap) ∧ ((64 : Nat) = (64 : Nat) ∧ ∀ (j : Nat), j < (64 : Nat) → y.h.at_ j = y_1.at_ j) ∧ True) ∧ (y_1.cap * (2 : Nat) ≤ y.h.cap * (2 : Nat) ∧ y_1.n ≤ y.h.n ∧
  ∀ (j : Nat), j < y_1.n → y.h.id j = y_1.id j ∧ y.h.key j = y_1.key j ∧ True) ∧ True) ∧ True) ∧ (¬¬((0 : Int) ≤ x.id ((0 : Nat) + (↑y.i : Int).toNat) ∧ x.id ((0 : Nat) + (↑y.i : Int).toNat) < (64 : Int)) → ((HP.mk y.h.n
  y.h.cap (fun (j : Nat) => y.h.id j) (fun (j : Nat) => y.h.key j) y.h.at_).M (x.id ((0 : Nat) + (↑y.i : Int).toNat)) ≠ none → (∃ (y_1 : Bool), (mC0 x a.v g).I y_1 ∧ ((((x.nil = true → x.nil = true) ∧ (x.nil = false →
  x.nil = false ∧ True ∧ True ∧ (0 : Nat) = (0 : Nat) ∧ x.len = x.len ∧ x.cap = x.cap)) ∧ a.v = a.v ∧ (True ∧ True) ∧ (↑y.i : Int) = (↑g : Int) ∧ True) ∧ (x.len * (3 : Nat) ≤ x.len * (3 : Nat) ∧ x.len = x.len ∧ ∀ (j :
  Nat), j < x.len → x.what j = x.what j ∧ x.id j = x.id j ∧ x.key j = x.key j ∧ True) ∧ ((65 : Nat) ≤ (65 : Nat) ∧ False ∧ ((64 : Nat) = (64 : Nat) ∧ ∀ (j : Nat), j < (64 : Nat) → y.h.at_ j = a0 j) ∧ True) ∧ True) ∧ True)
  ∨ ∃ (y_1 : HP), (g < x.len ∧ y_1.Full ∧ y_1.n ≤ g + (1 : Nat)) ∧ ((((x.nil = true → x.nil = true) ∧ (x.nil = false → x.nil = false ∧ True ∧ True ∧ (0 : Nat) = (0 : Nat) ∧ x.len = x.len ∧ x.cap = x.cap)) ∧ a.v = a.v ∧
  (True ∧ True) ∧ (↑y.i : Int) = (↑g : Int) ∧ True) ∧ (x.len * (3 : Nat) ≤ x.len * (3 : Nat) ∧ x.len = x.len ∧ ∀ (j : Nat), j < x.len → x.what j = x.what j ∧ x.id j = x.id j ∧ x.key j = x.key j ∧ True) ∧ ((65 : Nat) ≤ (65
  : Nat) ∧ (True ∧ True ∧ (0 : Nat) = (0 : Nat) ∧ y.h.n = y_1.n ∧ y.h.cap = y_1.cap) ∧ ((64 : Nat) = (64 : Nat) ∧ ∀ (j : Nat), j < (64 : Nat) → y.h.at_ j = y_1.at_ j) ∧ True) ∧ (y_1.cap * (2 : Nat) ≤ y.h.cap * (2 : Nat) ∧
  y_1.n ≤ y.h.n ∧ ∀ (j : Nat), j < y_1.n → y.h.id j = y_1.id j ∧ y.h.key j = y_1.key j ∧ True) ∧ True) ∧ True) ∧ (¬(HP.mk y.h.n y.h.cap (fun (j : Nat) => y.h.id j) (fun (j : Nat) => y.h.key j) y.h.at_).M (x.id ((0 : Nat) +
  (↑y.i : Int).toNat)) ≠ none → ∀ (x_1 : HP), (x_1.Full ∧ x_1.n = y.h.n + (1 : Nat) ∧ ∀ (i : Int), x_1.M i = if i = x.id ((0 : Nat) + (↑y.i : Int).toNat) then some (x.key ((0 : Nat) + (↑y.i : Int).toNat)) else (HP.mk y.h.n
  y.h.cap (fun (j : Nat) => y.h.id j) (fun (j : Nat) => y.h.key j) y.h.at_).M i) → (∃ (y_1 : Bool), (mC0 x a.v g).I y_1 ∧ ((((x.nil = true → x.nil = true) ∧ (x.nil = false → x.nil = false ∧ True ∧ True ∧ (0 : Nat) = (0 :
  Nat) ∧ x.len = x.len ∧ x.cap = x.cap)) ∧ a.v = a.v ∧ (True ∧ True) ∧ (↑y.i : Int) = (↑g : Int) ∧ True) ∧ (x.len * (3 : Nat) ≤ x.len * (3 : Nat) ∧ x.len = x.len ∧ ∀ (j : Nat), j < x.len → x.what j = x.what j ∧ x.id j =
  x.id j ∧ x.key j = x.key j ∧ True) ∧ ((65 : Nat) ≤ (65 : Nat) ∧ False ∧ ((64 : Nat) = (64 : Nat) ∧ ∀ (j : Nat), j < (64 : Nat) → x_1.at_ j = a0 j) ∧ True) ∧ True) ∧ True) ∨ ∃ (y_1 : HP), (g < x.len ∧ y_1.Full ∧ y_1.n ≤ g
  + (1 : Nat)) ∧ ((((x.nil = true → x.nil = true) ∧ (x.nil = false → x.nil = false ∧ True ∧ True ∧ (0 : Nat) = (0 : Nat) ∧ x.len = x.len ∧ x.cap = x.cap)) ∧ a.v = a.v ∧ (True ∧ True) ∧ (↑y.i : Int) = (↑g : Int) ∧ True) ∧
  (x.len * (3 : Nat) ≤ x.len * (3 : Nat) ∧ x.len = x.len ∧ ∀ (j : Nat), j < x.len → x.what j = x.what j ∧ x.id j = x.id j ∧ x.key j = x.key j ∧ True) ∧ ((65 : Nat) ≤ (65 : Nat) ∧ (True ∧ True ∧ (0 : Nat) = (0 : Nat) ∧
  x_1.n = y_1.n ∧ x_1.cap = y_1.cap) ∧ ((64 : Nat) = (64 : Nat) ∧ ∀ (j : Nat), j < (64 : Nat) → x_1.at_ j = y_1.at_ j) ∧ True) ∧ (y_1.cap * (2 : Nat) ≤ x_1.cap * (2 : Nat) ∧ y_1.n ≤ x_1.n ∧ ∀ (j : Nat), j < y_1.n → x_1.id
  j = y_1.id j ∧ x_1.key j = y_1.key j ∧ True) ∧ True) ∧ True))) ∧ ((x.what ((0 : Nat) + (↑y.i : Int).toNat) == (0 : Int)) = false → ((x.what ((0 : Nat) + (↑y.i : Int).toNat) == (1 : Int)) = true → (((True ∧ True) ∧ True)
  ∧ ((65 : Nat) ≤ (65 : Nat) ∧ (True ∧ True ∧ (0 : Nat) = (0 : Nat) ∧ y.h.n = y.h.n ∧ y.h.cap = y.h.cap) ∧ ((64 : Nat) = (64 : Nat) ∧ ∀ (j : Nat), j < (64 : Nat) → y.h.at_ j = y.h.at_ j) ∧ True) ∧ (y.h.cap * (2 : Nat) ≤
  y.h.cap * (2 : Nat) ∧ y.h.n = y.h.n ∧ ∀ (j : Nat), j < y.h.n → y.h.id j = y.h.id j ∧ y.h.key j = y.h.key j ∧ True) ∧ True) ∧ ((HP.mk y.h.n y.h.cap (fun (j : Nat) => y.h.id j) (fun (j : Nat) => y.h.key j) y.h.at_).Full ∧
  y.h.n ≤ (10000 : Nat)) ∧ (y.h.n = (0 : Nat) → (∃ (y_1 : Bool), (mC0 x a.v g).I y_1 ∧ ((((x.nil = true → x.nil = true) ∧ (x.nil = false → x.nil = false ∧ True ∧ True ∧ (0 : Nat) = (0 : Nat) ∧ x.len = x.len ∧ x.cap =
  x.cap)) ∧ a.v = a.v ∧ (True ∧ True) ∧ (↑y.i : Int) = (↑g : Int) ∧ True) ∧ (x.len * (3 : Nat) ≤ x.len * (3 : Nat) ∧ x.len = x.len ∧ ∀ (j : Nat), j < x.len → x.what j = x.what j ∧ x.id j = x.id j ∧ x.key j = x.key j ∧
  True) ∧ ((65 : Nat) ≤ (65 : Nat) ∧ False ∧ ((64 : Nat) = (64 : Nat) ∧ ∀ (j : Nat), j < (64 : Nat) → y.h.at_ j = a0 j) ∧ True) ∧ True) ∧ True) ∨ ∃ (y_1 : HP), (g < x.len ∧ y_1.Full ∧ y_1.n ≤ g + (1 : Nat)) ∧ ((((x.nil =
  true → x.nil = true) ∧ (x.nil = false → x.nil = false ∧ True ∧ True ∧ (0 : Nat) = (0 : Nat) ∧ x.len = x.len ∧ x.cap = x.cap)) ∧ a.v = a.v ∧ (True ∧ True) ∧ (↑y.i : Int) = (↑g : Int) ∧ True) ∧ (x.len * (3 : Nat) ≤ x.len *
  (3 : Nat) ∧ x.len = x.len ∧ ∀ (j : Nat), j < x.len → x.what j = x.what j ∧ x.id j = x.id j ∧ x.key j = x.key j ∧ True) ∧ ((65 : Nat) ≤ (65 : Nat) ∧ (True ∧ True ∧ (0 : Nat) = (0 : Nat) ∧ y.h.n = y_1.n ∧ y.h.cap =
  y_1.cap) ∧ ((64 : Nat) = (64 : Nat) ∧ ∀ (j : Nat), j < (64 : Nat) → y.h.at_ j = y_1.at_ j) ∧ True) ∧ (y_1.cap * (2 : Nat) ≤ y.h.cap * (2 : Nat) ∧ y_1.n ≤ y.h.n ∧ ∀ (j : Nat), j < y_1.n → y.h.id j = y_1.id j ∧ y.h.key j =
  y_1.key j ∧ True) ∧ True) ∧ True) ∧ (¬y.h.n = (0 : Nat) → ∀ (x_1 : HP), (x_1.Full ∧ (x_1.n = y.h.n - (1 : Nat) ∧ x_1.cap = y.h.cap) ∧ ∀ (i : Int), x_1.M i = if i = y.h.id (0 : Nat) then none else (HP.mk y.h.n y.h.cap
  (fun (j : Nat) => y.h.id j) (fun (j : Nat) => y.h.key j) y.h.at_).M i) → (∃ (y_1 : Bool), (mC0 x a.v g).I y_1 ∧ ((((x.nil = true → x.nil = true) ∧ (x.nil = false → x.nil = false ∧ True ∧ True ∧ (0 : Nat) = (0 : Nat) ∧
  x.len = x.len ∧ x.cap = x.cap)) ∧ a.v = a.v ∧ (True ∧ True) ∧ (↑y.i : Int) = (↑g : Int) ∧ True) ∧ (x.len * (3 : Nat) ≤ x.len * (3 : Nat) ∧ x.len = x.len ∧ ∀ (j : Nat), j < x.len → x.what j = x.what j ∧ x.id j = x.id j ∧
  x.key j = x.key j ∧ True) ∧ ((65 : Nat) ≤ (65 : Nat) ∧ False ∧ ((64 : Nat) = (64 : Nat) ∧ ∀ (j : Nat), j < (64 : Nat) → x_1.at_ j = a0 j) ∧ True) ∧ True) ∧ True) ∨ ∃ (y_1 : HP), (g < x.len ∧ y_1.Full ∧ y_1.n ≤ g + (1 :
  Nat)) ∧ ((((x.nil = true → x.nil = true) ∧ (x.nil = false → x.nil = false ∧ True ∧ True ∧ (0 : Nat) = (0 : Nat) ∧ x.len = x.len ∧ x.cap = x.cap)) ∧ a.v = a.v ∧ (True ∧ True) ∧ (↑y.i : Int) = (↑g : Int) ∧ True) ∧ (x.len *
  (3 : Nat) ≤ x.len * (3 : Nat) ∧ x.len = x.len ∧ ∀ (j : Nat), j < x.len → x.what j = x.what j ∧ x.id j = x.id j ∧ x.key j = x.key j ∧ True) ∧ ((65 : Nat) ≤ (65 : Nat) ∧ (True ∧ True ∧ (0 : Nat) = (0 : Nat) ∧ x_1.n = y_1.n
  ∧ x_1.cap = y_1.cap) ∧ ((64 : Nat) = (64 : Nat) ∧ ∀ (j : Nat), j < (64 : Nat) → x_1.at_ j = y_1.at_ j) ∧ True) ∧ (y_1.cap * (2 : Nat) ≤ y.h.cap * (2 : Nat) ∧ y_1.n ≤ x_1.n ∧ ∀ (j : Nat), j < y_1.n → x_1.id j = y_1.id j ∧
  x_1.key j = y_1.key j ∧ True) ∧ True) ∧ True)) ∧ ((x.what ((0 : Nat) + (↑y.i : Int).toNat) == (1 : Int)) = false → ((x.what ((0 : Nat) + (↑y.i : Int).toNat) == (2 : Int)) = true → (x.nil = true → x.len = (0 : Nat)) ∧ ((0
  : Int) ≤ (↑y.i : Int) ∧ (↑y.i : Int) < (↑x.len : Int)) ∧ (0 : Nat) + (↑y.i : Int).toNat < x.len ∧ (((True ∧ True) ∧ x.id ((0 : Nat) + (↑y.i : Int).toNat) = x.id ((0 : Nat) + (↑y.i : Int).toNat) ∧ True) ∧ ((65 : Nat) ≤
  (65 : Nat) ∧ (True ∧ True ∧ (0 : Nat) = (0 : Nat) ∧ y.h.n = y.h.n ∧ y.h.cap = y.h.cap) ∧ ((64 : Nat) = (64 : Nat) ∧ ∀ (j : Nat), j < (64 : Nat) → y.h.at_ j = y.h.at_ j) ∧ True) ∧ (y.h.cap * (2 : Nat) ≤ y.h.cap * (2 :
  Nat) ∧ y.h.n = y.h.n ∧ ∀ (j : Nat), j < y.h.n → y.h.id j = y.h.id j ∧ y.h.key j = y.h.key j ∧ True) ∧ True) ∧ ((HP.mk y.h.n y.h.cap (fun (j : Nat) => y.h.id j) (fun (j : Nat) => y.h.key j) y.h.at_).Full ∧ y.h.n ≤ (10000
  : Nat)) ∧ ((HP.mk y.h.n y.h.cap (fun (j : Nat) => y.h.id j) (fun (j : Nat) => y.h.key j) y.h.at_).M (x.id ((0 : Nat) + (↑y.i : Int).toNat)) = none → (∃ (y_1 : Bool), (mC0 x a.v g).I y_1 ∧ ((((x.nil = true → x.nil = true)
  ∧ (x.nil = false → x.nil = false ∧ True ∧ True ∧ (0 : Nat) = (0 : Nat) ∧ x.len = x.len ∧ x.cap = x.cap)) ∧ a.v = a.v ∧ (True ∧ True) ∧ (↑y.i : Int) = (↑g : Int) ∧ True) ∧ (x.len * (3 : Nat) ≤ x.len * (3 : Nat) ∧ x.len =
  x.len ∧ ∀ (j : Nat), j < x.len → x.what j = x.what j ∧ x.id j = x.id j ∧ x.key j = x.key j ∧ True) ∧ ((65 : Nat) ≤ (65 : Nat) ∧ False ∧ ((64 : Nat) = (64 : Nat) ∧ ∀ (j : Nat), j < (64 : Nat) → y.h.at_ j = a0 j) ∧ True) ∧
  True) ∧ True) ∨ ∃ (y_1 : HP), (g < x.len ∧ y_1.Full ∧ y_1.n ≤ g + (1 : Nat)) ∧ ((((x.nil = true → x.nil = true) ∧ (x.nil = false → x.nil = false ∧ True ∧ True ∧ (0 : Nat) = (0 : Nat) ∧ x.len = x.len ∧ x.cap = x.cap)) ∧
  a.v = a.v ∧ (True ∧ True) ∧ (↑y.i : Int) = (↑g : Int) ∧ True) ∧ (x.len * (3 : Nat) ≤ x.len * (3 : Nat) ∧ x.len = x.len ∧ ∀ (j : Nat), j < x.len → x.what j = x.what j ∧ x.id j = x.id j ∧ x.key j = x.key j ∧ True) ∧ ((65 :
  Nat) ≤ (65 : Nat) ∧ (True ∧ True ∧ (0 : Nat) = (0 : Nat) ∧ y.h.n = y_1.n ∧ y.h.cap = y_1.cap) ∧ ((64 : Nat) = (64 : Nat) ∧ ∀ (j : Nat), j < (64 : Nat) → y.h.at_ j = y_1.at_ j) ∧ True) ∧ (y_1.cap * (2 : Nat) ≤ y.h.cap *
  (2 : Nat) ∧ y_1.n ≤ y.h.n ∧ ∀ (j : Nat), j < y_1.n → y.h.id j = y_1.id j ∧ y.h.key j = y_1.key j ∧ True) ∧ True) ∧ True) ∧ (¬(HP.mk y.h.n y.h.cap (fun (j : Nat) => y.h.id j) (fun (j : Nat) => y.h.key j) y.h.at_).M (x.id
  ((0 : Nat) + (↑y.i : Int).toNat)) = none → ∀ (x_1 : HP), (x_1.Full ∧ (x_1.n = y.h.n - (1 : Nat) ∧ x_1.cap = y.h.cap) ∧ ∀ (i : Int), x_1.M i = if i = x.id ((0 : Nat) + (↑y.i : Int).toNat) then none else (HP.mk y.h.n
  y.h.cap (fun (j : Nat) => y.h.id j) (fun (j : Nat) => y.h.key j) y.h.at_).M i) → (∃ (y_1 : Bool), (mC0 x a.v g).I y_1 ∧ ((((x.nil = true → x.nil = true) ∧ (x.nil = false → x.nil = false ∧ True ∧ True ∧ (0 : Nat) = (0 :
  Nat) ∧ x.len = x.len ∧ x.cap = x.cap)) ∧ a.v = a.v ∧ (True ∧ True) ∧ (↑y.i : Int) = (↑g : Int) ∧ True) ∧ (x.len * (3 : Nat) ≤ x.len * (3 : Nat) ∧ x.len = x.len ∧ ∀ (j : Nat), j < x.len → x.what j = x.what j ∧ x.id j =
  x.id j ∧ x.key j = x.key j ∧ True) ∧ ((65 : Nat) ≤ (65 : Nat) ∧ False ∧ ((64 : Nat) = (64 : Nat) ∧ ∀ (j : Nat), j < (64 : Nat) → x_1.at_ j = a0 j) ∧ True) ∧ True) ∧ True) ∨ ∃ (y_1 : HP), (g < x.len ∧ y_1.Full ∧ y_1.n ≤ g
  + (1 : Nat)) ∧ ((((x.nil = true → x.nil = true) ∧ (x.nil = false → x.nil = false ∧ True ∧ True ∧ (0 : Nat) = (0 : Nat) ∧ x.len = x.len ∧ x.cap = x.cap)) ∧ a.v = a.v ∧ (True ∧ True) ∧ (↑y.i : Int) = (↑g : Int) ∧ True) ∧
  (x.len * (3 : Nat) ≤ x.len * (3 : Nat) ∧ x.len = x.len ∧ ∀ (j : Nat), j < x.len → x.what j = x.what j ∧ x.id j = x.id j ∧ x.key j = x.key j ∧ True) ∧ ((65 : Nat) ≤ (65 : Nat) ∧ (True ∧ True ∧ (0 : Nat) = (0 : Nat) ∧
  x_1.n = y_1.n ∧ x_1.cap = y_1.cap) ∧ ((64 : Nat) = (64 : Nat) ∧ ∀ (j : Nat), j < (64 : Nat) → x_1.at_ j = y_1.at_ j) ∧ True) ∧ (y_1.cap * (2 : Nat) ≤ y.h.cap * (2 : Nat) ∧ y_1.n ≤ x_1.n ∧ ∀ (j : Nat), j < y_1.n → x_1.id
  j = y_1.id j ∧ x_1.key j = y_1.key j ∧ True) ∧ True) ∧ True)) ∧ ((x.what ((0 : Nat) + (↑y.i : Int).toNat) == (2 : Int)) = false → ((x.what ((0 : Nat) + (↑y.i : Int).toNat) == (3 : Int)) = true → (x.nil = true → x.len =
  (0 : Nat)) ∧ ((0 : Int) ≤ (↑y.i : Int) ∧ (↑y.i : Int) < (↑x.len : Int)) ∧ (0 : Nat) + (↑y.i : Int).toNat < x.len ∧ (x.nil = true → x.len = (0 : Nat)) ∧ ((0 : Int) ≤ (↑y.i : Int) ∧ (↑y.i : Int) < (↑x.len : Int)) ∧ (0 :
  Nat) + (↑y.i : Int).toNat < x.len ∧ (((True ∧ True) ∧ x.id ((0 : Nat) + (↑y.i : Int).toNat) = x.id ((0 : Nat) + (↑y.i : Int).toNat) ∧ x.key ((0 : Nat) + (↑y.i : Int).toNat) = x.key ((0 : Nat) + (↑y.i : Int).toNat) ∧
  True) ∧ ((65 : Nat) ≤ (65 : Nat) ∧ (True ∧ True ∧ (0 : Nat) = (0 : Nat) ∧ y.h.n = y.h.n ∧ y.h.cap = y.h.cap) ∧ ((64 : Nat) = (64 : Nat) ∧ ∀ (j : Nat), j < (64 : Nat) → y.h.at_ j = y.h.at_ j) ∧ True) ∧ (y.h.cap * (2 :
  Nat) ≤ y.h.cap * (2 : Nat) ∧ y.h.n = y.h.n ∧ ∀ (j : Nat), j < y.h.n → y.h.id j = y.h.id j ∧ y.h.key j = y.h.key j ∧ True) ∧ True) ∧ (((HP.mk y.h.n y.h.cap (fun (j : Nat) => y.h.id j) (fun (j : Nat) => y.h.key j)
  y.h.at_).Full ∧ y.h.n ≤ (10000 : Nat)) ∧ (0 : Int) ≤ x.key ((0 : Nat) + (↑y.i : Int).toNat) ∧ x.key ((0 : Nat) + (↑y.i : Int).toNat) < (18446744073709551616 : Int)) ∧ (¬((0 : Int) ≤ x.id ((0 : Nat) + (↑y.i : Int).toNat)
  ∧ x.id ((0 : Nat) + (↑y.i : Int).toNat) < (64 : Int)) → (∃ (y_1 : Bool), (mC0 x a.v g).I y_1 ∧ ((((x.nil = true → x.nil = true) ∧ (x.nil = false → x.nil = false ∧ True ∧ True ∧ (0 : Nat) = (0 : Nat) ∧ x.len = x.len ∧
  x.cap = x.cap)) ∧ a.v = a.v ∧ (True ∧ True) ∧ (↑y.i : Int) = (↑g : Int) ∧ True) ∧ (x.len * (3 : Nat) ≤ x.len * (3 : Nat) ∧ x.len = x.len ∧ ∀ (j : Nat), j < x.len → x.what j = x.what j ∧ x.id j = x.id j ∧ x.key j = x.key
  j ∧ True) ∧ ((65 : Nat) ≤ (65 : Nat) ∧ False ∧ ((64 : Nat) = (64 : Nat) ∧ ∀ (j : Nat), j < (64 : Nat) → y.h.at_ j = a0 j) ∧ True) ∧ True) ∧ True) ∨ ∃ (y_1 : HP), (g < x.len ∧ y_1.Full ∧ y_1.n ≤ g + (1 : Nat)) ∧ ((((x.nil
  = true → x.nil = true) ∧ (x.nil = false → x.nil = false ∧ True ∧ True ∧ (0 : Nat) = (0 : Nat) ∧ x.len = x.len ∧ x.cap = x.cap)) ∧ a.v = a.v ∧ (True ∧ True) ∧ (↑y.i : Int) = (↑g : Int) ∧ True) ∧ (x.len * (3 : Nat) ≤ x.len
  * (3 : Nat) ∧ x.len = x.len ∧ ∀ (j : Nat), j < x.len → x.what j = x.what j ∧ x.id j = x.id j ∧ x.key j = x.key j ∧ True) ∧ ((65 : Nat) ≤ (65 : Nat) ∧ (True ∧ True ∧ (0 : Nat) = (0 : Nat) ∧ y.h.n = y_1.n ∧ y.h.cap =
  y_1.cap) ∧ ((64 : Nat) = (64 : Nat) ∧ ∀ (j : Nat), j < (64 : Nat) → y.h.at_ j = y_1.at_ j) ∧ True) ∧ (y_1.cap * (2 : Nat) ≤ y.h.cap * (2 : Nat) ∧ y_1.n ≤ y.h.n ∧ ∀ (j : Nat), j < y_1.n → y.h.id j = y_1.id j ∧ y.h.key j =
  y_1.key j ∧ True) ∧ True) ∧ True) ∧ (¬¬((0 : Int) ≤ x.id ((0 : Nat) + (↑y.i : Int).toNat) ∧ x.id ((0 : Nat) + (↑y.i : Int).toNat) < (64 : Int)) → ((HP.mk y.h.n y.h.cap (fun (j : Nat) => y.h.id j) (fun (j : Nat) =>
  y.h.key j) y.h.at_).M (x.id ((0 : Nat) + (↑y.i : Int).toNat)) = none → (∃ (y_1 : Bool), (mC0 x a.v g).I y_1 ∧ ((((x.nil = true → x.nil = true) ∧ (x.nil = false → x.nil = false ∧ True ∧ True ∧ (0 : Nat) = (0 : Nat) ∧
  x.len = x.len ∧ x.cap = x.cap)) ∧ a.v = a.v ∧ (True ∧ True) ∧ (↑y.i : Int) = (↑g : Int) ∧ True) ∧ (x.len * (3 : Nat) ≤ x.len * (3 : Nat) ∧ x.len = x.len ∧ ∀ (j : Nat), j < x.len → x.what j = x.what j ∧ x.id j = x.id j ∧
  x.key j = x.key j ∧ True) ∧ ((65 : Nat) ≤ (65 : Nat) ∧ False ∧ ((64 : Nat) = (64 : Nat) ∧ ∀ (j : Nat), j < (64 : Nat) → y.h.at_ j = a0 j) ∧ True) ∧ True) ∧ True) ∨ ∃ (y_1 : HP), (g < x.len ∧ y_1.Full ∧ y_1.n ≤ g + (1 :
  Nat)) ∧ ((((x.nil = true → x.nil = true) ∧ (x.nil = false → x.nil = false ∧ True ∧ True ∧ (0 : Nat) = (0 : Nat) ∧ x.len = x.len ∧ x.cap = x.cap)) ∧ a.v = a.v ∧ (True ∧ True) ∧ (↑y.i : Int) = (↑g : Int) ∧ True) ∧ (x.len *
  (3 : Nat) ≤ x.len * (3 : Nat) ∧ x.len = x.len ∧ ∀ (j : Nat), j < x.len → x.what j = x.what j ∧ x.id j = x.id j ∧ x.key j = x.key j ∧ True) ∧ ((65 : Nat) ≤ (65 : Nat) ∧ (True ∧ True ∧ (0 : Nat) = (0 : Nat) ∧ y.h.n = y_1.n
  ∧ y.h.cap = y_1.cap) ∧ ((64 : Nat) = (64 : Nat) ∧ ∀ (j : Nat), j < (64 : Nat) → y.h.at_ j = y_1.at_ j) ∧ True) ∧ (y_1.cap * (2 : Nat) ≤ y.h.cap * (2 : Nat) ∧ y_1.n ≤ y.h.n ∧ ∀ (j : Nat), j < y_1.n → y.h.id j = y_1.id j ∧
  y.h.key j = y_1.key j ∧ True) ∧ True) ∧ True) ∧ (¬(HP.mk y.h.n y.h.cap (fun (j : Nat) => y.h.id j) (fun (j : Nat) => y.h.key j) y.h.at_).M (x.id ((0 : Nat) + (↑y.i : Int).toNat)) = none → ∀ (x_1 : HP), (x_1.Full ∧ (x_1.n
  = y.h.n ∧ x_1.cap = y.h.cap) ∧ ∀ (i : Int), x_1.M i = if i = x.id ((0 : Nat) + (↑y.i : Int).toNat) then some (x.key ((0 : Nat) + (↑y.i : Int).toNat)) else (HP.mk y.h.n y.h.cap (fun (j : Nat) => y.h.id j) (fun (j : Nat)
  => y.h.key j) y.h.at_).M i) → (∃ (y_1 : Bool), (mC0 x a.v g).I y_1 ∧ ((((x.nil = true → x.nil = true) ∧ (x.nil = false → x.nil = false ∧ True ∧ True ∧ (0 : Nat) = (0 : Nat) ∧ x.len = x.len ∧ x.cap = x.cap)) ∧ a.v = a.v ∧
  (True ∧ True) ∧ (↑y.i : Int) = (↑g : Int) ∧ True) ∧ (x.len * (3 : Nat) ≤ x.len * (3 : Nat) ∧ x.len = x.len ∧ ∀ (j : Nat), j < x.len → x.what j = x.what j ∧ x.id j = x.id j ∧ x.key j = x.key j ∧ True) ∧ ((65 : Nat) ≤ (65
  : Nat) ∧ False ∧ ((64 : Nat) = (64 : Nat) ∧ ∀ (j : Nat), j < (64 : Nat) → x_1.at_ j = a0 j) ∧ True) ∧ True) ∧ True) ∨ ∃ (y_1 : HP), (g < x.len ∧ y_1.Full ∧ y_1.n ≤ g + (1 : Nat)) ∧ ((((x.nil = true → x.nil = true) ∧
  (x.nil = false → x.nil = false ∧ True ∧ True ∧ (0 : Nat) = (0 : Nat) ∧ x.len = x.len ∧ x.cap = x.cap)) ∧ a.v = a.v ∧ (True ∧ True) ∧ (↑y.i : Int) = (↑g : Int) ∧ True) ∧ (x.len * (3 : Nat) ≤ x.len * (3 : Nat) ∧ x.len =
  x.len ∧ ∀ (j : Nat), j < x.len → x.what j = x.what j ∧ x.id j = x.id j ∧ x.key j = x.key j ∧ True) ∧ ((65 : Nat) ≤ (65 : Nat) ∧ (True ∧ True ∧ (0 : Nat) = (0 : Nat) ∧ x_1.n = y_1.n ∧ x_1.cap = y_1.cap) ∧ ((64 : Nat) =
  (64 : Nat) ∧ ∀ (j : Nat), j < (64 : Nat) → x_1.at_ j = y_1.at_ j) ∧ True) ∧ (y_1.cap * (2 : Nat) ≤ y.h.cap * (2 : Nat) ∧ y_1.n ≤ x_1.n ∧ ∀ (j : Nat), j < y_1.n → x_1.id j = y_1.id j ∧ x_1.key j = y_1.key j ∧ True) ∧
  True) ∧ True))) ∧ ((x.what ((0 : Nat) + (↑y.i : Int).toNat) == (3 : Int)) = false → (∃ (y_1 : Bool), (mC0 x a.v g).I y_1 ∧ ((((x.nil = true → x.nil = true) ∧ (x.nil = false → x.nil = false ∧ True ∧ True ∧ (0 : Nat) = (0
  : Nat) ∧ x.len = x.len ∧ x.cap = x.cap)) ∧ a.v = a.v ∧ (True ∧ True) ∧ (↑y.i : Int) = (↑g : Int) ∧ True) ∧ (x.len * (3 : Nat) ≤ x.len * (3 : Nat) ∧ x.len = x.len ∧ ∀ (j : Nat), j < x.len → x.what j = x.what j ∧ x.id j =
  x.id j ∧ x.key j = x.key j ∧ True) ∧ ((65 : Nat) ≤ (65 : Nat) ∧ False ∧ ((64 : Nat) = (64 : Nat) ∧ ∀ (j : Nat), j < (64 : Nat) → y.h.at_ j = a0 j) ∧ True) ∧ True) ∧ True) ∨ ∃ (y_1 : HP), (g < x.len ∧ y_1.Full ∧ y_1.n ≤ g
  + (1 : Nat)) ∧ ((((x.nil = true → x.nil = true) ∧ (x.nil = false → x.nil = false ∧ True ∧ True ∧ (0 : Nat) = (0 : Nat) ∧ x.len = x.len ∧ x.cap = x.cap)) ∧ a.v = a.v ∧ (True ∧ True) ∧ (↑y.i : Int) = (↑g : Int) ∧ True) ∧
  (x.len * (3 : Nat) ≤ x.len * (3 : Nat) ∧ x.len = x.len ∧ ∀ (j : Nat), j < x.len → x.what j = x.what j ∧ x.id j = x.id j ∧ x.key j = x.key j ∧ True) ∧ ((65 : Nat) ≤ (65 : Nat) ∧ (True ∧ True ∧ (0 : Nat) = (0 : Nat) ∧
  y.h.n = y_1.n ∧ y.h.cap = y_1.cap) ∧ ((64 : Nat) = (64 : Nat) ∧ ∀ (j : Nat), j < (64 : Nat) → y.h.at_ j = y_1.at_ j) ∧ True) ∧ (y_1.cap * (2 : Nat) ≤ y.h.cap * (2 : Nat) ∧ y_1.n ≤ y.h.n ∧ ∀ (j : Nat), j < y_1.n → y.h.id
  j = y_1.id j ∧ y.h.key j = y_1.key j ∧ True) ∧ True) ∧ True))))) ∧ (∀ (y_1 : Bool), (mC0 x a.v g).I y_1 → ∀ (v : Int), v = IntKind.i64.wrap ((↑g : Int) + (1 : Int)) → (∃ (y_2 : Nat), (y_2 ≤ x.len ∧ x.len ≤ (200 : Nat)) ∧
  ((((x.nil = true → x.nil = true) ∧ (x.nil = false → x.nil = false ∧ True ∧ True ∧ (0 : Nat) = (0 : Nat) ∧ x.len = x.len ∧ x.cap = x.cap)) ∧ a.v = a.v ∧ (True ∧ True) ∧ v = (↑y_2 : Int) ∧ True) ∧ (x.len * (3 : Nat) ≤
  x.len * (3 : Nat) ∧ x.len = x.len ∧ ∀ (j : Nat), j < x.len → x.what j = x.what j ∧ x.id j = x.id j ∧ x.key j = x.key j ∧ True) ∧ ((65 : Nat) ≤ (65 : Nat) ∧ True ∧ ((64 : Nat) = (64 : Nat) ∧ ∀ (j : Nat), j < (64 : Nat) →
  a0 j = a0 j) ∧ True) ∧ True) ∧ (mF0 x a.v).μ y_2 < (mF1 x a.v).μ y) ∨ ∃ (y_2 : SA), ((y_2.i ≤ x.len ∧ x.len ≤ (200 : Nat)) ∧ y_2.h.Full ∧ y_2.h.n ≤ y_2.i) ∧ False ∧ (mF1 x a.v).μ y_2 < (mF1 x a.v).μ y) ∧ ∀ (y_1 : HP), g
  < x.len ∧ y_1.Full ∧ y_1.n ≤ g + (1 : Nat) → ∀ (v : Int), v = IntKind.i64.wrap ((↑g : Int) + (1 : Int)) → (∃ (y_2 : Nat), (y_2 ≤ x.len ∧ x.len ≤ (200 : Nat)) ∧ ((((x.nil = true → x.nil = true) ∧ (x.nil = false → x.nil =
  false ∧ True ∧ True ∧ (0 : Nat) = (0 : Nat) ∧ x.len = x.len ∧ x.cap = x.cap)) ∧ a.v = a.v ∧ (True ∧ True) ∧ v = (↑y_2 : Int) ∧ True) ∧ (x.len * (3 : Nat) ≤ x.len * (3 : Nat) ∧ x.len = x.len ∧ ∀ (j : Nat), j < x.len →
  x.what j = x.what j ∧ x.id j = x.id j ∧ x.key j = x.key j ∧ True) ∧ ((65 : Nat) ≤ (65 : Nat) ∧ False ∧ ((64 : Nat) = (64 : Nat) ∧ ∀ (j : Nat), j < (64 : Nat) → y_1.at_ j = a0 j) ∧ True) ∧ True) ∧ (mF0 x a.v).μ y_2 < (mF1
  x a.v).μ y) ∨ ∃ (y_2 : SA), ((y_2.i ≤ x.len ∧ x.len ≤ (200 : Nat)) ∧ y_2.h.Full ∧ y_2.h.n ≤ y_2.i) ∧ ((((x.nil = true → x.nil = true) ∧ (x.nil = false → x.nil = false ∧ True ∧ True ∧ (0 : Nat) = (0 : Nat) ∧ x.len = x.len
  ∧ x.cap = x.cap)) ∧ a.v = a.v ∧ (True ∧ True) ∧ v = (↑y_2.i : Int) ∧ True) ∧ (x.len * (3 : Nat) ≤ x.len * (3 : Nat) ∧ x.len = x.len ∧ ∀ (j : Nat), j < x.len → x.what j = x.what j ∧ x.id j = x.id j ∧ x.key j = x.key j ∧
  True) ∧ ((65 : Nat) ≤ (65 : Nat) ∧ (True ∧ True ∧ (0 : Nat) = (0 : Nat) ∧ y_1.n = y_2.h.n ∧ y_1.cap = y_2.h.cap) ∧ ((64 : Nat) = (64 : Nat) ∧ ∀ (j : Nat), j < (64 : Nat) → y_1.at_ j = y_2.h.at_ j) ∧ True) ∧ (y_2.h.cap *
  (2 : Nat) ≤ y_1.cap * (2 : Nat) ∧ y_2.h.n ≤ y_1.n ∧ ∀ (j : Nat), j < y_2.h.n → y_1.id j = y_2.h.id j ∧ y_1.key j = y_2.h.key j ∧ True) ∧ True) ∧ (mF1 x a.v).μ y_2 < (mF1 x a.v).μ y) ∧ (decide ((↑y.i : Int) < (↑x.len :
  Int)) = false → (((True ∧ True) ∧ True) ∧ ((65 : Nat) ≤ (65 : Nat) ∧ (True ∧ True ∧ (0 : Nat) = (0 : Nat) ∧ y.h.n = y.h.n ∧ y.h.cap = y.h.cap) ∧ ((64 : Nat) = (64 : Nat) ∧ ∀ (j : Nat), j < (64 : Nat) → y.h.at_ j =
  y.h.at_ j) ∧ True) ∧ (y.h.cap * (2 : Nat) ≤ y.h.cap * (2 : Nat) ∧ y.h.n = y.h.n ∧ ∀ (j : Nat), j < y.h.n → y.h.id j = y.h.id j ∧ y.h.key j = y.h.key j ∧ True) ∧ True) ∧ (y.h.n = (0 : Nat) → ∀ (v : Int), v = (-1 : Int) →
  ∀ (v_1 : Int), v_1 = (0 : Int) → ∀ (v_2 : Int), v_2 = (0 : Int) → ((∃ (y_1 : Nat), (mK0 x a.v).I y_1 ∧ ((a.v = a.v ∧ (True ∧ True) ∧ v = (-1 : Int) ∧ v_1 = (0 : Int) ∧ false = false ∧ v_2 = (↑y_1 : Int) ∧ True) ∧ (x.len
  * (3 : Nat) ≤ x.len * (3 : Nat) ∧ x.len = x.len ∧ ∀ (j : Nat), j < x.len → x.what j = x.what j ∧ x.id j = x.id j ∧ x.key j = x.key j ∧ True) ∧ ((65 : Nat) ≤ (65 : Nat) ∧ False ∧ ((64 : Nat) = (64 : Nat) ∧ ∀ (j : Nat), j
  < (64 : Nat) → y.h.at_ j = a0 j) ∧ True) ∧ True) ∧ True) ∨ ∃ (y_1 : SK), (y_1.k ≤ (64 : Nat) ∧ y_1.h.Full ∧ y_1.h.n ≤ (200 : Nat)) ∧ ((a.v = a.v ∧ (True ∧ True) ∧ v = y_1.h.mi ∧ v_1 = y_1.h.mk_ ∧ false = decide (y_1.h.n
  ≠ (0 : Nat)) ∧ v_2 = (↑y_1.k : Int) ∧ True) ∧ (x.len * (3 : Nat) ≤ x.len * (3 : Nat) ∧ x.len = x.len ∧ ∀ (j : Nat), j < x.len → x.what j = x.what j ∧ x.id j = x.id j ∧ x.key j = x.key j ∧ True) ∧ ((65 : Nat) ≤ (65 : Nat)
  ∧ (True ∧ True ∧ (0 : Nat) = (0 : Nat) ∧ y.h.n = y_1.h.n ∧ y.h.cap = y_1.h.cap) ∧ ((64 : Nat) = (64 : Nat) ∧ ∀ (j : Nat), j < (64 : Nat) → y.h.at_ j = y_1.h.at_ j) ∧ True) ∧ (y_1.h.cap * (2 : Nat) ≤ y.h.cap * (2 : Nat) ∧
  y_1.h.n ≤ y.h.n ∧ ∀ (j : Nat), j < y_1.h.n → y.h.id j = y_1.h.id j ∧ y.h.key j = y_1.h.key j ∧ True) ∧ True) ∧ True) ∧ (∀ (y : Nat), (mK0 x a.v).I y → (decide ((↑y : Int) < (64 : Int)) = true → (((True ∧ True) ∧ (↑y :
  Int) = (↑y : Int) ∧ True) ∧ ((65 : Nat) ≤ (65 : Nat) ∧ True ∧ ((64 : Nat) = (64 : Nat) ∧ ∀ (j : Nat), j < (64 : Nat) → a0 j = a0 j) ∧ True) ∧ True) ∧ (∀ (i : Nat), i < (64 : Nat) → a0 i = (0 : Int)) ∧ ∀ (v : Int), v =
  oVal none → (oHas none = true → x.Ok ∧ a.Ok → False ∧ True ∧ (x.len * (3 : Nat) ≤ x.len * (3 : Nat) ∧ x.len = x.len ∧ ∀ (j : Nat), j < x.len → x.what j = x.what j ∧ x.id j = x.id j ∧ x.key j = x.key j ∧ True) ∧ True) ∧
  (oHas none = false → ∀ (v : Int), v = IntKind.i64.wrap ((↑y : Int) + (1 : Int)) → (∃ (y_1 : Nat), (mK0 x a.v).I y_1 ∧ ((a.v = a.v ∧ (True ∧ True) ∧ (-1 : Int) = (-1 : Int) ∧ (0 : Int) = (0 : Int) ∧ True ∧ v = (↑y_1 :
  Int) ∧ True) ∧ (x.len * (3 : Nat) ≤ x.len * (3 : Nat) ∧ x.len = x.len ∧ ∀ (j : Nat), j < x.len → x.what j = x.what j ∧ x.id j = x.id j ∧ x.key j = x.key j ∧ True) ∧ ((65 : Nat) ≤ (65 : Nat) ∧ True ∧ ((64 : Nat) = (64 :
  Nat) ∧ ∀ (j : Nat), j < (64 : Nat) → a0 j = a0 j) ∧ True) ∧ True) ∧ (mK0 x a.v).μ y_1 < (mK0 x a.v).μ y) ∨ ∃ (y_1 : SK), (y_1.k ≤ (64 : Nat) ∧ y_1.h.Full ∧ y_1.h.n ≤ (200 : Nat)) ∧ False ∧ (mK1 x a.v).μ y_1 < (mK0 x
  a.v).μ y)) ∧ (decide ((↑y : Int) < (64 : Int)) = false → (((True ∧ True) ∧ a.v = a.v ∧ True) ∧ ((65 : Nat) ≤ (65 : Nat) ∧ True ∧ ((64 : Nat) = (64 : Nat) ∧ ∀ (j : Nat), j < (64 : Nat) → a0 j = a0 j) ∧ True) ∧ True) ∧ (∀
  (i : Nat), i < (64 : Nat) → a0 i = (0 : Int)) ∧ ∀ (v : Int), v = oVal none → (((True ∧ True) ∧ True) ∧ ((65 : Nat) ≤ (65 : Nat) ∧ True ∧ ((64 : Nat) = (64 : Nat) ∧ ∀ (j : Nat), j < (64 : Nat) → a0 j = a0 j) ∧ True) ∧
  True) ∧ ∀ (v_3 : Int), v_3 = (0 : Int) → (((True ∧ True) ∧ True) ∧ ((65 : Nat) ≤ (65 : Nat) ∧ True ∧ ((64 : Nat) = (64 : Nat) ∧ ∀ (j : Nat), j < (64 : Nat) → a0 j = a0 j) ∧ True) ∧ True) ∧ (∀ (i : Nat), i < (64 : Nat) →
  a0 i = (0 : Int)) ∧ ∀ (v_4 : Int), v_4 = (-1 : Int) → ∀ (v_5 : Int), v_5 = (0 : Int) → (((True ∧ True) ∧ a.v = a.v ∧ True) ∧ ((65 : Nat) ≤ (65 : Nat) ∧ True ∧ ((64 : Nat) = (64 : Nat) ∧ ∀ (j : Nat), j < (64 : Nat) → a0 j
  = a0 j) ∧ True) ∧ True) ∧ (∀ (i : Nat), i < (64 : Nat) → a0 i = (0 : Int)) ∧ ∀ (v_6 : Int), v_6 = oVal none → ((!false == false) = true → x.Ok ∧ a.Ok → False ∧ True ∧ (x.len * (3 : Nat) ≤ x.len * (3 : Nat) ∧ x.len =
  x.len ∧ ∀ (j : Nat), j < x.len → x.what j = x.what j ∧ x.id j = x.id j ∧ x.key j = x.key j ∧ True) ∧ True) ∧ ((!false == false) = false → ((v_4 != (-1 : Int)) = true → x.Ok ∧ a.Ok → False ∧ True ∧ (x.len * (3 : Nat) ≤
  x.len * (3 : Nat) ∧ x.len = x.len ∧ ∀ (j : Nat), j < x.len → x.what j = x.what j ∧ x.id j = x.id j ∧ x.key j = x.key j ∧ True) ∧ True) ∧ ((v_4 != (-1 : Int)) = false → ((v_5 != (0 : Int)) = true → x.Ok ∧ a.Ok → False ∧
  True ∧ (x.len * (3 : Nat) ≤ x.len * (3 : Nat) ∧ x.len = x.len ∧ ∀ (j : Nat), j < x.len → x.what j = x.what j ∧ x.id j = x.id j ∧ x.key j = x.key j ∧ True) ∧ True) ∧ ((v_5 != (0 : Int)) = false → (oHas none = true →
  ((oHas none == true) = true → ((!oHas none) = true → x.Ok ∧ a.Ok → True ∧ True ∧ (x.len * (3 : Nat) ≤ x.len * (3 : Nat) ∧ x.len = x.len ∧ ∀ (j : Nat), j < x.len → x.what j = x.what j ∧ x.id j = x.id j ∧ x.key j = x.key j
  ∧ True) ∧ True) ∧ ((!oHas none) = false → x.Ok ∧ a.Ok → (v_6 == v) = true ∧ True ∧ (x.len * (3 : Nat) ≤ x.len * (3 : Nat) ∧ x.len = x.len ∧ ∀ (j : Nat), j < x.len → x.what j = x.what j ∧ x.id j = x.id j ∧ x.key j = x.key
  j ∧ True) ∧ True)) ∧ ((oHas none == true) = false → x.Ok ∧ a.Ok → False ∧ True ∧ (x.len * (3 : Nat) ≤ x.len * (3 : Nat) ∧ x.len = x.len ∧ ∀ (j : Nat), j < x.len → x.what j = x.what j ∧ x.id j = x.id j ∧ x.key j = x.key j
  ∧ True) ∧ True)) ∧ (oHas none = false → ((oHas none == false) = true → ((!oHas none) = true → x.Ok ∧ a.Ok → True ∧ True ∧ (x.len * (3 : Nat) ≤ x.len * (3 : Nat) ∧ x.len = x.len ∧ ∀ (j : Nat), j < x.len → x.what j =
  x.what j ∧ x.id j = x.id j ∧ x.key j = x.key j ∧ True) ∧ True) ∧ ((!oHas none) = false → x.Ok ∧ a.Ok → (v_6 == v) = true ∧ True ∧ (x.len * (3 : Nat) ≤ x.len * (3 : Nat) ∧ x.len = x.len ∧ ∀ (j : Nat), j < x.len → x.what j
  = x.what j ∧ x.id j = x.id j ∧ x.key j = x.key j ∧ True) ∧ True)) ∧ ((oHas none == false) = false → x.Ok ∧ a.Ok → False ∧ True ∧ (x.len * (3 : Nat) ≤ x.len * (3 : Nat) ∧ x.len = x.len ∧ ∀ (j : Nat), j < x.len → x.what j
  = x.what j ∧ x.id j = x.id j ∧ x.key j = x.key j ∧ True) ∧ True))))))) ∧ ∀ (y : SK), y.k ≤ (64 : Nat) ∧ y.h.Full ∧ y.h.n ≤ (200 : Nat) → (decide ((↑y.k : Int) < (64 : Int)) = true → (((True ∧ True) ∧ (↑y.k : Int) = (↑y.k
  : Int) ∧ True) ∧ ((65 : Nat) ≤ (65 : Nat) ∧ (True ∧ True ∧ (0 : Nat) = (0 : Nat) ∧ y.h.n = y.h.n ∧ y.h.cap = y.h.cap) ∧ ((64 : Nat) = (64 : Nat) ∧ ∀ (j : Nat), j < (64 : Nat) → y.h.at_ j = y.h.at_ j) ∧ True) ∧ (y.h.cap *
  (2 : Nat) ≤ y.h.cap * (2 : Nat) ∧ y.h.n = y.h.n ∧ ∀ (j : Nat), j < y.h.n → y.h.id j = y.h.id j ∧ y.h.key j = y.h.key j ∧ True) ∧ True) ∧ ((HP.mk y.h.n y.h.cap (fun (j : Nat) => y.h.id j) (fun (j : Nat) => y.h.key j)
  y.h.at_).Full ∧ y.h.n ≤ (100000 : Nat)) ∧ ∀ (v : Int), v = oVal ((HP.mk y.h.n y.h.cap (fun (j : Nat) => y.h.id j) (fun (j : Nat) => y.h.key j) y.h.at_).M (↑y.k : Int)) → (oHas ((HP.mk y.h.n y.h.cap (fun (j : Nat) =>
  y.h.id j) (fun (j : Nat) => y.h.key j) y.h.at_).M (↑y.k : Int)) = true → ((!decide (y.h.n ≠ (0 : Nat))) = true → x.Ok ∧ a.Ok → False ∧ True ∧ (x.len * (3 : Nat) ≤ x.len * (3 : Nat) ∧ x.len = x.len ∧ ∀ (j : Nat), j <
  x.len → x.what j = x.what j ∧ x.id j = x.id j ∧ x.key j = x.key j ∧ True) ∧ True) ∧ ((!decide (y.h.n ≠ (0 : Nat))) = false → (decide (v < y.h.mk_) = true → x.Ok ∧ a.Ok → False ∧ True ∧ (x.len * (3 : Nat) ≤ x.len * (3 :
  Nat) ∧ x.len = x.len ∧ ∀ (j : Nat), j < x.len → x.what j = x.what j ∧ x.id j = x.id j ∧ x.key j = x.key j ∧ True) ∧ True) ∧ (decide (v < y.h.mk_) = false → ((v == y.h.mk_) = true → (decide ((↑y.k : Int) < y.h.mi) = true
  → x.Ok ∧ a.Ok → False ∧ True ∧ (x.len * (3 : Nat) ≤ x.len * (3 : Nat) ∧ x.len = x.len ∧ ∀ (j : Nat), j < x.len → x.what j = x.what j ∧ x.id j = x.id j ∧ x.key j = x.key j ∧ True) ∧ True) ∧ (decide ((↑y.k : Int) < y.h.mi)
  = false → ∀ (v : Int), v = IntKind.i64.wrap ((↑y.k : Int) + (1 : Int)) → (∃ (y_1 : Nat), (mK0 x a.v).I y_1 ∧ ((a.v = a.v ∧ (True ∧ True) ∧ y.h.mi = (-1 : Int) ∧ y.h.mk_ = (0 : Int) ∧ decide (y.h.n ≠ (0 : Nat)) = false ∧
  v = (↑y_1 : Int) ∧ True) ∧ (x.len * (3 : Nat) ≤ x.len * (3 : Nat) ∧ x.len = x.len ∧ ∀ (j : Nat), j < x.len → x.what j = x.what j ∧ x.id j = x.id j ∧ x.key j = x.key j ∧ True) ∧ ((65 : Nat) ≤ (65 : Nat) ∧ False ∧ ((64 :
  Nat) = (64 : Nat) ∧ ∀ (j : Nat), j < (64 : Nat) → y.h.at_ j = a0 j) ∧ True) ∧ True) ∧ (mK0 x a.v).μ y_1 < (mK1 x a.v).μ y) ∨ ∃ (y_1 : SK), (y_1.k ≤ (64 : Nat) ∧ y_1.h.Full ∧ y_1.h.n ≤ (200 : Nat)) ∧ ((a.v = a.v ∧ (True ∧
  True) ∧ y.h.mi = y_1.h.mi ∧ y.h.mk_ = y_1.h.mk_ ∧ decide (y.h.n ≠ (0 : Nat)) = decide (y_1.h.n ≠ (0 : Nat)) ∧ v = (↑y_1.k : Int) ∧ True) ∧ (x.len * (3 : Nat) ≤ x.len * (3 : Nat) ∧ x.len = x.len ∧ ∀ (j : Nat), j < x.len →
  x.what j = x.what j ∧ x.id j = x.id j ∧ x.key j = x.key j ∧ True) ∧ ((65 : Nat) ≤ (65 : Nat) ∧ (True ∧ True ∧ (0 : Nat) = (0 : Nat) ∧ y.h.n = y_1.h.n ∧ y.h.cap = y_1.h.cap) ∧ ((64 : Nat) = (64 : Nat) ∧ ∀ (j : Nat), j <
  (64 : Nat) → y.h.at_ j = y_1.h.at_ j) ∧ True) ∧ (y_1.h.cap * (2 : Nat) ≤ y.h.cap * (2 : Nat) ∧ y_1.h.n ≤ y.h.n ∧ ∀ (j : Nat), j < y_1.h.n → y.h.id j = y_1.h.id j ∧ y.h.key j = y_1.h.key j ∧ True) ∧ True) ∧ (mK1 x a.v).μ
  y_1 < (mK1 x a.v).μ y)) ∧ ((v == y.h.mk_) = false → ∀ (v : Int), v = IntKind.i64.wrap ((↑y.k : Int) + (1 : Int)) → (∃ (y_1 : Nat), (mK0 x a.v).I y_1 ∧ ((a.v = a.v ∧ (True ∧ True) ∧ y.h.mi = (-1 : Int) ∧ y.h.mk_ = (0 :
  Int) ∧ decide (y.h.n ≠ (0 : Nat)) = false ∧ v = (↑y_1 : Int) ∧ True) ∧ (x.len * (3 : Nat) ≤ x.len * (3 : Nat) ∧ x.len = x.len ∧ ∀ (j : Nat), j < x.len → x.what j = x.what j ∧ x.id j = x.id j ∧ x.key j = x.key j ∧ True) ∧
  ((65 : Nat) ≤ (65 : Nat) ∧ False ∧ ((64 : Nat) = (64 : Nat) ∧ ∀ (j : Nat), j < (64 : Nat) → y.h.at_ j = a0 j) ∧ True) ∧ True) ∧ (mK0 x a.v).μ y_1 < (mK1 x a.v).μ y) ∨ ∃ (y_1 : SK), (y_1.k ≤ (64 : Nat) ∧ y_1.h.Full ∧
  y_1.h.n ≤ (200 : Nat)) ∧ ((a.v = a.v ∧ (True ∧ True) ∧ y.h.mi = y_1.h.mi ∧ y.h.mk_ = y_1.h.mk_ ∧ decide (y.h.n ≠ (0 : Nat)) = decide (y_1.h.n ≠ (0 : Nat)) ∧ v = (↑y_1.k : Int) ∧ True) ∧ (x.len * (3 : Nat) ≤ x.len * (3 :
  Nat) ∧ x.len = x.len ∧ ∀ (j : Nat), j < x.len → x.what j = x.what j ∧ x.id j = x.id j ∧ x.key j = x.key j ∧ True) ∧ ((65 : Nat) ≤ (65 : Nat) ∧ (True ∧ True ∧ (0 : Nat) = (0 : Nat) ∧ y.h.n = y_1.h.n ∧ y.h.cap = y_1.h.cap)
  ∧ ((64 : Nat) = (64 : Nat) ∧ ∀ (j : Nat), j < (64 : Nat) → y.h.at_ j = y_1.h.at_ j) ∧ True) ∧ (y_1.h.cap * (2 : Nat) ≤ y.h.cap * (2 : Nat) ∧ y_1.h.n ≤ y.h.n ∧ ∀ (j : Nat), j < y_1.h.n → y.h.id j = y_1.h.id j ∧ y.h.key j
  = y_1.h.key j ∧ True) ∧ True) ∧ (mK1 x a.v).μ y_1 < (mK1 x a.v).μ y)))) ∧ (oHas ((HP.mk y.h.n y.h.cap (fun (j : Nat) => y.h.id j) (fun (j : Nat) => y.h.key j) y.h.at_).M (↑y.k : Int)) = false → ∀ (v : Int), v =
  IntKind.i64.wrap ((↑y.k : Int) + (1 : Int)) → (∃ (y_1 : Nat), (mK0 x a.v).I y_1 ∧ ((a.v = a.v ∧ (True ∧ True) ∧ y.h.mi = (-1 : Int) ∧ y.h.mk_ = (0 : Int) ∧ decide (y.h.n ≠ (0 : Nat)) = false ∧ v = (↑y_1 : Int) ∧ True) ∧
  (x.len * (3 : Nat) ≤ x.len * (3 : Nat) ∧ x.len = x.len ∧ ∀ (j : Nat), j < x.len → x.what j = x.what j ∧ x.id j = x.id j ∧ x.key j = x.key j ∧ True) ∧ ((65 : Nat) ≤ (65 : Nat) ∧ False ∧ ((64 : Nat) = (64 : Nat) ∧ ∀ (j :
  Nat), j < (64 : Nat) → y.h.at_ j = a0 j) ∧ True) ∧ True) ∧ (mK0 x a.v).μ y_1 < (mK1 x a.v).μ y) ∨ ∃ (y_1 : SK), (y_1.k ≤ (64 : Nat) ∧ y_1.h.Full ∧ y_1.h.n ≤ (200 : Nat)) ∧ ((a.v = a.v ∧ (True ∧ True) ∧ y.h.mi = y_1.h.mi
  ∧ y.h.mk_ = y_1.h.mk_ ∧ decide (y.h.n ≠ (0 : Nat)) = decide (y_1.h.n ≠ (0 : Nat)) ∧ v = (↑y_1.k : Int) ∧ True) ∧ (x.len * (3 : Nat) ≤ x.len * (3 : Nat) ∧ x.len = x.len ∧ ∀ (j : Nat), j < x.len → x.what j = x.what j ∧
  x.id j = x.id j ∧ x.key j = x.key j ∧ True) ∧ ((65 : Nat) ≤ (65 : Nat) ∧ (True ∧ True ∧ (0 : Nat) = (0 : Nat) ∧ y.h.n = y_1.h.n ∧ y.h.cap = y_1.h.cap) ∧ ((64 : Nat) = (64 : Nat) ∧ ∀ (j : Nat), j < (64 : Nat) → y.h.at_ j
  = y_1.h.at_ j) ∧ True) ∧ (y_1.h.cap * (2 : Nat) ≤ y.h.cap * (2 : Nat) ∧ y_1.h.n ≤ y.h.n ∧ ∀ (j : Nat), j < y_1.h.n → y.h.id j = y_1.h.id j ∧ y.h.key j = y_1.h.key j ∧ True) ∧ True) ∧ (mK1 x a.v).μ y_1 < (mK1 x a.v).μ y))
  ∧ (decide ((↑y.k : Int) < (64 : Int)) = false → (((True ∧ True) ∧ a.v = a.v ∧ True) ∧ ((65 : Nat) ≤ (65 : Nat) ∧ (True ∧ True ∧ (0 : Nat) = (0 : Nat) ∧ y.h.n = y.h.n ∧ y.h.cap = y.h.cap) ∧ ((64 : Nat) = (64 : Nat) ∧ ∀ (j
  : Nat), j < (64 : Nat) → y.h.at_ j = y.h.at_ j) ∧ True) ∧ (y.h.cap * (2 : Nat) ≤ y.h.cap * (2 : Nat) ∧ y.h.n = y.h.n ∧ ∀ (j : Nat), j < y.h.n → y.h.id j = y.h.id j ∧ y.h.key j = y.h.key j ∧ True) ∧ True) ∧ ((HP.mk y.h.n
  y.h.cap (fun (j : Nat) => y.h.id j) (fun (j : Nat) => y.h.key j) y.h.at_).Full ∧ y.h.n ≤ (100000 : Nat)) ∧ ∀ (v : Int), v = oVal ((HP.mk y.h.n y.h.cap (fun (j : Nat) => y.h.id j) (fun (j : Nat) => y.h.key j) y.h.at_).M
  a.v) → (((True ∧ True) ∧ True) ∧ ((65 : Nat) ≤ (65 : Nat) ∧ (True ∧ True ∧ (0 : Nat) = (0 : Nat) ∧ y.h.n = y.h.n ∧ y.h.cap = y.h.cap) ∧ ((64 : Nat) = (64 : Nat) ∧ ∀ (j : Nat), j < (64 : Nat) → y.h.at_ j = y.h.at_ j) ∧
  True) ∧ (y.h.cap * (2 : Nat) ≤ y.h.cap * (2 : Nat) ∧ y.h.n = y.h.n ∧ ∀ (j : Nat), j < y.h.n → y.h.id j = y.h.id j ∧ y.h.key j = y.h.key j ∧ True) ∧ True) ∧ ∀ (v_3 : Int), v_3 = (↑y.h.n : Int) → (((True ∧ True) ∧ True) ∧
  ((65 : Nat) ≤ (65 : Nat) ∧ (True ∧ True ∧ (0 : Nat) = (0 : Nat) ∧ y.h.n = y.h.n ∧ y.h.cap = y.h.cap) ∧ ((64 : Nat) = (64 : Nat) ∧ ∀ (j : Nat), j < (64 : Nat) → y.h.at_ j = y.h.at_ j) ∧ True) ∧ (y.h.cap * (2 : Nat) ≤
  y.h.cap * (2 : Nat) ∧ y.h.n = y.h.n ∧ ∀ (j : Nat), j < y.h.n → y.h.id j = y.h.id j ∧ y.h.key j = y.h.key j ∧ True) ∧ True) ∧ ((HP.mk y.h.n y.h.cap (fun (j : Nat) => y.h.id j) (fun (j : Nat) => y.h.key j) y.h.at_).Full ∧
  y.h.n ≤ (10000 : Nat)) ∧ (y.h.n = (0 : Nat) → ∀ (v_4 : Int), v_4 = (-1 : Int) → ∀ (v_5 : Int), v_5 = (0 : Int) → (((True ∧ True) ∧ a.v = a.v ∧ True) ∧ ((65 : Nat) ≤ (65 : Nat) ∧ (True ∧ True ∧ (0 : Nat) = (0 : Nat) ∧
  y.h.n = y.h.n ∧ y.h.cap = y.h.cap) ∧ ((64 : Nat) = (64 : Nat) ∧ ∀ (j : Nat), j < (64 : Nat) → y.h.at_ j = y.h.at_ j) ∧ True) ∧ (y.h.cap * (2 : Nat) ≤ y.h.cap * (2 : Nat) ∧ y.h.n = y.h.n ∧ ∀ (j : Nat), j < y.h.n → y.h.id
  j = y.h.id j ∧ y.h.key j = y.h.key j ∧ True) ∧ True) ∧ ((HP.mk y.h.n y.h.cap (fun (j : Nat) => y.h.id j) (fun (j : Nat) => y.h.key j) y.h.at_).Full ∧ y.h.n ≤ (100000 : Nat)) ∧ ∀ (v_6 : Int), v_6 = oVal ((HP.mk y.h.n
  y.h.cap (fun (j : Nat) => y.h.id j) (fun (j : Nat) => y.h.key j) y.h.at_).M a.v) → ((!false == decide (y.h.n ≠ (0 : Nat))) = true → x.Ok ∧ a.Ok → False ∧ True ∧ (x.len * (3 : Nat) ≤ x.len * (3 : Nat) ∧ x.len = x.len ∧ ∀
  (j : Nat), j < x.len → x.what j = x.what j ∧ x.id j = x.id j ∧ x.key j = x.key j ∧ True) ∧ True) ∧ ((!false == decide (y.h.n ≠ (0 : Nat))) = false → ((v_4 != y.h.mi) = true → x.Ok ∧ a.Ok → False ∧ True ∧ (x.len * (3 :
  Nat) ≤ x.len * (3 : Nat) ∧ x.len = x.len ∧ ∀ (j : Nat), j < x.len → x.what j = x.what j ∧ x.id j = x.id j ∧ x.key j = x.key j ∧ True) ∧ True) ∧ ((v_4 != y.h.mi) = false → ((v_5 != y.h.mk_) = true → x.Ok ∧ a.Ok → False ∧
  True ∧ (x.len * (3 : Nat) ≤ x.len * (3 : Nat) ∧ x.len = x.len ∧ ∀ (j : Nat), j < x.len → x.what j = x.what j ∧ x.id j = x.id j ∧ x.key j = x.key j ∧ True) ∧ True) ∧ ((v_5 != y.h.mk_) = false → (decide (y.h.n ≠ (0 : Nat))
  = true → (((True ∧ True) ∧ True) ∧ ((65 : Nat) ≤ (65 : Nat) ∧ (True ∧ True ∧ (0 : Nat) = (0 : Nat) ∧ y.h.n = y.h.n ∧ y.h.cap = y.h.cap) ∧ ((64 : Nat) = (64 : Nat) ∧ ∀ (j : Nat), j < (64 : Nat) → y.h.at_ j = y.h.at_ j) ∧
  True) ∧ (y.h.cap * (2 : Nat) ≤ y.h.cap * (2 : Nat) ∧ y.h.n = y.h.n ∧ ∀ (j : Nat), j < y.h.n → y.h.id j = y.h.id j ∧ y.h.key j = y.h.key j ∧ True) ∧ True) ∧ (((↑y.h.n : Int) != IntKind.i64.wrap (v_3 - (1 : Int))) = true →
  x.Ok ∧ a.Ok → False ∧ True ∧ (x.len * (3 : Nat) ≤ x.len * (3 : Nat) ∧ x.len = x.len ∧ ∀ (j : Nat), j < x.len → x.what j = x.what j ∧ x.id j = x.id j ∧ x.key j = x.key j ∧ True) ∧ True) ∧ (((↑y.h.n : Int) !=
  IntKind.i64.wrap (v_3 - (1 : Int))) = false → (oHas ((HP.mk y.h.n y.h.cap (fun (j : Nat) => y.h.id j) (fun (j : Nat) => y.h.key j) y.h.at_).M a.v) = true → ((oHas ((HP.mk y.h.n y.h.cap (fun (j : Nat) => y.h.id j) (fun (j
  : Nat) => y.h.key j) y.h.at_).M a.v) == true) = true → ((!oHas ((HP.mk y.h.n y.h.cap (fun (j : Nat) => y.h.id j) (fun (j : Nat) => y.h.key j) y.h.at_).M a.v)) = true → x.Ok ∧ a.Ok → True ∧ True ∧ (x.len * (3 : Nat) ≤
  x.len * (3 : Nat) ∧ x.len = x.len ∧ ∀ (j : Nat), j < x.len → x.what j = x.what j ∧ x.id j = x.id j ∧ x.key j = x.key j ∧ True) ∧ True) ∧ ((!oHas ((HP.mk y.h.n y.h.cap (fun (j : Nat) => y.h.id j) (fun (j : Nat) => y.h.key
  j) y.h.at_).M a.v)) = false → x.Ok ∧ a.Ok → (v_6 == v) = true ∧ True ∧ (x.len * (3 : Nat) ≤ x.len * (3 : Nat) ∧ x.len = x.len ∧ ∀ (j : Nat), j < x.len → x.what j = x.what j ∧ x.id j = x.id j ∧ x.key j = x.key j ∧ True) ∧
  True)) ∧ ((oHas ((HP.mk y.h.n y.h.cap (fun (j : Nat) => y.h.id j) (fun (j : Nat) => y.h.key j) y.h.at_).M a.v) == true) = false → x.Ok ∧ a.Ok → False ∧ True ∧ (x.len * (3 : Nat) ≤ x.len * (3 : Nat) ∧ x.len = x.len ∧ ∀ (j
  : Nat), j < x.len → x.what j = x.what j ∧ x.id j = x.id j ∧ x.key j = x.key j ∧ True) ∧ True)) ∧ (oHas ((HP.mk y.h.n y.h.cap (fun (j : Nat) => y.h.id j) (fun (j : Nat) => y.h.key j) y.h.at_).M a.v) = false → (decide
  (y.h.n ≠ (0 : Nat)) = true → ((oHas ((HP.mk y.h.n y.h.cap (fun (j : Nat) => y.h.id j) (fun (j : Nat) => y.h.key j) y.h.at_).M a.v) == (y.h.mi == a.v)) = true → ((!oHas ((HP.mk y.h.n y.h.cap (fun (j : Nat) => y.h.id j)
  (fun (j : Nat) => y.h.key j) y.h.at_).M a.v)) = true → x.Ok ∧ a.Ok → True ∧ True ∧ (x.len * (3 : Nat) ≤ x.len * (3 : Nat) ∧ x.len = x.len ∧ ∀ (j : Nat), j < x.len → x.what j = x.what j ∧ x.id j = x.id j ∧ x.key j = x.key
  j ∧ True) ∧ True) ∧ ((!oHas ((HP.mk y.h.n y.h.cap (fun (j : Nat) => y.h.id j) (fun (j : Nat) => y.h.key j) y.h.at_).M a.v)) = false → x.Ok ∧ a.Ok → (v_6 == v) = true ∧ True ∧ (x.len * (3 : Nat) ≤ x.len * (3 : Nat) ∧
  x.len = x.len ∧ ∀ (j : Nat), j < x.len → x.what j = x.what j ∧ x.id j = x.id j ∧ x.key j = x.key j ∧ True) ∧ True)) ∧ ((oHas ((HP.mk y.h.n y.h.cap (fun (j : Nat) => y.h.id j) (fun (j : Nat) => y.h.key j) y.h.at_).M a.v)
  == (y.h.mi == a.v)) = false → x.Ok ∧ a.Ok → False ∧ True ∧ (x.len * (3 : Nat) ≤ x.len * (3 : Nat) ∧ x.len = x.len ∧ ∀ (j : Nat), j < x.len → x.what j = x.what j ∧ x.id j = x.id j ∧ x.key j = x.key j ∧ True) ∧ True)) ∧
  (decide (y.h.n ≠ (0 : Nat)) = false → ((oHas ((HP.mk y.h.n y.h.cap (fun (j : Nat) => y.h.id j) (fun (j : Nat) => y.h.key j) y.h.at_).M a.v) == false) = true → ((!oHas ((HP.mk y.h.n y.h.cap (fun (j : Nat) => y.h.id j)
  (fun (j : Nat) => y.h.key j) y.h.at_).M a.v)) = true → x.Ok ∧ a.Ok → True ∧ True ∧ (x.len * (3 : Nat) ≤ x.len * (3 : Nat) ∧ x.len = x.len ∧ ∀ (j : Nat), j < x.len → x.what j = x.what j ∧ x.id j = x.id j ∧ x.key j = x.key
  j ∧ True) ∧ True) ∧ ((!oHas ((HP.mk y.h.n y.h.cap (fun (j : Nat) => y.h.id j) (fun (j : Nat) => y.h.key j) y.h.at_).M a.v)) = false → x.Ok ∧ a.Ok → (v_6 == v) = true ∧ True ∧ (x.len * (3 : Nat) ≤ x.len * (3 : Nat) ∧
  x.len = x.len ∧ ∀ (j : Nat), j < x.len → x.what j = x.what j ∧ x.id j = x.id j ∧ x.key j = x.key j ∧ True) ∧ True)) ∧ ((oHas ((HP.mk y.h.n y.h.cap (fun (j : Nat) => y.h.id j) (fun (j : Nat) => y.h.key j) y.h.at_).M a.v)
  == false) = false → x.Ok ∧ a.Ok → False ∧ True ∧ (x.len * (3 : Nat) ≤ x.len * (3 : Nat) ∧ x.len = x.len ∧ ∀ (j : Nat), j < x.len → x.what j = x.what j ∧ x.id j = x.id j ∧ x.key j = x.key j ∧ True) ∧ True))))) ∧ (decide
  (y.h.n ≠ (0 : Nat)) = false → (oHas ((HP.mk y.h.n y.h.cap (fun (j : Nat) => y.h.id j) (fun (j : Nat) => y.h.key j) y.h.at_).M a.v) = true → ((oHas ((HP.mk y.h.n y.h.cap (fun (j : Nat) => y.h.id j) (fun (j : Nat) =>
  y.h.key j) y.h.at_).M a.v) == true) = true → ((!oHas ((HP.mk y.h.n y.h.cap (fun (j : Nat) => y.h.id j) (fun (j : Nat) => y.h.key j) y.h.at_).M a.v)) = true → x.Ok ∧ a.Ok → True ∧ True ∧ (x.len * (3 : Nat) ≤ x.len * (3 :
  Nat) ∧ x.len = x.len ∧ ∀ (j : Nat), j < x.len → x.what j = x.what j ∧ x.id j = x.id j ∧ x.key j = x.key j ∧ True) ∧ True) ∧ ((!oHas ((HP.mk y.h.n y.h.cap (fun (j : Nat) => y.h.id j) (fun (j : Nat) => y.h.key j)
  y.h.at_).M a.v)) = false → x.Ok ∧ a.Ok → (v_6 == v) = true ∧ True ∧ (x.len * (3 : Nat) ≤ x.len * (3 : Nat) ∧ x.len = x.len ∧ ∀ (j : Nat), j < x.len → x.what j = x.what j ∧ x.id j = x.id j ∧ x.key j = x.key j ∧ True) ∧
  True)) ∧ ((oHas ((HP.mk y.h.n y.h.cap (fun (j : Nat) => y.h.id j) (fun (j : Nat) => y.h.key j) y.h.at_).M a.v) == true) = false → x.Ok ∧ a.Ok → False ∧ True ∧ (x.len * (3 : Nat) ≤ x.len * (3 : Nat) ∧ x.len = x.len ∧ ∀ (j
  : Nat), j < x.len → x.what j = x.what j ∧ x.id j = x.id j ∧ x.key j = x.key j ∧ True) ∧ True)) ∧ (oHas ((HP.mk y.h.n y.h.cap (fun (j : Nat) => y.h.id j) (fun (j : Nat) => y.h.key j) y.h.at_).M a.v) = false → (decide
  (y.h.n ≠ (0 : Nat)) = true → ((oHas ((HP.mk y.h.n y.h.cap (fun (j : Nat) => y.h.id j) (fun (j : Nat) => y.h.key j) y.h.at_).M a.v) == (y.h.mi == a.v)) = true → ((!oHas ((HP.mk y.h.n y.h.cap (fun (j : Nat) => y.h.id j)
  (fun (j : Nat) => y.h.key j) y.h.at_).M a.v)) = true → x.Ok ∧ a.Ok → True ∧ True ∧ (x.len * (3 : Nat) ≤ x.len * (3 : Nat) ∧ x.len = x.len ∧ ∀ (j : Nat), j < x.len → x.what j = x.what j ∧ x.id j = x.id j ∧ x.key j = x.key
  j ∧ True) ∧ True) ∧ ((!oHas ((HP.mk y.h.n y.h.cap (fun (j : Nat) => y.h.id j) (fun (j : Nat) => y.h.key j) y.h.at_).M a.v)) = false → x.Ok ∧ a.Ok → (v_6 == v) = true ∧ True ∧ (x.len * (3 : Nat) ≤ x.len * (3 : Nat) ∧
  x.len = x.len ∧ ∀ (j : Nat), j < x.len → x.what j = x.what j ∧ x.id j = x.id j ∧ x.key j = x.key j ∧ True) ∧ True)) ∧ ((oHas ((HP.mk y.h.n y.h.cap (fun (j : Nat) => y.h.id j) (fun (j : Nat) => y.h.key j) y.h.at_).M a.v)
  == (y.h.mi == a.v)) = false → x.Ok ∧ a.Ok → False ∧ True ∧ (x.len * (3 : Nat) ≤ x.len * (3 : Nat) ∧ x.len = x.len ∧ ∀ (j : Nat), j < x.len → x.what j = x.what j ∧ x.id j = x.id j ∧ x.key j = x.key j ∧ True) ∧ True)) ∧
  (decide (y.h.n ≠ (0 : Nat)) = false → ((oHas ((HP.mk y.h.n y.h.cap (fun (j : Nat) => y.h.id j) (fun (j : Nat) => y.h.key j) y.h.at_).M a.v) == false) = true → ((!oHas ((HP.mk y.h.n y.h.cap (fun (j : Nat) => y.h.id j)
  (fun (j : Nat) => y.h.key j) y.h.at_).M a.v)) = true → x.Ok ∧ a.Ok → True ∧ True ∧ (x.len * (3 : Nat) ≤ x.len * (3 : Nat) ∧ x.len = x.len ∧ ∀ (j : Nat), j < x.len → x.what j = x.what j ∧ x.id j = x.id j ∧ x.key j = x.key
  j ∧ True) ∧ True) ∧ ((!oHas ((HP.mk y.h.n y.h.cap (fun (j : Nat) => y.h.id j) (fun (j : Nat) => y.h.key j) y.h.at_).M a.v)) = false → x.Ok ∧ a.Ok → (v_6 == v) = true ∧ True ∧ (x.len * (3 : Nat) ≤ x.len * (3 : Nat) ∧
  x.len = x.len ∧ ∀ (j : Nat), j < x.len → x.what j = x.what j ∧ x.id j = x.id j ∧ x.key j = x.key j ∧ True) ∧ True)) ∧ ((oHas ((HP.mk y.h.n y.h.cap (fun (j : Nat) => y.h.id j) (fun (j : Nat) => y.h.key j) y.h.at_).M a.v)
  == false) = false → x.Ok ∧ a.Ok → False ∧ True ∧ (x.len * (3 : Nat) ≤ x.len * (3 : Nat) ∧ x.len = x.len ∧ ∀ (j : Nat), j < x.len → x.what j = x.what j ∧ x.id j = x.id j ∧ x.key j = x.key j ∧ True) ∧ True)))))))) ∧
  (¬y.h.n = (0 : Nat) → ∀ (x_1 : HP), (x_1.Full ∧ (x_1.n = y.h.n - (1 : Nat) ∧ x_1.cap = y.h.cap) ∧ ∀ (i : Int), x_1.M i = if i = y.h.id (0 : Nat) then none else (HP.mk y.h.n y.h.cap (fun (j : Nat) => y.h.id j) (fun (j :
  Nat) => y.h.key j) y.h.at_).M i) → ∀ (v_4 : Int), v_4 = y.h.id (0 : Nat) → ∀ (v_5 : Int), v_5 = y.h.key (0 : Nat) → (((True ∧ True) ∧ a.v = a.v ∧ True) ∧ ((65 : Nat) ≤ (65 : Nat) ∧ (True ∧ True ∧ (0 : Nat) = (0 : Nat) ∧
  x_1.n = x_1.n ∧ x_1.cap = x_1.cap) ∧ ((64 : Nat) = (64 : Nat) ∧ ∀ (j : Nat), j < (64 : Nat) → x_1.at_ j = x_1.at_ j) ∧ True) ∧ (x_1.cap * (2 : Nat) ≤ y.h.cap * (2 : Nat) ∧ x_1.n = x_1.n ∧ ∀ (j : Nat), j < x_1.n → x_1.id
  j = x_1.id j ∧ x_1.key j = x_1.key j ∧ True) ∧ True) ∧ ((HP.mk x_1.n x_1.cap (fun (j : Nat) => x_1.id j) (fun (j : Nat) => x_1.key j) x_1.at_).Full ∧ x_1.n ≤ (100000 : Nat)) ∧ ∀ (v_6 : Int), v_6 = oVal ((HP.mk x_1.n
  x_1.cap (fun (j : Nat) => x_1.id j) (fun (j : Nat) => x_1.key j) x_1.at_).M a.v) → ((!true == decide (y.h.n ≠ (0 : Nat))) = true → x.Ok ∧ a.Ok → False ∧ True ∧ (x.len * (3 : Nat) ≤ x.len * (3 : Nat) ∧ x.len = x.len ∧ ∀
  (j : Nat), j < x.len → x.what j = x.what j ∧ x.id j = x.id j ∧ x.key j = x.key j ∧ True) ∧ True) ∧ ((!true == decide (y.h.n ≠ (0 : Nat))) = false → ((v_4 != y.h.mi) = true → x.Ok ∧ a.Ok → False ∧ True ∧ (x.len * (3 :
  Nat) ≤ x.len * (3 : Nat) ∧ x.len = x.len ∧ ∀ (j : Nat), j < x.len → x.what j = x.what j ∧ x.id j = x.id j ∧ x.key j = x.key j ∧ True) ∧ True) ∧ ((v_4 != y.h.mi) = false → ((v_5 != y.h.mk_) = true → x.Ok ∧ a.Ok → False ∧
  True ∧ (x.len * (3 : Nat) ≤ x.len * (3 : Nat) ∧ x.len = x.len ∧ ∀ (j : Nat), j < x.len → x.what j = x.what j ∧ x.id j = x.id j ∧ x.key j = x.key j ∧ True) ∧ True) ∧ ((v_5 != y.h.mk_) = false → (decide (y.h.n ≠ (0 : Nat))
  = true → (((True ∧ True) ∧ True) ∧ ((65 : Nat) ≤ (65 : Nat) ∧ (True ∧ True ∧ (0 : Nat) = (0 : Nat) ∧ x_1.n = x_1.n ∧ x_1.cap = x_1.cap) ∧ ((64 : Nat) = (64 : Nat) ∧ ∀ (j : Nat), j < (64 : Nat) → x_1.at_ j = x_1.at_ j) ∧
  True) ∧ (x_1.cap * (2 : Nat) ≤ y.h.cap * (2 : Nat) ∧ x_1.n = x_1.n ∧ ∀ (j : Nat), j < x_1.n → x_1.id j = x_1.id j ∧ x_1.key j = x_1.key j ∧ True) ∧ True) ∧ (((↑x_1.n : Int) != IntKind.i64.wrap (v_3 - (1 : Int))) = true →
  x.Ok ∧ a.Ok → False ∧ True ∧ (x.len * (3 : Nat) ≤ x.len * (3 : Nat) ∧ x.len = x.len ∧ ∀ (j : Nat), j < x.len → x.what j = x.what j ∧ x.id j = x.id j ∧ x.key j = x.key j ∧ True) ∧ True) ∧ (((↑x_1.n : Int) !=
  IntKind.i64.wrap (v_3 - (1 : Int))) = false → (oHas ((HP.mk x_1.n x_1.cap (fun (j : Nat) => x_1.id j) (fun (j : Nat) => x_1.key j) x_1.at_).M a.v) = true → ((oHas ((HP.mk y.h.n y.h.cap (fun (j : Nat) => y.h.id j) (fun (j
  : Nat) => y.h.key j) y.h.at_).M a.v) == true) = true → ((!oHas ((HP.mk x_1.n x_1.cap (fun (j : Nat) => x_1.id j) (fun (j : Nat) => x_1.key j) x_1.at_).M a.v)) = true → x.Ok ∧ a.Ok → True ∧ True ∧ (x.len * (3 : Nat) ≤
  x.len * (3 : Nat) ∧ x.len = x.len ∧ ∀ (j : Nat), j < x.len → x.what j = x.what j ∧ x.id j = x.id j ∧ x.key j = x.key j ∧ True) ∧ True) ∧ ((!oHas ((HP.mk x_1.n x_1.cap (fun (j : Nat) => x_1.id j) (fun (j : Nat) => x_1.key
  j) x_1.at_).M a.v)) = false → x.Ok ∧ a.Ok → (v_6 == v) = true ∧ True ∧ (x.len * (3 : Nat) ≤ x.len * (3 : Nat) ∧ x.len = x.len ∧ ∀ (j : Nat), j < x.len → x.what j = x.what j ∧ x.id j = x.id j ∧ x.key j = x.key j ∧ True) ∧
  True)) ∧ ((oHas ((HP.mk y.h.n y.h.cap (fun (j : Nat) => y.h.id j) (fun (j : Nat) => y.h.key j) y.h.at_).M a.v) == true) = false → x.Ok ∧ a.Ok → False ∧ True ∧ (x.len * (3 : Nat) ≤ x.len * (3 : Nat) ∧ x.len = x.len ∧ ∀ (j
  : Nat), j < x.len → x.what j = x.what j ∧ x.id j = x.id j ∧ x.key j = x.key j ∧ True) ∧ True)) ∧ (oHas ((HP.mk x_1.n x_1.cap (fun (j : Nat) => x_1.id j) (fun (j : Nat) => x_1.key j) x_1.at_).M a.v) = false → (decide
  (y.h.n ≠ (0 : Nat)) = true → ((oHas ((HP.mk y.h.n y.h.cap (fun (j : Nat) => y.h.id j) (fun (j : Nat) => y.h.key j) y.h.at_).M a.v) == (y.h.mi == a.v)) = true → ((!oHas ((HP.mk x_1.n x_1.cap (fun (j : Nat) => x_1.id j)
  (fun (j : Nat) => x_1.key j) x_1.at_).M a.v)) = true → x.Ok ∧ a.Ok → True ∧ True ∧ (x.len * (3 : Nat) ≤ x.len * (3 : Nat) ∧ x.len = x.len ∧ ∀ (j : Nat), j < x.len → x.what j = x.what j ∧ x.id j = x.id j ∧ x.key j = x.key
  j ∧ True) ∧ True) ∧ ((!oHas ((HP.mk x_1.n x_1.cap (fun (j : Nat) => x_1.id j) (fun (j : Nat) => x_1.key j) x_1.at_).M a.v)) = false → x.Ok ∧ a.Ok → (v_6 == v) = true ∧ True ∧ (x.len * (3 : Nat) ≤ x.len * (3 : Nat) ∧
  x.len = x.len ∧ ∀ (j : Nat), j < x.len → x.what j = x.what j ∧ x.id j = x.id j ∧ x.key j = x.key j ∧ True) ∧ True)) ∧ ((oHas ((HP.mk y.h.n y.h.cap (fun (j : Nat) => y.h.id j) (fun (j : Nat) => y.h.key j) y.h.at_).M a.v)
  == (y.h.mi == a.v)) = false → x.Ok ∧ a.Ok → False ∧ True ∧ (x.len * (3 : Nat) ≤ x.len * (3 : Nat) ∧ x.len = x.len ∧ ∀ (j : Nat), j < x.len → x.what j = x.what j ∧ x.id j = x.id j ∧ x.key j = x.key j ∧ True) ∧ True)) ∧
  (decide (y.h.n ≠ (0 : Nat)) = false → ((oHas ((HP.mk y.h.n y.h.cap (fun (j : Nat) => y.h.id j) (fun (j : Nat) => y.h.key j) y.h.at_).M a.v) == false) = true → ((!oHas ((HP.mk x_1.n x_1.cap (fun (j : Nat) => x_1.id j)
  (fun (j : Nat) => x_1.key j) x_1.at_).M a.v)) = true → x.Ok ∧ a.Ok → True ∧ True ∧ (x.len * (3 : Nat) ≤ x.len * (3 : Nat) ∧ x.len = x.len ∧ ∀ (j : Nat), j < x.len → x.what j = x.what j ∧ x.id j = x.id j ∧ x.key j = x.key
  j ∧ True) ∧ True) ∧ ((!oHas ((HP.mk x_1.n x_1.cap (fun (j : Nat) => x_1.id j) (fun (j : Nat) => x_1.key j) x_1.at_).M a.v)) = false → x.Ok ∧ a.Ok → (v_6 == v) = true ∧ True ∧ (x.len * (3 : Nat) ≤ x.len * (3 : Nat) ∧
  x.len = x.len ∧ ∀ (j : Nat), j < x.len → x.what j = x.what j ∧ x.id j = x.id j ∧ x.key j = x.key j ∧ True) ∧ True)) ∧ ((oHas ((HP.mk y.h.n y.h.cap (fun (j : Nat) => y.h.id j) (fun (j : Nat) => y.h.key j) y.h.at_).M a.v)
  == false) = false → x.Ok ∧ a.Ok → False ∧ True ∧ (x.len * (3 : Nat) ≤ x.len * (3 : Nat) ∧ x.len = x.len ∧ ∀ (j : Nat), j < x.len → x.what j = x.what j ∧ x.id j = x.id j ∧ x.key j = x.key j ∧ True) ∧ True))))) ∧ (decide
  (y.h.n ≠ (0 : Nat)) = false → (oHas ((HP.mk x_1.n x_1.cap (fun (j : Nat) => x_1.id j) (fun (j : Nat) => x_1.key j) x_1.at_).M a.v) = true → ((oHas ((HP.mk y.h.n y.h.cap (fun (j : Nat) => y.h.id j) (fun (j : Nat) =>
  y.h.key j) y.h.at_).M a.v) == true) = true → ((!oHas ((HP.mk x_1.n x_1.cap (fun (j : Nat) => x_1.id j) (fun (j : Nat) => x_1.key j) x_1.at_).M a.v)) = true → x.Ok ∧ a.Ok → True ∧ True ∧ (x.len * (3 : Nat) ≤ x.len * (3 :
  Nat) ∧ x.len = x.len ∧ ∀ (j : Nat), j < x.len → x.what j = x.what j ∧ x.id j = x.id j ∧ x.key j = x.key j ∧ True) ∧ True) ∧ ((!oHas ((HP.mk x_1.n x_1.cap (fun (j : Nat) => x_1.id j) (fun (j : Nat) => x_1.key j)
  x_1.at_).M a.v)) = false → x.Ok ∧ a.Ok → (v_6 == v) = true ∧ True ∧ (x.len * (3 : Nat) ≤ x.len * (3 : Nat) ∧ x.len = x.len ∧ ∀ (j : Nat), j < x.len → x.what j = x.what j ∧ x.id j = x.id j ∧ x.key j = x.key j ∧ True) ∧
  True)) ∧ ((oHas ((HP.mk y.h.n y.h.cap (fun (j : Nat) => y.h.id j) (fun (j : Nat) => y.h.key j) y.h.at_).M a.v) == true) = false → x.Ok ∧ a.Ok → False ∧ True ∧ (x.len * (3 : Nat) ≤ x.len * (3 : Nat) ∧ x.len = x.len ∧ ∀ (j
  : Nat), j < x.len → x.what j = x.what j ∧ x.id j = x.id j ∧ x.key j = x.key j ∧ True) ∧ True)) ∧ (oHas ((HP.mk x_1.n x_1.cap (fun (j : Nat) => x_1.id j) (fun (j : Nat) => x_1.key j) x_1.at_).M a.v) = false → (decide
  (y.h.n ≠ (0 : Nat)) = true → ((oHas ((HP.mk y.h.n y.h.cap (fun (j : Nat) => y.h.id j) (fun (j : Nat) => y.h.key j) y.h.at_).M a.v) == (y.h.mi == a.v)) = true → ((!oHas ((HP.mk x_1.n x_1.cap (fun (j : Nat) => x_1.id j)
  (fun (j : Nat) => x_1.key j) x_1.at_).M a.v)) = true → x.Ok ∧ a.Ok → True ∧ True ∧ (x.len * (3 : Nat) ≤ x.len * (3 : Nat) ∧ x.len = x.len ∧ ∀ (j : Nat), j < x.len → x.what j = x.what j ∧ x.id j = x.id j ∧ x.key j = x.key
  j ∧ True) ∧ True) ∧ ((!oHas ((HP.mk x_1.n x_1.cap (fun (j : Nat) => x_1.id j) (fun (j : Nat) => x_1.key j) x_1.at_).M a.v)) = false → x.Ok ∧ a.Ok → (v_6 == v) = true ∧ True ∧ (x.len * (3 : Nat) ≤ x.len * (3 : Nat) ∧
  x.len = x.len ∧ ∀ (j : Nat), j < x.len → x.what j = x.what j ∧ x.id j = x.id j ∧ x.key j = x.key j ∧ True) ∧ True)) ∧ ((oHas ((HP.mk y.h.n y.h.cap (fun (j : Nat) => y.h.id j) (fun (j : Nat) => y.h.key j) y.h.at_).M a.v)
  == (y.h.mi == a.v)) = false → x.Ok ∧ a.Ok → False ∧ True ∧ (x.len * (3 : Nat) ≤ x.len * (3 : Nat) ∧ x.len = x.len ∧ ∀ (j : Nat), j < x.len → x.what j = x.what j ∧ x.id j = x.id j ∧ x.key j = x.key j ∧ True) ∧ True)) ∧
  (decide (y.h.n ≠ (0 : Nat)) = false → ((oHas ((HP.mk y.h.n y.h.cap (fun (j : Nat) => y.h.id j) (fun (j : Nat) => y.h.key j) y.h.at_).M a.v) == false) = true → ((!oHas ((HP.mk x_1.n x_1.cap (fun (j : Nat) => x_1.id j)
  (fun (j : Nat) => x_1.key j) x_1.at_).M a.v)) = true → x.Ok ∧ a.Ok → True ∧ True ∧ (x.len * (3 : Nat) ≤ x.len * (3 : Nat) ∧ x.len = x.len ∧ ∀ (j : Nat), j < x.len → x.what j = x.what j ∧ x.id j = x.id j ∧ x.key j = x.key
  j ∧ True) ∧ True) ∧ ((!oHas ((HP.mk x_1.n x_1.cap (fun (j : Nat) => x_1.id j) (fun (j : Nat) => x_1.key j) x_1.at_).M a.v)) = false → x.Ok ∧ a.Ok → (v_6 == v) = true ∧ True ∧ (x.len * (3 : Nat) ≤ x.len * (3 : Nat) ∧
  x.len = x.len ∧ ∀ (j : Nat), j < x.len → x.what j = x.what j ∧ x.id j = x.id j ∧ x.key j = x.key j ∧ True) ∧ True)) ∧ ((oHas ((HP.mk y.h.n y.h.cap (fun (j : Nat) => y.h.id j) (fun (j : Nat) => y.h.key j) y.h.at_).M a.v)
  == false) = false → x.Ok ∧ a.Ok → False ∧ True ∧ (x.len * (3 : Nat) ≤ x.len * (3 : Nat) ∧ x.len = x.len ∧ ∀ (j : Nat), j < x.len → x.what j = x.what j ∧ x.id j = x.id j ∧ x.key j = x.key j ∧ True) ∧ True)))))))))) ∧
  (¬y.h.n = (0 : Nat) → ∀ (v : Int), v = y.h.id (0 : Nat) → ∀ (v_1 : Int), v_1 = y.h.key (0 : Nat) → ∀ (v_2 : Int), v_2 = (0 : Int) → ((∃ (y_1 : Nat), (mK0 x a.v).I y_1 ∧ ((a.v = a.v ∧ (True ∧ True) ∧ v = (-1 : Int) ∧ v_1
  = (0 : Int) ∧ true = false ∧ v_2 = (↑y_1 : Int) ∧ True) ∧ (x.len * (3 : Nat) ≤ x.len * (3 : Nat) ∧ x.len = x.len ∧ ∀ (j : Nat), j < x.len → x.what j = x.what j ∧ x.id j = x.id j ∧ x.key j = x.key j ∧ True) ∧ ((65 : Nat)
  ≤ (65 : Nat) ∧ False ∧ ((64 : Nat) = (64 : Nat) ∧ ∀ (j : Nat), j < (64 : Nat) → y.h.at_ j = a0 j) ∧ True) ∧ True) ∧ True) ∨ ∃ (y_1 : SK), (y_1.k ≤ (64 : Nat) ∧ y_1.h.Full ∧ y_1.h.n ≤ (200 : Nat)) ∧ ((a.v = a.v ∧ (True ∧
  True) ∧ v = y_1.h.mi ∧ v_1 = y_1.h.mk_ ∧ true = decide (y_1.h.n ≠ (0 : Nat)) ∧ v_2 = (↑y_1.k : Int) ∧ True) ∧ (x.len * (3 : Nat) ≤ x.len * (3 : Nat) ∧ x.len = x.len ∧ ∀ (j : Nat), j < x.len → x.what j = x.what j ∧ x.id j
  = x.id j ∧ x.key j = x.key j ∧ True) ∧ ((65 : Nat) ≤ (65 : Nat) ∧ (True ∧ True ∧ (0 : Nat) = (0 : Nat) ∧ y.h.n = y_1.h.n ∧ y.h.cap = y_1.h.cap) ∧ ((64 : Nat) = (64 : Nat) ∧ ∀ (j : Nat), j < (64 : Nat) → y.h.at_ j =
  y_1.h.at_ j) ∧ True) ∧ (y_1.h.cap * (2 : Nat) ≤ y.h.cap * (2 : Nat) ∧ y_1.h.n ≤ y.h.n ∧ ∀ (j : Nat), j < y_1.h.n → y.h.id j = y_1.h.id j ∧ y.h.key j = y_1.h.key j ∧ True) ∧ True) ∧ True) ∧ (∀ (y : Nat), (mK0 x a.v).I y →
  (decide ((↑y : Int) < (64 : Int)) = true → (((True ∧ True) ∧ (↑y : Int) = (↑y : Int) ∧ True) ∧ ((65 : Nat) ≤ (65 : Nat) ∧ True ∧ ((64 : Nat) = (64 : Nat) ∧ ∀ (j : Nat), j < (64 : Nat) → a0 j = a0 j) ∧ True) ∧ True) ∧ (∀
  (i : Nat), i < (64 : Nat) → a0 i = (0 : Int)) ∧ ∀ (v : Int), v = oVal none → (oHas none = true → x.Ok ∧ a.Ok → False ∧ True ∧ (x.len * (3 : Nat) ≤ x.len * (3 : Nat) ∧ x.len = x.len ∧ ∀ (j : Nat), j < x.len → x.what j =
  x.what j ∧ x.id j = x.id j ∧ x.key j = x.key j ∧ True) ∧ True) ∧ (oHas none = false → ∀ (v : Int), v = IntKind.i64.wrap ((↑y : Int) + (1 : Int)) → (∃ (y_1 : Nat), (mK0 x a.v).I y_1 ∧ ((a.v = a.v ∧ (True ∧ True) ∧ (-1 :
  Int) = (-1 : Int) ∧ (0 : Int) = (0 : Int) ∧ True ∧ v = (↑y_1 : Int) ∧ True) ∧ (x.len * (3 : Nat) ≤ x.len * (3 : Nat) ∧ x.len = x.len ∧ ∀ (j : Nat), j < x.len → x.what j = x.what j ∧ x.id j = x.id j ∧ x.key j = x.key j ∧
  True) ∧ ((65 : Nat) ≤ (65 : Nat) ∧ True ∧ ((64 : Nat) = (64 : Nat) ∧ ∀ (j : Nat), j < (64 : Nat) → a0 j = a0 j) ∧ True) ∧ True) ∧ (mK0 x a.v).μ y_1 < (mK0 x a.v).μ y) ∨ ∃ (y_1 : SK), (y_1.k ≤ (64 : Nat) ∧ y_1.h.Full ∧
  y_1.h.n ≤ (200 : Nat)) ∧ False ∧ (mK1 x a.v).μ y_1 < (mK0 x a.v).μ y)) ∧ (decide ((↑y : Int) < (64 : Int)) = false → (((True ∧ True) ∧ a.v = a.v ∧ True) ∧ ((65 : Nat) ≤ (65 : Nat) ∧ True ∧ ((64 : Nat) = (64 : Nat) ∧ ∀ (j
  : Nat), j < (64 : Nat) → a0 j = a0 j) ∧ True) ∧ True) ∧ (∀ (i : Nat), i < (64 : Nat) → a0 i = (0 : Int)) ∧ ∀ (v : Int), v = oVal none → (((True ∧ True) ∧ True) ∧ ((65 : Nat) ≤ (65 : Nat) ∧ True ∧ ((64 : Nat) = (64 : Nat)
  ∧ ∀ (j : Nat), j < (64 : Nat) → a0 j = a0 j) ∧ True) ∧ True) ∧ ∀ (v_3 : Int), v_3 = (0 : Int) → (((True ∧ True) ∧ True) ∧ ((65 : Nat) ≤ (65 : Nat) ∧ True ∧ ((64 : Nat) = (64 : Nat) ∧ ∀ (j : Nat), j < (64 : Nat) → a0 j =
  a0 j) ∧ True) ∧ True) ∧ (∀ (i : Nat), i < (64 : Nat) → a0 i = (0 : Int)) ∧ ∀ (v_4 : Int), v_4 = (-1 : Int) → ∀ (v_5 : Int), v_5 = (0 : Int) → (((True ∧ True) ∧ a.v = a.v ∧ True) ∧ ((65 : Nat) ≤ (65 : Nat) ∧ True ∧ ((64 :
  Nat) = (64 : Nat) ∧ ∀ (j : Nat), j < (64 : Nat) → a0 j = a0 j) ∧ True) ∧ True) ∧ (∀ (i : Nat), i < (64 : Nat) → a0 i = (0 : Int)) ∧ ∀ (v_6 : Int), v_6 = oVal none → ((!false == false) = true → x.Ok ∧ a.Ok → False ∧ True
  ∧ (x.len * (3 : Nat) ≤ x.len * (3 : Nat) ∧ x.len = x.len ∧ ∀ (j : Nat), j < x.len → x.what j = x.what j ∧ x.id j = x.id j ∧ x.key j = x.key j ∧ True) ∧ True) ∧ ((!false == false) = false → ((v_4 != (-1 : Int)) = true →
  x.Ok ∧ a.Ok → False ∧ True ∧ (x.len * (3 : Nat) ≤ x.len * (3 : Nat) ∧ x.len = x.len ∧ ∀ (j : Nat), j < x.len → x.what j = x.what j ∧ x.id j = x.id j ∧ x.key j = x.key j ∧ True) ∧ True) ∧ ((v_4 != (-1 : Int)) = false →
  ((v_5 != (0 : Int)) = true → x.Ok ∧ a.Ok → False ∧ True ∧ (x.len * (3 : Nat) ≤ x.len * (3 : Nat) ∧ x.len = x.len ∧ ∀ (j : Nat), j < x.len → x.what j = x.what j ∧ x.id j = x.id j ∧ x.key j = x.key j ∧ True) ∧ True) ∧
  ((v_5 != (0 : Int)) = false → (oHas none = true → ((oHas none == true) = true → ((!oHas none) = true → x.Ok ∧ a.Ok → True ∧ True ∧ (x.len * (3 : Nat) ≤ x.len * (3 : Nat) ∧ x.len = x.len ∧ ∀ (j : Nat), j < x.len → x.what
  j = x.what j ∧ x.id j = x.id j ∧ x.key j = x.key j ∧ True) ∧ True) ∧ ((!oHas none) = false → x.Ok ∧ a.Ok → (v_6 == v) = true ∧ True ∧ (x.len * (3 : Nat) ≤ x.len * (3 : Nat) ∧ x.len = x.len ∧ ∀ (j : Nat), j < x.len →
  x.what j = x.what j ∧ x.id j = x.id j ∧ x.key j = x.key j ∧ True) ∧ True)) ∧ ((oHas none == true) = false → x.Ok ∧ a.Ok → False ∧ True ∧ (x.len * (3 : Nat) ≤ x.len * (3 : Nat) ∧ x.len = x.len ∧ ∀ (j : Nat), j < x.len →
  x.what j = x.what j ∧ x.id j = x.id j ∧ x.key j = x.key j ∧ True) ∧ True)) ∧ (oHas none = false → ((oHas none == false) = true → ((!oHas none) = true → x.Ok ∧ a.Ok → True ∧ True ∧ (x.len * (3 : Nat) ≤ x.len * (3 : Nat) ∧
  x.len = x.len ∧ ∀ (j : Nat), j < x.len → x.what j = x.what j ∧ x.id j = x.id j ∧ x.key j = x.key j ∧ True) ∧ True) ∧ ((!oHas none) = false → x.Ok ∧ a.Ok → (v_6 == v) = true ∧ True ∧ (x.len * (3 : Nat) ≤ x.len * (3 : Nat)
  ∧ x.len = x.len ∧ ∀ (j : Nat), j < x.len → x.what j = x.what j ∧ x.id j = x.id j ∧ x.key j = x.key j ∧ True) ∧ True)) ∧ ((oHas none == false) = false → x.Ok ∧ a.Ok → False ∧ True ∧ (x.len * (3 : Nat) ≤ x.len * (3 : Nat)
  ∧ x.len = x.len ∧ ∀ (j : Nat), j < x.len → x.what j = x.what j ∧ x.id j = x.id j ∧ x.key j = x.key j ∧ True) ∧ True))))))) ∧ ∀ (y : SK), y.k ≤ (64 : Nat) ∧ y.h.Full ∧ y.h.n ≤ (200 : Nat) → (decide ((↑y.k : Int) < (64 :
  Int)) = true → (((True ∧ True) ∧ (↑y.k : Int) = (↑y.k : Int) ∧ True) ∧ ((65 : Nat) ≤ (65 : Nat) ∧ (True ∧ True ∧ (0 : Nat) = (0 : Nat) ∧ y.h.n = y.h.n ∧ y.h.cap = y.h.cap) ∧ ((64 : Nat) = (64 : Nat) ∧ ∀ (j : Nat), j <
  (64 : Nat) → y.h.at_ j = y.h.at_ j) ∧ True) ∧ (y.h.cap * (2 : Nat) ≤ y.h.cap * (2 : Nat) ∧ y.h.n = y.h.n ∧ ∀ (j : Nat), j < y.h.n → y.h.id j = y.h.id j ∧ y.h.key j = y.h.key j ∧ True) ∧ True) ∧ ((HP.mk y.h.n y.h.cap (fun
  (j : Nat) => y.h.id j) (fun (j : Nat) => y.h.key j) y.h.at_).Full ∧ y.h.n ≤ (100000 : Nat)) ∧ ∀ (v : Int), v = oVal ((HP.mk y.h.n y.h.cap (fun (j : Nat) => y.h.id j) (fun (j : Nat) => y.h.key j) y.h.at_).M (↑y.k : Int))
  → (oHas ((HP.mk y.h.n y.h.cap (fun (j : Nat) => y.h.id j) (fun (j : Nat) => y.h.key j) y.h.at_).M (↑y.k : Int)) = true → ((!decide (y.h.n ≠ (0 : Nat))) = true → x.Ok ∧ a.Ok → False ∧ True ∧ (x.len * (3 : Nat) ≤ x.len *
  (3 : Nat) ∧ x.len = x.len ∧ ∀ (j : Nat), j < x.len → x.what j = x.what j ∧ x.id j = x.id j ∧ x.key j = x.key j ∧ True) ∧ True) ∧ ((!decide (y.h.n ≠ (0 : Nat))) = false → (decide (v < y.h.mk_) = true → x.Ok ∧ a.Ok → False
  ∧ True ∧ (x.len * (3 : Nat) ≤ x.len * (3 : Nat) ∧ x.len = x.len ∧ ∀ (j : Nat), j < x.len → x.what j = x.what j ∧ x.id j = x.id j ∧ x.key j = x.key j ∧ True) ∧ True) ∧ (decide (v < y.h.mk_) = false → ((v == y.h.mk_) =
  true → (decide ((↑y.k : Int) < y.h.mi) = true → x.Ok ∧ a.Ok → False ∧ True ∧ (x.len * (3 : Nat) ≤ x.len * (3 : Nat) ∧ x.len = x.len ∧ ∀ (j : Nat), j < x.len → x.what j = x.what j ∧ x.id j = x.id j ∧ x.key j = x.key j ∧
  True) ∧ True) ∧ (decide ((↑y.k : Int) < y.h.mi) = false → ∀ (v : Int), v = IntKind.i64.wrap ((↑y.k : Int) + (1 : Int)) → (∃ (y_1 : Nat), (mK0 x a.v).I y_1 ∧ ((a.v = a.v ∧ (True ∧ True) ∧ y.h.mi = (-1 : Int) ∧ y.h.mk_ =
  (0 : Int) ∧ decide (y.h.n ≠ (0 : Nat)) = false ∧ v = (↑y_1 : Int) ∧ True) ∧ (x.len * (3 : Nat) ≤ x.len * (3 : Nat) ∧ x.len = x.len ∧ ∀ (j : Nat), j < x.len → x.what j = x.what j ∧ x.id j = x.id j ∧ x.key j = x.key j ∧
  True) ∧ ((65 : Nat) ≤ (65 : Nat) ∧ False ∧ ((64 : Nat) = (64 : Nat) ∧ ∀ (j : Nat), j < (64 : Nat) → y.h.at_ j = a0 j) ∧ True) ∧ True) ∧ (mK0 x a.v).μ y_1 < (mK1 x a.v).μ y) ∨ ∃ (y_1 : SK), (y_1.k ≤ (64 : Nat) ∧
  y_1.h.Full ∧ y_1.h.n ≤ (200 : Nat)) ∧ ((a.v = a.v ∧ (True ∧ True) ∧ y.h.mi = y_1.h.mi ∧ y.h.mk_ = y_1.h.mk_ ∧ decide (y.h.n ≠ (0 : Nat)) = decide (y_1.h.n ≠ (0 : Nat)) ∧ v = (↑y_1.k : Int) ∧ True) ∧ (x.len * (3 : Nat) ≤
  x.len * (3 : Nat) ∧ x.len = x.len ∧ ∀ (j : Nat), j < x.len → x.what j = x.what j ∧ x.id j = x.id j ∧ x.key j = x.key j ∧ True) ∧ ((65 : Nat) ≤ (65 : Nat) ∧ (True ∧ True ∧ (0 : Nat) = (0 : Nat) ∧ y.h.n = y_1.h.n ∧ y.h.cap
  = y_1.h.cap) ∧ ((64 : Nat) = (64 : Nat) ∧ ∀ (j : Nat), j < (64 : Nat) → y.h.at_ j = y_1.h.at_ j) ∧ True) ∧ (y_1.h.cap * (2 : Nat) ≤ y.h.cap * (2 : Nat) ∧ y_1.h.n ≤ y.h.n ∧ ∀ (j : Nat), j < y_1.h.n → y.h.id j = y_1.h.id j
  ∧ y.h.key j = y_1.h.key j ∧ True) ∧ True) ∧ (mK1 x a.v).μ y_1 < (mK1 x a.v).μ y)) ∧ ((v == y.h.mk_) = false → ∀ (v : Int), v = IntKind.i64.wrap ((↑y.k : Int) + (1 : Int)) → (∃ (y_1 : Nat), (mK0 x a.v).I y_1 ∧ ((a.v = a.v
  ∧ (True ∧ True) ∧ y.h.mi = (-1 : Int) ∧ y.h.mk_ = (0 : Int) ∧ decide (y.h.n ≠ (0 : Nat)) = false ∧ v = (↑y_1 : Int) ∧ True) ∧ (x.len * (3 : Nat) ≤ x.len * (3 : Nat) ∧ x.len = x.len ∧ ∀ (j : Nat), j < x.len → x.what j =
  x.what j ∧ x.id j = x.id j ∧ x.key j = x.key j ∧ True) ∧ ((65 : Nat) ≤ (65 : Nat) ∧ False ∧ ((64 : Nat) = (64 : Nat) ∧ ∀ (j : Nat), j < (64 : Nat) → y.h.at_ j = a0 j) ∧ True) ∧ True) ∧ (mK0 x a.v).μ y_1 < (mK1 x a.v).μ
  y) ∨ ∃ (y_1 : SK), (y_1.k ≤ (64 : Nat) ∧ y_1.h.Full ∧ y_1.h.n ≤ (200 : Nat)) ∧ ((a.v = a.v ∧ (True ∧ True) ∧ y.h.mi = y_1.h.mi ∧ y.h.mk_ = y_1.h.mk_ ∧ decide (y.h.n ≠ (0 : Nat)) = decide (y_1.h.n ≠ (0 : Nat)) ∧ v =
  (↑y_1.k : Int) ∧ True) ∧ (x.len * (3 : Nat) ≤ x.len * (3 : Nat) ∧ x.len = x.len ∧ ∀ (j : Nat), j < x.len → x.what j = x.what j ∧ x.id j = x.id j ∧ x.key j = x.key j ∧ True) ∧ ((65 : Nat) ≤ (65 : Nat) ∧ (True ∧ True ∧ (0
  : Nat) = (0 : Nat) ∧ y.h.n = y_1.h.n ∧ y.h.cap = y_1.h.cap) ∧ ((64 : Nat) = (64 : Nat) ∧ ∀ (j : Nat), j < (64 : Nat) → y.h.at_ j = y_1.h.at_ j) ∧ True) ∧ (y_1.h.cap * (2 : Nat) ≤ y.h.cap * (2 : Nat) ∧ y_1.h.n ≤ y.h.n ∧ ∀
  (j : Nat), j < y_1.h.n → y.h.id j = y_1.h.id j ∧ y.h.key j = y_1.h.key j ∧ True) ∧ True) ∧ (mK1 x a.v).μ y_1 < (mK1 x a.v).μ y)))) ∧ (oHas ((HP.mk y.h.n y.h.cap (fun (j : Nat) => y.h.id j) (fun (j : Nat) => y.h.key j)
  y.h.at_).M (↑y.k : Int)) = false → ∀ (v : Int), v = IntKind.i64.wrap ((↑y.k : Int) + (1 : Int)) → (∃ (y_1 : Nat), (mK0 x a.v).I y_1 ∧ ((a.v = a.v ∧ (True ∧ True) ∧ y.h.mi = (-1 : Int) ∧ y.h.mk_ = (0 : Int) ∧ decide
  (y.h.n ≠ (0 : Nat)) = false ∧ v = (↑y_1 : Int) ∧ True) ∧ (x.len * (3 : Nat) ≤ x.len * (3 : Nat) ∧ x.len = x.len ∧ ∀ (j : Nat), j < x.len → x.what j = x.what j ∧ x.id j = x.id j ∧ x.key j = x.key j ∧ True) ∧ ((65 : Nat) ≤
  (65 : Nat) ∧ False ∧ ((64 : Nat) = (64 : Nat) ∧ ∀ (j : Nat), j < (64 : Nat) → y.h.at_ j = a0 j) ∧ True) ∧ True) ∧ (mK0 x a.v).μ y_1 < (mK1 x a.v).μ y) ∨ ∃ (y_1 : SK), (y_1.k ≤ (64 : Nat) ∧ y_1.h.Full ∧ y_1.h.n ≤ (200 :
  Nat)) ∧ ((a.v = a.v ∧ (True ∧ True) ∧ y.h.mi = y_1.h.mi ∧ y.h.mk_ = y_1.h.mk_ ∧ decide (y.h.n ≠ (0 : Nat)) = decide (y_1.h.n ≠ (0 : Nat)) ∧ v = (↑y_1.k : Int) ∧ True) ∧ (x.len * (3 : Nat) ≤ x.len * (3 : Nat) ∧ x.len =
  x.len ∧ ∀ (j : Nat), j < x.len → x.what j = x.what j ∧ x.id j = x.id j ∧ x.key j = x.key j ∧ True) ∧ ((65 : Nat) ≤ (65 : Nat) ∧ (True ∧ True ∧ (0 : Nat) = (0 : Nat) ∧ y.h.n = y_1.h.n ∧ y.h.cap = y_1.h.cap) ∧ ((64 : Nat)
  = (64 : Nat) ∧ ∀ (j : Nat), j < (64 : Nat) → y.h.at_ j = y_1.h.at_ j) ∧ True) ∧ (y_1.h.cap * (2 : Nat) ≤ y.h.cap * (2 : Nat) ∧ y_1.h.n ≤ y.h.n ∧ ∀ (j : Nat), j < y_1.h.n → y.h.id j = y_1.h.id j ∧ y.h.key j = y_1.h.key j
  ∧ True) ∧ True) ∧ (mK1 x a.v).μ y_1 < (mK1 x a.v).μ y)) ∧ (decide ((↑y.k : Int) < (64 : Int)) = false → (((True ∧ True) ∧ a.v = a.v ∧ True) ∧ ((65 : Nat) ≤ (65 : Nat) ∧ (True ∧ True ∧ (0 : Nat) = (0 : Nat) ∧ y.h.n =
  y.h.n ∧ y.h.cap = y.h.cap) ∧ ((64 : Nat) = (64 : Nat) ∧ ∀ (j : Nat), j < (64 : Nat) → y.h.at_ j = y.h.at_ j) ∧ True) ∧ (y.h.cap * (2 : Nat) ≤ y.h.cap * (2 : Nat) ∧ y.h.n = y.h.n ∧ ∀ (j : Nat), j < y.h.n → y.h.id j =
  y.h.id j ∧ y.h.key j = y.h.key j ∧ True) ∧ True) ∧ ((HP.mk y.h.n y.h.cap (fun (j : Nat) => y.h.id j) (fun (j : Nat) => y.h.key j) y.h.at_).Full ∧ y.h.n ≤ (100000 : Nat)) ∧ ∀ (v : Int), v = oVal ((HP.mk y.h.n y.h.cap (fun
  (j : Nat) => y.h.id j) (fun (j : Nat) => y.h.key j) y.h.at_).M a.v) → (((True ∧ True) ∧ True) ∧ ((65 : Nat) ≤ (65 : Nat) ∧ (True ∧ True ∧ (0 : Nat) = (0 : Nat) ∧ y.h.n = y.h.n ∧ y.h.cap = y.h.cap) ∧ ((64 : Nat) = (64 :
  Nat) ∧ ∀ (j : Nat), j < (64 : Nat) → y.h.at_ j = y.h.at_ j) ∧ True) ∧ (y.h.cap * (2 : Nat) ≤ y.h.cap * (2 : Nat) ∧ y.h.n = y.h.n ∧ ∀ (j : Nat), j < y.h.n → y.h.id j = y.h.id j ∧ y.h.key j = y.h.key j ∧ True) ∧ True) ∧ ∀
  (v_3 : Int), v_3 = (↑y.h.n : Int) → (((True ∧ True) ∧ True) ∧ ((65 : Nat) ≤ (65 : Nat) ∧ (True ∧ True ∧ (0 : Nat) = (0 : Nat) ∧ y.h.n = y.h.n ∧ y.h.cap = y.h.cap) ∧ ((64 : Nat) = (64 : Nat) ∧ ∀ (j : Nat), j < (64 : Nat)
  → y.h.at_ j = y.h.at_ j) ∧ True) ∧ (y.h.cap * (2 : Nat) ≤ y.h.cap * (2 : Nat) ∧ y.h.n = y.h.n ∧ ∀ (j : Nat), j < y.h.n → y.h.id j = y.h.id j ∧ y.h.key j = y.h.key j ∧ True) ∧ True) ∧ ((HP.mk y.h.n y.h.cap (fun (j : Nat)
  => y.h.id j) (fun (j : Nat) => y.h.key j) y.h.at_).Full ∧ y.h.n ≤ (10000 : Nat)) ∧ (y.h.n = (0 : Nat) → ∀ (v_4 : Int), v_4 = (-1 : Int) → ∀ (v_5 : Int), v_5 = (0 : Int) → (((True ∧ True) ∧ a.v = a.v ∧ True) ∧ ((65 : Nat)
  ≤ (65 : Nat) ∧ (True ∧ True ∧ (0 : Nat) = (0 : Nat) ∧ y.h.n = y.h.n ∧ y.h.cap = y.h.cap) ∧ ((64 : Nat) = (64 : Nat) ∧ ∀ (j : Nat), j < (64 : Nat) → y.h.at_ j = y.h.at_ j) ∧ True) ∧ (y.h.cap * (2 : Nat) ≤ y.h.cap * (2 :
  Nat) ∧ y.h.n = y.h.n ∧ ∀ (j : Nat), j < y.h.n → y.h.id j = y.h.id j ∧ y.h.key j = y.h.key j ∧ True) ∧ True) ∧ ((HP.mk y.h.n y.h.cap (fun (j : Nat) => y.h.id j) (fun (j : Nat) => y.h.key j) y.h.at_).Full ∧ y.h.n ≤ (100000
  : Nat)) ∧ ∀ (v_6 : Int), v_6 = oVal ((HP.mk y.h.n y.h.cap (fun (j : Nat) => y.h.id j) (fun (j : Nat) => y.h.key j) y.h.at_).M a.v) → ((!false == decide (y.h.n ≠ (0 : Nat))) = true → x.Ok ∧ a.Ok → False ∧ True ∧ (x.len *
  (3 : Nat) ≤ x.len * (3 : Nat) ∧ x.len = x.len ∧ ∀ (j : Nat), j < x.len → x.what j = x.what j ∧ x.id j = x.id j ∧ x.key j = x.key j ∧ True) ∧ True) ∧ ((!false == decide (y.h.n ≠ (0 : Nat))) = false → ((v_4 != y.h.mi) =
  true → x.Ok ∧ a.Ok → False ∧ True ∧ (x.len * (3 : Nat) ≤ x.len * (3 : Nat) ∧ x.len = x.len ∧ ∀ (j : Nat), j < x.len → x.what j = x.what j ∧ x.id j = x.id j ∧ x.key j = x.key j ∧ True) ∧ True) ∧ ((v_4 != y.h.mi) = false →
  ((v_5 != y.h.mk_) = true → x.Ok ∧ a.Ok → False ∧ True ∧ (x.len * (3 : Nat) ≤ x.len * (3 : Nat) ∧ x.len = x.len ∧ ∀ (j : Nat), j < x.len → x.what j = x.what j ∧ x.id j = x.id j ∧ x.key j = x.key j ∧ True) ∧ True) ∧ ((v_5
  != y.h.mk_) = false → (decide (y.h.n ≠ (0 : Nat)) = true → (((True ∧ True) ∧ True) ∧ ((65 : Nat) ≤ (65 : Nat) ∧ (True ∧ True ∧ (0 : Nat) = (0 : Nat) ∧ y.h.n = y.h.n ∧ y.h.cap = y.h.cap) ∧ ((64 : Nat) = (64 : Nat) ∧ ∀ (j
  : Nat), j < (64 : Nat) → y.h.at_ j = y.h.at_ j) ∧ True) ∧ (y.h.cap * (2 : Nat) ≤ y.h.cap * (2 : Nat) ∧ y.h.n = y.h.n ∧ ∀ (j : Nat), j < y.h.n → y.h.id j = y.h.id j ∧ y.h.key j = y.h.key j ∧ True) ∧ True) ∧ (((↑y.h.n :
  Int) != IntKind.i64.wrap (v_3 - (1 : Int))) = true → x.Ok ∧ a.Ok → False ∧ True ∧ (x.len * (3 : Nat) ≤ x.len * (3 : Nat) ∧ x.len = x.len ∧ ∀ (j : Nat), j < x.len → x.what j = x.what j ∧ x.id j = x.id j ∧ x.key j = x.key
  j ∧ True) ∧ True) ∧ (((↑y.h.n : Int) != IntKind.i64.wrap (v_3 - (1 : Int))) = false → (oHas ((HP.mk y.h.n y.h.cap (fun (j : Nat) => y.h.id j) (fun (j : Nat) => y.h.key j) y.h.at_).M a.v) = true → ((oHas ((HP.mk y.h.n
  y.h.cap (fun (j : Nat) => y.h.id j) (fun (j : Nat) => y.h.key j) y.h.at_).M a.v) == true) = true → ((!oHas ((HP.mk y.h.n y.h.cap (fun (j : Nat) => y.h.id j) (fun (j : Nat) => y.h.key j) y.h.at_).M a.v)) = true → x.Ok ∧
  a.Ok → True ∧ True ∧ (x.len * (3 : Nat) ≤ x.len * (3 : Nat) ∧ x.len = x.len ∧ ∀ (j : Nat), j < x.len → x.what j = x.what j ∧ x.id j = x.id j ∧ x.key j = x.key j ∧ True) ∧ True) ∧ ((!oHas ((HP.mk y.h.n y.h.cap (fun (j :
  Nat) => y.h.id j) (fun (j : Nat) => y.h.key j) y.h.at_).M a.v)) = false → x.Ok ∧ a.Ok → (v_6 == v) = true ∧ True ∧ (x.len * (3 : Nat) ≤ x.len * (3 : Nat) ∧ x.len = x.len ∧ ∀ (j : Nat), j < x.len → x.what j = x.what j ∧
  x.id j = x.id j ∧ x.key j = x.key j ∧ True) ∧ True)) ∧ ((oHas ((HP.mk y.h.n y.h.cap (fun (j : Nat) => y.h.id j) (fun (j : Nat) => y.h.key j) y.h.at_).M a.v) == true) = false → x.Ok ∧ a.Ok → False ∧ True ∧ (x.len * (3 :
  Nat) ≤ x.len * (3 : Nat) ∧ x.len = x.len ∧ ∀ (j : Nat), j < x.len → x.what j = x.what j ∧ x.id j = x.id j ∧ x.key j = x.key j ∧ True) ∧ True)) ∧ (oHas ((HP.mk y.h.n y.h.cap (fun (j : Nat) => y.h.id j) (fun (j : Nat) =>
  y.h.key j) y.h.at_).M a.v) = false → (decide (y.h.n ≠ (0 : Nat)) = true → ((oHas ((HP.mk y.h.n y.h.cap (fun (j : Nat) => y.h.id j) (fun (j : Nat) => y.h.key j) y.h.at_).M a.v) == (y.h.mi == a.v)) = true → ((!oHas ((HP.mk
  y.h.n y.h.cap (fun (j : Nat) => y.h.id j) (fun (j : Nat) => y.h.key j) y.h.at_).M a.v)) = true → x.Ok ∧ a.Ok → True ∧ True ∧ (x.len * (3 : Nat) ≤ x.len * (3 : Nat) ∧ x.len = x.len ∧ ∀ (j : Nat), j < x.len → x.what j =
  x.what j ∧ x.id j = x.id j ∧ x.key j = x.key j ∧ True) ∧ True) ∧ ((!oHas ((HP.mk y.h.n y.h.cap (fun (j : Nat) => y.h.id j) (fun (j : Nat) => y.h.key j) y.h.at_).M a.v)) = false → x.Ok ∧ a.Ok → (v_6 == v) = true ∧ True ∧
  (x.len * (3 : Nat) ≤ x.len * (3 : Nat) ∧ x.len = x.len ∧ ∀ (j : Nat), j < x.len → x.what j = x.what j ∧ x.id j = x.id j ∧ x.key j = x.key j ∧ True) ∧ True)) ∧ ((oHas ((HP.mk y.h.n y.h.cap (fun (j : Nat) => y.h.id j) (fun
  (j : Nat) => y.h.key j) y.h.at_).M a.v) == (y.h.mi == a.v)) = false → x.Ok ∧ a.Ok → False ∧ True ∧ (x.len * (3 : Nat) ≤ x.len * (3 : Nat) ∧ x.len = x.len ∧ ∀ (j : Nat), j < x.len → x.what j = x.what j ∧ x.id j = x.id j ∧
  x.key j = x.key j ∧ True) ∧ True)) ∧ (decide (y.h.n ≠ (0 : Nat)) = false → ((oHas ((HP.mk y.h.n y.h.cap (fun (j : Nat) => y.h.id j) (fun (j : Nat) => y.h.key j) y.h.at_).M a.v) == false) = true → ((!oHas ((HP.mk y.h.n
  y.h.cap (fun (j : Nat) => y.h.id j) (fun (j : Nat) => y.h.key j) y.h.at_).M a.v)) = true → x.Ok ∧ a.Ok → True ∧ True ∧ (x.len * (3 : Nat) ≤ x.len * (3 : Nat) ∧ x.len = x.len ∧ ∀ (j : Nat), j < x.len → x.what j = x.what j
  ∧ x.id j = x.id j ∧ x.key j = x.key j ∧ True) ∧ True) ∧ ((!oHas ((HP.mk y.h.n y.h.cap (fun (j : Nat) => y.h.id j) (fun (j : Nat) => y.h.key j) y.h.at_).M a.v)) = false → x.Ok ∧ a.Ok → (v_6 == v) = true ∧ True ∧ (x.len *
  (3 : Nat) ≤ x.len * (3 : Nat) ∧ x.len = x.len ∧ ∀ (j : Nat), j < x.len → x.what j = x.what j ∧ x.id j = x.id j ∧ x.key j = x.key j ∧ True) ∧ True)) ∧ ((oHas ((HP.mk y.h.n y.h.cap (fun (j : Nat) => y.h.id j) (fun (j :
  Nat) => y.h.key j) y.h.at_).M a.v) == false) = false → x.Ok ∧ a.Ok → False ∧ True ∧ (x.len * (3 : Nat) ≤ x.len * (3 : Nat) ∧ x.len = x.len ∧ ∀ (j : Nat), j < x.len → x.what j = x.what j ∧ x.id j = x.id j ∧ x.key j =
  x.key j ∧ True) ∧ True))))) ∧ (decide (y.h.n ≠ (0 : Nat)) = false → (oHas ((HP.mk y.h.n y.h.cap (fun (j : Nat) => y.h.id j) (fun (j : Nat) => y.h.key j) y.h.at_).M a.v) = true → ((oHas ((HP.mk y.h.n y.h.cap (fun (j :
  Nat) => y.h.id j) (fun (j : Nat) => y.h.key j) y.h.at_).M a.v) == true) = true → ((!oHas ((HP.mk y.h.n y.h.cap (fun (j : Nat) => y.h.id j) (fun (j : Nat) => y.h.key j) y.h.at_).M a.v)) = true → x.Ok ∧ a.Ok → True ∧ True
  ∧ (x.len * (3 : Nat) ≤ x.len * (3 : Nat) ∧ x.len = x.len ∧ ∀ (j : Nat), j < x.len → x.what j = x.what j ∧ x.id j = x.id j ∧ x.key j = x.key j ∧ True) ∧ True) ∧ ((!oHas ((HP.mk y.h.n y.h.cap (fun (j : Nat) => y.h.id j)
  (fun (j : Nat) => y.h.key j) y.h.at_).M a.v)) = false → x.Ok ∧ a.Ok → (v_6 == v) = true ∧ True ∧ (x.len * (3 : Nat) ≤ x.len * (3 : Nat) ∧ x.len = x.len ∧ ∀ (j : Nat), j < x.len → x.what j = x.what j ∧ x.id j = x.id j ∧
  x.key j = x.key j ∧ True) ∧ True)) ∧ ((oHas ((HP.mk y.h.n y.h.cap (fun (j : Nat) => y.h.id j) (fun (j : Nat) => y.h.key j) y.h.at_).M a.v) == true) = false → x.Ok ∧ a.Ok → False ∧ True ∧ (x.len * (3 : Nat) ≤ x.len * (3 :
  Nat) ∧ x.len = x.len ∧ ∀ (j : Nat), j < x.len → x.what j = x.what j ∧ x.id j = x.id j ∧ x.key j = x.key j ∧ True) ∧ True)) ∧ (oHas ((HP.mk y.h.n y.h.cap (fun (j : Nat) => y.h.id j) (fun (j : Nat) => y.h.key j) y.h.at_).M
  a.v) = false → (decide (y.h.n ≠ (0 : Nat)) = true → ((oHas ((HP.mk y.h.n y.h.cap (fun (j : Nat) => y.h.id j) (fun (j : Nat) => y.h.key j) y.h.at_).M a.v) == (y.h.mi == a.v)) = true → ((!oHas ((HP.mk y.h.n y.h.cap (fun (j
  : Nat) => y.h.id j) (fun (j : Nat) => y.h.key j) y.h.at_).M a.v)) = true → x.Ok ∧ a.Ok → True ∧ True ∧ (x.len * (3 : Nat) ≤ x.len * (3 : Nat) ∧ x.len = x.len ∧ ∀ (j : Nat), j < x.len → x.what j = x.what j ∧ x.id j = x.id
  j ∧ x.key j = x.key j ∧ True) ∧ True) ∧ ((!oHas ((HP.mk y.h.n y.h.cap (fun (j : Nat) => y.h.id j) (fun (j : Nat) => y.h.key j) y.h.at_).M a.v)) = false → x.Ok ∧ a.Ok → (v_6 == v) = true ∧ True ∧ (x.len * (3 : Nat) ≤
  x.len * (3 : Nat) ∧ x.len = x.len ∧ ∀ (j : Nat), j < x.len → x.what j = x.what j ∧ x.id j = x.id j ∧ x.key j = x.key j ∧ True) ∧ True)) ∧ ((oHas ((HP.mk y.h.n y.h.cap (fun (j : Nat) => y.h.id j) (fun (j : Nat) => y.h.key
  j) y.h.at_).M a.v) == (y.h.mi == a.v)) = false → x.Ok ∧ a.Ok → False ∧ True ∧ (x.len * (3 : Nat) ≤ x.len * (3 : Nat) ∧ x.len = x.len ∧ ∀ (j : Nat), j < x.len → x.what j = x.what j ∧ x.id j = x.id j ∧ x.key j = x.key j ∧
  True) ∧ True)) ∧ (decide (y.h.n ≠ (0 : Nat)) = false → ((oHas ((HP.mk y.h.n y.h.cap (fun (j : Nat) => y.h.id j) (fun (j : Nat) => y.h.key j) y.h.at_).M a.v) == false) = true → ((!oHas ((HP.mk y.h.n y.h.cap (fun (j : Nat)
  => y.h.id j) (fun (j : Nat) => y.h.key j) y.h.at_).M a.v)) = true → x.Ok ∧ a.Ok → True ∧ True ∧ (x.len * (3 : Nat) ≤ x.len * (3 : Nat) ∧ x.len = x.len ∧ ∀ (j : Nat), j < x.len → x.what j = x.what j ∧ x.id j = x.id j ∧
  x.key j = x.key j ∧ True) ∧ True) ∧ ((!oHas ((HP.mk y.h.n y.h.cap (fun (j : Nat) => y.h.id j) (fun (j : Nat) => y.h.key j) y.h.at_).M a.v)) = false → x.Ok ∧ a.Ok → (v_6 == v) = true ∧ True ∧ (x.len * (3 : Nat) ≤ x.len *
  (3 : Nat) ∧ x.len = x.len ∧ ∀ (j : Nat), j < x.len → x.what j = x.what j ∧ x.id j = x.id j ∧ x.key j = x.key j ∧ True) ∧ True)) ∧ ((oHas ((HP.mk y.h.n y.h.cap (fun (j : Nat) => y.h.id j) (fun (j : Nat) => y.h.key j)
  y.h.at_).M a.v) == false) = false → x.Ok ∧ a.Ok → False ∧ True ∧ (x.len * (3 : Nat) ≤ x.len * (3 : Nat) ∧ x.len = x.len ∧ ∀ (j : Nat), j < x.len → x.what j = x.what j ∧ x.id j = x.id j ∧ x.key j = x.key j ∧ True) ∧
  True)))))))) ∧ (¬y.h.n = (0 : Nat) → ∀ (x_1 : HP), (x_1.Full ∧ (x_1.n = y.h.n - (1 : Nat) ∧ x_1.cap = y.h.cap) ∧ ∀ (i : Int), x_1.M i = if i = y.h.id (0 : Nat) then none else (HP.mk y.h.n y.h.cap (fun (j : Nat) => y.h.id
  j) (fun (j : Nat) => y.h.key j) y.h.at_).M i) → ∀ (v_4 : Int), v_4 = y.h.id (0 : Nat) → ∀ (v_5 : Int), v_5 = y.h.key (0 : Nat) → (((True ∧ True) ∧ a.v = a.v ∧ True) ∧ ((65 : Nat) ≤ (65 : Nat) ∧ (True ∧ True ∧ (0 : Nat) =
  (0 : Nat) ∧ x_1.n = x_1.n ∧ x_1.cap = x_1.cap) ∧ ((64 : Nat) = (64 : Nat) ∧ ∀ (j : Nat), j < (64 : Nat) → x_1.at_ j = x_1.at_ j) ∧ True) ∧ (x_1.cap * (2 : Nat) ≤ y.h.cap * (2 : Nat) ∧ x_1.n = x_1.n ∧ ∀ (j : Nat), j <
  x_1.n → x_1.id j = x_1.id j ∧ x_1.key j = x_1.key j ∧ True) ∧ True) ∧ ((HP.mk x_1.n x_1.cap (fun (j : Nat) => x_1.id j) (fun (j : Nat) => x_1.key j) x_1.at_).Full ∧ x_1.n ≤ (100000 : Nat)) ∧ ∀ (v_6 : Int), v_6 = oVal
  ((HP.mk x_1.n x_1.cap (fun (j : Nat) => x_1.id j) (fun (j : Nat) => x_1.key j) x_1.at_).M a.v) → ((!true == decide (y.h.n ≠ (0 : Nat))) = true → x.Ok ∧ a.Ok → False ∧ True ∧ (x.len * (3 : Nat) ≤ x.len * (3 : Nat) ∧ x.len
  = x.len ∧ ∀ (j : Nat), j < x.len → x.what j = x.what j ∧ x.id j = x.id j ∧ x.key j = x.key j ∧ True) ∧ True) ∧ ((!true == decide (y.h.n ≠ (0 : Nat))) = false → ((v_4 != y.h.mi) = true → x.Ok ∧ a.Ok → False ∧ True ∧
  (x.len * (3 : Nat) ≤ x.len * (3 : Nat) ∧ x.len = x.len ∧ ∀ (j : Nat), j < x.len → x.what j = x.what j ∧ x.id j = x.id j ∧ x.key j = x.key j ∧ True) ∧ True) ∧ ((v_4 != y.h.mi) = false → ((v_5 != y.h.mk_) = true → x.Ok ∧
  a.Ok → False ∧ True ∧ (x.len * (3 : Nat) ≤ x.len * (3 : Nat) ∧ x.len = x.len ∧ ∀ (j : Nat), j < x.len → x.what j = x.what j ∧ x.id j = x.id j ∧ x.key j = x.key j ∧ True) ∧ True) ∧ ((v_5 != y.h.mk_) = false → (decide
  (y.h.n ≠ (0 : Nat)) = true → (((True ∧ True) ∧ True) ∧ ((65 : Nat) ≤ (65 : Nat) ∧ (True ∧ True ∧ (0 : Nat) = (0 : Nat) ∧ x_1.n = x_1.n ∧ x_1.cap = x_1.cap) ∧ ((64 : Nat) = (64 : Nat) ∧ ∀ (j : Nat), j < (64 : Nat) →
  x_1.at_ j = x_1.at_ j) ∧ True) ∧ (x_1.cap * (2 : Nat) ≤ y.h.cap * (2 : Nat) ∧ x_1.n = x_1.n ∧ ∀ (j : Nat), j < x_1.n → x_1.id j = x_1.id j ∧ x_1.key j = x_1.key j ∧ True) ∧ True) ∧ (((↑x_1.n : Int) != IntKind.i64.wrap
  (v_3 - (1 : Int))) = true → x.Ok ∧ a.Ok → False ∧ True ∧ (x.len * (3 : Nat) ≤ x.len * (3 : Nat) ∧ x.len = x.len ∧ ∀ (j : Nat), j < x.len → x.what j = x.what j ∧ x.id j = x.id j ∧ x.key j = x.key j ∧ True) ∧ True) ∧
  (((↑x_1.n : Int) != IntKind.i64.wrap (v_3 - (1 : Int))) = false → (oHas ((HP.mk x_1.n x_1.cap (fun (j : Nat) => x_1.id j) (fun (j : Nat) => x_1.key j) x_1.at_).M a.v) = true → ((oHas ((HP.mk y.h.n y.h.cap (fun (j : Nat)
  => y.h.id j) (fun (j : Nat) => y.h.key j) y.h.at_).M a.v) == true) = true → ((!oHas ((HP.mk x_1.n x_1.cap (fun (j : Nat) => x_1.id j) (fun (j : Nat) => x_1.key j) x_1.at_).M a.v)) = true → x.Ok ∧ a.Ok → True ∧ True ∧
  (x.len * (3 : Nat) ≤ x.len * (3 : Nat) ∧ x.len = x.len ∧ ∀ (j : Nat), j < x.len → x.what j = x.what j ∧ x.id j = x.id j ∧ x.key j = x.key j ∧ True) ∧ True) ∧ ((!oHas ((HP.mk x_1.n x_1.cap (fun (j : Nat) => x_1.id j) (fun
  (j : Nat) => x_1.key j) x_1.at_).M a.v)) = false → x.Ok ∧ a.Ok → (v_6 == v) = true ∧ True ∧ (x.len * (3 : Nat) ≤ x.len * (3 : Nat) ∧ x.len = x.len ∧ ∀ (j : Nat), j < x.len → x.what j = x.what j ∧ x.id j = x.id j ∧ x.key
  j = x.key j ∧ True) ∧ True)) ∧ ((oHas ((HP.mk y.h.n y.h.cap (fun (j : Nat) => y.h.id j) (fun (j : Nat) => y.h.key j) y.h.at_).M a.v) == true) = false → x.Ok ∧ a.Ok → False ∧ True ∧ (x.len * (3 : Nat) ≤ x.len * (3 : Nat)
  ∧ x.len = x.len ∧ ∀ (j : Nat), j < x.len → x.what j = x.what j ∧ x.id j = x.id j ∧ x.key j = x.key j ∧ True) ∧ True)) ∧ (oHas ((HP.mk x_1.n x_1.cap (fun (j : Nat) => x_1.id j) (fun (j : Nat) => x_1.key j) x_1.at_).M a.v)
  = false → (decide (y.h.n ≠ (0 : Nat)) = true → ((oHas ((HP.mk y.h.n y.h.cap (fun (j : Nat) => y.h.id j) (fun (j : Nat) => y.h.key j) y.h.at_).M a.v) == (y.h.mi == a.v)) = true → ((!oHas ((HP.mk x_1.n x_1.cap (fun (j :
  Nat) => x_1.id j) (fun (j : Nat) => x_1.key j) x_1.at_).M a.v)) = true → x.Ok ∧ a.Ok → True ∧ True ∧ (x.len * (3 : Nat) ≤ x.len * (3 : Nat) ∧ x.len = x.len ∧ ∀ (j : Nat), j < x.len → x.what j = x.what j ∧ x.id j = x.id j
  ∧ x.key j = x.key j ∧ True) ∧ True) ∧ ((!oHas ((HP.mk x_1.n x_1.cap (fun (j : Nat) => x_1.id j) (fun (j : Nat) => x_1.key j) x_1.at_).M a.v)) = false → x.Ok ∧ a.Ok → (v_6 == v) = true ∧ True ∧ (x.len * (3 : Nat) ≤ x.len
  * (3 : Nat) ∧ x.len = x.len ∧ ∀ (j : Nat), j < x.len → x.what j = x.what j ∧ x.id j = x.id j ∧ x.key j = x.key j ∧ True) ∧ True)) ∧ ((oHas ((HP.mk y.h.n y.h.cap (fun (j : Nat) => y.h.id j) (fun (j : Nat) => y.h.key j)
  y.h.at_).M a.v) == (y.h.mi == a.v)) = false → x.Ok ∧ a.Ok → False ∧ True ∧ (x.len * (3 : Nat) ≤ x.len * (3 : Nat) ∧ x.len = x.len ∧ ∀ (j : Nat), j < x.len → x.what j = x.what j ∧ x.id j = x.id j ∧ x.key j = x.key j ∧
  True) ∧ True)) ∧ (decide (y.h.n ≠ (0 : Nat)) = false → ((oHas ((HP.mk y.h.n y.h.cap (fun (j : Nat) => y.h.id j) (fun (j : Nat) => y.h.key j) y.h.at_).M a.v) == false) = true → ((!oHas ((HP.mk x_1.n x_1.cap (fun (j : Nat)
  => x_1.id j) (fun (j : Nat) => x_1.key j) x_1.at_).M a.v)) = true → x.Ok ∧ a.Ok → True ∧ True ∧ (x.len * (3 : Nat) ≤ x.len * (3 : Nat) ∧ x.len = x.len ∧ ∀ (j : Nat), j < x.len → x.what j = x.what j ∧ x.id j = x.id j ∧
  x.key j = x.key j ∧ True) ∧ True) ∧ ((!oHas ((HP.mk x_1.n x_1.cap (fun (j : Nat) => x_1.id j) (fun (j : Nat) => x_1.key j) x_1.at_).M a.v)) = false → x.Ok ∧ a.Ok → (v_6 == v) = true ∧ True ∧ (x.len * (3 : Nat) ≤ x.len *
  (3 : Nat) ∧ x.len = x.len ∧ ∀ (j : Nat), j < x.len → x.what j = x.what j ∧ x.id j = x.id j ∧ x.key j = x.key j ∧ True) ∧ True)) ∧ ((oHas ((HP.mk y.h.n y.h.cap (fun (j : Nat) => y.h.id j) (fun (j : Nat) => y.h.key j)
  y.h.at_).M a.v) == false) = false → x.Ok ∧ a.Ok → False ∧ True ∧ (x.len * (3 : Nat) ≤ x.len * (3 : Nat) ∧ x.len = x.len ∧ ∀ (j : Nat), j < x.len → x.what j = x.what j ∧ x.id j = x.id j ∧ x.key j = x.key j ∧ True) ∧
  True))))) ∧ (decide (y.h.n ≠ (0 : Nat)) = false → (oHas ((HP.mk x_1.n x_1.cap (fun (j : Nat) => x_1.id j) (fun (j : Nat) => x_1.key j) x_1.at_).M a.v) = true → ((oHas ((HP.mk y.h.n y.h.cap (fun (j : Nat) => y.h.id j)
  (fun (j : Nat) => y.h.key j) y.h.at_).M a.v) == true) = true → ((!oHas ((HP.mk x_1.n x_1.cap (fun (j : Nat) => x_1.id j) (fun (j : Nat) => x_1.key j) x_1.at_).M a.v)) = true → x.Ok ∧ a.Ok → True ∧ True ∧ (x.len * (3 :
  Nat) ≤ x.len * (3 : Nat) ∧ x.len = x.len ∧ ∀ (j : Nat), j < x.len → x.what j = x.what j ∧ x.id j = x.id j ∧ x.key j = x.key j ∧ True) ∧ True) ∧ ((!oHas ((HP.mk x_1.n x_1.cap (fun (j : Nat) => x_1.id j) (fun (j : Nat) =>
  x_1.key j) x_1.at_).M a.v)) = false → x.Ok ∧ a.Ok → (v_6 == v) = true ∧ True ∧ (x.len * (3 : Nat) ≤ x.len * (3 : Nat) ∧ x.len = x.len ∧ ∀ (j : Nat), j < x.len → x.what j = x.what j ∧ x.id j = x.id j ∧ x.key j = x.key j ∧
  True) ∧ True)) ∧ ((oHas ((HP.mk y.h.n y.h.cap (fun (j : Nat) => y.h.id j) (fun (j : Nat) => y.h.key j) y.h.at_).M a.v) == true) = false → x.Ok ∧ a.Ok → False ∧ True ∧ (x.len * (3 : Nat) ≤ x.len * (3 : Nat) ∧ x.len =
  x.len ∧ ∀ (j : Nat), j < x.len → x.what j = x.what j ∧ x.id j = x.id j ∧ x.key j = x.key j ∧ True) ∧ True)) ∧ (oHas ((HP.mk x_1.n x_1.cap (fun (j : Nat) => x_1.id j) (fun (j : Nat) => x_1.key j) x_1.at_).M a.v) = false →
  (decide (y.h.n ≠ (0 : Nat)) = true → ((oHas ((HP.mk y.h.n y.h.cap (fun (j : Nat) => y.h.id j) (fun (j : Nat) => y.h.key j) y.h.at_).M a.v) == (y.h.mi == a.v)) = true → ((!oHas ((HP.mk x_1.n x_1.cap (fun (j : Nat) =>
  x_1.id j) (fun (j : Nat) => x_1.key j) x_1.at_).M a.v)) = true → x.Ok ∧ a.Ok → True ∧ True ∧ (x.len * (3 : Nat) ≤ x.len * (3 : Nat) ∧ x.len = x.len ∧ ∀ (j : Nat), j < x.len → x.what j = x.what j ∧ x.id j = x.id j ∧ x.key
  j = x.key j ∧ True) ∧ True) ∧ ((!oHas ((HP.mk x_1.n x_1.cap (fun (j : Nat) => x_1.id j) (fun (j : Nat) => x_1.key j) x_1.at_).M a.v)) = false → x.Ok ∧ a.Ok → (v_6 == v) = true ∧ True ∧ (x.len * (3 : Nat) ≤ x.len * (3 :
  Nat) ∧ x.len = x.len ∧ ∀ (j : Nat), j < x.len → x.what j = x.what j ∧ x.id j = x.id j ∧ x.key j = x.key j ∧ True) ∧ True)) ∧ ((oHas ((HP.mk y.h.n y.h.cap (fun (j : Nat) => y.h.id j) (fun (j : Nat) => y.h.key j)
  y.h.at_).M a.v) == (y.h.mi == a.v)) = false → x.Ok ∧ a.Ok → False ∧ True ∧ (x.len * (3 : Nat) ≤ x.len * (3 : Nat) ∧ x.len = x.len ∧ ∀ (j : Nat), j < x.len → x.what j = x.what j ∧ x.id j = x.id j ∧ x.key j = x.key j ∧
  True) ∧ True)) ∧ (decide (y.h.n ≠ (0 : Nat)) = false → ((oHas ((HP.mk y.h.n y.h.cap (fun (j : Nat) => y.h.id j) (fun (j : Nat) => y.h.key j) y.h.at_).M a.v) == false) = true → ((!oHas ((HP.mk x_1.n x_1.cap (fun (j : Nat)
  => x_1.id j) (fun (j : Nat) => x_1.key j) x_1.at_).M a.v)) = true → x.Ok ∧ a.Ok → True ∧ True ∧ (x.len * (3 : Nat) ≤ x.len * (3 : Nat) ∧ x.len = x.len ∧ ∀ (j : Nat), j < x.len → x.what j = x.what j ∧ x.id j = x.id j ∧
  x.key j = x.key j ∧ True) ∧ True) ∧ ((!oHas ((HP.mk x_1.n x_1.cap (fun (j : Nat) => x_1.id j) (fun (j : Nat) => x_1.key j) x_1.at_).M a.v)) = false → x.Ok ∧ a.Ok → (v_6 == v) = true ∧ True ∧ (x.len * (3 : Nat) ≤ x.len *
  (3 : Nat) ∧ x.len = x.len ∧ ∀ (j : Nat), j < x.len → x.what j = x.what j ∧ x.id j = x.id j ∧ x.key j = x.key j ∧ True) ∧ True)) ∧ ((oHas ((HP.mk y.h.n y.h.cap (fun (j : Nat) => y.h.id j) (fun (j : Nat) => y.h.key j)
  y.h.at_).M a.v) == false) = false → x.Ok ∧ a.Ok → False ∧ True ∧ (x.len * (3 : Nat) ≤ x.len * (3 : Nat) ∧ x.len = x.len ∧ ∀ (j : Nat), j < x.len → x.what j = x.what j ∧ x.id j = x.id j ∧ x.key j = x.key j ∧ True) ∧
  True)))))))))))) := by
  simp only [true_and, and_true, eq_self, Nat.le_refl, decide_eq_true_eq, decide_eq_false_iff_not, beq_iff_eq, beq_eq_false_iff_ne, implies_true, true_implies, and_self, bne_iff_ne, Int.not_lt, gt_iff_lt, ne_eq, Nat.zero_add, Int.toNat_natCast, IntKind.wrap_i64, Bool.not_eq_true, bne_eq_false_iff_eq, Bool.not_eq_true', Bool.not_eq_false']
  rintro x ⟨a⟩ ⟨hx, ha⟩
  have hM0 : ∀ z : Nat, (mF0 x a).μ z = x.len - z := fun _ => rfl
  have hM1 : ∀ z : SA, (mF1 x a).μ z = x.len - z.i := fun _ => rfl
  have hM2 : ∀ z : Nat, (mK0 x a).μ z = 64 - z := fun _ => rfl
  have hM3 : ∀ z : SK, (mK1 x a).μ z = 64 - z.k := fun _ => rfl
  have hI0 : ∀ z : Nat, (mF0 x a).I z = (z ≤ x.len ∧ x.len ≤ 200) := fun _ => rfl
  have hI2 : ∀ z : Nat, (mK0 x a).I z = (z ≤ 64) := fun _ => rfl
  simp only [HP.eta, hM1, hM2, hM3, hM0, hI2, hx, ha, and_false, false_and, exists_false, or_false, false_or, imp_self, implies_true, and_self, true_and, not_true_eq_false, not_false_eq_true, true_implies, Bool.true_eq_false, forall_eq, imp_false]
  clear hM1 hM2 hM3 hM0 hI2 hI0
  have hx1 := hx.1
  have hx2 := hx.2
  have t0 : ∀ i, i < 64 → a0 i = 0 := fun _ _ => rfl
  refine (fun K1 => ⟨hx1, fun h200 => ⟨⟨0, by omega, rfl⟩, fun i hi => ⟨hx1, fun hlt => ⟨i, ⟨hx1, by omega, by omega, fun _ => ⟨hx1, by omega, by omega, hx1, by omega, by omega, ⟨t0, hx2 i (by omega)⟩, fun _ => ⟨true, (show i < x.len by omega), rfl⟩, fun _ h hh => ⟨h, ⟨by omega, hh.1, by omega⟩, rfl, ⟨⟨rfl, rfl⟩, fun _ _ => rfl⟩, Nat.le_refl _, Nat.le_refl _, fun _ _ => ⟨rfl, rfl⟩⟩⟩, fun _ => ⟨fun _ => ⟨t0, ⟨true, (show i < x.len by omega), rfl⟩⟩, fun _ => ⟨fun _ => ⟨hx1, by omega, by omega, t0, ⟨true, (show i < x.len by omega), rfl⟩⟩, fun _ => ⟨fun _ => ⟨hx1, by omega, by omega, hx1, by omega, by omega, t0, fun _ => ⟨true, (show i < x.len by omega), rfl⟩, fun _ => ⟨true, (show i < x.len by omega), rfl⟩⟩, fun _ => ⟨true, (show i < x.len by omega), rfl⟩⟩⟩⟩⟩, fun _ _ => ⟨i + 1, by omega, by omega, by omega⟩, fun g hh => ⟨⟨g, i + 1⟩, ⟨⟨(by show i + 1 ≤ x.len; omega), by omega⟩, hh.2.1, hh.2.2⟩, ⟨(by show _ = ((i + 1 : Nat) : Int); omega), ⟨⟨rfl, rfl⟩, fun _ _ => rfl⟩, Nat.le_refl _, Nat.le_refl _, fun _ _ => ⟨rfl, rfl⟩⟩, (by show x.len - (i + 1) < x.len - i; omega)⟩⟩, fun hge => ⟨⟨0, by omega, rfl⟩, fun k hk => ⟨fun hlt => ⟨t0, (fun h => nomatch h), fun _ => ⟨k + 1, by omega, by omega, by omega⟩⟩, fun hge => ⟨t0, t0, t0, (fun h => nomatch h), fun _ h => h rfl⟩⟩, K1⟩⟩, fun y hy => ?_⟩⟩) ?_
  · rintro ⟨h, k⟩ ⟨k1, hf, hn⟩
    dsimp only at k1 hf hn ⊢
    refine ⟨fun hlt => ⟨⟨hf, by omega⟩, fun hs => ?_, fun _ => ⟨⟨h, k + 1⟩, ⟨(by show k + 1 ≤ 64; omega), hf, hn⟩, ⟨⟨rfl, rfl, rfl, (by show _ = ((k + 1 : Nat) : Int); omega)⟩, ⟨⟨rfl, rfl⟩, fun _ _ => rfl⟩, Nat.le_refl _, Nat.le_refl _, fun _ _ => ⟨rfl, rfl⟩⟩, (by show 64 - (k + 1) < 64 - k; omega)⟩⟩, fun hge => ⟨⟨hf, by omega⟩, ⟨hf, by omega⟩, fun h0 => ?_, fun h0 g hg => ?_⟩⟩
    · obtain ⟨q, e⟩ : ∃ q, h.M (k : Nat) = some q := by cases e : h.M (k : Nat) with
        | none => rw [e] at hs; cases hs
        | some q => exact ⟨q, rfl⟩
      obtain ⟨n0, hl⟩ := hf.least e
      have m1 : h.mi = h.id 0 := if_neg n0
      have m2 : h.mk_ = h.key 0 := if_neg n0
      unfold ltI at hl
      dsimp only at hl
      rw [e, show oVal (some q) = q from rfl]
      exact ⟨fun h => h n0, fun _ => ⟨by omega, fun _ => ⟨fun _ => ⟨by omega, fun _ => ⟨⟨h, k + 1⟩, ⟨(by show k + 1 ≤ 64; omega), hf, hn⟩, ⟨⟨rfl, rfl, rfl, (by show _ = ((k + 1 : Nat) : Int); omega)⟩, ⟨⟨rfl, rfl⟩, fun _ _ => rfl⟩, Nat.le_refl _, Nat.le_refl _, fun _ _ => ⟨rfl, rfl⟩⟩, (by show 64 - (k + 1) < 64 - k; omega)⟩⟩, fun _ => ⟨⟨h, k + 1⟩, ⟨(by show k + 1 ≤ 64; omega), hf, hn⟩, ⟨⟨rfl, rfl, rfl, (by show _ = ((k + 1 : Nat) : Int); omega)⟩, ⟨⟨rfl, rfl⟩, fun _ _ => rfl⟩, Nat.le_refl _, Nat.le_refl _, fun _ _ => ⟨rfl, rfl⟩⟩, (by show 64 - (k + 1) < 64 - k; omega)⟩⟩⟩⟩
    · have eM : h.M a = none := hf.c.empty h0 a
      have m1 : h.mi = -1 := if_pos h0
      have m2 : h.mk_ = 0 := if_pos h0
      rw [eM]
      exact ⟨⟨hf, by omega⟩, fun hh => hh (by rw [decide_eq_false (fun h => h h0)]), fun _ => ⟨fun h => h m1.symm, fun _ => ⟨fun h => h m2.symm, fun _ => ⟨fun h => absurd h0 h, fun _ => ⟨(fun h => nomatch h), fun _ => ⟨fun h => absurd h0 h, fun _ h => h rfl⟩⟩⟩⟩⟩⟩
    · have m1 : h.mi = h.id 0 := if_neg h0
      have m2 : h.mk_ = h.key 0 := if_neg h0
      have eG := hg.2.2 a
      have eC : g.cap * 2 ≤ h.cap * 2 := by rw [hg.2.1.2]; exact Nat.le_refl _
      have gn := hg.2.1.1
      have fin : (oHas (g.M a) = true → ((oHas (h.M a) = true → oHas (g.M a) = true → oVal (g.M a) = oVal (h.M a)) ∧ ¬ oHas (h.M a) = false)) ∧ (oHas (g.M a) = false → oHas (h.M a) = (h.mi == a)) := by
        by_cases ha2 : a = h.id 0
        · rw [if_pos ha2] at eG
          rw [eG, ha2, hf.c.M_some (k := 0) (by omega), m1]
          exact ⟨(fun h => nomatch h), fun _ => by rw [beq_self_eq_true]; rfl⟩
        · rw [if_neg ha2] at eG
          rw [eG]
          refine ⟨fun h => ⟨fun _ _ => rfl, fun h2 => by rw [h] at h2; cases h2⟩, fun h => ?_⟩
          rw [h, m1]
          exact (beq_eq_false_iff_ne.2 fun h => ha2 h.symm).symm
      exact ⟨eC, ⟨hg.1, by omega⟩, fun hh => hh (by rw [decide_eq_true h0]), fun _ => ⟨fun h => h m1.symm, fun _ => ⟨fun h => h m2.symm, fun _ => ⟨fun _ => ⟨eC, by omega, fun _ => ⟨fin.1, fun h2 => ⟨fun _ => ⟨fun _ h3 => (by rw [h2] at h3; cases h3), fun h => h (fin.2 h2)⟩, fun h => absurd h0 h⟩⟩⟩, fun h => absurd h0 h⟩⟩⟩⟩
  · obtain ⟨h, i⟩ := y
    obtain ⟨⟨i1, i2⟩, hf, hn⟩ := hy
    dsimp only at i1 i2 hf hn ⊢
    exact ⟨hx1, fun hlt => ⟨i, ⟨hx1, by omega, by omega, fun _ => ⟨hx1, by omega, by omega, hx1, by omega, by omega, ⟨⟨hf, by omega⟩, hx2 i (by omega)⟩, fun _ => ⟨h, ⟨by omega, hf, by omega⟩, rfl, ⟨⟨rfl, rfl⟩, fun _ _ => rfl⟩, Nat.le_refl _, Nat.le_refl _, fun _ _ => ⟨rfl, rfl⟩⟩, fun _ => ⟨fun _ => ⟨h, ⟨by omega, hf, by omega⟩, rfl, ⟨⟨rfl, rfl⟩, fun _ _ => rfl⟩, Nat.le_refl _, Nat.le_refl _, fun _ _ => ⟨rfl, rfl⟩⟩, fun _ g hg => ⟨g, ⟨by omega, hg.1, by omega⟩, rfl, ⟨⟨rfl, rfl⟩, fun _ _ => rfl⟩, Nat.le_refl _, Nat.le_refl _, fun _ _ => ⟨rfl, rfl⟩⟩⟩⟩, fun _ => ⟨fun _ => ⟨⟨hf, by omega⟩, fun _ => ⟨h, ⟨by omega, hf, by omega⟩, rfl, ⟨⟨rfl, rfl⟩, fun _ _ => rfl⟩, Nat.le_refl _, Nat.le_refl _, fun _ _ => ⟨rfl, rfl⟩⟩, fun _ g hg => ⟨g, ⟨by omega, hg.1, by omega⟩, rfl, ⟨⟨rfl, rfl⟩, fun _ _ => rfl⟩, by rw [hg.2.1.2]; exact Nat.le_refl _, Nat.le_refl _, fun _ _ => ⟨rfl, rfl⟩⟩⟩, fun _ => ⟨fun _ => ⟨hx1, by omega, by omega, ⟨hf, by omega⟩, fun _ => ⟨h, ⟨by omega, hf, by omega⟩, rfl, ⟨⟨rfl, rfl⟩, fun _ _ => rfl⟩, Nat.le_refl _, Nat.le_refl _, fun _ _ => ⟨rfl, rfl⟩⟩, fun _ g hg => ⟨g, ⟨by omega, hg.1, by omega⟩, rfl, ⟨⟨rfl, rfl⟩, fun _ _ => rfl⟩, by rw [hg.2.1.2]; exact Nat.le_refl _, Nat.le_refl _, fun _ _ => ⟨rfl, rfl⟩⟩⟩, fun _ => ⟨fun _ => ⟨hx1, by omega, by omega, hx1, by omega, by omega, ⟨⟨hf, by omega⟩, hx2 i (by omega)⟩, fun _ => ⟨h, ⟨by omega, hf, by omega⟩, rfl, ⟨⟨rfl, rfl⟩, fun _ _ => rfl⟩, Nat.le_refl _, Nat.le_refl _, fun _ _ => ⟨rfl, rfl⟩⟩, fun _ => ⟨fun _ => ⟨h, ⟨by omega, hf, by omega⟩, rfl, ⟨⟨rfl, rfl⟩, fun _ _ => rfl⟩, Nat.le_refl _, Nat.le_refl _, fun _ _ => ⟨rfl, rfl⟩⟩, fun _ g hg => ⟨g, ⟨by omega, hg.1, by omega⟩, rfl, ⟨⟨rfl, rfl⟩, fun _ _ => rfl⟩, by rw [hg.2.1.2]; exact Nat.le_refl _, Nat.le_refl _, fun _ _ => ⟨rfl, rfl⟩⟩⟩⟩, fun _ => ⟨h, ⟨by omega, hf, by omega⟩, rfl, ⟨⟨rfl, rfl⟩, fun _ _ => rfl⟩, Nat.le_refl _, Nat.le_refl _, fun _ _ => ⟨rfl, rfl⟩⟩⟩⟩⟩⟩, fun _ _ => ⟨i + 1, by omega, by omega, by omega⟩, fun g hh => ⟨⟨g, i + 1⟩, ⟨⟨(by show i + 1 ≤ x.len; omega), by omega⟩, hh.2.1, hh.2.2⟩, ⟨(by show _ = ((i + 1 : Nat) : Int); omega), ⟨⟨rfl, rfl⟩, fun _ _ => rfl⟩, Nat.le_refl _, Nat.le_refl _, fun _ _ => ⟨rfl, rfl⟩⟩, (by show x.len - (i + 1) < x.len - i; omega)⟩⟩, fun hge => ⟨fun h0 => ⟨⟨⟨h, 0⟩, ⟨Nat.zero_le _, hf, (by show h.n ≤ 200; omega)⟩, ⟨(if_pos h0).symm, (if_pos h0).symm, by rw [decide_eq_false (fun h => h h0)], rfl⟩, ⟨⟨rfl, rfl⟩, fun _ _ => rfl⟩, Nat.le_refl _, Nat.le_refl _, fun _ _ => ⟨rfl, rfl⟩⟩, fun k hk => ⟨fun hlt => ⟨t0, (fun h => nomatch h), fun _ => ⟨k + 1, by omega, by omega, by omega⟩⟩, fun hge => ⟨t0, t0, t0, (fun h => nomatch h), fun _ h => h rfl⟩⟩, K1⟩, fun h0 => ⟨⟨⟨h, 0⟩, ⟨Nat.zero_le _, hf, (by show h.n ≤ 200; omega)⟩, ⟨(if_neg h0).symm, (if_neg h0).symm, by rw [decide_eq_true h0], rfl⟩, ⟨⟨rfl, rfl⟩, fun _ _ => rfl⟩, Nat.le_refl _, Nat.le_refl _, fun _ _ => ⟨rfl, rfl⟩⟩, fun k hk => ⟨fun hlt => ⟨t0, (fun h => nomatch h), fun _ => ⟨k + 1, by omega, by omega, by omega⟩⟩, fun hge => ⟨t0, t0, t0, (fun h => nomatch h), fun _ h => h rfl⟩⟩, K1⟩⟩⟩

def hm_C (x : (HCS × JI)) : Cfg := { Γ := Go.Sx.look tHm, names := true, loops := mL (x.1) (x.2).v, cuts := mC (x.1) (x.2).v, mode := mM }
theorem hm_al (x : (HCS × JI)) : Shown (heapMP.vc Try.prog (hm_C x) Try.f6 x) := ⟨@Eq.mp _ _ (by kernel_rfl) (hm_vc (x.1) (x.2))⟩
theorem hm_ok : SpOk Try.prog 6 heapMP.sp := @Pat.okS _ heapMP Try.prog hm_C 6 Try.f6 (fun x => cfg_tab rfl tHm_ok) (by kernel_rfl) Try.func6 (fun _ => rfl) hm_al
end Go.Proofs.Ytnicidiocncjdaa
