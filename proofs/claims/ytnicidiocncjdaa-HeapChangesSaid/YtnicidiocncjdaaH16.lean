import Derived.Test.YtnicidiocncjdaaH16t
open Go Go.Sx Go.Proofs
set_option maxRecDepth 100000
namespace Go.Proofs.Ytnicidiocncjdaa
open Go.RowKit Go.Sort

structure JJ where
  v : Int
def JJ.t (x : JJ) : T := .int .i64 x.v
def JJ.Ok (x : JJ) : Prop := i64 x.v
structure JU where
  v : Int
def JU.t (x : JU) : T := .int .u64 x.v
def JU.Ok (x : JU) : Prop := 0 ≤ x.v ∧ x.v < 18446744073709551616
def heapCP : Pat (KS × JJ × JU) where
  view _ _ := none
  args x := [x.1.v 0, x.2.1.t, x.2.2.t]
  H x := [x.1.reg]
  out x := .need (x.1.Ok ∧ x.2.1.Ok ∧ x.2.2.Ok ∧ ¬ x.1.len = 1) (.retq .tt)
def heapC1P : Pat (KS × JJ × JU) where
  view _ _ := none
  args x := [x.1.v 0, x.2.1.t, x.2.2.t]
  H x := [x.1.reg]
  out x := .need (x.1.Ok ∧ x.2.1.Ok ∧ x.2.2.Ok ∧ x.1.len = 1) (.retq .tt)
structure SQ where
  a : HP
  b : HP
  c : HP
  d : HP
structure SQI where
  z : SQ
  i : Nat
def qB (x : KS) (a : Nat) (q : Int) (i b c d : Nat) (l : List (Nat × T)) : List (Nat × T) := [(0, x.v 0), (1, .int .i64 (a : Nat)), (2, .int .u64 q), (7, p0 1), (8, p0 b), (9, p0 c), (10, p0 d), (11, .int .i64 (i : Nat))] ++ l
def qH4 (x : KS) (z : SQ) : List Reg := [x.reg, z.a.me 2, z.a.row, z.b.me 4, z.b.row, z.c.me 6, z.c.row, z.d.me 8, z.d.row]
def qH3 (x : KS) (z : SQ) : List Reg := [x.reg, z.a.me 2, z.a.row, z.b.me 4, z.b.row, nilReg a0, z.d.me 7, z.d.row]
def qL0 (x : KS) (a : Nat) (q : Int) : Fam where
  α := Bool
  I _ := x.len ≤ 64 ∧ a < x.len
  st _ := { sl := mkSl 148 (qB x a q 0 2 3 4 []), H := [x.reg, nilReg a0, nilReg a0, nilReg a0, nilReg a0] }
  μ _ := x.len
def qL3 (x : KS) (a : Nat) (q : Int) : Fam where
  α := SQ
  I z := (x.len ≤ 64 ∧ a = 0 ∧ a < x.len) ∧ z.a.Is 1 (tA x 1) ∧ z.b.Is 1 (tB x a q 1) ∧ z.d.Is 1 (tA x 1)
  st z := { sl := mkSl 148 (qB x a q 1 3 5 6 []), H := qH3 x z }
  μ _ := x.len - 1
def qL4 (x : KS) (a : Nat) (q : Int) : Fam where
  α := SQI
  I z := (x.len ≤ 64 ∧ a < x.len ∧ 1 ≤ z.i ∧ z.i ≤ x.len) ∧ z.z.a.Is z.i (tA x z.i) ∧ z.z.b.Is z.i (tB x a q z.i) ∧ z.z.c.Is (cN a z.i) (tC x a z.i) ∧ z.z.d.Is z.i (tA x z.i)
  st z := { sl := mkSl 148 (qB x a q z.i 3 5 7 []), H := qH4 x z.z }
  μ z := x.len - z.i
def qE (b c d : Nat) (a : Nat) (q : Int) : List (Nat × T) := [(1, .int .i64 (a : Nat)), (2, .int .u64 q), (7, p0 1), (8, p0 b), (9, p0 c), (10, p0 d)]
def qE3 (x : KS) (a : Nat) (q : Int) : Fam where
  α := SQ
  I z := (x.len = 1 ∧ a = 0) ∧ z.a.Is 1 (tA x 1) ∧ z.b.Is 1 (tB x a q 1) ∧ z.d.Is 1 (tA x 1)
  st z := { sl := mkSl 148 (qE 3 5 6 a q), H := qH3 x z }
  μ _ := 0
def qE4 (x : KS) (a : Nat) (q : Int) : Fam where
  α := SQ
  I z := (2 ≤ x.len ∧ x.len ≤ 64 ∧ a < x.len) ∧ z.a.Is x.len (tA x x.len) ∧ z.b.Is x.len (tB x a q x.len) ∧ z.c.Is (x.len - 1) (tC x a x.len) ∧ z.d.Is x.len (tA x x.len)
  st z := { sl := mkSl 148 (qE 3 5 7 a q), H := qH4 x z }
  μ _ := 0
structure SW where
  a : HP
  b : HP
def qW (x : KS) : Fam where
  α := SW
  I z := z.a.Full ∧ z.b.Full ∧ (z.a.n = z.b.n ∧ z.a.n ≤ 64) ∧ ∀ j, z.a.M j = z.b.M j
  st z := { sl := mkSl 148 [(7, p0 1), (8, p0 3)], H := [x.reg, z.a.me 2, z.a.row, z.b.me 4, z.b.row] }
  μ z := z.a.n
def qK4 (x : KS) (a : Nat) (q : Int) : Nat → Gam
  | 19 => .l [qE4 x a q]
  | _ => .l []
def qK3 (x : KS) (a : Nat) (q : Int) : Nat → Gam
  | 19 => .l [qE3 x a q]
  | _ => .l []
def qL3L (x : KS) (a : Nat) (q : Int) : Nat → Gam
  | 10 => .l [qL0 x a q, qL3 x a q]
  | 21 => .l [qW x]
  | _ => .l []
def qL (x : KS) (a : Nat) (q : Int) : Nat → Gam
  | 10 => .l [qL0 x a q, qL3 x a q, qL4 x a q]
  | 21 => .l [qW x]
  | _ => .l []
def tHc : Tab := [(7, aliveP.sp), (8, newP.sp), (9, altH nilMe (pushXNP.sp) (pushXP.sp)), (10, popXP.sp), (11, altH nilMe (lenNP.sp) (lenP.sp)), (13, remXP.sp), (12, chgXP.sp), (15, altH nilMe (listNP.sp) (listXP.sp)), (14, altSp 1 (altSp 0 (sameNNP.sp) (sameSNP.sp)) (altSp 0 (sameNSP.sp) (sameP.sp)))]
theorem tHc_ok : TabOk Try.prog tHc := (tab_cons alive_ok (tab_cons new_ok (tab_cons pushXA_ok (tab_cons popX_ok (tab_cons lenA_ok (tab_cons remX_ok (tab_cons chgX_ok (tab_cons listXA_ok (tab_cons sameA_ok tab_nil)))))))))

theorem hc_vc : ∀ (x : KS) (a : JJ) (q : JU), (x.Ok ∧ a.Ok ∧ q.Ok ∧ ¬x.len = (1 : Nat)) ∧ True → (True ∧ True) ∧ (x.nil = true → x.len = (0 : Nat)) ∧ (decide ((↑x.len : Int) > (64 : Int)) = true → x.Ok ∧ a.Ok ∧ q.Ok ∧ ¬x.len = (1 : Nat)
  → True ∧ True ∧ (x.len * (1 : Nat) ≤ x.len * (1 : Nat) ∧ x.len = x.len ∧ ∀ (j : Nat), j < x.len → x.f j = x.f j) ∧ True) ∧ (decide ((↑x.len : Int) > (64 : Int)) = false → (decide (a.v < (0 : Int)) = true → x.Ok ∧ a.Ok ∧
  q.Ok ∧ ¬x.len = (1 : Nat) → True ∧ True ∧ (x.len * (1 : Nat) ≤ x.len * (1 : Nat) ∧ x.len = x.len ∧ ∀ (j : Nat), j < x.len → x.f j = x.f j) ∧ True) ∧ (decide (a.v < (0 : Int)) = false → (x.nil = true → x.len = (0 : Nat))
  ∧ (decide (a.v ≥ (↑x.len : Int)) = true → x.Ok ∧ a.Ok ∧ q.Ok ∧ ¬x.len = (1 : Nat) → True ∧ True ∧ (x.len * (1 : Nat) ≤ x.len * (1 : Nat) ∧ x.len = x.len ∧ ∀ (j : Nat), j < x.len → x.f j = x.f j) ∧ True) ∧ (decide (a.v ≥
  (↑x.len : Int)) = false → (True ∧ True) ∧ (True ∧ True) ∧ (True ∧ True) ∧ (True ∧ True) ∧ (∀ (v : Int), v = (0 : Int) → ((∃ (_ : Bool), (x.len ≤ (64 : Nat) ∧ a.v.toNat < x.len) ∧ ((((x.nil = true → x.nil = true) ∧ (x.nil
  = false → x.nil = false ∧ True ∧ True ∧ (0 : Nat) = (0 : Nat) ∧ x.len = x.len ∧ x.cap = x.cap)) ∧ a.v = (↑a.v.toNat : Int) ∧ q.v = q.v ∧ (True ∧ True) ∧ (True ∧ True) ∧ (True ∧ True) ∧ (True ∧ True) ∧ v = (↑(0 : Nat) :
  Int) ∧ True) ∧ (x.len * (1 : Nat) ≤ x.len * (1 : Nat) ∧ x.len = x.len ∧ ∀ (j : Nat), j < x.len → x.f j = x.f j) ∧ ((65 : Nat) ≤ (65 : Nat) ∧ True ∧ ((64 : Nat) = (64 : Nat) ∧ ∀ (j : Nat), j < (64 : Nat) → a0 j = a0 j) ∧
  True) ∧ ((65 : Nat) ≤ (65 : Nat) ∧ True ∧ ((64 : Nat) = (64 : Nat) ∧ ∀ (j : Nat), j < (64 : Nat) → a0 j = a0 j) ∧ True) ∧ ((65 : Nat) ≤ (65 : Nat) ∧ True ∧ ((64 : Nat) = (64 : Nat) ∧ ∀ (j : Nat), j < (64 : Nat) → a0 j =
  a0 j) ∧ True) ∧ ((65 : Nat) ≤ (65 : Nat) ∧ True ∧ ((64 : Nat) = (64 : Nat) ∧ ∀ (j : Nat), j < (64 : Nat) → a0 j = a0 j) ∧ True) ∧ True) ∧ True) ∨ (∃ (y : SQ), ((x.len ≤ (64 : Nat) ∧ a.v.toNat = (0 : Nat) ∧ a.v.toNat <
  x.len) ∧ y.a.Is (1 : Nat) (tA x (1 : Nat)) ∧ y.b.Is (1 : Nat) (tB x a.v.toNat q.v (1 : Nat)) ∧ y.d.Is (1 : Nat) (tA x (1 : Nat))) ∧ False ∧ True) ∨ ∃ (y : SQI), ((x.len ≤ (64 : Nat) ∧ a.v.toNat < x.len ∧ (1 : Nat) ≤ y.i
  ∧ y.i ≤ x.len) ∧ y.z.a.Is y.i (tA x y.i) ∧ y.z.b.Is y.i (tB x a.v.toNat q.v y.i) ∧ y.z.c.Is (cN a.v.toNat y.i) (tC x a.v.toNat y.i) ∧ y.z.d.Is y.i (tA x y.i)) ∧ False ∧ True) ∧ (∀ (y : Bool), x.len ≤ (64 : Nat) ∧
  a.v.toNat < x.len → (x.nil = true → x.len = (0 : Nat)) ∧ (decide ((↑(0 : Nat) : Int) < (↑x.len : Int)) = true → (x.nil = true → x.len = (0 : Nat)) ∧ ((0 : Int) ≤ (↑(0 : Nat) : Int) ∧ (↑(0 : Nat) : Int) < (↑x.len : Int))
  ∧ (0 : Nat) < x.len ∧ (((True ∧ True) ∧ (↑(0 : Nat) : Int) = (↑(0 : Nat) : Int) ∧ x.f (0 : Nat) = x.f (0 : Nat) ∧ True) ∧ ((65 : Nat) ≤ (65 : Nat) ∧ True ∧ ((64 : Nat) = (64 : Nat) ∧ ∀ (j : Nat), j < (64 : Nat) → a0 j =
  a0 j) ∧ True) ∧ True) ∧ (((∀ (i : Nat), i < (64 : Nat) → a0 i = (0 : Int)) ∧ (0 : Int) ≤ x.f (0 : Nat) ∧ x.f (0 : Nat) < (18446744073709551616 : Int)) ∧ (0 : Int) ≤ (↑(0 : Nat) : Int) ∧ (↑(0 : Nat) : Int) < (64 : Int)) ∧
  ∀ (x_1 : HP), (x_1.Full ∧ x_1.n = (1 : Nat) ∧ ∀ (i : Int), x_1.M i = if i = (↑(0 : Nat) : Int) then some (x.f (0 : Nat)) else none) → (x.nil = true → x.len = (0 : Nat)) ∧ ((0 : Int) ≤ (↑(0 : Nat) : Int) ∧ (↑(0 : Nat) :
  Int) < (↑x.len : Int)) ∧ (0 : Nat) < x.len ∧ (((True ∧ True) ∧ (↑(0 : Nat) : Int) = (↑(0 : Nat) : Int) ∧ x.f (0 : Nat) = x.f (0 : Nat) ∧ True) ∧ ((65 : Nat) ≤ (65 : Nat) ∧ True ∧ ((64 : Nat) = (64 : Nat) ∧ ∀ (j : Nat), j
  < (64 : Nat) → a0 j = a0 j) ∧ True) ∧ True) ∧ (((∀ (i : Nat), i < (64 : Nat) → a0 i = (0 : Int)) ∧ (0 : Int) ≤ x.f (0 : Nat) ∧ x.f (0 : Nat) < (18446744073709551616 : Int)) ∧ (0 : Int) ≤ (↑(0 : Nat) : Int) ∧ (↑(0 : Nat)
  : Int) < (64 : Int)) ∧ ∀ (x_2 : HP), (x_2.Full ∧ x_2.n = (1 : Nat) ∧ ∀ (i : Int), x_2.M i = if i = (↑(0 : Nat) : Int) then some (x.f (0 : Nat)) else none) → (x.nil = true → x.len = (0 : Nat)) ∧ ((0 : Int) ≤ (↑(0 : Nat) :
  Int) ∧ (↑(0 : Nat) : Int) < (↑x.len : Int)) ∧ (0 : Nat) < x.len ∧ ∀ (v : Int), v = x.f (0 : Nat) → (((↑(0 : Nat) : Int) == (↑a.v.toNat : Int)) = true → ∀ (v : Int), v = q.v → (((True ∧ True) ∧ (↑(0 : Nat) : Int) = (↑(0 :
  Nat) : Int) ∧ v = v ∧ True) ∧ ((65 : Nat) ≤ (65 : Nat) ∧ True ∧ ((64 : Nat) = (64 : Nat) ∧ ∀ (j : Nat), j < (64 : Nat) → a0 j = a0 j) ∧ True) ∧ True) ∧ (((∀ (i : Nat), i < (64 : Nat) → a0 i = (0 : Int)) ∧ (0 : Int) ≤ v ∧
  v < (18446744073709551616 : Int)) ∧ (0 : Int) ≤ (↑(0 : Nat) : Int) ∧ (↑(0 : Nat) : Int) < (64 : Int)) ∧ ∀ (x_3 : HP), (x_3.Full ∧ x_3.n = (1 : Nat) ∧ ∀ (i : Int), x_3.M i = if i = (↑(0 : Nat) : Int) then some v else
  none) → ∀ (v : Int), v = IntKind.i64.wrap ((↑(0 : Nat) : Int) + (1 : Int)) → (∃ (y_1 : Bool), (x.len ≤ (64 : Nat) ∧ a.v.toNat < x.len) ∧ ((((x.nil = true → x.nil = true) ∧ (x.nil = false → x.nil = false ∧ True ∧ True ∧
  (0 : Nat) = (0 : Nat) ∧ x.len = x.len ∧ x.cap = x.cap)) ∧ (↑a.v.toNat : Int) = (↑a.v.toNat : Int) ∧ q.v = q.v ∧ (True ∧ True) ∧ (True ∧ True) ∧ (True ∧ True) ∧ (True ∧ True) ∧ v = (↑(0 : Nat) : Int) ∧ True) ∧ (x.len * (1
  : Nat) ≤ x.len * (1 : Nat) ∧ x.len = x.len ∧ ∀ (j : Nat), j < x.len → x.f j = x.f j) ∧ ((65 : Nat) ≤ (65 : Nat) ∧ False ∧ ((64 : Nat) = (64 : Nat) ∧ ∀ (j : Nat), j < (64 : Nat) → x_1.at_ j = a0 j) ∧ True) ∧ ((65 : Nat) ≤
  (65 : Nat) ∧ False ∧ ((64 : Nat) = (64 : Nat) ∧ ∀ (j : Nat), j < (64 : Nat) → x_3.at_ j = a0 j) ∧ True) ∧ ((65 : Nat) ≤ (65 : Nat) ∧ True ∧ ((64 : Nat) = (64 : Nat) ∧ ∀ (j : Nat), j < (64 : Nat) → a0 j = a0 j) ∧ True) ∧
  ((65 : Nat) ≤ (65 : Nat) ∧ False ∧ ((64 : Nat) = (64 : Nat) ∧ ∀ (j : Nat), j < (64 : Nat) → x_2.at_ j = a0 j) ∧ True) ∧ True) ∧ (qL0 x a.v.toNat q.v).μ y_1 < (qL0 x a.v.toNat q.v).μ y) ∨ (∃ (y_1 : SQ), ((x.len ≤ (64 :
  Nat) ∧ a.v.toNat = (0 : Nat) ∧ a.v.toNat < x.len) ∧ y_1.a.Is (1 : Nat) (tA x (1 : Nat)) ∧ y_1.b.Is (1 : Nat) (tB x a.v.toNat q.v (1 : Nat)) ∧ y_1.d.Is (1 : Nat) (tA x (1 : Nat))) ∧ ((((x.nil = true → x.nil = true) ∧
  (x.nil = false → x.nil = false ∧ True ∧ True ∧ (0 : Nat) = (0 : Nat) ∧ x.len = x.len ∧ x.cap = x.cap)) ∧ (↑a.v.toNat : Int) = (↑a.v.toNat : Int) ∧ q.v = q.v ∧ (True ∧ True) ∧ (True ∧ True) ∧ (True ∧ True) ∧ (True ∧ True)
  ∧ v = (↑(1 : Nat) : Int) ∧ True) ∧ (x.len * (1 : Nat) ≤ x.len * (1 : Nat) ∧ x.len = x.len ∧ ∀ (j : Nat), j < x.len → x.f j = x.f j) ∧ ((65 : Nat) ≤ (65 : Nat) ∧ (True ∧ True ∧ (0 : Nat) = (0 : Nat) ∧ x_1.n = y_1.a.n ∧
  x_1.cap = y_1.a.cap) ∧ ((64 : Nat) = (64 : Nat) ∧ ∀ (j : Nat), j < (64 : Nat) → x_1.at_ j = y_1.a.at_ j) ∧ True) ∧ (y_1.a.cap * (2 : Nat) ≤ x_1.cap * (2 : Nat) ∧ y_1.a.n ≤ x_1.n ∧ ∀ (j : Nat), j < y_1.a.n → x_1.id j =
  y_1.a.id j ∧ x_1.key j = y_1.a.key j ∧ True) ∧ ((65 : Nat) ≤ (65 : Nat) ∧ (True ∧ True ∧ (0 : Nat) = (0 : Nat) ∧ x_3.n = y_1.b.n ∧ x_3.cap = y_1.b.cap) ∧ ((64 : Nat) = (64 : Nat) ∧ ∀ (j : Nat), j < (64 : Nat) → x_3.at_ j
  = y_1.b.at_ j) ∧ True) ∧ (y_1.b.cap * (2 : Nat) ≤ x_3.cap * (2 : Nat) ∧ y_1.b.n ≤ x_3.n ∧ ∀ (j : Nat), j < y_1.b.n → x_3.id j = y_1.b.id j ∧ x_3.key j = y_1.b.key j ∧ True) ∧ ((65 : Nat) ≤ (65 : Nat) ∧ True ∧ ((64 : Nat)
  = (64 : Nat) ∧ ∀ (j : Nat), j < (64 : Nat) → a0 j = a0 j) ∧ True) ∧ ((65 : Nat) ≤ (65 : Nat) ∧ (True ∧ True ∧ (0 : Nat) = (0 : Nat) ∧ x_2.n = y_1.d.n ∧ x_2.cap = y_1.d.cap) ∧ ((64 : Nat) = (64 : Nat) ∧ ∀ (j : Nat), j <
  (64 : Nat) → x_2.at_ j = y_1.d.at_ j) ∧ True) ∧ (y_1.d.cap * (2 : Nat) ≤ x_2.cap * (2 : Nat) ∧ y_1.d.n ≤ x_2.n ∧ ∀ (j : Nat), j < y_1.d.n → x_2.id j = y_1.d.id j ∧ x_2.key j = y_1.d.key j ∧ True) ∧ True) ∧ (qL3 x
  a.v.toNat q.v).μ y_1 < (qL0 x a.v.toNat q.v).μ y) ∨ ∃ (y_1 : SQI), ((x.len ≤ (64 : Nat) ∧ a.v.toNat < x.len ∧ (1 : Nat) ≤ y_1.i ∧ y_1.i ≤ x.len) ∧ y_1.z.a.Is y_1.i (tA x y_1.i) ∧ y_1.z.b.Is y_1.i (tB x a.v.toNat q.v
  y_1.i) ∧ y_1.z.c.Is (cN a.v.toNat y_1.i) (tC x a.v.toNat y_1.i) ∧ y_1.z.d.Is y_1.i (tA x y_1.i)) ∧ False ∧ (qL4 x a.v.toNat q.v).μ y_1 < (qL0 x a.v.toNat q.v).μ y) ∧ (((↑(0 : Nat) : Int) == (↑a.v.toNat : Int)) = false →
  (x.nil = true → x.len = (0 : Nat)) ∧ ((0 : Int) ≤ (↑(0 : Nat) : Int) ∧ (↑(0 : Nat) : Int) < (↑x.len : Int)) ∧ (0 : Nat) < x.len ∧ (((True ∧ True) ∧ (↑(0 : Nat) : Int) = (↑(0 : Nat) : Int) ∧ x.f (0 : Nat) = x.f (0 : Nat)
  ∧ True) ∧ ((65 : Nat) ≤ (65 : Nat) ∧ True ∧ ((64 : Nat) = (64 : Nat) ∧ ∀ (j : Nat), j < (64 : Nat) → a0 j = a0 j) ∧ True) ∧ True) ∧ (((∀ (i : Nat), i < (64 : Nat) → a0 i = (0 : Int)) ∧ (0 : Int) ≤ x.f (0 : Nat) ∧ x.f (0
  : Nat) < (18446744073709551616 : Int)) ∧ (0 : Int) ≤ (↑(0 : Nat) : Int) ∧ (↑(0 : Nat) : Int) < (64 : Int)) ∧ ∀ (x_3 : HP), (x_3.Full ∧ x_3.n = (1 : Nat) ∧ ∀ (i : Int), x_3.M i = if i = (↑(0 : Nat) : Int) then some (x.f
  (0 : Nat)) else none) → (((True ∧ True) ∧ (↑(0 : Nat) : Int) = (↑(0 : Nat) : Int) ∧ v = v ∧ True) ∧ ((65 : Nat) ≤ (65 : Nat) ∧ True ∧ ((64 : Nat) = (64 : Nat) ∧ ∀ (j : Nat), j < (64 : Nat) → a0 j = a0 j) ∧ True) ∧ True)
  ∧ (((∀ (i : Nat), i < (64 : Nat) → a0 i = (0 : Int)) ∧ (0 : Int) ≤ v ∧ v < (18446744073709551616 : Int)) ∧ (0 : Int) ≤ (↑(0 : Nat) : Int) ∧ (↑(0 : Nat) : Int) < (64 : Int)) ∧ ∀ (x_4 : HP), (x_4.Full ∧ x_4.n = (1 : Nat) ∧
  ∀ (i : Int), x_4.M i = if i = (↑(0 : Nat) : Int) then some v else none) → ∀ (v : Int), v = IntKind.i64.wrap ((↑(0 : Nat) : Int) + (1 : Int)) → (∃ (y_1 : Bool), (x.len ≤ (64 : Nat) ∧ a.v.toNat < x.len) ∧ ((((x.nil = true
  → x.nil = true) ∧ (x.nil = false → x.nil = false ∧ True ∧ True ∧ (0 : Nat) = (0 : Nat) ∧ x.len = x.len ∧ x.cap = x.cap)) ∧ (↑a.v.toNat : Int) = (↑a.v.toNat : Int) ∧ q.v = q.v ∧ (True ∧ True) ∧ (True ∧ True) ∧ (True ∧
  True) ∧ (True ∧ True) ∧ v = (↑(0 : Nat) : Int) ∧ True) ∧ (x.len * (1 : Nat) ≤ x.len * (1 : Nat) ∧ x.len = x.len ∧ ∀ (j : Nat), j < x.len → x.f j = x.f j) ∧ ((65 : Nat) ≤ (65 : Nat) ∧ False ∧ ((64 : Nat) = (64 : Nat) ∧ ∀
  (j : Nat), j < (64 : Nat) → x_1.at_ j = a0 j) ∧ True) ∧ ((65 : Nat) ≤ (65 : Nat) ∧ False ∧ ((64 : Nat) = (64 : Nat) ∧ ∀ (j : Nat), j < (64 : Nat) → x_4.at_ j = a0 j) ∧ True) ∧ ((65 : Nat) ≤ (65 : Nat) ∧ False ∧ ((64 :
  Nat) = (64 : Nat) ∧ ∀ (j : Nat), j < (64 : Nat) → x_3.at_ j = a0 j) ∧ True) ∧ ((65 : Nat) ≤ (65 : Nat) ∧ False ∧ ((64 : Nat) = (64 : Nat) ∧ ∀ (j : Nat), j < (64 : Nat) → x_2.at_ j = a0 j) ∧ True) ∧ True) ∧ (qL0 x
  a.v.toNat q.v).μ y_1 < (qL0 x a.v.toNat q.v).μ y) ∨ (∃ (y_1 : SQ), ((x.len ≤ (64 : Nat) ∧ a.v.toNat = (0 : Nat) ∧ a.v.toNat < x.len) ∧ y_1.a.Is (1 : Nat) (tA x (1 : Nat)) ∧ y_1.b.Is (1 : Nat) (tB x a.v.toNat q.v (1 :
  Nat)) ∧ y_1.d.Is (1 : Nat) (tA x (1 : Nat))) ∧ ((((x.nil = true → x.nil = true) ∧ (x.nil = false → x.nil = false ∧ True ∧ True ∧ (0 : Nat) = (0 : Nat) ∧ x.len = x.len ∧ x.cap = x.cap)) ∧ (↑a.v.toNat : Int) = (↑a.v.toNat
  : Int) ∧ q.v = q.v ∧ (True ∧ True) ∧ (True ∧ True) ∧ (True ∧ True) ∧ (True ∧ True) ∧ v = (↑(1 : Nat) : Int) ∧ True) ∧ (x.len * (1 : Nat) ≤ x.len * (1 : Nat) ∧ x.len = x.len ∧ ∀ (j : Nat), j < x.len → x.f j = x.f j) ∧
  ((65 : Nat) ≤ (65 : Nat) ∧ (True ∧ True ∧ (0 : Nat) = (0 : Nat) ∧ x_1.n = y_1.a.n ∧ x_1.cap = y_1.a.cap) ∧ ((64 : Nat) = (64 : Nat) ∧ ∀ (j : Nat), j < (64 : Nat) → x_1.at_ j = y_1.a.at_ j) ∧ True) ∧ (y_1.a.cap * (2 :
  Nat) ≤ x_1.cap * (2 : Nat) ∧ y_1.a.n ≤ x_1.n ∧ ∀ (j : Nat), j < y_1.a.n → x_1.id j = y_1.a.id j ∧ x_1.key j = y_1.a.key j ∧ True) ∧ ((65 : Nat) ≤ (65 : Nat) ∧ (True ∧ True ∧ (0 : Nat) = (0 : Nat) ∧ x_4.n = y_1.b.n ∧
  x_4.cap = y_1.b.cap) ∧ ((64 : Nat) = (64 : Nat) ∧ ∀ (j : Nat), j < (64 : Nat) → x_4.at_ j = y_1.b.at_ j) ∧ True) ∧ (y_1.b.cap * (2 : Nat) ≤ x_4.cap * (2 : Nat) ∧ y_1.b.n ≤ x_4.n ∧ ∀ (j : Nat), j < y_1.b.n → x_4.id j =
  y_1.b.id j ∧ x_4.key j = y_1.b.key j ∧ True) ∧ ((65 : Nat) ≤ (65 : Nat) ∧ False ∧ ((64 : Nat) = (64 : Nat) ∧ ∀ (j : Nat), j < (64 : Nat) → x_3.at_ j = a0 j) ∧ True) ∧ ((65 : Nat) ≤ (65 : Nat) ∧ (True ∧ True ∧ (0 : Nat) =
  (0 : Nat) ∧ x_2.n = y_1.d.n ∧ x_2.cap = y_1.d.cap) ∧ ((64 : Nat) = (64 : Nat) ∧ ∀ (j : Nat), j < (64 : Nat) → x_2.at_ j = y_1.d.at_ j) ∧ True) ∧ (y_1.d.cap * (2 : Nat) ≤ x_2.cap * (2 : Nat) ∧ y_1.d.n ≤ x_2.n ∧ ∀ (j :
  Nat), j < y_1.d.n → x_2.id j = y_1.d.id j ∧ x_2.key j = y_1.d.key j ∧ True) ∧ True) ∧ (qL3 x a.v.toNat q.v).μ y_1 < (qL0 x a.v.toNat q.v).μ y) ∨ ∃ (y_1 : SQI), ((x.len ≤ (64 : Nat) ∧ a.v.toNat < x.len ∧ (1 : Nat) ≤ y_1.i
  ∧ y_1.i ≤ x.len) ∧ y_1.z.a.Is y_1.i (tA x y_1.i) ∧ y_1.z.b.Is y_1.i (tB x a.v.toNat q.v y_1.i) ∧ y_1.z.c.Is (cN a.v.toNat y_1.i) (tC x a.v.toNat y_1.i) ∧ y_1.z.d.Is y_1.i (tA x y_1.i)) ∧ ((((x.nil = true → x.nil = true)
  ∧ (x.nil = false → x.nil = false ∧ True ∧ True ∧ (0 : Nat) = (0 : Nat) ∧ x.len = x.len ∧ x.cap = x.cap)) ∧ (↑a.v.toNat : Int) = (↑a.v.toNat : Int) ∧ q.v = q.v ∧ (True ∧ True) ∧ (True ∧ True) ∧ (True ∧ True) ∧ (True ∧
  True) ∧ v = (↑y_1.i : Int) ∧ True) ∧ (x.len * (1 : Nat) ≤ x.len * (1 : Nat) ∧ x.len = x.len ∧ ∀ (j : Nat), j < x.len → x.f j = x.f j) ∧ ((65 : Nat) ≤ (65 : Nat) ∧ (True ∧ True ∧ (0 : Nat) = (0 : Nat) ∧ x_1.n = y_1.z.a.n
  ∧ x_1.cap = y_1.z.a.cap) ∧ ((64 : Nat) = (64 : Nat) ∧ ∀ (j : Nat), j < (64 : Nat) → x_1.at_ j = y_1.z.a.at_ j) ∧ True) ∧ (y_1.z.a.cap * (2 : Nat) ≤ x_1.cap * (2 : Nat) ∧ y_1.z.a.n ≤ x_1.n ∧ ∀ (j : Nat), j < y_1.z.a.n →
  x_1.id j = y_1.z.a.id j ∧ x_1.key j = y_1.z.a.key j ∧ True) ∧ ((65 : Nat) ≤ (65 : Nat) ∧ (True ∧ True ∧ (0 : Nat) = (0 : Nat) ∧ x_4.n = y_1.z.b.n ∧ x_4.cap = y_1.z.b.cap) ∧ ((64 : Nat) = (64 : Nat) ∧ ∀ (j : Nat), j < (64
  : Nat) → x_4.at_ j = y_1.z.b.at_ j) ∧ True) ∧ (y_1.z.b.cap * (2 : Nat) ≤ x_4.cap * (2 : Nat) ∧ y_1.z.b.n ≤ x_4.n ∧ ∀ (j : Nat), j < y_1.z.b.n → x_4.id j = y_1.z.b.id j ∧ x_4.key j = y_1.z.b.key j ∧ True) ∧ ((65 : Nat) ≤
  (65 : Nat) ∧ (True ∧ True ∧ (0 : Nat) = (0 : Nat) ∧ x_3.n = y_1.z.c.n ∧ x_3.cap = y_1.z.c.cap) ∧ ((64 : Nat) = (64 : Nat) ∧ ∀ (j : Nat), j < (64 : Nat) → x_3.at_ j = y_1.z.c.at_ j) ∧ True) ∧ (y_1.z.c.cap * (2 : Nat) ≤
  x_3.cap * (2 : Nat) ∧ y_1.z.c.n ≤ x_3.n ∧ ∀ (j : Nat), j < y_1.z.c.n → x_3.id j = y_1.z.c.id j ∧ x_3.key j = y_1.z.c.key j ∧ True) ∧ ((65 : Nat) ≤ (65 : Nat) ∧ (True ∧ True ∧ (0 : Nat) = (0 : Nat) ∧ x_2.n = y_1.z.d.n ∧
  x_2.cap = y_1.z.d.cap) ∧ ((64 : Nat) = (64 : Nat) ∧ ∀ (j : Nat), j < (64 : Nat) → x_2.at_ j = y_1.z.d.at_ j) ∧ True) ∧ (y_1.z.d.cap * (2 : Nat) ≤ x_2.cap * (2 : Nat) ∧ y_1.z.d.n ≤ x_2.n ∧ ∀ (j : Nat), j < y_1.z.d.n →
  x_2.id j = y_1.z.d.id j ∧ x_2.key j = y_1.z.d.key j ∧ True) ∧ True) ∧ (qL4 x a.v.toNat q.v).μ y_1 < (qL0 x a.v.toNat q.v).μ y)) ∧ (decide ((↑(0 : Nat) : Int) < (↑x.len : Int)) = false → ∃ (y : SQ), (((2 : Nat) ≤ x.len ∧
  x.len ≤ (64 : Nat) ∧ a.v.toNat < x.len) ∧ y.a.Is x.len (tA x x.len) ∧ y.b.Is x.len (tB x a.v.toNat q.v x.len) ∧ y.c.Is (x.len - (1 : Nat)) (tC x a.v.toNat x.len) ∧ y.d.Is x.len (tA x x.len)) ∧ False ∧ True)) ∧ (∀ (y :
  SQ), (x.len ≤ (64 : Nat) ∧ a.v.toNat = (0 : Nat) ∧ a.v.toNat < x.len) ∧ y.a.Is (1 : Nat) (tA x (1 : Nat)) ∧ y.b.Is (1 : Nat) (tB x a.v.toNat q.v (1 : Nat)) ∧ y.d.Is (1 : Nat) (tA x (1 : Nat)) → (x.nil = true → x.len = (0
  : Nat)) ∧ (decide ((↑(1 : Nat) : Int) < (↑x.len : Int)) = true → (x.nil = true → x.len = (0 : Nat)) ∧ ((0 : Int) ≤ (↑(1 : Nat) : Int) ∧ (↑(1 : Nat) : Int) < (↑x.len : Int)) ∧ (1 : Nat) < x.len ∧ (((True ∧ True) ∧ (↑(1 :
  Nat) : Int) = (↑(1 : Nat) : Int) ∧ x.f (1 : Nat) = x.f (1 : Nat) ∧ True) ∧ ((65 : Nat) ≤ (65 : Nat) ∧ (True ∧ True ∧ (0 : Nat) = (0 : Nat) ∧ y.a.n = y.a.n ∧ y.a.cap = y.a.cap) ∧ ((64 : Nat) = (64 : Nat) ∧ ∀ (j : Nat), j
  < (64 : Nat) → y.a.at_ j = y.a.at_ j) ∧ True) ∧ (y.a.cap * (2 : Nat) ≤ y.a.cap * (2 : Nat) ∧ y.a.n = y.a.n ∧ ∀ (j : Nat), j < y.a.n → y.a.id j = y.a.id j ∧ y.a.key j = y.a.key j ∧ True) ∧ True) ∧ ((((HP.mk y.a.n y.a.cap
  (fun (j : Nat) => y.a.id j) (fun (j : Nat) => y.a.key j) y.a.at_).Full ∧ y.a.n ≤ (10000 : Nat)) ∧ (0 : Int) ≤ x.f (1 : Nat) ∧ x.f (1 : Nat) < (18446744073709551616 : Int)) ∧ ((0 : Int) ≤ (↑(1 : Nat) : Int) ∧ (↑(1 : Nat)
  : Int) < (64 : Int)) ∧ (HP.mk y.a.n y.a.cap (fun (j : Nat) => y.a.id j) (fun (j : Nat) => y.a.key j) y.a.at_).M (↑(1 : Nat) : Int) = none) ∧ ∀ (x_1 : HP), (x_1.Full ∧ x_1.n = y.a.n + (1 : Nat) ∧ ∀ (i : Int), x_1.M i = if
  i = (↑(1 : Nat) : Int) then some (x.f (1 : Nat)) else (HP.mk y.a.n y.a.cap (fun (j : Nat) => y.a.id j) (fun (j : Nat) => y.a.key j) y.a.at_).M i) → (x.nil = true → x.len = (0 : Nat)) ∧ ((0 : Int) ≤ (↑(1 : Nat) : Int) ∧
  (↑(1 : Nat) : Int) < (↑x.len : Int)) ∧ (1 : Nat) < x.len ∧ (((True ∧ True) ∧ (↑(1 : Nat) : Int) = (↑(1 : Nat) : Int) ∧ x.f (1 : Nat) = x.f (1 : Nat) ∧ True) ∧ ((65 : Nat) ≤ (65 : Nat) ∧ (True ∧ True ∧ (0 : Nat) = (0 :
  Nat) ∧ y.d.n = y.d.n ∧ y.d.cap = y.d.cap) ∧ ((64 : Nat) = (64 : Nat) ∧ ∀ (j : Nat), j < (64 : Nat) → y.d.at_ j = y.d.at_ j) ∧ True) ∧ (y.d.cap * (2 : Nat) ≤ y.d.cap * (2 : Nat) ∧ y.d.n = y.d.n ∧ ∀ (j : Nat), j < y.d.n →
  y.d.id j = y.d.id j ∧ y.d.key j = y.d.key j ∧ True) ∧ True) ∧ ((((HP.mk y.d.n y.d.cap (fun (j : Nat) => y.d.id j) (fun (j : Nat) => y.d.key j) y.d.at_).Full ∧ y.d.n ≤ (10000 : Nat)) ∧ (0 : Int) ≤ x.f (1 : Nat) ∧ x.f (1 :
  Nat) < (18446744073709551616 : Int)) ∧ ((0 : Int) ≤ (↑(1 : Nat) : Int) ∧ (↑(1 : Nat) : Int) < (64 : Int)) ∧ (HP.mk y.d.n y.d.cap (fun (j : Nat) => y.d.id j) (fun (j : Nat) => y.d.key j) y.d.at_).M (↑(1 : Nat) : Int) =
  none) ∧ ∀ (x_2 : HP), (x_2.Full ∧ x_2.n = y.d.n + (1 : Nat) ∧ ∀ (i : Int), x_2.M i = if i = (↑(1 : Nat) : Int) then some (x.f (1 : Nat)) else (HP.mk y.d.n y.d.cap (fun (j : Nat) => y.d.id j) (fun (j : Nat) => y.d.key j)
  y.d.at_).M i) → (x.nil = true → x.len = (0 : Nat)) ∧ ((0 : Int) ≤ (↑(1 : Nat) : Int) ∧ (↑(1 : Nat) : Int) < (↑x.len : Int)) ∧ (1 : Nat) < x.len ∧ ∀ (v : Int), v = x.f (1 : Nat) → (((↑(1 : Nat) : Int) == (↑a.v.toNat :
  Int)) = true → ∀ (v : Int), v = q.v → (((True ∧ True) ∧ (↑(1 : Nat) : Int) = (↑(1 : Nat) : Int) ∧ v = v ∧ True) ∧ ((65 : Nat) ≤ (65 : Nat) ∧ (True ∧ True ∧ (0 : Nat) = (0 : Nat) ∧ y.b.n = y.b.n ∧ y.b.cap = y.b.cap) ∧
  ((64 : Nat) = (64 : Nat) ∧ ∀ (j : Nat), j < (64 : Nat) → y.b.at_ j = y.b.at_ j) ∧ True) ∧ (y.b.cap * (2 : Nat) ≤ y.b.cap * (2 : Nat) ∧ y.b.n = y.b.n ∧ ∀ (j : Nat), j < y.b.n → y.b.id j = y.b.id j ∧ y.b.key j = y.b.key j
  ∧ True) ∧ True) ∧ ((((HP.mk y.b.n y.b.cap (fun (j : Nat) => y.b.id j) (fun (j : Nat) => y.b.key j) y.b.at_).Full ∧ y.b.n ≤ (10000 : Nat)) ∧ (0 : Int) ≤ v ∧ v < (18446744073709551616 : Int)) ∧ ((0 : Int) ≤ (↑(1 : Nat) :
  Int) ∧ (↑(1 : Nat) : Int) < (64 : Int)) ∧ (HP.mk y.b.n y.b.cap (fun (j : Nat) => y.b.id j) (fun (j : Nat) => y.b.key j) y.b.at_).M (↑(1 : Nat) : Int) = none) ∧ ∀ (x_3 : HP), (x_3.Full ∧ x_3.n = y.b.n + (1 : Nat) ∧ ∀ (i :
  Int), x_3.M i = if i = (↑(1 : Nat) : Int) then some v else (HP.mk y.b.n y.b.cap (fun (j : Nat) => y.b.id j) (fun (j : Nat) => y.b.key j) y.b.at_).M i) → ∀ (v : Int), v = IntKind.i64.wrap ((↑(1 : Nat) : Int) + (1 : Int))
  → (∃ (y_1 : Bool), (x.len ≤ (64 : Nat) ∧ a.v.toNat < x.len) ∧ ((((x.nil = true → x.nil = true) ∧ (x.nil = false → x.nil = false ∧ True ∧ True ∧ (0 : Nat) = (0 : Nat) ∧ x.len = x.len ∧ x.cap = x.cap)) ∧ (↑a.v.toNat : Int)
  = (↑a.v.toNat : Int) ∧ q.v = q.v ∧ (True ∧ True) ∧ (True ∧ True) ∧ (True ∧ True) ∧ (True ∧ True) ∧ v = (↑(0 : Nat) : Int) ∧ True) ∧ (x.len * (1 : Nat) ≤ x.len * (1 : Nat) ∧ x.len = x.len ∧ ∀ (j : Nat), j < x.len → x.f j
  = x.f j) ∧ ((65 : Nat) ≤ (65 : Nat) ∧ False ∧ ((64 : Nat) = (64 : Nat) ∧ ∀ (j : Nat), j < (64 : Nat) → x_1.at_ j = a0 j) ∧ True) ∧ ((65 : Nat) ≤ (65 : Nat) ∧ False ∧ ((64 : Nat) = (64 : Nat) ∧ ∀ (j : Nat), j < (64 : Nat)
  → x_3.at_ j = a0 j) ∧ True) ∧ ((65 : Nat) ≤ (65 : Nat) ∧ True ∧ ((64 : Nat) = (64 : Nat) ∧ ∀ (j : Nat), j < (64 : Nat) → a0 j = a0 j) ∧ True) ∧ ((65 : Nat) ≤ (65 : Nat) ∧ False ∧ ((64 : Nat) = (64 : Nat) ∧ ∀ (j : Nat), j
  < (64 : Nat) → x_2.at_ j = a0 j) ∧ True) ∧ True) ∧ (qL0 x a.v.toNat q.v).μ y_1 < (qL3 x a.v.toNat q.v).μ y) ∨ (∃ (y_1 : SQ), ((x.len ≤ (64 : Nat) ∧ a.v.toNat = (0 : Nat) ∧ a.v.toNat < x.len) ∧ y_1.a.Is (1 : Nat) (tA x (1
  : Nat)) ∧ y_1.b.Is (1 : Nat) (tB x a.v.toNat q.v (1 : Nat)) ∧ y_1.d.Is (1 : Nat) (tA x (1 : Nat))) ∧ ((((x.nil = true → x.nil = true) ∧ (x.nil = false → x.nil = false ∧ True ∧ True ∧ (0 : Nat) = (0 : Nat) ∧ x.len = x.len
  ∧ x.cap = x.cap)) ∧ (↑a.v.toNat : Int) = (↑a.v.toNat : Int) ∧ q.v = q.v ∧ (True ∧ True) ∧ (True ∧ True) ∧ (True ∧ True) ∧ (True ∧ True) ∧ v = (↑(1 : Nat) : Int) ∧ True) ∧ (x.len * (1 : Nat) ≤ x.len * (1 : Nat) ∧ x.len =
  x.len ∧ ∀ (j : Nat), j < x.len → x.f j = x.f j) ∧ ((65 : Nat) ≤ (65 : Nat) ∧ (True ∧ True ∧ (0 : Nat) = (0 : Nat) ∧ x_1.n = y_1.a.n ∧ x_1.cap = y_1.a.cap) ∧ ((64 : Nat) = (64 : Nat) ∧ ∀ (j : Nat), j < (64 : Nat) →
  x_1.at_ j = y_1.a.at_ j) ∧ True) ∧ (y_1.a.cap * (2 : Nat) ≤ x_1.cap * (2 : Nat) ∧ y_1.a.n ≤ x_1.n ∧ ∀ (j : Nat), j < y_1.a.n → x_1.id j = y_1.a.id j ∧ x_1.key j = y_1.a.key j ∧ True) ∧ ((65 : Nat) ≤ (65 : Nat) ∧ (True ∧
  True ∧ (0 : Nat) = (0 : Nat) ∧ x_3.n = y_1.b.n ∧ x_3.cap = y_1.b.cap) ∧ ((64 : Nat) = (64 : Nat) ∧ ∀ (j : Nat), j < (64 : Nat) → x_3.at_ j = y_1.b.at_ j) ∧ True) ∧ (y_1.b.cap * (2 : Nat) ≤ x_3.cap * (2 : Nat) ∧ y_1.b.n ≤
  x_3.n ∧ ∀ (j : Nat), j < y_1.b.n → x_3.id j = y_1.b.id j ∧ x_3.key j = y_1.b.key j ∧ True) ∧ ((65 : Nat) ≤ (65 : Nat) ∧ True ∧ ((64 : Nat) = (64 : Nat) ∧ ∀ (j : Nat), j < (64 : Nat) → a0 j = a0 j) ∧ True) ∧ ((65 : Nat) ≤
  (65 : Nat) ∧ (True ∧ True ∧ (0 : Nat) = (0 : Nat) ∧ x_2.n = y_1.d.n ∧ x_2.cap = y_1.d.cap) ∧ ((64 : Nat) = (64 : Nat) ∧ ∀ (j : Nat), j < (64 : Nat) → x_2.at_ j = y_1.d.at_ j) ∧ True) ∧ (y_1.d.cap * (2 : Nat) ≤ x_2.cap *
  (2 : Nat) ∧ y_1.d.n ≤ x_2.n ∧ ∀ (j : Nat), j < y_1.d.n → x_2.id j = y_1.d.id j ∧ x_2.key j = y_1.d.key j ∧ True) ∧ True) ∧ (qL3 x a.v.toNat q.v).μ y_1 < (qL3 x a.v.toNat q.v).μ y) ∨ ∃ (y_1 : SQI), ((x.len ≤ (64 : Nat) ∧
  a.v.toNat < x.len ∧ (1 : Nat) ≤ y_1.i ∧ y_1.i ≤ x.len) ∧ y_1.z.a.Is y_1.i (tA x y_1.i) ∧ y_1.z.b.Is y_1.i (tB x a.v.toNat q.v y_1.i) ∧ y_1.z.c.Is (cN a.v.toNat y_1.i) (tC x a.v.toNat y_1.i) ∧ y_1.z.d.Is y_1.i (tA x
  y_1.i)) ∧ False ∧ (qL4 x a.v.toNat q.v).μ y_1 < (qL3 x a.v.toNat q.v).μ y) ∧ (((↑(1 : Nat) : Int) == (↑a.v.toNat : Int)) = false → (x.nil = true → x.len = (0 : Nat)) ∧ ((0 : Int) ≤ (↑(1 : Nat) : Int) ∧ (↑(1 : Nat) : Int)
  < (↑x.len : Int)) ∧ (1 : Nat) < x.len ∧ (((True ∧ True) ∧ (↑(1 : Nat) : Int) = (↑(1 : Nat) : Int) ∧ x.f (1 : Nat) = x.f (1 : Nat) ∧ True) ∧ ((65 : Nat) ≤ (65 : Nat) ∧ True ∧ ((64 : Nat) = (64 : Nat) ∧ ∀ (j : Nat), j <
  (64 : Nat) → a0 j = a0 j) ∧ True) ∧ True) ∧ (((∀ (i : Nat), i < (64 : Nat) → a0 i = (0 : Int)) ∧ (0 : Int) ≤ x.f (1 : Nat) ∧ x.f (1 : Nat) < (18446744073709551616 : Int)) ∧ (0 : Int) ≤ (↑(1 : Nat) : Int) ∧ (↑(1 : Nat) :
  Int) < (64 : Int)) ∧ ∀ (x_3 : HP), (x_3.Full ∧ x_3.n = (1 : Nat) ∧ ∀ (i : Int), x_3.M i = if i = (↑(1 : Nat) : Int) then some (x.f (1 : Nat)) else none) → (((True ∧ True) ∧ (↑(1 : Nat) : Int) = (↑(1 : Nat) : Int) ∧ v = v
  ∧ True) ∧ ((65 : Nat) ≤ (65 : Nat) ∧ (True ∧ True ∧ (0 : Nat) = (0 : Nat) ∧ y.b.n = y.b.n ∧ y.b.cap = y.b.cap) ∧ ((64 : Nat) = (64 : Nat) ∧ ∀ (j : Nat), j < (64 : Nat) → y.b.at_ j = y.b.at_ j) ∧ True) ∧ (y.b.cap * (2 :
  Nat) ≤ y.b.cap * (2 : Nat) ∧ y.b.n = y.b.n ∧ ∀ (j : Nat), j < y.b.n → y.b.id j = y.b.id j ∧ y.b.key j = y.b.key j ∧ True) ∧ True) ∧ ((((HP.mk y.b.n y.b.cap (fun (j : Nat) => y.b.id j) (fun (j : Nat) => y.b.key j)
  y.b.at_).Full ∧ y.b.n ≤ (10000 : Nat)) ∧ (0 : Int) ≤ v ∧ v < (18446744073709551616 : Int)) ∧ ((0 : Int) ≤ (↑(1 : Nat) : Int) ∧ (↑(1 : Nat) : Int) < (64 : Int)) ∧ (HP.mk y.b.n y.b.cap (fun (j : Nat) => y.b.id j) (fun (j :
  Nat) => y.b.key j) y.b.at_).M (↑(1 : Nat) : Int) = none) ∧ ∀ (x_4 : HP), (x_4.Full ∧ x_4.n = y.b.n + (1 : Nat) ∧ ∀ (i : Int), x_4.M i = if i = (↑(1 : Nat) : Int) then some v else (HP.mk y.b.n y.b.cap (fun (j : Nat) =>
  y.b.id j) (fun (j : Nat) => y.b.key j) y.b.at_).M i) → ∀ (v : Int), v = IntKind.i64.wrap ((↑(1 : Nat) : Int) + (1 : Int)) → (∃ (y_1 : Bool), (x.len ≤ (64 : Nat) ∧ a.v.toNat < x.len) ∧ ((((x.nil = true → x.nil = true) ∧
  (x.nil = false → x.nil = false ∧ True ∧ True ∧ (0 : Nat) = (0 : Nat) ∧ x.len = x.len ∧ x.cap = x.cap)) ∧ (↑a.v.toNat : Int) = (↑a.v.toNat : Int) ∧ q.v = q.v ∧ (True ∧ True) ∧ (True ∧ True) ∧ (True ∧ True) ∧ (True ∧ True)
  ∧ v = (↑(0 : Nat) : Int) ∧ True) ∧ (x.len * (1 : Nat) ≤ x.len * (1 : Nat) ∧ x.len = x.len ∧ ∀ (j : Nat), j < x.len → x.f j = x.f j) ∧ ((65 : Nat) ≤ (65 : Nat) ∧ False ∧ ((64 : Nat) = (64 : Nat) ∧ ∀ (j : Nat), j < (64 :
  Nat) → x_1.at_ j = a0 j) ∧ True) ∧ ((65 : Nat) ≤ (65 : Nat) ∧ False ∧ ((64 : Nat) = (64 : Nat) ∧ ∀ (j : Nat), j < (64 : Nat) → x_4.at_ j = a0 j) ∧ True) ∧ ((65 : Nat) ≤ (65 : Nat) ∧ False ∧ ((64 : Nat) = (64 : Nat) ∧ ∀
  (j : Nat), j < (64 : Nat) → x_3.at_ j = a0 j) ∧ True) ∧ ((65 : Nat) ≤ (65 : Nat) ∧ False ∧ ((64 : Nat) = (64 : Nat) ∧ ∀ (j : Nat), j < (64 : Nat) → x_2.at_ j = a0 j) ∧ True) ∧ True) ∧ (qL0 x a.v.toNat q.v).μ y_1 < (qL3 x
  a.v.toNat q.v).μ y) ∨ (∃ (y_1 : SQ), ((x.len ≤ (64 : Nat) ∧ a.v.toNat = (0 : Nat) ∧ a.v.toNat < x.len) ∧ y_1.a.Is (1 : Nat) (tA x (1 : Nat)) ∧ y_1.b.Is (1 : Nat) (tB x a.v.toNat q.v (1 : Nat)) ∧ y_1.d.Is (1 : Nat) (tA x
  (1 : Nat))) ∧ ((((x.nil = true → x.nil = true) ∧ (x.nil = false → x.nil = false ∧ True ∧ True ∧ (0 : Nat) = (0 : Nat) ∧ x.len = x.len ∧ x.cap = x.cap)) ∧ (↑a.v.toNat : Int) = (↑a.v.toNat : Int) ∧ q.v = q.v ∧ (True ∧
  True) ∧ (True ∧ True) ∧ (True ∧ True) ∧ (True ∧ True) ∧ v = (↑(1 : Nat) : Int) ∧ True) ∧ (x.len * (1 : Nat) ≤ x.len * (1 : Nat) ∧ x.len = x.len ∧ ∀ (j : Nat), j < x.len → x.f j = x.f j) ∧ ((65 : Nat) ≤ (65 : Nat) ∧ (True
  ∧ True ∧ (0 : Nat) = (0 : Nat) ∧ x_1.n = y_1.a.n ∧ x_1.cap = y_1.a.cap) ∧ ((64 : Nat) = (64 : Nat) ∧ ∀ (j : Nat), j < (64 : Nat) → x_1.at_ j = y_1.a.at_ j) ∧ True) ∧ (y_1.a.cap * (2 : Nat) ≤ x_1.cap * (2 : Nat) ∧ y_1.a.n
  ≤ x_1.n ∧ ∀ (j : Nat), j < y_1.a.n → x_1.id j = y_1.a.id j ∧ x_1.key j = y_1.a.key j ∧ True) ∧ ((65 : Nat) ≤ (65 : Nat) ∧ (True ∧ True ∧ (0 : Nat) = (0 : Nat) ∧ x_4.n = y_1.b.n ∧ x_4.cap = y_1.b.cap) ∧ ((64 : Nat) = (64
  : Nat) ∧ ∀ (j : Nat), j < (64 : Nat) → x_4.at_ j = y_1.b.at_ j) ∧ True) ∧ (y_1.b.cap * (2 : Nat) ≤ x_4.cap * (2 : Nat) ∧ y_1.b.n ≤ x_4.n ∧ ∀ (j : Nat), j < y_1.b.n → x_4.id j = y_1.b.id j ∧ x_4.key j = y_1.b.key j ∧
  True) ∧ ((65 : Nat) ≤ (65 : Nat) ∧ False ∧ ((64 : Nat) = (64 : Nat) ∧ ∀ (j : Nat), j < (64 : Nat) → x_3.at_ j = a0 j) ∧ True) ∧ ((65 : Nat) ≤ (65 : Nat) ∧ (True ∧ True ∧ (0 : Nat) = (0 : Nat) ∧ x_2.n = y_1.d.n ∧ x_2.cap
  = y_1.d.cap) ∧ ((64 : Nat) = (64 : Nat) ∧ ∀ (j : Nat), j < (64 : Nat) → x_2.at_ j = y_1.d.at_ j) ∧ True) ∧ (y_1.d.cap * (2 : Nat) ≤ x_2.cap * (2 : Nat) ∧ y_1.d.n ≤ x_2.n ∧ ∀ (j : Nat), j < y_1.d.n → x_2.id j = y_1.d.id j
  ∧ x_2.key j = y_1.d.key j ∧ True) ∧ True) ∧ (qL3 x a.v.toNat q.v).μ y_1 < (qL3 x a.v.toNat q.v).μ y) ∨ ∃ (y_1 : SQI), ((x.len ≤ (64 : Nat) ∧ a.v.toNat < x.len ∧ (1 : Nat) ≤ y_1.i ∧ y_1.i ≤ x.len) ∧ y_1.z.a.Is y_1.i (tA x
  y_1.i) ∧ y_1.z.b.Is y_1.i (tB x a.v.toNat q.v y_1.i) ∧ y_1.z.c.Is (cN a.v.toNat y_1.i) (tC x a.v.toNat y_1.i) ∧ y_1.z.d.Is y_1.i (tA x y_1.i)) ∧ ((((x.nil = true → x.nil = true) ∧ (x.nil = false → x.nil = false ∧ True ∧
  True ∧ (0 : Nat) = (0 : Nat) ∧ x.len = x.len ∧ x.cap = x.cap)) ∧ (↑a.v.toNat : Int) = (↑a.v.toNat : Int) ∧ q.v = q.v ∧ (True ∧ True) ∧ (True ∧ True) ∧ (True ∧ True) ∧ (True ∧ True) ∧ v = (↑y_1.i : Int) ∧ True) ∧ (x.len *
  (1 : Nat) ≤ x.len * (1 : Nat) ∧ x.len = x.len ∧ ∀ (j : Nat), j < x.len → x.f j = x.f j) ∧ ((65 : Nat) ≤ (65 : Nat) ∧ (True ∧ True ∧ (0 : Nat) = (0 : Nat) ∧ x_1.n = y_1.z.a.n ∧ x_1.cap = y_1.z.a.cap) ∧ ((64 : Nat) = (64 :
  Nat) ∧ ∀ (j : Nat), j < (64 : Nat) → x_1.at_ j = y_1.z.a.at_ j) ∧ True) ∧ (y_1.z.a.cap * (2 : Nat) ≤ x_1.cap * (2 : Nat) ∧ y_1.z.a.n ≤ x_1.n ∧ ∀ (j : Nat), j < y_1.z.a.n → x_1.id j = y_1.z.a.id j ∧ x_1.key j =
  y_1.z.a.key j ∧ True) ∧ ((65 : Nat) ≤ (65 : Nat) ∧ (True ∧ True ∧ (0 : Nat) = (0 : Nat) ∧ x_4.n = y_1.z.b.n ∧ x_4.cap = y_1.z.b.cap) ∧ ((64 : Nat) = (64 : Nat) ∧ ∀ (j : Nat), j < (64 : Nat) → x_4.at_ j = y_1.z.b.at_ j) ∧
  True) ∧ (y_1.z.b.cap * (2 : Nat) ≤ x_4.cap * (2 : Nat) ∧ y_1.z.b.n ≤ x_4.n ∧ ∀ (j : Nat), j < y_1.z.b.n → x_4.id j = y_1.z.b.id j ∧ x_4.key j = y_1.z.b.key j ∧ True) ∧ ((65 : Nat) ≤ (65 : Nat) ∧ (True ∧ True ∧ (0 : Nat)
  = (0 : Nat) ∧ x_3.n = y_1.z.c.n ∧ x_3.cap = y_1.z.c.cap) ∧ ((64 : Nat) = (64 : Nat) ∧ ∀ (j : Nat), j < (64 : Nat) → x_3.at_ j = y_1.z.c.at_ j) ∧ True) ∧ (y_1.z.c.cap * (2 : Nat) ≤ x_3.cap * (2 : Nat) ∧ y_1.z.c.n ≤ x_3.n
  ∧ ∀ (j : Nat), j < y_1.z.c.n → x_3.id j = y_1.z.c.id j ∧ x_3.key j = y_1.z.c.key j ∧ True) ∧ ((65 : Nat) ≤ (65 : Nat) ∧ (True ∧ True ∧ (0 : Nat) = (0 : Nat) ∧ x_2.n = y_1.z.d.n ∧ x_2.cap = y_1.z.d.cap) ∧ ((64 : Nat) =
  (64 : Nat) ∧ ∀ (j : Nat), j < (64 : Nat) → x_2.at_ j = y_1.z.d.at_ j) ∧ True) ∧ (y_1.z.d.cap * (2 : Nat) ≤ x_2.cap * (2 : Nat) ∧ y_1.z.d.n ≤ x_2.n ∧ ∀ (j : Nat), j < y_1.z.d.n → x_2.id j = y_1.z.d.id j ∧ x_2.key j =
  y_1.z.d.key j ∧ True) ∧ True) ∧ (qL4 x a.v.toNat q.v).μ y_1 < (qL3 x a.v.toNat q.v).μ y)) ∧ (decide ((↑(1 : Nat) : Int) < (↑x.len : Int)) = false → ∃ (y : SQ), (((2 : Nat) ≤ x.len ∧ x.len ≤ (64 : Nat) ∧ a.v.toNat <
  x.len) ∧ y.a.Is x.len (tA x x.len) ∧ y.b.Is x.len (tB x a.v.toNat q.v x.len) ∧ y.c.Is (x.len - (1 : Nat)) (tC x a.v.toNat x.len) ∧ y.d.Is x.len (tA x x.len)) ∧ False ∧ True)) ∧ ∀ (y : SQI), (x.len ≤ (64 : Nat) ∧
  a.v.toNat < x.len ∧ (1 : Nat) ≤ y.i ∧ y.i ≤ x.len) ∧ y.z.a.Is y.i (tA x y.i) ∧ y.z.b.Is y.i (tB x a.v.toNat q.v y.i) ∧ y.z.c.Is (cN a.v.toNat y.i) (tC x a.v.toNat y.i) ∧ y.z.d.Is y.i (tA x y.i) → (x.nil = true → x.len =
  (0 : Nat)) ∧ (decide ((↑y.i : Int) < (↑x.len : Int)) = true → (x.nil = true → x.len = (0 : Nat)) ∧ ((0 : Int) ≤ (↑y.i : Int) ∧ (↑y.i : Int) < (↑x.len : Int)) ∧ (0 : Nat) + (↑y.i : Int).toNat < x.len ∧ (((True ∧ True) ∧
  (↑y.i : Int) = (↑y.i : Int) ∧ x.f ((0 : Nat) + (↑y.i : Int).toNat) = x.f ((0 : Nat) + (↑y.i : Int).toNat) ∧ True) ∧ ((65 : Nat) ≤ (65 : Nat) ∧ (True ∧ True ∧ (0 : Nat) = (0 : Nat) ∧ y.z.a.n = y.z.a.n ∧ y.z.a.cap =
  y.z.a.cap) ∧ ((64 : Nat) = (64 : Nat) ∧ ∀ (j : Nat), j < (64 : Nat) → y.z.a.at_ j = y.z.a.at_ j) ∧ True) ∧ (y.z.a.cap * (2 : Nat) ≤ y.z.a.cap * (2 : Nat) ∧ y.z.a.n = y.z.a.n ∧ ∀ (j : Nat), j < y.z.a.n → y.z.a.id j =
  y.z.a.id j ∧ y.z.a.key j = y.z.a.key j ∧ True) ∧ True) ∧ ((((HP.mk y.z.a.n y.z.a.cap (fun (j : Nat) => y.z.a.id j) (fun (j : Nat) => y.z.a.key j) y.z.a.at_).Full ∧ y.z.a.n ≤ (10000 : Nat)) ∧ (0 : Int) ≤ x.f ((0 : Nat) +
  (↑y.i : Int).toNat) ∧ x.f ((0 : Nat) + (↑y.i : Int).toNat) < (18446744073709551616 : Int)) ∧ ((0 : Int) ≤ (↑y.i : Int) ∧ (↑y.i : Int) < (64 : Int)) ∧ (HP.mk y.z.a.n y.z.a.cap (fun (j : Nat) => y.z.a.id j) (fun (j : Nat)
  => y.z.a.key j) y.z.a.at_).M (↑y.i : Int) = none) ∧ ∀ (x_1 : HP), (x_1.Full ∧ x_1.n = y.z.a.n + (1 : Nat) ∧ ∀ (i : Int), x_1.M i = if i = (↑y.i : Int) then some (x.f ((0 : Nat) + (↑y.i : Int).toNat)) else (HP.mk y.z.a.n
  y.z.a.cap (fun (j : Nat) => y.z.a.id j) (fun (j : Nat) => y.z.a.key j) y.z.a.at_).M i) → (x.nil = true → x.len = (0 : Nat)) ∧ ((0 : Int) ≤ (↑y.i : Int) ∧ (↑y.i : Int) < (↑x.len : Int)) ∧ (0 : Nat) + (↑y.i : Int).toNat <
  x.len ∧ (((True ∧ True) ∧ (↑y.i : Int) = (↑y.i : Int) ∧ x.f ((0 : Nat) + (↑y.i : Int).toNat) = x.f ((0 : Nat) + (↑y.i : Int).toNat) ∧ True) ∧ ((65 : Nat) ≤ (65 : Nat) ∧ (True ∧ True ∧ (0 : Nat) = (0 : Nat) ∧ y.z.d.n =
  y.z.d.n ∧ y.z.d.cap = y.z.d.cap) ∧ ((64 : Nat) = (64 : Nat) ∧ ∀ (j : Nat), j < (64 : Nat) → y.z.d.at_ j = y.z.d.at_ j) ∧ True) ∧ (y.z.d.cap * (2 : Nat) ≤ y.z.d.cap * (2 : Nat) ∧ y.z.d.n = y.z.d.n ∧ ∀ (j : Nat), j <
  y.z.d.n → y.z.d.id j = y.z.d.id j ∧ y.z.d.key j = y.z.d.key j ∧ True) ∧ True) ∧ ((((HP.mk y.z.d.n y.z.d.cap (fun (j : Nat) => y.z.d.id j) (fun (j : Nat) => y.z.d.key j) y.z.d.at_).Full ∧ y.z.d.n ≤ (10000 : Nat)) ∧ (0 :
  Int) ≤ x.f ((0 : Nat) + (↑y.i : Int).toNat) ∧ x.f ((0 : Nat) + (↑y.i : Int).toNat) < (18446744073709551616 : Int)) ∧ ((0 : Int) ≤ (↑y.i : Int) ∧ (↑y.i : Int) < (64 : Int)) ∧ (HP.mk y.z.d.n y.z.d.cap (fun (j : Nat) =>
  y.z.d.id j) (fun (j : Nat) => y.z.d.key j) y.z.d.at_).M (↑y.i : Int) = none) ∧ ∀ (x_2 : HP), (x_2.Full ∧ x_2.n = y.z.d.n + (1 : Nat) ∧ ∀ (i : Int), x_2.M i = if i = (↑y.i : Int) then some (x.f ((0 : Nat) + (↑y.i :
  Int).toNat)) else (HP.mk y.z.d.n y.z.d.cap (fun (j : Nat) => y.z.d.id j) (fun (j : Nat) => y.z.d.key j) y.z.d.at_).M i) → (x.nil = true → x.len = (0 : Nat)) ∧ ((0 : Int) ≤ (↑y.i : Int) ∧ (↑y.i : Int) < (↑x.len : Int)) ∧
  (0 : Nat) + (↑y.i : Int).toNat < x.len ∧ ∀ (v : Int), v = x.f ((0 : Nat) + (↑y.i : Int).toNat) → (((↑y.i : Int) == (↑a.v.toNat : Int)) = true → ∀ (v : Int), v = q.v → (((True ∧ True) ∧ (↑y.i : Int) = (↑y.i : Int) ∧ v = v
  ∧ True) ∧ ((65 : Nat) ≤ (65 : Nat) ∧ (True ∧ True ∧ (0 : Nat) = (0 : Nat) ∧ y.z.b.n = y.z.b.n ∧ y.z.b.cap = y.z.b.cap) ∧ ((64 : Nat) = (64 : Nat) ∧ ∀ (j : Nat), j < (64 : Nat) → y.z.b.at_ j = y.z.b.at_ j) ∧ True) ∧
  (y.z.b.cap * (2 : Nat) ≤ y.z.b.cap * (2 : Nat) ∧ y.z.b.n = y.z.b.n ∧ ∀ (j : Nat), j < y.z.b.n → y.z.b.id j = y.z.b.id j ∧ y.z.b.key j = y.z.b.key j ∧ True) ∧ True) ∧ ((((HP.mk y.z.b.n y.z.b.cap (fun (j : Nat) => y.z.b.id
  j) (fun (j : Nat) => y.z.b.key j) y.z.b.at_).Full ∧ y.z.b.n ≤ (10000 : Nat)) ∧ (0 : Int) ≤ v ∧ v < (18446744073709551616 : Int)) ∧ ((0 : Int) ≤ (↑y.i : Int) ∧ (↑y.i : Int) < (64 : Int)) ∧ (HP.mk y.z.b.n y.z.b.cap (fun (j
  : Nat) => y.z.b.id j) (fun (j : Nat) => y.z.b.key j) y.z.b.at_).M (↑y.i : Int) = none) ∧ ∀ (x_3 : HP), (x_3.Full ∧ x_3.n = y.z.b.n + (1 : Nat) ∧ ∀ (i : Int), x_3.M i = if i = (↑y.i : Int) then some v else (HP.mk y.z.b.n
  y.z.b.cap (fun (j : Nat) => y.z.b.id j) (fun (j : Nat) => y.z.b.key j) y.z.b.at_).M i) → ∀ (v : Int), v = IntKind.i64.wrap ((↑y.i : Int) + (1 : Int)) → (∃ (y_1 : Bool), (x.len ≤ (64 : Nat) ∧ a.v.toNat < x.len) ∧
  ((((x.nil = true → x.nil = true) ∧ (x.nil = false → x.nil = false ∧ True ∧ True ∧ (0 : Nat) = (0 : Nat) ∧ x.len = x.len ∧ x.cap = x.cap)) ∧ (↑a.v.toNat : Int) = (↑a.v.toNat : Int) ∧ q.v = q.v ∧ (True ∧ True) ∧ (True ∧
  True) ∧ (True ∧ True) ∧ (True ∧ True) ∧ v = (↑(0 : Nat) : Int) ∧ True) ∧ (x.len * (1 : Nat) ≤ x.len * (1 : Nat) ∧ x.len = x.len ∧ ∀ (j : Nat), j < x.len → x.f j = x.f j) ∧ ((65 : Nat) ≤ (65 : Nat) ∧ False ∧ ((64 : Nat) =
  (64 : Nat) ∧ ∀ (j : Nat), j < (64 : Nat) → x_1.at_ j = a0 j) ∧ True) ∧ ((65 : Nat) ≤ (65 : Nat) ∧ False ∧ ((64 : Nat) = (64 : Nat) ∧ ∀ (j : Nat), j < (64 : Nat) → x_3.at_ j = a0 j) ∧ True) ∧ ((65 : Nat) ≤ (65 : Nat) ∧
  False ∧ ((64 : Nat) = (64 : Nat) ∧ ∀ (j : Nat), j < (64 : Nat) → y.z.c.at_ j = a0 j) ∧ True) ∧ ((65 : Nat) ≤ (65 : Nat) ∧ False ∧ ((64 : Nat) = (64 : Nat) ∧ ∀ (j : Nat), j < (64 : Nat) → x_2.at_ j = a0 j) ∧ True) ∧ True)
  ∧ (qL0 x a.v.toNat q.v).μ y_1 < (qL4 x a.v.toNat q.v).μ y) ∨ (∃ (y_1 : SQ), ((x.len ≤ (64 : Nat) ∧ a.v.toNat = (0 : Nat) ∧ a.v.toNat < x.len) ∧ y_1.a.Is (1 : Nat) (tA x (1 : Nat)) ∧ y_1.b.Is (1 : Nat) (tB x a.v.toNat q.v
  (1 : Nat)) ∧ y_1.d.Is (1 : Nat) (tA x (1 : Nat))) ∧ ((((x.nil = true → x.nil = true) ∧ (x.nil = false → x.nil = false ∧ True ∧ True ∧ (0 : Nat) = (0 : Nat) ∧ x.len = x.len ∧ x.cap = x.cap)) ∧ (↑a.v.toNat : Int) =
  (↑a.v.toNat : Int) ∧ q.v = q.v ∧ (True ∧ True) ∧ (True ∧ True) ∧ (True ∧ True) ∧ (True ∧ True) ∧ v = (↑(1 : Nat) : Int) ∧ True) ∧ (x.len * (1 : Nat) ≤ x.len * (1 : Nat) ∧ x.len = x.len ∧ ∀ (j : Nat), j < x.len → x.f j =
  x.f j) ∧ ((65 : Nat) ≤ (65 : Nat) ∧ (True ∧ True ∧ (0 : Nat) = (0 : Nat) ∧ x_1.n = y_1.a.n ∧ x_1.cap = y_1.a.cap) ∧ ((64 : Nat) = (64 : Nat) ∧ ∀ (j : Nat), j < (64 : Nat) → x_1.at_ j = y_1.a.at_ j) ∧ True) ∧ (y_1.a.cap *
  (2 : Nat) ≤ x_1.cap * (2 : Nat) ∧ y_1.a.n ≤ x_1.n ∧ ∀ (j : Nat), j < y_1.a.n → x_1.id j = y_1.a.id j ∧ x_1.key j = y_1.a.key j ∧ True) ∧ ((65 : Nat) ≤ (65 : Nat) ∧ (True ∧ True ∧ (0 : Nat) = (0 : Nat) ∧ x_3.n = y_1.b.n ∧
  x_3.cap = y_1.b.cap) ∧ ((64 : Nat) = (64 : Nat) ∧ ∀ (j : Nat), j < (64 : Nat) → x_3.at_ j = y_1.b.at_ j) ∧ True) ∧ (y_1.b.cap * (2 : Nat) ≤ x_3.cap * (2 : Nat) ∧ y_1.b.n ≤ x_3.n ∧ ∀ (j : Nat), j < y_1.b.n → x_3.id j =
  y_1.b.id j ∧ x_3.key j = y_1.b.key j ∧ True) ∧ ((65 : Nat) ≤ (65 : Nat) ∧ False ∧ ((64 : Nat) = (64 : Nat) ∧ ∀ (j : Nat), j < (64 : Nat) → y.z.c.at_ j = a0 j) ∧ True) ∧ ((65 : Nat) ≤ (65 : Nat) ∧ (True ∧ True ∧ (0 : Nat)
  = (0 : Nat) ∧ x_2.n = y_1.d.n ∧ x_2.cap = y_1.d.cap) ∧ ((64 : Nat) = (64 : Nat) ∧ ∀ (j : Nat), j < (64 : Nat) → x_2.at_ j = y_1.d.at_ j) ∧ True) ∧ (y_1.d.cap * (2 : Nat) ≤ x_2.cap * (2 : Nat) ∧ y_1.d.n ≤ x_2.n ∧ ∀ (j :
  Nat), j < y_1.d.n → x_2.id j = y_1.d.id j ∧ x_2.key j = y_1.d.key j ∧ True) ∧ True) ∧ (qL3 x a.v.toNat q.v).μ y_1 < (qL4 x a.v.toNat q.v).μ y) ∨ ∃ (y_1 : SQI), ((x.len ≤ (64 : Nat) ∧ a.v.toNat < x.len ∧ (1 : Nat) ≤ y_1.i
  ∧ y_1.i ≤ x.len) ∧ y_1.z.a.Is y_1.i (tA x y_1.i) ∧ y_1.z.b.Is y_1.i (tB x a.v.toNat q.v y_1.i) ∧ y_1.z.c.Is (cN a.v.toNat y_1.i) (tC x a.v.toNat y_1.i) ∧ y_1.z.d.Is y_1.i (tA x y_1.i)) ∧ ((((x.nil = true → x.nil = true)
  ∧ (x.nil = false → x.nil = false ∧ True ∧ True ∧ (0 : Nat) = (0 : Nat) ∧ x.len = x.len ∧ x.cap = x.cap)) ∧ (↑a.v.toNat : Int) = (↑a.v.toNat : Int) ∧ q.v = q.v ∧ (True ∧ True) ∧ (True ∧ True) ∧ (True ∧ True) ∧ (True ∧
  True) ∧ v = (↑y_1.i : Int) ∧ True) ∧ (x.len * (1 : Nat) ≤ x.len * (1 : Nat) ∧ x.len = x.len ∧ ∀ (j : Nat), j < x.len → x.f j = x.f j) ∧ ((65 : Nat) ≤ (65 : Nat) ∧ (True ∧ True ∧ (0 : Nat) = (0 : Nat) ∧ x_1.n = y_1.z.a.n
  ∧ x_1.cap = y_1.z.a.cap) ∧ ((64 : Nat) = (64 : Nat) ∧ ∀ (j : Nat), j < (64 : Nat) → x_1.at_ j = y_1.z.a.at_ j) ∧ True) ∧ (y_1.z.a.cap * (2 : Nat) ≤ x_1.cap * (2 : Nat) ∧ y_1.z.a.n ≤ x_1.n ∧ ∀ (j : Nat), j < y_1.z.a.n →
  x_1.id j = y_1.z.a.id j ∧ x_1.key j = y_1.z.a.key j ∧ True) ∧ ((65 : Nat) ≤ (65 : Nat) ∧ (True ∧ True ∧ (0 : Nat) = (0 : Nat) ∧ x_3.n = y_1.z.b.n ∧ x_3.cap = y_1.z.b.cap) ∧ ((64 : Nat) = (64 : Nat) ∧ ∀ (j : Nat), j < (64
  : Nat) → x_3.at_ j = y_1.z.b.at_ j) ∧ True) ∧ (y_1.z.b.cap * (2 : Nat) ≤ x_3.cap * (2 : Nat) ∧ y_1.z.b.n ≤ x_3.n ∧ ∀ (j : Nat), j < y_1.z.b.n → x_3.id j = y_1.z.b.id j ∧ x_3.key j = y_1.z.b.key j ∧ True) ∧ ((65 : Nat) ≤
  (65 : Nat) ∧ (True ∧ True ∧ (0 : Nat) = (0 : Nat) ∧ y.z.c.n = y_1.z.c.n ∧ y.z.c.cap = y_1.z.c.cap) ∧ ((64 : Nat) = (64 : Nat) ∧ ∀ (j : Nat), j < (64 : Nat) → y.z.c.at_ j = y_1.z.c.at_ j) ∧ True) ∧ (y_1.z.c.cap * (2 :
  Nat) ≤ y.z.c.cap * (2 : Nat) ∧ y_1.z.c.n ≤ y.z.c.n ∧ ∀ (j : Nat), j < y_1.z.c.n → y.z.c.id j = y_1.z.c.id j ∧ y.z.c.key j = y_1.z.c.key j ∧ True) ∧ ((65 : Nat) ≤ (65 : Nat) ∧ (True ∧ True ∧ (0 : Nat) = (0 : Nat) ∧ x_2.n
  = y_1.z.d.n ∧ x_2.cap = y_1.z.d.cap) ∧ ((64 : Nat) = (64 : Nat) ∧ ∀ (j : Nat), j < (64 : Nat) → x_2.at_ j = y_1.z.d.at_ j) ∧ True) ∧ (y_1.z.d.cap * (2 : Nat) ≤ x_2.cap * (2 : Nat) ∧ y_1.z.d.n ≤ x_2.n ∧ ∀ (j : Nat), j <
  y_1.z.d.n → x_2.id j = y_1.z.d.id j ∧ x_2.key j = y_1.z.d.key j ∧ True) ∧ True) ∧ (qL4 x a.v.toNat q.v).μ y_1 < (qL4 x a.v.toNat q.v).μ y) ∧ (((↑y.i : Int) == (↑a.v.toNat : Int)) = false → (x.nil = true → x.len = (0 :
  Nat)) ∧ ((0 : Int) ≤ (↑y.i : Int) ∧ (↑y.i : Int) < (↑x.len : Int)) ∧ (0 : Nat) + (↑y.i : Int).toNat < x.len ∧ (((True ∧ True) ∧ (↑y.i : Int) = (↑y.i : Int) ∧ x.f ((0 : Nat) + (↑y.i : Int).toNat) = x.f ((0 : Nat) + (↑y.i
  : Int).toNat) ∧ True) ∧ ((65 : Nat) ≤ (65 : Nat) ∧ (True ∧ True ∧ (0 : Nat) = (0 : Nat) ∧ y.z.c.n = y.z.c.n ∧ y.z.c.cap = y.z.c.cap) ∧ ((64 : Nat) = (64 : Nat) ∧ ∀ (j : Nat), j < (64 : Nat) → y.z.c.at_ j = y.z.c.at_ j) ∧
  True) ∧ (y.z.c.cap * (2 : Nat) ≤ y.z.c.cap * (2 : Nat) ∧ y.z.c.n = y.z.c.n ∧ ∀ (j : Nat), j < y.z.c.n → y.z.c.id j = y.z.c.id j ∧ y.z.c.key j = y.z.c.key j ∧ True) ∧ True) ∧ ((((HP.mk y.z.c.n y.z.c.cap (fun (j : Nat) =>
  y.z.c.id j) (fun (j : Nat) => y.z.c.key j) y.z.c.at_).Full ∧ y.z.c.n ≤ (10000 : Nat)) ∧ (0 : Int) ≤ x.f ((0 : Nat) + (↑y.i : Int).toNat) ∧ x.f ((0 : Nat) + (↑y.i : Int).toNat) < (18446744073709551616 : Int)) ∧ ((0 : Int)
  ≤ (↑y.i : Int) ∧ (↑y.i : Int) < (64 : Int)) ∧ (HP.mk y.z.c.n y.z.c.cap (fun (j : Nat) => y.z.c.id j) (fun (j : Nat) => y.z.c.key j) y.z.c.at_).M (↑y.i : Int) = none) ∧ ∀ (x_3 : HP), (x_3.Full ∧ x_3.n = y.z.c.n + (1 :
  Nat) ∧ ∀ (i : Int), x_3.M i = if i = (↑y.i : Int) then some (x.f ((0 : Nat) + (↑y.i : Int).toNat)) else (HP.mk y.z.c.n y.z.c.cap (fun (j : Nat) => y.z.c.id j) (fun (j : Nat) => y.z.c.key j) y.z.c.at_).M i) → (((True ∧
  True) ∧ (↑y.i : Int) = (↑y.i : Int) ∧ v = v ∧ True) ∧ ((65 : Nat) ≤ (65 : Nat) ∧ (True ∧ True ∧ (0 : Nat) = (0 : Nat) ∧ y.z.b.n = y.z.b.n ∧ y.z.b.cap = y.z.b.cap) ∧ ((64 : Nat) = (64 : Nat) ∧ ∀ (j : Nat), j < (64 : Nat)
  → y.z.b.at_ j = y.z.b.at_ j) ∧ True) ∧ (y.z.b.cap * (2 : Nat) ≤ y.z.b.cap * (2 : Nat) ∧ y.z.b.n = y.z.b.n ∧ ∀ (j : Nat), j < y.z.b.n → y.z.b.id j = y.z.b.id j ∧ y.z.b.key j = y.z.b.key j ∧ True) ∧ True) ∧ ((((HP.mk
  y.z.b.n y.z.b.cap (fun (j : Nat) => y.z.b.id j) (fun (j : Nat) => y.z.b.key j) y.z.b.at_).Full ∧ y.z.b.n ≤ (10000 : Nat)) ∧ (0 : Int) ≤ v ∧ v < (18446744073709551616 : Int)) ∧ ((0 : Int) ≤ (↑y.i : Int) ∧ (↑y.i : Int) <
  (64 : Int)) ∧ (HP.mk y.z.b.n y.z.b.cap (fun (j : Nat) => y.z.b.id j) (fun (j : Nat) => y.z.b.key j) y.z.b.at_).M (↑y.i : Int) = none) ∧ ∀ (x_4 : HP), (x_4.Full ∧ x_4.n = y.z.b.n + (1 : Nat) ∧ ∀ (i : Int), x_4.M i = if i
  = (↑y.i : Int) then some v else (HP.mk y.z.b.n y.z.b.cap (fun (j : Nat) => y.z.b.id j) (fun (j : Nat) => y.z.b.key j) y.z.b.at_).M i) → ∀ (v : Int), v = IntKind.i64.wrap ((↑y.i : Int) + (1 : Int)) → (∃ (y_1 : Bool),
  (x.len ≤ (64 : Nat) ∧ a.v.toNat < x.len) ∧ ((((x.nil = true → x.nil = true) ∧ (x.nil = false → x.nil = false ∧ True ∧ True ∧ (0 : Nat) = (0 : Nat) ∧ x.len = x.len ∧ x.cap = x.cap)) ∧ (↑a.v.toNat : Int) = (↑a.v.toNat :
  Int) ∧ q.v = q.v ∧ (True ∧ True) ∧ (True ∧ True) ∧ (True ∧ True) ∧ (True ∧ True) ∧ v = (↑(0 : Nat) : Int) ∧ True) ∧ (x.len * (1 : Nat) ≤ x.len * (1 : Nat) ∧ x.len = x.len ∧ ∀ (j : Nat), j < x.len → x.f j = x.f j) ∧ ((65
  : Nat) ≤ (65 : Nat) ∧ False ∧ ((64 : Nat) = (64 : Nat) ∧ ∀ (j : Nat), j < (64 : Nat) → x_1.at_ j = a0 j) ∧ True) ∧ ((65 : Nat) ≤ (65 : Nat) ∧ False ∧ ((64 : Nat) = (64 : Nat) ∧ ∀ (j : Nat), j < (64 : Nat) → x_4.at_ j =
  a0 j) ∧ True) ∧ ((65 : Nat) ≤ (65 : Nat) ∧ False ∧ ((64 : Nat) = (64 : Nat) ∧ ∀ (j : Nat), j < (64 : Nat) → x_3.at_ j = a0 j) ∧ True) ∧ ((65 : Nat) ≤ (65 : Nat) ∧ False ∧ ((64 : Nat) = (64 : Nat) ∧ ∀ (j : Nat), j < (64 :
  Nat) → x_2.at_ j = a0 j) ∧ True) ∧ True) ∧ (qL0 x a.v.toNat q.v).μ y_1 < (qL4 x a.v.toNat q.v).μ y) ∨ (∃ (y_1 : SQ), ((x.len ≤ (64 : Nat) ∧ a.v.toNat = (0 : Nat) ∧ a.v.toNat < x.len) ∧ y_1.a.Is (1 : Nat) (tA x (1 : Nat))
  ∧ y_1.b.Is (1 : Nat) (tB x a.v.toNat q.v (1 : Nat)) ∧ y_1.d.Is (1 : Nat) (tA x (1 : Nat))) ∧ ((((x.nil = true → x.nil = true) ∧ (x.nil = false → x.nil = false ∧ True ∧ True ∧ (0 : Nat) = (0 : Nat) ∧ x.len = x.len ∧ x.cap
  = x.cap)) ∧ (↑a.v.toNat : Int) = (↑a.v.toNat : Int) ∧ q.v = q.v ∧ (True ∧ True) ∧ (True ∧ True) ∧ (True ∧ True) ∧ (True ∧ True) ∧ v = (↑(1 : Nat) : Int) ∧ True) ∧ (x.len * (1 : Nat) ≤ x.len * (1 : Nat) ∧ x.len = x.len ∧
  ∀ (j : Nat), j < x.len → x.f j = x.f j) ∧ ((65 : Nat) ≤ (65 : Nat) ∧ (True ∧ True ∧ (0 : Nat) = (0 : Nat) ∧ x_1.n = y_1.a.n ∧ x_1.cap = y_1.a.cap) ∧ ((64 : Nat) = (64 : Nat) ∧ ∀ (j : Nat), j < (64 : Nat) → x_1.at_ j =
  y_1.a.at_ j) ∧ True) ∧ (y_1.a.cap * (2 : Nat) ≤ x_1.cap * (2 : Nat) ∧ y_1.a.n ≤ x_1.n ∧ ∀ (j : Nat), j < y_1.a.n → x_1.id j = y_1.a.id j ∧ x_1.key j = y_1.a.key j ∧ True) ∧ ((65 : Nat) ≤ (65 : Nat) ∧ (True ∧ True ∧ (0 :
  Nat) = (0 : Nat) ∧ x_4.n = y_1.b.n ∧ x_4.cap = y_1.b.cap) ∧ ((64 : Nat) = (64 : Nat) ∧ ∀ (j : Nat), j < (64 : Nat) → x_4.at_ j = y_1.b.at_ j) ∧ True) ∧ (y_1.b.cap * (2 : Nat) ≤ x_4.cap * (2 : Nat) ∧ y_1.b.n ≤ x_4.n ∧ ∀
  (j : Nat), j < y_1.b.n → x_4.id j = y_1.b.id j ∧ x_4.key j = y_1.b.key j ∧ True) ∧ ((65 : Nat) ≤ (65 : Nat) ∧ False ∧ ((64 : Nat) = (64 : Nat) ∧ ∀ (j : Nat), j < (64 : Nat) → x_3.at_ j = a0 j) ∧ True) ∧ ((65 : Nat) ≤ (65
  : Nat) ∧ (True ∧ True ∧ (0 : Nat) = (0 : Nat) ∧ x_2.n = y_1.d.n ∧ x_2.cap = y_1.d.cap) ∧ ((64 : Nat) = (64 : Nat) ∧ ∀ (j : Nat), j < (64 : Nat) → x_2.at_ j = y_1.d.at_ j) ∧ True) ∧ (y_1.d.cap * (2 : Nat) ≤ x_2.cap * (2 :
  Nat) ∧ y_1.d.n ≤ x_2.n ∧ ∀ (j : Nat), j < y_1.d.n → x_2.id j = y_1.d.id j ∧ x_2.key j = y_1.d.key j ∧ True) ∧ True) ∧ (qL3 x a.v.toNat q.v).μ y_1 < (qL4 x a.v.toNat q.v).μ y) ∨ ∃ (y_1 : SQI), ((x.len ≤ (64 : Nat) ∧
  a.v.toNat < x.len ∧ (1 : Nat) ≤ y_1.i ∧ y_1.i ≤ x.len) ∧ y_1.z.a.Is y_1.i (tA x y_1.i) ∧ y_1.z.b.Is y_1.i (tB x a.v.toNat q.v y_1.i) ∧ y_1.z.c.Is (cN a.v.toNat y_1.i) (tC x a.v.toNat y_1.i) ∧ y_1.z.d.Is y_1.i (tA x
  y_1.i)) ∧ ((((x.nil = true → x.nil = true) ∧ (x.nil = false → x.nil = false ∧ True ∧ True ∧ (0 : Nat) = (0 : Nat) ∧ x.len = x.len ∧ x.cap = x.cap)) ∧ (↑a.v.toNat : Int) = (↑a.v.toNat : Int) ∧ q.v = q.v ∧ (True ∧ True) ∧
  (True ∧ True) ∧ (True ∧ True) ∧ (True ∧ True) ∧ v = (↑y_1.i : Int) ∧ True) ∧ (x.len * (1 : Nat) ≤ x.len * (1 : Nat) ∧ x.len = x.len ∧ ∀ (j : Nat), j < x.len → x.f j = x.f j) ∧ ((65 : Nat) ≤ (65 : Nat) ∧ (True ∧ True ∧ (0
  : Nat) = (0 : Nat) ∧ x_1.n = y_1.z.a.n ∧ x_1.cap = y_1.z.a.cap) ∧ ((64 : Nat) = (64 : Nat) ∧ ∀ (j : Nat), j < (64 : Nat) → x_1.at_ j = y_1.z.a.at_ j) ∧ True) ∧ (y_1.z.a.cap * (2 : Nat) ≤ x_1.cap * (2 : Nat) ∧ y_1.z.a.n ≤
  x_1.n ∧ ∀ (j : Nat), j < y_1.z.a.n → x_1.id j = y_1.z.a.id j ∧ x_1.key j = y_1.z.a.key j ∧ True) ∧ ((65 : Nat) ≤ (65 : Nat) ∧ (True ∧ True ∧ (0 : Nat) = (0 : Nat) ∧ x_4.n = y_1.z.b.n ∧ x_4.cap = y_1.z.b.cap) ∧ ((64 :
  Nat) = (64 : Nat) ∧ ∀ (j : Nat), j < (64 : Nat) → x_4.at_ j = y_1.z.b.at_ j) ∧ True) ∧ (y_1.z.b.cap * (2 : Nat) ≤ x_4.cap * (2 : Nat) ∧ y_1.z.b.n ≤ x_4.n ∧ ∀ (j : Nat), j < y_1.z.b.n → x_4.id j = y_1.z.b.id j ∧ x_4.key j
  = y_1.z.b.key j ∧ True) ∧ ((65 : Nat) ≤ (65 : Nat) ∧ (True ∧ True ∧ (0 : Nat) = (0 : Nat) ∧ x_3.n = y_1.z.c.n ∧ x_3.cap = y_1.z.c.cap) ∧ ((64 : Nat) = (64 : Nat) ∧ ∀ (j : Nat), j < (64 : Nat) → x_3.at_ j = y_1.z.c.at_ j)
  ∧ True) ∧ (y_1.z.c.cap * (2 : Nat) ≤ x_3.cap * (2 : Nat) ∧ y_1.z.c.n ≤ x_3.n ∧ ∀ (j : Nat), j < y_1.z.c.n → x_3.id j = y_1.z.c.id j ∧ x_3.key j = y_1.z.c.key j ∧ True) ∧ ((65 : Nat) ≤ (65 : Nat) ∧ (True ∧ True ∧ (0 :
  Nat) = (0 : Nat) ∧ x_2.n = y_1.z.d.n ∧ x_2.cap = y_1.z.d.cap) ∧ ((64 : Nat) = (64 : Nat) ∧ ∀ (j : Nat), j < (64 : Nat) → x_2.at_ j = y_1.z.d.at_ j) ∧ True) ∧ (y_1.z.d.cap * (2 : Nat) ≤ x_2.cap * (2 : Nat) ∧ y_1.z.d.n ≤
  x_2.n ∧ ∀ (j : Nat), j < y_1.z.d.n → x_2.id j = y_1.z.d.id j ∧ x_2.key j = y_1.z.d.key j ∧ True) ∧ True) ∧ (qL4 x a.v.toNat q.v).μ y_1 < (qL4 x a.v.toNat q.v).μ y)) ∧ (decide ((↑y.i : Int) < (↑x.len : Int)) = false → ∃
  (y_1 : SQ), (((2 : Nat) ≤ x.len ∧ x.len ≤ (64 : Nat) ∧ a.v.toNat < x.len) ∧ y_1.a.Is x.len (tA x x.len) ∧ y_1.b.Is x.len (tB x a.v.toNat q.v x.len) ∧ y_1.c.Is (x.len - (1 : Nat)) (tC x a.v.toNat x.len) ∧ y_1.d.Is x.len
  (tA x x.len)) ∧ (((↑a.v.toNat : Int) = (↑a.v.toNat : Int) ∧ q.v = q.v ∧ (True ∧ True) ∧ (True ∧ True) ∧ (True ∧ True) ∧ (True ∧ True) ∧ True) ∧ (x.len * (1 : Nat) ≤ x.len * (1 : Nat) ∧ x.len = x.len ∧ ∀ (j : Nat), j <
  x.len → x.f j = x.f j) ∧ ((65 : Nat) ≤ (65 : Nat) ∧ (True ∧ True ∧ (0 : Nat) = (0 : Nat) ∧ y.z.a.n = y_1.a.n ∧ y.z.a.cap = y_1.a.cap) ∧ ((64 : Nat) = (64 : Nat) ∧ ∀ (j : Nat), j < (64 : Nat) → y.z.a.at_ j = y_1.a.at_ j)
  ∧ True) ∧ (y_1.a.cap * (2 : Nat) ≤ y.z.a.cap * (2 : Nat) ∧ y_1.a.n ≤ y.z.a.n ∧ ∀ (j : Nat), j < y_1.a.n → y.z.a.id j = y_1.a.id j ∧ y.z.a.key j = y_1.a.key j ∧ True) ∧ ((65 : Nat) ≤ (65 : Nat) ∧ (True ∧ True ∧ (0 : Nat)
  = (0 : Nat) ∧ y.z.b.n = y_1.b.n ∧ y.z.b.cap = y_1.b.cap) ∧ ((64 : Nat) = (64 : Nat) ∧ ∀ (j : Nat), j < (64 : Nat) → y.z.b.at_ j = y_1.b.at_ j) ∧ True) ∧ (y_1.b.cap * (2 : Nat) ≤ y.z.b.cap * (2 : Nat) ∧ y_1.b.n ≤ y.z.b.n
  ∧ ∀ (j : Nat), j < y_1.b.n → y.z.b.id j = y_1.b.id j ∧ y.z.b.key j = y_1.b.key j ∧ True) ∧ ((65 : Nat) ≤ (65 : Nat) ∧ (True ∧ True ∧ (0 : Nat) = (0 : Nat) ∧ y.z.c.n = y_1.c.n ∧ y.z.c.cap = y_1.c.cap) ∧ ((64 : Nat) = (64
  : Nat) ∧ ∀ (j : Nat), j < (64 : Nat) → y.z.c.at_ j = y_1.c.at_ j) ∧ True) ∧ (y_1.c.cap * (2 : Nat) ≤ y.z.c.cap * (2 : Nat) ∧ y_1.c.n ≤ y.z.c.n ∧ ∀ (j : Nat), j < y_1.c.n → y.z.c.id j = y_1.c.id j ∧ y.z.c.key j =
  y_1.c.key j ∧ True) ∧ ((65 : Nat) ≤ (65 : Nat) ∧ (True ∧ True ∧ (0 : Nat) = (0 : Nat) ∧ y.z.d.n = y_1.d.n ∧ y.z.d.cap = y_1.d.cap) ∧ ((64 : Nat) = (64 : Nat) ∧ ∀ (j : Nat), j < (64 : Nat) → y.z.d.at_ j = y_1.d.at_ j) ∧
  True) ∧ (y_1.d.cap * (2 : Nat) ≤ y.z.d.cap * (2 : Nat) ∧ y_1.d.n ≤ y.z.d.n ∧ ∀ (j : Nat), j < y_1.d.n → y.z.d.id j = y_1.d.id j ∧ y.z.d.key j = y_1.d.key j ∧ True) ∧ True) ∧ True)) ∧ ∀ (y : SQ), ((2 : Nat) ≤ x.len ∧
  x.len ≤ (64 : Nat) ∧ a.v.toNat < x.len) ∧ y.a.Is x.len (tA x x.len) ∧ y.b.Is x.len (tB x a.v.toNat q.v x.len) ∧ y.c.Is (x.len - (1 : Nat)) (tC x a.v.toNat x.len) ∧ y.d.Is x.len (tA x x.len) → (((True ∧ True) ∧
  (↑a.v.toNat : Int) = (↑a.v.toNat : Int) ∧ q.v = q.v ∧ True) ∧ ((65 : Nat) ≤ (65 : Nat) ∧ (True ∧ True ∧ (0 : Nat) = (0 : Nat) ∧ y.a.n = y.a.n ∧ y.a.cap = y.a.cap) ∧ ((64 : Nat) = (64 : Nat) ∧ ∀ (j : Nat), j < (64 : Nat)
  → y.a.at_ j = y.a.at_ j) ∧ True) ∧ (y.a.cap * (2 : Nat) ≤ y.a.cap * (2 : Nat) ∧ y.a.n = y.a.n ∧ ∀ (j : Nat), j < y.a.n → y.a.id j = y.a.id j ∧ y.a.key j = y.a.key j ∧ True) ∧ True) ∧ ((((HP.mk y.a.n y.a.cap (fun (j :
  Nat) => y.a.id j) (fun (j : Nat) => y.a.key j) y.a.at_).Full ∧ y.a.n ≤ (10000 : Nat)) ∧ (0 : Int) ≤ q.v ∧ q.v < (18446744073709551616 : Int)) ∧ ((0 : Int) ≤ (↑a.v.toNat : Int) ∧ (↑a.v.toNat : Int) < (64 : Int)) ∧ ¬(HP.mk
  y.a.n y.a.cap (fun (j : Nat) => y.a.id j) (fun (j : Nat) => y.a.key j) y.a.at_).M (↑a.v.toNat : Int) = none) ∧ ∀ (x_1 : HP), (x_1.Full ∧ (x_1.n = y.a.n ∧ x_1.cap = y.a.cap) ∧ ∀ (i : Int), x_1.M i = if i = (↑a.v.toNat :
  Int) then some q.v else (HP.mk y.a.n y.a.cap (fun (j : Nat) => y.a.id j) (fun (j : Nat) => y.a.key j) y.a.at_).M i) → (((0 : Int) != (0 : Int)) = true → x.Ok ∧ a.Ok ∧ q.Ok ∧ ¬x.len = (1 : Nat) → False ∧ True ∧ (x.len *
  (1 : Nat) ≤ x.len * (1 : Nat) ∧ x.len = x.len ∧ ∀ (j : Nat), j < x.len → x.f j = x.f j) ∧ True) ∧ (((0 : Int) != (0 : Int)) = false → (((True ∧ True) ∧ (↑a.v.toNat : Int) = (↑a.v.toNat : Int) ∧ True) ∧ ((65 : Nat) ≤ (65
  : Nat) ∧ (True ∧ True ∧ (0 : Nat) = (0 : Nat) ∧ y.d.n = y.d.n ∧ y.d.cap = y.d.cap) ∧ ((64 : Nat) = (64 : Nat) ∧ ∀ (j : Nat), j < (64 : Nat) → y.d.at_ j = y.d.at_ j) ∧ True) ∧ (y.d.cap * (2 : Nat) ≤ y.d.cap * (2 : Nat) ∧
  y.d.n = y.d.n ∧ ∀ (j : Nat), j < y.d.n → y.d.id j = y.d.id j ∧ y.d.key j = y.d.key j ∧ True) ∧ True) ∧ (((HP.mk y.d.n y.d.cap (fun (j : Nat) => y.d.id j) (fun (j : Nat) => y.d.key j) y.d.at_).Full ∧ y.d.n ≤ (10000 :
  Nat)) ∧ ¬(HP.mk y.d.n y.d.cap (fun (j : Nat) => y.d.id j) (fun (j : Nat) => y.d.key j) y.d.at_).M (↑a.v.toNat : Int) = none) ∧ ∀ (x_2 : HP), (x_2.Full ∧ (x_2.n = y.d.n - (1 : Nat) ∧ x_2.cap = y.d.cap) ∧ ∀ (i : Int),
  x_2.M i = if i = (↑a.v.toNat : Int) then none else (HP.mk y.d.n y.d.cap (fun (j : Nat) => y.d.id j) (fun (j : Nat) => y.d.key j) y.d.at_).M i) → (((True ∧ True) ∧ True) ∧ ((65 : Nat) ≤ (65 : Nat) ∧ (True ∧ True ∧ (0 :
  Nat) = (0 : Nat) ∧ x_1.n = x_1.n ∧ x_1.cap = x_1.cap) ∧ ((64 : Nat) = (64 : Nat) ∧ ∀ (j : Nat), j < (64 : Nat) → x_1.at_ j = x_1.at_ j) ∧ True) ∧ (x_1.cap * (2 : Nat) ≤ y.a.cap * (2 : Nat) ∧ x_1.n = x_1.n ∧ ∀ (j : Nat),
  j < x_1.n → x_1.id j = x_1.id j ∧ x_1.key j = x_1.key j ∧ True) ∧ True) ∧ (x_1.n ≤ (1000 : Nat) ∧ ¬x_1.n = (0 : Nat)) ∧ ∀ (x_3 : (Nat → It) × Nat), Srt x_1.n (HP.mk x_1.n x_1.cap (fun (j : Nat) => x_1.id j) (fun (j :
  Nat) => x_1.key j) x_1.at_).f x_3.fst ∧ x_1.n ≤ x_3.snd → (((True ∧ True) ∧ True) ∧ ((65 : Nat) ≤ (65 : Nat) ∧ (True ∧ True ∧ (0 : Nat) = (0 : Nat) ∧ y.b.n = y.b.n ∧ y.b.cap = y.b.cap) ∧ ((64 : Nat) = (64 : Nat) ∧ ∀ (j :
  Nat), j < (64 : Nat) → y.b.at_ j = y.b.at_ j) ∧ True) ∧ (y.b.cap * (2 : Nat) ≤ y.b.cap * (2 : Nat) ∧ y.b.n = y.b.n ∧ ∀ (j : Nat), j < y.b.n → y.b.id j = y.b.id j ∧ y.b.key j = y.b.key j ∧ True) ∧ True) ∧ (y.b.n ≤ (1000 :
  Nat) ∧ ¬y.b.n = (0 : Nat)) ∧ ∀ (x_4 : (Nat → It) × Nat), Srt y.b.n (HP.mk y.b.n y.b.cap (fun (j : Nat) => y.b.id j) (fun (j : Nat) => y.b.key j) y.b.at_).f x_4.fst ∧ y.b.n ≤ x_4.snd → (((True ∧ True ∧ (0 : Nat) = (0 :
  Nat) ∧ x_1.n = x_1.n ∧ x_3.snd = x_3.snd) ∧ (True ∧ True ∧ (0 : Nat) = (0 : Nat) ∧ y.b.n = y.b.n ∧ x_4.snd = x_4.snd) ∧ True) ∧ (x_3.snd * (1 : Nat) ≤ x_3.snd * (1 : Nat) ∧ x_1.n = x_1.n ∧ ∀ (j : Nat), j < x_1.n →
  (x_3.fst j).fst = (x_3.fst j).fst) ∧ (x_4.snd * (1 : Nat) ≤ x_4.snd * (1 : Nat) ∧ y.b.n = y.b.n ∧ ∀ (j : Nat), j < y.b.n → (x_4.fst j).fst = (x_4.fst j).fst) ∧ True) ∧ x_1.n ≤ (1000000 : Nat) ∧ (x_1.n = y.b.n → ((!sameB
  x_1.n (fun (j : Nat) => (x_3.fst j).fst) fun (j : Nat) => (x_4.fst j).fst) = true → x.Ok ∧ a.Ok ∧ q.Ok ∧ ¬x.len = (1 : Nat) → False ∧ True ∧ (x.len * (1 : Nat) ≤ x.len * (1 : Nat) ∧ x.len = x.len ∧ ∀ (j : Nat), j < x.len
  → x.f j = x.f j) ∧ True) ∧ ((!sameB x_1.n (fun (j : Nat) => (x_3.fst j).fst) fun (j : Nat) => (x_4.fst j).fst) = false → (((True ∧ True) ∧ True) ∧ ((65 : Nat) ≤ (65 : Nat) ∧ (True ∧ True ∧ (0 : Nat) = (0 : Nat) ∧ y.c.n =
  y.c.n ∧ y.c.cap = y.c.cap) ∧ ((64 : Nat) = (64 : Nat) ∧ ∀ (j : Nat), j < (64 : Nat) → y.c.at_ j = y.c.at_ j) ∧ True) ∧ (y.c.cap * (2 : Nat) ≤ y.c.cap * (2 : Nat) ∧ y.c.n = y.c.n ∧ ∀ (j : Nat), j < y.c.n → y.c.id j =
  y.c.id j ∧ y.c.key j = y.c.key j ∧ True) ∧ True) ∧ (y.c.n ≤ (1000 : Nat) ∧ ¬y.c.n = (0 : Nat)) ∧ ∀ (x_5 : (Nat → It) × Nat), Srt y.c.n (HP.mk y.c.n y.c.cap (fun (j : Nat) => y.c.id j) (fun (j : Nat) => y.c.key j)
  y.c.at_).f x_5.fst ∧ y.c.n ≤ x_5.snd → (((True ∧ True) ∧ True) ∧ ((65 : Nat) ≤ (65 : Nat) ∧ (True ∧ True ∧ (0 : Nat) = (0 : Nat) ∧ x_2.n = x_2.n ∧ x_2.cap = x_2.cap) ∧ ((64 : Nat) = (64 : Nat) ∧ ∀ (j : Nat), j < (64 :
  Nat) → x_2.at_ j = x_2.at_ j) ∧ True) ∧ (x_2.cap * (2 : Nat) ≤ y.d.cap * (2 : Nat) ∧ x_2.n = x_2.n ∧ ∀ (j : Nat), j < x_2.n → x_2.id j = x_2.id j ∧ x_2.key j = x_2.key j ∧ True) ∧ True) ∧ (x_2.n ≤ (1000 : Nat) ∧ ¬x_2.n =
  (0 : Nat)) ∧ ∀ (x_6 : (Nat → It) × Nat), Srt x_2.n (HP.mk x_2.n x_2.cap (fun (j : Nat) => x_2.id j) (fun (j : Nat) => x_2.key j) x_2.at_).f x_6.fst ∧ x_2.n ≤ x_6.snd → (((True ∧ True ∧ (0 : Nat) = (0 : Nat) ∧ y.c.n =
  y.c.n ∧ x_5.snd = x_5.snd) ∧ (True ∧ True ∧ (0 : Nat) = (0 : Nat) ∧ x_2.n = x_2.n ∧ x_6.snd = x_6.snd) ∧ True) ∧ (x_5.snd * (1 : Nat) ≤ x_5.snd * (1 : Nat) ∧ y.c.n = y.c.n ∧ ∀ (j : Nat), j < y.c.n → (x_5.fst j).fst =
  (x_5.fst j).fst) ∧ (x_6.snd * (1 : Nat) ≤ x_6.snd * (1 : Nat) ∧ x_2.n = x_2.n ∧ ∀ (j : Nat), j < x_2.n → (x_6.fst j).fst = (x_6.fst j).fst) ∧ True) ∧ y.c.n ≤ (1000000 : Nat) ∧ (y.c.n = x_2.n → ((!sameB y.c.n (fun (j :
  Nat) => (x_5.fst j).fst) fun (j : Nat) => (x_6.fst j).fst) = true → x.Ok ∧ a.Ok ∧ q.Ok ∧ ¬x.len = (1 : Nat) → False ∧ True ∧ (x.len * (1 : Nat) ≤ x.len * (1 : Nat) ∧ x.len = x.len ∧ ∀ (j : Nat), j < x.len → x.f j = x.f
  j) ∧ True) ∧ ((!sameB y.c.n (fun (j : Nat) => (x_5.fst j).fst) fun (j : Nat) => (x_6.fst j).fst) = false → (∃ (y_1 : SW), (y_1.a.Full ∧ y_1.b.Full ∧ (y_1.a.n = y_1.b.n ∧ y_1.a.n ≤ (64 : Nat)) ∧ ∀ (j : Int), y_1.a.M j =
  y_1.b.M j) ∧ (((True ∧ True) ∧ (True ∧ True) ∧ True) ∧ (x.len * (1 : Nat) ≤ x.len * (1 : Nat) ∧ x.len = x.len ∧ ∀ (j : Nat), j < x.len → x.f j = x.f j) ∧ ((65 : Nat) ≤ (65 : Nat) ∧ (True ∧ True ∧ (0 : Nat) = (0 : Nat) ∧
  x_1.n = y_1.a.n ∧ x_1.cap = y_1.a.cap) ∧ ((64 : Nat) = (64 : Nat) ∧ ∀ (j : Nat), j < (64 : Nat) → x_1.at_ j = y_1.a.at_ j) ∧ True) ∧ (y_1.a.cap * (2 : Nat) ≤ y.a.cap * (2 : Nat) ∧ y_1.a.n ≤ x_1.n ∧ ∀ (j : Nat), j <
  y_1.a.n → x_1.id j = y_1.a.id j ∧ x_1.key j = y_1.a.key j ∧ True) ∧ ((65 : Nat) ≤ (65 : Nat) ∧ (True ∧ True ∧ (0 : Nat) = (0 : Nat) ∧ y.b.n = y_1.b.n ∧ y.b.cap = y_1.b.cap) ∧ ((64 : Nat) = (64 : Nat) ∧ ∀ (j : Nat), j <
  (64 : Nat) → y.b.at_ j = y_1.b.at_ j) ∧ True) ∧ (y_1.b.cap * (2 : Nat) ≤ y.b.cap * (2 : Nat) ∧ y_1.b.n ≤ y.b.n ∧ ∀ (j : Nat), j < y_1.b.n → y.b.id j = y_1.b.id j ∧ y.b.key j = y_1.b.key j ∧ True) ∧ True) ∧ True) ∧ ∀ (y :
  SW), (y.a.Full ∧ y.b.Full ∧ (y.a.n = y.b.n ∧ y.a.n ≤ (64 : Nat)) ∧ ∀ (j : Int), y.a.M j = y.b.M j) → (((True ∧ True) ∧ True) ∧ ((65 : Nat) ≤ (65 : Nat) ∧ (True ∧ True ∧ (0 : Nat) = (0 : Nat) ∧ y.a.n = y.a.n ∧ y.a.cap =
  y.a.cap) ∧ ((64 : Nat) = (64 : Nat) ∧ ∀ (j : Nat), j < (64 : Nat) → y.a.at_ j = y.a.at_ j) ∧ True) ∧ (y.a.cap * (2 : Nat) ≤ y.a.cap * (2 : Nat) ∧ y.a.n = y.a.n ∧ ∀ (j : Nat), j < y.a.n → y.a.id j = y.a.id j ∧ y.a.key j =
  y.a.key j ∧ True) ∧ True) ∧ (decide ((↑y.a.n : Int) > (0 : Int)) = true → (((True ∧ True) ∧ True) ∧ ((65 : Nat) ≤ (65 : Nat) ∧ (True ∧ True ∧ (0 : Nat) = (0 : Nat) ∧ y.a.n = y.a.n ∧ y.a.cap = y.a.cap) ∧ ((64 : Nat) = (64
  : Nat) ∧ ∀ (j : Nat), j < (64 : Nat) → y.a.at_ j = y.a.at_ j) ∧ True) ∧ (y.a.cap * (2 : Nat) ≤ y.a.cap * (2 : Nat) ∧ y.a.n = y.a.n ∧ ∀ (j : Nat), j < y.a.n → y.a.id j = y.a.id j ∧ y.a.key j = y.a.key j ∧ True) ∧ True) ∧
  ∀ (v : Int), v = (↑y.a.n : Int) → (((True ∧ True) ∧ True) ∧ ((65 : Nat) ≤ (65 : Nat) ∧ (True ∧ True ∧ (0 : Nat) = (0 : Nat) ∧ y.a.n = y.a.n ∧ y.a.cap = y.a.cap) ∧ ((64 : Nat) = (64 : Nat) ∧ ∀ (j : Nat), j < (64 : Nat) →
  y.a.at_ j = y.a.at_ j) ∧ True) ∧ (y.a.cap * (2 : Nat) ≤ y.a.cap * (2 : Nat) ∧ y.a.n = y.a.n ∧ ∀ (j : Nat), j < y.a.n → y.a.id j = y.a.id j ∧ y.a.key j = y.a.key j ∧ True) ∧ True) ∧ (((HP.mk y.a.n y.a.cap (fun (j : Nat)
  => y.a.id j) (fun (j : Nat) => y.a.key j) y.a.at_).Full ∧ y.a.n ≤ (10000 : Nat)) ∧ ¬y.a.n = (0 : Nat)) ∧ ∀ (x_7 : HP), (x_7.Full ∧ (x_7.n = y.a.n - (1 : Nat) ∧ x_7.cap = y.a.cap) ∧ ∀ (i : Int), x_7.M i = if i = y.a.id (0
  : Nat) then none else (HP.mk y.a.n y.a.cap (fun (j : Nat) => y.a.id j) (fun (j : Nat) => y.a.key j) y.a.at_).M i) → ∀ (v_1 : Int), v_1 = y.a.id (0 : Nat) → ∀ (v_2 : Int), v_2 = y.a.key (0 : Nat) → (((True ∧ True) ∧ True)
  ∧ ((65 : Nat) ≤ (65 : Nat) ∧ (True ∧ True ∧ (0 : Nat) = (0 : Nat) ∧ y.b.n = y.b.n ∧ y.b.cap = y.b.cap) ∧ ((64 : Nat) = (64 : Nat) ∧ ∀ (j : Nat), j < (64 : Nat) → y.b.at_ j = y.b.at_ j) ∧ True) ∧ (y.b.cap * (2 : Nat) ≤
  y.b.cap * (2 : Nat) ∧ y.b.n = y.b.n ∧ ∀ (j : Nat), j < y.b.n → y.b.id j = y.b.id j ∧ y.b.key j = y.b.key j ∧ True) ∧ True) ∧ (((HP.mk y.b.n y.b.cap (fun (j : Nat) => y.b.id j) (fun (j : Nat) => y.b.key j) y.b.at_).Full ∧
  y.b.n ≤ (10000 : Nat)) ∧ ¬y.b.n = (0 : Nat)) ∧ ∀ (x_8 : HP), (x_8.Full ∧ (x_8.n = y.b.n - (1 : Nat) ∧ x_8.cap = y.b.cap) ∧ ∀ (i : Int), x_8.M i = if i = y.b.id (0 : Nat) then none else (HP.mk y.b.n y.b.cap (fun (j : Nat)
  => y.b.id j) (fun (j : Nat) => y.b.key j) y.b.at_).M i) → ∀ (v_3 : Int), v_3 = y.b.id (0 : Nat) → ∀ (v_4 : Int), v_4 = y.b.key (0 : Nat) → ((!true) = true → x.Ok ∧ a.Ok ∧ q.Ok ∧ ¬x.len = (1 : Nat) → False ∧ True ∧ (x.len
  * (1 : Nat) ≤ x.len * (1 : Nat) ∧ x.len = x.len ∧ ∀ (j : Nat), j < x.len → x.f j = x.f j) ∧ True) ∧ ((!true) = false → ((!true) = true → x.Ok ∧ a.Ok ∧ q.Ok ∧ ¬x.len = (1 : Nat) → False ∧ True ∧ (x.len * (1 : Nat) ≤ x.len
  * (1 : Nat) ∧ x.len = x.len ∧ ∀ (j : Nat), j < x.len → x.f j = x.f j) ∧ True) ∧ ((!true) = false → ((v_1 != v_3) = true → x.Ok ∧ a.Ok ∧ q.Ok ∧ ¬x.len = (1 : Nat) → False ∧ True ∧ (x.len * (1 : Nat) ≤ x.len * (1 : Nat) ∧
  x.len = x.len ∧ ∀ (j : Nat), j < x.len → x.f j = x.f j) ∧ True) ∧ ((v_1 != v_3) = false → ((v_2 != v_4) = true → x.Ok ∧ a.Ok ∧ q.Ok ∧ ¬x.len = (1 : Nat) → False ∧ True ∧ (x.len * (1 : Nat) ≤ x.len * (1 : Nat) ∧ x.len =
  x.len ∧ ∀ (j : Nat), j < x.len → x.f j = x.f j) ∧ True) ∧ ((v_2 != v_4) = false → (((True ∧ True) ∧ True) ∧ ((65 : Nat) ≤ (65 : Nat) ∧ (True ∧ True ∧ (0 : Nat) = (0 : Nat) ∧ x_7.n = x_7.n ∧ x_7.cap = x_7.cap) ∧ ((64 :
  Nat) = (64 : Nat) ∧ ∀ (j : Nat), j < (64 : Nat) → x_7.at_ j = x_7.at_ j) ∧ True) ∧ (x_7.cap * (2 : Nat) ≤ y.a.cap * (2 : Nat) ∧ x_7.n = x_7.n ∧ ∀ (j : Nat), j < x_7.n → x_7.id j = x_7.id j ∧ x_7.key j = x_7.key j ∧ True)
  ∧ True) ∧ (((↑x_7.n : Int) != IntKind.i64.wrap (v - (1 : Int))) = true → x.Ok ∧ a.Ok ∧ q.Ok ∧ ¬x.len = (1 : Nat) → False ∧ True ∧ (x.len * (1 : Nat) ≤ x.len * (1 : Nat) ∧ x.len = x.len ∧ ∀ (j : Nat), j < x.len → x.f j =
  x.f j) ∧ True) ∧ (((↑x_7.n : Int) != IntKind.i64.wrap (v - (1 : Int))) = false → ∃ (y_1 : SW), (y_1.a.Full ∧ y_1.b.Full ∧ (y_1.a.n = y_1.b.n ∧ y_1.a.n ≤ (64 : Nat)) ∧ ∀ (j : Int), y_1.a.M j = y_1.b.M j) ∧ (((True ∧ True)
  ∧ (True ∧ True) ∧ True) ∧ (x.len * (1 : Nat) ≤ x.len * (1 : Nat) ∧ x.len = x.len ∧ ∀ (j : Nat), j < x.len → x.f j = x.f j) ∧ ((65 : Nat) ≤ (65 : Nat) ∧ (True ∧ True ∧ (0 : Nat) = (0 : Nat) ∧ x_7.n = y_1.a.n ∧ x_7.cap =
  y_1.a.cap) ∧ ((64 : Nat) = (64 : Nat) ∧ ∀ (j : Nat), j < (64 : Nat) → x_7.at_ j = y_1.a.at_ j) ∧ True) ∧ (y_1.a.cap * (2 : Nat) ≤ y.a.cap * (2 : Nat) ∧ y_1.a.n ≤ x_7.n ∧ ∀ (j : Nat), j < y_1.a.n → x_7.id j = y_1.a.id j ∧
  x_7.key j = y_1.a.key j ∧ True) ∧ ((65 : Nat) ≤ (65 : Nat) ∧ (True ∧ True ∧ (0 : Nat) = (0 : Nat) ∧ x_8.n = y_1.b.n ∧ x_8.cap = y_1.b.cap) ∧ ((64 : Nat) = (64 : Nat) ∧ ∀ (j : Nat), j < (64 : Nat) → x_8.at_ j = y_1.b.at_
  j) ∧ True) ∧ (y_1.b.cap * (2 : Nat) ≤ y.b.cap * (2 : Nat) ∧ y_1.b.n ≤ x_8.n ∧ ∀ (j : Nat), j < y_1.b.n → x_8.id j = y_1.b.id j ∧ x_8.key j = y_1.b.key j ∧ True) ∧ True) ∧ (qW x).μ y_1 < (qW x).μ y)))))) ∧ (decide
  ((↑y.a.n : Int) > (0 : Int)) = false → (((True ∧ True) ∧ True) ∧ ((65 : Nat) ≤ (65 : Nat) ∧ (True ∧ True ∧ (0 : Nat) = (0 : Nat) ∧ y.b.n = y.b.n ∧ y.b.cap = y.b.cap) ∧ ((64 : Nat) = (64 : Nat) ∧ ∀ (j : Nat), j < (64 :
  Nat) → y.b.at_ j = y.b.at_ j) ∧ True) ∧ (y.b.cap * (2 : Nat) ≤ y.b.cap * (2 : Nat) ∧ y.b.n = y.b.n ∧ ∀ (j : Nat), j < y.b.n → y.b.id j = y.b.id j ∧ y.b.key j = y.b.key j ∧ True) ∧ True) ∧ (x.Ok ∧ a.Ok ∧ q.Ok ∧ ¬x.len =
  (1 : Nat) → ((↑y.b.n : Int) == (0 : Int)) = true ∧ True ∧ (x.len * (1 : Nat) ≤ x.len * (1 : Nat) ∧ x.len = x.len ∧ ∀ (j : Nat), j < x.len → x.f j = x.f j) ∧ True)))) ∧ (¬y.c.n = x_2.n → x.Ok ∧ a.Ok ∧ q.Ok ∧ ¬x.len = (1 :
  Nat) → False ∧ True ∧ (x.len * (1 : Nat) ≤ x.len * (1 : Nat) ∧ x.len = x.len ∧ ∀ (j : Nat), j < x.len → x.f j = x.f j) ∧ True))) ∧ (¬x_1.n = y.b.n → x.Ok ∧ a.Ok ∧ q.Ok ∧ ¬x.len = (1 : Nat) → False ∧ True ∧ (x.len * (1 :
  Nat) ≤ x.len * (1 : Nat) ∧ x.len = x.len ∧ ∀ (j : Nat), j < x.len → x.f j = x.f j) ∧ True))))) := by
  simp only [true_and, and_true, eq_self, Nat.le_refl, decide_eq_true_eq, decide_eq_false_iff_not, beq_iff_eq, beq_eq_false_iff_ne, implies_true, true_implies, and_self, bne_iff_ne, Int.not_lt, Int.not_le, ge_iff_le, gt_iff_lt, ne_eq, Nat.zero_add, Int.toNat_natCast, IntKind.wrap_i64, bne_eq_false_iff_eq, Bool.not_eq_true', Bool.not_eq_false']
  rintro x ⟨a⟩ ⟨q⟩ ⟨hx, ha, hq, h1⟩
  have hM0 : ∀ (k : Nat) (z : Bool), (qL0 x k q).μ z = x.len := fun _ _ => rfl
  have hM3 : ∀ (k : Nat) (z : SQ), (qL3 x k q).μ z = x.len - 1 := fun _ _ => rfl
  have hM4 : ∀ (k : Nat) (z : SQI), (qL4 x k q).μ z = x.len - z.i := fun _ _ => rfl
  have hMW : ∀ (z : SW), (qW x).μ z = z.a.n := fun _ => rfl
  simp only [HP.eta, hM0, hM3, hM4, hMW, hx, ha, hq, h1, and_false, false_and, exists_false, or_false, false_or, imp_self, and_self, true_and, not_true_eq_false, not_false_eq_true, true_implies, Bool.true_eq_false, forall_eq, exists_const, imp_false]
  clear hM0 hM3 hM4 hMW
  have hx2 := hx.2
  have hq1 := hq.1
  have hq2 := hq.2
  have t0 : ∀ i, i < 64 → a0 i = 0 := fun _ _ => rfl
  have hnil : x.nil = true → x.len = 0 := hx.1
  refine ⟨hnil, fun h64 a0' => ⟨hnil, fun alt => ⟨⟨⟨by omega, by omega, rfl⟩, fun _ _ => ⟨hnil, fun _ => ⟨hnil, by omega, by omega, ⟨⟨t0, hx2 0 (by omega)⟩, by omega⟩, fun A hA => ⟨hnil, by omega, by omega, ⟨⟨t0, hx2 0 (by omega)⟩, by omega⟩, fun D hD => ⟨hnil, by omega, by omega, fun e => ⟨⟨⟨t0, hq1, hq2⟩, by omega⟩, fun B hB => ⟨⟨A, B, A, D⟩, ⟨by omega, Is_1A hA, Is_1B (by rw [if_pos (by omega)]) hB, Is_1A hD⟩, ⟨by omega, eqM A, eqR A, eqM B, eqR B, eqM D, eqR D⟩, by omega⟩⟩, fun e => ⟨hnil, by omega, by omega, ⟨⟨t0, hx2 0 (by omega)⟩, by omega⟩, fun C hC => ⟨⟨⟨t0, hx2 0 (by omega)⟩, by omega⟩, fun B hB => ⟨⟨⟨A, B, C, D⟩, 1⟩, ⟨by dsimp only; omega, Is_1A hA, Is_1B (by rw [if_neg (by omega)]) hB, Is_1C (by omega) hC, Is_1A hD⟩, ⟨by show _ = ((1 : Nat) : Int); omega, eqM A, eqR A, eqM B, eqR B, eqM C, eqR C, eqM D, eqR D⟩, by show x.len - 1 < x.len; omega⟩⟩⟩⟩⟩⟩, fun _ => by omega⟩, ?_, ?_⟩, ?_⟩⟩⟩
  · rintro ⟨a', b', c', d'⟩ ⟨h, iA, iB, iD⟩
    dsimp only at iA iB iD ⊢
    have nA := iA.2.1
    have nB := iB.2.1
    have nD := iD.2.1
    refine ⟨hnil, fun _ => ⟨hnil, by omega, by omega, ⟨⟨⟨iA.1, by omega⟩, hx2 1 (by omega)⟩, by omega, by rw [iA.2.2]; exact tA_none x 1⟩, fun A hA => ⟨hnil, by omega, by omega, ⟨⟨⟨iD.1, by omega⟩, hx2 1 (by omega)⟩, by omega, by rw [iD.2.2]; exact tA_none x 1⟩, fun D hD => ⟨hnil, by omega, by omega, fun e => by omega, fun e => ⟨hnil, by omega, by omega, ⟨⟨t0, hx2 1 (by omega)⟩, by omega⟩, fun C hC => ⟨⟨⟨⟨iB.1, by omega⟩, hx2 1 (by omega)⟩, by omega, by rw [iB.2.2]; exact tB_none x _ _ 1⟩, fun B hB => ⟨⟨⟨A, B, C, D⟩, 2⟩, ⟨by dsimp only; omega, Is_pA iA hA, Is_pB (by rw [if_neg (by omega)]) iB hB, by dsimp only; rw [h.2.1]; exact Is_zC hC, Is_pA iD hD⟩, ⟨by show _ = ((2 : Nat) : Int); omega, eqM A, eqR A, eqM B, eqR B, eqM C, eqR C, eqM D, eqR D⟩, by show x.len - 2 < x.len - 1; omega⟩⟩⟩⟩⟩⟩, fun _ => by omega⟩
  · rintro ⟨⟨a', b', c', d'⟩, i⟩ ⟨h, iA, iB, iC, iD⟩
    dsimp only at h iA iB iC iD ⊢
    have nA := iA.2.1
    have nB := iB.2.1
    have nC := iC.2.1
    have nD := iD.2.1
    have nN : cN a.toNat i ≤ 64 := by unfold cN; split <;> omega
    refine ⟨hnil, fun _ => ⟨hnil, by omega, by omega, ⟨⟨⟨iA.1, by omega⟩, hx2 i (by omega)⟩, by omega, by rw [iA.2.2]; exact tA_none x i⟩, fun A hA => ⟨hnil, by omega, by omega, ⟨⟨⟨iD.1, by omega⟩, hx2 i (by omega)⟩, by omega, by rw [iD.2.2]; exact tA_none x i⟩, fun D hD => ⟨hnil, by omega, by omega, fun e => ⟨⟨⟨⟨iB.1, by omega⟩, hq1, hq2⟩, by omega, by rw [iB.2.2]; exact tB_none x _ _ i⟩, fun B hB => ⟨⟨⟨A, B, c', D⟩, i + 1⟩, ⟨by dsimp only; omega, Is_pA iA hA, Is_pB (by rw [if_pos (by omega)]) iB hB, Is_sC (by omega) iC, Is_pA iD hD⟩, ⟨by show _ = ((i + 1 : Nat) : Int); omega, eqM A, eqR A, eqM B, eqR B, eqM c', eqR c', eqM D, eqR D⟩, by show x.len - (i + 1) < x.len - i; omega⟩⟩, fun e => ⟨hnil, by omega, by omega, ⟨⟨⟨iC.1, by omega⟩, hx2 i (by omega)⟩, by omega, by rw [iC.2.2]; exact tC_none x _ i⟩, fun C hC => ⟨⟨⟨⟨iB.1, by omega⟩, hx2 i (by omega)⟩, by omega, by rw [iB.2.2]; exact tB_none x _ _ i⟩, fun B hB => ⟨⟨⟨A, B, C, D⟩, i + 1⟩, ⟨by dsimp only; omega, Is_pA iA hA, Is_pB (by rw [if_neg (by omega)]) iB hB, Is_pC (by omega) iC hC, Is_pA iD hD⟩, ⟨by show _ = ((i + 1 : Nat) : Int); omega, eqM A, eqR A, eqM B, eqR B, eqM C, eqR C, eqM D, eqR D⟩, by show x.len - (i + 1) < x.len - i; omega⟩⟩⟩⟩⟩⟩, fun _ => ?_⟩
    have e : i = x.len := by omega
    subst e
    have e : cN a.toNat x.len = x.len - 1 := if_pos (by omega)
    rw [e] at iC
    exact ⟨⟨a', b', c', d'⟩, ⟨by omega, iA, iB, iC, iD⟩, eqM a', eqR a', eqM b', eqR b', eqM c', eqR c', eqM d', eqR d'⟩
  · rintro ⟨a', b', c', d'⟩ ⟨h, iA, iB, iC, iD⟩
    dsimp only at h iA iB iC iD ⊢
    have nA := iA.2.1
    have nB := iB.2.1
    have nC := iC.2.1
    have nD := iD.2.1
    refine ⟨⟨⟨⟨iA.1, by omega⟩, hq1, hq2⟩, by omega, Is_has (by omega) iA⟩, fun A hA => ⟨⟨⟨iD.1, by omega⟩, Is_has (by omega) iD⟩, fun D hD => ?_⟩⟩
    have jA := Is_chg (by omega) iA hA
    have jD := Is_rem iD hD
    have kA := jA.2.1
    have kD := jD.2.1
    refine ⟨by rw [hA.2.1.2]; exact Nat.le_refl _, by omega, fun s1 hs1 => ⟨by omega, fun s2 hs2 => ⟨by omega, fun _ => ?_, fun h => h (by omega)⟩⟩⟩
    rw [same_T jA iB hs1.1 hs2.1]
    refine ⟨nofun, fun _ => ⟨by omega, fun s3 hs3 => ⟨by rw [hD.2.1.2]; exact Nat.le_refl _, by omega, fun s4 hs4 => ⟨by omega, fun _ => ?_, fun h => h (by omega)⟩⟩⟩⟩
    rw [same_T iC jD hs3.1 hs4.1]
    refine ⟨nofun, fun _ => ⟨⟨⟨A, b'⟩, ⟨jA.1, iB.1, (by dsimp only; omega), fun j => (jA.2.2 j).trans (iB.2.2 j).symm⟩, eqM A, eqR' hA.2.1.2, eqM b', eqR b'⟩, ?_⟩⟩
    rintro ⟨y, z⟩ ⟨fy, fz, en, em⟩
    dsimp only at fy fz en em ⊢
    refine ⟨fun h0 => ⟨⟨⟨fy, by omega⟩, by omega⟩, fun Y hY => ⟨⟨⟨fz, by omega⟩, by omega⟩, fun Z hZ => ?_⟩⟩, fun _ => by omega⟩
    have ef := same_first fy fz en.1 (by omega) em
    refine ⟨fun h => h ef.1, fun _ => ⟨fun h => h ef.2, fun _ => ⟨by rw [hY.2.1.2]; exact Nat.le_refl _, fun h => h (by omega), fun _ => ⟨⟨Y, Z⟩, ⟨hY.1, hZ.1, (by dsimp only; omega), fun j => by rw [hY.2.2, hZ.2.2, ef.1, em]⟩, ⟨eqM Y, eqR' hY.2.1.2, eqM Z, eqR' hZ.2.1.2⟩, by show Y.n < y.n; omega⟩⟩⟩⟩

def hc_C (x : (KS × JJ × JU)) : Cfg := { Γ := Go.Sx.look tHc, names := true, loops := qL (x.1) (x.2.1).v.toNat (x.2.2).v, cuts := qK4 (x.1) (x.2.1).v.toNat (x.2.2).v }
theorem hc_al (x : (KS × JJ × JU)) : Shown (heapCP.vc Try.prog (hc_C x) Try.f4 x) := ⟨@Eq.mp _ _ (by kernel_rfl) (hc_vc (x.1) (x.2.1) (x.2.2))⟩
theorem hc_ok : SpOk Try.prog 4 heapCP.sp := @Pat.okS _ heapCP Try.prog hc_C 4 Try.f4 (fun x => cfg_tab rfl tHc_ok) (by kernel_rfl) Try.func4 (fun _ => rfl) hc_al
end Go.Proofs.Ytnicidiocncjdaa
