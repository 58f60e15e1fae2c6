import Derived.Test.YtjofnajamlmllaaDoorI4
open Go Go.Sx Go.Proofs
set_option maxRecDepth 100000
namespace Go.Proofs.YtjofnajamlmllaaDoor
open Go.RowKit Go.Lib Go.Isa

def lineB (x : Ins) : ByteArray := if Right x then bs (lineL x) else ByteArray.empty
def wordB (x : Ins) (j : Nat) : ByteArray := bs ((words x)[j]?.getD [])
structure LS where
  k : Nat
  cap : Nat
def lineF (x : Ins) : Fam where
  α := LS
  I y := Right x ∧ insI x ∧ y.k ≤ regsN x.op.toNat ∧ 1 + y.k ≤ y.cap
  st y := { sl := mkSl 64 [(1, p0 0), (2, .str ByteArray.empty), (3, p0 1), (4, .slice 3 0 [] 0 1 (1 + y.k) y.cap), (24, .slice 2 0 [] 0 1 (regsN x.op.toNat) 2), (25, .int .i64 (regsN x.op.toNat)), (26, .int .i64 y.k)], H := [newReg 40 (insT x), newReg 67 (formT x.op.toNat), rowReg 3 2 1 2 (fun j => .int .i64 (if j = 0 then x.a else x.b)), rowReg 9 (1 + y.k) 1 y.cap (fun j => .str (wordB x j))] }
  μ y := regsN x.op.toNat - y.k
def lineC (x : Ins) : Fam where
  α := Nat
  I y := Right x ∧ insI x ∧ (words x).length ≤ y
  st y := { sl := mkSl 64 [(4, .slice 0 0 [] 0 1 (words x).length y)], H := [rowReg 9 (words x).length 1 y (fun j => .str (wordB x j))] }
  μ _ := 0
def lineL_ (x : Ins) : Nat → Gam
  | 6 => .l [lineF x]
  | _ => .l []
def lineK_ (x : Ins) : Nat → Gam
  | 17 => .l [lineC x]
  | _ => .l []
def lineP : Pat Ins where
  view | [.cons (.int .i64 o) (.cons (.int .i64 a) (.cons (.int .i64 b) (.cons (.int .i64 i) .nil)))], _ => some ⟨o, a, b, i⟩ | _, _ => none
  args x := [insT x]
  H _ := []
  out x := .need (insI x) (.retq (.str (lineB x)))
def tLine : Tab := [(19, rightP.sp), (29, formsP.sp), (43, regP.sp), (44, itoaP.sp), (30, sgnP.sp), (45, joinP.sp)]
theorem tLine_ok : TabOk Tryd.prog tLine := (tab_cons right_ok (tab_cons forms_ok (tab_cons reg_ok (tab_cons itoa_ok (tab_cons signed_ok (tab_cons join_ok tab_nil))))))

theorem line_vc : ∀ (x : Ins), insI x ∧ True → ((((x.op = x.op ∧ x.a = x.a ∧ x.b = x.b ∧ x.imm = x.imm ∧ True) ∧ True) ∧ True) ∧ insI (Ins.mk x.op x.a x.b x.imm) ∧ ((!decide (Right (Ins.mk x.op x.a x.b x.imm))) = true → insI x →
  ByteArray.mk #[] = lineB x ∧ True ∧ True) ∧ ((!decide (Right (Ins.mk x.op x.a x.b x.imm))) = false → ((True ∧ True) ∧ ((0 : Int) ≤ x.op ∧ x.op < (↑(28 : Nat) : Int)) ∧ ((0 : Int) ≤ (↑(regsN x.op.toNat) : Int) ∧ (↑(regsN
  x.op.toNat) : Int) ≤ (↑(2 : Nat) : Int)) ∧ (∃ (y : LS), ((((0 : Int) ≤ x.op ∧ x.op ≤ (27 : Int)) ∧ ((0 : Int) ≤ x.a ∧ x.a ≤ (15 : Int)) ∧ ((0 : Int) ≤ x.b ∧ x.b ≤ (15 : Int)) ∧ ((0 : Int) ≤ x.imm ∧ x.imm ≤ (65535 : Int))
  ∧ (regsN x.op.toNat < (1 : Nat) → x.a = (0 : Int)) ∧ (regsN x.op.toNat < (2 : Nat) → x.b = (0 : Int)) ∧ (immN x.op.toNat = (0 : Nat) → x.imm = (0 : Int)) ∧ (immN x.op.toNat = (2 : Nat) → x.imm < (16 : Int))) ∧ insI x ∧
  y.k ≤ regsN x.op.toNat ∧ (1 : Nat) + y.k ≤ y.cap) ∧ (((True ∧ True) ∧ ByteArray.mk #[] = ByteArray.empty ∧ (True ∧ True) ∧ (True ∧ True ∧ (0 : Nat) = (0 : Nat) ∧ (1 : Nat) = (1 : Nat) + y.k ∧ (1 : Nat) = y.cap) ∧ (True ∧
  True ∧ (0 : Nat) = (0 : Nat) ∧ (↑(regsN x.op.toNat) : Int).toNat = regsN x.op.toNat ∧ (2 : Nat) = (2 : Nat)) ∧ (↑(↑(regsN x.op.toNat) : Int).toNat : Int) = (↑(regsN x.op.toNat) : Int) ∧ (0 : Int) = (↑y.k : Int) ∧ True) ∧
  ((4 : Nat) ≤ (4 : Nat) ∧ x.op = x.op ∧ x.a = x.a ∧ x.b = x.b ∧ x.imm = x.imm ∧ True) ∧ ((3 : Nat) ≤ (3 : Nat) ∧ bs (wordL x.op.toNat) = bs (wordL x.op.toNat) ∧ (↑(regsN x.op.toNat) : Int) = (↑(regsN x.op.toNat) : Int) ∧
  (↑(immN x.op.toNat) : Int) = (↑(immN x.op.toNat) : Int) ∧ True) ∧ ((2 : Nat) ≤ (2 : Nat) ∧ (2 : Nat) = (2 : Nat) ∧ ∀ (j : Nat), j < (2 : Nat) → (bif j.beq (0 : Nat) then x.a else x.b) = if j = (0 : Nat) then x.a else
  x.b) ∧ (y.cap * (1 : Nat) ≤ (1 : Nat) ∧ (1 : Nat) + y.k = (1 : Nat) ∧ ∀ (j : Nat), j < (1 : Nat) → bs (wordL x.op.toNat) = wordB x j) ∧ True) ∧ True) ∧ ∀ (y : LS), (((0 : Int) ≤ x.op ∧ x.op ≤ (27 : Int)) ∧ ((0 : Int) ≤
  x.a ∧ x.a ≤ (15 : Int)) ∧ ((0 : Int) ≤ x.b ∧ x.b ≤ (15 : Int)) ∧ ((0 : Int) ≤ x.imm ∧ x.imm ≤ (65535 : Int)) ∧ (regsN x.op.toNat < (1 : Nat) → x.a = (0 : Int)) ∧ (regsN x.op.toNat < (2 : Nat) → x.b = (0 : Int)) ∧ (immN
  x.op.toNat = (0 : Nat) → x.imm = (0 : Int)) ∧ (immN x.op.toNat = (2 : Nat) → x.imm < (16 : Int))) ∧ insI x ∧ y.k ≤ regsN x.op.toNat ∧ (1 : Nat) + y.k ≤ y.cap → (decide ((↑y.k : Int) < (↑(regsN x.op.toNat) : Int)) = true
  → ((0 : Int) ≤ (↑y.k : Int) ∧ (↑y.k : Int) < (↑(regsN x.op.toNat) : Int)) ∧ (0 : Nat) + (↑y.k : Int).toNat < (2 : Nat) ∧ ∀ (v : Int), (v = if (0 : Nat) + (↑y.k : Int).toNat = (0 : Nat) then x.a else x.b) → ((v = v ∧
  True) ∧ True) ∧ ((-9223372036854775808 : Int) ≤ v ∧ v < (9223372036854775808 : Int)) ∧ (1 : Nat) ≤ (1 : Nat) ∧ ((0 : Nat) = (0 : Nat) ∧ (1 : Nat) + y.k ≤ (1 : Nat) + y.k ∧ (1 : Nat) + y.k ≤ y.cap ∧ y.cap * (1 : Nat) ≤
  y.cap * (1 : Nat) ∧ ((1 : Nat) + y.k + (1 : Nat)) * (16 : Nat) ≤ (140737488355328 : Nat) ∧ (1 : Nat) + y.k + (1 : Nat) ≤ (9223372036854775807 : Nat) ∧ (∀ (_ : Nat), (1 : Nat) = (1 : Nat)) ∧ ∀ (_ : Nat), (1 : Nat) = (1 :
  Nat)) ∧ ∀ (cap' : Nat), (1 : Nat) + y.k + (1 : Nat) ≤ cap' → ∃ (y_1 : LS), ((((0 : Int) ≤ x.op ∧ x.op ≤ (27 : Int)) ∧ ((0 : Int) ≤ x.a ∧ x.a ≤ (15 : Int)) ∧ ((0 : Int) ≤ x.b ∧ x.b ≤ (15 : Int)) ∧ ((0 : Int) ≤ x.imm ∧
  x.imm ≤ (65535 : Int)) ∧ (regsN x.op.toNat < (1 : Nat) → x.a = (0 : Int)) ∧ (regsN x.op.toNat < (2 : Nat) → x.b = (0 : Int)) ∧ (immN x.op.toNat = (0 : Nat) → x.imm = (0 : Int)) ∧ (immN x.op.toNat = (2 : Nat) → x.imm <
  (16 : Int))) ∧ insI x ∧ y_1.k ≤ regsN x.op.toNat ∧ (1 : Nat) + y_1.k ≤ y_1.cap) ∧ (((True ∧ True) ∧ ByteArray.empty = ByteArray.empty ∧ (True ∧ True) ∧ (True ∧ True ∧ (0 : Nat) = (0 : Nat) ∧ (1 : Nat) + y.k + (1 : Nat) =
  (1 : Nat) + y_1.k ∧ cap' = y_1.cap) ∧ (True ∧ True ∧ (0 : Nat) = (0 : Nat) ∧ regsN x.op.toNat = regsN x.op.toNat ∧ (2 : Nat) = (2 : Nat)) ∧ (↑(regsN x.op.toNat) : Int) = (↑(regsN x.op.toNat) : Int) ∧ IntKind.i64.wrap
  ((↑y.k : Int) + (1 : Int)) = (↑y_1.k : Int) ∧ True) ∧ ((4 : Nat) ≤ (4 : Nat) ∧ x.op = x.op ∧ x.a = x.a ∧ x.b = x.b ∧ x.imm = x.imm ∧ True) ∧ ((3 : Nat) ≤ (3 : Nat) ∧ bs (wordL x.op.toNat) = bs (wordL x.op.toNat) ∧
  (↑(regsN x.op.toNat) : Int) = (↑(regsN x.op.toNat) : Int) ∧ (↑(immN x.op.toNat) : Int) = (↑(immN x.op.toNat) : Int) ∧ True) ∧ ((2 : Nat) ≤ (2 : Nat) ∧ (2 : Nat) = (2 : Nat) ∧ ∀ (j : Nat), j < (2 : Nat) → (if j = (0 :
  Nat) then x.a else x.b) = if j = (0 : Nat) then x.a else x.b) ∧ (y_1.cap * (1 : Nat) ≤ cap' * (1 : Nat) ∧ (1 : Nat) + y_1.k = (1 : Nat) + y.k + (1 : Nat) ∧ ∀ (j : Nat), j < (1 : Nat) + y.k + (1 : Nat) → (j.blt ((1 : Nat)
  + y.k) = true → wordB x j = wordB x j) ∧ (j.blt ((1 : Nat) + y.k) = false → bs (regL v) = wordB x j)) ∧ True) ∧ (lineF x).μ y_1 < (lineF x).μ y) ∧ (decide ((↑y.k : Int) < (↑(regsN x.op.toNat) : Int)) = false → (((↑(immN
  x.op.toNat) : Int) == (1 : Int)) = true → ((x.imm = x.imm ∧ True) ∧ True) ∧ ((-9223372036854775808 : Int) ≤ x.imm ∧ x.imm < (9223372036854775808 : Int)) ∧ (1 : Nat) ≤ (1 : Nat) ∧ ((0 : Nat) = (0 : Nat) ∧ (1 : Nat) + y.k
  ≤ (1 : Nat) + y.k ∧ (1 : Nat) + y.k ≤ y.cap ∧ y.cap * (1 : Nat) ≤ y.cap * (1 : Nat) ∧ ((1 : Nat) + y.k + (1 : Nat)) * (16 : Nat) ≤ (140737488355328 : Nat) ∧ (1 : Nat) + y.k + (1 : Nat) ≤ (9223372036854775807 : Nat) ∧ (∀
  (_ : Nat), (1 : Nat) = (1 : Nat)) ∧ ∀ (_ : Nat), (1 : Nat) = (1 : Nat)) ∧ ∀ (cap' : Nat), (1 : Nat) + y.k + (1 : Nat) ≤ cap' → ∃ (y_1 : Nat), ((((0 : Int) ≤ x.op ∧ x.op ≤ (27 : Int)) ∧ ((0 : Int) ≤ x.a ∧ x.a ≤ (15 :
  Int)) ∧ ((0 : Int) ≤ x.b ∧ x.b ≤ (15 : Int)) ∧ ((0 : Int) ≤ x.imm ∧ x.imm ≤ (65535 : Int)) ∧ (regsN x.op.toNat < (1 : Nat) → x.a = (0 : Int)) ∧ (regsN x.op.toNat < (2 : Nat) → x.b = (0 : Int)) ∧ (immN x.op.toNat = (0 :
  Nat) → x.imm = (0 : Int)) ∧ (immN x.op.toNat = (2 : Nat) → x.imm < (16 : Int))) ∧ insI x ∧ (words x).length ≤ y_1) ∧ (((True ∧ True ∧ (0 : Nat) = (0 : Nat) ∧ (1 : Nat) + y.k + (1 : Nat) = (words x).length ∧ cap' = y_1) ∧
  True) ∧ (y_1 * (1 : Nat) ≤ cap' * (1 : Nat) ∧ (words x).length = (1 : Nat) + y.k + (1 : Nat) ∧ ∀ (j : Nat), j < (1 : Nat) + y.k + (1 : Nat) → (j.blt ((1 : Nat) + y.k) = true → wordB x j = wordB x j) ∧ (j.blt ((1 : Nat) +
  y.k) = false → bs (itoa x.imm) = wordB x j)) ∧ True) ∧ True) ∧ (((↑(immN x.op.toNat) : Int) == (1 : Int)) = false → (((↑(immN x.op.toNat) : Int) == (2 : Int)) = true → ((x.imm = x.imm ∧ True) ∧ True) ∧
  ((-9223372036854775808 : Int) ≤ x.imm ∧ x.imm < (9223372036854775808 : Int)) ∧ (1 : Nat) ≤ (1 : Nat) ∧ ((0 : Nat) = (0 : Nat) ∧ (1 : Nat) + y.k ≤ (1 : Nat) + y.k ∧ (1 : Nat) + y.k ≤ y.cap ∧ y.cap * (1 : Nat) ≤ y.cap * (1
  : Nat) ∧ ((1 : Nat) + y.k + (1 : Nat)) * (16 : Nat) ≤ (140737488355328 : Nat) ∧ (1 : Nat) + y.k + (1 : Nat) ≤ (9223372036854775807 : Nat) ∧ (∀ (_ : Nat), (1 : Nat) = (1 : Nat)) ∧ ∀ (_ : Nat), (1 : Nat) = (1 : Nat)) ∧ ∀
  (cap' : Nat), (1 : Nat) + y.k + (1 : Nat) ≤ cap' → ∃ (y_1 : Nat), ((((0 : Int) ≤ x.op ∧ x.op ≤ (27 : Int)) ∧ ((0 : Int) ≤ x.a ∧ x.a ≤ (15 : Int)) ∧ ((0 : Int) ≤ x.b ∧ x.b ≤ (15 : Int)) ∧ ((0 : Int) ≤ x.imm ∧ x.imm ≤
  (65535 : Int)) ∧ (regsN x.op.toNat < (1 : Nat) → x.a = (0 : Int)) ∧ (regsN x.op.toNat < (2 : Nat) → x.b = (0 : Int)) ∧ (immN x.op.toNat = (0 : Nat) → x.imm = (0 : Int)) ∧ (immN x.op.toNat = (2 : Nat) → x.imm < (16 :
  Int))) ∧ insI x ∧ (words x).length ≤ y_1) ∧ (((True ∧ True ∧ (0 : Nat) = (0 : Nat) ∧ (1 : Nat) + y.k + (1 : Nat) = (words x).length ∧ cap' = y_1) ∧ True) ∧ (y_1 * (1 : Nat) ≤ cap' * (1 : Nat) ∧ (words x).length = (1 :
  Nat) + y.k + (1 : Nat) ∧ ∀ (j : Nat), j < (1 : Nat) + y.k + (1 : Nat) → (j.blt ((1 : Nat) + y.k) = true → wordB x j = wordB x j) ∧ (j.blt ((1 : Nat) + y.k) = false → bs (regL x.imm) = wordB x j)) ∧ True) ∧ True) ∧
  (((↑(immN x.op.toNat) : Int) == (2 : Int)) = false → (((↑(immN x.op.toNat) : Int) == (3 : Int)) = true → (((x.op = x.op ∧ x.a = x.a ∧ x.b = x.b ∧ x.imm = x.imm ∧ True) ∧ True) ∧ True) ∧ ((sgn x.imm = sgn x.imm ∧ True) ∧
  True) ∧ ((-9223372036854775808 : Int) ≤ sgn x.imm ∧ sgn x.imm < (9223372036854775808 : Int)) ∧ (1 : Nat) ≤ (1 : Nat) ∧ ((0 : Nat) = (0 : Nat) ∧ (1 : Nat) + y.k ≤ (1 : Nat) + y.k ∧ (1 : Nat) + y.k ≤ y.cap ∧ y.cap * (1 :
  Nat) ≤ y.cap * (1 : Nat) ∧ ((1 : Nat) + y.k + (1 : Nat)) * (16 : Nat) ≤ (140737488355328 : Nat) ∧ (1 : Nat) + y.k + (1 : Nat) ≤ (9223372036854775807 : Nat) ∧ (∀ (_ : Nat), (1 : Nat) = (1 : Nat)) ∧ ∀ (_ : Nat), (1 : Nat)
  = (1 : Nat)) ∧ ∀ (cap' : Nat), (1 : Nat) + y.k + (1 : Nat) ≤ cap' → ∃ (y_1 : Nat), ((((0 : Int) ≤ x.op ∧ x.op ≤ (27 : Int)) ∧ ((0 : Int) ≤ x.a ∧ x.a ≤ (15 : Int)) ∧ ((0 : Int) ≤ x.b ∧ x.b ≤ (15 : Int)) ∧ ((0 : Int) ≤
  x.imm ∧ x.imm ≤ (65535 : Int)) ∧ (regsN x.op.toNat < (1 : Nat) → x.a = (0 : Int)) ∧ (regsN x.op.toNat < (2 : Nat) → x.b = (0 : Int)) ∧ (immN x.op.toNat = (0 : Nat) → x.imm = (0 : Int)) ∧ (immN x.op.toNat = (2 : Nat) →
  x.imm < (16 : Int))) ∧ insI x ∧ (words x).length ≤ y_1) ∧ (((True ∧ True ∧ (0 : Nat) = (0 : Nat) ∧ (1 : Nat) + y.k + (1 : Nat) = (words x).length ∧ cap' = y_1) ∧ True) ∧ (y_1 * (1 : Nat) ≤ cap' * (1 : Nat) ∧ (words
  x).length = (1 : Nat) + y.k + (1 : Nat) ∧ ∀ (j : Nat), j < (1 : Nat) + y.k + (1 : Nat) → (j.blt ((1 : Nat) + y.k) = true → wordB x j = wordB x j) ∧ (j.blt ((1 : Nat) + y.k) = false → bs (itoa (sgn x.imm)) = wordB x j)) ∧
  True) ∧ True) ∧ (((↑(immN x.op.toNat) : Int) == (3 : Int)) = false → ∃ (y_1 : Nat), ((((0 : Int) ≤ x.op ∧ x.op ≤ (27 : Int)) ∧ ((0 : Int) ≤ x.a ∧ x.a ≤ (15 : Int)) ∧ ((0 : Int) ≤ x.b ∧ x.b ≤ (15 : Int)) ∧ ((0 : Int) ≤
  x.imm ∧ x.imm ≤ (65535 : Int)) ∧ (regsN x.op.toNat < (1 : Nat) → x.a = (0 : Int)) ∧ (regsN x.op.toNat < (2 : Nat) → x.b = (0 : Int)) ∧ (immN x.op.toNat = (0 : Nat) → x.imm = (0 : Int)) ∧ (immN x.op.toNat = (2 : Nat) →
  x.imm < (16 : Int))) ∧ insI x ∧ (words x).length ≤ y_1) ∧ (((True ∧ True ∧ (0 : Nat) = (0 : Nat) ∧ (1 : Nat) + y.k = (words x).length ∧ y.cap = y_1) ∧ True) ∧ (y_1 * (1 : Nat) ≤ y.cap * (1 : Nat) ∧ (words x).length = (1
  : Nat) + y.k ∧ ∀ (j : Nat), j < (1 : Nat) + y.k → wordB x j = wordB x j) ∧ True) ∧ True))))) ∧ (True ∧ True) ∧ ((0 : Int) ≤ x.op ∧ x.op < (↑(28 : Nat) : Int)) ∧ ((0 : Int) ≤ (↑(regsN x.op.toNat) : Int) ∧ (↑(regsN
  x.op.toNat) : Int) ≤ (↑(2 : Nat) : Int)) ∧ (∃ (y : LS), ((((0 : Int) ≤ x.op ∧ x.op ≤ (27 : Int)) ∧ ((0 : Int) ≤ x.a ∧ x.a ≤ (15 : Int)) ∧ ((0 : Int) ≤ x.b ∧ x.b ≤ (15 : Int)) ∧ ((0 : Int) ≤ x.imm ∧ x.imm ≤ (65535 : Int))
  ∧ (regsN x.op.toNat < (1 : Nat) → x.a = (0 : Int)) ∧ (regsN x.op.toNat < (2 : Nat) → x.b = (0 : Int)) ∧ (immN x.op.toNat = (0 : Nat) → x.imm = (0 : Int)) ∧ (immN x.op.toNat = (2 : Nat) → x.imm < (16 : Int))) ∧ insI x ∧
  y.k ≤ regsN x.op.toNat ∧ (1 : Nat) + y.k ≤ y.cap) ∧ (((True ∧ True) ∧ ByteArray.mk #[] = ByteArray.empty ∧ (True ∧ True) ∧ (True ∧ True ∧ (0 : Nat) = (0 : Nat) ∧ (1 : Nat) = (1 : Nat) + y.k ∧ (1 : Nat) = y.cap) ∧ (True ∧
  True ∧ (0 : Nat) = (0 : Nat) ∧ (↑(regsN x.op.toNat) : Int).toNat = regsN x.op.toNat ∧ (2 : Nat) = (2 : Nat)) ∧ (↑(↑(regsN x.op.toNat) : Int).toNat : Int) = (↑(regsN x.op.toNat) : Int) ∧ (0 : Int) = (↑y.k : Int) ∧ True) ∧
  ((4 : Nat) ≤ (4 : Nat) ∧ x.op = x.op ∧ x.a = x.a ∧ x.b = x.b ∧ x.imm = x.imm ∧ True) ∧ ((3 : Nat) ≤ (3 : Nat) ∧ bs (wordL x.op.toNat) = bs (wordL x.op.toNat) ∧ (↑(regsN x.op.toNat) : Int) = (↑(regsN x.op.toNat) : Int) ∧
  (↑(immN x.op.toNat) : Int) = (↑(immN x.op.toNat) : Int) ∧ True) ∧ ((2 : Nat) ≤ (2 : Nat) ∧ (2 : Nat) = (2 : Nat) ∧ ∀ (j : Nat), j < (2 : Nat) → (bif j.beq (0 : Nat) then x.a else x.b) = if j = (0 : Nat) then x.a else
  x.b) ∧ (y.cap * (1 : Nat) ≤ (1 : Nat) ∧ (1 : Nat) + y.k = (1 : Nat) ∧ ∀ (j : Nat), j < (1 : Nat) → bs (wordL x.op.toNat) = wordB x j) ∧ True) ∧ True) ∧ ∀ (y : LS), (((0 : Int) ≤ x.op ∧ x.op ≤ (27 : Int)) ∧ ((0 : Int) ≤
  x.a ∧ x.a ≤ (15 : Int)) ∧ ((0 : Int) ≤ x.b ∧ x.b ≤ (15 : Int)) ∧ ((0 : Int) ≤ x.imm ∧ x.imm ≤ (65535 : Int)) ∧ (regsN x.op.toNat < (1 : Nat) → x.a = (0 : Int)) ∧ (regsN x.op.toNat < (2 : Nat) → x.b = (0 : Int)) ∧ (immN
  x.op.toNat = (0 : Nat) → x.imm = (0 : Int)) ∧ (immN x.op.toNat = (2 : Nat) → x.imm < (16 : Int))) ∧ insI x ∧ y.k ≤ regsN x.op.toNat ∧ (1 : Nat) + y.k ≤ y.cap → (decide ((↑y.k : Int) < (↑(regsN x.op.toNat) : Int)) = true
  → ((0 : Int) ≤ (↑y.k : Int) ∧ (↑y.k : Int) < (↑(regsN x.op.toNat) : Int)) ∧ (0 : Nat) + (↑y.k : Int).toNat < (2 : Nat) ∧ ∀ (v : Int), (v = if (0 : Nat) + (↑y.k : Int).toNat = (0 : Nat) then x.a else x.b) → ((v = v ∧
  True) ∧ True) ∧ ((-9223372036854775808 : Int) ≤ v ∧ v < (9223372036854775808 : Int)) ∧ (1 : Nat) ≤ (1 : Nat) ∧ ((0 : Nat) = (0 : Nat) ∧ (1 : Nat) + y.k ≤ (1 : Nat) + y.k ∧ (1 : Nat) + y.k ≤ y.cap ∧ y.cap * (1 : Nat) ≤
  y.cap * (1 : Nat) ∧ ((1 : Nat) + y.k + (1 : Nat)) * (16 : Nat) ≤ (140737488355328 : Nat) ∧ (1 : Nat) + y.k + (1 : Nat) ≤ (9223372036854775807 : Nat) ∧ (∀ (_ : Nat), (1 : Nat) = (1 : Nat)) ∧ ∀ (_ : Nat), (1 : Nat) = (1 :
  Nat)) ∧ ∀ (cap' : Nat), (1 : Nat) + y.k + (1 : Nat) ≤ cap' → ∃ (y_1 : LS), ((((0 : Int) ≤ x.op ∧ x.op ≤ (27 : Int)) ∧ ((0 : Int) ≤ x.a ∧ x.a ≤ (15 : Int)) ∧ ((0 : Int) ≤ x.b ∧ x.b ≤ (15 : Int)) ∧ ((0 : Int) ≤ x.imm ∧
  x.imm ≤ (65535 : Int)) ∧ (regsN x.op.toNat < (1 : Nat) → x.a = (0 : Int)) ∧ (regsN x.op.toNat < (2 : Nat) → x.b = (0 : Int)) ∧ (immN x.op.toNat = (0 : Nat) → x.imm = (0 : Int)) ∧ (immN x.op.toNat = (2 : Nat) → x.imm <
  (16 : Int))) ∧ insI x ∧ y_1.k ≤ regsN x.op.toNat ∧ (1 : Nat) + y_1.k ≤ y_1.cap) ∧ (((True ∧ True) ∧ ByteArray.empty = ByteArray.empty ∧ (True ∧ True) ∧ (True ∧ True ∧ (0 : Nat) = (0 : Nat) ∧ (1 : Nat) + y.k + (1 : Nat) =
  (1 : Nat) + y_1.k ∧ cap' = y_1.cap) ∧ (True ∧ True ∧ (0 : Nat) = (0 : Nat) ∧ regsN x.op.toNat = regsN x.op.toNat ∧ (2 : Nat) = (2 : Nat)) ∧ (↑(regsN x.op.toNat) : Int) = (↑(regsN x.op.toNat) : Int) ∧ IntKind.i64.wrap
  ((↑y.k : Int) + (1 : Int)) = (↑y_1.k : Int) ∧ True) ∧ ((4 : Nat) ≤ (4 : Nat) ∧ x.op = x.op ∧ x.a = x.a ∧ x.b = x.b ∧ x.imm = x.imm ∧ True) ∧ ((3 : Nat) ≤ (3 : Nat) ∧ bs (wordL x.op.toNat) = bs (wordL x.op.toNat) ∧
  (↑(regsN x.op.toNat) : Int) = (↑(regsN x.op.toNat) : Int) ∧ (↑(immN x.op.toNat) : Int) = (↑(immN x.op.toNat) : Int) ∧ True) ∧ ((2 : Nat) ≤ (2 : Nat) ∧ (2 : Nat) = (2 : Nat) ∧ ∀ (j : Nat), j < (2 : Nat) → (if j = (0 :
  Nat) then x.a else x.b) = if j = (0 : Nat) then x.a else x.b) ∧ (y_1.cap * (1 : Nat) ≤ cap' * (1 : Nat) ∧ (1 : Nat) + y_1.k = (1 : Nat) + y.k + (1 : Nat) ∧ ∀ (j : Nat), j < (1 : Nat) + y.k + (1 : Nat) → (j.blt ((1 : Nat)
  + y.k) = true → wordB x j = wordB x j) ∧ (j.blt ((1 : Nat) + y.k) = false → bs (regL v) = wordB x j)) ∧ True) ∧ (lineF x).μ y_1 < (lineF x).μ y) ∧ (decide ((↑y.k : Int) < (↑(regsN x.op.toNat) : Int)) = false → (((↑(immN
  x.op.toNat) : Int) == (1 : Int)) = true → ((x.imm = x.imm ∧ True) ∧ True) ∧ ((-9223372036854775808 : Int) ≤ x.imm ∧ x.imm < (9223372036854775808 : Int)) ∧ (1 : Nat) ≤ (1 : Nat) ∧ ((0 : Nat) = (0 : Nat) ∧ (1 : Nat) + y.k
  ≤ (1 : Nat) + y.k ∧ (1 : Nat) + y.k ≤ y.cap ∧ y.cap * (1 : Nat) ≤ y.cap * (1 : Nat) ∧ ((1 : Nat) + y.k + (1 : Nat)) * (16 : Nat) ≤ (140737488355328 : Nat) ∧ (1 : Nat) + y.k + (1 : Nat) ≤ (9223372036854775807 : Nat) ∧ (∀
  (_ : Nat), (1 : Nat) = (1 : Nat)) ∧ ∀ (_ : Nat), (1 : Nat) = (1 : Nat)) ∧ ∀ (cap' : Nat), (1 : Nat) + y.k + (1 : Nat) ≤ cap' → ∃ (y_1 : Nat), ((((0 : Int) ≤ x.op ∧ x.op ≤ (27 : Int)) ∧ ((0 : Int) ≤ x.a ∧ x.a ≤ (15 :
  Int)) ∧ ((0 : Int) ≤ x.b ∧ x.b ≤ (15 : Int)) ∧ ((0 : Int) ≤ x.imm ∧ x.imm ≤ (65535 : Int)) ∧ (regsN x.op.toNat < (1 : Nat) → x.a = (0 : Int)) ∧ (regsN x.op.toNat < (2 : Nat) → x.b = (0 : Int)) ∧ (immN x.op.toNat = (0 :
  Nat) → x.imm = (0 : Int)) ∧ (immN x.op.toNat = (2 : Nat) → x.imm < (16 : Int))) ∧ insI x ∧ (words x).length ≤ y_1) ∧ (((True ∧ True ∧ (0 : Nat) = (0 : Nat) ∧ (1 : Nat) + y.k + (1 : Nat) = (words x).length ∧ cap' = y_1) ∧
  True) ∧ (y_1 * (1 : Nat) ≤ cap' * (1 : Nat) ∧ (words x).length = (1 : Nat) + y.k + (1 : Nat) ∧ ∀ (j : Nat), j < (1 : Nat) + y.k + (1 : Nat) → (j.blt ((1 : Nat) + y.k) = true → wordB x j = wordB x j) ∧ (j.blt ((1 : Nat) +
  y.k) = false → bs (itoa x.imm) = wordB x j)) ∧ True) ∧ True) ∧ (((↑(immN x.op.toNat) : Int) == (1 : Int)) = false → (((↑(immN x.op.toNat) : Int) == (2 : Int)) = true → ((x.imm = x.imm ∧ True) ∧ True) ∧
  ((-9223372036854775808 : Int) ≤ x.imm ∧ x.imm < (9223372036854775808 : Int)) ∧ (1 : Nat) ≤ (1 : Nat) ∧ ((0 : Nat) = (0 : Nat) ∧ (1 : Nat) + y.k ≤ (1 : Nat) + y.k ∧ (1 : Nat) + y.k ≤ y.cap ∧ y.cap * (1 : Nat) ≤ y.cap * (1
  : Nat) ∧ ((1 : Nat) + y.k + (1 : Nat)) * (16 : Nat) ≤ (140737488355328 : Nat) ∧ (1 : Nat) + y.k + (1 : Nat) ≤ (9223372036854775807 : Nat) ∧ (∀ (_ : Nat), (1 : Nat) = (1 : Nat)) ∧ ∀ (_ : Nat), (1 : Nat) = (1 : Nat)) ∧ ∀
  (cap' : Nat), (1 : Nat) + y.k + (1 : Nat) ≤ cap' → ∃ (y_1 : Nat), ((((0 : Int) ≤ x.op ∧ x.op ≤ (27 : Int)) ∧ ((0 : Int) ≤ x.a ∧ x.a ≤ (15 : Int)) ∧ ((0 : Int) ≤ x.b ∧ x.b ≤ (15 : Int)) ∧ ((0 : Int) ≤ x.imm ∧ x.imm ≤
  (65535 : Int)) ∧ (regsN x.op.toNat < (1 : Nat) → x.a = (0 : Int)) ∧ (regsN x.op.toNat < (2 : Nat) → x.b = (0 : Int)) ∧ (immN x.op.toNat = (0 : Nat) → x.imm = (0 : Int)) ∧ (immN x.op.toNat = (2 : Nat) → x.imm < (16 :
  Int))) ∧ insI x ∧ (words x).length ≤ y_1) ∧ (((True ∧ True ∧ (0 : Nat) = (0 : Nat) ∧ (1 : Nat) + y.k + (1 : Nat) = (words x).length ∧ cap' = y_1) ∧ True) ∧ (y_1 * (1 : Nat) ≤ cap' * (1 : Nat) ∧ (words x).length = (1 :
  Nat) + y.k + (1 : Nat) ∧ ∀ (j : Nat), j < (1 : Nat) + y.k + (1 : Nat) → (j.blt ((1 : Nat) + y.k) = true → wordB x j = wordB x j) ∧ (j.blt ((1 : Nat) + y.k) = false → bs (regL x.imm) = wordB x j)) ∧ True) ∧ True) ∧
  (((↑(immN x.op.toNat) : Int) == (2 : Int)) = false → (((↑(immN x.op.toNat) : Int) == (3 : Int)) = true → (((x.op = x.op ∧ x.a = x.a ∧ x.b = x.b ∧ x.imm = x.imm ∧ True) ∧ True) ∧ True) ∧ ((sgn x.imm = sgn x.imm ∧ True) ∧
  True) ∧ ((-9223372036854775808 : Int) ≤ sgn x.imm ∧ sgn x.imm < (9223372036854775808 : Int)) ∧ (1 : Nat) ≤ (1 : Nat) ∧ ((0 : Nat) = (0 : Nat) ∧ (1 : Nat) + y.k ≤ (1 : Nat) + y.k ∧ (1 : Nat) + y.k ≤ y.cap ∧ y.cap * (1 :
  Nat) ≤ y.cap * (1 : Nat) ∧ ((1 : Nat) + y.k + (1 : Nat)) * (16 : Nat) ≤ (140737488355328 : Nat) ∧ (1 : Nat) + y.k + (1 : Nat) ≤ (9223372036854775807 : Nat) ∧ (∀ (_ : Nat), (1 : Nat) = (1 : Nat)) ∧ ∀ (_ : Nat), (1 : Nat)
  = (1 : Nat)) ∧ ∀ (cap' : Nat), (1 : Nat) + y.k + (1 : Nat) ≤ cap' → ∃ (y_1 : Nat), ((((0 : Int) ≤ x.op ∧ x.op ≤ (27 : Int)) ∧ ((0 : Int) ≤ x.a ∧ x.a ≤ (15 : Int)) ∧ ((0 : Int) ≤ x.b ∧ x.b ≤ (15 : Int)) ∧ ((0 : Int) ≤
  x.imm ∧ x.imm ≤ (65535 : Int)) ∧ (regsN x.op.toNat < (1 : Nat) → x.a = (0 : Int)) ∧ (regsN x.op.toNat < (2 : Nat) → x.b = (0 : Int)) ∧ (immN x.op.toNat = (0 : Nat) → x.imm = (0 : Int)) ∧ (immN x.op.toNat = (2 : Nat) →
  x.imm < (16 : Int))) ∧ insI x ∧ (words x).length ≤ y_1) ∧ (((True ∧ True ∧ (0 : Nat) = (0 : Nat) ∧ (1 : Nat) + y.k + (1 : Nat) = (words x).length ∧ cap' = y_1) ∧ True) ∧ (y_1 * (1 : Nat) ≤ cap' * (1 : Nat) ∧ (words
  x).length = (1 : Nat) + y.k + (1 : Nat) ∧ ∀ (j : Nat), j < (1 : Nat) + y.k + (1 : Nat) → (j.blt ((1 : Nat) + y.k) = true → wordB x j = wordB x j) ∧ (j.blt ((1 : Nat) + y.k) = false → bs (itoa (sgn x.imm)) = wordB x j)) ∧
  True) ∧ True) ∧ (((↑(immN x.op.toNat) : Int) == (3 : Int)) = false → ∃ (y_1 : Nat), ((((0 : Int) ≤ x.op ∧ x.op ≤ (27 : Int)) ∧ ((0 : Int) ≤ x.a ∧ x.a ≤ (15 : Int)) ∧ ((0 : Int) ≤ x.b ∧ x.b ≤ (15 : Int)) ∧ ((0 : Int) ≤
  x.imm ∧ x.imm ≤ (65535 : Int)) ∧ (regsN x.op.toNat < (1 : Nat) → x.a = (0 : Int)) ∧ (regsN x.op.toNat < (2 : Nat) → x.b = (0 : Int)) ∧ (immN x.op.toNat = (0 : Nat) → x.imm = (0 : Int)) ∧ (immN x.op.toNat = (2 : Nat) →
  x.imm < (16 : Int))) ∧ insI x ∧ (words x).length ≤ y_1) ∧ (((True ∧ True ∧ (0 : Nat) = (0 : Nat) ∧ (1 : Nat) + y.k = (words x).length ∧ y.cap = y_1) ∧ True) ∧ (y_1 * (1 : Nat) ≤ y.cap * (1 : Nat) ∧ (words x).length = (1
  : Nat) + y.k ∧ ∀ (j : Nat), j < (1 : Nat) + y.k → wordB x j = wordB x j) ∧ True) ∧ True)))))) ∧ ∀ (y : Nat), (((0 : Int) ≤ x.op ∧ x.op ≤ (27 : Int)) ∧ ((0 : Int) ≤ x.a ∧ x.a ≤ (15 : Int)) ∧ ((0 : Int) ≤ x.b ∧ x.b ≤ (15 :
  Int)) ∧ ((0 : Int) ≤ x.imm ∧ x.imm ≤ (65535 : Int)) ∧ (regsN x.op.toNat < (1 : Nat) → x.a = (0 : Int)) ∧ (regsN x.op.toNat < (2 : Nat) → x.b = (0 : Int)) ∧ (immN x.op.toNat = (0 : Nat) → x.imm = (0 : Int)) ∧ (immN
  x.op.toNat = (2 : Nat) → x.imm < (16 : Int))) ∧ insI x ∧ (words x).length ≤ y → (((True ∧ True ∧ (0 : Nat) = (0 : Nat) ∧ (words x).length = (words x).length ∧ y = y) ∧ ByteArray.mk #[(32 : UInt8)] = ByteArray.mk #[(32 :
  UInt8)] ∧ True) ∧ ((0 : Nat) ≤ y * (1 : Nat) ∧ (words x).length = (words x).length ∧ ∀ (j : Nat), j < (words x).length → wordB x j = wordB x j) ∧ True) ∧ ((words x).length ≤ (1000 : Nat) ∧ (words x).length ≤ y ∧ (JR.mk
  (SR.mk (words x).length y (wordB x)) (ByteArray.mk #[(32 : UInt8)])).b.size ≤ (140737488355328 : Nat)) ∧ (insI x → (JR.mk (SR.mk (words x).length y (wordB x)) (ByteArray.mk #[(32 : UInt8)])).b = lineB x ∧ True ∧ True) := by
  simp only [true_and, and_true, eq_self, Nat.le_refl, decide_eq_true_eq, decide_eq_false_iff_not, beq_iff_eq, beq_eq_false_iff_ne, implies_true, and_self, Int.not_lt, ne_eq, Nat.zero_add, Int.toNat_natCast, cond_nbeq, nblt_true, nblt_false, IntKind.wrap_i64, Bool.not_eq_true', Bool.not_eq_false']
  intro x hx
  have hr := regsN_le x.op.toNat
  have hi := immN_le x.op.toNat
  have hwl := words_len x
  refine ⟨⟨hx, fun hR _ => by unfold lineB; rw [if_neg hR]; rfl, fun hR => ?_⟩, fun y hy => ?_⟩
  · have hR' : Right x := hR
    obtain ⟨h1, h2, h3, h4, -⟩ := id hR'
    have hsg := sgn_bd x.imm
    refine ⟨by omega, by omega, ⟨⟨0, 1⟩, ⟨hR', hx, Nat.zero_le _, Nat.le_refl _⟩, ⟨rfl, ⟨rfl, rfl⟩, rfl⟩, Nat.le_refl _, rfl, fun j hj => ?_⟩, fun y hy => ⟨fun hlt => ?_, fun hge => ?_⟩⟩
    · have : j = 0 := by omega
      subst this
      unfold wordB; rw [words_zero]; rfl
    · obtain ⟨_, _, hk, hc⟩ := hy
      have hk2 : y.k < regsN x.op.toNat := by omega
      refine ⟨by omega, by omega, fun v hv => ⟨?_, by omega, fun cap hcap => ⟨⟨y.k + 1, cap⟩, ⟨hR', hx, by simp only; omega, by simp only; omega⟩, ⟨⟨⟨by simp only; omega, rfl⟩, by simp only; omega⟩, Nat.le_refl _, by simp only; omega, fun j hj hj2 => ?_⟩, by show regsN x.op.toNat - (y.k + 1) < regsN x.op.toNat - y.k; omega⟩⟩⟩
      · rw [hv]; split <;> omega
      · have : j = 1 + y.k := by omega
        subst this
        unfold wordB; rw [words_reg x hk2, hv]; rfl
    · obtain ⟨_, _, hk, hc⟩ := hy
      have hk2 : y.k = regsN x.op.toNat := by omega
      unfold slots at hwl
      refine ⟨fun e => ?_, fun e1 => ⟨fun e => ?_, fun e2 => ⟨fun e => ?_, fun e3 => ?_⟩⟩⟩
      · have e' : immN x.op.toNat = 1 := by omega
        rw [e', if_neg (by decide)] at hwl
        refine ⟨by omega, by omega, fun cap hcap => ⟨cap, ⟨hR', hx, by omega⟩, ⟨by omega, rfl⟩, Nat.le_refl _, by omega, fun j hj hj2 => ?_⟩⟩
        have : j = 1 + regsN x.op.toNat := by omega
        subst this
        unfold wordB; rw [words_imm x (by omega), if_pos e']; rfl
      · have e' : immN x.op.toNat = 2 := by omega
        rw [e', if_neg (by decide)] at hwl
        refine ⟨by omega, by omega, fun cap hcap => ⟨cap, ⟨hR', hx, by omega⟩, ⟨by omega, rfl⟩, Nat.le_refl _, by omega, fun j hj hj2 => ?_⟩⟩
        have : j = 1 + regsN x.op.toNat := by omega
        subst this
        unfold wordB; rw [words_imm x (by omega), if_neg (by omega), if_pos e']; rfl
      · have e' : immN x.op.toNat = 3 := by omega
        rw [e', if_neg (by decide)] at hwl
        refine ⟨by omega, by omega, fun cap hcap => ⟨cap, ⟨hR', hx, by omega⟩, ⟨by omega, rfl⟩, Nat.le_refl _, by omega, fun j hj hj2 => ?_⟩⟩
        have : j = 1 + regsN x.op.toNat := by omega
        subst this
        unfold wordB; rw [words_imm x (by omega), if_neg (by omega), if_neg (by omega)]; rfl
      · have e' : immN x.op.toNat = 0 := by omega
        rw [e', if_pos rfl] at hwl
        exact ⟨y.cap, ⟨hR', hx, by omega⟩, ⟨by omega, rfl⟩, Nat.le_refl _, by omega⟩
  · obtain ⟨hR, _, hc⟩ := hy
    have hR : Right x := hR
    have e : JR.b ⟨⟨(words x).length, y, wordB x⟩, { data := #[32] }⟩ = bs (lineL x) := by
      unfold JR.b JR.l lineL
      congr 1
      have : ((List.range (words x).length).map (wordB x)).map (·.data.toList) = words x := by
        rw [List.map_map]
        apply List.ext_getElem?
        intro i
        rw [List.getElem?_map]
        by_cases h : i < (words x).length
        · rw [List.getElem?_range h, List.getElem?_eq_getElem h]
          simp [wordB, bs, h]
        · rw [List.getElem?_eq_none (by simpa using Nat.le_of_not_lt h), List.getElem?_eq_none (Nat.le_of_not_lt h)]
          rfl
      show join (((List.range (words x).length).map (wordB x)).map (·.data.toList)) [32] = _
      rw [this]
    have hl := line_len hR
    rw [e, bs_size]
    refine ⟨by omega, ⟨?_, hc, by omega⟩, fun _ => by unfold lineB; rw [if_pos hR]⟩
    rw [hwl]
    unfold slots
    split <;> omega

def line_C (x : Ins) : Cfg := { Γ := Go.Sx.look tLine, names := true, loops := lineL_ x, cuts := lineK_ x, mode := at3 1, locks := lk3 [0], left := true }
theorem line_al (x : Ins) : Shown (lineP.vc Tryd.prog (line_C x) Tryd.f36 x) := ⟨@Eq.mp _ _ (by kernel_rfl) (line_vc x)⟩
theorem line_ok : SpOk Tryd.prog 36 lineP.sp := @Pat.okS _ lineP Tryd.prog line_C 36 Tryd.f36 (fun x => cfg_tab rfl tLine_ok) (by kernel_rfl) Tryd.func36 (fun _ => rfl) line_al
end Go.Proofs.YtjofnajamlmllaaDoor
