import Derived.Test.YtjofnajamlmllaaDoorI7
open Go Go.Sx Go.Proofs
set_option maxRecDepth 100000
namespace Go.Proofs.YtjofnajamlmllaaDoor
open Go.RowKit Go.Lib Go.Isa

/-- Registers. -/
structure AS where
  R : Nat → Int
  pc : Int
def asT (s : AS) : T := .cons (.arr 16 1 (fun j => .int .u32 (s.R j))) (.cons (.int .u32 s.pc) .nil)
def AS.Ok (s : AS) : Prop := (∀ j, u32 (s.R j)) ∧ u32 s.pc
/-- An effect. -/
structure EF where
  kind : Int
  reg : Int
  addr : Int
  value : Int
def efT (e : EF) : T := .cons (.int .i64 e.kind) (.cons (.int .i64 e.reg) (.cons (.int .u32 e.addr) (.cons (.int .u32 e.value) .nil)))
def EF.Ok (e : EF) : Prop := i64 e.kind ∧ i64 e.reg ∧ u32 e.addr ∧ u32 e.value
def up (f : Nat → Int) (k : Nat) (v : Int) : Nat → Int := fun j => if j = k then v else f j
def doneA (s : AS) (kind reg v : Int) : AS := if kind = 1 ∨ kind = 7 ∨ kind = 9 then ⟨up s.R (reg % 16).toNat v, s.pc⟩ else if kind = 2 then ⟨up s.R (reg % 16).toNat (v % 256), s.pc⟩ else s
theorem i64_and15 (n : Int) : bits .and .i64 n 15 = n % 16 := by
  have h127 : (BitVec.ofInt 64 15).toNat = 2 ^ 4 - 1 := by decide
  have key : (BitVec.ofInt 64 n &&& BitVec.ofInt 64 15).toNat = (n % ((2 ^ 64 : Nat) : Int)).toNat % 2 ^ 4 := by
    rw [BitVec.toNat_and, BitVec.toNat_ofInt, h127, Nat.and_two_pow_sub_one_eq_mod]
  show IntKind.i64.wrap ((BitVec.ofInt 64 n &&& BitVec.ofInt 64 15).toNat : Nat) = n % 16
  rw [key, IntKind.wrap_i64]
  omega
theorem u32_and255 {v : Int} (h : u32 v) : bits .and .u32 v 255 = v % 256 := by
  have := and_mask32 8 (by decide) h
  rw [show (2 : Int) ^ 8 - 1 = 255 from rfl] at this
  rw [this]
  have h1 := h.1
  omega
theorem u32_and31 {v : Int} (h : u32 v) : bits .and .u32 v 31 = v % 32 := by
  have := and_mask32 5 (by decide) h
  rw [show (2 : Int) ^ 5 - 1 = 31 from rfl] at this
  rw [this]
  have h1 := h.1
  omega
structure DO where
  s : AS
  e : EF
  v : Int
def doneP : Pat DO where
  view | [.cons (.arr 16 1 f) (.cons (.int .u32 pc) .nil), .cons (.int .i64 k) (.cons (.int .i64 r) (.cons (.int .u32 a) (.cons (.int .u32 b) .nil))), .int .u32 v], _ => some ⟨⟨fun j => tInt (f j), pc⟩, ⟨k, r, a, b⟩, v⟩ | _, _ => none
  args x := [asT x.s, efT x.e, .int .u32 x.v]
  H _ := []
  out x := .need (i64 x.e.reg ∧ u32 x.v) (.retq (asT (doneA x.s x.e.kind x.e.reg x.v)))
theorem done_vc : ∀ (x : DO), (((-9223372036854775808 : Int) ≤ x.e.reg ∧ x.e.reg < (9223372036854775808 : Int)) ∧ (0 : Int) ≤ x.v ∧ x.v < (4294967296 : Int)) ∧ True → ((x.e.kind == (1 : Int)) = true → ((x.e.kind == (1 : Int)) = true → ((0
  : Int) ≤ bits BinOp.and IntKind.i64 x.e.reg (15 : Int) ∧ bits BinOp.and IntKind.i64 x.e.reg (15 : Int) < (↑(16 : Nat) : Int)) ∧ (bits BinOp.and IntKind.i64 x.e.reg (15 : Int)).toNat < (16 : Nat) ∧ (((-9223372036854775808
  : Int) ≤ x.e.reg ∧ x.e.reg < (9223372036854775808 : Int)) ∧ (0 : Int) ≤ x.v ∧ x.v < (4294967296 : Int) → (((16 : Nat) = (16 : Nat) ∧ ∀ (j : Nat), j < (16 : Nat) → (bif j.beq (bits BinOp.and IntKind.i64 x.e.reg (15 :
  Int)).toNat then x.v else x.s.R j) = (doneA x.s x.e.kind x.e.reg x.v).R j) ∧ x.s.pc = (doneA x.s x.e.kind x.e.reg x.v).pc ∧ True) ∧ True ∧ True)) ∧ ((x.e.kind == (1 : Int)) = false → ((x.e.kind == (2 : Int)) = true → ((0
  : Int) ≤ bits BinOp.and IntKind.i64 x.e.reg (15 : Int) ∧ bits BinOp.and IntKind.i64 x.e.reg (15 : Int) < (↑(16 : Nat) : Int)) ∧ (bits BinOp.and IntKind.i64 x.e.reg (15 : Int)).toNat < (16 : Nat) ∧ (((-9223372036854775808
  : Int) ≤ x.e.reg ∧ x.e.reg < (9223372036854775808 : Int)) ∧ (0 : Int) ≤ x.v ∧ x.v < (4294967296 : Int) → (((16 : Nat) = (16 : Nat) ∧ ∀ (j : Nat), j < (16 : Nat) → (bif j.beq (bits BinOp.and IntKind.i64 x.e.reg (15 :
  Int)).toNat then bits BinOp.and IntKind.u32 x.v (255 : Int) else x.s.R j) = (doneA x.s x.e.kind x.e.reg x.v).R j) ∧ x.s.pc = (doneA x.s x.e.kind x.e.reg x.v).pc ∧ True) ∧ True ∧ True)) ∧ ((x.e.kind == (2 : Int)) = false
  → ((-9223372036854775808 : Int) ≤ x.e.reg ∧ x.e.reg < (9223372036854775808 : Int)) ∧ (0 : Int) ≤ x.v ∧ x.v < (4294967296 : Int) → (((16 : Nat) = (16 : Nat) ∧ ∀ (j : Nat), j < (16 : Nat) → x.s.R j = (doneA x.s x.e.kind
  x.e.reg x.v).R j) ∧ x.s.pc = (doneA x.s x.e.kind x.e.reg x.v).pc ∧ True) ∧ True ∧ True))) ∧ ((x.e.kind == (1 : Int)) = false → ((x.e.kind == (7 : Int)) = true → ((x.e.kind == (7 : Int)) = true → ((0 : Int) ≤ bits
  BinOp.and IntKind.i64 x.e.reg (15 : Int) ∧ bits BinOp.and IntKind.i64 x.e.reg (15 : Int) < (↑(16 : Nat) : Int)) ∧ (bits BinOp.and IntKind.i64 x.e.reg (15 : Int)).toNat < (16 : Nat) ∧ (((-9223372036854775808 : Int) ≤
  x.e.reg ∧ x.e.reg < (9223372036854775808 : Int)) ∧ (0 : Int) ≤ x.v ∧ x.v < (4294967296 : Int) → (((16 : Nat) = (16 : Nat) ∧ ∀ (j : Nat), j < (16 : Nat) → (bif j.beq (bits BinOp.and IntKind.i64 x.e.reg (15 : Int)).toNat
  then x.v else x.s.R j) = (doneA x.s x.e.kind x.e.reg x.v).R j) ∧ x.s.pc = (doneA x.s x.e.kind x.e.reg x.v).pc ∧ True) ∧ True ∧ True)) ∧ ((x.e.kind == (7 : Int)) = false → ((x.e.kind == (2 : Int)) = true → ((0 : Int) ≤
  bits BinOp.and IntKind.i64 x.e.reg (15 : Int) ∧ bits BinOp.and IntKind.i64 x.e.reg (15 : Int) < (↑(16 : Nat) : Int)) ∧ (bits BinOp.and IntKind.i64 x.e.reg (15 : Int)).toNat < (16 : Nat) ∧ (((-9223372036854775808 : Int) ≤
  x.e.reg ∧ x.e.reg < (9223372036854775808 : Int)) ∧ (0 : Int) ≤ x.v ∧ x.v < (4294967296 : Int) → (((16 : Nat) = (16 : Nat) ∧ ∀ (j : Nat), j < (16 : Nat) → (bif j.beq (bits BinOp.and IntKind.i64 x.e.reg (15 : Int)).toNat
  then bits BinOp.and IntKind.u32 x.v (255 : Int) else x.s.R j) = (doneA x.s x.e.kind x.e.reg x.v).R j) ∧ x.s.pc = (doneA x.s x.e.kind x.e.reg x.v).pc ∧ True) ∧ True ∧ True)) ∧ ((x.e.kind == (2 : Int)) = false →
  ((-9223372036854775808 : Int) ≤ x.e.reg ∧ x.e.reg < (9223372036854775808 : Int)) ∧ (0 : Int) ≤ x.v ∧ x.v < (4294967296 : Int) → (((16 : Nat) = (16 : Nat) ∧ ∀ (j : Nat), j < (16 : Nat) → x.s.R j = (doneA x.s x.e.kind
  x.e.reg x.v).R j) ∧ x.s.pc = (doneA x.s x.e.kind x.e.reg x.v).pc ∧ True) ∧ True ∧ True))) ∧ ((x.e.kind == (7 : Int)) = false → ((x.e.kind == (9 : Int)) = true → ((0 : Int) ≤ bits BinOp.and IntKind.i64 x.e.reg (15 : Int)
  ∧ bits BinOp.and IntKind.i64 x.e.reg (15 : Int) < (↑(16 : Nat) : Int)) ∧ (bits BinOp.and IntKind.i64 x.e.reg (15 : Int)).toNat < (16 : Nat) ∧ (((-9223372036854775808 : Int) ≤ x.e.reg ∧ x.e.reg < (9223372036854775808 :
  Int)) ∧ (0 : Int) ≤ x.v ∧ x.v < (4294967296 : Int) → (((16 : Nat) = (16 : Nat) ∧ ∀ (j : Nat), j < (16 : Nat) → (bif j.beq (bits BinOp.and IntKind.i64 x.e.reg (15 : Int)).toNat then x.v else x.s.R j) = (doneA x.s x.e.kind
  x.e.reg x.v).R j) ∧ x.s.pc = (doneA x.s x.e.kind x.e.reg x.v).pc ∧ True) ∧ True ∧ True)) ∧ ((x.e.kind == (9 : Int)) = false → ((x.e.kind == (2 : Int)) = true → ((0 : Int) ≤ bits BinOp.and IntKind.i64 x.e.reg (15 : Int) ∧
  bits BinOp.and IntKind.i64 x.e.reg (15 : Int) < (↑(16 : Nat) : Int)) ∧ (bits BinOp.and IntKind.i64 x.e.reg (15 : Int)).toNat < (16 : Nat) ∧ (((-9223372036854775808 : Int) ≤ x.e.reg ∧ x.e.reg < (9223372036854775808 :
  Int)) ∧ (0 : Int) ≤ x.v ∧ x.v < (4294967296 : Int) → (((16 : Nat) = (16 : Nat) ∧ ∀ (j : Nat), j < (16 : Nat) → (bif j.beq (bits BinOp.and IntKind.i64 x.e.reg (15 : Int)).toNat then bits BinOp.and IntKind.u32 x.v (255 :
  Int) else x.s.R j) = (doneA x.s x.e.kind x.e.reg x.v).R j) ∧ x.s.pc = (doneA x.s x.e.kind x.e.reg x.v).pc ∧ True) ∧ True ∧ True)) ∧ ((x.e.kind == (2 : Int)) = false → ((-9223372036854775808 : Int) ≤ x.e.reg ∧ x.e.reg <
  (9223372036854775808 : Int)) ∧ (0 : Int) ≤ x.v ∧ x.v < (4294967296 : Int) → (((16 : Nat) = (16 : Nat) ∧ ∀ (j : Nat), j < (16 : Nat) → x.s.R j = (doneA x.s x.e.kind x.e.reg x.v).R j) ∧ x.s.pc = (doneA x.s x.e.kind x.e.reg
  x.v).pc ∧ True) ∧ True ∧ True)))) := by
  simp only [true_and, and_true, eq_self, beq_iff_eq, beq_eq_false_iff_ne, and_self, ne_eq, cond_nbeq]
  intro x hx
  have hv : u32 x.v := hx.2
  have hq : ((-9223372036854775808 ≤ x.e.reg ∧ x.e.reg < 9223372036854775808) ∧ 0 ≤ x.v ∧ x.v < 4294967296) = True := eq_true hx
  simp only [i64_and15, u32_and255 hv, hq, true_implies]
  repeat' (with_reducible first | apply And.intro | intro _)
  all_goals first | omega | (exfalso; omega) | (unfold doneA; first | (rw [if_pos (show x.e.kind = 1 ∨ x.e.kind = 7 ∨ x.e.kind = 9 by omega)] <;> rfl) | (rw [if_neg (show ¬ (x.e.kind = 1 ∨ x.e.kind = 7 ∨ x.e.kind = 9) by omega), if_pos (show x.e.kind = 2 by omega)] <;> rfl) | rw [if_neg (show ¬ (x.e.kind = 1 ∨ x.e.kind = 7 ∨ x.e.kind = 9) by omega), if_neg (show ¬ x.e.kind = 2 by omega)])

def done_C (_ : DO) : Cfg := { Γ := Go.Sx.look [], names := true }
theorem done_al (x : DO) : Shown (doneP.vc Tryd.prog (done_C x) Tryd.f9 x) := ⟨@Eq.mp _ _ (by kernel_rfl) (done_vc x)⟩
theorem done_ok : SpOk Tryd.prog 9 doneP.sp := @Pat.okS _ doneP Tryd.prog done_C 9 Tryd.f9 (fun x => cfg_nil rfl) (by kernel_rfl) Tryd.func9 (fun _ => rfl) done_al
def ofP : Pat AS where
  view | [.cons (.arr 16 1 f) (.cons (.int .u32 pc) .nil)], _ => some ⟨fun j => tInt (f j), pc⟩ | _, _ => none
  args x := [asT x]
  H _ := []
  out x := .retq (asT x)
theorem of_vc : ∀ (x : AS), True → (((16 : Nat) = (16 : Nat) ∧ ∀ (j : Nat), j < (16 : Nat) → x.R j = x.R j) ∧ x.pc = x.pc ∧ True) ∧ True ∧ True := by
  simp only [eq_self, implies_true, and_self]

def of_C (_ : AS) : Cfg := { Γ := Go.Sx.look [], names := true }
theorem of_al (x : AS) : Shown (ofP.vc Tryd.prog (of_C x) Tryd.f8 x) := ⟨@Eq.mp _ _ (by kernel_rfl) (of_vc x)⟩
theorem of_ok : SpOk Tryd.prog 8 ofP.sp := @Pat.okS _ ofP Tryd.prog of_C 8 Tryd.f8 (fun x => cfg_nil rfl) (by kernel_rfl) Tryd.func8 (fun _ => rfl) of_al
def rdoneP : Pat DO where
  view | [.cons (.arr 16 1 f) (.cons (.int .u32 pc) .nil), .int .i64 k, .int .i64 r, .int .u32 v], _ => some ⟨⟨fun j => tInt (f j), pc⟩, ⟨k, r, 0, 0⟩, v⟩ | _, _ => none
  args x := [asT x.s, .int .i64 x.e.kind, .int .i64 x.e.reg, .int .u32 x.v]
  H _ := []
  out x := .need ((0 ≤ x.e.reg ∧ x.e.reg ≤ 15) ∧ u32 x.v) (.retq (asT (doneA x.s x.e.kind x.e.reg x.v)))
theorem rdone_vc : ∀ (x : DO), (((0 : Int) ≤ x.e.reg ∧ x.e.reg ≤ (15 : Int)) ∧ (0 : Int) ≤ x.v ∧ x.v < (4294967296 : Int)) ∧ True → (decide (x.e.reg < (0 : Int)) = true → ((0 : Int) ≤ x.e.reg ∧ x.e.reg ≤ (15 : Int)) ∧ (0 : Int) ≤ x.v ∧ x.v
  < (4294967296 : Int) → (((16 : Nat) = (16 : Nat) ∧ ∀ (j : Nat), j < (16 : Nat) → x.s.R j = (doneA x.s x.e.kind x.e.reg x.v).R j) ∧ x.s.pc = (doneA x.s x.e.kind x.e.reg x.v).pc ∧ True) ∧ True ∧ True) ∧ (decide (x.e.reg <
  (0 : Int)) = false → (decide (x.e.reg > (15 : Int)) = true → ((0 : Int) ≤ x.e.reg ∧ x.e.reg ≤ (15 : Int)) ∧ (0 : Int) ≤ x.v ∧ x.v < (4294967296 : Int) → (((16 : Nat) = (16 : Nat) ∧ ∀ (j : Nat), j < (16 : Nat) → x.s.R j =
  (doneA x.s x.e.kind x.e.reg x.v).R j) ∧ x.s.pc = (doneA x.s x.e.kind x.e.reg x.v).pc ∧ True) ∧ True ∧ True) ∧ (decide (x.e.reg > (15 : Int)) = false → ((x.e.kind == (1 : Int)) = true → ((0 : Int) ≤ x.e.reg ∧ x.e.reg <
  (↑(16 : Nat) : Int)) ∧ x.e.reg.toNat < (16 : Nat) ∧ ((x.e.kind == (2 : Int)) = true → (256 : Int) ≠ (0 : Int) ∧ ((0 : Int) ≤ x.e.reg ∧ x.e.reg < (↑(16 : Nat) : Int)) ∧ x.e.reg.toNat < (16 : Nat) ∧ (((0 : Int) ≤ x.e.reg ∧
  x.e.reg ≤ (15 : Int)) ∧ (0 : Int) ≤ x.v ∧ x.v < (4294967296 : Int) → (((16 : Nat) = (16 : Nat) ∧ ∀ (j : Nat), j < (16 : Nat) → (bif j.beq x.e.reg.toNat then x.v.tmod (256 : Int) else bif j.beq x.e.reg.toNat then x.v else
  x.s.R j) = (doneA x.s x.e.kind x.e.reg x.v).R j) ∧ x.s.pc = (doneA x.s x.e.kind x.e.reg x.v).pc ∧ True) ∧ True ∧ True)) ∧ ((x.e.kind == (2 : Int)) = false → ((0 : Int) ≤ x.e.reg ∧ x.e.reg ≤ (15 : Int)) ∧ (0 : Int) ≤ x.v
  ∧ x.v < (4294967296 : Int) → (((16 : Nat) = (16 : Nat) ∧ ∀ (j : Nat), j < (16 : Nat) → (bif j.beq x.e.reg.toNat then x.v else x.s.R j) = (doneA x.s x.e.kind x.e.reg x.v).R j) ∧ x.s.pc = (doneA x.s x.e.kind x.e.reg
  x.v).pc ∧ True) ∧ True ∧ True)) ∧ ((x.e.kind == (1 : Int)) = false → ((x.e.kind == (7 : Int)) = true → ((0 : Int) ≤ x.e.reg ∧ x.e.reg < (↑(16 : Nat) : Int)) ∧ x.e.reg.toNat < (16 : Nat) ∧ ((x.e.kind == (2 : Int)) = true
  → (256 : Int) ≠ (0 : Int) ∧ ((0 : Int) ≤ x.e.reg ∧ x.e.reg < (↑(16 : Nat) : Int)) ∧ x.e.reg.toNat < (16 : Nat) ∧ (((0 : Int) ≤ x.e.reg ∧ x.e.reg ≤ (15 : Int)) ∧ (0 : Int) ≤ x.v ∧ x.v < (4294967296 : Int) → (((16 : Nat) =
  (16 : Nat) ∧ ∀ (j : Nat), j < (16 : Nat) → (bif j.beq x.e.reg.toNat then x.v.tmod (256 : Int) else bif j.beq x.e.reg.toNat then x.v else x.s.R j) = (doneA x.s x.e.kind x.e.reg x.v).R j) ∧ x.s.pc = (doneA x.s x.e.kind
  x.e.reg x.v).pc ∧ True) ∧ True ∧ True)) ∧ ((x.e.kind == (2 : Int)) = false → ((0 : Int) ≤ x.e.reg ∧ x.e.reg ≤ (15 : Int)) ∧ (0 : Int) ≤ x.v ∧ x.v < (4294967296 : Int) → (((16 : Nat) = (16 : Nat) ∧ ∀ (j : Nat), j < (16 :
  Nat) → (bif j.beq x.e.reg.toNat then x.v else x.s.R j) = (doneA x.s x.e.kind x.e.reg x.v).R j) ∧ x.s.pc = (doneA x.s x.e.kind x.e.reg x.v).pc ∧ True) ∧ True ∧ True)) ∧ ((x.e.kind == (7 : Int)) = false → ((x.e.kind == (9
  : Int)) = true → ((0 : Int) ≤ x.e.reg ∧ x.e.reg < (↑(16 : Nat) : Int)) ∧ x.e.reg.toNat < (16 : Nat) ∧ ((x.e.kind == (2 : Int)) = true → (256 : Int) ≠ (0 : Int) ∧ ((0 : Int) ≤ x.e.reg ∧ x.e.reg < (↑(16 : Nat) : Int)) ∧
  x.e.reg.toNat < (16 : Nat) ∧ (((0 : Int) ≤ x.e.reg ∧ x.e.reg ≤ (15 : Int)) ∧ (0 : Int) ≤ x.v ∧ x.v < (4294967296 : Int) → (((16 : Nat) = (16 : Nat) ∧ ∀ (j : Nat), j < (16 : Nat) → (bif j.beq x.e.reg.toNat then x.v.tmod
  (256 : Int) else bif j.beq x.e.reg.toNat then x.v else x.s.R j) = (doneA x.s x.e.kind x.e.reg x.v).R j) ∧ x.s.pc = (doneA x.s x.e.kind x.e.reg x.v).pc ∧ True) ∧ True ∧ True)) ∧ ((x.e.kind == (2 : Int)) = false → ((0 :
  Int) ≤ x.e.reg ∧ x.e.reg ≤ (15 : Int)) ∧ (0 : Int) ≤ x.v ∧ x.v < (4294967296 : Int) → (((16 : Nat) = (16 : Nat) ∧ ∀ (j : Nat), j < (16 : Nat) → (bif j.beq x.e.reg.toNat then x.v else x.s.R j) = (doneA x.s x.e.kind
  x.e.reg x.v).R j) ∧ x.s.pc = (doneA x.s x.e.kind x.e.reg x.v).pc ∧ True) ∧ True ∧ True)) ∧ ((x.e.kind == (9 : Int)) = false → ((x.e.kind == (2 : Int)) = true → (256 : Int) ≠ (0 : Int) ∧ ((0 : Int) ≤ x.e.reg ∧ x.e.reg <
  (↑(16 : Nat) : Int)) ∧ x.e.reg.toNat < (16 : Nat) ∧ (((0 : Int) ≤ x.e.reg ∧ x.e.reg ≤ (15 : Int)) ∧ (0 : Int) ≤ x.v ∧ x.v < (4294967296 : Int) → (((16 : Nat) = (16 : Nat) ∧ ∀ (j : Nat), j < (16 : Nat) → (bif j.beq
  x.e.reg.toNat then x.v.tmod (256 : Int) else x.s.R j) = (doneA x.s x.e.kind x.e.reg x.v).R j) ∧ x.s.pc = (doneA x.s x.e.kind x.e.reg x.v).pc ∧ True) ∧ True ∧ True)) ∧ ((x.e.kind == (2 : Int)) = false → ((0 : Int) ≤
  x.e.reg ∧ x.e.reg ≤ (15 : Int)) ∧ (0 : Int) ≤ x.v ∧ x.v < (4294967296 : Int) → (((16 : Nat) = (16 : Nat) ∧ ∀ (j : Nat), j < (16 : Nat) → x.s.R j = (doneA x.s x.e.kind x.e.reg x.v).R j) ∧ x.s.pc = (doneA x.s x.e.kind
  x.e.reg x.v).pc ∧ True) ∧ True ∧ True)))))) := by
  simp only [true_and, and_true, eq_self, decide_eq_true_eq, decide_eq_false_iff_not, beq_iff_eq, beq_eq_false_iff_ne, and_self, Int.not_lt, gt_iff_lt, ne_eq, cond_nbeq]
  intro x hx
  have e2 : (x.e.reg % 16).toNat = x.e.reg.toNat := by omega
  have e3 : x.v.tmod 256 = x.v % 256 := Int.tmod_eq_emod_of_nonneg hx.2.1
  have hq : ((0 ≤ x.e.reg ∧ x.e.reg ≤ 15) ∧ 0 ≤ x.v ∧ x.v < 4294967296) = True := eq_true hx
  simp only [hq, true_implies, e3, doneA, e2]
  repeat' (with_reducible first | apply And.intro | intro _)
  all_goals first | omega | (exfalso; omega) | (first | (rw [if_pos (show x.e.kind = 1 ∨ x.e.kind = 7 ∨ x.e.kind = 9 by omega)] <;> rfl) | (rw [if_neg (show ¬ (x.e.kind = 1 ∨ x.e.kind = 7 ∨ x.e.kind = 9) by omega), if_pos (show x.e.kind = 2 by omega)] <;> first | rfl | exact congrArg (fun z => up x.s.R x.e.reg.toNat z _) e3) | rw [if_neg (show ¬ (x.e.kind = 1 ∨ x.e.kind = 7 ∨ x.e.kind = 9) by omega), if_neg (show ¬ x.e.kind = 2 by omega)])

def rdone_C (_ : DO) : Cfg := { Γ := Go.Sx.look [], names := true }
theorem rdone_al (x : DO) : Shown (rdoneP.vc Tryd.prog (rdone_C x) Tryd.f10 x) := ⟨@Eq.mp _ _ (by kernel_rfl) (rdone_vc x)⟩
theorem rdone_ok : SpOk Tryd.prog 10 rdoneP.sp := @Pat.okS _ rdoneP Tryd.prog rdone_C 10 Tryd.f10 (fun x => cfg_nil rfl) (by kernel_rfl) Tryd.func10 (fun _ => rfl) rdone_al
end Go.Proofs.YtjofnajamlmllaaDoor
