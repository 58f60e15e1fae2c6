import Derived.Test.YtjofnajamlmllaaDoorI13
import Derived.Test.YtjofnajamlmllaaDoorMAlu
open Go Go.Sx Go.Proofs
set_option maxRecDepth 100000
namespace Go.Proofs.YtjofnajamlmllaaDoor
open Go.RowKit Go.Isa
structure TW where
  op : Int
  b : Int
  c : Int
def twoP : Pat TW where
  view | [.int .i64 o, .int .u32 b, .int .u32 c], _ => some ⟨o, b, c⟩ | _, _ => none
  args x := [.int .i64 x.op, .int .u32 x.b, .int .u32 x.c]
  H _ := []
  out x := .need (u32 x.b ∧ u32 x.c) (.retq (.int .u32 (twoA x.op x.b x.c)))
theorem two_vc : ∀ (x : TW), (((0 : Int) ≤ x.b ∧ x.b < (4294967296 : Int)) ∧ (0 : Int) ≤ x.c ∧ x.c < (4294967296 : Int)) ∧ True → ∀ (v : Int), v = (0 : Int) → ((x.op == (3 : Int)) = true → ∀ (v : Int), v = IntKind.u32.wrap (x.b + x.c) →
  ((0 : Int) ≤ x.b ∧ x.b < (4294967296 : Int)) ∧ (0 : Int) ≤ x.c ∧ x.c < (4294967296 : Int) → v = twoA x.op x.b x.c ∧ True ∧ True) ∧ ((x.op == (3 : Int)) = false → ((x.op == (4 : Int)) = true → ∀ (v : Int), v =
  IntKind.u32.wrap (x.b - x.c) → ((0 : Int) ≤ x.b ∧ x.b < (4294967296 : Int)) ∧ (0 : Int) ≤ x.c ∧ x.c < (4294967296 : Int) → v = twoA x.op x.b x.c ∧ True ∧ True) ∧ ((x.op == (4 : Int)) = false → ((x.op == (5 : Int)) = true
  → ∀ (v : Int), v = bits BinOp.and IntKind.u32 x.b x.c → ((0 : Int) ≤ x.b ∧ x.b < (4294967296 : Int)) ∧ (0 : Int) ≤ x.c ∧ x.c < (4294967296 : Int) → v = twoA x.op x.b x.c ∧ True ∧ True) ∧ ((x.op == (5 : Int)) = false →
  ((x.op == (6 : Int)) = true → ∀ (v : Int), v = bits BinOp.or IntKind.u32 x.b x.c → ((0 : Int) ≤ x.b ∧ x.b < (4294967296 : Int)) ∧ (0 : Int) ≤ x.c ∧ x.c < (4294967296 : Int) → v = twoA x.op x.b x.c ∧ True ∧ True) ∧ ((x.op
  == (6 : Int)) = false → ((x.op == (7 : Int)) = true → ∀ (v : Int), v = bits BinOp.xor IntKind.u32 x.b x.c → ((0 : Int) ≤ x.b ∧ x.b < (4294967296 : Int)) ∧ (0 : Int) ≤ x.c ∧ x.c < (4294967296 : Int) → v = twoA x.op x.b
  x.c ∧ True ∧ True) ∧ ((x.op == (7 : Int)) = false → ((x.op == (8 : Int)) = true → (0 : Int) ≤ bits BinOp.and IntKind.u32 x.c (31 : Int) ∧ ∀ (v : Int), v = IntKind.u32.wrap (x.b * (2 : Int) ^ min (bits BinOp.and
  IntKind.u32 x.c (31 : Int)).toNat IntKind.u32.bits) → ((0 : Int) ≤ x.b ∧ x.b < (4294967296 : Int)) ∧ (0 : Int) ≤ x.c ∧ x.c < (4294967296 : Int) → v = twoA x.op x.b x.c ∧ True ∧ True) ∧ ((x.op == (8 : Int)) = false →
  ((x.op == (9 : Int)) = true → (0 : Int) ≤ bits BinOp.and IntKind.u32 x.c (31 : Int) ∧ ∀ (v : Int), v = x.b.fdiv ((2 : Int) ^ min (bits BinOp.and IntKind.u32 x.c (31 : Int)).toNat IntKind.u32.bits) → ((0 : Int) ≤ x.b ∧
  x.b < (4294967296 : Int)) ∧ (0 : Int) ≤ x.c ∧ x.c < (4294967296 : Int) → v = twoA x.op x.b x.c ∧ True ∧ True) ∧ ((x.op == (9 : Int)) = false → ∀ (v : Int), v = IntKind.u32.wrap (x.b * x.c) → ((0 : Int) ≤ x.b ∧ x.b <
  (4294967296 : Int)) ∧ (0 : Int) ≤ x.c ∧ x.c < (4294967296 : Int) → v = twoA x.op x.b x.c ∧ True ∧ True))))))) := by
  simp only [and_true, beq_iff_eq, beq_eq_false_iff_ne, and_self, ne_eq]
  intro x hx v hv
  have hc : u32 x.c := hx.2
  have hq : ((0 ≤ x.b ∧ x.b < 4294967296) ∧ 0 ≤ x.c ∧ x.c < 4294967296) = True := eq_true hx
  have e1 : (x.c % 32).toNat < 32 := by omega
  have e2 : min (x.c % 32).toNat IntKind.u32.bits = (x.c % 32).toNat := by show min _ 32 = _; omega
  simp only [hq, true_implies, u32_and31 hc, e2, forall_eq, IntKind.wrap_u32, fdiv_pow]
  unfold twoA
  refine ⟨fun h => ?_, fun h3 => ⟨fun h => ?_, fun h4 => ⟨fun h => ?_, fun h5 => ⟨fun h => ?_, fun h6 => ⟨fun h => ?_, fun h7 => ⟨fun h => ⟨by omega, ?_⟩, fun h8 => ⟨fun h => ⟨by omega, ?_⟩, fun h9 => ?_⟩⟩⟩⟩⟩⟩⟩
  all_goals first | (rw [h]; rfl) | (rw [if_neg h3, if_neg h4, if_neg h5, if_neg h6, if_neg h7, if_neg h8, if_neg h9])

def two_C (_ : TW) : Cfg := { Γ := Go.Sx.look [], names := true }
theorem two_al (x : TW) : Shown (twoP.vc Tryd.prog (two_C x) Tryd.f32 x) := ⟨@Eq.mp _ _ (by kernel_rfl) (two_vc x)⟩
theorem two_ok : SpOk Tryd.prog 32 twoP.sp := @Pat.okS _ twoP Tryd.prog two_C 32 Tryd.f32 (fun x => cfg_nil rfl) (by kernel_rfl) Tryd.func32 (fun _ => rfl) two_al
/-- An instruction as its operation says. -/
structure RI (x : Ins) : Prop where
  h : Right x
structure SX where
  s : AS
  x : Ins
def jumpP : Pat SX where
  view | [.cons (.arr 16 1 f) (.cons (.int .u32 pc) .nil), .cons (.int .i64 o) (.cons (.int .i64 a) (.cons (.int .i64 b) (.cons (.int .i64 i) .nil)))], _ => some ⟨⟨fun j => tInt (f j), pc⟩, ⟨o, a, b, i⟩⟩ | _, _ => none
  args x := [asT x.s, insT x.x]
  H _ := []
  out x := .need (x.s.Ok ∧ RI x.x) (.retq (.int .u32 (jumpA x.s.R x.s.pc x.x)))
def jumpM : Nat → Nat
  | 1 => 1
  | 8 => 1
  | _ => 0
def jumpLk : Nat → List Nat
  | 1 => [0, 1]
  | 8 => [0, 1]
  | _ => []
def tJump : Tab := [(30, sgnP.sp)]
theorem tJump_ok : TabOk Tryd.prog tJump := (tab_cons signed_ok tab_nil)

theorem jump_vc : ∀ (x : SX), (x.s.Ok ∧ RI x.x) ∧ True → ∀ (v : Int), v = (0 : Int) → ((0 : Int) ≤ x.x.a ∧ x.x.a < (↑(16 : Nat) : Int)) ∧ x.x.a.toNat < (16 : Nat) ∧ ((0 : Int) ≤ x.x.b ∧ x.x.b < (↑(16 : Nat) : Int)) ∧ x.x.b.toNat < (16 :
  Nat) ∧ ∀ (v : Int), v = x.s.R x.x.a.toNat → ∀ (v_1 : Int), v_1 = x.s.R x.x.b.toNat → ((x.x.op == (20 : Int)) = true → ∀ (v_2 : Int), v_2 = v → x.s.Ok ∧ RI x.x → v_2 = jumpA x.s.R x.s.pc x.x ∧ True ∧ True) ∧ ((x.x.op ==
  (20 : Int)) = false → ((x.x.op == (19 : Int)) = true → ((x.x.op == (19 : Int)) = true → (((x.x.op = x.x.op ∧ x.x.a = x.x.a ∧ x.x.b = x.x.b ∧ x.x.imm = x.x.imm ∧ True) ∧ True) ∧ True) ∧ ∀ (v : Int), v = IntKind.u32.wrap
  (x.s.pc + IntKind.u32.wrap ((4 : Int) * IntKind.u32.wrap (sgn x.x.imm))) → x.s.Ok ∧ RI x.x → v = jumpA x.s.R x.s.pc x.x ∧ True ∧ True) ∧ ((x.x.op == (19 : Int)) = false → ∀ (v : Int), v = IntKind.u32.wrap (x.s.pc + (4 :
  Int)) → x.s.Ok ∧ RI x.x → v = jumpA x.s.R x.s.pc x.x ∧ True ∧ True)) ∧ ((x.x.op == (19 : Int)) = false → ((x.x.op == (16 : Int)) = true → ((v == v_1) = true → ((v == v_1) = true → (((x.x.op = x.x.op ∧ x.x.a = x.x.a ∧
  x.x.b = x.x.b ∧ x.x.imm = x.x.imm ∧ True) ∧ True) ∧ True) ∧ ∀ (v : Int), v = IntKind.u32.wrap (x.s.pc + IntKind.u32.wrap ((4 : Int) * IntKind.u32.wrap (sgn x.x.imm))) → x.s.Ok ∧ RI x.x → v = jumpA x.s.R x.s.pc x.x ∧ True
  ∧ True) ∧ ((v == v_1) = false → ∀ (v : Int), v = IntKind.u32.wrap (x.s.pc + (4 : Int)) → x.s.Ok ∧ RI x.x → v = jumpA x.s.R x.s.pc x.x ∧ True ∧ True)) ∧ ((v == v_1) = false → ((x.x.op == (17 : Int)) = true → ((v != v_1) =
  true → ((v != v_1) = true → (((x.x.op = x.x.op ∧ x.x.a = x.x.a ∧ x.x.b = x.x.b ∧ x.x.imm = x.x.imm ∧ True) ∧ True) ∧ True) ∧ ∀ (v : Int), v = IntKind.u32.wrap (x.s.pc + IntKind.u32.wrap ((4 : Int) * IntKind.u32.wrap (sgn
  x.x.imm))) → x.s.Ok ∧ RI x.x → v = jumpA x.s.R x.s.pc x.x ∧ True ∧ True) ∧ ((v != v_1) = false → ∀ (v : Int), v = IntKind.u32.wrap (x.s.pc + (4 : Int)) → x.s.Ok ∧ RI x.x → v = jumpA x.s.R x.s.pc x.x ∧ True ∧ True)) ∧ ((v
  != v_1) = false → ((x.x.op == (18 : Int)) = true → (decide (v < v_1) = true → (((x.x.op = x.x.op ∧ x.x.a = x.x.a ∧ x.x.b = x.x.b ∧ x.x.imm = x.x.imm ∧ True) ∧ True) ∧ True) ∧ ∀ (v : Int), v = IntKind.u32.wrap (x.s.pc +
  IntKind.u32.wrap ((4 : Int) * IntKind.u32.wrap (sgn x.x.imm))) → x.s.Ok ∧ RI x.x → v = jumpA x.s.R x.s.pc x.x ∧ True ∧ True) ∧ (decide (v < v_1) = false → ∀ (v : Int), v = IntKind.u32.wrap (x.s.pc + (4 : Int)) → x.s.Ok ∧
  RI x.x → v = jumpA x.s.R x.s.pc x.x ∧ True ∧ True)) ∧ ((x.x.op == (18 : Int)) = false → ∀ (v : Int), v = IntKind.u32.wrap (x.s.pc + (4 : Int)) → x.s.Ok ∧ RI x.x → v = jumpA x.s.R x.s.pc x.x ∧ True ∧ True))) ∧ ((x.x.op ==
  (17 : Int)) = false → ((x.x.op == (18 : Int)) = true → (decide (v < v_1) = true → (((x.x.op = x.x.op ∧ x.x.a = x.x.a ∧ x.x.b = x.x.b ∧ x.x.imm = x.x.imm ∧ True) ∧ True) ∧ True) ∧ ∀ (v : Int), v = IntKind.u32.wrap (x.s.pc
  + IntKind.u32.wrap ((4 : Int) * IntKind.u32.wrap (sgn x.x.imm))) → x.s.Ok ∧ RI x.x → v = jumpA x.s.R x.s.pc x.x ∧ True ∧ True) ∧ (decide (v < v_1) = false → ∀ (v : Int), v = IntKind.u32.wrap (x.s.pc + (4 : Int)) → x.s.Ok
  ∧ RI x.x → v = jumpA x.s.R x.s.pc x.x ∧ True ∧ True)) ∧ ((x.x.op == (18 : Int)) = false → ∀ (v : Int), v = IntKind.u32.wrap (x.s.pc + (4 : Int)) → x.s.Ok ∧ RI x.x → v = jumpA x.s.R x.s.pc x.x ∧ True ∧ True)))) ∧ ((x.x.op
  == (16 : Int)) = false → ((x.x.op == (17 : Int)) = true → ((v != v_1) = true → ((v != v_1) = true → (((x.x.op = x.x.op ∧ x.x.a = x.x.a ∧ x.x.b = x.x.b ∧ x.x.imm = x.x.imm ∧ True) ∧ True) ∧ True) ∧ ∀ (v : Int), v =
  IntKind.u32.wrap (x.s.pc + IntKind.u32.wrap ((4 : Int) * IntKind.u32.wrap (sgn x.x.imm))) → x.s.Ok ∧ RI x.x → v = jumpA x.s.R x.s.pc x.x ∧ True ∧ True) ∧ ((v != v_1) = false → ∀ (v : Int), v = IntKind.u32.wrap (x.s.pc +
  (4 : Int)) → x.s.Ok ∧ RI x.x → v = jumpA x.s.R x.s.pc x.x ∧ True ∧ True)) ∧ ((v != v_1) = false → ((x.x.op == (18 : Int)) = true → (decide (v < v_1) = true → (((x.x.op = x.x.op ∧ x.x.a = x.x.a ∧ x.x.b = x.x.b ∧ x.x.imm =
  x.x.imm ∧ True) ∧ True) ∧ True) ∧ ∀ (v : Int), v = IntKind.u32.wrap (x.s.pc + IntKind.u32.wrap ((4 : Int) * IntKind.u32.wrap (sgn x.x.imm))) → x.s.Ok ∧ RI x.x → v = jumpA x.s.R x.s.pc x.x ∧ True ∧ True) ∧ (decide (v <
  v_1) = false → ∀ (v : Int), v = IntKind.u32.wrap (x.s.pc + (4 : Int)) → x.s.Ok ∧ RI x.x → v = jumpA x.s.R x.s.pc x.x ∧ True ∧ True)) ∧ ((x.x.op == (18 : Int)) = false → ∀ (v : Int), v = IntKind.u32.wrap (x.s.pc + (4 :
  Int)) → x.s.Ok ∧ RI x.x → v = jumpA x.s.R x.s.pc x.x ∧ True ∧ True))) ∧ ((x.x.op == (17 : Int)) = false → ((x.x.op == (18 : Int)) = true → (decide (v < v_1) = true → (((x.x.op = x.x.op ∧ x.x.a = x.x.a ∧ x.x.b = x.x.b ∧
  x.x.imm = x.x.imm ∧ True) ∧ True) ∧ True) ∧ ∀ (v : Int), v = IntKind.u32.wrap (x.s.pc + IntKind.u32.wrap ((4 : Int) * IntKind.u32.wrap (sgn x.x.imm))) → x.s.Ok ∧ RI x.x → v = jumpA x.s.R x.s.pc x.x ∧ True ∧ True) ∧
  (decide (v < v_1) = false → ∀ (v : Int), v = IntKind.u32.wrap (x.s.pc + (4 : Int)) → x.s.Ok ∧ RI x.x → v = jumpA x.s.R x.s.pc x.x ∧ True ∧ True)) ∧ ((x.x.op == (18 : Int)) = false → ∀ (v : Int), v = IntKind.u32.wrap
  (x.s.pc + (4 : Int)) → x.s.Ok ∧ RI x.x → v = jumpA x.s.R x.s.pc x.x ∧ True ∧ True))))) := by
  simp only [true_and, and_true, eq_self, decide_eq_true_eq, decide_eq_false_iff_not, beq_iff_eq, beq_eq_false_iff_ne, and_self, bne_iff_ne, Int.not_lt, ne_eq, bne_eq_false_iff_eq]
  intro x hx
  have hr := hx.2.h
  unfold Right at hr
  obtain ⟨r1, r2, r3, r4, r5, r6, r7, r8⟩ := hr
  simp only [eq_true hx, true_implies, forall_eq, IntKind.wrap_u32]
  refine ⟨⟨by omega, by omega⟩, by omega, ⟨by omega, by omega⟩, by omega, ?_⟩
  have e : (x.s.pc + 4 * (sgn x.x.imm % 4294967296) % 4294967296) % 4294967296 = (x.s.pc + 4 * sgn x.x.imm) % 4294967296 := by omega
  rw [e]
  unfold jumpA takenA
  generalize (x.s.pc + 4 * sgn x.x.imm) % 4294967296 = p1
  generalize (x.s.pc + 4) % 4294967296 = p2
  generalize x.s.R x.x.a.toNat = ra
  generalize x.s.R x.x.b.toNat = rb
  clear e hx r1 r2 r3 r4 r5 r6 r7 r8
  generalize x.x.op = op
  repeat' (with_reducible first | apply And.intro | intro _)
  all_goals first | (simp_all; done) | (simp_all; omega)

def jump_C (_ : SX) : Cfg := { Γ := Go.Sx.look tJump, names := true, mode := jumpM, locks := jumpLk }
theorem jump_al (x : SX) : Shown (jumpP.vc Tryd.prog (jump_C x) Tryd.f20 x) := ⟨@Eq.mp _ _ (by kernel_rfl) (jump_vc x)⟩
theorem jump_ok : SpOk Tryd.prog 20 jumpP.sp := @Pat.okS _ jumpP Tryd.prog jump_C 20 Tryd.f20 (fun x => cfg_tab rfl tJump_ok) (by kernel_rfl) Tryd.func20 (fun _ => rfl) jump_al
def setP : Pat SX where
  view | [.cons (.arr 16 1 f) (.cons (.int .u32 pc) .nil), .cons (.int .i64 o) (.cons (.int .i64 a) (.cons (.int .i64 b) (.cons (.int .i64 i) .nil)))], _ => some ⟨⟨fun j => tInt (f j), pc⟩, ⟨o, a, b, i⟩⟩ | _, _ => none
  args x := [asT x.s, insT x.x]
  H _ := []
  out x := .need (x.s.Ok ∧ RI x.x) (.retq (.tup (.cons (.int .u32 (setA x.s.R x.s.pc x.x)) (.cons (.bool (setOps x.x.op)) .nil))))
def setM : Nat → Nat
  | 7 => 1
  | 9 => 1
  | _ => 0
def setLk : Nat → List Nat
  | 7 => [0, 1]
  | 9 => [0, 1]
  | _ => []
def tSet : Tab := [(30, sgnP.sp), (31, putPt.sp), (32, twoP.sp)]
theorem tSet_ok : TabOk Tryd.prog tSet := (tab_cons signed_ok (tab_cons put_ok (tab_cons two_ok tab_nil)))

theorem setf_vc : ∀ (x : SX), (x.s.Ok ∧ RI x.x) ∧ True → ∀ (v : Int), v = (0 : Int) → ∀ (v : Int), v = IntKind.u32.wrap x.x.imm → ((x.x.op == (1 : Int)) = true → ∀ (v_1 : Int), v_1 = v → x.s.Ok ∧ RI x.x → (v_1 = setA x.s.R x.s.pc x.x ∧
  setOps x.x.op = true ∧ True) ∧ True ∧ True) ∧ ((x.x.op == (1 : Int)) = false → ((x.x.op == (2 : Int)) = true → ((0 : Int) ≤ x.x.a ∧ x.x.a < (↑(16 : Nat) : Int)) ∧ x.x.a.toNat < (16 : Nat) ∧ ((x.s.R x.x.a.toNat = x.s.R
  x.x.a.toNat ∧ (16 : Int) = (16 : Int) ∧ (16 : Int) = (16 : Int) ∧ v = v ∧ True) ∧ True) ∧ (((0 : Int) ≤ x.s.R x.x.a.toNat ∧ x.s.R x.x.a.toNat < (4294967296 : Int)) ∧ ((-9223372036854775808 : Int) ≤ (16 : Int) ∧ (16 :
  Int) < (9223372036854775808 : Int)) ∧ ((-9223372036854775808 : Int) ≤ (16 : Int) ∧ (16 : Int) < (9223372036854775808 : Int)) ∧ (0 : Int) ≤ v ∧ v < (4294967296 : Int)) ∧ ∀ (v_1 : Int), v_1 = putN (x.s.R x.x.a.toNat) (16 :
  Int) (16 : Int) v → x.s.Ok ∧ RI x.x → (v_1 = setA x.s.R x.s.pc x.x ∧ setOps x.x.op = true ∧ True) ∧ True ∧ True) ∧ ((x.x.op == (2 : Int)) = false → (decide (x.x.op ≥ (3 : Int)) = true → (decide (x.x.op ≤ (10 : Int)) =
  true → ((0 : Int) ≤ x.x.b ∧ x.x.b < (↑(16 : Nat) : Int)) ∧ x.x.b.toNat < (16 : Nat) ∧ ((0 : Int) ≤ x.x.imm ∧ x.x.imm < (↑(16 : Nat) : Int)) ∧ x.x.imm.toNat < (16 : Nat) ∧ ((x.x.op = x.x.op ∧ x.s.R x.x.b.toNat = x.s.R
  x.x.b.toNat ∧ x.s.R x.x.imm.toNat = x.s.R x.x.imm.toNat ∧ True) ∧ True) ∧ (((0 : Int) ≤ x.s.R x.x.b.toNat ∧ x.s.R x.x.b.toNat < (4294967296 : Int)) ∧ (0 : Int) ≤ x.s.R x.x.imm.toNat ∧ x.s.R x.x.imm.toNat < (4294967296 :
  Int)) ∧ ∀ (v : Int), v = twoA x.x.op (x.s.R x.x.b.toNat) (x.s.R x.x.imm.toNat) → x.s.Ok ∧ RI x.x → (v = setA x.s.R x.s.pc x.x ∧ setOps x.x.op = true ∧ True) ∧ True ∧ True) ∧ (decide (x.x.op ≤ (10 : Int)) = false →
  ((x.x.op == (11 : Int)) = true → ((0 : Int) ≤ x.x.b ∧ x.x.b < (↑(16 : Nat) : Int)) ∧ x.x.b.toNat < (16 : Nat) ∧ (((x.x.op = x.x.op ∧ x.x.a = x.x.a ∧ x.x.b = x.x.b ∧ x.x.imm = x.x.imm ∧ True) ∧ True) ∧ True) ∧ ∀ (v :
  Int), v = IntKind.u32.wrap (x.s.R x.x.b.toNat + IntKind.u32.wrap (sgn x.x.imm)) → x.s.Ok ∧ RI x.x → (v = setA x.s.R x.s.pc x.x ∧ setOps x.x.op = true ∧ True) ∧ True ∧ True) ∧ ((x.x.op == (11 : Int)) = false → ((x.x.op ==
  (19 : Int)) = true → ∀ (v : Int), v = IntKind.u32.wrap (x.s.pc + (4 : Int)) → x.s.Ok ∧ RI x.x → (v = setA x.s.R x.s.pc x.x ∧ setOps x.x.op = true ∧ True) ∧ True ∧ True) ∧ ((x.x.op == (19 : Int)) = false → ∀ (v : Int), v
  = (0 : Int) → x.s.Ok ∧ RI x.x → (v = setA x.s.R x.s.pc x.x ∧ setOps x.x.op = false ∧ True) ∧ True ∧ True)))) ∧ (decide (x.x.op ≥ (3 : Int)) = false → ((x.x.op == (11 : Int)) = true → ((0 : Int) ≤ x.x.b ∧ x.x.b < (↑(16 :
  Nat) : Int)) ∧ x.x.b.toNat < (16 : Nat) ∧ (((x.x.op = x.x.op ∧ x.x.a = x.x.a ∧ x.x.b = x.x.b ∧ x.x.imm = x.x.imm ∧ True) ∧ True) ∧ True) ∧ ∀ (v : Int), v = IntKind.u32.wrap (x.s.R x.x.b.toNat + IntKind.u32.wrap (sgn
  x.x.imm)) → x.s.Ok ∧ RI x.x → (v = setA x.s.R x.s.pc x.x ∧ setOps x.x.op = true ∧ True) ∧ True ∧ True) ∧ ((x.x.op == (11 : Int)) = false → ((x.x.op == (19 : Int)) = true → ∀ (v : Int), v = IntKind.u32.wrap (x.s.pc + (4 :
  Int)) → x.s.Ok ∧ RI x.x → (v = setA x.s.R x.s.pc x.x ∧ setOps x.x.op = true ∧ True) ∧ True ∧ True) ∧ ((x.x.op == (19 : Int)) = false → ∀ (v : Int), v = (0 : Int) → x.s.Ok ∧ RI x.x → (v = setA x.s.R x.s.pc x.x ∧ setOps
  x.x.op = false ∧ True) ∧ True ∧ True))))) := by
  simp only [true_and, and_true, eq_self, decide_eq_true_eq, decide_eq_false_iff_not, beq_iff_eq, beq_eq_false_iff_ne, and_self, Int.not_le, ge_iff_le, ne_eq]
  intro x hx
  have hr := hx.2.h
  unfold Right at hr
  obtain ⟨r1, r2, r3, r4, r5, r6, r7, r8⟩ := hr
  have hA := hx.1.1 x.x.a.toNat
  have hB := hx.1.1 x.x.b.toNat
  have hI := hx.1.1 x.x.imm.toNat
  have hw : x.x.imm % 4294967296 = x.x.imm := by omega
  have h310 : 3 ≤ x.x.op → x.x.op ≤ 10 → x.x.imm < 16 := fun h1 h2 => r8 (by
    obtain ⟨k, hk⟩ : ∃ k : Nat, x.x.op = k := ⟨x.x.op.toNat, by omega⟩
    rw [hk, Int.toNat_natCast]
    have : k = 3 ∨ k = 4 ∨ k = 5 ∨ k = 6 ∨ k = 7 ∨ k = 8 ∨ k = 9 ∨ k = 10 := by omega
    rcases this with h | h | h | h | h | h | h | h <;> subst h <;> rfl)
  have ep := put_hi (v := x.x.imm) hA ⟨by omega, by omega⟩
  simp only [eq_true hx, true_implies, forall_eq, IntKind.wrap_u32, hw, ep]
  have es : (x.s.R x.x.b.toNat + sgn x.x.imm % 4294967296) % 4294967296 = (x.s.R x.x.b.toNat + sgn x.x.imm) % 4294967296 := by omega
  rw [es]
  unfold setA setOps
  generalize (x.s.R x.x.b.toNat + sgn x.x.imm) % 4294967296 = p1
  generalize (x.s.pc + 4) % 4294967296 = p2
  generalize twoA x.x.op (x.s.R x.x.b.toNat) (x.s.R x.x.imm.toNat) = t2
  unfold u32 at hA hB hI
  generalize x.x.imm * 65536 + x.s.R x.x.a.toNat % 65536 = p3
  generalize x.s.R x.x.a.toNat = ra at hA ⊢
  generalize x.s.R x.x.b.toNat = rb at hB ⊢
  generalize x.s.R x.x.imm.toNat = ri at hI ⊢
  clear ep es hx r6 r7 r8
  generalize x.x.op = op at *
  generalize x.x.a = a at *
  generalize x.x.b = b at *
  generalize x.x.imm = im at *
  repeat' (with_reducible first | apply And.intro | intro _)
  all_goals first | omega | (simp_all; done) | (simp_all; omega) | (have := h310 (by assumption) (by assumption); omega)

def setf_C (_ : SX) : Cfg := { Γ := Go.Sx.look tSet, names := true, mode := setM, locks := setLk }
theorem setf_al (x : SX) : Shown (setP.vc Tryd.prog (setf_C x) Tryd.f21 x) := ⟨@Eq.mp _ _ (by kernel_rfl) (setf_vc x)⟩
theorem setf_ok : SpOk Tryd.prog 21 setP.sp := @Pat.okS _ setP Tryd.prog setf_C 21 Tryd.f21 (fun x => cfg_tab rfl tSet_ok) (by kernel_rfl) Tryd.func21 (fun _ => rfl) setf_al
end Go.Proofs.YtjofnajamlmllaaDoor
