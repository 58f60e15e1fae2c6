import Derived.Test.YtjofnajamlmllaaDoorI14
open Go Go.Sx Go.Proofs
set_option maxRecDepth 100000
namespace Go.Proofs.YtjofnajamlmllaaDoor
open Go.RowKit Go.Isa
def effA (R : Nat → Int) (x : Ins) : EF :=
  if x.op = 12 then ⟨1, x.a, (R x.b.toNat + sgn x.imm) % 4294967296, 0⟩ else if x.op = 14 then ⟨2, x.a, (R x.b.toNat + sgn x.imm) % 4294967296, 0⟩
  else if x.op = 13 then ⟨3, 0, (R x.b.toNat + sgn x.imm) % 4294967296, R x.a.toNat⟩ else if x.op = 15 then ⟨4, 0, (R x.b.toNat + sgn x.imm) % 4294967296, R x.a.toNat % 256⟩
  else if x.op = 21 then ⟨5, 0, 0, x.imm⟩ else if x.op = 22 then ⟨6, 0, 0, 0⟩ else if x.op = 23 then ⟨7, x.a, 0, 0⟩ else if x.op = 24 then ⟨8, 0, x.imm, R x.a.toNat⟩
  else if x.op = 25 then ⟨9, x.a, x.imm, 0⟩ else if x.op = 26 then ⟨10, 0, 0, 0⟩ else if x.op = 27 then ⟨11, 0, 0, 0⟩ else ⟨0, 0, 0, 0⟩
def effP : Pat SX where
  view | [.cons (.arr 16 1 f) (.cons (.int .u32 pc) .nil), .cons (.int .i64 o) (.cons (.int .i64 a) (.cons (.int .i64 b) (.cons (.int .i64 i) .nil)))], _ => some ⟨⟨fun j => tInt (f j), pc⟩, ⟨o, a, b, i⟩⟩ | _, _ => none
  args x := [asT x.s, insT x.x]
  H _ := []
  out x := .need (x.s.Ok ∧ RI x.x) (.retq (efT (effA x.s.R x.x)))
def effM : Nat → Nat
  | 1 => 1
  | _ => 0
def effLk : Nat → List Nat
  | 1 => [0, 1]
  | _ => []
theorem effect_vc : ∀ (x : SX), (x.s.Ok ∧ RI x.x) ∧ True → ((0 : Int) ≤ x.x.b ∧ x.x.b < (↑(16 : Nat) : Int)) ∧ x.x.b.toNat < (16 : Nat) ∧ ((0 : Int) ≤ x.x.a ∧ x.x.a < (↑(16 : Nat) : Int)) ∧ x.x.a.toNat < (16 : Nat) ∧ (((x.x.op = x.x.op ∧
  x.x.a = x.x.a ∧ x.x.b = x.x.b ∧ x.x.imm = x.x.imm ∧ True) ∧ True) ∧ True) ∧ ∀ (v : Int), v = IntKind.u32.wrap (x.s.R x.x.b.toNat + IntKind.u32.wrap (sgn x.x.imm)) → ∀ (v_1 : Int), v_1 = x.s.R x.x.a.toNat → ∀ (v_2 : Int),
  v_2 = IntKind.u32.wrap x.x.imm → ((x.x.op == (12 : Int)) = true → x.s.Ok ∧ RI x.x → ((1 : Int) = (effA x.s.R x.x).kind ∧ x.x.a = (effA x.s.R x.x).reg ∧ v = (effA x.s.R x.x).addr ∧ (0 : Int) = (effA x.s.R x.x).value ∧
  True) ∧ True ∧ True) ∧ ((x.x.op == (12 : Int)) = false → ((x.x.op == (14 : Int)) = true → x.s.Ok ∧ RI x.x → ((2 : Int) = (effA x.s.R x.x).kind ∧ x.x.a = (effA x.s.R x.x).reg ∧ v = (effA x.s.R x.x).addr ∧ (0 : Int) =
  (effA x.s.R x.x).value ∧ True) ∧ True ∧ True) ∧ ((x.x.op == (14 : Int)) = false → ((x.x.op == (13 : Int)) = true → x.s.Ok ∧ RI x.x → ((3 : Int) = (effA x.s.R x.x).kind ∧ (0 : Int) = (effA x.s.R x.x).reg ∧ v = (effA x.s.R
  x.x).addr ∧ v_1 = (effA x.s.R x.x).value ∧ True) ∧ True ∧ True) ∧ ((x.x.op == (13 : Int)) = false → ((x.x.op == (15 : Int)) = true → x.s.Ok ∧ RI x.x → ((4 : Int) = (effA x.s.R x.x).kind ∧ (0 : Int) = (effA x.s.R x.x).reg
  ∧ v = (effA x.s.R x.x).addr ∧ bits BinOp.and IntKind.u32 v_1 (255 : Int) = (effA x.s.R x.x).value ∧ True) ∧ True ∧ True) ∧ ((x.x.op == (15 : Int)) = false → ((x.x.op == (21 : Int)) = true → x.s.Ok ∧ RI x.x → ((5 : Int) =
  (effA x.s.R x.x).kind ∧ (0 : Int) = (effA x.s.R x.x).reg ∧ (0 : Int) = (effA x.s.R x.x).addr ∧ v_2 = (effA x.s.R x.x).value ∧ True) ∧ True ∧ True) ∧ ((x.x.op == (21 : Int)) = false → ((x.x.op == (22 : Int)) = true →
  x.s.Ok ∧ RI x.x → ((6 : Int) = (effA x.s.R x.x).kind ∧ (0 : Int) = (effA x.s.R x.x).reg ∧ (0 : Int) = (effA x.s.R x.x).addr ∧ (0 : Int) = (effA x.s.R x.x).value ∧ True) ∧ True ∧ True) ∧ ((x.x.op == (22 : Int)) = false →
  ((x.x.op == (23 : Int)) = true → x.s.Ok ∧ RI x.x → ((7 : Int) = (effA x.s.R x.x).kind ∧ x.x.a = (effA x.s.R x.x).reg ∧ (0 : Int) = (effA x.s.R x.x).addr ∧ (0 : Int) = (effA x.s.R x.x).value ∧ True) ∧ True ∧ True) ∧
  ((x.x.op == (23 : Int)) = false → ((x.x.op == (24 : Int)) = true → x.s.Ok ∧ RI x.x → ((8 : Int) = (effA x.s.R x.x).kind ∧ (0 : Int) = (effA x.s.R x.x).reg ∧ v_2 = (effA x.s.R x.x).addr ∧ v_1 = (effA x.s.R x.x).value ∧
  True) ∧ True ∧ True) ∧ ((x.x.op == (24 : Int)) = false → ((x.x.op == (25 : Int)) = true → x.s.Ok ∧ RI x.x → ((9 : Int) = (effA x.s.R x.x).kind ∧ x.x.a = (effA x.s.R x.x).reg ∧ v_2 = (effA x.s.R x.x).addr ∧ (0 : Int) =
  (effA x.s.R x.x).value ∧ True) ∧ True ∧ True) ∧ ((x.x.op == (25 : Int)) = false → ((x.x.op == (26 : Int)) = true → x.s.Ok ∧ RI x.x → ((10 : Int) = (effA x.s.R x.x).kind ∧ (0 : Int) = (effA x.s.R x.x).reg ∧ (0 : Int) =
  (effA x.s.R x.x).addr ∧ (0 : Int) = (effA x.s.R x.x).value ∧ True) ∧ True ∧ True) ∧ ((x.x.op == (26 : Int)) = false → ((x.x.op == (27 : Int)) = true → x.s.Ok ∧ RI x.x → ((11 : Int) = (effA x.s.R x.x).kind ∧ (0 : Int) =
  (effA x.s.R x.x).reg ∧ (0 : Int) = (effA x.s.R x.x).addr ∧ (0 : Int) = (effA x.s.R x.x).value ∧ True) ∧ True ∧ True) ∧ ((x.x.op == (27 : Int)) = false → x.s.Ok ∧ RI x.x → ((0 : Int) = (effA x.s.R x.x).kind ∧ (0 : Int) =
  (effA x.s.R x.x).reg ∧ (0 : Int) = (effA x.s.R x.x).addr ∧ (0 : Int) = (effA x.s.R x.x).value ∧ True) ∧ True ∧ True))))))))))) := by
  simp only [true_and, and_true, eq_self, beq_iff_eq, beq_eq_false_iff_ne, and_self, ne_eq]
  intro x hx
  have hr := hx.2.h
  unfold Right at hr
  obtain ⟨r1, r2, r3, r4, r5, r6, r7, r8⟩ := hr
  have hA := hx.1.1 x.x.a.toNat
  have hw : x.x.imm % 4294967296 = x.x.imm := by omega
  simp only [eq_true hx, true_implies, forall_eq, IntKind.wrap_u32, hw, u32_and255 hA]
  have es : (x.s.R x.x.b.toNat + sgn x.x.imm % 4294967296) % 4294967296 = (x.s.R x.x.b.toNat + sgn x.x.imm) % 4294967296 := by omega
  rw [es]
  unfold effA
  refine ⟨⟨by omega, by omega⟩, by omega, ⟨by omega, by omega⟩, by omega, ?_⟩
  generalize (x.s.R x.x.b.toNat + sgn x.x.imm) % 4294967296 = p1
  generalize x.s.R x.x.a.toNat = ra
  clear es hx r1 r2 r3 r4 r5 r6 r7 r8 hA hw
  generalize x.x.op = op at *
  generalize x.x.a = a at *
  generalize x.x.imm = im at *
  repeat' (with_reducible first | apply And.intro | intro _)
  all_goals (simp only [*, if_true, if_false, Int.reduceEq])

def effect_C (_ : SX) : Cfg := { Γ := Go.Sx.look tJump, names := true, mode := effM, locks := effLk }
theorem effect_al (x : SX) : Shown (effP.vc Tryd.prog (effect_C x) Tryd.f22 x) := ⟨@Eq.mp _ _ (by kernel_rfl) (effect_vc x)⟩
theorem effect_ok : SpOk Tryd.prog 22 effP.sp := @Pat.okS _ effP Tryd.prog effect_C 22 Tryd.f22 (fun x => cfg_tab rfl tJump_ok) (by kernel_rfl) Tryd.func22 (fun _ => rfl) effect_al
end Go.Proofs.YtjofnajamlmllaaDoor
