import Derived.Test.YtjofnajamlmllaaDoorI3
import Derived.Test.YtjofnajamlmllaaDoorMIsa3
import Derived.Lib.ItoaLen
open Go Go.Sx Go.Proofs
set_option maxRecDepth 100000
namespace Go.Proofs.YtjofnajamlmllaaDoor
open Go.RowKit Go.Lib Go.Isa

def spanP : Pat (Int × Int) where
  view | [.int .i64 a, .int .i64 b], _ => some (a, b) | _, _ => none
  args x := [.int .i64 x.1, .int .i64 x.2]
  H _ := []
  out x := .retq (.bool (decide (0 ≤ x.1 ∧ x.1 ≤ x.2)))
theorem span_vc : ∀ (a b : Int), True → (decide (a ≥ (0 : Int)) = true → decide (a ≤ b) = decide ((0 : Int) ≤ a ∧ a ≤ b) ∧ True ∧ True) ∧ (decide (a ≥ (0 : Int)) = false → decide ((0 : Int) ≤ a ∧ a ≤ b) = false ∧ True ∧ True) := by
  simp only [and_true, decide_eq_true_eq, decide_eq_false_iff_not, true_implies, and_self, Int.not_le, ge_iff_le]
  intro a b
  try dsimp only
  repeat' (with_reducible first | assumption | apply And.intro | intro _)
  all_goals (try simp only [decide_eq_decide] at *)
  all_goals (first | omega | ((repeat' (first | omega | split)) <;> (try dsimp only) <;> (try (first | omega | contradiction | (subst_vars; first | rfl | omega) | (simp_all; done) | (simp_all; omega)))))

def span_C (_ : (Int × Int)) : Cfg := { Γ := Go.Sx.look [], names := true }
theorem span_al (x : (Int × Int)) : Shown (spanP.vc Tryd.prog (span_C x) Tryd.f28 x) := ⟨@Eq.mp _ _ (by kernel_rfl) (span_vc (x.1) (x.2))⟩
theorem span_ok : SpOk Tryd.prog 28 spanP.sp := @Pat.okS _ spanP Tryd.prog span_C 28 Tryd.f28 (fun x => cfg_nil rfl) (by kernel_rfl) Tryd.func28 (fun _ => rfl) span_al
def formT (j : Nat) : T := .cons (.str (bs (wordL j))) (.cons (.int .i64 (regsN j)) (.cons (.int .i64 (immN j)) .nil))
def formsT : T := .arr 28 3 formT
def formsP : Pat Unit where
  view | [], _ => some () | _, _ => none
  args _ := []
  H _ := []
  out _ := .retq formsT
theorem forms_vc : True → ((28 : Nat) = (28 : Nat) ∧ ∀ (j : Nat), j < (28 : Nat) → (bif j.beq (0 : Nat) then ByteArray.mk #[(110 : UInt8), (111 : UInt8), (112 : UInt8)] else bif j.beq (1 : Nat) then ByteArray.mk #[(108 : UInt8), (105 :
  UInt8)] else bif j.beq (2 : Nat) then ByteArray.mk #[(108 : UInt8), (117 : UInt8), (105 : UInt8)] else bif j.beq (3 : Nat) then ByteArray.mk #[(97 : UInt8), (100 : UInt8), (100 : UInt8)] else bif j.beq (4 : Nat) then
  ByteArray.mk #[(115 : UInt8), (117 : UInt8), (98 : UInt8)] else bif j.beq (5 : Nat) then ByteArray.mk #[(97 : UInt8), (110 : UInt8), (100 : UInt8)] else bif j.beq (6 : Nat) then ByteArray.mk #[(111 : UInt8), (114 :
  UInt8)] else bif j.beq (7 : Nat) then ByteArray.mk #[(120 : UInt8), (111 : UInt8), (114 : UInt8)] else bif j.beq (8 : Nat) then ByteArray.mk #[(115 : UInt8), (104 : UInt8), (108 : UInt8)] else bif j.beq (9 : Nat) then
  ByteArray.mk #[(115 : UInt8), (104 : UInt8), (114 : UInt8)] else bif j.beq (10 : Nat) then ByteArray.mk #[(109 : UInt8), (117 : UInt8), (108 : UInt8)] else bif j.beq (11 : Nat) then ByteArray.mk #[(97 : UInt8), (100 :
  UInt8), (100 : UInt8), (105 : UInt8)] else bif j.beq (12 : Nat) then ByteArray.mk #[(108 : UInt8), (100 : UInt8)] else bif j.beq (13 : Nat) then ByteArray.mk #[(115 : UInt8), (116 : UInt8)] else bif j.beq (14 : Nat) then
  ByteArray.mk #[(108 : UInt8), (100 : UInt8), (98 : UInt8)] else bif j.beq (15 : Nat) then ByteArray.mk #[(115 : UInt8), (116 : UInt8), (98 : UInt8)] else bif j.beq (16 : Nat) then ByteArray.mk #[(98 : UInt8), (101 :
  UInt8), (113 : UInt8)] else bif j.beq (17 : Nat) then ByteArray.mk #[(98 : UInt8), (110 : UInt8), (101 : UInt8)] else bif j.beq (18 : Nat) then ByteArray.mk #[(98 : UInt8), (108 : UInt8), (116 : UInt8)] else bif j.beq
  (19 : Nat) then ByteArray.mk #[(106 : UInt8), (97 : UInt8), (108 : UInt8)] else bif j.beq (20 : Nat) then ByteArray.mk #[(106 : UInt8), (114 : UInt8)] else bif j.beq (21 : Nat) then ByteArray.mk #[(104 : UInt8), (118 :
  UInt8), (99 : UInt8)] else bif j.beq (22 : Nat) then ByteArray.mk #[(119 : UInt8), (102 : UInt8), (105 : UInt8)] else bif j.beq (23 : Nat) then ByteArray.mk #[(99 : UInt8), (108 : UInt8), (107 : UInt8)] else bif j.beq
  (24 : Nat) then ByteArray.mk #[(109 : UInt8), (115 : UInt8), (114 : UInt8)] else bif j.beq (25 : Nat) then ByteArray.mk #[(109 : UInt8), (114 : UInt8), (115 : UInt8)] else bif j.beq (26 : Nat) then ByteArray.mk #[(101 :
  UInt8), (114 : UInt8), (101 : UInt8), (116 : UInt8)] else ByteArray.mk #[(104 : UInt8), (97 : UInt8), (108 : UInt8), (116 : UInt8)]) = bs (wordL j) ∧ (bif j.beq (0 : Nat) then (0 : Int) else bif j.beq (1 : Nat) then (1 :
  Int) else bif j.beq (2 : Nat) then (1 : Int) else bif j.beq (3 : Nat) then (2 : Int) else bif j.beq (4 : Nat) then (2 : Int) else bif j.beq (5 : Nat) then (2 : Int) else bif j.beq (6 : Nat) then (2 : Int) else bif j.beq
  (7 : Nat) then (2 : Int) else bif j.beq (8 : Nat) then (2 : Int) else bif j.beq (9 : Nat) then (2 : Int) else bif j.beq (10 : Nat) then (2 : Int) else bif j.beq (11 : Nat) then (2 : Int) else bif j.beq (12 : Nat) then (2
  : Int) else bif j.beq (13 : Nat) then (2 : Int) else bif j.beq (14 : Nat) then (2 : Int) else bif j.beq (15 : Nat) then (2 : Int) else bif j.beq (16 : Nat) then (2 : Int) else bif j.beq (17 : Nat) then (2 : Int) else bif
  j.beq (18 : Nat) then (2 : Int) else bif j.beq (19 : Nat) then (1 : Int) else bif j.beq (20 : Nat) then (1 : Int) else bif j.beq (21 : Nat) then (0 : Int) else bif j.beq (22 : Nat) then (0 : Int) else bif j.beq (23 :
  Nat) then (1 : Int) else bif j.beq (24 : Nat) then (1 : Int) else bif j.beq (25 : Nat) then (1 : Int) else bif j.beq (26 : Nat) then (0 : Int) else (0 : Int)) = (↑(regsN j) : Int) ∧ (bif j.beq (0 : Nat) then (0 : Int)
  else bif j.beq (1 : Nat) then (1 : Int) else bif j.beq (2 : Nat) then (1 : Int) else bif j.beq (3 : Nat) then (2 : Int) else bif j.beq (4 : Nat) then (2 : Int) else bif j.beq (5 : Nat) then (2 : Int) else bif j.beq (6 :
  Nat) then (2 : Int) else bif j.beq (7 : Nat) then (2 : Int) else bif j.beq (8 : Nat) then (2 : Int) else bif j.beq (9 : Nat) then (2 : Int) else bif j.beq (10 : Nat) then (2 : Int) else bif j.beq (11 : Nat) then (3 :
  Int) else bif j.beq (12 : Nat) then (3 : Int) else bif j.beq (13 : Nat) then (3 : Int) else bif j.beq (14 : Nat) then (3 : Int) else bif j.beq (15 : Nat) then (3 : Int) else bif j.beq (16 : Nat) then (3 : Int) else bif
  j.beq (17 : Nat) then (3 : Int) else bif j.beq (18 : Nat) then (3 : Int) else bif j.beq (19 : Nat) then (3 : Int) else bif j.beq (20 : Nat) then (0 : Int) else bif j.beq (21 : Nat) then (1 : Int) else bif j.beq (22 :
  Nat) then (0 : Int) else bif j.beq (23 : Nat) then (0 : Int) else bif j.beq (24 : Nat) then (1 : Int) else bif j.beq (25 : Nat) then (1 : Int) else bif j.beq (26 : Nat) then (0 : Int) else (0 : Int)) = (↑(immN j) : Int)
  ∧ True) ∧ True ∧ True := by
  simp only [true_and, and_true, eq_self, true_implies, and_self, cond_nbeq]
  decide +kernel

def forms_C (_ : Unit) : Cfg := { Γ := Go.Sx.look [], names := true }
theorem forms_al (x : Unit) : Shown (formsP.vc Tryd.prog (forms_C x) Tryd.f29 x) := ⟨@Eq.mp _ _ (by kernel_rfl) (forms_vc )⟩
theorem forms_ok : SpOk Tryd.prog 29 formsP.sp := @Pat.okS _ formsP Tryd.prog forms_C 29 Tryd.f29 (fun x => cfg_nil rfl) (by kernel_rfl) Tryd.func29 (fun _ => rfl) forms_al
def insT (x : Ins) : T := .cons (.int .i64 x.op) (.cons (.int .i64 x.a) (.cons (.int .i64 x.b) (.cons (.int .i64 x.imm) .nil)))
def insI (x : Ins) : Prop := i64 x.op ∧ i64 x.a ∧ i64 x.b ∧ i64 x.imm
def rightP : Pat Ins where
  view | [.cons (.int .i64 o) (.cons (.int .i64 a) (.cons (.int .i64 b) (.cons (.int .i64 i) .nil)))], _ => some ⟨o, a, b, i⟩ | _, _ => none
  args x := [insT x]
  H _ := []
  out x := .need (insI x) (.retq (.bool (decide (Right x))))
def tRight : Tab := [(28, spanP.sp), (29, formsP.sp)]
theorem tRight_ok : TabOk Tryd.prog tRight := (tab_cons span_ok (tab_cons forms_ok tab_nil))

def at3 (n : Nat) : Nat → Nat
  | 3 => n
  | _ => 0
def lk3 (l : List Nat) : Nat → List Nat
  | 3 => l
  | _ => []
theorem right_vc : ∀ (x : Ins), insI x ∧ True → ((x.op = x.op ∧ (27 : Int) = (27 : Int) ∧ True) ∧ True) ∧ ((!decide ((0 : Int) ≤ x.op ∧ x.op ≤ (27 : Int))) = true → insI x → decide (Right x) = false ∧ True ∧ True) ∧ ((!decide ((0 : Int) ≤
  x.op ∧ x.op ≤ (27 : Int))) = false → ((x.a = x.a ∧ (15 : Int) = (15 : Int) ∧ True) ∧ True) ∧ ((!decide ((0 : Int) ≤ x.a ∧ x.a ≤ (15 : Int))) = true → insI x → decide (Right x) = false ∧ True ∧ True) ∧ ((!decide ((0 :
  Int) ≤ x.a ∧ x.a ≤ (15 : Int))) = false → ((x.b = x.b ∧ (15 : Int) = (15 : Int) ∧ True) ∧ True) ∧ ((!decide ((0 : Int) ≤ x.b ∧ x.b ≤ (15 : Int))) = true → insI x → decide (Right x) = false ∧ True ∧ True) ∧ ((!decide ((0
  : Int) ≤ x.b ∧ x.b ≤ (15 : Int))) = false → ((x.imm = x.imm ∧ (65535 : Int) = (65535 : Int) ∧ True) ∧ True) ∧ ((!decide ((0 : Int) ≤ x.imm ∧ x.imm ≤ (65535 : Int))) = true → insI x → decide (Right x) = false ∧ True ∧
  True) ∧ ((!decide ((0 : Int) ≤ x.imm ∧ x.imm ≤ (65535 : Int))) = false → ((True ∧ True) ∧ ((0 : Int) ≤ x.op ∧ x.op < (↑(28 : Nat) : Int)) ∧ (decide ((↑(regsN x.op.toNat) : Int) < (1 : Int)) = true → ((x.a != (0 : Int)) =
  true → ((x.a != (0 : Int)) = true → insI x → decide (Right x) = false ∧ True ∧ True) ∧ ((x.a != (0 : Int)) = false → (((↑(immN x.op.toNat) : Int) != (2 : Int)) = true → insI x → decide (Right x) = true ∧ True ∧ True) ∧
  (((↑(immN x.op.toNat) : Int) != (2 : Int)) = false → insI x → decide (x.imm < (16 : Int)) = decide (Right x) ∧ True ∧ True))) ∧ ((x.a != (0 : Int)) = false → (decide ((↑(regsN x.op.toNat) : Int) < (2 : Int)) = true →
  ((x.b != (0 : Int)) = true → ((x.b != (0 : Int)) = true → insI x → decide (Right x) = false ∧ True ∧ True) ∧ ((x.b != (0 : Int)) = false → (((↑(immN x.op.toNat) : Int) != (2 : Int)) = true → insI x → decide (Right x) =
  true ∧ True ∧ True) ∧ (((↑(immN x.op.toNat) : Int) != (2 : Int)) = false → insI x → decide (x.imm < (16 : Int)) = decide (Right x) ∧ True ∧ True))) ∧ ((x.b != (0 : Int)) = false → (((↑(immN x.op.toNat) : Int) == (0 :
  Int)) = true → ((x.imm != (0 : Int)) = true → insI x → decide (Right x) = false ∧ True ∧ True) ∧ ((x.imm != (0 : Int)) = false → (((↑(immN x.op.toNat) : Int) != (2 : Int)) = true → insI x → decide (Right x) = true ∧ True
  ∧ True) ∧ (((↑(immN x.op.toNat) : Int) != (2 : Int)) = false → insI x → decide (x.imm < (16 : Int)) = decide (Right x) ∧ True ∧ True))) ∧ (((↑(immN x.op.toNat) : Int) == (0 : Int)) = false → (((↑(immN x.op.toNat) : Int)
  != (2 : Int)) = true → insI x → decide (Right x) = true ∧ True ∧ True) ∧ (((↑(immN x.op.toNat) : Int) != (2 : Int)) = false → insI x → decide (x.imm < (16 : Int)) = decide (Right x) ∧ True ∧ True)))) ∧ (decide ((↑(regsN
  x.op.toNat) : Int) < (2 : Int)) = false → (((↑(immN x.op.toNat) : Int) == (0 : Int)) = true → ((x.imm != (0 : Int)) = true → insI x → decide (Right x) = false ∧ True ∧ True) ∧ ((x.imm != (0 : Int)) = false → (((↑(immN
  x.op.toNat) : Int) != (2 : Int)) = true → insI x → decide (Right x) = true ∧ True ∧ True) ∧ (((↑(immN x.op.toNat) : Int) != (2 : Int)) = false → insI x → decide (x.imm < (16 : Int)) = decide (Right x) ∧ True ∧ True))) ∧
  (((↑(immN x.op.toNat) : Int) == (0 : Int)) = false → (((↑(immN x.op.toNat) : Int) != (2 : Int)) = true → insI x → decide (Right x) = true ∧ True ∧ True) ∧ (((↑(immN x.op.toNat) : Int) != (2 : Int)) = false → insI x →
  decide (x.imm < (16 : Int)) = decide (Right x) ∧ True ∧ True))))) ∧ (decide ((↑(regsN x.op.toNat) : Int) < (1 : Int)) = false → (decide ((↑(regsN x.op.toNat) : Int) < (2 : Int)) = true → ((x.b != (0 : Int)) = true →
  ((x.b != (0 : Int)) = true → insI x → decide (Right x) = false ∧ True ∧ True) ∧ ((x.b != (0 : Int)) = false → (((↑(immN x.op.toNat) : Int) != (2 : Int)) = true → insI x → decide (Right x) = true ∧ True ∧ True) ∧
  (((↑(immN x.op.toNat) : Int) != (2 : Int)) = false → insI x → decide (x.imm < (16 : Int)) = decide (Right x) ∧ True ∧ True))) ∧ ((x.b != (0 : Int)) = false → (((↑(immN x.op.toNat) : Int) == (0 : Int)) = true → ((x.imm !=
  (0 : Int)) = true → insI x → decide (Right x) = false ∧ True ∧ True) ∧ ((x.imm != (0 : Int)) = false → (((↑(immN x.op.toNat) : Int) != (2 : Int)) = true → insI x → decide (Right x) = true ∧ True ∧ True) ∧ (((↑(immN
  x.op.toNat) : Int) != (2 : Int)) = false → insI x → decide (x.imm < (16 : Int)) = decide (Right x) ∧ True ∧ True))) ∧ (((↑(immN x.op.toNat) : Int) == (0 : Int)) = false → (((↑(immN x.op.toNat) : Int) != (2 : Int)) = true
  → insI x → decide (Right x) = true ∧ True ∧ True) ∧ (((↑(immN x.op.toNat) : Int) != (2 : Int)) = false → insI x → decide (x.imm < (16 : Int)) = decide (Right x) ∧ True ∧ True)))) ∧ (decide ((↑(regsN x.op.toNat) : Int) <
  (2 : Int)) = false → (((↑(immN x.op.toNat) : Int) == (0 : Int)) = true → ((x.imm != (0 : Int)) = true → insI x → decide (Right x) = false ∧ True ∧ True) ∧ ((x.imm != (0 : Int)) = false → (((↑(immN x.op.toNat) : Int) !=
  (2 : Int)) = true → insI x → decide (Right x) = true ∧ True ∧ True) ∧ (((↑(immN x.op.toNat) : Int) != (2 : Int)) = false → insI x → decide (x.imm < (16 : Int)) = decide (Right x) ∧ True ∧ True))) ∧ (((↑(immN x.op.toNat)
  : Int) == (0 : Int)) = false → (((↑(immN x.op.toNat) : Int) != (2 : Int)) = true → insI x → decide (Right x) = true ∧ True ∧ True) ∧ (((↑(immN x.op.toNat) : Int) != (2 : Int)) = false → insI x → decide (x.imm < (16 :
  Int)) = decide (Right x) ∧ True ∧ True))))) ∧ (True ∧ True) ∧ ((0 : Int) ≤ x.op ∧ x.op < (↑(28 : Nat) : Int)) ∧ (decide ((↑(regsN x.op.toNat) : Int) < (1 : Int)) = true → ((x.a != (0 : Int)) = true → ((x.a != (0 : Int))
  = true → insI x → decide (Right x) = false ∧ True ∧ True) ∧ ((x.a != (0 : Int)) = false → (((↑(immN x.op.toNat) : Int) != (2 : Int)) = true → insI x → decide (Right x) = true ∧ True ∧ True) ∧ (((↑(immN x.op.toNat) : Int)
  != (2 : Int)) = false → insI x → decide (x.imm < (16 : Int)) = decide (Right x) ∧ True ∧ True))) ∧ ((x.a != (0 : Int)) = false → (decide ((↑(regsN x.op.toNat) : Int) < (2 : Int)) = true → ((x.b != (0 : Int)) = true →
  ((x.b != (0 : Int)) = true → insI x → decide (Right x) = false ∧ True ∧ True) ∧ ((x.b != (0 : Int)) = false → (((↑(immN x.op.toNat) : Int) != (2 : Int)) = true → insI x → decide (Right x) = true ∧ True ∧ True) ∧
  (((↑(immN x.op.toNat) : Int) != (2 : Int)) = false → insI x → decide (x.imm < (16 : Int)) = decide (Right x) ∧ True ∧ True))) ∧ ((x.b != (0 : Int)) = false → (((↑(immN x.op.toNat) : Int) == (0 : Int)) = true → ((x.imm !=
  (0 : Int)) = true → insI x → decide (Right x) = false ∧ True ∧ True) ∧ ((x.imm != (0 : Int)) = false → (((↑(immN x.op.toNat) : Int) != (2 : Int)) = true → insI x → decide (Right x) = true ∧ True ∧ True) ∧ (((↑(immN
  x.op.toNat) : Int) != (2 : Int)) = false → insI x → decide (x.imm < (16 : Int)) = decide (Right x) ∧ True ∧ True))) ∧ (((↑(immN x.op.toNat) : Int) == (0 : Int)) = false → (((↑(immN x.op.toNat) : Int) != (2 : Int)) = true
  → insI x → decide (Right x) = true ∧ True ∧ True) ∧ (((↑(immN x.op.toNat) : Int) != (2 : Int)) = false → insI x → decide (x.imm < (16 : Int)) = decide (Right x) ∧ True ∧ True)))) ∧ (decide ((↑(regsN x.op.toNat) : Int) <
  (2 : Int)) = false → (((↑(immN x.op.toNat) : Int) == (0 : Int)) = true → ((x.imm != (0 : Int)) = true → insI x → decide (Right x) = false ∧ True ∧ True) ∧ ((x.imm != (0 : Int)) = false → (((↑(immN x.op.toNat) : Int) !=
  (2 : Int)) = true → insI x → decide (Right x) = true ∧ True ∧ True) ∧ (((↑(immN x.op.toNat) : Int) != (2 : Int)) = false → insI x → decide (x.imm < (16 : Int)) = decide (Right x) ∧ True ∧ True))) ∧ (((↑(immN x.op.toNat)
  : Int) == (0 : Int)) = false → (((↑(immN x.op.toNat) : Int) != (2 : Int)) = true → insI x → decide (Right x) = true ∧ True ∧ True) ∧ (((↑(immN x.op.toNat) : Int) != (2 : Int)) = false → insI x → decide (x.imm < (16 :
  Int)) = decide (Right x) ∧ True ∧ True))))) ∧ (decide ((↑(regsN x.op.toNat) : Int) < (1 : Int)) = false → (decide ((↑(regsN x.op.toNat) : Int) < (2 : Int)) = true → ((x.b != (0 : Int)) = true → ((x.b != (0 : Int)) = true
  → insI x → decide (Right x) = false ∧ True ∧ True) ∧ ((x.b != (0 : Int)) = false → (((↑(immN x.op.toNat) : Int) != (2 : Int)) = true → insI x → decide (Right x) = true ∧ True ∧ True) ∧ (((↑(immN x.op.toNat) : Int) != (2
  : Int)) = false → insI x → decide (x.imm < (16 : Int)) = decide (Right x) ∧ True ∧ True))) ∧ ((x.b != (0 : Int)) = false → (((↑(immN x.op.toNat) : Int) == (0 : Int)) = true → ((x.imm != (0 : Int)) = true → insI x →
  decide (Right x) = false ∧ True ∧ True) ∧ ((x.imm != (0 : Int)) = false → (((↑(immN x.op.toNat) : Int) != (2 : Int)) = true → insI x → decide (Right x) = true ∧ True ∧ True) ∧ (((↑(immN x.op.toNat) : Int) != (2 : Int)) =
  false → insI x → decide (x.imm < (16 : Int)) = decide (Right x) ∧ True ∧ True))) ∧ (((↑(immN x.op.toNat) : Int) == (0 : Int)) = false → (((↑(immN x.op.toNat) : Int) != (2 : Int)) = true → insI x → decide (Right x) = true
  ∧ True ∧ True) ∧ (((↑(immN x.op.toNat) : Int) != (2 : Int)) = false → insI x → decide (x.imm < (16 : Int)) = decide (Right x) ∧ True ∧ True)))) ∧ (decide ((↑(regsN x.op.toNat) : Int) < (2 : Int)) = false → (((↑(immN
  x.op.toNat) : Int) == (0 : Int)) = true → ((x.imm != (0 : Int)) = true → insI x → decide (Right x) = false ∧ True ∧ True) ∧ ((x.imm != (0 : Int)) = false → (((↑(immN x.op.toNat) : Int) != (2 : Int)) = true → insI x →
  decide (Right x) = true ∧ True ∧ True) ∧ (((↑(immN x.op.toNat) : Int) != (2 : Int)) = false → insI x → decide (x.imm < (16 : Int)) = decide (Right x) ∧ True ∧ True))) ∧ (((↑(immN x.op.toNat) : Int) == (0 : Int)) = false
  → (((↑(immN x.op.toNat) : Int) != (2 : Int)) = true → insI x → decide (Right x) = true ∧ True ∧ True) ∧ (((↑(immN x.op.toNat) : Int) != (2 : Int)) = false → insI x → decide (x.imm < (16 : Int)) = decide (Right x) ∧ True
  ∧ True)))))))) := by
  simp only [true_and, and_true, eq_self, decide_eq_true_eq, decide_eq_false_iff_not, beq_iff_eq, beq_eq_false_iff_ne, and_self, bne_iff_ne, Int.not_lt, ne_eq, bne_eq_false_iff_eq, Bool.not_eq_true', Bool.not_eq_false']
  intro x hx
  simp only [hx, true_implies, decide_eq_decide]
  unfold Right
  generalize regsN x.op.toNat = r
  generalize immN x.op.toNat = i
  repeat' (with_reducible first | apply And.intro | intro _)
  all_goals omega

def right_C (_ : Ins) : Cfg := { Γ := Go.Sx.look tRight, names := true, mode := at3 1, locks := lk3 [0] }
theorem right_al (x : Ins) : Shown (rightP.vc Tryd.prog (right_C x) Tryd.f19 x) := ⟨@Eq.mp _ _ (by kernel_rfl) (right_vc x)⟩
theorem right_ok : SpOk Tryd.prog 19 rightP.sp := @Pat.okS _ rightP Tryd.prog right_C 19 Tryd.f19 (fun x => cfg_tab rfl tRight_ok) (by kernel_rfl) Tryd.func19 (fun _ => rfl) right_al
def tEnc : Tab := [(19, rightP.sp), (18, fieldPt.sp)]
theorem tEnc_ok : TabOk Tryd.prog tEnc := (tab_cons right_ok (tab_cons field_ok tab_nil))

def encP : Pat Ins where
  view | [.cons (.int .i64 o) (.cons (.int .i64 a) (.cons (.int .i64 b) (.cons (.int .i64 i) .nil)))], _ => some ⟨o, a, b, i⟩ | _, _ => none
  args x := [insT x]
  H _ := []
  out x := .need (insI x) (.retq (.tup (.cons (.int .u32 (if Right x then encV x else 0)) (.cons (.bool (decide (Right x))) .nil))))
theorem enc_vc : ∀ (x : Ins), insI x ∧ True → ∀ (v : Int), v = (0 : Int) → (((x.op = x.op ∧ x.a = x.a ∧ x.b = x.b ∧ x.imm = x.imm ∧ True) ∧ True) ∧ True) ∧ insI (Ins.mk x.op x.a x.b x.imm) ∧ ((!decide (Right (Ins.mk x.op x.a x.b x.imm)))
  = true → ∀ (v : Int), v = (0 : Int) → insI x → ((v = if Right x then encV x else (0 : Int)) ∧ decide (Right x) = false ∧ True) ∧ True ∧ True) ∧ ((!decide (Right (Ins.mk x.op x.a x.b x.imm))) = false → (0 : Int) ≤ (8 :
  Int) ∧ (0 : Int) ≤ (12 : Int) ∧ (0 : Int) ≤ (16 : Int) ∧ ∀ (v : Int), v = IntKind.u32.wrap (bits BinOp.or IntKind.i64 (bits BinOp.or IntKind.i64 (bits BinOp.or IntKind.i64 x.op (IntKind.i64.wrap (x.a * (2 : Int) ^ min
  (Int.toNat (8 : Int)) IntKind.i64.bits))) (IntKind.i64.wrap (x.b * (2 : Int) ^ min (Int.toNat (12 : Int)) IntKind.i64.bits))) (IntKind.i64.wrap (x.imm * (2 : Int) ^ min (Int.toNat (16 : Int)) IntKind.i64.bits))) → insI x
  → ((v = if Right x then encV x else (0 : Int)) ∧ decide (Right x) = true ∧ True) ∧ True ∧ True) := by
  simp only [true_and, and_true, eq_self, decide_eq_true_eq, decide_eq_false_iff_not, and_self, IntKind.wrap_i64, Bool.not_eq_true', Bool.not_eq_false']
  intro x hx
  simp only [hx, true_implies, true_and]
  intro v hv
  refine ⟨fun h v hv => ⟨by rw [if_neg h]; exact hv, h⟩, fun h => ⟨by decide, by decide, by decide, fun v hv => ⟨?_, h⟩⟩⟩
  rw [if_pos h, hv]
  have := enc_code h
  simp only [IntKind.wrap_i64] at this
  exact this

def enc_C (_ : Ins) : Cfg := { Γ := Go.Sx.look tEnc, names := true }
theorem enc_al (x : Ins) : Shown (encP.vc Tryd.prog (enc_C x) Tryd.f15 x) := ⟨@Eq.mp _ _ (by kernel_rfl) (enc_vc x)⟩
theorem enc_ok : SpOk Tryd.prog 15 encP.sp := @Pat.okS _ encP Tryd.prog enc_C 15 Tryd.f15 (fun x => cfg_tab rfl tEnc_ok) (by kernel_rfl) Tryd.func15 (fun _ => rfl) enc_al
def decP : Pat Int where
  view | [.int .u32 w], _ => some w | _, _ => none
  args w := [.int .u32 w]
  H _ := []
  out w := .need (u32 w) (.retq (.tup (.cons (insT (if Right (decV w) then decV w else ⟨0, 0, 0, 0⟩)) (.cons (.bool (decide (Right (decV w)))) .nil))))
theorem dec_vc : ∀ (w : Int), ((0 : Int) ≤ w ∧ w < (4294967296 : Int)) ∧ True → ((w = w ∧ (0 : Int) = (0 : Int) ∧ (8 : Int) = (8 : Int) ∧ True) ∧ True) ∧ (((0 : Int) ≤ w ∧ w < (4294967296 : Int)) ∧ ((-9223372036854775808 : Int) ≤ (0 :
  Int) ∧ (0 : Int) < (9223372036854775808 : Int)) ∧ (-9223372036854775808 : Int) ≤ (8 : Int) ∧ (8 : Int) < (9223372036854775808 : Int)) ∧ ((w = w ∧ (8 : Int) = (8 : Int) ∧ (4 : Int) = (4 : Int) ∧ True) ∧ True) ∧ (((0 :
  Int) ≤ w ∧ w < (4294967296 : Int)) ∧ ((-9223372036854775808 : Int) ≤ (8 : Int) ∧ (8 : Int) < (9223372036854775808 : Int)) ∧ (-9223372036854775808 : Int) ≤ (4 : Int) ∧ (4 : Int) < (9223372036854775808 : Int)) ∧ ((w = w ∧
  (12 : Int) = (12 : Int) ∧ (4 : Int) = (4 : Int) ∧ True) ∧ True) ∧ (((0 : Int) ≤ w ∧ w < (4294967296 : Int)) ∧ ((-9223372036854775808 : Int) ≤ (12 : Int) ∧ (12 : Int) < (9223372036854775808 : Int)) ∧ (-9223372036854775808
  : Int) ≤ (4 : Int) ∧ (4 : Int) < (9223372036854775808 : Int)) ∧ ((w = w ∧ (16 : Int) = (16 : Int) ∧ (16 : Int) = (16 : Int) ∧ True) ∧ True) ∧ (((0 : Int) ≤ w ∧ w < (4294967296 : Int)) ∧ ((-9223372036854775808 : Int) ≤
  (16 : Int) ∧ (16 : Int) < (9223372036854775808 : Int)) ∧ (-9223372036854775808 : Int) ≤ (16 : Int) ∧ (16 : Int) < (9223372036854775808 : Int)) ∧ (((IntKind.i64.wrap (fieldN w (0 : Int) (8 : Int)) = IntKind.i64.wrap
  (fieldN w (0 : Int) (8 : Int)) ∧ IntKind.i64.wrap (fieldN w (8 : Int) (4 : Int)) = IntKind.i64.wrap (fieldN w (8 : Int) (4 : Int)) ∧ IntKind.i64.wrap (fieldN w (12 : Int) (4 : Int)) = IntKind.i64.wrap (fieldN w (12 :
  Int) (4 : Int)) ∧ IntKind.i64.wrap (fieldN w (16 : Int) (16 : Int)) = IntKind.i64.wrap (fieldN w (16 : Int) (16 : Int)) ∧ True) ∧ True) ∧ True) ∧ insI (Ins.mk (IntKind.i64.wrap (fieldN w (0 : Int) (8 : Int)))
  (IntKind.i64.wrap (fieldN w (8 : Int) (4 : Int))) (IntKind.i64.wrap (fieldN w (12 : Int) (4 : Int))) (IntKind.i64.wrap (fieldN w (16 : Int) (16 : Int)))) ∧ ((!decide (Right (Ins.mk (IntKind.i64.wrap (fieldN w (0 : Int)
  (8 : Int))) (IntKind.i64.wrap (fieldN w (8 : Int) (4 : Int))) (IntKind.i64.wrap (fieldN w (12 : Int) (4 : Int))) (IntKind.i64.wrap (fieldN w (16 : Int) (16 : Int)))))) = true → (0 : Int) ≤ w ∧ w < (4294967296 : Int) →
  (((0 : Int) = (if Right (decV w) then decV w else Ins.mk (0 : Int) (0 : Int) (0 : Int) (0 : Int)).op ∧ (0 : Int) = (if Right (decV w) then decV w else Ins.mk (0 : Int) (0 : Int) (0 : Int) (0 : Int)).a ∧ (0 : Int) = (if
  Right (decV w) then decV w else Ins.mk (0 : Int) (0 : Int) (0 : Int) (0 : Int)).b ∧ (0 : Int) = (if Right (decV w) then decV w else Ins.mk (0 : Int) (0 : Int) (0 : Int) (0 : Int)).imm ∧ True) ∧ decide (Right (decV w)) =
  false ∧ True) ∧ True ∧ True) ∧ ((!decide (Right (Ins.mk (IntKind.i64.wrap (fieldN w (0 : Int) (8 : Int))) (IntKind.i64.wrap (fieldN w (8 : Int) (4 : Int))) (IntKind.i64.wrap (fieldN w (12 : Int) (4 : Int)))
  (IntKind.i64.wrap (fieldN w (16 : Int) (16 : Int)))))) = false → (0 : Int) ≤ w ∧ w < (4294967296 : Int) → ((IntKind.i64.wrap (fieldN w (0 : Int) (8 : Int)) = (if Right (decV w) then decV w else Ins.mk (0 : Int) (0 : Int)
  (0 : Int) (0 : Int)).op ∧ IntKind.i64.wrap (fieldN w (8 : Int) (4 : Int)) = (if Right (decV w) then decV w else Ins.mk (0 : Int) (0 : Int) (0 : Int) (0 : Int)).a ∧ IntKind.i64.wrap (fieldN w (12 : Int) (4 : Int)) = (if
  Right (decV w) then decV w else Ins.mk (0 : Int) (0 : Int) (0 : Int) (0 : Int)).b ∧ IntKind.i64.wrap (fieldN w (16 : Int) (16 : Int)) = (if Right (decV w) then decV w else Ins.mk (0 : Int) (0 : Int) (0 : Int) (0 :
  Int)).imm ∧ True) ∧ decide (Right (decV w)) = true ∧ True) ∧ True ∧ True) := by
  simp only [true_and, and_true, eq_self, decide_eq_true_eq, decide_eq_false_iff_not, and_self, IntKind.wrap_i64, Bool.not_eq_true', Bool.not_eq_false']
  intro w hw
  obtain ⟨f1, f2, f3, f4⟩ := field_dec hw
  have e1 : (fieldN w 0 8 + 9223372036854775808) % 18446744073709551616 - 9223372036854775808 = (decV w).op := by rw [f1]; simp only [decV]; omega
  have e2 : (fieldN w 8 4 + 9223372036854775808) % 18446744073709551616 - 9223372036854775808 = (decV w).a := by rw [f2]; simp only [decV]; omega
  have e3 : (fieldN w 12 4 + 9223372036854775808) % 18446744073709551616 - 9223372036854775808 = (decV w).b := by rw [f3]; simp only [decV]; omega
  have e4 : (fieldN w 16 16 + 9223372036854775808) % 18446744073709551616 - 9223372036854775808 = (decV w).imm := by rw [f4]; simp only [decV]; omega
  rw [e1, e2, e3, e4]
  refine ⟨by omega, by omega, by omega, by omega, ?_, fun h _ => ?_, fun h _ => ?_⟩
  · simp only [insI, i64, decV]; omega
  · rw [if_neg h]; exact ⟨⟨rfl, rfl, rfl, rfl⟩, h⟩
  · rw [if_pos h]; exact ⟨⟨rfl, rfl, rfl, rfl⟩, h⟩

def dec_C (_ : Int) : Cfg := { Γ := Go.Sx.look tEnc, names := true }
theorem dec_al (x : Int) : Shown (decP.vc Tryd.prog (dec_C x) Tryd.f13 x) := ⟨@Eq.mp _ _ (by kernel_rfl) (dec_vc x)⟩
theorem dec_ok : SpOk Tryd.prog 13 decP.sp := @Pat.okS _ decP Tryd.prog dec_C 13 Tryd.f13 (fun x => cfg_tab rfl tEnc_ok) (by kernel_rfl) Tryd.func13 (fun _ => rfl) dec_al
theorem wrap_i16 (n : Int) : IntKind.i16.wrap n = (n + 32768) % 65536 - 32768 := by
  simp [IntKind.wrap, IntKind.bits, IntKind.signed]
  split <;> omega
def sgnP : Pat Ins where
  view | [.cons (.int .i64 o) (.cons (.int .i64 a) (.cons (.int .i64 b) (.cons (.int .i64 i) .nil)))], _ => some ⟨o, a, b, i⟩ | _, _ => none
  args x := [insT x]
  H _ := []
  out x := .retq (.int .i64 (sgn x.imm))
theorem signed_vc : ∀ (x : Ins), True → ∀ (v : Int), v = (0 : Int) → ∀ (v : Int), v = IntKind.i64.wrap (IntKind.i16.wrap x.imm) → v = sgn x.imm ∧ True ∧ True := by
  simp only [and_true, true_implies, and_self, IntKind.wrap_i64]
  intro x v hv v1 hv1
  rw [hv1, wrap_i16]
  unfold sgn
  omega

def signed_C (_ : Ins) : Cfg := { Γ := Go.Sx.look [], names := true }
theorem signed_al (x : Ins) : Shown (sgnP.vc Tryd.prog (signed_C x) Tryd.f30 x) := ⟨@Eq.mp _ _ (by kernel_rfl) (signed_vc x)⟩
theorem signed_ok : SpOk Tryd.prog 30 sgnP.sp := @Pat.okS _ sgnP Tryd.prog signed_C 30 Tryd.f30 (fun x => cfg_nil rfl) (by kernel_rfl) Tryd.func30 (fun _ => rfl) signed_al
def regP : Pat Int where
  view | [.int .i64 n], _ => some n | _, _ => none
  args n := [.int .i64 n]
  H _ := []
  out n := .need (i64 n) (.retq (.str (bs (regL n))))
theorem bs_app (a b : List UInt8) : bs a ++ bs b = bs (a ++ b) := by
  apply ByteArray.ext
  simp [bs, ByteArray.data_append]
theorem bs_size (l : List UInt8) : (bs l).size = l.length := by simp [bs, ByteArray.size]
theorem trim_len (l p : List UInt8) : (trimPrefix l p).length ≤ l.length := by
  unfold trimPrefix
  split
  · simp
  · exact Nat.le_refl _
def tReg : Tab := [(44, itoaP.sp), (51, trimP.sp), (50, atoiP.sp)]
theorem tReg_ok : TabOk Tryd.prog tReg := (tab_cons itoa_ok (tab_cons trim_ok (tab_cons atoi_ok tab_nil)))

theorem reg_vc : ∀ (n : Int), ((-9223372036854775808 : Int) ≤ n ∧ n < (9223372036854775808 : Int)) ∧ True → ((n = n ∧ True) ∧ True) ∧ ((-9223372036854775808 : Int) ≤ n ∧ n < (9223372036854775808 : Int)) ∧ (ByteArray.mk #[(114 :
  UInt8)]).size + (bs (itoa n)).size ≤ (9223372036854775807 : Nat) ∧ ((-9223372036854775808 : Int) ≤ n ∧ n < (9223372036854775808 : Int) → ByteArray.mk #[(114 : UInt8)] ++ bs (itoa n) = bs (regL n) ∧ True ∧ True) := by
  simp only [true_and, and_true, eq_self, and_self]
  intro n hn
  refine ⟨hn, ?_, fun _ => bs_app [114] (itoa n)⟩
  have := itoa_length_le n hn.1 (by omega)
  rw [bs_size, show ({ data := #[114] } : ByteArray).size = 1 from rfl]
  omega

def reg_C (_ : Int) : Cfg := { Γ := Go.Sx.look tReg, names := true }
theorem reg_al (x : Int) : Shown (regP.vc Tryd.prog (reg_C x) Tryd.f43 x) := ⟨@Eq.mp _ _ (by kernel_rfl) (reg_vc x)⟩
theorem reg_ok : SpOk Tryd.prog 43 regP.sp := @Pat.okS _ regP Tryd.prog reg_C 43 Tryd.f43 (fun x => cfg_tab rfl tReg_ok) (by kernel_rfl) Tryd.func43 (fun _ => rfl) reg_al
def valP : Pat ByteArray where
  view | [.str s], _ => some s | _, _ => none
  args s := [.str s]
  H _ := []
  out s := .need (s.size < 4294967281 ∧ isNum s.data.toList) (.retq (.int .i64 (valL s.data.toList)))
theorem value_vc : ∀ (s : ByteArray), (s.size < (4294967281 : Nat) ∧ ∃ (v : Int), atoiAll (trimPrefix s.data.toList [(114 : UInt8)]) = NumEnd.ok v) ∧ True → ∀ (v : Int), v = (0 : Int) → ((s = s ∧ ByteArray.mk #[(114 : UInt8)] =
  ByteArray.mk #[(114 : UInt8)] ∧ True) ∧ True) ∧ ((bs (trimPrefix s.data.toList [(114 : UInt8)]) = bs (trimPrefix s.data.toList [(114 : UInt8)]) ∧ True) ∧ True) ∧ ((bs (trimPrefix s.data.toList [(114 : UInt8)])).size <
  (4294967281 : Nat) ∧ ∃ (v : Int), atoiAll (bs (trimPrefix s.data.toList [(114 : UInt8)])).data.toList = NumEnd.ok v) ∧ ∀ (v : Int), v = atoiV (bs (trimPrefix s.data.toList [(114 : UInt8)])) → ∀ (v_1 : Int), v_1 = v →
  (s.size < (4294967281 : Nat) ∧ ∃ (v : Int), atoiAll (trimPrefix s.data.toList [(114 : UInt8)]) = NumEnd.ok v) → v_1 = valL s.data.toList ∧ True ∧ True := by
  simp only [true_and, and_true, eq_self, and_self]
  rintro s ⟨hs, hn⟩ v hv
  refine ⟨⟨?_, hn⟩, fun v hv v1 hv1 _ => ?_⟩
  · have := trim_len s.data.toList [114]
    rw [bs_size]
    have e : s.data.toList.length = s.size := rfl
    omega
  · rw [hv1, hv]; rfl

def value_C (_ : ByteArray) : Cfg := { Γ := Go.Sx.look tReg, names := true }
theorem value_al (x : ByteArray) : Shown (valP.vc Tryd.prog (value_C x) Tryd.f42 x) := ⟨@Eq.mp _ _ (by kernel_rfl) (value_vc x)⟩
theorem value_ok : SpOk Tryd.prog 42 valP.sp := @Pat.okS _ valP Tryd.prog value_C 42 Tryd.f42 (fun x => cfg_tab rfl tReg_ok) (by kernel_rfl) Tryd.func42 (fun _ => rfl) value_al
end Go.Proofs.YtjofnajamlmllaaDoor
