import Derived.Test.YtijpjhelgggmfaaB7
open Go Go.Sx Go.Proofs
set_option maxRecDepth 100000
namespace Go.Proofs.Ytijpjhelgggmfaa

def RightNP : Pat Bool where
  view | [.nils], _ => some true | _, _ => none
  args _ := [.nils]
  H _ := []
  out _ := .retq .tt
def hasNP : Pat Bool where
  view | [.nils, .fn 27 .nil], _ => some true | _, _ => none
  args _ := [.nils, .fn 27 .nil]
  H _ := []
  out _ := .retq .ff
def ixNP : Pat Bool where
  view | [.nils, .fn 27 .nil], _ => some true | _, _ => none
  args _ := [.nils, .fn 27 .nil]
  H _ := []
  out _ := .retq (.int .i64 (-1))
def ixNFam : Fam where
  α := Bool
  I _ := True
  st _ := { sl := mkSl 19 [(0, .nils), (1, .fn 27 .nil), (7, .int .i64 0), (8, .int .i64 0)], H := [] }
  μ _ := 0
theorem ixN_vc : ∀ (_ : Bool), True → ∀ (v : Int), v = (0 : Int) → (∃ (_ : Bool), True ∧ ((True ∧ True ∧ (0 : Int) = (0 : Int) ∧ (0 : Int) = (0 : Int) ∧ True) ∧ True) ∧ True) ∧ ∀ (_ : Bool), True → (decide ((0 : Int) < (0 : Int)) = true
  → ∀ (v : Int), v = (0 : Int) → False) ∧ (decide ((0 : Int) < (0 : Int)) = false → ∀ (v : Int), v = (-1 : Int) → v = (-1 : Int) ∧ True ∧ True) := by
  simp only [and_true, eq_self, decide_eq_true_eq, decide_eq_false_iff_not, true_implies, and_self, Int.not_lt]
  try dsimp only
  repeat' (with_reducible first | assumption | apply And.intro | intro _ | refine Exists.intro (true) ?_)
  all_goals (try simp only [] at *)
  all_goals (first | omega | ((repeat' (first | omega | split)) <;> (try dsimp only) <;> (try (first | omega | contradiction | (subst_vars; first | rfl | omega) | (simp_all; done) | (simp_all; omega)))))

def ixN_C (_ : Bool) : Cfg := { Γ := Go.Sx.look [], names := true, loops := onlyAt 2 [ixNFam] }
theorem ixN_al (x : Bool) : Shown (ixNP.vc Try.prog (ixN_C x) Try.f54 x) := ⟨@Eq.mp _ _ (by kernel_rfl) (ixN_vc x)⟩
theorem ixN_ok : SpOk Try.prog 54 ixNP.sp := @Pat.okS _ ixNP Try.prog ixN_C 54 Try.f54 (fun x => cfg_nil rfl) (by kernel_rfl) Try.func54 (fun _ => rfl) ixN_al
def tIxN : Tab := [(54, ixNP.sp)]
theorem tIxN_ok : TabOk Try.prog tIxN := (tab_cons ixN_ok tab_nil)

theorem hasN_vc : ∀ (_ : Bool), True → ((True ∧ True ∧ True) ∧ True) ∧ decide ((-1 : Int) ≥ (0 : Int)) = false ∧ True ∧ True := by
  simp only [true_and, and_true, decide_eq_false_iff_not, true_implies, and_self, Int.not_le, ge_iff_le]
  try dsimp only
  repeat' (with_reducible first | assumption | apply And.intro | intro _)
  all_goals (try simp only [cond_dec, decide_eq_decide] at *)
  all_goals (first | omega | ((repeat' (first | omega | split)) <;> (try dsimp only) <;> (try (first | omega | contradiction | (subst_vars; first | rfl | omega) | (simp_all; done) | (simp_all; omega)))))

def hasN_C (_ : Bool) : Cfg := { Γ := Go.Sx.look tIxN, names := true }
theorem hasN_al (x : Bool) : Shown (hasNP.vc Try.prog (hasN_C x) Try.f29 x) := ⟨@Eq.mp _ _ (by kernel_rfl) (hasN_vc x)⟩
theorem hasN_ok : SpOk Try.prog 29 hasNP.sp := @Pat.okS _ hasNP Try.prog hasN_C 29 Try.f29 (fun x => cfg_tab rfl tIxN_ok) (by kernel_rfl) Try.func29 (fun _ => rfl) hasN_al
def tHasN : Tab := [(29, hasNP.sp)]
theorem tHasN_ok : TabOk Try.prog tHasN := (tab_cons hasN_ok tab_nil)

theorem RightN_vc : ∀ (_ : Bool), True → (decide ((0 : Int) ≤ (8 : Int)) = true → ((True ∧ True ∧ True) ∧ True) ∧ True ∧ True ∧ True) ∧ (decide ((0 : Int) ≤ (8 : Int)) = false → False ∧ True ∧ True) := by
  simp only [true_and, and_true, decide_eq_true_eq, decide_eq_false_iff_not, implies_true, true_implies, and_self, Int.not_le]
  try dsimp only
  repeat' (with_reducible first | assumption | apply And.intro | intro _)
  all_goals (try simp only [cond_dec, decide_eq_decide] at *)
  all_goals (first | omega | ((repeat' (first | omega | split)) <;> (try dsimp only) <;> (try (first | omega | contradiction | (subst_vars; first | rfl | omega) | (simp_all; done) | (simp_all; omega)))))

def RightN_C (_ : Bool) : Cfg := { Γ := Go.Sx.look tHasN, names := true }
theorem RightN_al (x : Bool) : Shown (RightNP.vc Try.prog (RightN_C x) Try.f12 x) := ⟨@Eq.mp _ _ (by kernel_rfl) (RightN_vc x)⟩
theorem RightN_ok : SpOk Try.prog 12 RightNP.sp := @Pat.okS _ RightNP Try.prog RightN_C 12 Try.f12 (fun x => cfg_tab rfl tHasN_ok) (by kernel_rfl) Try.func12 (fun _ => rfl) RightN_al
theorem RightA_ok : SpOk Try.prog 12 (altSp 0 (RightNP.sp) (RightP.sp)) := altSp_ok RightN_ok Right_ok

instance (x : LS) : Decidable x.Ok := by unfold LS.Ok; infer_instance
def aliveP : Pat Unit where
  view | [], _ => some () | _, _ => none
  args _ := []
  H _ := []
  out _ := .retq .tt
def aliveM : Nat → Nat
  | 7 => 1
  | _ => 0
def aliveLk : Nat → List Nat
  | 7 => [0]
  | _ => []
def tAlive : Tab := [(12, altSp 0 (RightNP.sp) (RightP.sp)), (18, borneP.sp), (16, horP.sp), (20, spareP.sp), (14, DemP.sp)]
theorem tAlive_ok : TabOk Try.prog tAlive := (tab_cons RightA_ok (tab_cons borne_ok (tab_cons hor_ok (tab_cons spare_ok (tab_cons Dem_ok tab_nil)))))

theorem alive_vc : ∀ (_ : Unit), True → (((false = false ∧ True ∧ True ∧ (0 : Nat) = (0 : Nat) ∧ (2 : Nat) = (2 : Nat) ∧ (2 : Nat) = (2 : Nat)) ∧ True) ∧ ((0 : Nat) ≤ (6 : Nat) ∧ (2 : Nat) = (2 : Nat) ∧ ∀ (j : Nat), j < (2 : Nat) → ((bif
  j.beq (0 : Nat) then (1 : Int) else (1 : Int)) = bif j.beq (0 : Nat) then (1 : Int) else (1 : Int)) ∧ ((bif j.beq (0 : Nat) then (1 : Int) else (1 : Int)) = bif j.beq (0 : Nat) then (1 : Int) else (1 : Int)) ∧ ((bif
  j.beq (0 : Nat) then (2 : Int) else (2 : Int)) = bif j.beq (0 : Nat) then (2 : Int) else (2 : Int)) ∧ True) ∧ True) ∧ (LS.mk false (0 : Nat) (2 : Nat) (2 : Nat) (2 : Nat) (fun (j : Nat) => bif j.beq (0 : Nat) then (1 :
  Int) else (1 : Int)) (fun (j : Nat) => bif j.beq (0 : Nat) then (1 : Int) else (1 : Int)) fun (j : Nat) => bif j.beq (0 : Nat) then (2 : Int) else (2 : Int)).Ok ∧ ∀ (v : Int), v = (LS.mk false (0 : Nat) (2 : Nat) (2 :
  Nat) (2 : Nat) (fun (j : Nat) => bif j.beq (0 : Nat) then (1 : Int) else (1 : Int)) (fun (j : Nat) => bif j.beq (0 : Nat) then (1 : Int) else (1 : Int)) fun (j : Nat) => bif j.beq (0 : Nat) then (2 : Int) else (2 :
  Int)).l.borne.snd → (((false = false ∧ True ∧ True ∧ (0 : Nat) = (0 : Nat) ∧ (3 : Nat) = (3 : Nat) ∧ (3 : Nat) = (3 : Nat)) ∧ True) ∧ ((0 : Nat) ≤ (9 : Nat) ∧ (3 : Nat) = (3 : Nat) ∧ ∀ (j : Nat), j < (3 : Nat) → ((bif
  j.beq (0 : Nat) then (1 : Int) else bif j.beq (1 : Nat) then (1 : Int) else (1 : Int)) = bif j.beq (0 : Nat) then (1 : Int) else bif j.beq (1 : Nat) then (1 : Int) else (1 : Int)) ∧ ((bif j.beq (0 : Nat) then (1 : Int)
  else bif j.beq (1 : Nat) then (1 : Int) else (1 : Int)) = bif j.beq (0 : Nat) then (1 : Int) else bif j.beq (1 : Nat) then (1 : Int) else (1 : Int)) ∧ ((bif j.beq (0 : Nat) then (2 : Int) else bif j.beq (1 : Nat) then (2
  : Int) else (100 : Int)) = bif j.beq (0 : Nat) then (2 : Int) else bif j.beq (1 : Nat) then (2 : Int) else (100 : Int)) ∧ True) ∧ True) ∧ (LS.mk false (0 : Nat) (3 : Nat) (3 : Nat) (3 : Nat) (fun (j : Nat) => bif j.beq
  (0 : Nat) then (1 : Int) else bif j.beq (1 : Nat) then (1 : Int) else (1 : Int)) (fun (j : Nat) => bif j.beq (0 : Nat) then (1 : Int) else bif j.beq (1 : Nat) then (1 : Int) else (1 : Int)) fun (j : Nat) => bif j.beq (0
  : Nat) then (2 : Int) else bif j.beq (1 : Nat) then (2 : Int) else (100 : Int)).Ok ∧ ∀ (v_1 : Int), v_1 = (LS.mk false (0 : Nat) (3 : Nat) (3 : Nat) (3 : Nat) (fun (j : Nat) => bif j.beq (0 : Nat) then (1 : Int) else bif
  j.beq (1 : Nat) then (1 : Int) else (1 : Int)) (fun (j : Nat) => bif j.beq (0 : Nat) then (1 : Int) else bif j.beq (1 : Nat) then (1 : Int) else (1 : Int)) fun (j : Nat) => bif j.beq (0 : Nat) then (2 : Int) else bif
  j.beq (1 : Nat) then (2 : Int) else (100 : Int)).l.borne.snd → (((false = false ∧ True ∧ True ∧ (0 : Nat) = (0 : Nat) ∧ (2 : Nat) = (2 : Nat) ∧ (2 : Nat) = (2 : Nat)) ∧ True) ∧ ((0 : Nat) ≤ (6 : Nat) ∧ (2 : Nat) = (2 :
  Nat) ∧ ∀ (j : Nat), j < (2 : Nat) → ((bif j.beq (0 : Nat) then (2 : Int) else (1 : Int)) = bif j.beq (0 : Nat) then (2 : Int) else (1 : Int)) ∧ ((bif j.beq (0 : Nat) then (2 : Int) else (5 : Int)) = bif j.beq (0 : Nat)
  then (2 : Int) else (5 : Int)) ∧ ((bif j.beq (0 : Nat) then (10 : Int) else (10 : Int)) = bif j.beq (0 : Nat) then (10 : Int) else (10 : Int)) ∧ True) ∧ True) ∧ (LS.mk false (0 : Nat) (2 : Nat) (2 : Nat) (2 : Nat) (fun
  (j : Nat) => bif j.beq (0 : Nat) then (2 : Int) else (1 : Int)) (fun (j : Nat) => bif j.beq (0 : Nat) then (2 : Int) else (5 : Int)) fun (j : Nat) => bif j.beq (0 : Nat) then (10 : Int) else (10 : Int)).Ok ∧ ∀ (v_2 :
  Int), v_2 = (LS.mk false (0 : Nat) (2 : Nat) (2 : Nat) (2 : Nat) (fun (j : Nat) => bif j.beq (0 : Nat) then (2 : Int) else (1 : Int)) (fun (j : Nat) => bif j.beq (0 : Nat) then (2 : Int) else (5 : Int)) fun (j : Nat) =>
  bif j.beq (0 : Nat) then (10 : Int) else (10 : Int)).l.hor.fst → ∀ (v_3 : Int), v_3 = (LS.mk false (0 : Nat) (2 : Nat) (2 : Nat) (2 : Nat) (fun (j : Nat) => bif j.beq (0 : Nat) then (2 : Int) else (1 : Int)) (fun (j :
  Nat) => bif j.beq (0 : Nat) then (2 : Int) else (5 : Int)) fun (j : Nat) => bif j.beq (0 : Nat) then (10 : Int) else (10 : Int)).l.hor.snd → (((false = false ∧ True ∧ True ∧ (0 : Nat) = (0 : Nat) ∧ (1 : Nat) = (1 : Nat)
  ∧ (1 : Nat) = (1 : Nat)) ∧ (10 : Int) = (10 : Int) ∧ True) ∧ ((0 : Nat) ≤ (3 : Nat) ∧ (1 : Nat) = (1 : Nat) ∧ ∀ (j : Nat), j < (1 : Nat) → (1 : Int) = (1 : Int) ∧ (1 : Int) = (1 : Int) ∧ (2 : Int) = (2 : Int) ∧ True) ∧
  True) ∧ ((LS.mk false (0 : Nat) (1 : Nat) (1 : Nat) (1 : Nat) (fun (_ : Nat) => (1 : Int)) (fun (_ : Nat) => (1 : Int)) fun (_ : Nat) => (2 : Int)).Ok ∧ (0 : Int) ≤ (10 : Int) ∧ (10 : Int) < (18446744073709551616 : Int))
  ∧ ∀ (v_4 : Int), v_4 = (spareO (LS.mk false (0 : Nat) (1 : Nat) (1 : Nat) (1 : Nat) (fun (_ : Nat) => (1 : Int)) (fun (_ : Nat) => (1 : Int)) fun (_ : Nat) => (2 : Int)).l (10 : Int)).fst → ∀ (v_5 : Int), v_5 = (spareO
  (LS.mk false (0 : Nat) (1 : Nat) (1 : Nat) (1 : Nat) (fun (_ : Nat) => (1 : Int)) (fun (_ : Nat) => (1 : Int)) fun (_ : Nat) => (2 : Int)).l (10 : Int)).snd → (((false = false ∧ True ∧ True ∧ (0 : Nat) = (0 : Nat) ∧ (1 :
  Nat) = (1 : Nat) ∧ (1 : Nat) = (1 : Nat)) ∧ True) ∧ ((0 : Nat) ≤ (3 : Nat) ∧ (1 : Nat) = (1 : Nat) ∧ ∀ (j : Nat), j < (1 : Nat) → (3 : Int) = (3 : Int) ∧ (1 : Int) = (1 : Int) ∧ (2 : Int) = (2 : Int) ∧ True) ∧ True) ∧
  (LS.mk false (0 : Nat) (1 : Nat) (1 : Nat) (1 : Nat) (fun (_ : Nat) => (3 : Int)) (fun (_ : Nat) => (1 : Int)) fun (_ : Nat) => (2 : Int)).Ok ∧ ∀ (v_6 : Int), v_6 = (LS.mk false (0 : Nat) (1 : Nat) (1 : Nat) (1 : Nat)
  (fun (_ : Nat) => (3 : Int)) (fun (_ : Nat) => (1 : Int)) fun (_ : Nat) => (2 : Int)).l.borne.snd → ((LS.mk false (0 : Nat) (2 : Nat) (2 : Nat) (2 : Nat) (fun (j : Nat) => bif j.beq (0 : Nat) then (1 : Int) else (1 :
  Int)) (fun (j : Nat) => bif j.beq (0 : Nat) then (1 : Int) else (1 : Int)) fun (j : Nat) => bif j.beq (0 : Nat) then (2 : Int) else (2 : Int)).l.borne.fst = true → ((!(LS.mk false (0 : Nat) (3 : Nat) (3 : Nat) (3 : Nat)
  (fun (j : Nat) => bif j.beq (0 : Nat) then (1 : Int) else bif j.beq (1 : Nat) then (1 : Int) else (1 : Int)) (fun (j : Nat) => bif j.beq (0 : Nat) then (1 : Int) else bif j.beq (1 : Nat) then (1 : Int) else (1 : Int))
  fun (j : Nat) => bif j.beq (0 : Nat) then (2 : Int) else bif j.beq (1 : Nat) then (2 : Int) else (100 : Int)).l.borne.fst) = true → ((v == (0 : Int)) = true → ((v_1 == (0 : Int)) = true → ((v_3 == (0 : Int)) = true →
  ((v_2 == (6 : Int)) = true → ((v_4 == (5 : Int)) = true → ((v_5 == (0 : Int)) = true → ((v_6 == (11 : Int)) = true → (((false = false ∧ True ∧ True ∧ (0 : Nat) = (0 : Nat) ∧ (1 : Nat) = (1 : Nat) ∧ (1 : Nat) = (1 : Nat))
  ∧ (7 : Int) = (7 : Int) ∧ True) ∧ ((0 : Nat) ≤ (3 : Nat) ∧ (1 : Nat) = (1 : Nat) ∧ ∀ (j : Nat), j < (1 : Nat) → (1 : Int) = (1 : Int) ∧ (1 : Int) = (1 : Int) ∧ (2 : Int) = (2 : Int) ∧ True) ∧ True) ∧ ((LS.mk false (0 :
  Nat) (1 : Nat) (1 : Nat) (1 : Nat) (fun (_ : Nat) => (1 : Int)) (fun (_ : Nat) => (1 : Int)) fun (_ : Nat) => (2 : Int)).Ok ∧ (0 : Int) ≤ (7 : Int) ∧ (7 : Int) < (18446744073709551616 : Int)) ∧ (((if (LS.mk false (0 :
  Nat) (1 : Nat) (1 : Nat) (1 : Nat) (fun (_ : Nat) => (1 : Int)) (fun (_ : Nat) => (1 : Int)) fun (_ : Nat) => (2 : Int)).l.right then (LS.mk false (0 : Nat) (1 : Nat) (1 : Nat) (1 : Nat) (fun (_ : Nat) => (1 : Int)) (fun
  (_ : Nat) => (1 : Int)) fun (_ : Nat) => (2 : Int)).l.dem (min (7 : Int) (1099511627776 : Int)) (1 : Nat) else (0 : Int)) == (3 : Int)) = true → ((True ∧ True) ∧ True) ∧ True ∧ True ∧ True) ∧ (((if (LS.mk false (0 : Nat)
  (1 : Nat) (1 : Nat) (1 : Nat) (fun (_ : Nat) => (1 : Int)) (fun (_ : Nat) => (1 : Int)) fun (_ : Nat) => (2 : Int)).l.right then (LS.mk false (0 : Nat) (1 : Nat) (1 : Nat) (1 : Nat) (fun (_ : Nat) => (1 : Int)) (fun (_ :
  Nat) => (1 : Int)) fun (_ : Nat) => (2 : Int)).l.dem (min (7 : Int) (1099511627776 : Int)) (1 : Nat) else (0 : Int)) == (3 : Int)) = false → False ∧ True ∧ True)) ∧ ((v_6 == (11 : Int)) = false → False ∧ True ∧ True)) ∧
  ((v_5 == (0 : Int)) = false → False ∧ True ∧ True)) ∧ ((v_4 == (5 : Int)) = false → False ∧ True ∧ True)) ∧ ((v_2 == (6 : Int)) = false → False ∧ True ∧ True)) ∧ ((v_3 == (0 : Int)) = false → False ∧ True ∧ True)) ∧
  ((v_1 == (0 : Int)) = false → False ∧ True ∧ True)) ∧ ((v == (0 : Int)) = false → False ∧ True ∧ True)) ∧ ((!(LS.mk false (0 : Nat) (3 : Nat) (3 : Nat) (3 : Nat) (fun (j : Nat) => bif j.beq (0 : Nat) then (1 : Int) else
  bif j.beq (1 : Nat) then (1 : Int) else (1 : Int)) (fun (j : Nat) => bif j.beq (0 : Nat) then (1 : Int) else bif j.beq (1 : Nat) then (1 : Int) else (1 : Int)) fun (j : Nat) => bif j.beq (0 : Nat) then (2 : Int) else bif
  j.beq (1 : Nat) then (2 : Int) else (100 : Int)).l.borne.fst) = false → False ∧ True ∧ True)) ∧ ((LS.mk false (0 : Nat) (2 : Nat) (2 : Nat) (2 : Nat) (fun (j : Nat) => bif j.beq (0 : Nat) then (1 : Int) else (1 : Int))
  (fun (j : Nat) => bif j.beq (0 : Nat) then (1 : Int) else (1 : Int)) fun (j : Nat) => bif j.beq (0 : Nat) then (2 : Int) else (2 : Int)).l.borne.fst = false → False ∧ True ∧ True) := by
  simp only [true_and, and_true, eq_self, beq_iff_eq, beq_eq_false_iff_ne, implies_true, true_implies, and_self, ne_eq, cond_nbeq, Bool.not_eq_true', Bool.not_eq_false', forall_eq]
  intro _
  repeat' (with_reducible first | apply And.intro | intro _)
  all_goals (first
    | decide +kernel
    | (rename_i h; exact absurd (by decide +kernel) h)
    | (rename_i h; exact absurd h (by decide +kernel))
    | (rename_i h _; exact absurd (by decide +kernel) h)
    | skip)

def alive_C (_ : Unit) : Cfg := { Γ := Go.Sx.look tAlive, names := true, mode := aliveM, locks := aliveLk }
theorem alive_al (x : Unit) : Shown (aliveP.vc Try.prog (alive_C x) Try.f10 x) := ⟨@Eq.mp _ _ (by kernel_rfl) (alive_vc x)⟩
theorem alive_ok : SpOk Try.prog 10 aliveP.sp := @Pat.okS _ aliveP Try.prog alive_C 10 Try.f10 (fun x => cfg_tab rfl tAlive_ok) (by kernel_rfl) Try.func10 (fun _ => rfl) alive_al
end Go.Proofs.Ytijpjhelgggmfaa
