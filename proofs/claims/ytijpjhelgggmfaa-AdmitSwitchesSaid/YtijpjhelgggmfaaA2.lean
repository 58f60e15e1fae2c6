import Derived.Test.YtijpjhelgggmfaaSxRow
import Derived.Test.YtijpjhelgggmfaaMBits
import Derived.Test.YtijpjhelgggmfaaA1
import Derived.Laws.Externs
open Go Go.Sx Go.Proofs
set_option maxRecDepth 100000
namespace Go.Proofs.Ytijpjhelgggmfaa

def add64O (a b c : Int) : Out := .need ((u64 a ∧ u64 b) ∧ 0 ≤ c ∧ c ≤ 1) (.retq (.tup (.cons (.int .u64 ((a + b + c) % 18446744073709551616)) (.cons (.int .u64 ((a + b + c) / 18446744073709551616)) .nil))))
def add64Sp : Sp := fun args _ => match args with
  | [.int .u64 a, .int .u64 b, .int .u64 c] => add64O a b c
  | _ => .fail
theorem add64_ok : SpOk Try.prog 74 add64Sp := by
  intro args H K h
  unfold add64Sp at h
  split at h
  · rename_i a b c
    obtain ⟨⟨⟨ha, hb⟩, hc, hc'⟩, h⟩ := h
    refine .inr ⟨_, h, by exact ⟨trivial, trivial, trivial⟩, fun ρ w _ hg => ?_⟩
    have hx := run_callFunc_extern (P := Try.prog) (e := add64Entry) Try.func74 (by kernel_rfl) (by kernel_rfl) (by kernel_rfl) (by kernel_rfl) #[.int .u64 a, .int .u64 b, .int .u64 c] w
    show (callFunc 74 #[.int .u64 a, .int .u64 b, .int .u64 c]).run Try.prog w = _
    rw [hx, run_add64 a b c ha.1 hb.1 hc hc' w]
    rfl
  · exact h.elim
def nanP : Pat Int where
  view | [.int .u64 x], _ => some x | _, _ => none
  args x := [.int .u64 x]
  H _ := []
  out _ := .retq .ff
theorem nan_vc : ∀ (x : Int), True → (x != x) = false ∧ True ∧ True := by
  simp only [eq_self, implies_true, and_self, bne_eq_false_iff_eq]
  try exact fun _ _ _ => rfl

def nan_C (_ : Int) : Cfg := { Γ := Go.Sx.look [], names := true }
theorem nan_al (x : Int) : Shown (nanP.vc Try.prog (nan_C x) Try.f75 x) := ⟨@Eq.mp _ _ (by kernel_rfl) (nan_vc x)⟩
theorem nan_ok : SpOk Try.prog 75 nanP.sp := @Pat.okS _ nanP Try.prog nan_C 75 Try.f75 (fun x => cfg_nil rfl) (by kernel_rfl) Try.func75 (fun _ => rfl) nan_al
def tNan : Tab := [(75, nanP.sp)]
theorem tNan_ok : TabOk Try.prog tNan := (tab_cons nan_ok tab_nil)

def cmpI (x y : Int) : Int := if x < y then -1 else if y < x then 1 else 0
def cmpPt : Pat (Int × Int) where
  view | [.int .u64 x, .int .u64 y], _ => some (x, y) | _, _ => none
  args x := [.int .u64 x.1, .int .u64 x.2]
  H _ := []
  out x := .retq (.int .i64 (cmpI x.1 x.2))
theorem cmp_vc : ∀ (x y : Int), True → ∀ (v : Int), v = (0 : Int) → ((x = x ∧ True) ∧ True) ∧ ((y = y ∧ True) ∧ True) ∧ (decide (x < y) = true → ∀ (v : Int), v = (-1 : Int) → v = cmpI x y ∧ True ∧ True) ∧ (decide (x < y) = false →
  (decide (x > y) = true → ∀ (v : Int), v = (1 : Int) → v = cmpI x y ∧ True ∧ True) ∧ (decide (x > y) = false → ∀ (v : Int), v = (0 : Int) → v = cmpI x y ∧ True ∧ True)) := by
  simp only [true_and, and_true, eq_self, decide_eq_true_eq, decide_eq_false_iff_not, true_implies, and_self, Int.not_lt, gt_iff_lt]
  intro x y
  try dsimp only
  repeat' (with_reducible first | assumption | apply And.intro | intro _)
  all_goals (try simp only [cmpI] at *)
  all_goals (first | omega | ((repeat' (first | omega | split)) <;> (try dsimp only) <;> (try (first | omega | contradiction | (subst_vars; first | rfl | omega) | (simp_all; done) | (simp_all; omega)))))

def cmp_C (_ : (Int × Int)) : Cfg := { Γ := Go.Sx.look tNan, names := true }
theorem cmp_al (x : (Int × Int)) : Shown (cmpPt.vc Try.prog (cmp_C x) Try.f68 x) := ⟨@Eq.mp _ _ (by kernel_rfl) (cmp_vc (x.1) (x.2))⟩
theorem cmp_ok : SpOk Try.prog 68 cmpPt.sp := @Pat.okS _ cmpPt Try.prog cmp_C 68 Try.f68 (fun x => cfg_tab rfl tNan_ok) (by kernel_rfl) Try.func68 (fun _ => rfl) cmp_al
def orF (f : Nat → Int) : Nat → Nat → Int
  | _, 0 => 0
  | k, m + 1 => if f k = 0 then orF f (k + 1) m else f k
def intReg (n : Nat) (f : Nat → Int) : Reg := { own := false, pl := true, fam := 1, el := 3, tot := fun _ => 0, c := fun _ => .arr n 1 (fun j => .int .i64 (f j)) }
structure IS where
  n : Nat
  cap : Nat
  f : Nat → Int
def orPt : Pat IS where
  view | [.slice r 0 [] 0 1 n c], H => some ⟨n, c, fun j => tInt (tArr (regC H r) j)⟩ | _, _ => none
  args x := [.slice 0 0 [] 0 1 x.n x.cap]
  H x := [intReg x.n x.f]
  out x := .need (x.n ≤ 1000) (.retq (.int .i64 (orF x.f 0 x.n)))
def orFam (x : IS) : Fam where
  α := Nat
  I y := y ≤ x.n ∧ orF x.f 0 x.n = orF x.f y (x.n - y)
  st y := { sl := mkSl 18 [(3, .int .i64 0), (6, .slice 0 0 [] 0 1 x.n x.cap), (7, .int .i64 x.n), (8, .int .i64 y)], H := [intReg x.n x.f] }
  μ y := x.n - y
theorem or_vc : ∀ (x : IS), x.n ≤ (1000 : Nat) ∧ True → ∀ (v : Int), v = (0 : Int) → ∀ (v : Int), v = (0 : Int) → (∃ (y : Nat), (y ≤ x.n ∧ orF x.f (0 : Nat) x.n = orF x.f y (x.n - y)) ∧ ((v = (0 : Int) ∧ (True ∧ True ∧ (0 : Nat) = (0 :
  Nat) ∧ x.n = x.n ∧ x.cap = x.cap) ∧ (↑x.n : Int) = (↑x.n : Int) ∧ (0 : Int) = (↑y : Int) ∧ True) ∧ ((0 : Nat) ≤ (0 : Nat) ∧ x.n = x.n ∧ ∀ (j : Nat), j < x.n → x.f j = x.f j) ∧ True) ∧ True) ∧ ∀ (y : Nat), y ≤ x.n ∧ orF
  x.f (0 : Nat) x.n = orF x.f y (x.n - y) → (decide ((↑y : Int) < (↑x.n : Int)) = true → ((0 : Int) ≤ (↑y : Int) ∧ (↑y : Int) < (↑x.n : Int)) ∧ (0 : Nat) + (↑y : Int).toNat < x.n ∧ ∀ (v : Int), v = x.f ((0 : Nat) + (↑y :
  Int).toNat) → ((v != (0 : Int)) = true → ∀ (v_1 : Int), v_1 = v → x.n ≤ (1000 : Nat) → v_1 = orF x.f (0 : Nat) x.n ∧ True ∧ ((0 : Nat) ≤ (0 : Nat) ∧ x.n = x.n ∧ ∀ (j : Nat), j < x.n → x.f j = x.f j) ∧ True) ∧ ((v != (0 :
  Int)) = false → ∃ (y_1 : Nat), (y_1 ≤ x.n ∧ orF x.f (0 : Nat) x.n = orF x.f y_1 (x.n - y_1)) ∧ (((0 : Int) = (0 : Int) ∧ (True ∧ True ∧ (0 : Nat) = (0 : Nat) ∧ x.n = x.n ∧ x.cap = x.cap) ∧ (↑x.n : Int) = (↑x.n : Int) ∧
  IntKind.i64.wrap ((↑y : Int) + (1 : Int)) = (↑y_1 : Int) ∧ True) ∧ ((0 : Nat) ≤ (0 : Nat) ∧ x.n = x.n ∧ ∀ (j : Nat), j < x.n → x.f j = x.f j) ∧ True) ∧ (orFam x).μ y_1 < (orFam x).μ y)) ∧ (decide ((↑y : Int) < (↑x.n :
  Int)) = false → ∀ (v : Int), v = (0 : Int) → x.n ≤ (1000 : Nat) → v = orF x.f (0 : Nat) x.n ∧ True ∧ ((0 : Nat) ≤ (0 : Nat) ∧ x.n = x.n ∧ ∀ (j : Nat), j < x.n → x.f j = x.f j) ∧ True) := by
  simp only [true_and, and_true, eq_self, Nat.le_refl, decide_eq_true_eq, decide_eq_false_iff_not, implies_true, and_self, bne_iff_ne, Int.not_lt, ne_eq, Nat.zero_add, Int.toNat_natCast, IntKind.wrap_i64, bne_eq_false_iff_eq]
  rintro x hx _ rfl _ rfl
  have hI : ∀ z : Nat, (orFam x).I z = (z ≤ x.n ∧ orF x.f 0 x.n = orF x.f z (x.n - z)) := fun _ => rfl
  have hM : ∀ z : Nat, (orFam x).μ z = x.n - z := fun _ => rfl
  simp only [hM]
  refine ⟨⟨0, by constructor <;> first | omega | trivial, by repeat' constructor⟩, fun y hy => ?_⟩
  obtain ⟨y1, y2⟩ := hy
  refine ⟨fun hlt => ?_, fun hge => ?_⟩
  · have e : x.n - y = (x.n - (y + 1)) + 1 := by omega
    have hs : orF x.f y (x.n - y) = if x.f y = 0 then orF x.f (y + 1) (x.n - (y + 1)) else x.f y := by rw [e]; rfl
    rw [hs] at y2
    try dsimp only
    repeat' (with_reducible first | assumption | apply And.intro | intro _ | refine Exists.intro (y + 1) ?_)
    all_goals (try simp only [cond_dec, decide_eq_decide] at *)
    all_goals (first | omega | ((repeat' (first | omega | split)) <;> (try dsimp only) <;> (try (first | omega | contradiction | (subst_vars; first | rfl | omega) | (simp_all; done) | (simp_all; omega)))))
  · have e : x.n - y = 0 := by omega
    rw [e] at y2
    have y3 : orF x.f 0 x.n = 0 := y2
    try dsimp only
    repeat' (with_reducible first | assumption | apply And.intro | intro _)
    all_goals (try simp only [cond_dec, decide_eq_decide] at *)
    all_goals (first | omega | ((repeat' (first | omega | split)) <;> (try dsimp only) <;> (try (first | omega | contradiction | (subst_vars; first | rfl | omega) | (simp_all; done) | (simp_all; omega)))))

def or_C (x : IS) : Cfg := { Γ := Go.Sx.look [], names := true, loops := onlyAt 3 [orFam x] }
theorem or_al (x : IS) : Shown (orPt.vc Try.prog (or_C x) Try.f67 x) := ⟨@Eq.mp _ _ (by kernel_rfl) (or_vc x)⟩
theorem or_ok : SpOk Try.prog 67 orPt.sp := @Pat.okS _ orPt Try.prog or_C 67 Try.f67 (fun x => cfg_nil rfl) (by kernel_rfl) Try.func67 (fun _ => rfl) or_al
def tCmp : Tab := [(68, cmpPt.sp), (67, orPt.sp)]
theorem tCmp_ok : TabOk Try.prog tCmp := (tab_cons cmp_ok (tab_cons or_ok tab_nil))

def wcmp (a1 a0 b1 b0 : Int) : Int := if wN a1 a0 < wN b1 b0 then -1 else if wN b1 b0 < wN a1 a0 then 1 else 0
def wcmpPt : Pat ((Int × Int) × (Int × Int)) where
  view | [.cons (.int .u64 a) (.cons (.int .u64 b) .nil), .cons (.int .u64 c) (.cons (.int .u64 d) .nil)], _ => some ((a, b), (c, d)) | _, _ => none
  args x := [wT x.1.1 x.1.2, wT x.2.1 x.2.2]
  H _ := []
  out x := .need ((u64 x.1.1 ∧ u64 x.1.2) ∧ u64 x.2.1 ∧ u64 x.2.2) (.retq (.int .i64 (wcmp x.1.1 x.1.2 x.2.1 x.2.2)))
theorem wcmp_vc : ∀ (a1 a0 b1 b0 : Int), ((((0 : Int) ≤ a1 ∧ a1 < (18446744073709551616 : Int)) ∧ (0 : Int) ≤ a0 ∧ a0 < (18446744073709551616 : Int)) ∧ ((0 : Int) ≤ b1 ∧ b1 < (18446744073709551616 : Int)) ∧ (0 : Int) ≤ b0 ∧ b0 <
  (18446744073709551616 : Int)) ∧ True → ∀ (v : Int), v = (0 : Int) → ((a1 = a1 ∧ b1 = b1 ∧ True) ∧ True) ∧ ((a0 = a0 ∧ b0 = b0 ∧ True) ∧ True) ∧ (((True ∧ True ∧ (0 : Nat) = (0 : Nat) ∧ (2 : Nat) = (2 : Nat) ∧ (2 : Nat) =
  (2 : Nat)) ∧ True) ∧ ((0 : Nat) ≤ (2 : Nat) ∧ (2 : Nat) = (2 : Nat) ∧ ∀ (j : Nat), j < (2 : Nat) → (bif j.beq (0 : Nat) then cmpI a1 b1 else cmpI a0 b0) = bif j.beq (0 : Nat) then cmpI a1 b1 else cmpI a0 b0) ∧ True) ∧ (2
  : Nat) ≤ (1000 : Nat) ∧ ∀ (v : Int), v = orF (fun (j : Nat) => bif j.beq (0 : Nat) then cmpI a1 b1 else cmpI a0 b0) (0 : Nat) (2 : Nat) → (((0 : Int) ≤ a1 ∧ a1 < (18446744073709551616 : Int)) ∧ (0 : Int) ≤ a0 ∧ a0 <
  (18446744073709551616 : Int)) ∧ ((0 : Int) ≤ b1 ∧ b1 < (18446744073709551616 : Int)) ∧ (0 : Int) ≤ b0 ∧ b0 < (18446744073709551616 : Int) → v = wcmp a1 a0 b1 b0 ∧ True ∧ True := by
  simp only [true_and, and_true, eq_self, implies_true, and_self, cond_nbeq]
  rintro a1 a0 b1 b0 ⟨⟨⟨ha1, ha1'⟩, ha0, ha0'⟩, ⟨hb1, hb1'⟩, hb0, hb0'⟩
  rintro _ rfl
  refine ⟨by decide, by decide, ?_⟩
  rintro _ rfl _
  show (if (if (0 : Nat) = 0 then cmpI a1 b1 else cmpI a0 b0) = 0 then orF (fun j => if j = 0 then cmpI a1 b1 else cmpI a0 b0) (0 + 1) 1 else _) = _
  show (if cmpI a1 b1 = 0 then (if cmpI a0 b0 = 0 then 0 else cmpI a0 b0) else cmpI a1 b1) = _
  unfold wcmp cmpI wN
  repeat' split
  all_goals omega

def wcmp_C (_ : ((Int × Int) × (Int × Int))) : Cfg := { Γ := Go.Sx.look tCmp, names := true }
theorem wcmp_al (x : ((Int × Int) × (Int × Int))) : Shown (wcmpPt.vc Try.prog (wcmp_C x) Try.f57 x) := ⟨@Eq.mp _ _ (by kernel_rfl) (wcmp_vc (x.1.1) (x.1.2) (x.2.1) (x.2.2))⟩
theorem wcmp_ok : SpOk Try.prog 57 wcmpPt.sp := @Pat.okS _ wcmpPt Try.prog wcmp_C 57 Try.f57 (fun x => cfg_tab rfl tCmp_ok) (by kernel_rfl) Try.func57 (fun _ => rfl) wcmp_al


def mulWP : Pat (Int × Int) where
  view | [.int .u64 a, .int .u64 b], _ => some (a, b) | _, _ => none
  args x := [.int .u64 x.1, .int .u64 x.2]
  H _ := []
  out x := .need (u64 x.1 ∧ u64 x.2) (.retq (wO (x.1 * x.2)))
def tMul : Tab := [(72, mulP.sp)]
theorem tMul_ok : TabOk Try.prog tMul := (tab_cons mul64_ok tab_nil)

theorem mulW_vc : ∀ (a b : Int), (((0 : Int) ≤ a ∧ a < (18446744073709551616 : Int)) ∧ (0 : Int) ≤ b ∧ b < (18446744073709551616 : Int)) ∧ True → ((a = a ∧ b = b ∧ True) ∧ True) ∧ (((0 : Int) ≤ a ∧ a < (18446744073709551616 : Int)) ∧ (0 :
  Int) ≤ b ∧ b < (18446744073709551616 : Int)) ∧ ∀ (v : Int), v = a * b / (18446744073709551616 : Int) → ∀ (v_1 : Int), v_1 = a * b % (18446744073709551616 : Int) → ((0 : Int) ≤ a ∧ a < (18446744073709551616 : Int)) ∧ (0 :
  Int) ≤ b ∧ b < (18446744073709551616 : Int) → (v = a * b / (18446744073709551616 : Int) ∧ v_1 = a * b % (18446744073709551616 : Int) ∧ True) ∧ True ∧ True := by
  simp only [true_and, and_true, eq_self, and_self]
  rintro a b ⟨ha, hb⟩
  exact ⟨⟨ha, hb⟩, by rintro _ rfl _ rfl _; exact ⟨rfl, rfl⟩⟩

def mulW_C (_ : (Int × Int)) : Cfg := { Γ := Go.Sx.look tMul, names := true }
theorem mulW_al (x : (Int × Int)) : Shown (mulWP.vc Try.prog (mulW_C x) Try.f63 x) := ⟨@Eq.mp _ _ (by kernel_rfl) (mulW_vc (x.1) (x.2))⟩
theorem mulW_ok : SpOk Try.prog 63 mulWP.sp := @Pat.okS _ mulWP Try.prog mulW_C 63 Try.f63 (fun x => cfg_tab rfl tMul_ok) (by kernel_rfl) Try.func63 (fun _ => rfl) mulW_al
