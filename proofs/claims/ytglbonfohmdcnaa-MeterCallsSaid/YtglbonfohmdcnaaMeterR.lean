import Derived.Test.YtglbonfohmdcnaaMeterC
open Go Go.Sx Go.Proofs
set_option maxRecDepth 100000
namespace Go.Proofs.Ytglbonfohmdcnaa

theorem add_ok : SpOk Try.prog 30 addP.sp := Pat.ok (C := addC) (fun _ => cfg_tab rfl (tab_cons bit_ok (tab_cons with_ok tab_nil))) (by kernel_rfl) Try.func30 (fun _ => rfl) fun ⟨⟨a, b⟩, c, d⟩ => add_all a b c d
theorem rmul_ok : SpOk Try.prog 26 rmulP.sp := Pat.ok (C := rmulC) (fun _ => cfg_tab rfl (tab_cons dbl_ok (tab_cons add_ok tab_nil))) (by kernel_rfl) Try.func26 (fun _ => rfl) fun ⟨a, b⟩ => rmul_all a b
/-- The document's meter. -/
structure RS where
  cores : Int
  n : Nat
  cap : Nat
  core : Nat → Int
  kind : Nat → Int
  cyc : Nat → Int
  st : Bool
def chgT (c k y : Int) : T := .cons (.int .i64 c) (.cons (.int .i64 k) (.cons (.int .u64 y) .nil))
def RS.row (r : RS) : Reg := rowReg 62 r.n 3 r.cap (fun j => chgT (r.core j) (r.kind j) (r.cyc j))
def RS.me (r : RS) (k : Nat) : Reg := newReg 32 (.cons (.int .i64 r.cores) (.cons (.slice k 0 [] 0 3 r.n r.cap) (.cons (.bool r.st) .nil)))
def RS.sumF (r : RS) (c k : Int) : Nat → Int
  | 0 => 0
  | i + 1 => r.sumF c k i + if r.core i = c ∧ (k < 0 ∨ r.kind i = k) then r.cyc i else 0
def RS.sum (r : RS) (c k : Int) : Int := r.sumF c k r.n
structure RS.Ok (r : RS) : Prop where
  n : r.n ≤ 1000
  cap : r.n ≤ r.cap
  pos : ∀ i, i < r.n → 0 ≤ r.cyc i
  le : ∀ c, r.sum c (-1) ≤ 4611686018427387904
theorem RS.sumF_mono (r : RS) (h : ∀ i, i < r.n → 0 ≤ r.cyc i) (c k : Int) : ∀ m, m ≤ r.n → 0 ≤ r.sumF c k m ∧ r.sumF c k m ≤ r.sumF c (-1) m
  | 0, _ => ⟨Int.le_refl _, Int.le_refl _⟩
  | m + 1, hm => by
    have ih := RS.sumF_mono r h c k m (by omega)
    have := h m (by omega)
    simp only [RS.sumF]
    split <;> split <;> omega
theorem RS.sumF_le (r : RS) (h : ∀ i, i < r.n → 0 ≤ r.cyc i) (c k : Int) {m n : Nat} (hm : m ≤ n) (hn : n ≤ r.n) : r.sumF c k m ≤ r.sumF c k n := by
  induction n with
  | zero => have : m = 0 := by omega
            subst this; exact Int.le_refl _
  | succ n ih =>
    by_cases e : m = n + 1
    · subst e; exact Int.le_refl _
    · have := ih (by omega) (by omega)
      have h2 := h n (by omega)
      simp only [RS.sumF]
      split <;> omega
theorem RS.Ok.bd {r : RS} (h : r.Ok) (c k : Int) {m : Nat} (hm : m ≤ r.n) : 0 ≤ r.sumF c k m ∧ r.sumF c k m ≤ 4611686018427387904 := by
  have h1 := r.sumF_mono h.pos c k m hm
  have h2 := r.sumF_le h.pos c (-1) hm (Nat.le_refl _)
  have h3 := h.le c
  unfold RS.sum at h3
  omega
def viewR (r : Nat) (H : List Reg) : RS :=
  let t := regC H r
  let a := regC H (tRef (tAt t 1))
  ⟨tInt (tAt t 0), tLen (tAt t 1), tCap (tAt t 1), fun j => tInt (tAt (tArr a j) 0), fun j => tInt (tAt (tArr a j) 1), fun j => tInt (tAt (tArr a j) 2), tBool (tAt t 2)⟩
def nilRow (args : List T) (H : List Reg) : Bool := isNilT (tAt (regC H (tRef (getSl args 0))) 1)
def rsumP : Pat (RS × Int × Int) where
  view | [.ptr r 0 [], .int .i64 c, .int .i64 k], H => some (viewR r H, c, k) | _, _ => none
  args x := [p0 0, .int .i64 x.2.1, .int .i64 x.2.2]
  H x := [x.1.me 1, x.1.row]
  out x := .need x.1.Ok (.retq (.int .u64 (x.1.sum x.2.1 x.2.2)))
/-- The document's meter ahead of its first charge. -/
structure R0 where
  cores : Int
  st : Bool
def R0.me0 (r : R0) : Reg := newReg 32 (.cons (.int .i64 r.cores) (.cons .nils (.cons (.bool r.st) .nil)))
def R0.rs (r : R0) : RS := ⟨r.cores, 0, 0, fun _ => 0, fun _ => 0, fun _ => 0, r.st⟩
def viewR0 (r : Nat) (H : List Reg) : R0 :=
  let t := regC H r
  ⟨tInt (tAt t 0), tBool (tAt t 2)⟩
def rsumNP : Pat (R0 × Int × Int) where
  view | [.ptr r 0 [], .int .i64 c, .int .i64 k], H => some (viewR0 r H, c, k) | _, _ => none
  args x := [p0 0, .int .i64 x.2.1, .int .i64 x.2.2]
  H x := [x.1.me0]
  out _ := .retq (.int .u64 0)
def rsumF (r : RS) (c k : Int) : Fam where
  α := Nat
  I y := y ≤ r.n
  st y := { sl := mkSl 55 [(0, p0 0), (1, .int .i64 c), (2, .int .i64 k), (7, .int .u64 (r.sumF c k y)), (8, .int .i64 y)], H := [r.me 1, r.row] }
  μ y := r.n - y
def rsumNF (r : R0) (_ _ : Int) : Fam where
  α := Bool
  I _ := True
  st _ := { sl := mkSl 55 [(0, p0 0), (7, .int .u64 0), (8, .int .i64 0)], H := [r.me0] }
  μ _ := 0
theorem rsum_vc : ∀ (r : RS) (c k : Int), r.Ok ∧ True → ∀ (v : Int), v = (0 : Int) → ∀ (v : Int), v = (0 : Int) → ∀ (v_1 : Int), v_1 = (0 : Int) → (∃ (y : Nat), (rsumF r c k).I y ∧ (((True ∧ True) ∧ c = c ∧ k = k ∧ v = r.sumF c k y ∧ v_1
  = (↑y : Int) ∧ True) ∧ ((3 : Nat) ≤ (3 : Nat) ∧ r.cores = r.cores ∧ (True ∧ True ∧ (0 : Nat) = (0 : Nat) ∧ r.n = r.n ∧ r.cap = r.cap) ∧ r.st = r.st ∧ True) ∧ (r.cap * (3 : Nat) ≤ r.cap * (3 : Nat) ∧ r.n = r.n ∧ ∀ (j :
  Nat), j < r.n → r.core j = r.core j ∧ r.kind j = r.kind j ∧ r.cyc j = r.cyc j ∧ True) ∧ True) ∧ True) ∧ ∀ (y : Nat), (rsumF r c k).I y → (decide ((↑y : Int) < (↑r.n : Int)) = true → ((0 : Int) ≤ (↑y : Int) ∧ (↑y : Int) <
  (↑r.n : Int)) ∧ (0 : Nat) + (↑y : Int).toNat < r.n ∧ ((r.core ((0 : Nat) + (↑y : Int).toNat) == c) = true → (decide (k < (0 : Int)) = true → ((0 : Int) ≤ (↑y : Int) ∧ (↑y : Int) < (↑r.n : Int)) ∧ (0 : Nat) + (↑y :
  Int).toNat < r.n ∧ ∀ (v : Int), v = IntKind.u64.wrap (r.sumF c k y + r.cyc ((0 : Nat) + (↑y : Int).toNat)) → ∀ (v_2 : Int), v_2 = IntKind.i64.wrap ((↑y : Int) + (1 : Int)) → ∃ (y_1 : Nat), (rsumF r c k).I y_1 ∧ (((True ∧
  True) ∧ c = c ∧ k = k ∧ v = r.sumF c k y_1 ∧ v_2 = (↑y_1 : Int) ∧ True) ∧ ((3 : Nat) ≤ (3 : Nat) ∧ r.cores = r.cores ∧ (True ∧ True ∧ (0 : Nat) = (0 : Nat) ∧ r.n = r.n ∧ r.cap = r.cap) ∧ r.st = r.st ∧ True) ∧ (r.cap * (3
  : Nat) ≤ r.cap * (3 : Nat) ∧ r.n = r.n ∧ ∀ (j : Nat), j < r.n → r.core j = r.core j ∧ r.kind j = r.kind j ∧ r.cyc j = r.cyc j ∧ True) ∧ True) ∧ (rsumF r c k).μ y_1 < (rsumF r c k).μ y) ∧ (decide (k < (0 : Int)) = false →
  ((0 : Int) ≤ (↑y : Int) ∧ (↑y : Int) < (↑r.n : Int)) ∧ (0 : Nat) + (↑y : Int).toNat < r.n ∧ ((r.kind ((0 : Nat) + (↑y : Int).toNat) == k) = true → ((0 : Int) ≤ (↑y : Int) ∧ (↑y : Int) < (↑r.n : Int)) ∧ (0 : Nat) + (↑y :
  Int).toNat < r.n ∧ ∀ (v : Int), v = IntKind.u64.wrap (r.sumF c k y + r.cyc ((0 : Nat) + (↑y : Int).toNat)) → ∀ (v_2 : Int), v_2 = IntKind.i64.wrap ((↑y : Int) + (1 : Int)) → ∃ (y_1 : Nat), (rsumF r c k).I y_1 ∧ (((True ∧
  True) ∧ c = c ∧ k = k ∧ v = r.sumF c k y_1 ∧ v_2 = (↑y_1 : Int) ∧ True) ∧ ((3 : Nat) ≤ (3 : Nat) ∧ r.cores = r.cores ∧ (True ∧ True ∧ (0 : Nat) = (0 : Nat) ∧ r.n = r.n ∧ r.cap = r.cap) ∧ r.st = r.st ∧ True) ∧ (r.cap * (3
  : Nat) ≤ r.cap * (3 : Nat) ∧ r.n = r.n ∧ ∀ (j : Nat), j < r.n → r.core j = r.core j ∧ r.kind j = r.kind j ∧ r.cyc j = r.cyc j ∧ True) ∧ True) ∧ (rsumF r c k).μ y_1 < (rsumF r c k).μ y) ∧ ((r.kind ((0 : Nat) + (↑y :
  Int).toNat) == k) = false → ∀ (v : Int), v = IntKind.i64.wrap ((↑y : Int) + (1 : Int)) → ∃ (y_1 : Nat), (rsumF r c k).I y_1 ∧ (((True ∧ True) ∧ c = c ∧ k = k ∧ r.sumF c k y = r.sumF c k y_1 ∧ v = (↑y_1 : Int) ∧ True) ∧
  ((3 : Nat) ≤ (3 : Nat) ∧ r.cores = r.cores ∧ (True ∧ True ∧ (0 : Nat) = (0 : Nat) ∧ r.n = r.n ∧ r.cap = r.cap) ∧ r.st = r.st ∧ True) ∧ (r.cap * (3 : Nat) ≤ r.cap * (3 : Nat) ∧ r.n = r.n ∧ ∀ (j : Nat), j < r.n → r.core j
  = r.core j ∧ r.kind j = r.kind j ∧ r.cyc j = r.cyc j ∧ True) ∧ True) ∧ (rsumF r c k).μ y_1 < (rsumF r c k).μ y))) ∧ ((r.core ((0 : Nat) + (↑y : Int).toNat) == c) = false → ∀ (v : Int), v = IntKind.i64.wrap ((↑y : Int) +
  (1 : Int)) → ∃ (y_1 : Nat), (rsumF r c k).I y_1 ∧ (((True ∧ True) ∧ c = c ∧ k = k ∧ r.sumF c k y = r.sumF c k y_1 ∧ v = (↑y_1 : Int) ∧ True) ∧ ((3 : Nat) ≤ (3 : Nat) ∧ r.cores = r.cores ∧ (True ∧ True ∧ (0 : Nat) = (0 :
  Nat) ∧ r.n = r.n ∧ r.cap = r.cap) ∧ r.st = r.st ∧ True) ∧ (r.cap * (3 : Nat) ≤ r.cap * (3 : Nat) ∧ r.n = r.n ∧ ∀ (j : Nat), j < r.n → r.core j = r.core j ∧ r.kind j = r.kind j ∧ r.cyc j = r.cyc j ∧ True) ∧ True) ∧ (rsumF
  r c k).μ y_1 < (rsumF r c k).μ y)) ∧ (decide ((↑y : Int) < (↑r.n : Int)) = false → ∀ (v : Int), v = r.sumF c k y → r.Ok → v = r.sum c k ∧ True ∧ ((3 : Nat) ≤ (3 : Nat) ∧ r.cores = r.cores ∧ (True ∧ True ∧ (0 : Nat) = (0
  : Nat) ∧ r.n = r.n ∧ r.cap = r.cap) ∧ r.st = r.st ∧ True) ∧ (r.cap * (3 : Nat) ≤ r.cap * (3 : Nat) ∧ r.n = r.n ∧ ∀ (j : Nat), j < r.n → r.core j = r.core j ∧ r.kind j = r.kind j ∧ r.cyc j = r.cyc j ∧ True) ∧ True) := by
  simp only [true_and, and_true, eq_self, Nat.le_refl, decide_eq_true_eq, decide_eq_false_iff_not, beq_iff_eq, beq_eq_false_iff_ne, implies_true, and_self, Int.not_lt, ne_eq, Nat.zero_add, Int.toNat_natCast, IntKind.wrap_u64, IntKind.wrap_i64]
  rintro r c k hr _ rfl _ rfl _ rfl
  have hI : ∀ z : Nat, (rsumF r c k).I z = (z ≤ r.n) := fun _ => rfl
  have hM : ∀ z : Nat, (rsumF r c k).μ z = r.n - z := fun _ => rfl
  simp only [hI, hM]
  have hn := hr.n
  refine ⟨⟨0, Nat.zero_le _, rfl, rfl⟩, fun y hy => ?_⟩
  have hs : r.sumF c k (y + 1) = r.sumF c k y + if r.core y = c ∧ (k < 0 ∨ r.kind y = k) then r.cyc y else 0 := rfl
  have b1 := hr.bd c k hy
  have b2 : y < r.n → 0 ≤ r.sumF c k (y + 1) ∧ r.sumF c k (y + 1) ≤ 4611686018427387904 := fun h => hr.bd c k (by omega)
  have b3 : y < r.n → 0 ≤ r.cyc y := fun h => hr.pos y h
  refine ⟨fun hlt => ?_, fun hge => ?_⟩
  · have b2 := b2 (by omega)
    have b3 := b3 (by omega)
    try dsimp only
    repeat' (with_reducible first | assumption | apply And.intro | intro _ | refine Exists.intro (y + 1) ?_)
    all_goals (try simp only [cond_dec, decide_eq_decide] at *)
    all_goals (first | omega | ((repeat' (first | omega | split)) <;> (try dsimp only) <;> (try (first | omega | contradiction | (subst_vars; first | rfl | omega) | (simp_all; done) | (simp_all; omega)))))
  · have : y = r.n := by omega
    subst this
    intro v hv
    exact fun _ => hv

def rsum_C (x : (RS × Int × Int)) : Cfg := { Γ := Go.Sx.look [], names := true, loops := onlyAt 3 [rsumF (x.1) (x.2.1) (x.2.2)] }
theorem rsum_al (x : (RS × Int × Int)) : Shown (rsumP.vc Try.prog (rsum_C x) Try.f27 x) := ⟨@Eq.mp _ _ (by kernel_rfl) (rsum_vc (x.1) (x.2.1) (x.2.2))⟩
theorem rsum_ok : SpOk Try.prog 27 rsumP.sp := @Pat.okS _ rsumP Try.prog rsum_C 27 Try.f27 (fun x => cfg_nil rfl) (by kernel_rfl) Try.func27 (fun _ => rfl) rsum_al
theorem rsumN_vc : ∀ (r : R0) (_ _ : Int), True → ∀ (v : Int), v = (0 : Int) → ∀ (v : Int), v = (0 : Int) → ∀ (v_1 : Int), v_1 = (0 : Int) → (∃ (_ : Bool), True ∧ (((True ∧ True) ∧ v = (0 : Int) ∧ v_1 = (0 : Int) ∧ True) ∧ ((3 : Nat) ≤ (3
  : Nat) ∧ r.cores = r.cores ∧ True ∧ r.st = r.st ∧ True) ∧ True) ∧ True) ∧ ∀ (_ : Bool), True → (decide ((0 : Int) < (0 : Int)) = true → False) ∧ (decide ((0 : Int) < (0 : Int)) = false → ∀ (v : Int), v = (0 : Int) → v =
  (0 : Int) ∧ True ∧ ((3 : Nat) ≤ (3 : Nat) ∧ r.cores = r.cores ∧ True ∧ r.st = r.st ∧ True) ∧ True) := by
  simp only [true_and, and_true, eq_self, Nat.le_refl, decide_eq_true_eq, decide_eq_false_iff_not, true_implies, and_self, Int.not_lt]
  intro r c k
  try dsimp only
  repeat' (with_reducible first | assumption | apply And.intro | intro _ | refine Exists.intro (true) ?_)
  all_goals (try simp only [cond_dec, decide_eq_decide] at *)
  all_goals (first | omega | ((repeat' (first | omega | split)) <;> (try dsimp only) <;> (try (first | omega | contradiction | (subst_vars; first | rfl | omega) | (simp_all; done) | (simp_all; omega)))))

def rsumN_C (x : (R0 × Int × Int)) : Cfg := { Γ := Go.Sx.look [], names := true, loops := onlyAt 3 [rsumNF (x.1) (x.2.1) (x.2.2)] }
theorem rsumN_al (x : (R0 × Int × Int)) : Shown (rsumNP.vc Try.prog (rsumN_C x) Try.f27 x) := ⟨@Eq.mp _ _ (by kernel_rfl) (rsumN_vc (x.1) (x.2.1) (x.2.2))⟩
theorem rsumN_ok : SpOk Try.prog 27 rsumNP.sp := @Pat.okS _ rsumNP Try.prog rsumN_C 27 Try.f27 (fun x => cfg_nil rfl) (by kernel_rfl) Try.func27 (fun _ => rfl) rsumN_al
theorem rsumA_ok : SpOk Try.prog 27 (altH nilRow (rsumNP.sp) (rsumP.sp)) := altH_ok rsumN_ok rsum_ok

def tSum : Tab := [(27, altH nilRow (rsumNP.sp) (rsumP.sp))]
theorem tSum_ok : TabOk Try.prog tSum := (tab_cons rsumA_ok tab_nil)

def rclockP : Pat (RS × Int) where
  view | [.ptr r 0 [], .int .i64 c], H => some (viewR r H, c) | _, _ => none
  args x := [p0 0, .int .i64 x.2]
  H x := [x.1.me 1, x.1.row]
  out x := .need x.1.Ok (.retq (.int .u64 (x.1.sum x.2 (-1))))
def rclockNP : Pat (R0 × Int) where
  view | [.ptr r 0 [], .int .i64 c], H => some (viewR0 r H, c) | _, _ => none
  args x := [p0 0, .int .i64 x.2]
  H x := [x.1.me0]
  out _ := .retq (.int .u64 0)
theorem rclock_vc : ∀ (r : RS) (c : Int), r.Ok ∧ True → ∀ (v : Int), v = (0 : Int) → (((True ∧ True) ∧ c = c ∧ (-1 : Int) = (-1 : Int) ∧ True) ∧ ((3 : Nat) ≤ (3 : Nat) ∧ r.cores = r.cores ∧ (True ∧ True ∧ (0 : Nat) = (0 : Nat) ∧ r.n = r.n ∧
  r.cap = r.cap) ∧ r.st = r.st ∧ True) ∧ (r.cap * (3 : Nat) ≤ r.cap * (3 : Nat) ∧ r.n = r.n ∧ ∀ (j : Nat), j < r.n → r.core j = r.core j ∧ r.kind j = r.kind j ∧ r.cyc j = r.cyc j ∧ True) ∧ True) ∧ r.Ok ∧ ∀ (v : Int), v =
  r.sum c (-1 : Int) → r.Ok → v = r.sum c (-1 : Int) ∧ True ∧ ((3 : Nat) ≤ (3 : Nat) ∧ r.cores = r.cores ∧ (True ∧ True ∧ (0 : Nat) = (0 : Nat) ∧ r.n = r.n ∧ r.cap = r.cap) ∧ r.st = r.st ∧ True) ∧ (r.cap * (3 : Nat) ≤
  r.cap * (3 : Nat) ∧ r.n = r.n ∧ ∀ (j : Nat), j < r.n → r.core j = r.core j ∧ r.kind j = r.kind j ∧ r.cyc j = r.cyc j ∧ True) ∧ True := by
  simp only [true_and, and_true, eq_self, Nat.le_refl, implies_true, and_self]
  intro r c hr
  try dsimp only
  repeat' (with_reducible first | assumption | apply And.intro | intro _)
  all_goals (try simp only [cond_dec, decide_eq_decide] at *)
  all_goals (first | omega | ((repeat' (first | omega | split)) <;> (try dsimp only) <;> (try (first | omega | contradiction | (subst_vars; first | rfl | omega) | (simp_all; done) | (simp_all; omega)))))

def rclock_C (_ : (RS × Int)) : Cfg := { Γ := Go.Sx.look tSum, names := true }
theorem rclock_al (x : (RS × Int)) : Shown (rclockP.vc Try.prog (rclock_C x) Try.f15 x) := ⟨@Eq.mp _ _ (by kernel_rfl) (rclock_vc (x.1) (x.2))⟩
theorem rclock_ok : SpOk Try.prog 15 rclockP.sp := @Pat.okS _ rclockP Try.prog rclock_C 15 Try.f15 (fun x => cfg_tab rfl tSum_ok) (by kernel_rfl) Try.func15 (fun _ => rfl) rclock_al
theorem rclockN_vc : ∀ (r : R0) (c : Int), True → ∀ (v : Int), v = (0 : Int) → (((True ∧ True) ∧ c = c ∧ (-1 : Int) = (-1 : Int) ∧ True) ∧ ((3 : Nat) ≤ (3 : Nat) ∧ r.cores = r.cores ∧ True ∧ r.st = r.st ∧ True) ∧ True) ∧ ∀ (v : Int), v = (0
  : Int) → v = (0 : Int) ∧ True ∧ ((3 : Nat) ≤ (3 : Nat) ∧ r.cores = r.cores ∧ True ∧ r.st = r.st ∧ True) ∧ True := by
  simp only [true_and, and_true, eq_self, Nat.le_refl, true_implies, and_self]
  try intro r c
  try dsimp only
  repeat' (with_reducible first | assumption | apply And.intro | intro _)
  all_goals (try simp only [cond_dec, decide_eq_decide] at *)
  all_goals (first | omega | ((repeat' (first | omega | split)) <;> (try dsimp only) <;> (try (first | omega | contradiction | (subst_vars; first | rfl | omega) | (simp_all; done) | (simp_all; omega)))))

def rclockN_C (_ : (R0 × Int)) : Cfg := { Γ := Go.Sx.look tSum, names := true }
theorem rclockN_al (x : (R0 × Int)) : Shown (rclockNP.vc Try.prog (rclockN_C x) Try.f15 x) := ⟨@Eq.mp _ _ (by kernel_rfl) (rclockN_vc (x.1) (x.2))⟩
theorem rclockN_ok : SpOk Try.prog 15 rclockNP.sp := @Pat.okS _ rclockNP Try.prog rclockN_C 15 Try.f15 (fun x => cfg_tab rfl tSum_ok) (by kernel_rfl) Try.func15 (fun _ => rfl) rclockN_al
theorem rclockA_ok : SpOk Try.prog 15 (altH nilRow (rclockNP.sp) (rclockP.sp)) := altH_ok rclockN_ok rclock_ok

def rspentP : Pat (RS × Int × Int) where
  view | [.ptr r 0 [], .int .i64 c, .int .i64 k], H => some (viewR r H, c, k) | _, _ => none
  args x := [p0 0, .int .i64 x.2.1, .int .i64 x.2.2]
  H x := [x.1.me 1, x.1.row]
  out x := .need x.1.Ok (.retq (.int .u64 (x.1.sum x.2.1 (if x.2.2 < 0 then 0 else x.2.2))))
theorem rspent_vc : ∀ (r : RS) (c k : Int), r.Ok ∧ True → ∀ (v : Int), v = (0 : Int) → (((True ∧ True) ∧ c = c ∧ ((if k < (0 : Int) then (0 : Int) else k) = if k < (0 : Int) then (0 : Int) else k) ∧ True) ∧ ((3 : Nat) ≤ (3 : Nat) ∧ r.cores
  = r.cores ∧ (True ∧ True ∧ (0 : Nat) = (0 : Nat) ∧ r.n = r.n ∧ r.cap = r.cap) ∧ r.st = r.st ∧ True) ∧ (r.cap * (3 : Nat) ≤ r.cap * (3 : Nat) ∧ r.n = r.n ∧ ∀ (j : Nat), j < r.n → r.core j = r.core j ∧ r.kind j = r.kind j
  ∧ r.cyc j = r.cyc j ∧ True) ∧ True) ∧ r.Ok ∧ ∀ (v : Int), v = r.sum c (if k < (0 : Int) then (0 : Int) else k) → r.Ok → v = r.sum c (if k < (0 : Int) then (0 : Int) else k) ∧ True ∧ ((3 : Nat) ≤ (3 : Nat) ∧ r.cores =
  r.cores ∧ (True ∧ True ∧ (0 : Nat) = (0 : Nat) ∧ r.n = r.n ∧ r.cap = r.cap) ∧ r.st = r.st ∧ True) ∧ (r.cap * (3 : Nat) ≤ r.cap * (3 : Nat) ∧ r.n = r.n ∧ ∀ (j : Nat), j < r.n → r.core j = r.core j ∧ r.kind j = r.kind j ∧
  r.cyc j = r.cyc j ∧ True) ∧ True := by
  simp only [true_and, and_true, eq_self, Nat.le_refl, implies_true, and_self]
  intro r c k hr
  try dsimp only
  repeat' (with_reducible first | assumption | apply And.intro | intro _)
  all_goals (try simp only [cond_dec, decide_eq_decide] at *)
  all_goals (first | omega | ((repeat' (first | omega | split)) <;> (try dsimp only) <;> (try (first | omega | contradiction | (subst_vars; first | rfl | omega) | (simp_all; done) | (simp_all; omega)))))

def rspent_C (_ : (RS × Int × Int)) : Cfg := { Γ := Go.Sx.look tSum, names := true }
theorem rspent_al (x : (RS × Int × Int)) : Shown (rspentP.vc Try.prog (rspent_C x) Try.f17 x) := ⟨@Eq.mp _ _ (by kernel_rfl) (rspent_vc (x.1) (x.2.1) (x.2.2))⟩
theorem rspent_ok : SpOk Try.prog 17 rspentP.sp := @Pat.okS _ rspentP Try.prog rspent_C 17 Try.f17 (fun x => cfg_tab rfl tSum_ok) (by kernel_rfl) Try.func17 (fun _ => rfl) rspent_al
theorem rspentN_vc : ∀ (r : R0) (c k : Int), True → ∀ (v : Int), v = (0 : Int) → (((True ∧ True) ∧ c = c ∧ ((if k < (0 : Int) then (0 : Int) else k) = if k < (0 : Int) then (0 : Int) else k) ∧ True) ∧ ((3 : Nat) ≤ (3 : Nat) ∧ r.cores =
  r.cores ∧ True ∧ r.st = r.st ∧ True) ∧ True) ∧ ∀ (v : Int), v = (0 : Int) → v = (0 : Int) ∧ True ∧ ((3 : Nat) ≤ (3 : Nat) ∧ r.cores = r.cores ∧ True ∧ r.st = r.st ∧ True) ∧ True := by
  simp only [true_and, and_true, eq_self, Nat.le_refl, true_implies, and_self]
  try intro r c k
  try dsimp only
  repeat' (with_reducible first | assumption | apply And.intro | intro _)
  all_goals (try simp only [cond_dec, decide_eq_decide] at *)
  all_goals (first | omega | ((repeat' (first | omega | split)) <;> (try dsimp only) <;> (try (first | omega | contradiction | (subst_vars; first | rfl | omega) | (simp_all; done) | (simp_all; omega)))))

def rspentN_C (_ : (R0 × Int × Int)) : Cfg := { Γ := Go.Sx.look tSum, names := true }
theorem rspentN_al (x : (R0 × Int × Int)) : Shown (rsumNP.vc Try.prog (rspentN_C x) Try.f17 x) := ⟨@Eq.mp _ _ (by kernel_rfl) (rspentN_vc (x.1) (x.2.1) (x.2.2))⟩
theorem rspentN_ok : SpOk Try.prog 17 rsumNP.sp := @Pat.okS _ rsumNP Try.prog rspentN_C 17 Try.f17 (fun x => cfg_tab rfl tSum_ok) (by kernel_rfl) Try.func17 (fun _ => rfl) rspentN_al
theorem rspentA_ok : SpOk Try.prog 17 (altH nilRow (rsumNP.sp) (rspentP.sp)) := altH_ok rspentN_ok rspent_ok

def RS.left (r : RS) (c : Int) : Int := 4611686018427387904 - r.sum c (-1)
def RS.on (r : RS) (c k y : Int) (cap : Nat) : RS :=
  { r with n := r.n + 1, cap := cap, core := upI r.core r.n c, kind := upI r.kind r.n k, cyc := upI r.cyc r.n (min y (r.left c)), st := r.st || decide (r.left c ≤ y) }
def ronP : Pat (RS × Int × Int × Int) where
  view | [.ptr r 0 [], .int .i64 c, .int .i64 k, .int .u64 y], H => some (viewR r H, c, k, y) | _, _ => none
  args x := [p0 0, .int .i64 x.2.1, .int .i64 x.2.2.1, .int .u64 x.2.2.2]
  H x := [x.1.me 1, x.1.row]
  out x := .need (x.1.Ok ∧ u64 x.2.2.2) (.any (fun cap : Nat => x.1.n + 1 ≤ cap) fun cap => .ret (.int .i64 (if x.1.left x.2.1 ≤ x.2.2.2 then 22 else 0)) [(x.1.on x.2.1 x.2.2.1 x.2.2.2 cap).me 2, dead, (x.1.on x.2.1 x.2.2.1 x.2.2.2 cap).row])
def ronNP : Pat (R0 × Int × Int × Int) where
  view | [.ptr r 0 [], .int .i64 c, .int .i64 k, .int .u64 y], H => some (viewR0 r H, c, k, y) | _, _ => none
  args x := [p0 0, .int .i64 x.2.1, .int .i64 x.2.2.1, .int .u64 x.2.2.2]
  H x := [x.1.me0]
  out x := .need (u64 x.2.2.2) (.any (fun cap : Nat => x.1.rs.n + 1 ≤ cap) fun cap => .ret (.int .i64 (if x.1.rs.left x.2.1 ≤ x.2.2.2 then 22 else 0)) [(x.1.rs.on x.2.1 x.2.2.1 x.2.2.2 cap).me 1, (x.1.rs.on x.2.1 x.2.2.1 x.2.2.2 cap).row])
def tOn : Tab := [(15, altH nilRow (rclockNP.sp) (rclockP.sp))]
theorem tOn_ok : TabOk Try.prog tOn := (tab_cons rclockA_ok tab_nil)

theorem RS.on_low (r : RS) (c k y : Int) (cap : Nat) {j : Nat} (h : j < r.n) : r.core j = (r.on c k y cap).core j ∧ r.kind j = (r.on c k y cap).kind j ∧ r.cyc j = (r.on c k y cap).cyc j := by
  simp only [RS.on, upI, if_neg (show ¬ j = r.n by omega), and_self]
theorem RS.on_top (r : RS) (c k y : Int) (cap : Nat) {j : Nat} (h : r.n ≤ j) (h' : j < r.n + 1) {v : Int} (hv : v = r.left c) : c = (r.on c k y cap).core j ∧ k = (r.on c k y cap).kind j ∧ (if v < y then v else y) = (r.on c k y cap).cyc j := by
  have : j = r.n := by omega
  subst this
  simp only [RS.on, upI, if_pos, true_and]
  rw [hv]
  split <;> omega
theorem ron_vc : ∀ (r : RS) (c k y : Int), (r.Ok ∧ (0 : Int) ≤ y ∧ y < (18446744073709551616 : Int)) ∧ True → ∀ (v : Int), v = (0 : Int) → (((True ∧ True) ∧ c = c ∧ True) ∧ ((3 : Nat) ≤ (3 : Nat) ∧ r.cores = r.cores ∧ (True ∧ True ∧ (0 :
  Nat) = (0 : Nat) ∧ r.n = r.n ∧ r.cap = r.cap) ∧ r.st = r.st ∧ True) ∧ (r.cap * (3 : Nat) ≤ r.cap * (3 : Nat) ∧ r.n = r.n ∧ ∀ (j : Nat), j < r.n → r.core j = r.core j ∧ r.kind j = r.kind j ∧ r.cyc j = r.cyc j ∧ True) ∧
  True) ∧ r.Ok ∧ ∀ (v : Int), v = IntKind.u64.wrap ((4611686018427387904 : Int) - r.sum c (-1 : Int)) → (1 : Nat) ≤ (1 : Nat) ∧ ((0 : Nat) = (0 : Nat) ∧ r.n ≤ r.n ∧ r.n ≤ r.cap ∧ r.cap * (3 : Nat) ≤ r.cap * (3 : Nat) ∧
  (r.n + (1 : Nat)) * (24 : Nat) ≤ (140737488355328 : Nat) ∧ r.n + (1 : Nat) ≤ (9223372036854775807 : Nat) ∧ (∀ (_ : Nat), (3 : Nat) = (3 : Nat)) ∧ ∀ (_ : Nat), (3 : Nat) = (3 : Nat)) ∧ ∀ (cap' : Nat), r.n + (1 : Nat) ≤
  cap' → (decide (y ≥ v) = true → ∀ (v_1 : Int), v_1 = (22 : Int) → r.Ok ∧ (0 : Int) ≤ y ∧ y < (18446744073709551616 : Int) → ∃ (x : Nat), r.n + (1 : Nat) ≤ x ∧ (v_1 = if r.left c ≤ y then (22 : Int) else (0 : Int)) ∧ True
  ∧ ((3 : Nat) ≤ (3 : Nat) ∧ r.cores = (r.on c k y x).cores ∧ (True ∧ True ∧ (0 : Nat) = (0 : Nat) ∧ r.n + (1 : Nat) = (r.on c k y x).n ∧ cap' = (r.on c k y x).cap) ∧ (r.on c k y x).st = true ∧ True) ∧ (0 : Nat) = (0 :
  Nat) ∧ ((r.on c k y x).cap * (3 : Nat) ≤ cap' * (3 : Nat) ∧ (r.on c k y x).n = r.n + (1 : Nat) ∧ ∀ (j : Nat), j < r.n + (1 : Nat) → (j.blt r.n = true → r.core j = (r.on c k y x).core j ∧ r.kind j = (r.on c k y x).kind j
  ∧ r.cyc j = (r.on c k y x).cyc j ∧ True) ∧ (j.blt r.n = false → c = (r.on c k y x).core j ∧ k = (r.on c k y x).kind j ∧ (if v < y then v else y) = (r.on c k y x).cyc j ∧ True)) ∧ True) ∧ (decide (y ≥ v) = false → ∀ (v_1
  : Int), v_1 = (0 : Int) → r.Ok ∧ (0 : Int) ≤ y ∧ y < (18446744073709551616 : Int) → ∃ (x : Nat), r.n + (1 : Nat) ≤ x ∧ (v_1 = if r.left c ≤ y then (22 : Int) else (0 : Int)) ∧ True ∧ ((3 : Nat) ≤ (3 : Nat) ∧ r.cores =
  (r.on c k y x).cores ∧ (True ∧ True ∧ (0 : Nat) = (0 : Nat) ∧ r.n + (1 : Nat) = (r.on c k y x).n ∧ cap' = (r.on c k y x).cap) ∧ r.st = (r.on c k y x).st ∧ True) ∧ (0 : Nat) = (0 : Nat) ∧ ((r.on c k y x).cap * (3 : Nat) ≤
  cap' * (3 : Nat) ∧ (r.on c k y x).n = r.n + (1 : Nat) ∧ ∀ (j : Nat), j < r.n + (1 : Nat) → (j.blt r.n = true → r.core j = (r.on c k y x).core j ∧ r.kind j = (r.on c k y x).kind j ∧ r.cyc j = (r.on c k y x).cyc j ∧ True)
  ∧ (j.blt r.n = false → c = (r.on c k y x).core j ∧ k = (r.on c k y x).kind j ∧ (if v < y then v else y) = (r.on c k y x).cyc j ∧ True)) ∧ True) := by
  simp only [true_and, and_true, eq_self, Nat.le_refl, decide_eq_true_eq, decide_eq_false_iff_not, implies_true, and_self, Int.not_le, ge_iff_le, nblt_true, nblt_false, IntKind.wrap_u64]
  rintro r c k y ⟨hr, hy⟩ _ _
  have b := hr.bd c (-1) (Nat.le_refl _)
  have hn := hr.n
  have hb : 0 ≤ r.sum c (-1) ∧ r.sum c (-1) ≤ 4611686018427387904 := b
  refine ⟨hr, fun v hv => ⟨⟨hr.cap, by omega, by omega⟩, fun cap hcap => ?_⟩⟩
  have hv : v = r.left c := by unfold RS.left; omega
  refine ⟨fun h v1 hv1 _ => ⟨cap, hcap, ?_, ⟨rfl, ⟨rfl, rfl⟩, ?_⟩, Nat.le_refl _, rfl, fun j hj => ⟨fun h => r.on_low c k y cap h, fun h => r.on_top c k y cap h hj hv⟩⟩, fun h v1 hv1 _ => ⟨cap, hcap, ?_, ⟨rfl, ⟨rfl, rfl⟩, ?_⟩, Nat.le_refl _, rfl, fun j hj => ⟨fun h => r.on_low c k y cap h, fun h => r.on_top c k y cap h hj hv⟩⟩⟩
  · rw [if_pos (by omega)]; exact hv1
  · simp only [RS.on]; rw [← hv]; simp [h]
  · rw [if_neg (by omega)]; exact hv1
  · simp only [RS.on]; rw [← hv]; have : ¬ v ≤ y := by omega
    simp [this]

def ron_C (_ : (RS × Int × Int × Int)) : Cfg := { Γ := Go.Sx.look tOn, names := true }
theorem ron_al (x : (RS × Int × Int × Int)) : Shown (ronP.vc Try.prog (ron_C x) Try.f24 x) := ⟨@Eq.mp _ _ (by kernel_rfl) (ron_vc (x.1) (x.2.1) (x.2.2.1) (x.2.2.2))⟩
theorem ron_ok : SpOk Try.prog 24 ronP.sp := @Pat.okS _ ronP Try.prog ron_C 24 Try.f24 (fun x => cfg_tab rfl tOn_ok) (by kernel_rfl) Try.func24 (fun _ => rfl) ron_al
theorem ronN_vc : ∀ (r : R0) (c k y : Int), ((0 : Int) ≤ y ∧ y < (18446744073709551616 : Int)) ∧ True → ∀ (v : Int), v = (0 : Int) → (((True ∧ True) ∧ c = c ∧ True) ∧ ((3 : Nat) ≤ (3 : Nat) ∧ r.cores = r.cores ∧ True ∧ r.st = r.st ∧ True)
  ∧ True) ∧ ∀ (v : Int), v = IntKind.u64.wrap ((4611686018427387904 : Int) - (0 : Int)) → (1 : Nat) ≤ (1 : Nat) ∧ ((1 : Nat) = (0 : Nat) → (decide (y ≥ v) = true → ∀ (v : Int), v = (22 : Int) → (0 : Int) ≤ y ∧ y <
  (18446744073709551616 : Int) → ∃ (x : Nat), r.rs.n + (1 : Nat) ≤ x ∧ (v = if r.rs.left c ≤ y then (22 : Int) else (0 : Int)) ∧ False) ∧ (decide (y ≥ v) = false → ∀ (v : Int), v = (0 : Int) → (0 : Int) ≤ y ∧ y <
  (18446744073709551616 : Int) → ∃ (x : Nat), r.rs.n + (1 : Nat) ≤ x ∧ (v = if r.rs.left c ≤ y then (22 : Int) else (0 : Int)) ∧ False)) ∧ ((1 : Nat) ≠ (0 : Nat) → (24 : Nat) ≤ (140737488355328 : Nat) ∧ (1 : Nat) ≤
  (9223372036854775807 : Nat) ∧ ∀ (cap : Nat), (1 : Nat) ≤ cap → (decide (y ≥ v) = true → ∀ (v_1 : Int), v_1 = (22 : Int) → (0 : Int) ≤ y ∧ y < (18446744073709551616 : Int) → ∃ (x : Nat), r.rs.n + (1 : Nat) ≤ x ∧ (v_1 = if
  r.rs.left c ≤ y then (22 : Int) else (0 : Int)) ∧ True ∧ ((3 : Nat) ≤ (3 : Nat) ∧ r.cores = (r.rs.on c k y x).cores ∧ (True ∧ True ∧ (0 : Nat) = (0 : Nat) ∧ (1 : Nat) = (r.rs.on c k y x).n ∧ cap = (r.rs.on c k y x).cap)
  ∧ (r.rs.on c k y x).st = true ∧ True) ∧ ((r.rs.on c k y x).cap * (3 : Nat) ≤ cap * (3 : Nat) ∧ (r.rs.on c k y x).n = (1 : Nat) ∧ ∀ (j : Nat), j < (1 : Nat) → c = (r.rs.on c k y x).core j ∧ k = (r.rs.on c k y x).kind j ∧
  (if v < y then v else y) = (r.rs.on c k y x).cyc j ∧ True) ∧ True) ∧ (decide (y ≥ v) = false → ∀ (v_1 : Int), v_1 = (0 : Int) → (0 : Int) ≤ y ∧ y < (18446744073709551616 : Int) → ∃ (x : Nat), r.rs.n + (1 : Nat) ≤ x ∧
  (v_1 = if r.rs.left c ≤ y then (22 : Int) else (0 : Int)) ∧ True ∧ ((3 : Nat) ≤ (3 : Nat) ∧ r.cores = (r.rs.on c k y x).cores ∧ (True ∧ True ∧ (0 : Nat) = (0 : Nat) ∧ (1 : Nat) = (r.rs.on c k y x).n ∧ cap = (r.rs.on c k
  y x).cap) ∧ r.st = (r.rs.on c k y x).st ∧ True) ∧ ((r.rs.on c k y x).cap * (3 : Nat) ≤ cap * (3 : Nat) ∧ (r.rs.on c k y x).n = (1 : Nat) ∧ ∀ (j : Nat), j < (1 : Nat) → c = (r.rs.on c k y x).core j ∧ k = (r.rs.on c k y
  x).kind j ∧ (if v < y then v else y) = (r.rs.on c k y x).cyc j ∧ True) ∧ True)) := by
  simp only [true_and, and_true, eq_self, Nat.le_refl, decide_eq_true_eq, decide_eq_false_iff_not, and_self, Int.not_le, ge_iff_le, ne_eq, IntKind.wrap_u64]
  rintro r c k y hy _ _
  have hs : r.rs.sum c (-1) = 0 := rfl
  have hr : r.rs.n = 0 := rfl
  rintro _ rfl
  have hl : (4611686018427387904 - 0) % 18446744073709551616 = r.rs.left c := by unfold RS.left; rw [hs]; rfl
  rw [hl]
  refine ⟨fun h => absurd h (by decide), fun _ => ⟨by decide, by decide, fun cap hcap => ?_⟩⟩
  have hn1 : 1 = r.rs.n + 1 := by omega
  have htop : ∀ j, j < 1 → c = (r.rs.on c k y cap).core j ∧ k = (r.rs.on c k y cap).kind j ∧ (if r.rs.left c < y then r.rs.left c else y) = (r.rs.on c k y cap).cyc j := fun j hj => r.rs.on_top c k y cap (by omega) (by omega) rfl
  refine ⟨fun h v1 hv1 _ => ⟨cap, by omega, ?_, ⟨rfl, ⟨hn1, rfl⟩, ?_⟩, Nat.le_refl _, hn1.symm, htop⟩, fun h v1 hv1 _ => ⟨cap, by omega, ?_, ⟨rfl, ⟨hn1, rfl⟩, ?_⟩, Nat.le_refl _, hn1.symm, htop⟩⟩
  · rw [if_pos h]; exact hv1
  · simp only [RS.on]; simp [h]
  · rw [if_neg (by omega)]; exact hv1
  · simp only [RS.on]; have : ¬ r.rs.left c ≤ y := by omega
    simp [this]
    try rfl

def ronN_C (_ : (R0 × Int × Int × Int)) : Cfg := { Γ := Go.Sx.look tOn, names := true }
theorem ronN_al (x : (R0 × Int × Int × Int)) : Shown (ronNP.vc Try.prog (ronN_C x) Try.f24 x) := ⟨@Eq.mp _ _ (by kernel_rfl) (ronN_vc (x.1) (x.2.1) (x.2.2.1) (x.2.2.2))⟩
theorem ronN_ok : SpOk Try.prog 24 ronNP.sp := @Pat.okS _ ronNP Try.prog ronN_C 24 Try.f24 (fun x => cfg_tab rfl tOn_ok) (by kernel_rfl) Try.func24 (fun _ => rfl) ronN_al
theorem ronA_ok : SpOk Try.prog 24 (altH nilRow (ronNP.sp) (ronP.sp)) := altH_ok ronN_ok ron_ok

def RS.bad (r : RS) (c : Int) : Prop := ¬ (0 ≤ c ∧ c < r.cores)
instance (r : RS) (c : Int) : Decidable (r.bad c) := by unfold RS.bad; infer_instance
def ronO (x : RS) (c k y : Int) : Out := .any (fun cap : Nat => x.n + 1 ≤ cap) fun cap => .ret (.int .i64 (if x.left c ≤ y then 22 else 0)) [(x.on c k y cap).me 2, dead, (x.on c k y cap).row]
def ronNO (x : RS) (c k y : Int) : Out := .any (fun cap : Nat => x.n + 1 ≤ cap) fun cap => .ret (.int .i64 (if x.left c ≤ y then 22 else 0)) [(x.on c k y cap).me 1, (x.on c k y cap).row]
def rdoP : Pat (RS × Int × Int × Int) where
  view | [.ptr r 0 [], .int .i64 c, .int .i64 k, .int .u64 y], H => some (viewR r H, c, k, y) | _, _ => none
  args x := [p0 0, .int .i64 x.2.1, .int .i64 x.2.2.1, .int .u64 x.2.2.2]
  H x := [x.1.me 1, x.1.row]
  out x := .need (x.1.Ok ∧ u64 x.2.2.2) (.br (x.1.bad x.2.1 ∨ cost x.2.2.1 = 0) (.retq (.int .i64 11)) (.br (x.1.st = true) (.retq (.int .i64 22)) (ronO x.1 x.2.1 x.2.2.1 (cost x.2.2.1 * x.2.2.2))))
def rdoNP : Pat (R0 × Int × Int × Int) where
  view | [.ptr r 0 [], .int .i64 c, .int .i64 k, .int .u64 y], H => some (viewR0 r H, c, k, y) | _, _ => none
  args x := [p0 0, .int .i64 x.2.1, .int .i64 x.2.2.1, .int .u64 x.2.2.2]
  H x := [x.1.me0]
  out x := .need (u64 x.2.2.2) (.br (x.1.rs.bad x.2.1 ∨ cost x.2.2.1 = 0) (.retq (.int .i64 11)) (.br (x.1.st = true) (.retq (.int .i64 22)) (ronNO x.1.rs x.2.1 x.2.2.1 (cost x.2.2.1 * x.2.2.2))))
def rwaitP : Pat (RS × Int × Int) where
  view | [.ptr r 0 [], .int .i64 c, .int .u64 y], H => some (viewR r H, c, y) | _, _ => none
  args x := [p0 0, .int .i64 x.2.1, .int .u64 x.2.2]
  H x := [x.1.me 1, x.1.row]
  out x := .need (x.1.Ok ∧ u64 x.2.2) (.br (x.1.bad x.2.1) (.retq (.int .i64 11)) (.br (x.1.st = true) (.retq (.int .i64 22)) (.br (x.2.2 ≤ x.1.sum x.2.1 (-1)) (.retq (.int .i64 0)) (ronO x.1 x.2.1 0 (x.2.2 - x.1.sum x.2.1 (-1))))))
def rwaitNP : Pat (R0 × Int × Int) where
  view | [.ptr r 0 [], .int .i64 c, .int .u64 y], H => some (viewR0 r H, c, y) | _, _ => none
  args x := [p0 0, .int .i64 x.2.1, .int .u64 x.2.2]
  H x := [x.1.me0]
  out x := .need (u64 x.2.2) (.br (x.1.rs.bad x.2.1) (.retq (.int .i64 11)) (.br (x.1.st = true) (.retq (.int .i64 22)) (.br (x.2.2 ≤ 0) (.retq (.int .i64 0)) (ronNO x.1.rs x.2.1 0 x.2.2))))

def tDo : Tab := [(21, costP.sp), (15, altH nilRow (rclockNP.sp) (rclockP.sp)), (26, rmulP.sp), (24, altH nilRow (ronNP.sp) (ronP.sp))]
theorem tDo_ok : TabOk Try.prog tDo := (tab_cons rcost_ok (tab_cons rclockA_ok (tab_cons rmul_ok (tab_cons ronA_ok tab_nil))))

theorem RS.on_cut (r : RS) (c k : Int) {p : Int} (hl : r.left c ≤ 4611686018427387904) (hp : 0 < p / 18446744073709551616) (x : Nat) : r.on c k 4611686018427387904 x = r.on c k p x ∧ (r.left c ≤ 4611686018427387904 ↔ r.left c ≤ p) := by
  refine ⟨?_, by omega⟩
  unfold RS.on
  have e1 : min 4611686018427387904 (r.left c) = min p (r.left c) := by omega
  have e2 : decide (r.left c ≤ 4611686018427387904) = decide (r.left c ≤ p) := decide_eq_decide.2 (by omega)
  rw [e1, e2]
theorem rdo_vc : ∀ (r : RS) (c k y : Int), (r.Ok ∧ (0 : Int) ≤ y ∧ y < (18446744073709551616 : Int)) ∧ True → ∀ (v : Int), v = (0 : Int) → (decide (c < (0 : Int)) = true → ∀ (v : Int), v = (11 : Int) → r.Ok ∧ (0 : Int) ≤ y ∧ y <
  (18446744073709551616 : Int) → (r.bad c ∨ cost k = (0 : Int) → v = (11 : Int) ∧ True ∧ ((3 : Nat) ≤ (3 : Nat) ∧ r.cores = r.cores ∧ (True ∧ True ∧ (0 : Nat) = (0 : Nat) ∧ r.n = r.n ∧ r.cap = r.cap) ∧ r.st = r.st ∧ True)
  ∧ (r.cap * (3 : Nat) ≤ r.cap * (3 : Nat) ∧ r.n = r.n ∧ ∀ (j : Nat), j < r.n → r.core j = r.core j ∧ r.kind j = r.kind j ∧ r.cyc j = r.cyc j ∧ True) ∧ True) ∧ (¬(r.bad c ∨ cost k = (0 : Int)) → (r.st = true → v = (22 :
  Int) ∧ True ∧ ((3 : Nat) ≤ (3 : Nat) ∧ r.cores = r.cores ∧ (True ∧ True ∧ (0 : Nat) = (0 : Nat) ∧ r.n = r.n ∧ r.cap = r.cap) ∧ r.st = r.st ∧ True) ∧ (r.cap * (3 : Nat) ≤ r.cap * (3 : Nat) ∧ r.n = r.n ∧ ∀ (j : Nat), j <
  r.n → r.core j = r.core j ∧ r.kind j = r.kind j ∧ r.cyc j = r.cyc j ∧ True) ∧ True) ∧ (¬r.st = true → ∃ (x : Nat), r.n + (1 : Nat) ≤ x ∧ (v = if r.left c ≤ cost k * y then (22 : Int) else (0 : Int)) ∧ True ∧ ((3 : Nat) ≤
  (3 : Nat) ∧ r.cores = (r.on c k (cost k * y) x).cores ∧ (True ∧ True ∧ (0 : Nat) = (0 : Nat) ∧ r.n = (r.on c k (cost k * y) x).n ∧ r.cap = (r.on c k (cost k * y) x).cap) ∧ r.st = (r.on c k (cost k * y) x).st ∧ True) ∧ (0
  : Nat) = (0 : Nat) ∧ ((r.on c k (cost k * y) x).cap * (3 : Nat) ≤ r.cap * (3 : Nat) ∧ (r.on c k (cost k * y) x).n = r.n ∧ ∀ (j : Nat), j < r.n → r.core j = (r.on c k (cost k * y) x).core j ∧ r.kind j = (r.on c k (cost k
  * y) x).kind j ∧ r.cyc j = (r.on c k (cost k * y) x).cyc j ∧ True) ∧ True))) ∧ (decide (c < (0 : Int)) = false → (decide (c ≥ r.cores) = true → ∀ (v : Int), v = (11 : Int) → r.Ok ∧ (0 : Int) ≤ y ∧ y <
  (18446744073709551616 : Int) → (r.bad c ∨ cost k = (0 : Int) → v = (11 : Int) ∧ True ∧ ((3 : Nat) ≤ (3 : Nat) ∧ r.cores = r.cores ∧ (True ∧ True ∧ (0 : Nat) = (0 : Nat) ∧ r.n = r.n ∧ r.cap = r.cap) ∧ r.st = r.st ∧ True)
  ∧ (r.cap * (3 : Nat) ≤ r.cap * (3 : Nat) ∧ r.n = r.n ∧ ∀ (j : Nat), j < r.n → r.core j = r.core j ∧ r.kind j = r.kind j ∧ r.cyc j = r.cyc j ∧ True) ∧ True) ∧ (¬(r.bad c ∨ cost k = (0 : Int)) → (r.st = true → v = (22 :
  Int) ∧ True ∧ ((3 : Nat) ≤ (3 : Nat) ∧ r.cores = r.cores ∧ (True ∧ True ∧ (0 : Nat) = (0 : Nat) ∧ r.n = r.n ∧ r.cap = r.cap) ∧ r.st = r.st ∧ True) ∧ (r.cap * (3 : Nat) ≤ r.cap * (3 : Nat) ∧ r.n = r.n ∧ ∀ (j : Nat), j <
  r.n → r.core j = r.core j ∧ r.kind j = r.kind j ∧ r.cyc j = r.cyc j ∧ True) ∧ True) ∧ (¬r.st = true → ∃ (x : Nat), r.n + (1 : Nat) ≤ x ∧ (v = if r.left c ≤ cost k * y then (22 : Int) else (0 : Int)) ∧ True ∧ ((3 : Nat) ≤
  (3 : Nat) ∧ r.cores = (r.on c k (cost k * y) x).cores ∧ (True ∧ True ∧ (0 : Nat) = (0 : Nat) ∧ r.n = (r.on c k (cost k * y) x).n ∧ r.cap = (r.on c k (cost k * y) x).cap) ∧ r.st = (r.on c k (cost k * y) x).st ∧ True) ∧ (0
  : Nat) = (0 : Nat) ∧ ((r.on c k (cost k * y) x).cap * (3 : Nat) ≤ r.cap * (3 : Nat) ∧ (r.on c k (cost k * y) x).n = r.n ∧ ∀ (j : Nat), j < r.n → r.core j = (r.on c k (cost k * y) x).core j ∧ r.kind j = (r.on c k (cost k
  * y) x).kind j ∧ r.cyc j = (r.on c k (cost k * y) x).cyc j ∧ True) ∧ True))) ∧ (decide (c ≥ r.cores) = false → ((k = k ∧ True) ∧ True) ∧ ((cost k == (0 : Int)) = true → ∀ (v : Int), v = (11 : Int) → r.Ok ∧ (0 : Int) ≤ y
  ∧ y < (18446744073709551616 : Int) → (r.bad c ∨ cost k = (0 : Int) → v = (11 : Int) ∧ True ∧ ((3 : Nat) ≤ (3 : Nat) ∧ r.cores = r.cores ∧ (True ∧ True ∧ (0 : Nat) = (0 : Nat) ∧ r.n = r.n ∧ r.cap = r.cap) ∧ r.st = r.st ∧
  True) ∧ (r.cap * (3 : Nat) ≤ r.cap * (3 : Nat) ∧ r.n = r.n ∧ ∀ (j : Nat), j < r.n → r.core j = r.core j ∧ r.kind j = r.kind j ∧ r.cyc j = r.cyc j ∧ True) ∧ True) ∧ (¬(r.bad c ∨ cost k = (0 : Int)) → (r.st = true → v =
  (22 : Int) ∧ True ∧ ((3 : Nat) ≤ (3 : Nat) ∧ r.cores = r.cores ∧ (True ∧ True ∧ (0 : Nat) = (0 : Nat) ∧ r.n = r.n ∧ r.cap = r.cap) ∧ r.st = r.st ∧ True) ∧ (r.cap * (3 : Nat) ≤ r.cap * (3 : Nat) ∧ r.n = r.n ∧ ∀ (j : Nat),
  j < r.n → r.core j = r.core j ∧ r.kind j = r.kind j ∧ r.cyc j = r.cyc j ∧ True) ∧ True) ∧ (¬r.st = true → ∃ (x : Nat), r.n + (1 : Nat) ≤ x ∧ (v = if r.left c ≤ cost k * y then (22 : Int) else (0 : Int)) ∧ True ∧ ((3 :
  Nat) ≤ (3 : Nat) ∧ r.cores = (r.on c k (cost k * y) x).cores ∧ (True ∧ True ∧ (0 : Nat) = (0 : Nat) ∧ r.n = (r.on c k (cost k * y) x).n ∧ r.cap = (r.on c k (cost k * y) x).cap) ∧ r.st = (r.on c k (cost k * y) x).st ∧
  True) ∧ (0 : Nat) = (0 : Nat) ∧ ((r.on c k (cost k * y) x).cap * (3 : Nat) ≤ r.cap * (3 : Nat) ∧ (r.on c k (cost k * y) x).n = r.n ∧ ∀ (j : Nat), j < r.n → r.core j = (r.on c k (cost k * y) x).core j ∧ r.kind j = (r.on c
  k (cost k * y) x).kind j ∧ r.cyc j = (r.on c k (cost k * y) x).cyc j ∧ True) ∧ True))) ∧ ((cost k == (0 : Int)) = false → (r.st = true → ∀ (v : Int), v = (22 : Int) → r.Ok ∧ (0 : Int) ≤ y ∧ y < (18446744073709551616 :
  Int) → (r.bad c ∨ cost k = (0 : Int) → v = (11 : Int) ∧ True ∧ ((3 : Nat) ≤ (3 : Nat) ∧ r.cores = r.cores ∧ (True ∧ True ∧ (0 : Nat) = (0 : Nat) ∧ r.n = r.n ∧ r.cap = r.cap) ∧ r.st = r.st ∧ True) ∧ (r.cap * (3 : Nat) ≤
  r.cap * (3 : Nat) ∧ r.n = r.n ∧ ∀ (j : Nat), j < r.n → r.core j = r.core j ∧ r.kind j = r.kind j ∧ r.cyc j = r.cyc j ∧ True) ∧ True) ∧ (¬(r.bad c ∨ cost k = (0 : Int)) → (r.st = true → v = (22 : Int) ∧ True ∧ ((3 : Nat)
  ≤ (3 : Nat) ∧ r.cores = r.cores ∧ (True ∧ True ∧ (0 : Nat) = (0 : Nat) ∧ r.n = r.n ∧ r.cap = r.cap) ∧ r.st = r.st ∧ True) ∧ (r.cap * (3 : Nat) ≤ r.cap * (3 : Nat) ∧ r.n = r.n ∧ ∀ (j : Nat), j < r.n → r.core j = r.core j
  ∧ r.kind j = r.kind j ∧ r.cyc j = r.cyc j ∧ True) ∧ True) ∧ (¬r.st = true → ∃ (x : Nat), r.n + (1 : Nat) ≤ x ∧ (v = if r.left c ≤ cost k * y then (22 : Int) else (0 : Int)) ∧ True ∧ ((3 : Nat) ≤ (3 : Nat) ∧ r.cores =
  (r.on c k (cost k * y) x).cores ∧ (True ∧ True ∧ (0 : Nat) = (0 : Nat) ∧ r.n = (r.on c k (cost k * y) x).n ∧ r.cap = (r.on c k (cost k * y) x).cap) ∧ r.st = (r.on c k (cost k * y) x).st ∧ True) ∧ (0 : Nat) = (0 : Nat) ∧
  ((r.on c k (cost k * y) x).cap * (3 : Nat) ≤ r.cap * (3 : Nat) ∧ (r.on c k (cost k * y) x).n = r.n ∧ ∀ (j : Nat), j < r.n → r.core j = (r.on c k (cost k * y) x).core j ∧ r.kind j = (r.on c k (cost k * y) x).kind j ∧
  r.cyc j = (r.on c k (cost k * y) x).cyc j ∧ True) ∧ True))) ∧ (r.st = false → ((k = k ∧ True) ∧ True) ∧ ((cost k = cost k ∧ y = y ∧ True) ∧ True) ∧ (((0 : Int) ≤ cost k ∧ cost k < (18446744073709551616 : Int)) ∧ (0 :
  Int) ≤ y ∧ y < (18446744073709551616 : Int)) ∧ (decide (cost k * y / (18446744073709551616 : Int) > (0 : Int)) = true → (((True ∧ True) ∧ c = c ∧ k = k ∧ (4611686018427387904 : Int) = (4611686018427387904 : Int) ∧ True)
  ∧ ((3 : Nat) ≤ (3 : Nat) ∧ r.cores = r.cores ∧ (True ∧ True ∧ (0 : Nat) = (0 : Nat) ∧ r.n = r.n ∧ r.cap = r.cap) ∧ r.st = r.st ∧ True) ∧ (r.cap * (3 : Nat) ≤ r.cap * (3 : Nat) ∧ r.n = r.n ∧ ∀ (j : Nat), j < r.n → r.core
  j = r.core j ∧ r.kind j = r.kind j ∧ r.cyc j = r.cyc j ∧ True) ∧ True) ∧ (r.Ok ∧ (0 : Int) ≤ (4611686018427387904 : Int) ∧ (4611686018427387904 : Int) < (18446744073709551616 : Int)) ∧ ∀ (x : Nat), r.n + (1 : Nat) ≤ x →
  ∀ (v : Int), (v = if r.left c ≤ (4611686018427387904 : Int) then (22 : Int) else (0 : Int)) → r.Ok ∧ (0 : Int) ≤ y ∧ y < (18446744073709551616 : Int) → (r.bad c ∨ cost k = (0 : Int) → v = (11 : Int) ∧ True ∧ ((3 : Nat) ≤
  (3 : Nat) ∧ (r.on c k (4611686018427387904 : Int) x).cores = r.cores ∧ (False ∧ True ∧ (0 : Nat) = (0 : Nat) ∧ (r.on c k (4611686018427387904 : Int) x).n = r.n ∧ (r.on c k (4611686018427387904 : Int) x).cap = r.cap) ∧
  (r.on c k (4611686018427387904 : Int) x).st = r.st ∧ True) ∧ False ∧ True) ∧ (¬(r.bad c ∨ cost k = (0 : Int)) → (r.st = true → v = (22 : Int) ∧ True ∧ ((3 : Nat) ≤ (3 : Nat) ∧ (r.on c k (4611686018427387904 : Int)
  x).cores = r.cores ∧ (False ∧ True ∧ (0 : Nat) = (0 : Nat) ∧ (r.on c k (4611686018427387904 : Int) x).n = r.n ∧ (r.on c k (4611686018427387904 : Int) x).cap = r.cap) ∧ (r.on c k (4611686018427387904 : Int) x).st = r.st ∧
  True) ∧ False ∧ True) ∧ (¬r.st = true → ∃ (x_1 : Nat), r.n + (1 : Nat) ≤ x_1 ∧ (v = if r.left c ≤ cost k * y then (22 : Int) else (0 : Int)) ∧ True ∧ ((3 : Nat) ≤ (3 : Nat) ∧ (r.on c k (4611686018427387904 : Int)
  x).cores = (r.on c k (cost k * y) x_1).cores ∧ (True ∧ True ∧ (0 : Nat) = (0 : Nat) ∧ (r.on c k (4611686018427387904 : Int) x).n = (r.on c k (cost k * y) x_1).n ∧ (r.on c k (4611686018427387904 : Int) x).cap = (r.on c k
  (cost k * y) x_1).cap) ∧ (r.on c k (4611686018427387904 : Int) x).st = (r.on c k (cost k * y) x_1).st ∧ True) ∧ (0 : Nat) = (0 : Nat) ∧ ((r.on c k (cost k * y) x_1).cap * (3 : Nat) ≤ (r.on c k (4611686018427387904 : Int)
  x).cap * (3 : Nat) ∧ (r.on c k (cost k * y) x_1).n = (r.on c k (4611686018427387904 : Int) x).n ∧ ∀ (j : Nat), j < (r.on c k (4611686018427387904 : Int) x).n → (r.on c k (4611686018427387904 : Int) x).core j = (r.on c k
  (cost k * y) x_1).core j ∧ (r.on c k (4611686018427387904 : Int) x).kind j = (r.on c k (cost k * y) x_1).kind j ∧ (r.on c k (4611686018427387904 : Int) x).cyc j = (r.on c k (cost k * y) x_1).cyc j ∧ True) ∧ True))) ∧
  (decide (cost k * y / (18446744073709551616 : Int) > (0 : Int)) = false → (((True ∧ True) ∧ c = c ∧ k = k ∧ cost k * y % (18446744073709551616 : Int) = cost k * y % (18446744073709551616 : Int) ∧ True) ∧ ((3 : Nat) ≤ (3
  : Nat) ∧ r.cores = r.cores ∧ (True ∧ True ∧ (0 : Nat) = (0 : Nat) ∧ r.n = r.n ∧ r.cap = r.cap) ∧ r.st = r.st ∧ True) ∧ (r.cap * (3 : Nat) ≤ r.cap * (3 : Nat) ∧ r.n = r.n ∧ ∀ (j : Nat), j < r.n → r.core j = r.core j ∧
  r.kind j = r.kind j ∧ r.cyc j = r.cyc j ∧ True) ∧ True) ∧ (r.Ok ∧ (0 : Int) ≤ cost k * y % (18446744073709551616 : Int) ∧ cost k * y % (18446744073709551616 : Int) < (18446744073709551616 : Int)) ∧ ∀ (x : Nat), r.n + (1
  : Nat) ≤ x → ∀ (v : Int), (v = if r.left c ≤ cost k * y % (18446744073709551616 : Int) then (22 : Int) else (0 : Int)) → r.Ok ∧ (0 : Int) ≤ y ∧ y < (18446744073709551616 : Int) → (r.bad c ∨ cost k = (0 : Int) → v = (11 :
  Int) ∧ True ∧ ((3 : Nat) ≤ (3 : Nat) ∧ (r.on c k (cost k * y % (18446744073709551616 : Int)) x).cores = r.cores ∧ (False ∧ True ∧ (0 : Nat) = (0 : Nat) ∧ (r.on c k (cost k * y % (18446744073709551616 : Int)) x).n = r.n ∧
  (r.on c k (cost k * y % (18446744073709551616 : Int)) x).cap = r.cap) ∧ (r.on c k (cost k * y % (18446744073709551616 : Int)) x).st = r.st ∧ True) ∧ False ∧ True) ∧ (¬(r.bad c ∨ cost k = (0 : Int)) → (r.st = true → v =
  (22 : Int) ∧ True ∧ ((3 : Nat) ≤ (3 : Nat) ∧ (r.on c k (cost k * y % (18446744073709551616 : Int)) x).cores = r.cores ∧ (False ∧ True ∧ (0 : Nat) = (0 : Nat) ∧ (r.on c k (cost k * y % (18446744073709551616 : Int)) x).n =
  r.n ∧ (r.on c k (cost k * y % (18446744073709551616 : Int)) x).cap = r.cap) ∧ (r.on c k (cost k * y % (18446744073709551616 : Int)) x).st = r.st ∧ True) ∧ False ∧ True) ∧ (¬r.st = true → ∃ (x_1 : Nat), r.n + (1 : Nat) ≤
  x_1 ∧ (v = if r.left c ≤ cost k * y then (22 : Int) else (0 : Int)) ∧ True ∧ ((3 : Nat) ≤ (3 : Nat) ∧ (r.on c k (cost k * y % (18446744073709551616 : Int)) x).cores = (r.on c k (cost k * y) x_1).cores ∧ (True ∧ True ∧ (0
  : Nat) = (0 : Nat) ∧ (r.on c k (cost k * y % (18446744073709551616 : Int)) x).n = (r.on c k (cost k * y) x_1).n ∧ (r.on c k (cost k * y % (18446744073709551616 : Int)) x).cap = (r.on c k (cost k * y) x_1).cap) ∧ (r.on c
  k (cost k * y % (18446744073709551616 : Int)) x).st = (r.on c k (cost k * y) x_1).st ∧ True) ∧ (0 : Nat) = (0 : Nat) ∧ ((r.on c k (cost k * y) x_1).cap * (3 : Nat) ≤ (r.on c k (cost k * y % (18446744073709551616 : Int))
  x).cap * (3 : Nat) ∧ (r.on c k (cost k * y) x_1).n = (r.on c k (cost k * y % (18446744073709551616 : Int)) x).n ∧ ∀ (j : Nat), j < (r.on c k (cost k * y % (18446744073709551616 : Int)) x).n → (r.on c k (cost k * y %
  (18446744073709551616 : Int)) x).core j = (r.on c k (cost k * y) x_1).core j ∧ (r.on c k (cost k * y % (18446744073709551616 : Int)) x).kind j = (r.on c k (cost k * y) x_1).kind j ∧ (r.on c k (cost k * y %
  (18446744073709551616 : Int)) x).cyc j = (r.on c k (cost k * y) x_1).cyc j ∧ True) ∧ True))))))) := by
  simp only [true_and, and_true, eq_self, Nat.le_refl, decide_eq_true_eq, decide_eq_false_iff_not, beq_iff_eq, beq_eq_false_iff_ne, implies_true, and_self, Int.not_lt, Int.not_le, ge_iff_le, gt_iff_lt, ne_eq, Bool.not_eq_true]
  rintro r c k y ⟨hr, hy⟩ _ _
  have hk := cost_bd k
  have hl : r.left c ≤ 4611686018427387904 := by
    have := hr.bd c (-1) (Nat.le_refl _)
    unfold RS.left RS.sum; omega
  have hp : 0 ≤ cost k * y := Int.mul_nonneg hk.1 hy.1
  have bad1 : c < 0 → r.bad c := fun h h2 => by omega
  have bad2 : r.cores ≤ c → r.bad c := fun h h2 => by omega
  refine ⟨fun h v hv _ => ⟨fun _ => hv, fun h2 => absurd (.inl (bad1 h)) h2⟩, fun h0 => ⟨fun h v hv _ => ⟨fun _ => hv, fun h2 => absurd (.inl (bad2 h)) h2⟩, fun h1 => ⟨fun h v hv _ => ⟨fun _ => hv, fun h2 => absurd (.inr h) h2⟩, fun hk0 => ?_⟩⟩⟩
  have good : ¬ (r.bad c ∨ cost k = 0) := fun h => h.elim (fun hb => hb ⟨h0, h1⟩) hk0
  refine ⟨fun hst v hv _ => ⟨fun h2 => absurd h2 good, fun _ => ⟨fun _ => hv, fun h => by rw [hst] at h; cases h⟩⟩, fun hst => ⟨⟨by omega, hy⟩, fun hhi => ⟨⟨hr, by decide, by decide⟩, fun x hx v hv _ => ⟨fun h2 => absurd h2 good, fun _ => ⟨fun h => (by rw [hst] at h; cases h), fun _ => ⟨x, hx, ?_, ?_⟩⟩⟩⟩, fun hlo => ⟨⟨hr, by omega, by omega⟩, fun x hx v hv _ => ⟨fun h2 => absurd h2 good, fun _ => ⟨fun h => (by rw [hst] at h; cases h), fun _ => ⟨x, hx, ?_, ?_⟩⟩⟩⟩⟩⟩
  · obtain ⟨e1, e2⟩ := r.on_cut c k hl hhi x
    rw [hv]; simp only [e2]
  · obtain ⟨e1, e2⟩ := r.on_cut c k hl hhi x
    rw [e1]
    exact ⟨⟨rfl, ⟨rfl, rfl⟩, rfl⟩, Nat.le_refl _, rfl, fun j _ => ⟨rfl, rfl, rfl⟩⟩
  · have e : cost k * y % 18446744073709551616 = cost k * y := by omega
    rw [hv, e]
  · have e : cost k * y % 18446744073709551616 = cost k * y := by omega
    rw [e]
    exact ⟨⟨rfl, ⟨rfl, rfl⟩, rfl⟩, Nat.le_refl _, rfl, fun j _ => ⟨rfl, rfl, rfl⟩⟩

def rdo_C (_ : (RS × Int × Int × Int)) : Cfg := { Γ := Go.Sx.look tDo, names := true }
theorem rdo_al (x : (RS × Int × Int × Int)) : Shown (rdoP.vc Try.prog (rdo_C x) Try.f12 x) := ⟨@Eq.mp _ _ (by kernel_rfl) (rdo_vc (x.1) (x.2.1) (x.2.2.1) (x.2.2.2))⟩
theorem rdo_ok : SpOk Try.prog 12 rdoP.sp := @Pat.okS _ rdoP Try.prog rdo_C 12 Try.f12 (fun x => cfg_tab rfl tDo_ok) (by kernel_rfl) Try.func12 (fun _ => rfl) rdo_al
theorem R0.left_eq (r : R0) (c : Int) : r.rs.left c = 4611686018427387904 := rfl
theorem rdoN_vc : ∀ (r : R0) (c k y : Int), ((0 : Int) ≤ y ∧ y < (18446744073709551616 : Int)) ∧ True → ∀ (v : Int), v = (0 : Int) → (decide (c < (0 : Int)) = true → ∀ (v : Int), v = (11 : Int) → (0 : Int) ≤ y ∧ y < (18446744073709551616
  : Int) → (r.rs.bad c ∨ cost k = (0 : Int) → v = (11 : Int) ∧ True ∧ ((3 : Nat) ≤ (3 : Nat) ∧ r.cores = r.cores ∧ True ∧ r.st = r.st ∧ True) ∧ True) ∧ (¬(r.rs.bad c ∨ cost k = (0 : Int)) → (r.st = true → v = (22 : Int) ∧
  True ∧ ((3 : Nat) ≤ (3 : Nat) ∧ r.cores = r.cores ∧ True ∧ r.st = r.st ∧ True) ∧ True) ∧ (¬r.st = true → ∃ (x : Nat), r.rs.n + (1 : Nat) ≤ x ∧ (v = if r.rs.left c ≤ cost k * y then (22 : Int) else (0 : Int)) ∧ False))) ∧
  (decide (c < (0 : Int)) = false → (decide (c ≥ r.cores) = true → ∀ (v : Int), v = (11 : Int) → (0 : Int) ≤ y ∧ y < (18446744073709551616 : Int) → (r.rs.bad c ∨ cost k = (0 : Int) → v = (11 : Int) ∧ True ∧ ((3 : Nat) ≤ (3
  : Nat) ∧ r.cores = r.cores ∧ True ∧ r.st = r.st ∧ True) ∧ True) ∧ (¬(r.rs.bad c ∨ cost k = (0 : Int)) → (r.st = true → v = (22 : Int) ∧ True ∧ ((3 : Nat) ≤ (3 : Nat) ∧ r.cores = r.cores ∧ True ∧ r.st = r.st ∧ True) ∧
  True) ∧ (¬r.st = true → ∃ (x : Nat), r.rs.n + (1 : Nat) ≤ x ∧ (v = if r.rs.left c ≤ cost k * y then (22 : Int) else (0 : Int)) ∧ False))) ∧ (decide (c ≥ r.cores) = false → ((k = k ∧ True) ∧ True) ∧ ((cost k == (0 : Int))
  = true → ∀ (v : Int), v = (11 : Int) → (0 : Int) ≤ y ∧ y < (18446744073709551616 : Int) → (r.rs.bad c ∨ cost k = (0 : Int) → v = (11 : Int) ∧ True ∧ ((3 : Nat) ≤ (3 : Nat) ∧ r.cores = r.cores ∧ True ∧ r.st = r.st ∧ True)
  ∧ True) ∧ (¬(r.rs.bad c ∨ cost k = (0 : Int)) → (r.st = true → v = (22 : Int) ∧ True ∧ ((3 : Nat) ≤ (3 : Nat) ∧ r.cores = r.cores ∧ True ∧ r.st = r.st ∧ True) ∧ True) ∧ (¬r.st = true → ∃ (x : Nat), r.rs.n + (1 : Nat) ≤ x
  ∧ (v = if r.rs.left c ≤ cost k * y then (22 : Int) else (0 : Int)) ∧ False))) ∧ ((cost k == (0 : Int)) = false → (r.st = true → ∀ (v : Int), v = (22 : Int) → (0 : Int) ≤ y ∧ y < (18446744073709551616 : Int) → (r.rs.bad c
  ∨ cost k = (0 : Int) → v = (11 : Int) ∧ True ∧ ((3 : Nat) ≤ (3 : Nat) ∧ r.cores = r.cores ∧ True ∧ r.st = r.st ∧ True) ∧ True) ∧ (¬(r.rs.bad c ∨ cost k = (0 : Int)) → (r.st = true → v = (22 : Int) ∧ True ∧ ((3 : Nat) ≤
  (3 : Nat) ∧ r.cores = r.cores ∧ True ∧ r.st = r.st ∧ True) ∧ True) ∧ (¬r.st = true → ∃ (x : Nat), r.rs.n + (1 : Nat) ≤ x ∧ (v = if r.rs.left c ≤ cost k * y then (22 : Int) else (0 : Int)) ∧ False))) ∧ (r.st = false → ((k
  = k ∧ True) ∧ True) ∧ ((cost k = cost k ∧ y = y ∧ True) ∧ True) ∧ (((0 : Int) ≤ cost k ∧ cost k < (18446744073709551616 : Int)) ∧ (0 : Int) ≤ y ∧ y < (18446744073709551616 : Int)) ∧ (decide (cost k * y /
  (18446744073709551616 : Int) > (0 : Int)) = true → (((True ∧ True) ∧ c = c ∧ k = k ∧ (4611686018427387904 : Int) = (4611686018427387904 : Int) ∧ True) ∧ ((3 : Nat) ≤ (3 : Nat) ∧ r.cores = r.cores ∧ True ∧ r.st = r.st ∧
  True) ∧ True) ∧ ((0 : Int) ≤ (4611686018427387904 : Int) ∧ (4611686018427387904 : Int) < (18446744073709551616 : Int)) ∧ ∀ (x : Nat), r.rs.n + (1 : Nat) ≤ x → ∀ (v : Int), (v = if r.rs.left c ≤ (4611686018427387904 :
  Int) then (22 : Int) else (0 : Int)) → (0 : Int) ≤ y ∧ y < (18446744073709551616 : Int) → (r.rs.bad c ∨ cost k = (0 : Int) → v = (11 : Int) ∧ True ∧ ((3 : Nat) ≤ (3 : Nat) ∧ (r.rs.on c k (4611686018427387904 : Int)
  x).cores = r.cores ∧ False ∧ (r.rs.on c k (4611686018427387904 : Int) x).st = r.st ∧ True) ∧ True) ∧ (¬(r.rs.bad c ∨ cost k = (0 : Int)) → (r.st = true → v = (22 : Int) ∧ True ∧ ((3 : Nat) ≤ (3 : Nat) ∧ (r.rs.on c k
  (4611686018427387904 : Int) x).cores = r.cores ∧ False ∧ (r.rs.on c k (4611686018427387904 : Int) x).st = r.st ∧ True) ∧ True) ∧ (¬r.st = true → ∃ (x_1 : Nat), r.rs.n + (1 : Nat) ≤ x_1 ∧ (v = if r.rs.left c ≤ cost k * y
  then (22 : Int) else (0 : Int)) ∧ True ∧ ((3 : Nat) ≤ (3 : Nat) ∧ (r.rs.on c k (4611686018427387904 : Int) x).cores = (r.rs.on c k (cost k * y) x_1).cores ∧ (True ∧ True ∧ (0 : Nat) = (0 : Nat) ∧ (r.rs.on c k
  (4611686018427387904 : Int) x).n = (r.rs.on c k (cost k * y) x_1).n ∧ (r.rs.on c k (4611686018427387904 : Int) x).cap = (r.rs.on c k (cost k * y) x_1).cap) ∧ (r.rs.on c k (4611686018427387904 : Int) x).st = (r.rs.on c k
  (cost k * y) x_1).st ∧ True) ∧ ((r.rs.on c k (cost k * y) x_1).cap * (3 : Nat) ≤ (r.rs.on c k (4611686018427387904 : Int) x).cap * (3 : Nat) ∧ (r.rs.on c k (cost k * y) x_1).n = (r.rs.on c k (4611686018427387904 : Int)
  x).n ∧ ∀ (j : Nat), j < (r.rs.on c k (4611686018427387904 : Int) x).n → (r.rs.on c k (4611686018427387904 : Int) x).core j = (r.rs.on c k (cost k * y) x_1).core j ∧ (r.rs.on c k (4611686018427387904 : Int) x).kind j =
  (r.rs.on c k (cost k * y) x_1).kind j ∧ (r.rs.on c k (4611686018427387904 : Int) x).cyc j = (r.rs.on c k (cost k * y) x_1).cyc j ∧ True) ∧ True))) ∧ (decide (cost k * y / (18446744073709551616 : Int) > (0 : Int)) = false
  → (((True ∧ True) ∧ c = c ∧ k = k ∧ cost k * y % (18446744073709551616 : Int) = cost k * y % (18446744073709551616 : Int) ∧ True) ∧ ((3 : Nat) ≤ (3 : Nat) ∧ r.cores = r.cores ∧ True ∧ r.st = r.st ∧ True) ∧ True) ∧ ((0 :
  Int) ≤ cost k * y % (18446744073709551616 : Int) ∧ cost k * y % (18446744073709551616 : Int) < (18446744073709551616 : Int)) ∧ ∀ (x : Nat), r.rs.n + (1 : Nat) ≤ x → ∀ (v : Int), (v = if r.rs.left c ≤ cost k * y %
  (18446744073709551616 : Int) then (22 : Int) else (0 : Int)) → (0 : Int) ≤ y ∧ y < (18446744073709551616 : Int) → (r.rs.bad c ∨ cost k = (0 : Int) → v = (11 : Int) ∧ True ∧ ((3 : Nat) ≤ (3 : Nat) ∧ (r.rs.on c k (cost k *
  y % (18446744073709551616 : Int)) x).cores = r.cores ∧ False ∧ (r.rs.on c k (cost k * y % (18446744073709551616 : Int)) x).st = r.st ∧ True) ∧ True) ∧ (¬(r.rs.bad c ∨ cost k = (0 : Int)) → (r.st = true → v = (22 : Int) ∧
  True ∧ ((3 : Nat) ≤ (3 : Nat) ∧ (r.rs.on c k (cost k * y % (18446744073709551616 : Int)) x).cores = r.cores ∧ False ∧ (r.rs.on c k (cost k * y % (18446744073709551616 : Int)) x).st = r.st ∧ True) ∧ True) ∧ (¬r.st = true
  → ∃ (x_1 : Nat), r.rs.n + (1 : Nat) ≤ x_1 ∧ (v = if r.rs.left c ≤ cost k * y then (22 : Int) else (0 : Int)) ∧ True ∧ ((3 : Nat) ≤ (3 : Nat) ∧ (r.rs.on c k (cost k * y % (18446744073709551616 : Int)) x).cores = (r.rs.on
  c k (cost k * y) x_1).cores ∧ (True ∧ True ∧ (0 : Nat) = (0 : Nat) ∧ (r.rs.on c k (cost k * y % (18446744073709551616 : Int)) x).n = (r.rs.on c k (cost k * y) x_1).n ∧ (r.rs.on c k (cost k * y % (18446744073709551616 :
  Int)) x).cap = (r.rs.on c k (cost k * y) x_1).cap) ∧ (r.rs.on c k (cost k * y % (18446744073709551616 : Int)) x).st = (r.rs.on c k (cost k * y) x_1).st ∧ True) ∧ ((r.rs.on c k (cost k * y) x_1).cap * (3 : Nat) ≤ (r.rs.on
  c k (cost k * y % (18446744073709551616 : Int)) x).cap * (3 : Nat) ∧ (r.rs.on c k (cost k * y) x_1).n = (r.rs.on c k (cost k * y % (18446744073709551616 : Int)) x).n ∧ ∀ (j : Nat), j < (r.rs.on c k (cost k * y %
  (18446744073709551616 : Int)) x).n → (r.rs.on c k (cost k * y % (18446744073709551616 : Int)) x).core j = (r.rs.on c k (cost k * y) x_1).core j ∧ (r.rs.on c k (cost k * y % (18446744073709551616 : Int)) x).kind j =
  (r.rs.on c k (cost k * y) x_1).kind j ∧ (r.rs.on c k (cost k * y % (18446744073709551616 : Int)) x).cyc j = (r.rs.on c k (cost k * y) x_1).cyc j ∧ True) ∧ True))))))) := by
  simp only [true_and, and_true, eq_self, Nat.le_refl, decide_eq_true_eq, decide_eq_false_iff_not, beq_iff_eq, beq_eq_false_iff_ne, and_self, Int.not_lt, Int.not_le, ge_iff_le, gt_iff_lt, ne_eq, Bool.not_eq_true]
  rintro r c k y hy _ _
  have hk := cost_bd k
  have hl : r.rs.left c ≤ 4611686018427387904 := by rw [R0.left_eq]; exact Int.le_refl _
  have hp : 0 ≤ cost k * y := Int.mul_nonneg hk.1 hy.1
  have bad1 : c < 0 → r.rs.bad c := fun h h2 => by omega
  have bad2 : r.cores ≤ c → r.rs.bad c := fun h h2 => by have h3 : c < r.cores := h2.2; omega
  refine ⟨fun h v hv _ => ⟨fun _ => hv, fun h2 => absurd (.inl (bad1 h)) h2⟩, fun h0 => ⟨fun h v hv _ => ⟨fun _ => hv, fun h2 => absurd (.inl (bad2 h)) h2⟩, fun h1 => ⟨fun h v hv _ => ⟨fun _ => hv, fun h2 => absurd (.inr h) h2⟩, fun hk0 => ?_⟩⟩⟩
  have good : ¬ (r.rs.bad c ∨ cost k = 0) := fun h => h.elim (fun hb => hb ⟨h0, h1⟩) hk0
  refine ⟨fun hst v hv _ => ⟨fun h2 => absurd h2 good, fun _ => ⟨fun _ => hv, fun h => (by rw [hst] at h; cases h)⟩⟩, fun hst => ⟨⟨by omega, hy⟩, fun hhi => ⟨⟨by decide, by decide⟩, fun x hx v hv _ => ⟨fun h2 => absurd h2 good, fun _ => ⟨fun h => (by rw [hst] at h; cases h), fun _ => ⟨x, hx, ?_, ?_⟩⟩⟩⟩, fun hlo => ⟨⟨by omega, by omega⟩, fun x hx v hv _ => ⟨fun h2 => absurd h2 good, fun _ => ⟨fun h => (by rw [hst] at h; cases h), fun _ => ⟨x, hx, ?_, ?_⟩⟩⟩⟩⟩⟩
  · obtain ⟨e1, e2⟩ := r.rs.on_cut c k hl hhi x
    rw [hv]; simp only [e2]
  · obtain ⟨e1, e2⟩ := r.rs.on_cut c k hl hhi x
    rw [e1]
    exact ⟨⟨rfl, ⟨rfl, rfl⟩, rfl⟩, Nat.le_refl _, rfl, fun j _ => ⟨rfl, rfl, rfl⟩⟩
  · have e : cost k * y % 18446744073709551616 = cost k * y := by omega
    rw [hv, e]
  · have e : cost k * y % 18446744073709551616 = cost k * y := by omega
    rw [e]
    exact ⟨⟨rfl, ⟨rfl, rfl⟩, rfl⟩, Nat.le_refl _, rfl, fun j _ => ⟨rfl, rfl, rfl⟩⟩

def rdoN_C (_ : (R0 × Int × Int × Int)) : Cfg := { Γ := Go.Sx.look tDo, names := true }
theorem rdoN_al (x : (R0 × Int × Int × Int)) : Shown (rdoNP.vc Try.prog (rdoN_C x) Try.f12 x) := ⟨@Eq.mp _ _ (by kernel_rfl) (rdoN_vc (x.1) (x.2.1) (x.2.2.1) (x.2.2.2))⟩
theorem rdoN_ok : SpOk Try.prog 12 rdoNP.sp := @Pat.okS _ rdoNP Try.prog rdoN_C 12 Try.f12 (fun x => cfg_tab rfl tDo_ok) (by kernel_rfl) Try.func12 (fun _ => rfl) rdoN_al
theorem rwait_vc : ∀ (r : RS) (c y : Int), (r.Ok ∧ (0 : Int) ≤ y ∧ y < (18446744073709551616 : Int)) ∧ True → ∀ (v : Int), v = (0 : Int) → (decide (c < (0 : Int)) = true → ∀ (v : Int), v = (11 : Int) → r.Ok ∧ (0 : Int) ≤ y ∧ y <
  (18446744073709551616 : Int) → (r.bad c → v = (11 : Int) ∧ True ∧ ((3 : Nat) ≤ (3 : Nat) ∧ r.cores = r.cores ∧ (True ∧ True ∧ (0 : Nat) = (0 : Nat) ∧ r.n = r.n ∧ r.cap = r.cap) ∧ r.st = r.st ∧ True) ∧ (r.cap * (3 : Nat)
  ≤ r.cap * (3 : Nat) ∧ r.n = r.n ∧ ∀ (j : Nat), j < r.n → r.core j = r.core j ∧ r.kind j = r.kind j ∧ r.cyc j = r.cyc j ∧ True) ∧ True) ∧ (¬r.bad c → (r.st = true → v = (22 : Int) ∧ True ∧ ((3 : Nat) ≤ (3 : Nat) ∧ r.cores
  = r.cores ∧ (True ∧ True ∧ (0 : Nat) = (0 : Nat) ∧ r.n = r.n ∧ r.cap = r.cap) ∧ r.st = r.st ∧ True) ∧ (r.cap * (3 : Nat) ≤ r.cap * (3 : Nat) ∧ r.n = r.n ∧ ∀ (j : Nat), j < r.n → r.core j = r.core j ∧ r.kind j = r.kind j
  ∧ r.cyc j = r.cyc j ∧ True) ∧ True) ∧ (¬r.st = true → (y ≤ r.sum c (-1 : Int) → v = (0 : Int) ∧ True ∧ ((3 : Nat) ≤ (3 : Nat) ∧ r.cores = r.cores ∧ (True ∧ True ∧ (0 : Nat) = (0 : Nat) ∧ r.n = r.n ∧ r.cap = r.cap) ∧ r.st
  = r.st ∧ True) ∧ (r.cap * (3 : Nat) ≤ r.cap * (3 : Nat) ∧ r.n = r.n ∧ ∀ (j : Nat), j < r.n → r.core j = r.core j ∧ r.kind j = r.kind j ∧ r.cyc j = r.cyc j ∧ True) ∧ True) ∧ (¬y ≤ r.sum c (-1 : Int) → ∃ (x : Nat), r.n +
  (1 : Nat) ≤ x ∧ (v = if r.left c ≤ y - r.sum c (-1 : Int) then (22 : Int) else (0 : Int)) ∧ True ∧ ((3 : Nat) ≤ (3 : Nat) ∧ r.cores = (r.on c (0 : Int) (y - r.sum c (-1 : Int)) x).cores ∧ (True ∧ True ∧ (0 : Nat) = (0 :
  Nat) ∧ r.n = (r.on c (0 : Int) (y - r.sum c (-1 : Int)) x).n ∧ r.cap = (r.on c (0 : Int) (y - r.sum c (-1 : Int)) x).cap) ∧ r.st = (r.on c (0 : Int) (y - r.sum c (-1 : Int)) x).st ∧ True) ∧ (0 : Nat) = (0 : Nat) ∧ ((r.on
  c (0 : Int) (y - r.sum c (-1 : Int)) x).cap * (3 : Nat) ≤ r.cap * (3 : Nat) ∧ (r.on c (0 : Int) (y - r.sum c (-1 : Int)) x).n = r.n ∧ ∀ (j : Nat), j < r.n → r.core j = (r.on c (0 : Int) (y - r.sum c (-1 : Int)) x).core j
  ∧ r.kind j = (r.on c (0 : Int) (y - r.sum c (-1 : Int)) x).kind j ∧ r.cyc j = (r.on c (0 : Int) (y - r.sum c (-1 : Int)) x).cyc j ∧ True) ∧ True)))) ∧ (decide (c < (0 : Int)) = false → (decide (c ≥ r.cores) = true → ∀ (v
  : Int), v = (11 : Int) → r.Ok ∧ (0 : Int) ≤ y ∧ y < (18446744073709551616 : Int) → (r.bad c → v = (11 : Int) ∧ True ∧ ((3 : Nat) ≤ (3 : Nat) ∧ r.cores = r.cores ∧ (True ∧ True ∧ (0 : Nat) = (0 : Nat) ∧ r.n = r.n ∧ r.cap
  = r.cap) ∧ r.st = r.st ∧ True) ∧ (r.cap * (3 : Nat) ≤ r.cap * (3 : Nat) ∧ r.n = r.n ∧ ∀ (j : Nat), j < r.n → r.core j = r.core j ∧ r.kind j = r.kind j ∧ r.cyc j = r.cyc j ∧ True) ∧ True) ∧ (¬r.bad c → (r.st = true → v =
  (22 : Int) ∧ True ∧ ((3 : Nat) ≤ (3 : Nat) ∧ r.cores = r.cores ∧ (True ∧ True ∧ (0 : Nat) = (0 : Nat) ∧ r.n = r.n ∧ r.cap = r.cap) ∧ r.st = r.st ∧ True) ∧ (r.cap * (3 : Nat) ≤ r.cap * (3 : Nat) ∧ r.n = r.n ∧ ∀ (j : Nat),
  j < r.n → r.core j = r.core j ∧ r.kind j = r.kind j ∧ r.cyc j = r.cyc j ∧ True) ∧ True) ∧ (¬r.st = true → (y ≤ r.sum c (-1 : Int) → v = (0 : Int) ∧ True ∧ ((3 : Nat) ≤ (3 : Nat) ∧ r.cores = r.cores ∧ (True ∧ True ∧ (0 :
  Nat) = (0 : Nat) ∧ r.n = r.n ∧ r.cap = r.cap) ∧ r.st = r.st ∧ True) ∧ (r.cap * (3 : Nat) ≤ r.cap * (3 : Nat) ∧ r.n = r.n ∧ ∀ (j : Nat), j < r.n → r.core j = r.core j ∧ r.kind j = r.kind j ∧ r.cyc j = r.cyc j ∧ True) ∧
  True) ∧ (¬y ≤ r.sum c (-1 : Int) → ∃ (x : Nat), r.n + (1 : Nat) ≤ x ∧ (v = if r.left c ≤ y - r.sum c (-1 : Int) then (22 : Int) else (0 : Int)) ∧ True ∧ ((3 : Nat) ≤ (3 : Nat) ∧ r.cores = (r.on c (0 : Int) (y - r.sum c
  (-1 : Int)) x).cores ∧ (True ∧ True ∧ (0 : Nat) = (0 : Nat) ∧ r.n = (r.on c (0 : Int) (y - r.sum c (-1 : Int)) x).n ∧ r.cap = (r.on c (0 : Int) (y - r.sum c (-1 : Int)) x).cap) ∧ r.st = (r.on c (0 : Int) (y - r.sum c (-1
  : Int)) x).st ∧ True) ∧ (0 : Nat) = (0 : Nat) ∧ ((r.on c (0 : Int) (y - r.sum c (-1 : Int)) x).cap * (3 : Nat) ≤ r.cap * (3 : Nat) ∧ (r.on c (0 : Int) (y - r.sum c (-1 : Int)) x).n = r.n ∧ ∀ (j : Nat), j < r.n → r.core j
  = (r.on c (0 : Int) (y - r.sum c (-1 : Int)) x).core j ∧ r.kind j = (r.on c (0 : Int) (y - r.sum c (-1 : Int)) x).kind j ∧ r.cyc j = (r.on c (0 : Int) (y - r.sum c (-1 : Int)) x).cyc j ∧ True) ∧ True)))) ∧ (decide (c ≥
  r.cores) = false → (r.st = true → ∀ (v : Int), v = (22 : Int) → r.Ok ∧ (0 : Int) ≤ y ∧ y < (18446744073709551616 : Int) → (r.bad c → v = (11 : Int) ∧ True ∧ ((3 : Nat) ≤ (3 : Nat) ∧ r.cores = r.cores ∧ (True ∧ True ∧ (0
  : Nat) = (0 : Nat) ∧ r.n = r.n ∧ r.cap = r.cap) ∧ r.st = r.st ∧ True) ∧ (r.cap * (3 : Nat) ≤ r.cap * (3 : Nat) ∧ r.n = r.n ∧ ∀ (j : Nat), j < r.n → r.core j = r.core j ∧ r.kind j = r.kind j ∧ r.cyc j = r.cyc j ∧ True) ∧
  True) ∧ (¬r.bad c → (r.st = true → v = (22 : Int) ∧ True ∧ ((3 : Nat) ≤ (3 : Nat) ∧ r.cores = r.cores ∧ (True ∧ True ∧ (0 : Nat) = (0 : Nat) ∧ r.n = r.n ∧ r.cap = r.cap) ∧ r.st = r.st ∧ True) ∧ (r.cap * (3 : Nat) ≤ r.cap
  * (3 : Nat) ∧ r.n = r.n ∧ ∀ (j : Nat), j < r.n → r.core j = r.core j ∧ r.kind j = r.kind j ∧ r.cyc j = r.cyc j ∧ True) ∧ True) ∧ (¬r.st = true → (y ≤ r.sum c (-1 : Int) → v = (0 : Int) ∧ True ∧ ((3 : Nat) ≤ (3 : Nat) ∧
  r.cores = r.cores ∧ (True ∧ True ∧ (0 : Nat) = (0 : Nat) ∧ r.n = r.n ∧ r.cap = r.cap) ∧ r.st = r.st ∧ True) ∧ (r.cap * (3 : Nat) ≤ r.cap * (3 : Nat) ∧ r.n = r.n ∧ ∀ (j : Nat), j < r.n → r.core j = r.core j ∧ r.kind j =
  r.kind j ∧ r.cyc j = r.cyc j ∧ True) ∧ True) ∧ (¬y ≤ r.sum c (-1 : Int) → ∃ (x : Nat), r.n + (1 : Nat) ≤ x ∧ (v = if r.left c ≤ y - r.sum c (-1 : Int) then (22 : Int) else (0 : Int)) ∧ True ∧ ((3 : Nat) ≤ (3 : Nat) ∧
  r.cores = (r.on c (0 : Int) (y - r.sum c (-1 : Int)) x).cores ∧ (True ∧ True ∧ (0 : Nat) = (0 : Nat) ∧ r.n = (r.on c (0 : Int) (y - r.sum c (-1 : Int)) x).n ∧ r.cap = (r.on c (0 : Int) (y - r.sum c (-1 : Int)) x).cap) ∧
  r.st = (r.on c (0 : Int) (y - r.sum c (-1 : Int)) x).st ∧ True) ∧ (0 : Nat) = (0 : Nat) ∧ ((r.on c (0 : Int) (y - r.sum c (-1 : Int)) x).cap * (3 : Nat) ≤ r.cap * (3 : Nat) ∧ (r.on c (0 : Int) (y - r.sum c (-1 : Int))
  x).n = r.n ∧ ∀ (j : Nat), j < r.n → r.core j = (r.on c (0 : Int) (y - r.sum c (-1 : Int)) x).core j ∧ r.kind j = (r.on c (0 : Int) (y - r.sum c (-1 : Int)) x).kind j ∧ r.cyc j = (r.on c (0 : Int) (y - r.sum c (-1 : Int))
  x).cyc j ∧ True) ∧ True)))) ∧ (r.st = false → (((True ∧ True) ∧ c = c ∧ True) ∧ ((3 : Nat) ≤ (3 : Nat) ∧ r.cores = r.cores ∧ (True ∧ True ∧ (0 : Nat) = (0 : Nat) ∧ r.n = r.n ∧ r.cap = r.cap) ∧ r.st = r.st ∧ True) ∧
  (r.cap * (3 : Nat) ≤ r.cap * (3 : Nat) ∧ r.n = r.n ∧ ∀ (j : Nat), j < r.n → r.core j = r.core j ∧ r.kind j = r.kind j ∧ r.cyc j = r.cyc j ∧ True) ∧ True) ∧ r.Ok ∧ (decide (y ≤ r.sum c (-1 : Int)) = true → ∀ (v : Int), v
  = (0 : Int) → r.Ok ∧ (0 : Int) ≤ y ∧ y < (18446744073709551616 : Int) → (r.bad c → v = (11 : Int) ∧ True ∧ ((3 : Nat) ≤ (3 : Nat) ∧ r.cores = r.cores ∧ (True ∧ True ∧ (0 : Nat) = (0 : Nat) ∧ r.n = r.n ∧ r.cap = r.cap) ∧
  r.st = r.st ∧ True) ∧ (r.cap * (3 : Nat) ≤ r.cap * (3 : Nat) ∧ r.n = r.n ∧ ∀ (j : Nat), j < r.n → r.core j = r.core j ∧ r.kind j = r.kind j ∧ r.cyc j = r.cyc j ∧ True) ∧ True) ∧ (¬r.bad c → (r.st = true → v = (22 : Int)
  ∧ True ∧ ((3 : Nat) ≤ (3 : Nat) ∧ r.cores = r.cores ∧ (True ∧ True ∧ (0 : Nat) = (0 : Nat) ∧ r.n = r.n ∧ r.cap = r.cap) ∧ r.st = r.st ∧ True) ∧ (r.cap * (3 : Nat) ≤ r.cap * (3 : Nat) ∧ r.n = r.n ∧ ∀ (j : Nat), j < r.n →
  r.core j = r.core j ∧ r.kind j = r.kind j ∧ r.cyc j = r.cyc j ∧ True) ∧ True) ∧ (¬r.st = true → (y ≤ r.sum c (-1 : Int) → v = (0 : Int) ∧ True ∧ ((3 : Nat) ≤ (3 : Nat) ∧ r.cores = r.cores ∧ (True ∧ True ∧ (0 : Nat) = (0
  : Nat) ∧ r.n = r.n ∧ r.cap = r.cap) ∧ r.st = r.st ∧ True) ∧ (r.cap * (3 : Nat) ≤ r.cap * (3 : Nat) ∧ r.n = r.n ∧ ∀ (j : Nat), j < r.n → r.core j = r.core j ∧ r.kind j = r.kind j ∧ r.cyc j = r.cyc j ∧ True) ∧ True) ∧ (¬y
  ≤ r.sum c (-1 : Int) → ∃ (x : Nat), r.n + (1 : Nat) ≤ x ∧ (v = if r.left c ≤ y - r.sum c (-1 : Int) then (22 : Int) else (0 : Int)) ∧ True ∧ ((3 : Nat) ≤ (3 : Nat) ∧ r.cores = (r.on c (0 : Int) (y - r.sum c (-1 : Int))
  x).cores ∧ (True ∧ True ∧ (0 : Nat) = (0 : Nat) ∧ r.n = (r.on c (0 : Int) (y - r.sum c (-1 : Int)) x).n ∧ r.cap = (r.on c (0 : Int) (y - r.sum c (-1 : Int)) x).cap) ∧ r.st = (r.on c (0 : Int) (y - r.sum c (-1 : Int))
  x).st ∧ True) ∧ (0 : Nat) = (0 : Nat) ∧ ((r.on c (0 : Int) (y - r.sum c (-1 : Int)) x).cap * (3 : Nat) ≤ r.cap * (3 : Nat) ∧ (r.on c (0 : Int) (y - r.sum c (-1 : Int)) x).n = r.n ∧ ∀ (j : Nat), j < r.n → r.core j = (r.on
  c (0 : Int) (y - r.sum c (-1 : Int)) x).core j ∧ r.kind j = (r.on c (0 : Int) (y - r.sum c (-1 : Int)) x).kind j ∧ r.cyc j = (r.on c (0 : Int) (y - r.sum c (-1 : Int)) x).cyc j ∧ True) ∧ True)))) ∧ (decide (y ≤ r.sum c
  (-1 : Int)) = false → (((True ∧ True) ∧ c = c ∧ True) ∧ ((3 : Nat) ≤ (3 : Nat) ∧ r.cores = r.cores ∧ (True ∧ True ∧ (0 : Nat) = (0 : Nat) ∧ r.n = r.n ∧ r.cap = r.cap) ∧ r.st = r.st ∧ True) ∧ (r.cap * (3 : Nat) ≤ r.cap *
  (3 : Nat) ∧ r.n = r.n ∧ ∀ (j : Nat), j < r.n → r.core j = r.core j ∧ r.kind j = r.kind j ∧ r.cyc j = r.cyc j ∧ True) ∧ True) ∧ r.Ok ∧ (((True ∧ True) ∧ c = c ∧ (0 : Int) = (0 : Int) ∧ IntKind.u64.wrap (y - r.sum c (-1 :
  Int)) = IntKind.u64.wrap (y - r.sum c (-1 : Int)) ∧ True) ∧ ((3 : Nat) ≤ (3 : Nat) ∧ r.cores = r.cores ∧ (True ∧ True ∧ (0 : Nat) = (0 : Nat) ∧ r.n = r.n ∧ r.cap = r.cap) ∧ r.st = r.st ∧ True) ∧ (r.cap * (3 : Nat) ≤
  r.cap * (3 : Nat) ∧ r.n = r.n ∧ ∀ (j : Nat), j < r.n → r.core j = r.core j ∧ r.kind j = r.kind j ∧ r.cyc j = r.cyc j ∧ True) ∧ True) ∧ (r.Ok ∧ (0 : Int) ≤ IntKind.u64.wrap (y - r.sum c (-1 : Int)) ∧ IntKind.u64.wrap (y -
  r.sum c (-1 : Int)) < (18446744073709551616 : Int)) ∧ ∀ (x : Nat), r.n + (1 : Nat) ≤ x → ∀ (v : Int), (v = if r.left c ≤ IntKind.u64.wrap (y - r.sum c (-1 : Int)) then (22 : Int) else (0 : Int)) → r.Ok ∧ (0 : Int) ≤ y ∧
  y < (18446744073709551616 : Int) → (r.bad c → v = (11 : Int) ∧ True ∧ ((3 : Nat) ≤ (3 : Nat) ∧ (r.on c (0 : Int) (IntKind.u64.wrap (y - r.sum c (-1 : Int))) x).cores = r.cores ∧ (False ∧ True ∧ (0 : Nat) = (0 : Nat) ∧
  (r.on c (0 : Int) (IntKind.u64.wrap (y - r.sum c (-1 : Int))) x).n = r.n ∧ (r.on c (0 : Int) (IntKind.u64.wrap (y - r.sum c (-1 : Int))) x).cap = r.cap) ∧ (r.on c (0 : Int) (IntKind.u64.wrap (y - r.sum c (-1 : Int)))
  x).st = r.st ∧ True) ∧ False ∧ True) ∧ (¬r.bad c → (r.st = true → v = (22 : Int) ∧ True ∧ ((3 : Nat) ≤ (3 : Nat) ∧ (r.on c (0 : Int) (IntKind.u64.wrap (y - r.sum c (-1 : Int))) x).cores = r.cores ∧ (False ∧ True ∧ (0 :
  Nat) = (0 : Nat) ∧ (r.on c (0 : Int) (IntKind.u64.wrap (y - r.sum c (-1 : Int))) x).n = r.n ∧ (r.on c (0 : Int) (IntKind.u64.wrap (y - r.sum c (-1 : Int))) x).cap = r.cap) ∧ (r.on c (0 : Int) (IntKind.u64.wrap (y - r.sum
  c (-1 : Int))) x).st = r.st ∧ True) ∧ False ∧ True) ∧ (¬r.st = true → (y ≤ r.sum c (-1 : Int) → v = (0 : Int) ∧ True ∧ ((3 : Nat) ≤ (3 : Nat) ∧ (r.on c (0 : Int) (IntKind.u64.wrap (y - r.sum c (-1 : Int))) x).cores =
  r.cores ∧ (False ∧ True ∧ (0 : Nat) = (0 : Nat) ∧ (r.on c (0 : Int) (IntKind.u64.wrap (y - r.sum c (-1 : Int))) x).n = r.n ∧ (r.on c (0 : Int) (IntKind.u64.wrap (y - r.sum c (-1 : Int))) x).cap = r.cap) ∧ (r.on c (0 :
  Int) (IntKind.u64.wrap (y - r.sum c (-1 : Int))) x).st = r.st ∧ True) ∧ False ∧ True) ∧ (¬y ≤ r.sum c (-1 : Int) → ∃ (x_1 : Nat), r.n + (1 : Nat) ≤ x_1 ∧ (v = if r.left c ≤ y - r.sum c (-1 : Int) then (22 : Int) else (0
  : Int)) ∧ True ∧ ((3 : Nat) ≤ (3 : Nat) ∧ (r.on c (0 : Int) (IntKind.u64.wrap (y - r.sum c (-1 : Int))) x).cores = (r.on c (0 : Int) (y - r.sum c (-1 : Int)) x_1).cores ∧ (True ∧ True ∧ (0 : Nat) = (0 : Nat) ∧ (r.on c (0
  : Int) (IntKind.u64.wrap (y - r.sum c (-1 : Int))) x).n = (r.on c (0 : Int) (y - r.sum c (-1 : Int)) x_1).n ∧ (r.on c (0 : Int) (IntKind.u64.wrap (y - r.sum c (-1 : Int))) x).cap = (r.on c (0 : Int) (y - r.sum c (-1 :
  Int)) x_1).cap) ∧ (r.on c (0 : Int) (IntKind.u64.wrap (y - r.sum c (-1 : Int))) x).st = (r.on c (0 : Int) (y - r.sum c (-1 : Int)) x_1).st ∧ True) ∧ (0 : Nat) = (0 : Nat) ∧ ((r.on c (0 : Int) (y - r.sum c (-1 : Int))
  x_1).cap * (3 : Nat) ≤ (r.on c (0 : Int) (IntKind.u64.wrap (y - r.sum c (-1 : Int))) x).cap * (3 : Nat) ∧ (r.on c (0 : Int) (y - r.sum c (-1 : Int)) x_1).n = (r.on c (0 : Int) (IntKind.u64.wrap (y - r.sum c (-1 : Int)))
  x).n ∧ ∀ (j : Nat), j < (r.on c (0 : Int) (IntKind.u64.wrap (y - r.sum c (-1 : Int))) x).n → (r.on c (0 : Int) (IntKind.u64.wrap (y - r.sum c (-1 : Int))) x).core j = (r.on c (0 : Int) (y - r.sum c (-1 : Int)) x_1).core
  j ∧ (r.on c (0 : Int) (IntKind.u64.wrap (y - r.sum c (-1 : Int))) x).kind j = (r.on c (0 : Int) (y - r.sum c (-1 : Int)) x_1).kind j ∧ (r.on c (0 : Int) (IntKind.u64.wrap (y - r.sum c (-1 : Int))) x).cyc j = (r.on c (0 :
  Int) (y - r.sum c (-1 : Int)) x_1).cyc j ∧ True) ∧ True))))))) := by
  simp only [true_and, and_true, eq_self, Nat.le_refl, decide_eq_true_eq, decide_eq_false_iff_not, implies_true, and_self, Int.not_lt, Int.not_le, ge_iff_le, IntKind.wrap_u64, Bool.not_eq_true]
  rintro r c y ⟨hr, hy⟩ _ _
  have hb := hr.bd c (-1) (Nat.le_refl _)
  have hb : 0 ≤ r.sum c (-1) ∧ r.sum c (-1) ≤ 4611686018427387904 := hb
  have bad1 : c < 0 → r.bad c := fun h h2 => by omega
  have bad2 : r.cores ≤ c → r.bad c := fun h h2 => by omega
  refine ⟨fun h v hv _ => ⟨fun _ => hv, fun h2 => absurd (bad1 h) h2⟩, fun h0 => ⟨fun h v hv _ => ⟨fun _ => hv, fun h2 => absurd (bad2 h) h2⟩, fun h1 => ?_⟩⟩
  have good : ¬ r.bad c := fun hb => hb ⟨h0, h1⟩
  refine ⟨fun hst v hv _ => ⟨fun h2 => absurd h2 good, fun _ => ⟨fun _ => hv, fun h => (by rw [hst] at h; cases h)⟩⟩, fun hst => ⟨hr, fun hle v hv _ => ⟨fun h2 => absurd h2 good, fun _ => ⟨fun h => (by rw [hst] at h; cases h), fun _ => ⟨fun _ => hv, fun h => by omega⟩⟩⟩, fun hlt => ?_⟩⟩
  have e : (y - r.sum c (-1)) % 18446744073709551616 = y - r.sum c (-1) := by omega
  rw [e]
  exact ⟨hr, ⟨hr, by omega, by omega⟩, fun x hx v hv _ => ⟨fun h2 => absurd h2 good, fun _ => ⟨fun h => (by rw [hst] at h; cases h), fun _ => ⟨fun h => by omega, fun _ => ⟨x, hx, hv, ⟨rfl, ⟨rfl, rfl⟩, rfl⟩, Nat.le_refl _, rfl, fun j _ => ⟨rfl, rfl, rfl⟩⟩⟩⟩⟩⟩

def rwait_C (_ : (RS × Int × Int)) : Cfg := { Γ := Go.Sx.look tDo, names := true }
theorem rwait_al (x : (RS × Int × Int)) : Shown (rwaitP.vc Try.prog (rwait_C x) Try.f10 x) := ⟨@Eq.mp _ _ (by kernel_rfl) (rwait_vc (x.1) (x.2.1) (x.2.2))⟩
theorem rwait_ok : SpOk Try.prog 10 rwaitP.sp := @Pat.okS _ rwaitP Try.prog rwait_C 10 Try.f10 (fun x => cfg_tab rfl tDo_ok) (by kernel_rfl) Try.func10 (fun _ => rfl) rwait_al
theorem rwaitN_vc : ∀ (r : R0) (c y : Int), ((0 : Int) ≤ y ∧ y < (18446744073709551616 : Int)) ∧ True → ∀ (v : Int), v = (0 : Int) → (decide (c < (0 : Int)) = true → ∀ (v : Int), v = (11 : Int) → (0 : Int) ≤ y ∧ y < (18446744073709551616 :
  Int) → (r.rs.bad c → v = (11 : Int) ∧ True ∧ ((3 : Nat) ≤ (3 : Nat) ∧ r.cores = r.cores ∧ True ∧ r.st = r.st ∧ True) ∧ True) ∧ (¬r.rs.bad c → (r.st = true → v = (22 : Int) ∧ True ∧ ((3 : Nat) ≤ (3 : Nat) ∧ r.cores =
  r.cores ∧ True ∧ r.st = r.st ∧ True) ∧ True) ∧ (¬r.st = true → (y ≤ (0 : Int) → v = (0 : Int) ∧ True ∧ ((3 : Nat) ≤ (3 : Nat) ∧ r.cores = r.cores ∧ True ∧ r.st = r.st ∧ True) ∧ True) ∧ (¬y ≤ (0 : Int) → ∃ (x : Nat),
  r.rs.n + (1 : Nat) ≤ x ∧ (v = if r.rs.left c ≤ y then (22 : Int) else (0 : Int)) ∧ False)))) ∧ (decide (c < (0 : Int)) = false → (decide (c ≥ r.cores) = true → ∀ (v : Int), v = (11 : Int) → (0 : Int) ≤ y ∧ y <
  (18446744073709551616 : Int) → (r.rs.bad c → v = (11 : Int) ∧ True ∧ ((3 : Nat) ≤ (3 : Nat) ∧ r.cores = r.cores ∧ True ∧ r.st = r.st ∧ True) ∧ True) ∧ (¬r.rs.bad c → (r.st = true → v = (22 : Int) ∧ True ∧ ((3 : Nat) ≤ (3
  : Nat) ∧ r.cores = r.cores ∧ True ∧ r.st = r.st ∧ True) ∧ True) ∧ (¬r.st = true → (y ≤ (0 : Int) → v = (0 : Int) ∧ True ∧ ((3 : Nat) ≤ (3 : Nat) ∧ r.cores = r.cores ∧ True ∧ r.st = r.st ∧ True) ∧ True) ∧ (¬y ≤ (0 : Int)
  → ∃ (x : Nat), r.rs.n + (1 : Nat) ≤ x ∧ (v = if r.rs.left c ≤ y then (22 : Int) else (0 : Int)) ∧ False)))) ∧ (decide (c ≥ r.cores) = false → (r.st = true → ∀ (v : Int), v = (22 : Int) → (0 : Int) ≤ y ∧ y <
  (18446744073709551616 : Int) → (r.rs.bad c → v = (11 : Int) ∧ True ∧ ((3 : Nat) ≤ (3 : Nat) ∧ r.cores = r.cores ∧ True ∧ r.st = r.st ∧ True) ∧ True) ∧ (¬r.rs.bad c → (r.st = true → v = (22 : Int) ∧ True ∧ ((3 : Nat) ≤ (3
  : Nat) ∧ r.cores = r.cores ∧ True ∧ r.st = r.st ∧ True) ∧ True) ∧ (¬r.st = true → (y ≤ (0 : Int) → v = (0 : Int) ∧ True ∧ ((3 : Nat) ≤ (3 : Nat) ∧ r.cores = r.cores ∧ True ∧ r.st = r.st ∧ True) ∧ True) ∧ (¬y ≤ (0 : Int)
  → ∃ (x : Nat), r.rs.n + (1 : Nat) ≤ x ∧ (v = if r.rs.left c ≤ y then (22 : Int) else (0 : Int)) ∧ False)))) ∧ (r.st = false → (((True ∧ True) ∧ c = c ∧ True) ∧ ((3 : Nat) ≤ (3 : Nat) ∧ r.cores = r.cores ∧ True ∧ r.st =
  r.st ∧ True) ∧ True) ∧ (decide (y ≤ (0 : Int)) = true → ∀ (v : Int), v = (0 : Int) → (0 : Int) ≤ y ∧ y < (18446744073709551616 : Int) → (r.rs.bad c → v = (11 : Int) ∧ True ∧ ((3 : Nat) ≤ (3 : Nat) ∧ r.cores = r.cores ∧
  True ∧ r.st = r.st ∧ True) ∧ True) ∧ (¬r.rs.bad c → (r.st = true → v = (22 : Int) ∧ True ∧ ((3 : Nat) ≤ (3 : Nat) ∧ r.cores = r.cores ∧ True ∧ r.st = r.st ∧ True) ∧ True) ∧ (¬r.st = true → (y ≤ (0 : Int) → v = (0 : Int)
  ∧ True ∧ ((3 : Nat) ≤ (3 : Nat) ∧ r.cores = r.cores ∧ True ∧ r.st = r.st ∧ True) ∧ True) ∧ (¬y ≤ (0 : Int) → ∃ (x : Nat), r.rs.n + (1 : Nat) ≤ x ∧ (v = if r.rs.left c ≤ y then (22 : Int) else (0 : Int)) ∧ False)))) ∧
  (decide (y ≤ (0 : Int)) = false → (((True ∧ True) ∧ c = c ∧ True) ∧ ((3 : Nat) ≤ (3 : Nat) ∧ r.cores = r.cores ∧ True ∧ r.st = r.st ∧ True) ∧ True) ∧ (((True ∧ True) ∧ c = c ∧ (0 : Int) = (0 : Int) ∧ IntKind.u64.wrap (y
  - (0 : Int)) = IntKind.u64.wrap (y - (0 : Int)) ∧ True) ∧ ((3 : Nat) ≤ (3 : Nat) ∧ r.cores = r.cores ∧ True ∧ r.st = r.st ∧ True) ∧ True) ∧ ((0 : Int) ≤ IntKind.u64.wrap (y - (0 : Int)) ∧ IntKind.u64.wrap (y - (0 : Int))
  < (18446744073709551616 : Int)) ∧ ∀ (x : Nat), r.rs.n + (1 : Nat) ≤ x → ∀ (v : Int), (v = if r.rs.left c ≤ IntKind.u64.wrap (y - (0 : Int)) then (22 : Int) else (0 : Int)) → (0 : Int) ≤ y ∧ y < (18446744073709551616 :
  Int) → (r.rs.bad c → v = (11 : Int) ∧ True ∧ ((3 : Nat) ≤ (3 : Nat) ∧ (r.rs.on c (0 : Int) (IntKind.u64.wrap (y - (0 : Int))) x).cores = r.cores ∧ False ∧ (r.rs.on c (0 : Int) (IntKind.u64.wrap (y - (0 : Int))) x).st =
  r.st ∧ True) ∧ True) ∧ (¬r.rs.bad c → (r.st = true → v = (22 : Int) ∧ True ∧ ((3 : Nat) ≤ (3 : Nat) ∧ (r.rs.on c (0 : Int) (IntKind.u64.wrap (y - (0 : Int))) x).cores = r.cores ∧ False ∧ (r.rs.on c (0 : Int)
  (IntKind.u64.wrap (y - (0 : Int))) x).st = r.st ∧ True) ∧ True) ∧ (¬r.st = true → (y ≤ (0 : Int) → v = (0 : Int) ∧ True ∧ ((3 : Nat) ≤ (3 : Nat) ∧ (r.rs.on c (0 : Int) (IntKind.u64.wrap (y - (0 : Int))) x).cores =
  r.cores ∧ False ∧ (r.rs.on c (0 : Int) (IntKind.u64.wrap (y - (0 : Int))) x).st = r.st ∧ True) ∧ True) ∧ (¬y ≤ (0 : Int) → ∃ (x_1 : Nat), r.rs.n + (1 : Nat) ≤ x_1 ∧ (v = if r.rs.left c ≤ y then (22 : Int) else (0 : Int))
  ∧ True ∧ ((3 : Nat) ≤ (3 : Nat) ∧ (r.rs.on c (0 : Int) (IntKind.u64.wrap (y - (0 : Int))) x).cores = (r.rs.on c (0 : Int) y x_1).cores ∧ (True ∧ True ∧ (0 : Nat) = (0 : Nat) ∧ (r.rs.on c (0 : Int) (IntKind.u64.wrap (y -
  (0 : Int))) x).n = (r.rs.on c (0 : Int) y x_1).n ∧ (r.rs.on c (0 : Int) (IntKind.u64.wrap (y - (0 : Int))) x).cap = (r.rs.on c (0 : Int) y x_1).cap) ∧ (r.rs.on c (0 : Int) (IntKind.u64.wrap (y - (0 : Int))) x).st =
  (r.rs.on c (0 : Int) y x_1).st ∧ True) ∧ ((r.rs.on c (0 : Int) y x_1).cap * (3 : Nat) ≤ (r.rs.on c (0 : Int) (IntKind.u64.wrap (y - (0 : Int))) x).cap * (3 : Nat) ∧ (r.rs.on c (0 : Int) y x_1).n = (r.rs.on c (0 : Int)
  (IntKind.u64.wrap (y - (0 : Int))) x).n ∧ ∀ (j : Nat), j < (r.rs.on c (0 : Int) (IntKind.u64.wrap (y - (0 : Int))) x).n → (r.rs.on c (0 : Int) (IntKind.u64.wrap (y - (0 : Int))) x).core j = (r.rs.on c (0 : Int) y
  x_1).core j ∧ (r.rs.on c (0 : Int) (IntKind.u64.wrap (y - (0 : Int))) x).kind j = (r.rs.on c (0 : Int) y x_1).kind j ∧ (r.rs.on c (0 : Int) (IntKind.u64.wrap (y - (0 : Int))) x).cyc j = (r.rs.on c (0 : Int) y x_1).cyc j
  ∧ True) ∧ True))))))) := by
  simp only [true_and, and_true, eq_self, Nat.le_refl, decide_eq_true_eq, decide_eq_false_iff_not, and_self, Int.not_lt, Int.not_le, ge_iff_le, IntKind.wrap_u64, Bool.not_eq_true]
  rintro r c y hy _ _
  have bad1 : c < 0 → r.rs.bad c := fun h h2 => by omega
  have bad2 : r.cores ≤ c → r.rs.bad c := fun h h2 => by have h3 : c < r.cores := h2.2; omega
  refine ⟨fun h v hv _ => ⟨fun _ => hv, fun h2 => absurd (bad1 h) h2⟩, fun h0 => ⟨fun h v hv _ => ⟨fun _ => hv, fun h2 => absurd (bad2 h) h2⟩, fun h1 => ?_⟩⟩
  have good : ¬ r.rs.bad c := fun hb => hb ⟨h0, h1⟩
  refine ⟨fun hst v hv _ => ⟨fun h2 => absurd h2 good, fun _ => ⟨fun _ => hv, fun h => (by rw [hst] at h; cases h)⟩⟩, fun hst => ⟨fun hle v hv _ => ⟨fun h2 => absurd h2 good, fun _ => ⟨fun h => (by rw [hst] at h; cases h), fun _ => ⟨fun _ => hv, fun h => by omega⟩⟩⟩, fun hlt => ?_⟩⟩
  have e : (y - 0) % 18446744073709551616 = y := by omega
  rw [e]
  exact ⟨hy, fun x hx v hv _ => ⟨fun h2 => absurd h2 good, fun _ => ⟨fun h => (by rw [hst] at h; cases h), fun _ => ⟨fun h => by omega, fun _ => ⟨x, hx, hv, ⟨rfl, ⟨rfl, rfl⟩, rfl⟩, Nat.le_refl _, rfl, fun j _ => ⟨rfl, rfl, rfl⟩⟩⟩⟩⟩⟩

def rwaitN_C (_ : (R0 × Int × Int)) : Cfg := { Γ := Go.Sx.look tDo, names := true }
theorem rwaitN_al (x : (R0 × Int × Int)) : Shown (rwaitNP.vc Try.prog (rwaitN_C x) Try.f10 x) := ⟨@Eq.mp _ _ (by kernel_rfl) (rwaitN_vc (x.1) (x.2.1) (x.2.2))⟩
theorem rwaitN_ok : SpOk Try.prog 10 rwaitNP.sp := @Pat.okS _ rwaitNP Try.prog rwaitN_C 10 Try.f10 (fun x => cfg_tab rfl tDo_ok) (by kernel_rfl) Try.func10 (fun _ => rfl) rwaitN_al
theorem rdoA_ok : SpOk Try.prog 12 (altH nilRow (rdoNP.sp) (rdoP.sp)) := altH_ok rdoN_ok rdo_ok

theorem rwaitA_ok : SpOk Try.prog 10 (altH nilRow (rwaitNP.sp) (rwaitP.sp)) := altH_ok rwaitN_ok rwait_ok

end Go.Proofs.Ytglbonfohmdcnaa
