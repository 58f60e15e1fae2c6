import Derived.Test.YtglbonfohmdcnaaSxRow
import Derived.Test.YtglbonfohmdcnaaMeter
open Go Go.Sx Go.Proofs
set_option maxRecDepth 100000
namespace Go.Proofs.Ytglbonfohmdcnaa

/-- A row of answers. -/
structure WS where
  nil : Bool
  len : Nat
  cap : Nat
  w : Nat → Bool
def roReg (e n sz : Nat) (f : Nat → T) : Reg := { own := false, pl := true, fam := 1, el := e, tot := fun _ => 0, c := fun _ => .arr n sz f }
def WS.reg (x : WS) : Reg := roReg 4 (x.len) 1 (fun j => .bool (x.w j))
def WS.t (x : WS) (r : Nat) : T := .ite x.nil .nils (.slice r 0 [] 0 1 x.len x.cap)
def viewW (t : T) (H : List Reg) : WS := ⟨tNil t, tLen t, tCap t, fun j => tBool (tArr (regC H (tRef t)) j)⟩
/-- The least one. -/
def leastF (clk : Nat → Int) (sel : Nat → Bool) : Nat → Int
  | 0 => -1
  | k + 1 => let o := leastF clk sel k
    if sel k = true ∧ (o < 0 ∨ clk k < clk o.toNat) then k else o
def WS.sel (x : WS) (j : Nat) : Bool := decide (j < x.len) && x.w j
theorem leastF_bd (clk : Nat → Int) (sel : Nat → Bool) : ∀ n, -1 ≤ leastF clk sel n ∧ leastF clk sel n < n
  | 0 => ⟨Int.le_refl _, by show (-1 : Int) < 0; decide⟩
  | n + 1 => by
    have := leastF_bd clk sel n
    simp only [leastF]
    split <;> omega
def leastP : Pat (MS × WS) where
  view | [.ptr r 0 [], t], H => some (viewM r H, viewW t H) | _, _ => none
  args x := [.ptr 0 0 [], x.2.t 2]
  H x := x.1.H ++ [x.2.reg]
  out x := .need (x.2.nil = true → x.2.len = 0) (.need (x.2.len ≤ 1000 ∧ x.1.n ≤ 4) (.retq (.int .i64 (leastF x.1.clk x.2.sel x.1.n))))
def leastFam (s : MS) (x : WS) : Fam where
  α := Nat
  I y := y ≤ s.n
  st y := { sl := mkSl 48 [(0, p0 0), (1, x.t 2), (5, .int .i64 (leastF s.clk x.sel y)), (11, .slice 1 0 [] 0 10 s.n s.n), (12, .int .i64 s.n), (13, .int .i64 y)], H := s.H ++ [x.reg] }
  μ y := s.n - y
theorem least_vc : ∀ (s : MS) (x : WS), (x.nil = true → x.len = (0 : Nat)) ∧ (x.len ≤ (1000 : Nat) ∧ s.n ≤ (4 : Nat)) ∧ True → ∀ (v : Int), v = (0 : Int) → ∀ (v : Int), v = (-1 : Int) → (∃ (y : Nat), (leastFam s x).I y ∧ (((True ∧ True) ∧
  ((x.nil = true → x.nil = true) ∧ (x.nil = false → x.nil = false ∧ True ∧ True ∧ (0 : Nat) = (0 : Nat) ∧ x.len = x.len ∧ x.cap = x.cap)) ∧ v = leastF s.clk x.sel y ∧ (True ∧ True ∧ (0 : Nat) = (0 : Nat) ∧ s.n = s.n ∧ s.n
  = s.n) ∧ (↑s.n : Int) = (↑s.n : Int) ∧ (0 : Int) = (↑y : Int) ∧ True) ∧ ((2 : Nat) ≤ (2 : Nat) ∧ (True ∧ True ∧ (0 : Nat) = (0 : Nat) ∧ s.n = s.n ∧ s.n = s.n) ∧ s.st = s.st ∧ True) ∧ (s.n * (10 : Nat) ≤ s.n * (10 : Nat)
  ∧ s.n = s.n ∧ ∀ (j : Nat), j < s.n → s.clk j = s.clk j ∧ ((9 : Nat) = (9 : Nat) ∧ ∀ (j_1 : Nat), j_1 < (9 : Nat) → s.by_ j j_1 = s.by_ j j_1) ∧ True) ∧ ((0 : Nat) ≤ (0 : Nat) ∧ x.len = x.len ∧ ∀ (j : Nat), j < x.len →
  x.w j = x.w j) ∧ True) ∧ True) ∧ ∀ (y : Nat), (leastFam s x).I y → (decide ((↑y : Int) < (↑s.n : Int)) = true → ((0 : Int) ≤ (↑y : Int) ∧ (↑y : Int) < (↑s.n : Int)) ∧ (0 : Nat) + (↑y : Int).toNat < s.n ∧ ∀ (v : Int), v =
  (↑y : Int) → (x.nil = true → x.len = (0 : Nat)) ∧ (decide (v < (↑x.len : Int)) = true → (x.nil = true → x.len = (0 : Nat)) ∧ ((0 : Int) ≤ v ∧ v < (↑x.len : Int)) ∧ (0 : Nat) + v.toNat < x.len ∧ (x.w ((0 : Nat) + v.toNat)
  = true → (decide (leastF s.clk x.sel y < (0 : Int)) = true → ∀ (v_1 : Int), v_1 = v → ∃ (y_1 : Nat), (leastFam s x).I y_1 ∧ (((True ∧ True) ∧ ((x.nil = true → x.nil = true) ∧ (x.nil = false → x.nil = false ∧ True ∧ True
  ∧ (0 : Nat) = (0 : Nat) ∧ x.len = x.len ∧ x.cap = x.cap)) ∧ v_1 = leastF s.clk x.sel y_1 ∧ (True ∧ True ∧ (0 : Nat) = (0 : Nat) ∧ s.n = s.n ∧ s.n = s.n) ∧ (↑s.n : Int) = (↑s.n : Int) ∧ IntKind.i64.wrap ((↑y : Int) + (1 :
  Int)) = (↑y_1 : Int) ∧ True) ∧ ((2 : Nat) ≤ (2 : Nat) ∧ (True ∧ True ∧ (0 : Nat) = (0 : Nat) ∧ s.n = s.n ∧ s.n = s.n) ∧ s.st = s.st ∧ True) ∧ (s.n * (10 : Nat) ≤ s.n * (10 : Nat) ∧ s.n = s.n ∧ ∀ (j : Nat), j < s.n →
  s.clk j = s.clk j ∧ ((9 : Nat) = (9 : Nat) ∧ ∀ (j_1 : Nat), j_1 < (9 : Nat) → s.by_ j j_1 = s.by_ j j_1) ∧ True) ∧ ((0 : Nat) ≤ (0 : Nat) ∧ x.len = x.len ∧ ∀ (j : Nat), j < x.len → x.w j = x.w j) ∧ True) ∧ (leastFam s
  x).μ y_1 < (leastFam s x).μ y) ∧ (decide (leastF s.clk x.sel y < (0 : Int)) = false → ((0 : Int) ≤ leastF s.clk x.sel y ∧ leastF s.clk x.sel y < (↑s.n : Int)) ∧ (0 : Nat) + (leastF s.clk x.sel y).toNat < s.n ∧ (decide
  (s.clk ((0 : Nat) + (↑y : Int).toNat) < s.clk ((0 : Nat) + (leastF s.clk x.sel y).toNat)) = true → ∀ (v_1 : Int), v_1 = v → ∃ (y_1 : Nat), (leastFam s x).I y_1 ∧ (((True ∧ True) ∧ ((x.nil = true → x.nil = true) ∧ (x.nil
  = false → x.nil = false ∧ True ∧ True ∧ (0 : Nat) = (0 : Nat) ∧ x.len = x.len ∧ x.cap = x.cap)) ∧ v_1 = leastF s.clk x.sel y_1 ∧ (True ∧ True ∧ (0 : Nat) = (0 : Nat) ∧ s.n = s.n ∧ s.n = s.n) ∧ (↑s.n : Int) = (↑s.n : Int)
  ∧ IntKind.i64.wrap ((↑y : Int) + (1 : Int)) = (↑y_1 : Int) ∧ True) ∧ ((2 : Nat) ≤ (2 : Nat) ∧ (True ∧ True ∧ (0 : Nat) = (0 : Nat) ∧ s.n = s.n ∧ s.n = s.n) ∧ s.st = s.st ∧ True) ∧ (s.n * (10 : Nat) ≤ s.n * (10 : Nat) ∧
  s.n = s.n ∧ ∀ (j : Nat), j < s.n → s.clk j = s.clk j ∧ ((9 : Nat) = (9 : Nat) ∧ ∀ (j_1 : Nat), j_1 < (9 : Nat) → s.by_ j j_1 = s.by_ j j_1) ∧ True) ∧ ((0 : Nat) ≤ (0 : Nat) ∧ x.len = x.len ∧ ∀ (j : Nat), j < x.len → x.w
  j = x.w j) ∧ True) ∧ (leastFam s x).μ y_1 < (leastFam s x).μ y) ∧ (decide (s.clk ((0 : Nat) + (↑y : Int).toNat) < s.clk ((0 : Nat) + (leastF s.clk x.sel y).toNat)) = false → ∃ (y_1 : Nat), (leastFam s x).I y_1 ∧ (((True
  ∧ True) ∧ ((x.nil = true → x.nil = true) ∧ (x.nil = false → x.nil = false ∧ True ∧ True ∧ (0 : Nat) = (0 : Nat) ∧ x.len = x.len ∧ x.cap = x.cap)) ∧ leastF s.clk x.sel y = leastF s.clk x.sel y_1 ∧ (True ∧ True ∧ (0 : Nat)
  = (0 : Nat) ∧ s.n = s.n ∧ s.n = s.n) ∧ (↑s.n : Int) = (↑s.n : Int) ∧ IntKind.i64.wrap ((↑y : Int) + (1 : Int)) = (↑y_1 : Int) ∧ True) ∧ ((2 : Nat) ≤ (2 : Nat) ∧ (True ∧ True ∧ (0 : Nat) = (0 : Nat) ∧ s.n = s.n ∧ s.n =
  s.n) ∧ s.st = s.st ∧ True) ∧ (s.n * (10 : Nat) ≤ s.n * (10 : Nat) ∧ s.n = s.n ∧ ∀ (j : Nat), j < s.n → s.clk j = s.clk j ∧ ((9 : Nat) = (9 : Nat) ∧ ∀ (j_1 : Nat), j_1 < (9 : Nat) → s.by_ j j_1 = s.by_ j j_1) ∧ True) ∧
  ((0 : Nat) ≤ (0 : Nat) ∧ x.len = x.len ∧ ∀ (j : Nat), j < x.len → x.w j = x.w j) ∧ True) ∧ (leastFam s x).μ y_1 < (leastFam s x).μ y))) ∧ (x.w ((0 : Nat) + v.toNat) = false → ∃ (y_1 : Nat), (leastFam s x).I y_1 ∧ (((True
  ∧ True) ∧ ((x.nil = true → x.nil = true) ∧ (x.nil = false → x.nil = false ∧ True ∧ True ∧ (0 : Nat) = (0 : Nat) ∧ x.len = x.len ∧ x.cap = x.cap)) ∧ leastF s.clk x.sel y = leastF s.clk x.sel y_1 ∧ (True ∧ True ∧ (0 : Nat)
  = (0 : Nat) ∧ s.n = s.n ∧ s.n = s.n) ∧ (↑s.n : Int) = (↑s.n : Int) ∧ IntKind.i64.wrap ((↑y : Int) + (1 : Int)) = (↑y_1 : Int) ∧ True) ∧ ((2 : Nat) ≤ (2 : Nat) ∧ (True ∧ True ∧ (0 : Nat) = (0 : Nat) ∧ s.n = s.n ∧ s.n =
  s.n) ∧ s.st = s.st ∧ True) ∧ (s.n * (10 : Nat) ≤ s.n * (10 : Nat) ∧ s.n = s.n ∧ ∀ (j : Nat), j < s.n → s.clk j = s.clk j ∧ ((9 : Nat) = (9 : Nat) ∧ ∀ (j_1 : Nat), j_1 < (9 : Nat) → s.by_ j j_1 = s.by_ j j_1) ∧ True) ∧
  ((0 : Nat) ≤ (0 : Nat) ∧ x.len = x.len ∧ ∀ (j : Nat), j < x.len → x.w j = x.w j) ∧ True) ∧ (leastFam s x).μ y_1 < (leastFam s x).μ y)) ∧ (decide (v < (↑x.len : Int)) = false → ∃ (y_1 : Nat), (leastFam s x).I y_1 ∧
  (((True ∧ True) ∧ ((x.nil = true → x.nil = true) ∧ (x.nil = false → x.nil = false ∧ True ∧ True ∧ (0 : Nat) = (0 : Nat) ∧ x.len = x.len ∧ x.cap = x.cap)) ∧ leastF s.clk x.sel y = leastF s.clk x.sel y_1 ∧ (True ∧ True ∧
  (0 : Nat) = (0 : Nat) ∧ s.n = s.n ∧ s.n = s.n) ∧ (↑s.n : Int) = (↑s.n : Int) ∧ IntKind.i64.wrap ((↑y : Int) + (1 : Int)) = (↑y_1 : Int) ∧ True) ∧ ((2 : Nat) ≤ (2 : Nat) ∧ (True ∧ True ∧ (0 : Nat) = (0 : Nat) ∧ s.n = s.n
  ∧ s.n = s.n) ∧ s.st = s.st ∧ True) ∧ (s.n * (10 : Nat) ≤ s.n * (10 : Nat) ∧ s.n = s.n ∧ ∀ (j : Nat), j < s.n → s.clk j = s.clk j ∧ ((9 : Nat) = (9 : Nat) ∧ ∀ (j_1 : Nat), j_1 < (9 : Nat) → s.by_ j j_1 = s.by_ j j_1) ∧
  True) ∧ ((0 : Nat) ≤ (0 : Nat) ∧ x.len = x.len ∧ ∀ (j : Nat), j < x.len → x.w j = x.w j) ∧ True) ∧ (leastFam s x).μ y_1 < (leastFam s x).μ y)) ∧ (decide ((↑y : Int) < (↑s.n : Int)) = false → ∀ (v : Int), v = leastF s.clk
  x.sel y → (x.nil = true → x.len = (0 : Nat)) → x.len ≤ (1000 : Nat) ∧ s.n ≤ (4 : Nat) → v = leastF s.clk x.sel s.n ∧ True ∧ ((2 : Nat) ≤ (2 : Nat) ∧ (True ∧ True ∧ (0 : Nat) = (0 : Nat) ∧ s.n = s.n ∧ s.n = s.n) ∧ s.st =
  s.st ∧ True) ∧ (s.n * (10 : Nat) ≤ s.n * (10 : Nat) ∧ s.n = s.n ∧ ∀ (j : Nat), j < s.n → s.clk j = s.clk j ∧ ((9 : Nat) = (9 : Nat) ∧ ∀ (j_1 : Nat), j_1 < (9 : Nat) → s.by_ j j_1 = s.by_ j j_1) ∧ True) ∧ ((0 : Nat) ≤ (0
  : Nat) ∧ x.len = x.len ∧ ∀ (j : Nat), j < x.len → x.w j = x.w j) ∧ True) := by
  simp only [true_and, and_true, eq_self, Nat.le_refl, decide_eq_true_eq, decide_eq_false_iff_not, implies_true, and_self, Int.not_lt, Nat.zero_add, Int.toNat_natCast, IntKind.wrap_i64]
  rintro s x ⟨hnil, hlen, hn⟩ _ rfl _ rfl
  refine ⟨⟨0, Nat.zero_le _, ⟨fun h => h, fun h => h⟩, rfl, rfl⟩, fun y hy => ?_⟩
  have hy : y ≤ s.n := hy
  have hb := leastF_bd s.clk x.sel y
  have hsucc : leastF s.clk x.sel (y + 1) = if x.sel y = true ∧ (leastF s.clk x.sel y < 0 ∨ s.clk y < s.clk (leastF s.clk x.sel y).toNat) then (y : Int) else leastF s.clk x.sel y := rfl
  have hsel : x.sel y = true ↔ y < x.len ∧ x.w y = true := by unfold WS.sel; simp
  simp only [hsel] at hsucc
  have hI : ∀ z : Nat, (leastFam s x).I z = (z ≤ s.n) := fun _ => rfl
  have hM : ∀ z : Nat, (leastFam s x).μ z = s.n - z := fun _ => rfl
  simp only [hI, hM]
  refine ⟨fun hlt => ⟨by omega, by omega, ?_⟩, fun hge => ?_⟩
  · rintro _ rfl
    simp only [Int.toNat_natCast]
    try dsimp only
    repeat' (with_reducible first | assumption | apply And.intro | intro _ | refine Exists.intro (y + 1) ?_)
    all_goals (try rw [hsucc])
    all_goals (try simp only [cond_dec, decide_eq_decide] at *)
    all_goals (first | omega | ((repeat' (first | omega | split)) <;> (try dsimp only) <;> (try (first | omega | contradiction | (subst_vars; first | rfl | omega) | (simp_all; done) | (simp_all; omega)))))
  · have : y = s.n := by omega
    subst this
    try dsimp only
    repeat' (with_reducible first | assumption | apply And.intro | intro _)
    all_goals (try simp only [cond_dec, decide_eq_decide] at *)
    all_goals (first | omega | ((repeat' (first | omega | split)) <;> (try dsimp only) <;> (try (first | omega | contradiction | (subst_vars; first | rfl | omega) | (simp_all; done) | (simp_all; omega)))))

def least_C (x : (MS × WS)) : Cfg := { Γ := Go.Sx.look [], names := true, loops := onlyAt 3 [leastFam (x.1) (x.2)] }
theorem least_al (x : (MS × WS)) : Shown (leastP.vc Try.prog (least_C x) Try.f19 x) := ⟨@Eq.mp _ _ (by kernel_rfl) (least_vc (x.1) (x.2))⟩
theorem least_ok : SpOk Try.prog 19 leastP.sp := @Pat.okS _ leastP Try.prog least_C 19 Try.f19 (fun x => cfg_nil rfl) (by kernel_rfl) Try.func19 (fun _ => rfl) least_al
def leastNP : Pat MS where
  view | [.ptr r 0 [], .nils], H => some (viewM r H) | _, _ => none
  args _ := [.ptr 0 0 [], .nils]
  H x := x.H
  out x := .need (x.n ≤ 4) (.retq (.int .i64 (-1)))
def leastNFam (s : MS) : Fam where
  α := Nat
  I y := y ≤ s.n
  st y := { sl := mkSl 48 [(0, p0 0), (1, .nils), (5, .int .i64 (-1)), (11, .slice 1 0 [] 0 10 s.n s.n), (12, .int .i64 s.n), (13, .int .i64 y)], H := s.H }
  μ y := s.n - y
theorem leastN_vc : ∀ (s : MS), s.n ≤ (4 : Nat) ∧ True → ∀ (v : Int), v = (0 : Int) → ∀ (v : Int), v = (-1 : Int) → (∃ (y : Nat), (leastNFam s).I y ∧ (((True ∧ True) ∧ True ∧ v = (-1 : Int) ∧ (True ∧ True ∧ (0 : Nat) = (0 : Nat) ∧ s.n = s.n
  ∧ s.n = s.n) ∧ (↑s.n : Int) = (↑s.n : Int) ∧ (0 : Int) = (↑y : Int) ∧ True) ∧ ((2 : Nat) ≤ (2 : Nat) ∧ (True ∧ True ∧ (0 : Nat) = (0 : Nat) ∧ s.n = s.n ∧ s.n = s.n) ∧ s.st = s.st ∧ True) ∧ (s.n * (10 : Nat) ≤ s.n * (10 :
  Nat) ∧ s.n = s.n ∧ ∀ (j : Nat), j < s.n → s.clk j = s.clk j ∧ ((9 : Nat) = (9 : Nat) ∧ ∀ (j_1 : Nat), j_1 < (9 : Nat) → s.by_ j j_1 = s.by_ j j_1) ∧ True) ∧ True) ∧ True) ∧ ∀ (y : Nat), (leastNFam s).I y → (decide ((↑y :
  Int) < (↑s.n : Int)) = true → ((0 : Int) ≤ (↑y : Int) ∧ (↑y : Int) < (↑s.n : Int)) ∧ (0 : Nat) + (↑y : Int).toNat < s.n ∧ ∀ (v : Int), v = (↑y : Int) → (decide (v < (0 : Int)) = true → False) ∧ (decide (v < (0 : Int)) =
  false → ∃ (y_1 : Nat), (leastNFam s).I y_1 ∧ (((True ∧ True) ∧ True ∧ (-1 : Int) = (-1 : Int) ∧ (True ∧ True ∧ (0 : Nat) = (0 : Nat) ∧ s.n = s.n ∧ s.n = s.n) ∧ (↑s.n : Int) = (↑s.n : Int) ∧ IntKind.i64.wrap ((↑y : Int) +
  (1 : Int)) = (↑y_1 : Int) ∧ True) ∧ ((2 : Nat) ≤ (2 : Nat) ∧ (True ∧ True ∧ (0 : Nat) = (0 : Nat) ∧ s.n = s.n ∧ s.n = s.n) ∧ s.st = s.st ∧ True) ∧ (s.n * (10 : Nat) ≤ s.n * (10 : Nat) ∧ s.n = s.n ∧ ∀ (j : Nat), j < s.n →
  s.clk j = s.clk j ∧ ((9 : Nat) = (9 : Nat) ∧ ∀ (j_1 : Nat), j_1 < (9 : Nat) → s.by_ j j_1 = s.by_ j j_1) ∧ True) ∧ True) ∧ (leastNFam s).μ y_1 < (leastNFam s).μ y)) ∧ (decide ((↑y : Int) < (↑s.n : Int)) = false → ∀ (v :
  Int), v = (-1 : Int) → s.n ≤ (4 : Nat) → v = (-1 : Int) ∧ True ∧ ((2 : Nat) ≤ (2 : Nat) ∧ (True ∧ True ∧ (0 : Nat) = (0 : Nat) ∧ s.n = s.n ∧ s.n = s.n) ∧ s.st = s.st ∧ True) ∧ (s.n * (10 : Nat) ≤ s.n * (10 : Nat) ∧ s.n =
  s.n ∧ ∀ (j : Nat), j < s.n → s.clk j = s.clk j ∧ ((9 : Nat) = (9 : Nat) ∧ ∀ (j_1 : Nat), j_1 < (9 : Nat) → s.by_ j j_1 = s.by_ j j_1) ∧ True) ∧ True) := by
  simp only [true_and, and_true, eq_self, Nat.le_refl, decide_eq_true_eq, decide_eq_false_iff_not, implies_true, and_self, Int.not_lt, Nat.zero_add, Int.toNat_natCast, IntKind.wrap_i64]
  rintro s hn _ rfl _ rfl
  have hI : ∀ z : Nat, (leastNFam s).I z = (z ≤ s.n) := fun _ => rfl
  have hM : ∀ z : Nat, (leastNFam s).μ z = s.n - z := fun _ => rfl
  simp only [hI, hM]
  refine ⟨⟨0, Nat.zero_le _, trivial, rfl⟩, fun y hy => ?_⟩
  try dsimp only
  repeat' (with_reducible first | assumption | apply And.intro | intro _ | refine Exists.intro (y + 1) ?_)
  all_goals (try simp only [cond_dec, decide_eq_decide] at *)
  all_goals (first | omega | ((repeat' (first | omega | split)) <;> (try dsimp only) <;> (try (first | omega | contradiction | (subst_vars; first | rfl | omega) | (simp_all; done) | (simp_all; omega)))))

def leastN_C (x : MS) : Cfg := { Γ := Go.Sx.look [], names := true, loops := onlyAt 3 [leastNFam x] }
theorem leastN_al (x : MS) : Shown (leastNP.vc Try.prog (leastN_C x) Try.f19 x) := ⟨@Eq.mp _ _ (by kernel_rfl) (leastN_vc x)⟩
theorem leastN_ok : SpOk Try.prog 19 leastNP.sp := @Pat.okS _ leastNP Try.prog leastN_C 19 Try.f19 (fun x => cfg_nil rfl) (by kernel_rfl) Try.func19 (fun _ => rfl) leastN_al
theorem leastA_ok : SpOk Try.prog 19 (altSp 1 (leastNP.sp) (leastP.sp)) := altSp_ok leastN_ok least_ok

def tLaw : Tab := [(8, newP.sp), (14, clockP.sp), (16, idleP.sp), (18, spentP.sp), (13, stoppedP.sp), (11, chargeP.sp), (9, waitP.sp), (19, altSp 1 (leastNP.sp) (leastP.sp)), (20, costP.sp)]
theorem tLaw_ok : TabOk Try.prog tLaw := (tab_cons new_ok (tab_cons clock_ok (tab_cons idle_ok (tab_cons spent_ok (tab_cons stopped_ok (tab_cons charge_ok (tab_cons wait_ok (tab_cons leastA_ok (tab_cons cost_ok tab_nil)))))))))

