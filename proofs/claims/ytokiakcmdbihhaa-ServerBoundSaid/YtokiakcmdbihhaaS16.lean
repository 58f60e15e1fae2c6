import Derived.Test.YtokiakcmdbihhaaS13
open Go Go.Sx Go.Proofs
set_option maxRecDepth 100000
namespace Go.Proofs.Ytokiakcmdbihhaa

/-- A row of calls. -/
structure CS where
  nil : Bool
  lo : Nat
  len : Nat
  cap : Nat
  n : Nat
  w : Nat → Int
  a : Nat → Int
  c : Nat → Int
def clT (w a c : Int) : T := .cons (.int .i64 w) (.cons (.int .u64 a) (.cons (.int .u64 c) .nil))
def CS.reg (x : CS) : Reg := { own := false, pl := true, fam := 1, el := 32, tot := fun _ => 0, c := fun _ => .arr x.n 3 (fun j => clT (x.w j) (x.a j) (x.c j)) }
def CS.v (x : CS) (r : Nat) : T := .ite x.nil .nils (.slice r 0 [] x.lo 3 x.len x.cap)
def CS.Ok (x : CS) : Prop := (x.nil = true → x.len = 0) ∧ x.lo + x.len ≤ x.n ∧ ∀ j, j < x.len → u64 (x.a (x.lo + j)) ∧ u64 (x.c (x.lo + j))
def viewK (t : T) (H : List Reg) : CS :=
  let g := regC H (tRef t)
  ⟨tNil t, tLo t, tLen t, tCap t, tLen g, fun j => tInt (tAt (tArr g j) 0), fun j => tInt (tAt (tArr g j) 1), fun j => tInt (tAt (tArr g j) 2)⟩
def small (n : Int) (x : CS) : Prop := x.len ≤ 60 ∧ n ≤ 2305843009213693952 ∧ ∀ j, j < x.len → x.a (x.lo + j) ≤ 1125899906842624
instance (n : Int) (x : CS) : Decidable (small n x) := by unfold small; infer_instance
def grP : Pat (Int × CS) where
  view | [.int .u64 n, t], H => some (n, viewK t H) | _, _ => none
  args x := [.int .u64 x.1, x.2.v 0]
  H x := [x.2.reg]
  out x := .need ((x.2.nil = true → x.2.len = 0) ∧ x.2.lo + x.2.len ≤ x.2.n) (.retq (.bool (!decide (small x.1 x.2))))
def grF (n : Int) (x : CS) : Fam where
  α := Nat
  I y := y ≤ x.len ∧ x.len ≤ 60 ∧ n ≤ 2305843009213693952 ∧ ∀ j, j < y → x.a (x.lo + j) ≤ 1125899906842624
  st y := { sl := mkSl 25 [(0, .int .u64 n), (1, x.v 0), (5, .int .i64 y)], H := [x.reg] }
  μ y := x.len - y
theorem gr_vc : ∀ (n : Int) (x : CS), ((x.nil = true → x.len = (0 : Nat)) ∧ x.lo + x.len ≤ x.n) ∧ True → (x.nil = true → x.len = (0 : Nat)) ∧ (decide ((↑x.len : Int) > (60 : Int)) = true → (x.nil = true → x.len = (0 : Nat)) ∧ x.lo +
  x.len ≤ x.n → (!decide (small n x)) = true ∧ True ∧ ((0 : Nat) ≤ (0 : Nat) ∧ x.n = x.n ∧ ∀ (j : Nat), j < x.n → x.w j = x.w j ∧ x.a j = x.a j ∧ x.c j = x.c j ∧ True) ∧ True) ∧ (decide ((↑x.len : Int) > (60 : Int)) =
  false → (decide (n > (2305843009213693952 : Int)) = true → (x.nil = true → x.len = (0 : Nat)) ∧ x.lo + x.len ≤ x.n → (!decide (small n x)) = true ∧ True ∧ ((0 : Nat) ≤ (0 : Nat) ∧ x.n = x.n ∧ ∀ (j : Nat), j < x.n → x.w j
  = x.w j ∧ x.a j = x.a j ∧ x.c j = x.c j ∧ True) ∧ True) ∧ (decide (n > (2305843009213693952 : Int)) = false → ∀ (v : Int), v = (0 : Int) → (∃ (y : Nat), (y ≤ x.len ∧ x.len ≤ (60 : Nat) ∧ n ≤ (2305843009213693952 : Int) ∧
  ∀ (j : Nat), j < y → x.a (x.lo + j) ≤ (1125899906842624 : Int)) ∧ ((n = n ∧ ((x.nil = true → x.nil = true) ∧ (x.nil = false → x.nil = false ∧ True ∧ True ∧ x.lo = x.lo ∧ x.len = x.len ∧ x.cap = x.cap)) ∧ v = (↑y : Int) ∧
  True) ∧ ((0 : Nat) ≤ (0 : Nat) ∧ x.n = x.n ∧ ∀ (j : Nat), j < x.n → x.w j = x.w j ∧ x.a j = x.a j ∧ x.c j = x.c j ∧ True) ∧ True) ∧ True) ∧ ∀ (y : Nat), (y ≤ x.len ∧ x.len ≤ (60 : Nat) ∧ n ≤ (2305843009213693952 : Int) ∧
  ∀ (j : Nat), j < y → x.a (x.lo + j) ≤ (1125899906842624 : Int)) → (x.nil = true → x.len = (0 : Nat)) ∧ (decide ((↑y : Int) < (↑x.len : Int)) = true → (x.nil = true → x.len = (0 : Nat)) ∧ ((0 : Int) ≤ (↑y : Int) ∧ (↑y :
  Int) < (↑x.len : Int)) ∧ x.lo + (↑y : Int).toNat < x.n ∧ (decide (x.a (x.lo + (↑y : Int).toNat) > (1125899906842624 : Int)) = true → (x.nil = true → x.len = (0 : Nat)) ∧ x.lo + x.len ≤ x.n → (!decide (small n x)) = true
  ∧ True ∧ ((0 : Nat) ≤ (0 : Nat) ∧ x.n = x.n ∧ ∀ (j : Nat), j < x.n → x.w j = x.w j ∧ x.a j = x.a j ∧ x.c j = x.c j ∧ True) ∧ True) ∧ (decide (x.a (x.lo + (↑y : Int).toNat) > (1125899906842624 : Int)) = false → ∀ (v :
  Int), v = IntKind.i64.wrap ((↑y : Int) + (1 : Int)) → ∃ (y_1 : Nat), (y_1 ≤ x.len ∧ x.len ≤ (60 : Nat) ∧ n ≤ (2305843009213693952 : Int) ∧ ∀ (j : Nat), j < y_1 → x.a (x.lo + j) ≤ (1125899906842624 : Int)) ∧ ((n = n ∧
  ((x.nil = true → x.nil = true) ∧ (x.nil = false → x.nil = false ∧ True ∧ True ∧ x.lo = x.lo ∧ x.len = x.len ∧ x.cap = x.cap)) ∧ v = (↑y_1 : Int) ∧ True) ∧ ((0 : Nat) ≤ (0 : Nat) ∧ x.n = x.n ∧ ∀ (j : Nat), j < x.n → x.w j
  = x.w j ∧ x.a j = x.a j ∧ x.c j = x.c j ∧ True) ∧ True) ∧ (grF n x).μ y_1 < (grF n x).μ y)) ∧ (decide ((↑y : Int) < (↑x.len : Int)) = false → (x.nil = true → x.len = (0 : Nat)) ∧ x.lo + x.len ≤ x.n → (!decide (small n
  x)) = false ∧ True ∧ ((0 : Nat) ≤ (0 : Nat) ∧ x.n = x.n ∧ ∀ (j : Nat), j < x.n → x.w j = x.w j ∧ x.a j = x.a j ∧ x.c j = x.c j ∧ True) ∧ True))) := by
  simp only [true_and, and_true, eq_self, Nat.le_refl, decide_eq_true_eq, decide_eq_false_iff_not, implies_true, and_self, Int.not_lt, gt_iff_lt, Int.toNat_natCast, IntKind.wrap_i64, Bool.not_eq_true', Bool.not_eq_false']
  rintro n x ⟨hnil, hlo⟩
  have hM : ∀ z : Nat, (grF n x).μ z = x.len - z := fun _ => rfl
  simp only [hM]
  refine ⟨hnil, fun h _ hs => by have := hs.1; omega, fun h60 => ⟨fun h _ hs => by have := hs.2.1; omega, fun hn v hv => ⟨⟨0, ⟨Nat.zero_le _, by omega, hn, fun j hj => absurd hj (Nat.not_lt_zero j)⟩, ⟨id, id⟩, hv⟩, fun y hy => ?_⟩⟩⟩
  obtain ⟨y1, y2, y3, y4⟩ := hy
  refine ⟨hnil, fun hlt => ⟨hnil, by omega, by omega, fun h _ hs => by have := hs.2.2 y (by omega); omega, fun h v hv => ⟨y + 1, ⟨by omega, y2, y3, fun j hj => ?_⟩, ⟨⟨id, id⟩, by omega⟩, by omega⟩⟩, fun hge _ => ⟨y2, y3, fun j hj => y4 j (by omega)⟩⟩
  by_cases e : j = y
  · rw [e]; exact h
  · exact y4 j (by omega)

def gr_C (x : (Int × CS)) : Cfg := { Γ := Go.Sx.look [], names := true, loops := onlyAt 4 [grF (x.1) (x.2)] }
theorem gr_al (x : (Int × CS)) : Shown (grP.vc Try.prog (gr_C x) Try.f10 x) := ⟨@Eq.mp _ _ (by kernel_rfl) (gr_vc (x.1) (x.2))⟩
theorem gr_ok : SpOk Try.prog 10 grP.sp := @Pat.okS _ grP Try.prog gr_C 10 Try.f10 (fun x => cfg_nil rfl) (by kernel_rfl) Try.func10 (fun _ => rfl) gr_al
theorem wakeN_drop (n : Int) : ∀ l : Chs, wakeN n (l.drop (wakeN n l)) = 0
  | [] => rfl
  | (a, b) :: l => by
    simp only [wakeN]
    split
    · rw [List.drop_succ_cons]; exact wakeN_drop n l
    · rename_i h
      rw [List.drop_zero]
      simp only [wakeN]; rw [if_neg h]
theorem wake_idem (n : Int) (l : Chs) : wakeL n (wakeL n l) = wakeL n l := by
  by_cases h : wakeN n l = 0
  · have e : wakeL n l = l := by unfold wakeL; rw [if_pos h]
    rw [e, e]
  · have e : wakeL n l = (n, sumN (wakeN n l) l) :: l.drop (wakeN n l) := by unfold wakeL; rw [if_neg h]
    rw [e]
    have k : wakeN n ((n, sumN (wakeN n l) l) :: l.drop (wakeN n l)) = 1 := by
      simp only [wakeN]
      rw [if_pos (Int.le_refl _), wakeN_drop]
    unfold wakeL
    rw [k, if_neg (by decide)]
    simp only [sumN, List.drop_succ_cons, List.drop_zero, Int.add_zero]
theorem wake_more {n t : Int} {l : Chs} (hp : posL l) (h1 : 1 ≤ l.length) : usL n l ≤ usL n (wakeL n l) ∧ dueL t l ≤ dueL t (wakeL n l) := by
  cases l with
  | nil => simp at h1
  | cons x l =>
    obtain ⟨a, b⟩ := x
    by_cases h : a ≤ n
    · have e : wakeN n ((a, b) :: l) = wakeN n l + 1 := by simp only [wakeN]; rw [if_pos h]
      have hs := (sumN_bd (l := l) (fun p hp' => hp p (List.mem_cons_of_mem _ hp')) (wakeN n l)).1
      unfold wakeL
      rw [e, if_neg (by omega)]
      refine ⟨?_, ?_⟩
      · show (if n < a then 0 else b) ≤ (if n < n then 0 else b + sumN (wakeN n l) l)
        rw [if_neg (by omega), if_neg (by omega)]
        omega
      · show cutI (a + t) ≤ cutI (n + t)
        unfold cutI
        split <;> split <;> omega
    · have e : wakeL n ((a, b) :: l) = (a, b) :: l := by
        unfold wakeL
        rw [if_pos (by simp only [wakeN]; rw [if_neg h])]
      rw [e]
      exact ⟨Int.le_refl _, Int.le_refl _⟩
/-- Where the calls stand. -/
structure At (n : Int) (x : CS) (i : Nat) (m : Int) : Prop where
  il : i ≤ x.len
  xl : x.len ≤ 60
  n0 : 0 ≤ n
  n1 : n ≤ 2305843009213693952
  m0 : n ≤ m
  m1 : m ≤ n + i * 1125899906842624
  al : ∀ j, j < x.len → x.a (x.lo + j) ≤ 1125899906842624
theorem At.step {n : Int} {x : CS} {i : Nat} {m : Int} (h : At n x i m) (hx : x.Ok) (hi : i < x.len) : At n x (i + 1) (m + x.a (x.lo + i)) ∧ (m + x.a (x.lo + i)) % 18446744073709551616 = m + x.a (x.lo + i) ∧ m + x.a (x.lo + i) ≤ 4611686018427387904 ∧ m ≤ m + x.a (x.lo + i) := by
  obtain ⟨h1, h2, h3, h4, h5, h6, h7⟩ := h
  have a1 := h7 i hi
  have a2 := (hx.2.2 i hi).1.1
  refine ⟨⟨by omega, h2, h3, h4, by omega, by omega, h7⟩, by omega, by omega, by omega⟩
theorem At.le {n : Int} {x : CS} {i : Nat} {m : Int} (h : At n x i m) : m ≤ 4611686018427387904 := by
  obtain ⟨h1, h2, h3, h4, h5, h6, h7⟩ := h
  omega
theorem At.start {n : Int} {x : CS} (hn : 0 ≤ n) (h : small n x) : At n x 0 n := ⟨Nat.zero_le _, h.1, hn, h.2.1, Int.le_refl _, by omega, h.2.2⟩
end Go.Proofs.Ytokiakcmdbihhaa
