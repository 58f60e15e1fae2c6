import Derived.Test.YtijpjhelgggmfaaC1
open Go Go.Sx Go.Proofs
set_option maxRecDepth 100000
namespace Go.Proofs.Ytijpjhelgggmfaa

def LS.regR (x : LS) : Reg := ro 52 x.n 3 (fun j => ldT (x.k j) (x.q j) (x.t j))
def rrP : Pat LS where
  view | [t], H => some (viewL t H) | _, _ => none
  args x := [x.v 0]
  H x := [x.regR]
  out x := .need x.Ok (.retq (.bool (decide x.l.right)))
def rrF (x : LS) : Fam where
  α := Nat
  I y := y ≤ x.len ∧ x.len ≤ 8 ∧ ∀ j, j < y → rightE (x.l.k j) (x.l.q j) (x.l.t j)
  st y := { sl := mkSl 43 [(0, x.v 0), (3, .int .i64 y)], H := [x.regR] }
  μ y := x.len - y
theorem rright_vc : ∀ (x : LS), x.Ok ∧ True → (x.nil = true → x.len = (0 : Nat)) ∧ (decide ((↑x.len : Int) > (8 : Int)) = true → x.Ok → decide x.l.right = false ∧ True ∧ ((0 : Nat) ≤ (0 : Nat) ∧ x.n = x.n ∧ ∀ (j : Nat), j < x.n → x.k j =
  x.k j ∧ x.q j = x.q j ∧ x.t j = x.t j ∧ True) ∧ True) ∧ (decide ((↑x.len : Int) > (8 : Int)) = false → ∀ (v : Int), v = (0 : Int) → (∃ (y : Nat), (y ≤ x.len ∧ x.len ≤ (8 : Nat) ∧ ∀ (j : Nat), j < y → rightE (x.l.k j)
  (x.l.q j) (x.l.t j)) ∧ ((((x.nil = true → x.nil = true) ∧ (x.nil = false → x.nil = false ∧ True ∧ True ∧ x.lo = x.lo ∧ x.len = x.len ∧ x.cap = x.cap)) ∧ v = (↑y : Int) ∧ True) ∧ ((0 : Nat) ≤ (0 : Nat) ∧ x.n = x.n ∧ ∀ (j
  : Nat), j < x.n → x.k j = x.k j ∧ x.q j = x.q j ∧ x.t j = x.t j ∧ True) ∧ True) ∧ True) ∧ ∀ (y : Nat), (y ≤ x.len ∧ x.len ≤ (8 : Nat) ∧ ∀ (j : Nat), j < y → rightE (x.l.k j) (x.l.q j) (x.l.t j)) → (x.nil = true → x.len =
  (0 : Nat)) ∧ (decide ((↑y : Int) < (↑x.len : Int)) = true → (x.nil = true → x.len = (0 : Nat)) ∧ ((0 : Int) ≤ (↑y : Int) ∧ (↑y : Int) < (↑x.len : Int)) ∧ x.lo + (↑y : Int).toNat < x.n ∧ ((x.k (x.lo + (↑y : Int).toNat) !=
  (1 : Int)) = true → ((x.k (x.lo + (↑y : Int).toNat) != (2 : Int)) = true → x.Ok → decide x.l.right = false ∧ True ∧ ((0 : Nat) ≤ (0 : Nat) ∧ x.n = x.n ∧ ∀ (j : Nat), j < x.n → x.k j = x.k j ∧ x.q j = x.q j ∧ x.t j = x.t
  j ∧ True) ∧ True) ∧ ((x.k (x.lo + (↑y : Int).toNat) != (2 : Int)) = false → (decide (x.q (x.lo + (↑y : Int).toNat) < (1 : Int)) = true → x.Ok → decide x.l.right = false ∧ True ∧ ((0 : Nat) ≤ (0 : Nat) ∧ x.n = x.n ∧ ∀ (j
  : Nat), j < x.n → x.k j = x.k j ∧ x.q j = x.q j ∧ x.t j = x.t j ∧ True) ∧ True) ∧ (decide (x.q (x.lo + (↑y : Int).toNat) < (1 : Int)) = false → (decide (x.q (x.lo + (↑y : Int).toNat) > x.t (x.lo + (↑y : Int).toNat)) =
  true → x.Ok → decide x.l.right = false ∧ True ∧ ((0 : Nat) ≤ (0 : Nat) ∧ x.n = x.n ∧ ∀ (j : Nat), j < x.n → x.k j = x.k j ∧ x.q j = x.q j ∧ x.t j = x.t j ∧ True) ∧ True) ∧ (decide (x.q (x.lo + (↑y : Int).toNat) > x.t
  (x.lo + (↑y : Int).toNat)) = false → (decide (x.t (x.lo + (↑y : Int).toNat) > (8192 : Int)) = true → x.Ok → decide x.l.right = false ∧ True ∧ ((0 : Nat) ≤ (0 : Nat) ∧ x.n = x.n ∧ ∀ (j : Nat), j < x.n → x.k j = x.k j ∧
  x.q j = x.q j ∧ x.t j = x.t j ∧ True) ∧ True) ∧ (decide (x.t (x.lo + (↑y : Int).toNat) > (8192 : Int)) = false → ∀ (v : Int), v = IntKind.i64.wrap ((↑y : Int) + (1 : Int)) → ∃ (y_1 : Nat), (y_1 ≤ x.len ∧ x.len ≤ (8 :
  Nat) ∧ ∀ (j : Nat), j < y_1 → rightE (x.l.k j) (x.l.q j) (x.l.t j)) ∧ ((((x.nil = true → x.nil = true) ∧ (x.nil = false → x.nil = false ∧ True ∧ True ∧ x.lo = x.lo ∧ x.len = x.len ∧ x.cap = x.cap)) ∧ v = (↑y_1 : Int) ∧
  True) ∧ ((0 : Nat) ≤ (0 : Nat) ∧ x.n = x.n ∧ ∀ (j : Nat), j < x.n → x.k j = x.k j ∧ x.q j = x.q j ∧ x.t j = x.t j ∧ True) ∧ True) ∧ (rrF x).μ y_1 < (rrF x).μ y))))) ∧ ((x.k (x.lo + (↑y : Int).toNat) != (1 : Int)) = false
  → (decide (x.q (x.lo + (↑y : Int).toNat) < (1 : Int)) = true → x.Ok → decide x.l.right = false ∧ True ∧ ((0 : Nat) ≤ (0 : Nat) ∧ x.n = x.n ∧ ∀ (j : Nat), j < x.n → x.k j = x.k j ∧ x.q j = x.q j ∧ x.t j = x.t j ∧ True) ∧
  True) ∧ (decide (x.q (x.lo + (↑y : Int).toNat) < (1 : Int)) = false → (decide (x.q (x.lo + (↑y : Int).toNat) > x.t (x.lo + (↑y : Int).toNat)) = true → x.Ok → decide x.l.right = false ∧ True ∧ ((0 : Nat) ≤ (0 : Nat) ∧ x.n
  = x.n ∧ ∀ (j : Nat), j < x.n → x.k j = x.k j ∧ x.q j = x.q j ∧ x.t j = x.t j ∧ True) ∧ True) ∧ (decide (x.q (x.lo + (↑y : Int).toNat) > x.t (x.lo + (↑y : Int).toNat)) = false → (decide (x.t (x.lo + (↑y : Int).toNat) >
  (8192 : Int)) = true → x.Ok → decide x.l.right = false ∧ True ∧ ((0 : Nat) ≤ (0 : Nat) ∧ x.n = x.n ∧ ∀ (j : Nat), j < x.n → x.k j = x.k j ∧ x.q j = x.q j ∧ x.t j = x.t j ∧ True) ∧ True) ∧ (decide (x.t (x.lo + (↑y :
  Int).toNat) > (8192 : Int)) = false → ∀ (v : Int), v = IntKind.i64.wrap ((↑y : Int) + (1 : Int)) → ∃ (y_1 : Nat), (y_1 ≤ x.len ∧ x.len ≤ (8 : Nat) ∧ ∀ (j : Nat), j < y_1 → rightE (x.l.k j) (x.l.q j) (x.l.t j)) ∧
  ((((x.nil = true → x.nil = true) ∧ (x.nil = false → x.nil = false ∧ True ∧ True ∧ x.lo = x.lo ∧ x.len = x.len ∧ x.cap = x.cap)) ∧ v = (↑y_1 : Int) ∧ True) ∧ ((0 : Nat) ≤ (0 : Nat) ∧ x.n = x.n ∧ ∀ (j : Nat), j < x.n → x.k
  j = x.k j ∧ x.q j = x.q j ∧ x.t j = x.t j ∧ True) ∧ True) ∧ (rrF x).μ y_1 < (rrF x).μ y))))) ∧ (decide ((↑y : Int) < (↑x.len : Int)) = false → x.Ok → decide x.l.right = true ∧ True ∧ ((0 : Nat) ≤ (0 : Nat) ∧ x.n = x.n ∧
  ∀ (j : Nat), j < x.n → x.k j = x.k j ∧ x.q j = x.q j ∧ x.t j = x.t j ∧ True) ∧ True)) := by
  simp only [and_true, eq_self, Nat.le_refl, decide_eq_true_eq, decide_eq_false_iff_not, implies_true, and_self, bne_iff_ne, Int.not_lt, gt_iff_lt, ne_eq, Int.toNat_natCast, IntKind.wrap_i64, bne_eq_false_iff_eq]
  rintro x hx
  have hlo := hx.2
  refine ⟨hx.1, fun h _ hr => ?_, fun h8 v hv => ⟨⟨0, ⟨Nat.zero_le _, by omega, fun j hj => absurd hj (Nat.not_lt_zero j)⟩, ⟨id, id⟩, hv⟩, fun y hy => ?_⟩⟩
  · have : x.len ≤ 8 := hr.1
    omega
  obtain ⟨y1, y2, y3⟩ := hy
  refine ⟨hx.1, fun hlt => ⟨hx.1, by omega, by omega, ?_⟩, fun hge _ => ⟨y2, fun j hj => y3 j (by have : j < x.len := hj; omega)⟩⟩
  have hbad : ¬ rightE (x.k (x.lo + y)) (x.q (x.lo + y)) (x.t (x.lo + y)) → ¬ x.l.right := fun h hr => h (hr.2 y (by show y < x.len; omega))
  have hgo : rightE (x.k (x.lo + y)) (x.q (x.lo + y)) (x.t (x.lo + y)) → ∀ v : Int, v = ((y : Int) + 1 + 9223372036854775808) % 18446744073709551616 - 9223372036854775808 → ∃ y_1, (y_1 ≤ x.len ∧ x.len ≤ 8 ∧ ∀ j, j < y_1 → rightE (x.l.k j) (x.l.q j) (x.l.t j)) ∧ (((x.nil = true → x.nil = true) ∧ (x.nil = false → x.nil = false)) ∧ v = (y_1 : Nat)) ∧ (rrF x).μ y_1 < (rrF x).μ y := fun h v hv => ⟨y + 1, ⟨by omega, y2, fun j hj => by
      by_cases e : j = y
      · subst e; exact h
      · exact y3 j (by omega)⟩, ⟨⟨id, id⟩, by omega⟩, by show x.len - (y + 1) < x.len - y; omega⟩
  generalize x.k (x.lo + y) = K at *
  generalize x.q (x.lo + y) = Q at *
  generalize x.t (x.lo + y) = U at *
  repeat' (with_reducible first | assumption | apply And.intro | intro _)
  all_goals (first | exact hbad (by unfold rightE; omega) | exact hgo (by unfold rightE; omega) _ (by assumption) | omega)

def rright_C (x : LS) : Cfg := { Γ := Go.Sx.look [], names := true, loops := onlyAt 4 [rrF x] }
theorem rright_al (x : LS) : Shown (rrP.vc Try.prog (rright_C x) Try.f13 x) := ⟨@Eq.mp _ _ (by kernel_rfl) (rright_vc x)⟩
theorem rright_ok : SpOk Try.prog 13 rrP.sp := @Pat.okS _ rrP Try.prog rright_C 13 Try.f13 (fun x => cfg_nil rfl) (by kernel_rfl) Try.func13 (fun _ => rfl) rright_al
def rslP : Pat (Int × Int × Int) where
  view | [.cons (.int .i64 k) (.cons (.int .u64 q) (.cons (.int .u64 t) .nil))], _ => some (k, q, t) | _, _ => none
  args x := [ldT x.1 x.2.1 x.2.2]
  H _ := []
  out x := .need (rightE x.1 x.2.1 x.2.2) (.retq (.int .u64 (if x.1 = 1 then 0 else x.2.2 - x.2.1)))
theorem rsl_vc : ∀ (k q t : Int), rightE k q t ∧ True → ∀ (v : Int), v = (0 : Int) → ((k == (2 : Int)) = true → ∀ (v : Int), v = IntKind.u64.wrap (t - q) → rightE k q t → (v = if k = (1 : Int) then (0 : Int) else t - q) ∧ True ∧ True) ∧
  ((k == (2 : Int)) = false → ∀ (v : Int), v = (0 : Int) → rightE k q t → (v = if k = (1 : Int) then (0 : Int) else t - q) ∧ True ∧ True) := by
  simp only [and_true, beq_iff_eq, beq_eq_false_iff_ne, and_self, ne_eq, IntKind.wrap_u64]
  rintro k q t hr
  unfold rightE at hr
  try dsimp only
  repeat' (with_reducible first | assumption | apply And.intro | intro _)
  all_goals (try simp only [cond_dec, decide_eq_decide] at *)
  all_goals (first | omega | ((repeat' (first | omega | split)) <;> (try dsimp only) <;> (try (first | omega | contradiction | (subst_vars; first | rfl | omega) | (simp_all; done) | (simp_all; omega)))))

def rsl_C (_ : (Int × Int × Int)) : Cfg := { Γ := Go.Sx.look [], names := true }
theorem rsl_al (x : (Int × Int × Int)) : Shown (rslP.vc Try.prog (rsl_C x) Try.f31 x) := ⟨@Eq.mp _ _ (by kernel_rfl) (rsl_vc (x.1) (x.2.1) (x.2.2))⟩
theorem rsl_ok : SpOk Try.prog 31 rslP.sp := @Pat.okS _ rslP Try.prog rsl_C 31 Try.f31 (fun x => cfg_nil rfl) (by kernel_rfl) Try.func31 (fun _ => rfl) rsl_al
def rdemP : Pat (LS × Int) where
  view | [t, .int .u64 u], H => some (viewL t H, u) | _, _ => none
  args x := [x.1.v 0, .int .u64 x.2]
  H x := [x.1.regR]
  out x := .need (x.1.Ok ∧ u64 x.2) (.retq (.int .u64 (if x.1.l.right then x.1.l.dem (min x.2 1099511627776) x.1.len else 0)))
def rdemF (x : LS) (u : Int) : Fam where
  α := Nat
  I y := y ≤ x.len ∧ x.l.right
  st y := { sl := mkSl 40 [(0, x.v 0), (1, .int .u64 (min u 1099511627776)), (5, .int .u64 (x.l.dem (min u 1099511627776) y)), (6, .int .i64 y)], H := [x.regR] }
  μ y := x.len - y
def tRdem : Tab := [(13, rrP.sp), (31, rslP.sp)]
theorem tRdem_ok : TabOk Try.prog tRdem := (tab_cons rright_ok (tab_cons rsl_ok tab_nil))

theorem rdem_vc : ∀ (x : LS) (u : Int), (x.Ok ∧ (0 : Int) ≤ u ∧ u < (18446744073709551616 : Int)) ∧ True → ∀ (v : Int), v = (0 : Int) → ∀ (v : Int), v = (0 : Int) → ((((x.nil = true → x.nil = true) ∧ (x.nil = false → x.nil = false ∧ True
  ∧ True ∧ x.lo = x.lo ∧ x.len = x.len ∧ x.cap = x.cap)) ∧ True) ∧ ((0 : Nat) ≤ (0 : Nat) ∧ x.n = x.n ∧ ∀ (j : Nat), j < x.n → x.k j = x.k j ∧ x.q j = x.q j ∧ x.t j = x.t j ∧ True) ∧ True) ∧ x.Ok ∧ ((!decide x.l.right) =
  true → ∀ (v : Int), v = (0 : Int) → x.Ok ∧ (0 : Int) ≤ u ∧ u < (18446744073709551616 : Int) → (v = if x.l.right then x.l.dem (min u (1099511627776 : Int)) x.len else (0 : Int)) ∧ True ∧ ((0 : Nat) ≤ (0 : Nat) ∧ x.n = x.n
  ∧ ∀ (j : Nat), j < x.n → x.k j = x.k j ∧ x.q j = x.q j ∧ x.t j = x.t j ∧ True) ∧ True) ∧ ((!decide x.l.right) = false → ∀ (v_1 : Int), (v_1 = if (1099511627776 : Int) < u then (1099511627776 : Int) else u) → ∀ (v_2 :
  Int), v_2 = (0 : Int) → (∃ (y : Nat), (y ≤ x.len ∧ x.l.right) ∧ ((((x.nil = true → x.nil = true) ∧ (x.nil = false → x.nil = false ∧ True ∧ True ∧ x.lo = x.lo ∧ x.len = x.len ∧ x.cap = x.cap)) ∧ v_1 = min u (1099511627776
  : Int) ∧ v = x.l.dem (min u (1099511627776 : Int)) y ∧ v_2 = (↑y : Int) ∧ True) ∧ ((0 : Nat) ≤ (0 : Nat) ∧ x.n = x.n ∧ ∀ (j : Nat), j < x.n → x.k j = x.k j ∧ x.q j = x.q j ∧ x.t j = x.t j ∧ True) ∧ True) ∧ True) ∧ ∀ (y :
  Nat), y ≤ x.len ∧ x.l.right → (x.nil = true → x.len = (0 : Nat)) ∧ (decide ((↑y : Int) < (↑x.len : Int)) = true → (x.nil = true → x.len = (0 : Nat)) ∧ ((0 : Int) ≤ (↑y : Int) ∧ (↑y : Int) < (↑x.len : Int)) ∧ x.lo + (↑y :
  Int).toNat < x.n ∧ (((x.k (x.lo + (↑y : Int).toNat) = x.k (x.lo + (↑y : Int).toNat) ∧ x.q (x.lo + (↑y : Int).toNat) = x.q (x.lo + (↑y : Int).toNat) ∧ x.t (x.lo + (↑y : Int).toNat) = x.t (x.lo + (↑y : Int).toNat) ∧ True)
  ∧ True) ∧ True) ∧ rightE (x.k (x.lo + (↑y : Int).toNat)) (x.q (x.lo + (↑y : Int).toNat)) (x.t (x.lo + (↑y : Int).toNat)) ∧ (x.nil = true → x.len = (0 : Nat)) ∧ ((0 : Int) ≤ (↑y : Int) ∧ (↑y : Int) < (↑x.len : Int)) ∧
  x.lo + (↑y : Int).toNat < x.n ∧ x.t (x.lo + (↑y : Int).toNat) ≠ (0 : Int) ∧ (x.nil = true → x.len = (0 : Nat)) ∧ ((0 : Int) ≤ (↑y : Int) ∧ (↑y : Int) < (↑x.len : Int)) ∧ x.lo + (↑y : Int).toNat < x.n ∧ ∀ (v : Int), v =
  IntKind.u64.wrap (x.l.dem (min u (1099511627776 : Int)) y + IntKind.u64.wrap (IntKind.u64.wrap ((IntKind.u64.wrap (min u (1099511627776 : Int) + if x.k (x.lo + (↑y : Int).toNat) = (1 : Int) then (0 : Int) else x.t (x.lo
  + (↑y : Int).toNat) - x.q (x.lo + (↑y : Int).toNat))).tdiv (x.t (x.lo + (↑y : Int).toNat))) * x.q (x.lo + (↑y : Int).toNat))) → ∀ (v_3 : Int), v_3 = IntKind.i64.wrap ((↑y : Int) + (1 : Int)) → ∃ (y_1 : Nat), (y_1 ≤ x.len
  ∧ x.l.right) ∧ ((((x.nil = true → x.nil = true) ∧ (x.nil = false → x.nil = false ∧ True ∧ True ∧ x.lo = x.lo ∧ x.len = x.len ∧ x.cap = x.cap)) ∧ min u (1099511627776 : Int) = min u (1099511627776 : Int) ∧ v = x.l.dem
  (min u (1099511627776 : Int)) y_1 ∧ v_3 = (↑y_1 : Int) ∧ True) ∧ ((0 : Nat) ≤ (0 : Nat) ∧ x.n = x.n ∧ ∀ (j : Nat), j < x.n → x.k j = x.k j ∧ x.q j = x.q j ∧ x.t j = x.t j ∧ True) ∧ True) ∧ (rdemF x u).μ y_1 < (rdemF x
  u).μ y) ∧ (decide ((↑y : Int) < (↑x.len : Int)) = false → ∀ (v : Int), v = x.l.dem (min u (1099511627776 : Int)) y → x.Ok ∧ (0 : Int) ≤ u ∧ u < (18446744073709551616 : Int) → (v = if x.l.right then x.l.dem (min u
  (1099511627776 : Int)) x.len else (0 : Int)) ∧ True ∧ ((0 : Nat) ≤ (0 : Nat) ∧ x.n = x.n ∧ ∀ (j : Nat), j < x.n → x.k j = x.k j ∧ x.q j = x.q j ∧ x.t j = x.t j ∧ True) ∧ True)) := by
  simp only [true_and, and_true, eq_self, Nat.le_refl, decide_eq_true_eq, decide_eq_false_iff_not, implies_true, and_self, Int.not_lt, ne_eq, Int.toNat_natCast, IntKind.wrap_u64, IntKind.wrap_i64, Bool.not_eq_true', Bool.not_eq_false']
  rintro x u ⟨hx, hu, hu'⟩ _ rfl _ rfl
  have hlo := hx.2
  refine ⟨⟨id, id⟩, hx, fun h v hv _ => by rw [if_neg h]; exact hv, fun hr v1 hv1 v2 hv2 => ?_⟩
  have em : (if 1099511627776 < u then 1099511627776 else u) = min u 1099511627776 := by split <;> omega
  have hM0 : 0 ≤ min u 1099511627776 ∧ min u 1099511627776 ≤ 1099511627776 := by omega
  rw [em] at hv1
  generalize min u 1099511627776 = t at *
  refine ⟨⟨0, ⟨Nat.zero_le _, hr⟩, ⟨id, id⟩, hv1, rfl, hv2⟩, fun y hy => ⟨hx.1, fun hlt => ?_, fun hge v hv _ => ?_⟩⟩
  · have hy := hy.1
    have hr1 := hr.2 y (by show y < x.len; omega)
    have hb := LL.dem_bd hr hM0.1 (y + 1) (by show y + 1 ≤ x.len; omega)
    have hb0 := LL.dem_bd hr hM0.1 y (by show y ≤ x.len; omega)
    have h8 : x.len ≤ 8 := hr.1
    have hs : x.l.dem t (y + 1) = x.l.dem t y + (t + x.l.sl y) / x.l.t y * x.l.q y := rfl
    have hr1 : rightE (x.k (x.lo + y)) (x.q (x.lo + y)) (x.t (x.lo + y)) := hr1
    have hr2 := hr1
    unfold rightE at hr2
    have e0 : (t + if x.k (x.lo + y) = 1 then 0 else x.t (x.lo + y) - x.q (x.lo + y)) = t + x.l.sl y := rfl
    have hsl : 0 ≤ x.l.sl y ∧ x.l.sl y ≤ 8192 := by unfold LL.sl; show _ ∧ _; have e1 : x.l.t y = x.t (x.lo + y) := rfl; have e2 : x.l.q y = x.q (x.lo + y) := rfl; split <;> omega
    rw [e0]
    refine ⟨hx.1, by omega, by omega, hr1, hx.1, by omega, by omega, by omega, hx.1, by omega, by omega, fun v hv v3 hv3 => ⟨y + 1, ⟨by omega, hr⟩, ⟨⟨id, id⟩, ?_, by omega⟩, by show x.len - (y + 1) < x.len - y; omega⟩⟩
    have e3 : (t + x.l.sl y) % 18446744073709551616 = t + x.l.sl y := by omega
    rw [e3, Int.tdiv_eq_ediv_of_nonneg (by omega)] at hv
    have h1 : 0 ≤ (t + x.l.sl y) / x.t (x.lo + y) := Int.ediv_nonneg (by omega) (by omega)
    have h5 : (t + x.l.sl y) / x.t (x.lo + y) ≤ t + x.l.sl y := Int.ediv_le_self _ (by omega)
    have e4 : (t + x.l.sl y) / x.t (x.lo + y) % 18446744073709551616 = (t + x.l.sl y) / x.t (x.lo + y) := by omega
    rw [e4] at hv
    have h6 : 0 ≤ (t + x.l.sl y) / x.t (x.lo + y) * x.q (x.lo + y) := Int.mul_nonneg h1 (by omega)
    have hs' : x.l.dem t (y + 1) = x.l.dem t y + (t + x.l.sl y) / x.t (x.lo + y) * x.q (x.lo + y) := hs
    generalize (t + x.l.sl y) / x.t (x.lo + y) * x.q (x.lo + y) = p at *
    have hb1 : ((y + 1 : Nat) : Int) * (t + 8192) ≤ 8 * (t + 8192) := Int.mul_le_mul_of_nonneg_right (by omega) (by omega)
    omega
  · have : y = x.len := by omega
    rw [if_pos hr, hv, this]

def rdem_C (x : (LS × Int)) : Cfg := { Γ := Go.Sx.look tRdem, names := true, loops := onlyAt 6 [rdemF (x.1) (x.2)] }
theorem rdem_al (x : (LS × Int)) : Shown (rdemP.vc Try.prog (rdem_C x) Try.f15 x) := ⟨@Eq.mp _ _ (by kernel_rfl) (rdem_vc (x.1) (x.2))⟩
theorem rdem_ok : SpOk Try.prog 15 rdemP.sp := @Pat.okS _ rdemP Try.prog rdem_C 15 Try.f15 (fun x => cfg_tab rfl tRdem_ok) (by kernel_rfl) Try.func15 (fun _ => rfl) rdem_al
def rtimesF (a b n : Int) : Fam where
  α := Int × Int × Int
  I y := (0 ≤ y.1 ∧ y.1 < two128) ∧ (0 ≤ y.2.1 ∧ y.2.1 < two128) ∧ u64 y.2.2 ∧ (0 < y.2.2 → y.1 + y.2.1 * y.2.2 = wN a b * n) ∧ (y.2.2 = 0 → y.1 = wN a b * n)
  st y := { sl := mkSl 27 [(1, .int .u64 y.2.2), (2, p0 0), (4, p0 1), (5, p0 2)], H := [newReg 64 (wO y.2.1), newReg 64 (wT 0 0), newReg 64 (wO y.1)] }
  μ y := y.2.2.toNat

def tRtimes : Tab := [(60, addP.sp)]
theorem tRtimes_ok : TabOk Try.prog tRtimes := (tab_cons add_ok tab_nil)

theorem rtimes_vc : ∀ (a b n : Int), ((((0 : Int) ≤ a ∧ a < (18446744073709551616 : Int)) ∧ (0 : Int) ≤ b ∧ b < (18446744073709551616 : Int)) ∧ ((0 : Int) ≤ n ∧ n < (18446744073709551616 : Int)) ∧ wN a b * n < two128) ∧ True → (∃ (y : Int ×
  Int × Int), (((0 : Int) ≤ y.fst ∧ y.fst < two128) ∧ ((0 : Int) ≤ y.snd.fst ∧ y.snd.fst < two128) ∧ ((0 : Int) ≤ y.snd.snd ∧ y.snd.snd < (18446744073709551616 : Int)) ∧ ((0 : Int) < y.snd.snd → y.fst + y.snd.fst *
  y.snd.snd = wN a b * n) ∧ (y.snd.snd = (0 : Int) → y.fst = wN a b * n)) ∧ ((n = y.snd.snd ∧ (True ∧ True) ∧ (True ∧ True) ∧ (True ∧ True) ∧ True) ∧ ((2 : Nat) ≤ (2 : Nat) ∧ a = y.snd.fst / (18446744073709551616 : Int) ∧
  b = y.snd.fst % (18446744073709551616 : Int) ∧ True) ∧ ((2 : Nat) ≤ (2 : Nat) ∧ (0 : Int) = (0 : Int) ∧ (0 : Int) = (0 : Int) ∧ True) ∧ ((2 : Nat) ≤ (2 : Nat) ∧ (0 : Int) = y.fst / (18446744073709551616 : Int) ∧ (0 :
  Int) = y.fst % (18446744073709551616 : Int) ∧ True) ∧ True) ∧ True) ∧ ∀ (y : Int × Int × Int), ((0 : Int) ≤ y.fst ∧ y.fst < two128) ∧ ((0 : Int) ≤ y.snd.fst ∧ y.snd.fst < two128) ∧ ((0 : Int) ≤ y.snd.snd ∧ y.snd.snd <
  (18446744073709551616 : Int)) ∧ ((0 : Int) < y.snd.snd → y.fst + y.snd.fst * y.snd.snd = wN a b * n) ∧ (y.snd.snd = (0 : Int) → y.fst = wN a b * n) → (decide (y.snd.snd > (0 : Int)) = true → ((bits BinOp.and IntKind.u64
  y.snd.snd (1 : Int) == (1 : Int)) = true → (((y.fst / (18446744073709551616 : Int) = y.fst / (18446744073709551616 : Int) ∧ y.fst % (18446744073709551616 : Int) = y.fst % (18446744073709551616 : Int) ∧ True) ∧ (y.snd.fst
  / (18446744073709551616 : Int) = y.snd.fst / (18446744073709551616 : Int) ∧ y.snd.fst % (18446744073709551616 : Int) = y.snd.fst % (18446744073709551616 : Int) ∧ True) ∧ True) ∧ True) ∧ ((((0 : Int) ≤ y.fst /
  (18446744073709551616 : Int) ∧ y.fst / (18446744073709551616 : Int) < (18446744073709551616 : Int)) ∧ (0 : Int) ≤ y.fst % (18446744073709551616 : Int) ∧ y.fst % (18446744073709551616 : Int) < (18446744073709551616 :
  Int)) ∧ ((0 : Int) ≤ y.snd.fst / (18446744073709551616 : Int) ∧ y.snd.fst / (18446744073709551616 : Int) < (18446744073709551616 : Int)) ∧ (0 : Int) ≤ y.snd.fst % (18446744073709551616 : Int) ∧ y.snd.fst %
  (18446744073709551616 : Int) < (18446744073709551616 : Int)) ∧ (((y.snd.fst / (18446744073709551616 : Int) = y.snd.fst / (18446744073709551616 : Int) ∧ y.snd.fst % (18446744073709551616 : Int) = y.snd.fst %
  (18446744073709551616 : Int) ∧ True) ∧ (y.snd.fst / (18446744073709551616 : Int) = y.snd.fst / (18446744073709551616 : Int) ∧ y.snd.fst % (18446744073709551616 : Int) = y.snd.fst % (18446744073709551616 : Int) ∧ True) ∧
  True) ∧ True) ∧ ((((0 : Int) ≤ y.snd.fst / (18446744073709551616 : Int) ∧ y.snd.fst / (18446744073709551616 : Int) < (18446744073709551616 : Int)) ∧ (0 : Int) ≤ y.snd.fst % (18446744073709551616 : Int) ∧ y.snd.fst %
  (18446744073709551616 : Int) < (18446744073709551616 : Int)) ∧ ((0 : Int) ≤ y.snd.fst / (18446744073709551616 : Int) ∧ y.snd.fst / (18446744073709551616 : Int) < (18446744073709551616 : Int)) ∧ (0 : Int) ≤ y.snd.fst %
  (18446744073709551616 : Int) ∧ y.snd.fst % (18446744073709551616 : Int) < (18446744073709551616 : Int)) ∧ (0 : Int) ≤ (1 : Int) ∧ ∀ (v : Int), v = y.snd.snd.fdiv ((2 : Int) ^ min (Int.toNat (1 : Int)) IntKind.u64.bits) →
  ∃ (y_1 : Int × Int × Int), (((0 : Int) ≤ y_1.fst ∧ y_1.fst < two128) ∧ ((0 : Int) ≤ y_1.snd.fst ∧ y_1.snd.fst < two128) ∧ ((0 : Int) ≤ y_1.snd.snd ∧ y_1.snd.snd < (18446744073709551616 : Int)) ∧ ((0 : Int) < y_1.snd.snd
  → y_1.fst + y_1.snd.fst * y_1.snd.snd = wN a b * n) ∧ (y_1.snd.snd = (0 : Int) → y_1.fst = wN a b * n)) ∧ ((v = y_1.snd.snd ∧ (True ∧ True) ∧ (True ∧ True) ∧ (True ∧ True) ∧ True) ∧ ((2 : Nat) ≤ (2 : Nat) ∧ (if wN
  (y.snd.fst / (18446744073709551616 : Int)) (y.snd.fst % (18446744073709551616 : Int)) + wN (y.snd.fst / (18446744073709551616 : Int)) (y.snd.fst % (18446744073709551616 : Int)) < two128 then wN (y.snd.fst /
  (18446744073709551616 : Int)) (y.snd.fst % (18446744073709551616 : Int)) + wN (y.snd.fst / (18446744073709551616 : Int)) (y.snd.fst % (18446744073709551616 : Int)) else (0 : Int)) / (18446744073709551616 : Int) =
  y_1.snd.fst / (18446744073709551616 : Int) ∧ (if wN (y.snd.fst / (18446744073709551616 : Int)) (y.snd.fst % (18446744073709551616 : Int)) + wN (y.snd.fst / (18446744073709551616 : Int)) (y.snd.fst % (18446744073709551616
  : Int)) < two128 then wN (y.snd.fst / (18446744073709551616 : Int)) (y.snd.fst % (18446744073709551616 : Int)) + wN (y.snd.fst / (18446744073709551616 : Int)) (y.snd.fst % (18446744073709551616 : Int)) else (0 : Int)) %
  (18446744073709551616 : Int) = y_1.snd.fst % (18446744073709551616 : Int) ∧ True) ∧ ((2 : Nat) ≤ (2 : Nat) ∧ (0 : Int) = (0 : Int) ∧ (0 : Int) = (0 : Int) ∧ True) ∧ ((2 : Nat) ≤ (2 : Nat) ∧ (if wN (y.fst /
  (18446744073709551616 : Int)) (y.fst % (18446744073709551616 : Int)) + wN (y.snd.fst / (18446744073709551616 : Int)) (y.snd.fst % (18446744073709551616 : Int)) < two128 then wN (y.fst / (18446744073709551616 : Int))
  (y.fst % (18446744073709551616 : Int)) + wN (y.snd.fst / (18446744073709551616 : Int)) (y.snd.fst % (18446744073709551616 : Int)) else (0 : Int)) / (18446744073709551616 : Int) = y_1.fst / (18446744073709551616 : Int) ∧
  (if wN (y.fst / (18446744073709551616 : Int)) (y.fst % (18446744073709551616 : Int)) + wN (y.snd.fst / (18446744073709551616 : Int)) (y.snd.fst % (18446744073709551616 : Int)) < two128 then wN (y.fst /
  (18446744073709551616 : Int)) (y.fst % (18446744073709551616 : Int)) + wN (y.snd.fst / (18446744073709551616 : Int)) (y.snd.fst % (18446744073709551616 : Int)) else (0 : Int)) % (18446744073709551616 : Int) = y_1.fst %
  (18446744073709551616 : Int) ∧ True) ∧ True) ∧ (rtimesF a b n).μ y_1 < (rtimesF a b n).μ y) ∧ ((bits BinOp.and IntKind.u64 y.snd.snd (1 : Int) == (1 : Int)) = false → (((y.snd.fst / (18446744073709551616 : Int) =
  y.snd.fst / (18446744073709551616 : Int) ∧ y.snd.fst % (18446744073709551616 : Int) = y.snd.fst % (18446744073709551616 : Int) ∧ True) ∧ (y.snd.fst / (18446744073709551616 : Int) = y.snd.fst / (18446744073709551616 :
  Int) ∧ y.snd.fst % (18446744073709551616 : Int) = y.snd.fst % (18446744073709551616 : Int) ∧ True) ∧ True) ∧ True) ∧ ((((0 : Int) ≤ y.snd.fst / (18446744073709551616 : Int) ∧ y.snd.fst / (18446744073709551616 : Int) <
  (18446744073709551616 : Int)) ∧ (0 : Int) ≤ y.snd.fst % (18446744073709551616 : Int) ∧ y.snd.fst % (18446744073709551616 : Int) < (18446744073709551616 : Int)) ∧ ((0 : Int) ≤ y.snd.fst / (18446744073709551616 : Int) ∧
  y.snd.fst / (18446744073709551616 : Int) < (18446744073709551616 : Int)) ∧ (0 : Int) ≤ y.snd.fst % (18446744073709551616 : Int) ∧ y.snd.fst % (18446744073709551616 : Int) < (18446744073709551616 : Int)) ∧ (0 : Int) ≤ (1
  : Int) ∧ ∀ (v : Int), v = y.snd.snd.fdiv ((2 : Int) ^ min (Int.toNat (1 : Int)) IntKind.u64.bits) → ∃ (y_1 : Int × Int × Int), (((0 : Int) ≤ y_1.fst ∧ y_1.fst < two128) ∧ ((0 : Int) ≤ y_1.snd.fst ∧ y_1.snd.fst < two128)
  ∧ ((0 : Int) ≤ y_1.snd.snd ∧ y_1.snd.snd < (18446744073709551616 : Int)) ∧ ((0 : Int) < y_1.snd.snd → y_1.fst + y_1.snd.fst * y_1.snd.snd = wN a b * n) ∧ (y_1.snd.snd = (0 : Int) → y_1.fst = wN a b * n)) ∧ ((v =
  y_1.snd.snd ∧ (True ∧ True) ∧ (True ∧ True) ∧ (True ∧ True) ∧ True) ∧ ((2 : Nat) ≤ (2 : Nat) ∧ (if wN (y.snd.fst / (18446744073709551616 : Int)) (y.snd.fst % (18446744073709551616 : Int)) + wN (y.snd.fst /
  (18446744073709551616 : Int)) (y.snd.fst % (18446744073709551616 : Int)) < two128 then wN (y.snd.fst / (18446744073709551616 : Int)) (y.snd.fst % (18446744073709551616 : Int)) + wN (y.snd.fst / (18446744073709551616 :
  Int)) (y.snd.fst % (18446744073709551616 : Int)) else (0 : Int)) / (18446744073709551616 : Int) = y_1.snd.fst / (18446744073709551616 : Int) ∧ (if wN (y.snd.fst / (18446744073709551616 : Int)) (y.snd.fst %
  (18446744073709551616 : Int)) + wN (y.snd.fst / (18446744073709551616 : Int)) (y.snd.fst % (18446744073709551616 : Int)) < two128 then wN (y.snd.fst / (18446744073709551616 : Int)) (y.snd.fst % (18446744073709551616 :
  Int)) + wN (y.snd.fst / (18446744073709551616 : Int)) (y.snd.fst % (18446744073709551616 : Int)) else (0 : Int)) % (18446744073709551616 : Int) = y_1.snd.fst % (18446744073709551616 : Int) ∧ True) ∧ ((2 : Nat) ≤ (2 :
  Nat) ∧ (0 : Int) = (0 : Int) ∧ (0 : Int) = (0 : Int) ∧ True) ∧ ((2 : Nat) ≤ (2 : Nat) ∧ y.fst / (18446744073709551616 : Int) = y_1.fst / (18446744073709551616 : Int) ∧ y.fst % (18446744073709551616 : Int) = y_1.fst %
  (18446744073709551616 : Int) ∧ True) ∧ True) ∧ (rtimesF a b n).μ y_1 < (rtimesF a b n).μ y)) ∧ (decide (y.snd.snd > (0 : Int)) = false → (((0 : Int) ≤ a ∧ a < (18446744073709551616 : Int)) ∧ (0 : Int) ≤ b ∧ b <
  (18446744073709551616 : Int)) ∧ ((0 : Int) ≤ n ∧ n < (18446744073709551616 : Int)) ∧ wN a b * n < two128 → (y.fst / (18446744073709551616 : Int) = wN a b * n / (18446744073709551616 : Int) ∧ y.fst % (18446744073709551616
  : Int) = wN a b * n % (18446744073709551616 : Int) ∧ True) ∧ True ∧ True) := by
  simp only [true_and, and_true, eq_self, Nat.le_refl, decide_eq_true_eq, decide_eq_false_iff_not, beq_iff_eq, beq_eq_false_iff_ne, and_self, Int.not_lt, gt_iff_lt, ne_eq]
  simp only [wNdm]
  rintro a b n ⟨⟨⟨ha, ha'⟩, hb, hb'⟩, ⟨hn, hn'⟩, hlt⟩
  have hA : 0 ≤ wN a b ∧ wN a b < two128 := by unfold wN two128; omega
  have eA : a = wN a b / 18446744073709551616 ∧ b = wN a b % 18446744073709551616 := by unfold wN; omega
  have hbd : ∀ n : Int, 0 ≤ n → n < two128 → (0 ≤ n / 18446744073709551616 ∧ n / 18446744073709551616 < 18446744073709551616) ∧ 0 ≤ n % 18446744073709551616 ∧ n % 18446744073709551616 < 18446744073709551616 := fun n h1 h2 => by unfold two128 at h2; omega
  have hP : 0 ≤ wN a b * n := Int.mul_nonneg hA.1 hn
  refine ⟨⟨(0, wN a b, n), ⟨⟨Int.le_refl _, (show (0 : Int) < two128 by decide)⟩, hA, ⟨hn, hn'⟩, fun _ => Int.zero_add _, fun h => by show 0 = wN a b * n; have h : n = 0 := h; rw [h, Int.mul_zero]⟩, rfl, eA, rfl, rfl⟩, ?_⟩
  rintro ⟨o, c, m⟩ ⟨⟨o1, o2⟩, ⟨c1, c2⟩, ⟨m1, m2⟩, hI, hZ⟩
  dsimp only at o1 o2 c1 c2 m1 m2 hI hZ ⊢
  generalize wN a b * n = P at *
  have bo := hbd o o1 o2
  have bc := hbd c c1 c2
  have e2 : m.fdiv (2 ^ min (Int.toNat (1 : Int)) IntKind.u64.bits) = m / 2 := by
    rw [show min (Int.toNat (1 : Int)) IntKind.u64.bits = 1 from rfl, fdiv_pow]; rfl
  rw [and_one ⟨m1, m2⟩, e2]
  have hcc : c + c = c * 2 := by omega
  rw [hcc]
  have key : ∀ o' : Int, 0 < m → o' = o + c * (m % 2) → (0 ≤ o' ∧ o' < two128) ∧ (0 ≤ (if c * 2 < two128 then c * 2 else 0) ∧ (if c * 2 < two128 then c * 2 else 0) < two128) ∧ (0 ≤ m / 2 ∧ m / 2 < 18446744073709551616) ∧ (0 < m / 2 → o' + (if c * 2 < two128 then c * 2 else 0) * (m / 2) = P) ∧ (m / 2 = 0 → o' = P) := fun o' hm ho' => by
    have hI := hI hm
    have em : m = m / 2 * 2 + m % 2 := by omega
    have e3 : c * m = c * 2 * (m / 2) + c * (m % 2) := by
      have : c * m = c * (m / 2 * 2 + m % 2) := by rw [← em]
      rw [this, Int.mul_add, Int.mul_comm (m / 2) 2, ← Int.mul_assoc]
    have h1 : 0 ≤ c * (m % 2) := Int.mul_nonneg c1 (by omega)
    have h2 : 0 ≤ c * 2 * (m / 2) := Int.mul_nonneg (by omega) (by omega)
    have h3 : 0 < m / 2 → c * 2 ≤ c * 2 * (m / 2) := fun h => by
      have := Int.mul_le_mul_of_nonneg_left (show 1 ≤ m / 2 by omega) (show 0 ≤ c * 2 by omega)
      omega
    refine ⟨by omega, ?_, by omega, fun h => ?_, fun h => ?_⟩
    · split <;> unfold two128 at * <;> omega
    · have := h3 h
      rw [if_pos (by omega)]
      omega
    · rw [h, Int.mul_zero] at e3
      omega
  refine ⟨fun hm => ⟨fun hbit => ?_, fun hbit => ?_⟩, fun hm => ?_⟩
  · have hle : o + c < two128 := by have := (key (o + c * (m % 2)) hm rfl).1; rw [hbit, Int.mul_one] at this; exact this.2
    rw [if_pos hle]
    refine ⟨⟨bo, bc⟩, bc, by decide, fun v hv => ⟨(o + c, if c * 2 < two128 then c * 2 else 0, v), ?_, ⟨rfl, ⟨rfl, rfl⟩, rfl, rfl⟩, ?_⟩⟩
    · have := key (o + c) hm (by rw [hbit, Int.mul_one])
      dsimp only
      rw [hv]; exact this
    · show v.toNat < m.toNat
      omega
  · refine ⟨bc, by decide, fun v hv => ⟨(o, if c * 2 < two128 then c * 2 else 0, v), ?_, ⟨rfl, ⟨rfl, rfl⟩, rfl, rfl⟩, ?_⟩⟩
    · have hb0 : m % 2 = 0 := by omega
      have := key o hm (by rw [hb0, Int.mul_zero, Int.add_zero])
      dsimp only
      rw [hv]; exact this
    · show v.toNat < m.toNat
      omega
  · have := hZ (by omega)
    rw [this]
    exact fun _ => ⟨rfl, rfl⟩

def rtimes_C (x : (Int × Int × Int)) : Cfg := { Γ := Go.Sx.look tRtimes, names := true, loops := onlyAt 2 [rtimesF (x.1) (x.2.1) (x.2.2)] }
theorem rtimes_al (x : (Int × Int × Int)) : Shown (timesP.vc Try.prog (rtimes_C x) Try.f40 x) := ⟨@Eq.mp _ _ (by kernel_rfl) (rtimes_vc (x.1) (x.2.1) (x.2.2))⟩
theorem rtimes_ok : SpOk Try.prog 40 timesP.sp := @Pat.okS _ timesP Try.prog rtimes_C 40 Try.f40 (fun x => cfg_tab rfl tRtimes_ok) (by kernel_rfl) Try.func40 (fun _ => rfl) rtimes_al
theorem rmin_vc : ∀ (a1 a0 b1 b0 : Int), (((((0 : Int) ≤ a1 ∧ a1 < (18446744073709551616 : Int)) ∧ (0 : Int) ≤ a0 ∧ a0 < (18446744073709551616 : Int)) ∧ ((0 : Int) ≤ b1 ∧ b1 < (18446744073709551616 : Int)) ∧ (0 : Int) ≤ b0 ∧ b0 <
  (18446744073709551616 : Int)) ∧ wN b1 b0 ≤ wN a1 a0) ∧ True → (decide (a0 < b0) = true → ((((0 : Int) ≤ a1 ∧ a1 < (18446744073709551616 : Int)) ∧ (0 : Int) ≤ a0 ∧ a0 < (18446744073709551616 : Int)) ∧ ((0 : Int) ≤ b1 ∧ b1
  < (18446744073709551616 : Int)) ∧ (0 : Int) ≤ b0 ∧ b0 < (18446744073709551616 : Int)) ∧ wN b1 b0 ≤ wN a1 a0 → (IntKind.u64.wrap (IntKind.u64.wrap (a1 - b1) - (1 : Int)) = (wN a1 a0 - wN b1 b0) / (18446744073709551616 :
  Int) ∧ IntKind.u64.wrap (a0 - b0) = (wN a1 a0 - wN b1 b0) % (18446744073709551616 : Int) ∧ True) ∧ True ∧ True) ∧ (decide (a0 < b0) = false → ((((0 : Int) ≤ a1 ∧ a1 < (18446744073709551616 : Int)) ∧ (0 : Int) ≤ a0 ∧ a0 <
  (18446744073709551616 : Int)) ∧ ((0 : Int) ≤ b1 ∧ b1 < (18446744073709551616 : Int)) ∧ (0 : Int) ≤ b0 ∧ b0 < (18446744073709551616 : Int)) ∧ wN b1 b0 ≤ wN a1 a0 → (IntKind.u64.wrap (a1 - b1) = (wN a1 a0 - wN b1 b0) /
  (18446744073709551616 : Int) ∧ IntKind.u64.wrap (a0 - b0) = (wN a1 a0 - wN b1 b0) % (18446744073709551616 : Int) ∧ True) ∧ True ∧ True) := by
  simp only [and_true, decide_eq_true_eq, decide_eq_false_iff_not, and_self, Int.not_lt, IntKind.wrap_u64]
  rintro a1 a0 b1 b0 ⟨⟨⟨⟨ha1, ha1'⟩, ha0, ha0'⟩, ⟨hb1, hb1'⟩, hb0, hb0'⟩, hlt⟩
  have e : wN a1 a0 = a1 * 18446744073709551616 + a0 := rfl
  have e' : wN b1 b0 = b1 * 18446744073709551616 + b0 := rfl
  simp only [e, e'] at *
  try dsimp only
  repeat' (with_reducible first | assumption | apply And.intro | intro _)
  all_goals (try simp only [cond_dec, decide_eq_decide] at *)
  all_goals (first | omega | ((repeat' (first | omega | split)) <;> (try dsimp only) <;> (try (first | omega | contradiction | (subst_vars; first | rfl | omega) | (simp_all; done) | (simp_all; omega)))))

def rmin_C (_ : ((Int × Int) × (Int × Int))) : Cfg := { Γ := Go.Sx.look [], names := true }
theorem rmin_al (x : ((Int × Int) × (Int × Int))) : Shown (wminP.vc Try.prog (rmin_C x) Try.f39 x) := ⟨@Eq.mp _ _ (by kernel_rfl) (rmin_vc (x.1.1) (x.1.2) (x.2.1) (x.2.2))⟩
theorem rmin_ok : SpOk Try.prog 39 wminP.sp := @Pat.okS _ wminP Try.prog rmin_C 39 Try.f39 (fun x => cfg_nil rfl) (by kernel_rfl) Try.func39 (fun _ => rfl) rmin_al
end Go.Proofs.Ytijpjhelgggmfaa
