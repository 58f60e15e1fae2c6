import Derived.Test.YtijpjhelgggmfaaB2
open Go Go.Sx Go.Proofs
set_option maxRecDepth 100000
namespace Go.Proofs.Ytijpjhelgggmfaa

/-- The first place, from one on, where it is true. -/
def lst (f : Nat → Bool) : Nat → Nat → Nat
  | y, 0 => y
  | y, m + 1 => bif f y then y else lst f (y + 1) m
theorem lst_bd (f : Nat → Bool) : ∀ m y, y ≤ lst f y m ∧ lst f y m ≤ y + m
  | 0, y => ⟨Nat.le_refl _, Nat.le_refl _⟩
  | m + 1, y => by
    have ih := lst_bd f m (y + 1)
    simp only [lst]
    cases f y <;> simp only [cond_true, cond_false] <;> omega
theorem lst_eq (f : Nat → Bool) : ∀ m y i, y ≤ i → i ≤ y + m → (∀ k, y ≤ k → k < i → f k = false) → (i = y + m ∨ f i = true) → lst f y m = i
  | 0, y, i, h1, h2, _, _ => by simp only [lst]; omega
  | m + 1, y, i, h1, h2, h3, h4 => by
    simp only [lst]
    by_cases e : y = i
    · subst e
      have : f y = true := by rcases h4 with h | h; omega; exact h
      rw [this]; rfl
    · rw [h3 y (Nat.le_refl _) (by omega)]
      exact lst_eq f m (y + 1) i (by omega) (by omega) (fun k h5 h6 => h3 k (by omega) h6) (by rcases h4 with h | h; left; omega; right; exact h)
theorem lst_spec (f : Nat → Bool) : ∀ m y, (∀ k, y ≤ k → k < lst f y m → f k = false) ∧ (lst f y m = y + m ∨ f (lst f y m) = true)
  | 0, y => ⟨fun k h1 h2 => by simp only [lst] at h2; omega, .inl rfl⟩
  | m + 1, y => by
    obtain ⟨h1, h2⟩ := lst_spec f m (y + 1)
    simp only [lst]
    cases e : f y with
    | true => exact ⟨fun k h3 h4 => by simp only [cond_true] at h4; omega, .inr (by simpa using e)⟩
    | false =>
      simp only [cond_false]
      refine ⟨fun k h3 h4 => ?_, ?_⟩
      · by_cases hk : k = y
        · rw [hk]; exact e
        · exact h1 k (by omega) h4
      · rcases h2 with h | h
        · left; omega
        · right; exact h
def leN (L W : Int) (i : Nat) : Bool := decide (W ≤ L * i)
theorem leN_mono {L W : Int} (hL : 0 ≤ L) {i j : Nat} (h : i ≤ j) (hi : leN L W i = true) : leN L W j = true := by
  unfold leN at *
  simp only [decide_eq_true_eq] at *
  have := Int.mul_le_mul_of_nonneg_left (show (i : Int) ≤ j by omega) hL
  omega
def srP : Pat (Nat × (Int × Int) × (Int × Int)) where
  view | [.int .i64 h, .fn 58 (.cons (.ptr a 0 []) (.cons (.ptr b 0 []) .nil))], H => some (h.toNat, (tInt (tAt (regC H a) 0), tInt (tAt (regC H a) 1)), (tInt (tAt (regC H b) 0), tInt (tAt (regC H b) 1))) | _, _ => none
  args x := [.int .i64 x.1, .fn 58 (.cons (p0 0) (.cons (p0 1) .nil))]
  H x := [newReg 57 (wT x.2.1.1 x.2.1.2), newReg 57 (wT x.2.2.1 x.2.2.2)]
  out x := .need (((u64 x.2.1.1 ∧ u64 x.2.1.2) ∧ u64 x.2.2.1 ∧ u64 x.2.2.2) ∧ x.1 ≤ 65537 ∧ wN x.2.1.1 x.2.1.2 ≤ 20282409603651670423947251286016) (.retq (.int .i64 (lst (leN (wN x.2.1.1 x.2.1.2) (wN x.2.2.1 x.2.2.2)) 0 x.1)))
structure SI where
  i : Nat
  j : Nat
def srFam (n : Nat) (a b c d : Int) : Fam where
  α := SI
  I y := y.i ≤ y.j ∧ y.j ≤ n ∧ (∀ k, k < y.i → leN (wN a b) (wN c d) k = false) ∧ (y.j = n ∨ leN (wN a b) (wN c d) y.j = true)
  st y := { sl := mkSl 26 [(1, .fn 58 (.cons (p0 0) (.cons (p0 1) .nil))), (5, .int .i64 y.i), (6, .int .i64 y.j)], H := [newReg 57 (wT a b), newReg 57 (wT c d)] }
  μ y := y.j - y.i
def tSr : Tab := [(58, lestP.sp)]
theorem tSr_ok : TabOk Try.prog tSr := (tab_cons lest_ok tab_nil)

theorem sr_vc : ∀ (n : Nat) (a b c d : Int), (((((0 : Int) ≤ a ∧ a < (18446744073709551616 : Int)) ∧ (0 : Int) ≤ b ∧ b < (18446744073709551616 : Int)) ∧ ((0 : Int) ≤ c ∧ c < (18446744073709551616 : Int)) ∧ (0 : Int) ≤ d ∧ d <
  (18446744073709551616 : Int)) ∧ n ≤ (65537 : Nat) ∧ wN a b ≤ (20282409603651670423947251286016 : Int)) ∧ True → ∀ (v : Int), v = (0 : Int) → ∀ (v : Int), v = (0 : Int) → ∀ (v_1 : Int), v_1 = (↑n : Int) → (∃ (y : SI),
  (y.i ≤ y.j ∧ y.j ≤ n ∧ (∀ (k : Nat), k < y.i → leN (wN a b) (wN c d) k = false) ∧ (y.j = n ∨ leN (wN a b) (wN c d) y.j = true)) ∧ ((((True ∧ True) ∧ (True ∧ True) ∧ True) ∧ v = (↑y.i : Int) ∧ v_1 = (↑y.j : Int) ∧ True) ∧
  ((2 : Nat) ≤ (2 : Nat) ∧ a = a ∧ b = b ∧ True) ∧ ((2 : Nat) ≤ (2 : Nat) ∧ c = c ∧ d = d ∧ True) ∧ True) ∧ True) ∧ ∀ (y : SI), y.i ≤ y.j ∧ y.j ≤ n ∧ (∀ (k : Nat), k < y.i → leN (wN a b) (wN c d) k = false) ∧ (y.j = n ∨
  leN (wN a b) (wN c d) y.j = true) → (decide ((↑y.i : Int) < (↑y.j : Int)) = true → (0 : Int) ≤ (1 : Int) ∧ ∀ (v : Int), v = IntKind.i64.wrap ((IntKind.u64.wrap (IntKind.i64.wrap ((↑y.i : Int) + (↑y.j : Int)))).fdiv ((2 :
  Int) ^ min (Int.toNat (1 : Int)) IntKind.u64.bits)) → ((v = v ∧ (True ∧ True) ∧ (True ∧ True) ∧ True) ∧ ((2 : Nat) ≤ (2 : Nat) ∧ a = a ∧ b = b ∧ True) ∧ ((2 : Nat) ≤ (2 : Nat) ∧ c = c ∧ d = d ∧ True) ∧ True) ∧ (((((0 :
  Int) ≤ a ∧ a < (18446744073709551616 : Int)) ∧ (0 : Int) ≤ b ∧ b < (18446744073709551616 : Int)) ∧ ((0 : Int) ≤ c ∧ c < (18446744073709551616 : Int)) ∧ (0 : Int) ≤ d ∧ d < (18446744073709551616 : Int)) ∧ ((0 : Int) ≤ v ∧
  v ≤ (65536 : Int)) ∧ wN a b ≤ (20282409603651670423947251286016 : Int)) ∧ ((!leC (a, b) (c, d) v) = true → ∀ (v_2 : Int), v_2 = IntKind.i64.wrap (v + (1 : Int)) → ∃ (y_1 : SI), (y_1.i ≤ y_1.j ∧ y_1.j ≤ n ∧ (∀ (k : Nat),
  k < y_1.i → leN (wN a b) (wN c d) k = false) ∧ (y_1.j = n ∨ leN (wN a b) (wN c d) y_1.j = true)) ∧ ((((True ∧ True) ∧ (True ∧ True) ∧ True) ∧ v_2 = (↑y_1.i : Int) ∧ (↑y.j : Int) = (↑y_1.j : Int) ∧ True) ∧ ((2 : Nat) ≤ (2
  : Nat) ∧ a = a ∧ b = b ∧ True) ∧ ((2 : Nat) ≤ (2 : Nat) ∧ c = c ∧ d = d ∧ True) ∧ True) ∧ (srFam n a b c d).μ y_1 < (srFam n a b c d).μ y) ∧ ((!leC (a, b) (c, d) v) = false → ∀ (v_2 : Int), v_2 = v → ∃ (y_1 : SI), (y_1.i
  ≤ y_1.j ∧ y_1.j ≤ n ∧ (∀ (k : Nat), k < y_1.i → leN (wN a b) (wN c d) k = false) ∧ (y_1.j = n ∨ leN (wN a b) (wN c d) y_1.j = true)) ∧ ((((True ∧ True) ∧ (True ∧ True) ∧ True) ∧ (↑y.i : Int) = (↑y_1.i : Int) ∧ v_2 =
  (↑y_1.j : Int) ∧ True) ∧ ((2 : Nat) ≤ (2 : Nat) ∧ a = a ∧ b = b ∧ True) ∧ ((2 : Nat) ≤ (2 : Nat) ∧ c = c ∧ d = d ∧ True) ∧ True) ∧ (srFam n a b c d).μ y_1 < (srFam n a b c d).μ y)) ∧ (decide ((↑y.i : Int) < (↑y.j : Int))
  = false → ∀ (v : Int), v = (↑y.i : Int) → ((((0 : Int) ≤ a ∧ a < (18446744073709551616 : Int)) ∧ (0 : Int) ≤ b ∧ b < (18446744073709551616 : Int)) ∧ ((0 : Int) ≤ c ∧ c < (18446744073709551616 : Int)) ∧ (0 : Int) ≤ d ∧ d
  < (18446744073709551616 : Int)) ∧ n ≤ (65537 : Nat) ∧ wN a b ≤ (20282409603651670423947251286016 : Int) → v = (↑(lst (leN (wN a b) (wN c d)) (0 : Nat) n) : Int) ∧ True ∧ ((2 : Nat) ≤ (2 : Nat) ∧ a = a ∧ b = b ∧ True) ∧
  ((2 : Nat) ≤ (2 : Nat) ∧ c = c ∧ d = d ∧ True) ∧ True) := by
  simp only [true_and, and_true, eq_self, Nat.le_refl, decide_eq_true_eq, decide_eq_false_iff_not, and_self, Int.not_lt, IntKind.wrap_u64, IntKind.wrap_i64, Bool.not_eq_true', Bool.not_eq_false']
  rintro n a b c d ⟨h1, hn, h2⟩ _ rfl _ rfl _ rfl
  have h0 : 0 ≤ wN a b := by unfold wN; omega
  have hM : ∀ z : SI, (srFam n a b c d).μ z = z.j - z.i := fun _ => rfl
  simp only [hM]
  have hC : ∀ k : Nat, leC (a, b) (c, d) (k : Int) = leN (wN a b) (wN c d) k := fun k => rfl
  refine ⟨⟨⟨0, n⟩, ⟨Nat.zero_le _, Nat.le_refl _, fun k hk => absurd hk (Nat.not_lt_zero k), .inl rfl⟩, rfl, rfl⟩, fun y hy => ?_⟩
  obtain ⟨i, j⟩ := y
  obtain ⟨y1, y2, y3, y4⟩ := hy
  dsimp only at y1 y2 y3 y4 ⊢
  refine ⟨fun hlt => ⟨by decide, fun v hv => ?_⟩, fun hge v hv _ => ?_⟩
  · have e : v = (((i + j) / 2 : Nat) : Int) := by
      have e1 : ((i : Int) + j + 9223372036854775808) % 18446744073709551616 - 9223372036854775808 = i + j := by clear hv hlt; omega
      have e2 : ((i : Int) + j) % 18446744073709551616 = i + j := by clear hv hlt e1; omega
      have e3 : ((i : Int) + j) / 2 = (((i + j) / 2 : Nat) : Int) := by clear hv hlt e1 e2; omega
      have e4 : (i + j) / 2 ≤ 65537 := by clear hv hlt e1 e2 e3; omega
      rw [hv, show min (Int.toNat (1 : Int)) IntKind.u64.bits = 1 from rfl, fdiv_pow, show (2 : Int) ^ 1 = 2 from rfl, e1, e2, e3]
      generalize (i + j) / 2 = q at e4
      clear hv hlt e1 e2 e3
      omega
    clear hv
    subst e
    rw [hC]
    refine ⟨⟨h1, by omega, h2⟩, fun hf v2 hv2 => ⟨⟨(i + j) / 2 + 1, j⟩, ⟨(by show (i + j) / 2 + 1 ≤ j; omega), y2, fun k hk => ?_, y4⟩, ⟨(by show v2 = (((i + j) / 2 + 1 : Nat) : Int); omega), rfl⟩, (by show j - ((i + j) / 2 + 1) < j - i; omega)⟩, fun ht v2 hv2 => ⟨⟨i, (i + j) / 2⟩, ⟨(by show i ≤ (i + j) / 2; omega), (by show (i + j) / 2 ≤ n; omega), y3, .inr ht⟩, ⟨rfl, hv2⟩, (by show (i + j) / 2 - i < j - i; omega)⟩⟩
    cases hk2 : leN (wN a b) (wN c d) k with
    | false => rfl
    | true =>
      have hk : k < (i + j) / 2 + 1 := hk
      rw [leN_mono h0 (show k ≤ (i + j) / 2 by omega) hk2] at hf
      exact hf
  · have e : i = j := by omega
    subst e
    rw [hv, lst_eq (leN (wN a b) (wN c d)) n 0 i (Nat.zero_le _) (by omega) (fun k _ h => y3 k h) (by rcases y4 with h | h; left; omega; right; exact h)]

def sr_C (x : (Nat × (Int × Int) × (Int × Int))) : Cfg := { Γ := Go.Sx.look tSr, names := true, loops := onlyAt 2 [srFam (x.1) (x.2.1.1) (x.2.1.2) (x.2.2.1) (x.2.2.2)] }
theorem sr_al (x : (Nat × (Int × Int) × (Int × Int))) : Shown (srP.vc Try.prog (sr_C x) Try.f45 x) := ⟨@Eq.mp _ _ (by kernel_rfl) (sr_vc (x.1) (x.2.1.1) (x.2.1.2) (x.2.2.1) (x.2.2.2))⟩
theorem sr_ok : SpOk Try.prog 45 srP.sp := @Pat.okS _ srP Try.prog sr_C 45 Try.f45 (fun x => cfg_tab rfl tSr_ok) (by kernel_rfl) Try.func45 (fun _ => rfl) sr_al
def lestO (L S : Int) : Int × Int := if 65536 < lst (leN L S) 0 65537 then (0, 14) else (lst (leN L S) 0 65537, 0)
def leastP : Pat ((Int × Int) × (Int × Int)) where
  view | [.cons (.int .u64 a) (.cons (.int .u64 b) .nil), .cons (.int .u64 c) (.cons (.int .u64 d) .nil)], _ => some ((a, b), (c, d)) | _, _ => none
  args x := [wT x.1.1 x.1.2, wT x.2.1 x.2.2]
  H _ := []
  out x := .need (((u64 x.1.1 ∧ u64 x.1.2) ∧ u64 x.2.1 ∧ u64 x.2.2) ∧ wN x.1.1 x.1.2 ≤ 20282409603651670423947251286016) (.retq (.tup (.cons (.int .u64 (lestO (wN x.1.1 x.1.2) (wN x.2.1 x.2.2)).1) (.cons (.int .i64 (lestO (wN x.1.1 x.1.2) (wN x.2.1 x.2.2)).2) .nil))))
def tLeast : Tab := [(45, srP.sp)]
theorem tLeast_ok : TabOk Try.prog tLeast := (tab_cons sr_ok tab_nil)

theorem least_vc : ∀ (a b c d : Int), (((((0 : Int) ≤ a ∧ a < (18446744073709551616 : Int)) ∧ (0 : Int) ≤ b ∧ b < (18446744073709551616 : Int)) ∧ ((0 : Int) ≤ c ∧ c < (18446744073709551616 : Int)) ∧ (0 : Int) ≤ d ∧ d <
  (18446744073709551616 : Int)) ∧ wN a b ≤ (20282409603651670423947251286016 : Int)) ∧ True → ∀ (v : Int), v = (0 : Int) → ∀ (v : Int), v = (0 : Int) → (((65537 : Int) = (↑(Int.toNat (65537 : Int)) : Int) ∧ ((True ∧ True)
  ∧ (True ∧ True) ∧ True) ∧ True) ∧ ((2 : Nat) ≤ (2 : Nat) ∧ a = a ∧ b = b ∧ True) ∧ ((2 : Nat) ≤ (2 : Nat) ∧ c = c ∧ d = d ∧ True) ∧ True) ∧ (((((0 : Int) ≤ a ∧ a < (18446744073709551616 : Int)) ∧ (0 : Int) ≤ b ∧ b <
  (18446744073709551616 : Int)) ∧ ((0 : Int) ≤ c ∧ c < (18446744073709551616 : Int)) ∧ (0 : Int) ≤ d ∧ d < (18446744073709551616 : Int)) ∧ Int.toNat (65537 : Int) ≤ (65537 : Nat) ∧ wN a b ≤
  (20282409603651670423947251286016 : Int)) ∧ ∀ (v : Int), v = (↑(lst (leN (wN a b) (wN c d)) (0 : Nat) (Int.toNat (65537 : Int))) : Int) → (decide (v > (65536 : Int)) = true → ∀ (v : Int), v = (0 : Int) → ∀ (v_1 : Int),
  v_1 = (14 : Int) → ((((0 : Int) ≤ a ∧ a < (18446744073709551616 : Int)) ∧ (0 : Int) ≤ b ∧ b < (18446744073709551616 : Int)) ∧ ((0 : Int) ≤ c ∧ c < (18446744073709551616 : Int)) ∧ (0 : Int) ≤ d ∧ d < (18446744073709551616
  : Int)) ∧ wN a b ≤ (20282409603651670423947251286016 : Int) → (v = (lestO (wN a b) (wN c d)).fst ∧ v_1 = (lestO (wN a b) (wN c d)).snd ∧ True) ∧ True ∧ True) ∧ (decide (v > (65536 : Int)) = false → ∀ (v_1 : Int), v_1 =
  IntKind.u64.wrap v → ∀ (v : Int), v = (0 : Int) → ((((0 : Int) ≤ a ∧ a < (18446744073709551616 : Int)) ∧ (0 : Int) ≤ b ∧ b < (18446744073709551616 : Int)) ∧ ((0 : Int) ≤ c ∧ c < (18446744073709551616 : Int)) ∧ (0 : Int)
  ≤ d ∧ d < (18446744073709551616 : Int)) ∧ wN a b ≤ (20282409603651670423947251286016 : Int) → (v_1 = (lestO (wN a b) (wN c d)).fst ∧ v = (lestO (wN a b) (wN c d)).snd ∧ True) ∧ True ∧ True) := by
  simp only [and_true, eq_self, Nat.le_refl, decide_eq_true_eq, decide_eq_false_iff_not, and_self, Int.not_lt, gt_iff_lt, IntKind.wrap_u64]
  rintro a b c d ⟨h1, h2⟩ _ _ _ _
  have hb := lst_bd (leN (wN a b) (wN c d)) 65537 0
  unfold lestO
  rw [show Int.toNat 65537 = 65537 from rfl]
  generalize lst (leN (wN a b) (wN c d)) 0 65537 = N at *
  refine ⟨by decide, ⟨h1, Nat.le_refl _, h2⟩, fun v hv => ⟨fun h v1 hv1 v2 hv2 _ => ?_, fun h v1 hv1 v2 hv2 _ => ?_⟩⟩
  · rw [if_pos (by omega)]; exact ⟨hv1, hv2⟩
  · rw [if_neg (by omega)]
    exact ⟨by omega, hv2⟩

def least_C (_ : ((Int × Int) × (Int × Int))) : Cfg := { Γ := Go.Sx.look tLeast, names := true }
theorem least_al (x : ((Int × Int) × (Int × Int))) : Shown (leastP.vc Try.prog (least_C x) Try.f35 x) := ⟨@Eq.mp _ _ (by kernel_rfl) (least_vc (x.1.1) (x.1.2) (x.2.1) (x.2.2))⟩
theorem least_ok : SpOk Try.prog 35 leastP.sp := @Pat.okS _ leastP Try.prog least_C 35 Try.f35 (fun x => cfg_tab rfl tLeast_ok) (by kernel_rfl) Try.func35 (fun _ => rfl) least_al
def LL.W (l : LL) : Int := l.prod l.n
def LL.U (l : LL) : Int := l.use l.W l.n
def LL.S (l : LL) : Int := l.slk l.W l.n
def LL.hor (l : LL) : Int × Int := if ¬ l.right then (0, 11) else if l.S = 0 ∨ l.W ≤ l.U then (0, 0) else lestO (l.W - l.U) l.S
def horP : Pat LS where
  view | [t], H => some (viewL t H) | _, _ => none
  args x := [x.v 0]
  H x := [x.reg]
  out x := .need x.Ok (.retq (.tup (.cons (.int .u64 x.l.hor.1) (.cons (.int .i64 x.l.hor.2) .nil))))
def tHor : Tab := [(12, RightP.sp), (32, sumP.sp), (33, evenP.sp), (34, fullP.sp), (36, wminP.sp), (35, leastP.sp)]
theorem tHor_ok : TabOk Try.prog tHor := (tab_cons Right_ok (tab_cons sum_ok (tab_cons even_ok (tab_cons full_ok (tab_cons wmin_ok (tab_cons least_ok tab_nil))))))

theorem hor_vc : ∀ (x : LS), x.Ok ∧ True → ∀ (v : Int), v = (0 : Int) → ∀ (v : Int), v = (0 : Int) → ((((x.nil = true → x.nil = true) ∧ (x.nil = false → x.nil = false ∧ True ∧ True ∧ x.lo = x.lo ∧ x.len = x.len ∧ x.cap = x.cap)) ∧ True)
  ∧ ((0 : Nat) ≤ (0 : Nat) ∧ x.n = x.n ∧ ∀ (j : Nat), j < x.n → x.k j = x.k j ∧ x.q j = x.q j ∧ x.t j = x.t j ∧ True) ∧ True) ∧ x.Ok ∧ ((!decide x.l.right) = true → ∀ (v : Int), v = (0 : Int) → ∀ (v_1 : Int), v_1 = (11 :
  Int) → x.Ok → (v = x.l.hor.fst ∧ v_1 = x.l.hor.snd ∧ True) ∧ True ∧ ((0 : Nat) ≤ (0 : Nat) ∧ x.n = x.n ∧ ∀ (j : Nat), j < x.n → x.k j = x.k j ∧ x.q j = x.q j ∧ x.t j = x.t j ∧ True) ∧ True) ∧ ((!decide x.l.right) = false
  → ((((x.nil = true → x.nil = true) ∧ (x.nil = false → x.nil = false ∧ True ∧ True ∧ x.lo = x.lo ∧ x.len = x.len ∧ x.cap = x.cap)) ∧ True) ∧ ((0 : Nat) ≤ (0 : Nat) ∧ x.n = x.n ∧ ∀ (j : Nat), j < x.n → x.k j = x.k j ∧ x.q
  j = x.q j ∧ x.t j = x.t j ∧ True) ∧ True) ∧ (x.Ok ∧ x.l.right) ∧ ((((x.l.prod x.len / (18446744073709551616 : Int) = x.l.prod x.len / (18446744073709551616 : Int) ∧ x.l.prod x.len % (18446744073709551616 : Int) =
  x.l.prod x.len % (18446744073709551616 : Int) ∧ True) ∧ (x.l.use (x.l.prod x.len) x.len / (18446744073709551616 : Int) = x.l.use (x.l.prod x.len) x.len / (18446744073709551616 : Int) ∧ x.l.use (x.l.prod x.len) x.len %
  (18446744073709551616 : Int) = x.l.use (x.l.prod x.len) x.len % (18446744073709551616 : Int) ∧ True) ∧ (x.l.slk (x.l.prod x.len) x.len / (18446744073709551616 : Int) = x.l.slk (x.l.prod x.len) x.len /
  (18446744073709551616 : Int) ∧ x.l.slk (x.l.prod x.len) x.len % (18446744073709551616 : Int) = x.l.slk (x.l.prod x.len) x.len % (18446744073709551616 : Int) ∧ True) ∧ True) ∧ True) ∧ True) ∧ ((0 : Int) ≤ x.l.slk
  (x.l.prod x.len) x.len / (18446744073709551616 : Int) ∧ (0 : Int) ≤ x.l.slk (x.l.prod x.len) x.len % (18446744073709551616 : Int)) ∧ (decide (wN (x.l.slk (x.l.prod x.len) x.len / (18446744073709551616 : Int)) (x.l.slk
  (x.l.prod x.len) x.len % (18446744073709551616 : Int)) = (0 : Int)) = true → ∀ (v : Int), v = (0 : Int) → ∀ (v_1 : Int), v_1 = (0 : Int) → x.Ok → (v = x.l.hor.fst ∧ v_1 = x.l.hor.snd ∧ True) ∧ True ∧ ((0 : Nat) ≤ (0 :
  Nat) ∧ x.n = x.n ∧ ∀ (j : Nat), j < x.n → x.k j = x.k j ∧ x.q j = x.q j ∧ x.t j = x.t j ∧ True) ∧ True) ∧ (decide (wN (x.l.slk (x.l.prod x.len) x.len / (18446744073709551616 : Int)) (x.l.slk (x.l.prod x.len) x.len %
  (18446744073709551616 : Int)) = (0 : Int)) = false → ((((x.l.prod x.len / (18446744073709551616 : Int) = x.l.prod x.len / (18446744073709551616 : Int) ∧ x.l.prod x.len % (18446744073709551616 : Int) = x.l.prod x.len %
  (18446744073709551616 : Int) ∧ True) ∧ (x.l.use (x.l.prod x.len) x.len / (18446744073709551616 : Int) = x.l.use (x.l.prod x.len) x.len / (18446744073709551616 : Int) ∧ x.l.use (x.l.prod x.len) x.len %
  (18446744073709551616 : Int) = x.l.use (x.l.prod x.len) x.len % (18446744073709551616 : Int) ∧ True) ∧ (x.l.slk (x.l.prod x.len) x.len / (18446744073709551616 : Int) = x.l.slk (x.l.prod x.len) x.len /
  (18446744073709551616 : Int) ∧ x.l.slk (x.l.prod x.len) x.len % (18446744073709551616 : Int) = x.l.slk (x.l.prod x.len) x.len % (18446744073709551616 : Int) ∧ True) ∧ True) ∧ True) ∧ True) ∧ ((((0 : Int) ≤ x.l.prod x.len
  / (18446744073709551616 : Int) ∧ x.l.prod x.len / (18446744073709551616 : Int) < (18446744073709551616 : Int)) ∧ (0 : Int) ≤ x.l.prod x.len % (18446744073709551616 : Int) ∧ x.l.prod x.len % (18446744073709551616 : Int) <
  (18446744073709551616 : Int)) ∧ ((0 : Int) ≤ x.l.use (x.l.prod x.len) x.len / (18446744073709551616 : Int) ∧ x.l.use (x.l.prod x.len) x.len / (18446744073709551616 : Int) < (18446744073709551616 : Int)) ∧ (0 : Int) ≤
  x.l.use (x.l.prod x.len) x.len % (18446744073709551616 : Int) ∧ x.l.use (x.l.prod x.len) x.len % (18446744073709551616 : Int) < (18446744073709551616 : Int)) ∧ (decide (wcmp (x.l.use (x.l.prod x.len) x.len /
  (18446744073709551616 : Int)) (x.l.use (x.l.prod x.len) x.len % (18446744073709551616 : Int)) (x.l.prod x.len / (18446744073709551616 : Int)) (x.l.prod x.len % (18446744073709551616 : Int)) ≥ (0 : Int)) = true → ∀ (v :
  Int), v = (0 : Int) → ∀ (v_1 : Int), v_1 = (0 : Int) → x.Ok → (v = x.l.hor.fst ∧ v_1 = x.l.hor.snd ∧ True) ∧ True ∧ ((0 : Nat) ≤ (0 : Nat) ∧ x.n = x.n ∧ ∀ (j : Nat), j < x.n → x.k j = x.k j ∧ x.q j = x.q j ∧ x.t j = x.t
  j ∧ True) ∧ True) ∧ (decide (wcmp (x.l.use (x.l.prod x.len) x.len / (18446744073709551616 : Int)) (x.l.use (x.l.prod x.len) x.len % (18446744073709551616 : Int)) (x.l.prod x.len / (18446744073709551616 : Int)) (x.l.prod
  x.len % (18446744073709551616 : Int)) ≥ (0 : Int)) = false → (((x.l.prod x.len / (18446744073709551616 : Int) = x.l.prod x.len / (18446744073709551616 : Int) ∧ x.l.prod x.len % (18446744073709551616 : Int) = x.l.prod
  x.len % (18446744073709551616 : Int) ∧ True) ∧ (x.l.use (x.l.prod x.len) x.len / (18446744073709551616 : Int) = x.l.use (x.l.prod x.len) x.len / (18446744073709551616 : Int) ∧ x.l.use (x.l.prod x.len) x.len %
  (18446744073709551616 : Int) = x.l.use (x.l.prod x.len) x.len % (18446744073709551616 : Int) ∧ True) ∧ True) ∧ True) ∧ (((((0 : Int) ≤ x.l.prod x.len / (18446744073709551616 : Int) ∧ x.l.prod x.len /
  (18446744073709551616 : Int) < (18446744073709551616 : Int)) ∧ (0 : Int) ≤ x.l.prod x.len % (18446744073709551616 : Int) ∧ x.l.prod x.len % (18446744073709551616 : Int) < (18446744073709551616 : Int)) ∧ ((0 : Int) ≤
  x.l.use (x.l.prod x.len) x.len / (18446744073709551616 : Int) ∧ x.l.use (x.l.prod x.len) x.len / (18446744073709551616 : Int) < (18446744073709551616 : Int)) ∧ (0 : Int) ≤ x.l.use (x.l.prod x.len) x.len %
  (18446744073709551616 : Int) ∧ x.l.use (x.l.prod x.len) x.len % (18446744073709551616 : Int) < (18446744073709551616 : Int)) ∧ wN (x.l.use (x.l.prod x.len) x.len / (18446744073709551616 : Int)) (x.l.use (x.l.prod x.len)
  x.len % (18446744073709551616 : Int)) ≤ wN (x.l.prod x.len / (18446744073709551616 : Int)) (x.l.prod x.len % (18446744073709551616 : Int))) ∧ ((((wN (x.l.prod x.len / (18446744073709551616 : Int)) (x.l.prod x.len %
  (18446744073709551616 : Int)) - wN (x.l.use (x.l.prod x.len) x.len / (18446744073709551616 : Int)) (x.l.use (x.l.prod x.len) x.len % (18446744073709551616 : Int))) / (18446744073709551616 : Int) = (wN (x.l.prod x.len /
  (18446744073709551616 : Int)) (x.l.prod x.len % (18446744073709551616 : Int)) - wN (x.l.use (x.l.prod x.len) x.len / (18446744073709551616 : Int)) (x.l.use (x.l.prod x.len) x.len % (18446744073709551616 : Int))) /
  (18446744073709551616 : Int) ∧ (wN (x.l.prod x.len / (18446744073709551616 : Int)) (x.l.prod x.len % (18446744073709551616 : Int)) - wN (x.l.use (x.l.prod x.len) x.len / (18446744073709551616 : Int)) (x.l.use (x.l.prod
  x.len) x.len % (18446744073709551616 : Int))) % (18446744073709551616 : Int) = (wN (x.l.prod x.len / (18446744073709551616 : Int)) (x.l.prod x.len % (18446744073709551616 : Int)) - wN (x.l.use (x.l.prod x.len) x.len /
  (18446744073709551616 : Int)) (x.l.use (x.l.prod x.len) x.len % (18446744073709551616 : Int))) % (18446744073709551616 : Int) ∧ True) ∧ (x.l.slk (x.l.prod x.len) x.len / (18446744073709551616 : Int) = x.l.slk (x.l.prod
  x.len) x.len / (18446744073709551616 : Int) ∧ x.l.slk (x.l.prod x.len) x.len % (18446744073709551616 : Int) = x.l.slk (x.l.prod x.len) x.len % (18446744073709551616 : Int) ∧ True) ∧ True) ∧ True) ∧ (((((0 : Int) ≤ (wN
  (x.l.prod x.len / (18446744073709551616 : Int)) (x.l.prod x.len % (18446744073709551616 : Int)) - wN (x.l.use (x.l.prod x.len) x.len / (18446744073709551616 : Int)) (x.l.use (x.l.prod x.len) x.len % (18446744073709551616
  : Int))) / (18446744073709551616 : Int) ∧ (wN (x.l.prod x.len / (18446744073709551616 : Int)) (x.l.prod x.len % (18446744073709551616 : Int)) - wN (x.l.use (x.l.prod x.len) x.len / (18446744073709551616 : Int)) (x.l.use
  (x.l.prod x.len) x.len % (18446744073709551616 : Int))) / (18446744073709551616 : Int) < (18446744073709551616 : Int)) ∧ (0 : Int) ≤ (wN (x.l.prod x.len / (18446744073709551616 : Int)) (x.l.prod x.len %
  (18446744073709551616 : Int)) - wN (x.l.use (x.l.prod x.len) x.len / (18446744073709551616 : Int)) (x.l.use (x.l.prod x.len) x.len % (18446744073709551616 : Int))) % (18446744073709551616 : Int) ∧ (wN (x.l.prod x.len /
  (18446744073709551616 : Int)) (x.l.prod x.len % (18446744073709551616 : Int)) - wN (x.l.use (x.l.prod x.len) x.len / (18446744073709551616 : Int)) (x.l.use (x.l.prod x.len) x.len % (18446744073709551616 : Int))) %
  (18446744073709551616 : Int) < (18446744073709551616 : Int)) ∧ ((0 : Int) ≤ x.l.slk (x.l.prod x.len) x.len / (18446744073709551616 : Int) ∧ x.l.slk (x.l.prod x.len) x.len / (18446744073709551616 : Int) <
  (18446744073709551616 : Int)) ∧ (0 : Int) ≤ x.l.slk (x.l.prod x.len) x.len % (18446744073709551616 : Int) ∧ x.l.slk (x.l.prod x.len) x.len % (18446744073709551616 : Int) < (18446744073709551616 : Int)) ∧ wN ((wN
  (x.l.prod x.len / (18446744073709551616 : Int)) (x.l.prod x.len % (18446744073709551616 : Int)) - wN (x.l.use (x.l.prod x.len) x.len / (18446744073709551616 : Int)) (x.l.use (x.l.prod x.len) x.len % (18446744073709551616
  : Int))) / (18446744073709551616 : Int)) ((wN (x.l.prod x.len / (18446744073709551616 : Int)) (x.l.prod x.len % (18446744073709551616 : Int)) - wN (x.l.use (x.l.prod x.len) x.len / (18446744073709551616 : Int)) (x.l.use
  (x.l.prod x.len) x.len % (18446744073709551616 : Int))) % (18446744073709551616 : Int)) ≤ (20282409603651670423947251286016 : Int)) ∧ ∀ (v : Int), v = (lestO (wN ((wN (x.l.prod x.len / (18446744073709551616 : Int))
  (x.l.prod x.len % (18446744073709551616 : Int)) - wN (x.l.use (x.l.prod x.len) x.len / (18446744073709551616 : Int)) (x.l.use (x.l.prod x.len) x.len % (18446744073709551616 : Int))) / (18446744073709551616 : Int)) ((wN
  (x.l.prod x.len / (18446744073709551616 : Int)) (x.l.prod x.len % (18446744073709551616 : Int)) - wN (x.l.use (x.l.prod x.len) x.len / (18446744073709551616 : Int)) (x.l.use (x.l.prod x.len) x.len % (18446744073709551616
  : Int))) % (18446744073709551616 : Int))) (wN (x.l.slk (x.l.prod x.len) x.len / (18446744073709551616 : Int)) (x.l.slk (x.l.prod x.len) x.len % (18446744073709551616 : Int)))).fst → ∀ (v_1 : Int), v_1 = (lestO (wN ((wN
  (x.l.prod x.len / (18446744073709551616 : Int)) (x.l.prod x.len % (18446744073709551616 : Int)) - wN (x.l.use (x.l.prod x.len) x.len / (18446744073709551616 : Int)) (x.l.use (x.l.prod x.len) x.len % (18446744073709551616
  : Int))) / (18446744073709551616 : Int)) ((wN (x.l.prod x.len / (18446744073709551616 : Int)) (x.l.prod x.len % (18446744073709551616 : Int)) - wN (x.l.use (x.l.prod x.len) x.len / (18446744073709551616 : Int)) (x.l.use
  (x.l.prod x.len) x.len % (18446744073709551616 : Int))) % (18446744073709551616 : Int))) (wN (x.l.slk (x.l.prod x.len) x.len / (18446744073709551616 : Int)) (x.l.slk (x.l.prod x.len) x.len % (18446744073709551616 :
  Int)))).snd → x.Ok → (v = x.l.hor.fst ∧ v_1 = x.l.hor.snd ∧ True) ∧ True ∧ ((0 : Nat) ≤ (0 : Nat) ∧ x.n = x.n ∧ ∀ (j : Nat), j < x.n → x.k j = x.k j ∧ x.q j = x.q j ∧ x.t j = x.t j ∧ True) ∧ True))) := by
  simp only [true_and, and_true, eq_self, Nat.le_refl, decide_eq_true_eq, decide_eq_false_iff_not, implies_true, and_self, Int.not_le, ge_iff_le, Bool.not_eq_true', Bool.not_eq_false']
  simp only [wNdm, wcmpdm]
  rintro x hx _ _ _ _
  have eW : x.l.prod x.len = x.l.W := rfl
  have eU : x.l.use x.l.W x.len = x.l.U := rfl
  have eS : x.l.slk x.l.W x.len = x.l.S := rfl
  simp only [eW, eU, eS]
  refine ⟨⟨id, id⟩, hx, fun h v hv v1 hv1 _ => ?_, fun hr => ?_⟩
  · unfold LL.hor; rw [if_pos h]; exact ⟨hv, hv1⟩
  have hW := LL.prod_le hr (Nat.le_refl _)
  have hW : 1 ≤ x.l.W ∧ x.l.W ≤ 20282409603651670423947251286016 := hW
  have hu := LL.use_bd hr (show 0 ≤ x.l.W by omega) x.l.n (Nat.le_refl _)
  have hu : (0 ≤ x.l.U ∧ x.l.U ≤ x.l.n * x.l.W) ∧ 0 ≤ x.l.S ∧ x.l.S ≤ x.l.n * (x.l.W * 8191) := hu
  have h8 := hr.1
  have m1 : (x.l.n : Int) * x.l.W ≤ 8 * x.l.W := Int.mul_le_mul_of_nonneg_right (by omega) (by omega)
  have m2 : (x.l.n : Int) * (x.l.W * 8191) ≤ 8 * (x.l.W * 8191) := Int.mul_le_mul_of_nonneg_right (by omega) (by omega)
  have hh : x.l.hor = if x.l.S = 0 ∨ x.l.W ≤ x.l.U then (0, 0) else lestO (x.l.W - x.l.U) x.l.S := by unfold LL.hor; rw [if_neg (fun h => h hr)]
  rw [hh]
  generalize x.l.W = W at *
  generalize x.l.U = U at *
  generalize x.l.S = S at *
  generalize (x.l.n : Int) * W = p1 at *
  generalize (x.l.n : Int) * (W * 8191) = p2 at *
  have hb : ∀ n : Int, 0 ≤ n → n < 340282366920938463463374607431768211456 → (0 ≤ n / 18446744073709551616 ∧ n / 18446744073709551616 < 18446744073709551616) ∧ 0 ≤ n % 18446744073709551616 ∧ n % 18446744073709551616 < 18446744073709551616 := fun n h1 h2 => by omega
  have hlt : (if U < W then (-1 : Int) else if W < U then 1 else 0) < 0 → U < W := fun h2 => by
    by_cases hlt : U < W
    · exact hlt
    · rw [if_neg hlt] at h2; split at h2 <;> omega
  have bW := hb W (by omega) (by omega)
  have bU := hb U (by omega) (by omega)
  have bS := hb S (by omega) (by omega)
  refine ⟨⟨id, id⟩, ⟨hx, hr⟩, ⟨bS.1.1, bS.2.1⟩, fun h v hv v1 hv1 _ => ?_, fun h => ⟨⟨bW, bU⟩, fun h2 v hv v1 hv1 _ => ?_, fun h2 => ⟨⟨⟨bW, bU⟩, ?_⟩, ⟨⟨hb _ ?_ ?_, bS⟩, ?_⟩, fun v hv v1 hv1 _ => ?_⟩⟩⟩
  · rw [if_pos (.inl h)]; exact ⟨hv, hv1⟩
  · have : W ≤ U := by
      by_cases hlt : U < W
      · rw [if_pos hlt] at h2; omega
      · omega
    rw [if_pos (.inr this)]; exact ⟨hv, hv1⟩
  · have := hlt h2; omega
  · have := hlt h2; omega
  · have := hlt h2; omega
  · have := hlt h2; omega
  · have := hlt h2
    rw [if_neg (by omega)]; exact ⟨hv, hv1⟩

def hor_C (_ : LS) : Cfg := { Γ := Go.Sx.look tHor, names := true }
theorem hor_al (x : LS) : Shown (horP.vc Try.prog (hor_C x) Try.f16 x) := ⟨@Eq.mp _ _ (by kernel_rfl) (hor_vc x)⟩
theorem hor_ok : SpOk Try.prog 16 horP.sp := @Pat.okS _ horP Try.prog hor_C 16 Try.f16 (fun x => cfg_tab rfl tHor_ok) (by kernel_rfl) Try.func16 (fun _ => rfl) hor_al
end Go.Proofs.Ytijpjhelgggmfaa
