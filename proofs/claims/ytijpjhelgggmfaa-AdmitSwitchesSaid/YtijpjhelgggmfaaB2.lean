import Derived.Test.YtijpjhelgggmfaaB1
open Go Go.Sx Go.Proofs
set_option maxRecDepth 100000
namespace Go.Proofs.Ytijpjhelgggmfaa

theorem wNdm (n : Int) : wN (n / 18446744073709551616) (n % 18446744073709551616) = n := by unfold wN; omega
theorem wN0 (n : Int) : wN 0 n = n := by unfold wN; omega
theorem wcmpdm (p q : Int) : wcmp (p / 18446744073709551616) (p % 18446744073709551616) (q / 18446744073709551616) (q % 18446744073709551616) = if p < q then -1 else if q < p then 1 else 0 := by unfold wcmp; rw [wNdm, wNdm]
def timesP : Pat (Int × Int × Int) where
  view | [.cons (.int .u64 a) (.cons (.int .u64 b) .nil), .int .u64 n], _ => some (a, b, n) | _, _ => none
  args x := [wT x.1 x.2.1, .int .u64 x.2.2]
  H _ := []
  out x := .need ((u64 x.1 ∧ u64 x.2.1) ∧ u64 x.2.2 ∧ wN x.1 x.2.1 * x.2.2 < two128) (.retq (wO (wN x.1 x.2.1 * x.2.2)))
def tTimes : Tab := [(63, mulWP.sp)]
theorem tTimes_ok : TabOk Try.prog tTimes := (tab_cons mulW_ok tab_nil)

theorem times_vc : ∀ (a b n : Int), ((((0 : Int) ≤ a ∧ a < (18446744073709551616 : Int)) ∧ (0 : Int) ≤ b ∧ b < (18446744073709551616 : Int)) ∧ ((0 : Int) ≤ n ∧ n < (18446744073709551616 : Int)) ∧ wN a b * n < two128) ∧ True → ((b = b ∧ n =
  n ∧ True) ∧ True) ∧ (((0 : Int) ≤ b ∧ b < (18446744073709551616 : Int)) ∧ (0 : Int) ≤ n ∧ n < (18446744073709551616 : Int)) ∧ ((((0 : Int) ≤ a ∧ a < (18446744073709551616 : Int)) ∧ (0 : Int) ≤ b ∧ b <
  (18446744073709551616 : Int)) ∧ ((0 : Int) ≤ n ∧ n < (18446744073709551616 : Int)) ∧ wN a b * n < two128 → (IntKind.u64.wrap (b * n / (18446744073709551616 : Int) + IntKind.u64.wrap (a * n)) = wN a b * n /
  (18446744073709551616 : Int) ∧ b * n % (18446744073709551616 : Int) = wN a b * n % (18446744073709551616 : Int) ∧ True) ∧ True ∧ True) := by
  simp only [true_and, and_true, eq_self, and_self, IntKind.wrap_u64]
  rintro a b n ⟨⟨ha, hb⟩, hn, hlt⟩
  have e : wN a b * n = a * n * 18446744073709551616 + b * n := by
    unfold wN; rw [Int.add_mul, Int.mul_right_comm]
  have h1 : 0 ≤ a * n := Int.mul_nonneg ha.1 hn.1
  have h2 : 0 ≤ b * n := Int.mul_nonneg hb.1 hn.1
  rw [e] at hlt ⊢
  unfold two128 at hlt
  refine ⟨⟨hb, hn⟩, fun _ => ?_⟩
  generalize a * n = p at *
  generalize b * n = r at *
  omega

def times_C (_ : (Int × Int × Int)) : Cfg := { Γ := Go.Sx.look tTimes, names := true }
theorem times_al (x : (Int × Int × Int)) : Shown (timesP.vc Try.prog (times_C x) Try.f47 x) := ⟨@Eq.mp _ _ (by kernel_rfl) (times_vc (x.1) (x.2.1) (x.2.2))⟩
theorem times_ok : SpOk Try.prog 47 timesP.sp := @Pat.okS _ timesP Try.prog times_C 47 Try.f47 (fun x => cfg_tab rfl tTimes_ok) (by kernel_rfl) Try.func47 (fun _ => rfl) times_al
def waddP : Pat ((Int × Int) × (Int × Int)) where
  view | [.cons (.int .u64 a) (.cons (.int .u64 b) .nil), .cons (.int .u64 c) (.cons (.int .u64 d) .nil)], _ => some ((a, b), (c, d)) | _, _ => none
  args x := [wT x.1.1 x.1.2, wT x.2.1 x.2.2]
  H _ := []
  out x := .need (((u64 x.1.1 ∧ u64 x.1.2) ∧ u64 x.2.1 ∧ u64 x.2.2) ∧ wN x.1.1 x.1.2 + wN x.2.1 x.2.2 < two128) (.retq (wO (wN x.1.1 x.1.2 + wN x.2.1 x.2.2)))
def tWadd : Tab := [(66, addP.sp)]
theorem tWadd_ok : TabOk Try.prog tWadd := (tab_cons addW_ok tab_nil)

theorem wadd_vc : ∀ (a1 a0 b1 b0 : Int), (((((0 : Int) ≤ a1 ∧ a1 < (18446744073709551616 : Int)) ∧ (0 : Int) ≤ a0 ∧ a0 < (18446744073709551616 : Int)) ∧ ((0 : Int) ≤ b1 ∧ b1 < (18446744073709551616 : Int)) ∧ (0 : Int) ≤ b0 ∧ b0 <
  (18446744073709551616 : Int)) ∧ wN a1 a0 + wN b1 b0 < two128) ∧ True → (((a1 = a1 ∧ a0 = a0 ∧ True) ∧ (b1 = b1 ∧ b0 = b0 ∧ True) ∧ True) ∧ True) ∧ ((((0 : Int) ≤ a1 ∧ a1 < (18446744073709551616 : Int)) ∧ (0 : Int) ≤ a0 ∧
  a0 < (18446744073709551616 : Int)) ∧ ((0 : Int) ≤ b1 ∧ b1 < (18446744073709551616 : Int)) ∧ (0 : Int) ≤ b0 ∧ b0 < (18446744073709551616 : Int)) ∧ (((((0 : Int) ≤ a1 ∧ a1 < (18446744073709551616 : Int)) ∧ (0 : Int) ≤ a0 ∧
  a0 < (18446744073709551616 : Int)) ∧ ((0 : Int) ≤ b1 ∧ b1 < (18446744073709551616 : Int)) ∧ (0 : Int) ≤ b0 ∧ b0 < (18446744073709551616 : Int)) ∧ wN a1 a0 + wN b1 b0 < two128 → ((if wN a1 a0 + wN b1 b0 < two128 then wN
  a1 a0 + wN b1 b0 else (0 : Int)) / (18446744073709551616 : Int) = (wN a1 a0 + wN b1 b0) / (18446744073709551616 : Int) ∧ (if wN a1 a0 + wN b1 b0 < two128 then wN a1 a0 + wN b1 b0 else (0 : Int)) % (18446744073709551616 :
  Int) = (wN a1 a0 + wN b1 b0) % (18446744073709551616 : Int) ∧ True) ∧ True ∧ True) := by
  simp only [true_and, and_true, eq_self, and_self]
  rintro a1 a0 b1 b0 ⟨⟨⟨⟨ha1, ha1'⟩, ha0, ha0'⟩, ⟨hb1, hb1'⟩, hb0, hb0'⟩, hlt⟩
  simp only [if_pos hlt]
  try dsimp only
  repeat' (with_reducible first | assumption | apply And.intro | intro _)
  all_goals (try simp only [] at *)
  all_goals (first | omega | ((repeat' (first | omega | split)) <;> (try dsimp only) <;> (try (first | omega | contradiction | (subst_vars; first | rfl | omega) | (simp_all; done) | (simp_all; omega)))))

def wadd_C (_ : ((Int × Int) × (Int × Int))) : Cfg := { Γ := Go.Sx.look tWadd, names := true }
theorem wadd_al (x : ((Int × Int) × (Int × Int))) : Shown (waddP.vc Try.prog (wadd_C x) Try.f56 x) := ⟨@Eq.mp _ _ (by kernel_rfl) (wadd_vc (x.1.1) (x.1.2) (x.2.1) (x.2.2))⟩
theorem wadd_ok : SpOk Try.prog 56 waddP.sp := @Pat.okS _ waddP Try.prog wadd_C 56 Try.f56 (fun x => cfg_tab rfl tWadd_ok) (by kernel_rfl) Try.func56 (fun _ => rfl) wadd_al
def wminP : Pat ((Int × Int) × (Int × Int)) where
  view | [.cons (.int .u64 a) (.cons (.int .u64 b) .nil), .cons (.int .u64 c) (.cons (.int .u64 d) .nil)], _ => some ((a, b), (c, d)) | _, _ => none
  args x := [wT x.1.1 x.1.2, wT x.2.1 x.2.2]
  H _ := []
  out x := .need (((u64 x.1.1 ∧ u64 x.1.2) ∧ u64 x.2.1 ∧ u64 x.2.2) ∧ wN x.2.1 x.2.2 ≤ wN x.1.1 x.1.2) (.retq (wO (wN x.1.1 x.1.2 - wN x.2.1 x.2.2)))
theorem wmin_vc : ∀ (a1 a0 b1 b0 : Int), (((((0 : Int) ≤ a1 ∧ a1 < (18446744073709551616 : Int)) ∧ (0 : Int) ≤ a0 ∧ a0 < (18446744073709551616 : Int)) ∧ ((0 : Int) ≤ b1 ∧ b1 < (18446744073709551616 : Int)) ∧ (0 : Int) ≤ b0 ∧ b0 <
  (18446744073709551616 : Int)) ∧ wN b1 b0 ≤ wN a1 a0) ∧ True → (decide (a0 < b0) = true → ((((0 : Int) ≤ a1 ∧ a1 < (18446744073709551616 : Int)) ∧ (0 : Int) ≤ a0 ∧ a0 < (18446744073709551616 : Int)) ∧ ((0 : Int) ≤ b1 ∧ b1
  < (18446744073709551616 : Int)) ∧ (0 : Int) ≤ b0 ∧ b0 < (18446744073709551616 : Int)) ∧ wN b1 b0 ≤ wN a1 a0 → (IntKind.u64.wrap (IntKind.u64.wrap (a1 - b1) - (1 : Int)) = (wN a1 a0 - wN b1 b0) / (18446744073709551616 :
  Int) ∧ IntKind.u64.wrap (a0 - b0) = (wN a1 a0 - wN b1 b0) % (18446744073709551616 : Int) ∧ True) ∧ True ∧ True) ∧ (decide (a0 < b0) = false → ((((0 : Int) ≤ a1 ∧ a1 < (18446744073709551616 : Int)) ∧ (0 : Int) ≤ a0 ∧ a0 <
  (18446744073709551616 : Int)) ∧ ((0 : Int) ≤ b1 ∧ b1 < (18446744073709551616 : Int)) ∧ (0 : Int) ≤ b0 ∧ b0 < (18446744073709551616 : Int)) ∧ wN b1 b0 ≤ wN a1 a0 → (IntKind.u64.wrap (a1 - b1) = (wN a1 a0 - wN b1 b0) /
  (18446744073709551616 : Int) ∧ IntKind.u64.wrap (a0 - b0) = (wN a1 a0 - wN b1 b0) % (18446744073709551616 : Int) ∧ True) ∧ True ∧ True) := by
  simp only [and_true, decide_eq_true_eq, decide_eq_false_iff_not, and_self, Int.not_lt, IntKind.wrap_u64]
  rintro a1 a0 b1 b0 ⟨⟨⟨⟨ha1, ha1'⟩, ha0, ha0'⟩, ⟨hb1, hb1'⟩, hb0, hb0'⟩, hlt⟩
  have e : wN a1 a0 = a1 * 18446744073709551616 + a0 := rfl
  have e' : wN b1 b0 = b1 * 18446744073709551616 + b0 := rfl
  simp only [e, e'] at *
  try dsimp only
  repeat' (with_reducible first | assumption | apply And.intro | intro _)
  all_goals (try simp only [cond_dec, decide_eq_decide] at *)
  all_goals (first | omega | ((repeat' (first | omega | split)) <;> (try dsimp only) <;> (try (first | omega | contradiction | (subst_vars; first | rfl | omega) | (simp_all; done) | (simp_all; omega)))))

def wmin_C (_ : ((Int × Int) × (Int × Int))) : Cfg := { Γ := Go.Sx.look [], names := true }
theorem wmin_al (x : ((Int × Int) × (Int × Int))) : Shown (wminP.vc Try.prog (wmin_C x) Try.f36 x) := ⟨@Eq.mp _ _ (by kernel_rfl) (wmin_vc (x.1.1) (x.1.2) (x.2.1) (x.2.2))⟩
theorem wmin_ok : SpOk Try.prog 36 wminP.sp := @Pat.okS _ wminP Try.prog wmin_C 36 Try.f36 (fun x => cfg_nil rfl) (by kernel_rfl) Try.func36 (fun _ => rfl) wmin_al
/-- The product of the first periods. -/
def LL.prod (l : LL) : Nat → Int
  | 0 => 1
  | j + 1 => l.prod j * l.t j
def LL.use (l : LL) (w : Int) : Nat → Int
  | 0 => 0
  | j + 1 => l.use w j + w / l.t j * l.q j
def LL.slk (l : LL) (w : Int) : Nat → Int
  | 0 => 0
  | j + 1 => l.slk w j + w / l.t j * l.q j * l.sl j
theorem LL.prod_bd {l : LL} (h : l.right) : ∀ m, m ≤ l.n → 1 ≤ l.prod m ∧ l.prod m ≤ 8192 ^ m
  | 0, _ => ⟨Int.le_refl _, by simp [LL.prod]⟩
  | m + 1, hm => by
    obtain ⟨h1, h2⟩ := LL.prod_bd h m (by omega)
    have hr := h.2 m (by omega)
    unfold rightE at hr
    simp only [LL.prod]
    refine ⟨?_, ?_⟩
    · have := Int.mul_le_mul h1 (show 1 ≤ l.t m by omega) (by omega) (by omega)
      omega
    · rw [Int.pow_succ]
      exact Int.mul_le_mul h2 (by omega) (by omega) (Int.le_of_lt (Int.pow_pos (by decide)))
theorem pow8192 {m : Nat} (h : m ≤ 8) : (8192 : Int) ^ m ≤ 20282409603651670423947251286016 := by
  have : m = 0 ∨ m = 1 ∨ m = 2 ∨ m = 3 ∨ m = 4 ∨ m = 5 ∨ m = 6 ∨ m = 7 ∨ m = 8 := by omega
  rcases this with rfl | rfl | rfl | rfl | rfl | rfl | rfl | rfl | rfl <;> decide
theorem LL.prod_le {l : LL} (h : l.right) {m : Nat} (hm : m ≤ l.n) : 1 ≤ l.prod m ∧ l.prod m ≤ 20282409603651670423947251286016 := by
  have h1 := LL.prod_bd h m hm
  have h2 := pow8192 (show m ≤ 8 by have := h.1; omega)
  omega
theorem LL.one_bd {l : LL} (h : l.right) {w : Int} (hw : 0 ≤ w) {j : Nat} (hj : j < l.n) : (0 ≤ w / l.t j ∧ w / l.t j ≤ w) ∧ (0 ≤ w / l.t j * l.q j ∧ w / l.t j * l.q j ≤ w) ∧ (0 ≤ l.sl j ∧ l.sl j ≤ 8191) ∧ 0 ≤ w / l.t j * l.q j * l.sl j ∧ w / l.t j * l.q j * l.sl j ≤ w * 8191 := by
  have hr := h.2 j hj
  unfold rightE at hr
  have h1 : 0 ≤ w / l.t j := Int.ediv_nonneg hw (by omega)
  have h2 : w / l.t j ≤ w := Int.ediv_le_self _ hw
  have h3 : w / l.t j * l.q j ≤ w / l.t j * l.t j := Int.mul_le_mul_of_nonneg_left (by omega) h1
  have h4 : w / l.t j * l.t j ≤ w := Int.ediv_mul_le _ (by omega)
  have h5 : 0 ≤ w / l.t j * l.q j := Int.mul_nonneg h1 (by omega)
  have h6 : 0 ≤ l.sl j ∧ l.sl j ≤ 8191 := by unfold LL.sl; split <;> omega
  refine ⟨⟨h1, h2⟩, ⟨h5, by omega⟩, h6, Int.mul_nonneg h5 h6.1, ?_⟩
  exact Int.mul_le_mul (by omega) h6.2 h6.1 hw
theorem LL.use_bd {l : LL} (h : l.right) {w : Int} (hw : 0 ≤ w) : ∀ m, m ≤ l.n → (0 ≤ l.use w m ∧ l.use w m ≤ m * w) ∧ 0 ≤ l.slk w m ∧ l.slk w m ≤ m * (w * 8191)
  | 0, _ => ⟨⟨Int.le_refl _, by simp [LL.use]⟩, Int.le_refl _, by simp [LL.slk]⟩
  | m + 1, hm => by
    obtain ⟨⟨h1, h2⟩, h3, h4⟩ := LL.use_bd h hw m (by omega)
    obtain ⟨_, h5, _, h6⟩ := LL.one_bd h hw (show m < l.n by omega)
    simp only [LL.use, LL.slk]
    rw [show ((m + 1 : Nat) : Int) = m + 1 from rfl, Int.add_mul, Int.add_mul, Int.one_mul, Int.one_mul]
    omega
def sumP : Pat LS where
  view | [t], H => some (viewL t H) | _, _ => none
  args x := [x.v 0]
  H x := [x.reg]
  out x := .need (x.Ok ∧ x.l.right) (.retq (.cons (wO (x.l.prod x.len)) (.cons (wO (x.l.use (x.l.prod x.len) x.len)) (.cons (wO (x.l.slk (x.l.prod x.len) x.len)) .nil))))
def partsT (w u s : Int) : T := .cons (wO w) (.cons (wO u) (.cons (wO s) .nil))
def sumF1 (x : LS) : Fam where
  α := Nat
  I y := y ≤ x.len
  st y := { sl := mkSl 61 [(0, x.v 0), (2, p0 1), (3, p0 2), (14, x.v 0), (15, .int .i64 x.len), (16, .int .i64 y)], H := [x.reg, newReg 59 (partsT 0 0 0), newReg 59 (partsT (x.l.prod y) 0 0)] }
  μ y := x.len - y
def sumF2 (x : LS) : Fam where
  α := Nat
  I y := y ≤ x.len
  st y := { sl := mkSl 61 [(2, p0 1), (3, p0 2), (27, x.v 0), (28, .int .i64 x.len), (29, .int .i64 y)], H := [x.reg, newReg 59 (partsT 0 0 0), newReg 59 (partsT (x.l.prod x.len) (x.l.use (x.l.prod x.len) y) (x.l.slk (x.l.prod x.len) y))] }
  μ y := x.len - y
def sumL (x : LS) : Nat → Gam
  | 3 => .l [sumF1 x]
  | 8 => .l [sumF2 x]
  | _ => .l []
def tSum : Tab := [(47, timesP.sp), (56, waddP.sp), (42, slP.sp), (55, wdivP.sp)]
theorem tSum_ok : TabOk Try.prog tSum := (tab_cons times_ok (tab_cons wadd_ok (tab_cons sl_ok (tab_cons wdiv_ok tab_nil))))

theorem sum_vc : ∀ (x : LS), (x.Ok ∧ x.l.right) ∧ True → (x.nil = true → x.len = (0 : Nat)) ∧ (∃ (y : Nat), (sumF1 x).I y ∧ ((((x.nil = true → x.nil = true) ∧ (x.nil = false → x.nil = false ∧ True ∧ True ∧ x.lo = x.lo ∧ x.len = x.len ∧
  x.cap = x.cap)) ∧ (True ∧ True) ∧ (True ∧ True) ∧ ((x.nil = true → x.nil = true) ∧ (x.nil = false → x.nil = false ∧ True ∧ True ∧ x.lo = x.lo ∧ x.len = x.len ∧ x.cap = x.cap)) ∧ (↑x.len : Int) = (↑x.len : Int) ∧ (0 :
  Int) = (↑y : Int) ∧ True) ∧ ((0 : Nat) ≤ (0 : Nat) ∧ x.n = x.n ∧ ∀ (j : Nat), j < x.n → x.k j = x.k j ∧ x.q j = x.q j ∧ x.t j = x.t j ∧ True) ∧ ((6 : Nat) ≤ (6 : Nat) ∧ ((0 : Int) = (0 / 18446744073709551616 : Int) ∧ (0
  : Int) = (0 : Int) % (18446744073709551616 : Int) ∧ True) ∧ ((0 : Int) = (0 / 18446744073709551616 : Int) ∧ (0 : Int) = (0 : Int) % (18446744073709551616 : Int) ∧ True) ∧ ((0 : Int) = (0 / 18446744073709551616 : Int) ∧
  (0 : Int) = (0 : Int) % (18446744073709551616 : Int) ∧ True) ∧ True) ∧ ((6 : Nat) ≤ (6 : Nat) ∧ ((0 : Int) = x.l.prod y / (18446744073709551616 : Int) ∧ (1 : Int) = x.l.prod y % (18446744073709551616 : Int) ∧ True) ∧ ((0
  : Int) = (0 / 18446744073709551616 : Int) ∧ (0 : Int) = (0 : Int) % (18446744073709551616 : Int) ∧ True) ∧ ((0 : Int) = (0 / 18446744073709551616 : Int) ∧ (0 : Int) = (0 : Int) % (18446744073709551616 : Int) ∧ True) ∧
  True) ∧ True) ∧ True) ∧ ∀ (y : Nat), (sumF1 x).I y → (decide ((↑y : Int) < (↑x.len : Int)) = true → (x.nil = true → x.len = (0 : Nat)) ∧ ((0 : Int) ≤ (↑y : Int) ∧ (↑y : Int) < (↑x.len : Int)) ∧ x.lo + (↑y : Int).toNat <
  x.n ∧ (((x.l.prod y / (18446744073709551616 : Int) = x.l.prod y / (18446744073709551616 : Int) ∧ x.l.prod y % (18446744073709551616 : Int) = x.l.prod y % (18446744073709551616 : Int) ∧ True) ∧ x.t (x.lo + (↑y :
  Int).toNat) = x.t (x.lo + (↑y : Int).toNat) ∧ True) ∧ True) ∧ ((((0 : Int) ≤ x.l.prod y / (18446744073709551616 : Int) ∧ x.l.prod y / (18446744073709551616 : Int) < (18446744073709551616 : Int)) ∧ (0 : Int) ≤ x.l.prod y
  % (18446744073709551616 : Int) ∧ x.l.prod y % (18446744073709551616 : Int) < (18446744073709551616 : Int)) ∧ ((0 : Int) ≤ x.t (x.lo + (↑y : Int).toNat) ∧ x.t (x.lo + (↑y : Int).toNat) < (18446744073709551616 : Int)) ∧ wN
  (x.l.prod y / (18446744073709551616 : Int)) (x.l.prod y % (18446744073709551616 : Int)) * x.t (x.lo + (↑y : Int).toNat) < two128) ∧ ∃ (y_1 : Nat), (sumF1 x).I y_1 ∧ ((((x.nil = true → x.nil = true) ∧ (x.nil = false →
  x.nil = false ∧ True ∧ True ∧ x.lo = x.lo ∧ x.len = x.len ∧ x.cap = x.cap)) ∧ (True ∧ True) ∧ (True ∧ True) ∧ ((x.nil = true → x.nil = true) ∧ (x.nil = false → x.nil = false ∧ True ∧ True ∧ x.lo = x.lo ∧ x.len = x.len ∧
  x.cap = x.cap)) ∧ (↑x.len : Int) = (↑x.len : Int) ∧ IntKind.i64.wrap ((↑y : Int) + (1 : Int)) = (↑y_1 : Int) ∧ True) ∧ ((0 : Nat) ≤ (0 : Nat) ∧ x.n = x.n ∧ ∀ (j : Nat), j < x.n → x.k j = x.k j ∧ x.q j = x.q j ∧ x.t j =
  x.t j ∧ True) ∧ ((6 : Nat) ≤ (6 : Nat) ∧ ((0 / 18446744073709551616 : Int) = (0 / 18446744073709551616 : Int) ∧ (0 : Int) % (18446744073709551616 : Int) = (0 : Int) % (18446744073709551616 : Int) ∧ True) ∧ ((0 /
  18446744073709551616 : Int) = (0 / 18446744073709551616 : Int) ∧ (0 : Int) % (18446744073709551616 : Int) = (0 : Int) % (18446744073709551616 : Int) ∧ True) ∧ ((0 / 18446744073709551616 : Int) = (0 / 18446744073709551616
  : Int) ∧ (0 : Int) % (18446744073709551616 : Int) = (0 : Int) % (18446744073709551616 : Int) ∧ True) ∧ True) ∧ ((6 : Nat) ≤ (6 : Nat) ∧ (wN (x.l.prod y / (18446744073709551616 : Int)) (x.l.prod y % (18446744073709551616
  : Int)) * x.t (x.lo + (↑y : Int).toNat) / (18446744073709551616 : Int) = x.l.prod y_1 / (18446744073709551616 : Int) ∧ wN (x.l.prod y / (18446744073709551616 : Int)) (x.l.prod y % (18446744073709551616 : Int)) * x.t
  (x.lo + (↑y : Int).toNat) % (18446744073709551616 : Int) = x.l.prod y_1 % (18446744073709551616 : Int) ∧ True) ∧ ((0 / 18446744073709551616 : Int) = (0 / 18446744073709551616 : Int) ∧ (0 : Int) % (18446744073709551616 :
  Int) = (0 : Int) % (18446744073709551616 : Int) ∧ True) ∧ ((0 / 18446744073709551616 : Int) = (0 / 18446744073709551616 : Int) ∧ (0 : Int) % (18446744073709551616 : Int) = (0 : Int) % (18446744073709551616 : Int) ∧ True)
  ∧ True) ∧ True) ∧ (sumF1 x).μ y_1 < (sumF1 x).μ y) ∧ (decide ((↑y : Int) < (↑x.len : Int)) = false → (x.nil = true → x.len = (0 : Nat)) ∧ (∃ (y_1 : Nat), (sumF2 x).I y_1 ∧ (((True ∧ True) ∧ (True ∧ True) ∧ ((x.nil = true
  → x.nil = true) ∧ (x.nil = false → x.nil = false ∧ True ∧ True ∧ x.lo = x.lo ∧ x.len = x.len ∧ x.cap = x.cap)) ∧ (↑x.len : Int) = (↑x.len : Int) ∧ (0 : Int) = (↑y_1 : Int) ∧ True) ∧ ((0 : Nat) ≤ (0 : Nat) ∧ x.n = x.n ∧ ∀
  (j : Nat), j < x.n → x.k j = x.k j ∧ x.q j = x.q j ∧ x.t j = x.t j ∧ True) ∧ ((6 : Nat) ≤ (6 : Nat) ∧ ((0 / 18446744073709551616 : Int) = (0 / 18446744073709551616 : Int) ∧ (0 : Int) % (18446744073709551616 : Int) = (0 :
  Int) % (18446744073709551616 : Int) ∧ True) ∧ ((0 / 18446744073709551616 : Int) = (0 / 18446744073709551616 : Int) ∧ (0 : Int) % (18446744073709551616 : Int) = (0 : Int) % (18446744073709551616 : Int) ∧ True) ∧ ((0 /
  18446744073709551616 : Int) = (0 / 18446744073709551616 : Int) ∧ (0 : Int) % (18446744073709551616 : Int) = (0 : Int) % (18446744073709551616 : Int) ∧ True) ∧ True) ∧ ((6 : Nat) ≤ (6 : Nat) ∧ (x.l.prod y /
  (18446744073709551616 : Int) = x.l.prod x.len / (18446744073709551616 : Int) ∧ x.l.prod y % (18446744073709551616 : Int) = x.l.prod x.len % (18446744073709551616 : Int) ∧ True) ∧ ((0 / 18446744073709551616 : Int) =
  x.l.use (x.l.prod x.len) y_1 / (18446744073709551616 : Int) ∧ (0 : Int) % (18446744073709551616 : Int) = x.l.use (x.l.prod x.len) y_1 % (18446744073709551616 : Int) ∧ True) ∧ ((0 / 18446744073709551616 : Int) = x.l.slk
  (x.l.prod x.len) y_1 / (18446744073709551616 : Int) ∧ (0 : Int) % (18446744073709551616 : Int) = x.l.slk (x.l.prod x.len) y_1 % (18446744073709551616 : Int) ∧ True) ∧ True) ∧ True) ∧ True) ∧ ∀ (y : Nat), (sumF2 x).I y →
  (decide ((↑y : Int) < (↑x.len : Int)) = true → (x.nil = true → x.len = (0 : Nat)) ∧ ((0 : Int) ≤ (↑y : Int) ∧ (↑y : Int) < (↑x.len : Int)) ∧ x.lo + (↑y : Int).toNat < x.n ∧ (((x.l.prod x.len / (18446744073709551616 :
  Int) = x.l.prod x.len / (18446744073709551616 : Int) ∧ x.l.prod x.len % (18446744073709551616 : Int) = x.l.prod x.len % (18446744073709551616 : Int) ∧ True) ∧ x.t (x.lo + (↑y : Int).toNat) = x.t (x.lo + (↑y : Int).toNat)
  ∧ True) ∧ True) ∧ ((((0 : Int) ≤ x.l.prod x.len / (18446744073709551616 : Int) ∧ x.l.prod x.len / (18446744073709551616 : Int) < (18446744073709551616 : Int)) ∧ (0 : Int) ≤ x.l.prod x.len % (18446744073709551616 : Int) ∧
  x.l.prod x.len % (18446744073709551616 : Int) < (18446744073709551616 : Int)) ∧ (0 : Int) ≤ x.t (x.lo + (↑y : Int).toNat) ∧ x.t (x.lo + (↑y : Int).toNat) < (18446744073709551616 : Int)) ∧ ∀ (v : Int), (v = if x.t (x.lo +
  (↑y : Int).toNat) = (0 : Int) then (0 : Int) else wN (x.l.prod x.len / (18446744073709551616 : Int)) (x.l.prod x.len % (18446744073709551616 : Int)) % x.t (x.lo + (↑y : Int).toNat)) → ((((if x.t (x.lo + (↑y : Int).toNat)
  = (0 : Int) then (0 : Int) else wN (x.l.prod x.len / (18446744073709551616 : Int)) (x.l.prod x.len % (18446744073709551616 : Int)) / x.t (x.lo + (↑y : Int).toNat)) / (18446744073709551616 : Int) = (if x.t (x.lo + (↑y :
  Int).toNat) = (0 : Int) then (0 : Int) else wN (x.l.prod x.len / (18446744073709551616 : Int)) (x.l.prod x.len % (18446744073709551616 : Int)) / x.t (x.lo + (↑y : Int).toNat)) / (18446744073709551616 : Int) ∧ (if x.t
  (x.lo + (↑y : Int).toNat) = (0 : Int) then (0 : Int) else wN (x.l.prod x.len / (18446744073709551616 : Int)) (x.l.prod x.len % (18446744073709551616 : Int)) / x.t (x.lo + (↑y : Int).toNat)) % (18446744073709551616 : Int)
  = (if x.t (x.lo + (↑y : Int).toNat) = (0 : Int) then (0 : Int) else wN (x.l.prod x.len / (18446744073709551616 : Int)) (x.l.prod x.len % (18446744073709551616 : Int)) / x.t (x.lo + (↑y : Int).toNat)) %
  (18446744073709551616 : Int) ∧ True) ∧ x.q (x.lo + (↑y : Int).toNat) = x.q (x.lo + (↑y : Int).toNat) ∧ True) ∧ True) ∧ ((((0 : Int) ≤ (if x.t (x.lo + (↑y : Int).toNat) = (0 : Int) then (0 : Int) else wN (x.l.prod x.len /
  (18446744073709551616 : Int)) (x.l.prod x.len % (18446744073709551616 : Int)) / x.t (x.lo + (↑y : Int).toNat)) / (18446744073709551616 : Int) ∧ (if x.t (x.lo + (↑y : Int).toNat) = (0 : Int) then (0 : Int) else wN
  (x.l.prod x.len / (18446744073709551616 : Int)) (x.l.prod x.len % (18446744073709551616 : Int)) / x.t (x.lo + (↑y : Int).toNat)) / (18446744073709551616 : Int) < (18446744073709551616 : Int)) ∧ (0 : Int) ≤ (if x.t (x.lo
  + (↑y : Int).toNat) = (0 : Int) then (0 : Int) else wN (x.l.prod x.len / (18446744073709551616 : Int)) (x.l.prod x.len % (18446744073709551616 : Int)) / x.t (x.lo + (↑y : Int).toNat)) % (18446744073709551616 : Int) ∧ (if
  x.t (x.lo + (↑y : Int).toNat) = (0 : Int) then (0 : Int) else wN (x.l.prod x.len / (18446744073709551616 : Int)) (x.l.prod x.len % (18446744073709551616 : Int)) / x.t (x.lo + (↑y : Int).toNat)) % (18446744073709551616 :
  Int) < (18446744073709551616 : Int)) ∧ ((0 : Int) ≤ x.q (x.lo + (↑y : Int).toNat) ∧ x.q (x.lo + (↑y : Int).toNat) < (18446744073709551616 : Int)) ∧ wN ((if x.t (x.lo + (↑y : Int).toNat) = (0 : Int) then (0 : Int) else wN
  (x.l.prod x.len / (18446744073709551616 : Int)) (x.l.prod x.len % (18446744073709551616 : Int)) / x.t (x.lo + (↑y : Int).toNat)) / (18446744073709551616 : Int)) ((if x.t (x.lo + (↑y : Int).toNat) = (0 : Int) then (0 :
  Int) else wN (x.l.prod x.len / (18446744073709551616 : Int)) (x.l.prod x.len % (18446744073709551616 : Int)) / x.t (x.lo + (↑y : Int).toNat)) % (18446744073709551616 : Int)) * x.q (x.lo + (↑y : Int).toNat) < two128) ∧
  (((x.l.use (x.l.prod x.len) y / (18446744073709551616 : Int) = x.l.use (x.l.prod x.len) y / (18446744073709551616 : Int) ∧ x.l.use (x.l.prod x.len) y % (18446744073709551616 : Int) = x.l.use (x.l.prod x.len) y %
  (18446744073709551616 : Int) ∧ True) ∧ (wN ((if x.t (x.lo + (↑y : Int).toNat) = (0 : Int) then (0 : Int) else wN (x.l.prod x.len / (18446744073709551616 : Int)) (x.l.prod x.len % (18446744073709551616 : Int)) / x.t (x.lo
  + (↑y : Int).toNat)) / (18446744073709551616 : Int)) ((if x.t (x.lo + (↑y : Int).toNat) = (0 : Int) then (0 : Int) else wN (x.l.prod x.len / (18446744073709551616 : Int)) (x.l.prod x.len % (18446744073709551616 : Int)) /
  x.t (x.lo + (↑y : Int).toNat)) % (18446744073709551616 : Int)) * x.q (x.lo + (↑y : Int).toNat) / (18446744073709551616 : Int) = wN ((if x.t (x.lo + (↑y : Int).toNat) = (0 : Int) then (0 : Int) else wN (x.l.prod x.len /
  (18446744073709551616 : Int)) (x.l.prod x.len % (18446744073709551616 : Int)) / x.t (x.lo + (↑y : Int).toNat)) / (18446744073709551616 : Int)) ((if x.t (x.lo + (↑y : Int).toNat) = (0 : Int) then (0 : Int) else wN
  (x.l.prod x.len / (18446744073709551616 : Int)) (x.l.prod x.len % (18446744073709551616 : Int)) / x.t (x.lo + (↑y : Int).toNat)) % (18446744073709551616 : Int)) * x.q (x.lo + (↑y : Int).toNat) / (18446744073709551616 :
  Int) ∧ wN ((if x.t (x.lo + (↑y : Int).toNat) = (0 : Int) then (0 : Int) else wN (x.l.prod x.len / (18446744073709551616 : Int)) (x.l.prod x.len % (18446744073709551616 : Int)) / x.t (x.lo + (↑y : Int).toNat)) /
  (18446744073709551616 : Int)) ((if x.t (x.lo + (↑y : Int).toNat) = (0 : Int) then (0 : Int) else wN (x.l.prod x.len / (18446744073709551616 : Int)) (x.l.prod x.len % (18446744073709551616 : Int)) / x.t (x.lo + (↑y :
  Int).toNat)) % (18446744073709551616 : Int)) * x.q (x.lo + (↑y : Int).toNat) % (18446744073709551616 : Int) = wN ((if x.t (x.lo + (↑y : Int).toNat) = (0 : Int) then (0 : Int) else wN (x.l.prod x.len /
  (18446744073709551616 : Int)) (x.l.prod x.len % (18446744073709551616 : Int)) / x.t (x.lo + (↑y : Int).toNat)) / (18446744073709551616 : Int)) ((if x.t (x.lo + (↑y : Int).toNat) = (0 : Int) then (0 : Int) else wN
  (x.l.prod x.len / (18446744073709551616 : Int)) (x.l.prod x.len % (18446744073709551616 : Int)) / x.t (x.lo + (↑y : Int).toNat)) % (18446744073709551616 : Int)) * x.q (x.lo + (↑y : Int).toNat) % (18446744073709551616 :
  Int) ∧ True) ∧ True) ∧ True) ∧ (((((0 : Int) ≤ x.l.use (x.l.prod x.len) y / (18446744073709551616 : Int) ∧ x.l.use (x.l.prod x.len) y / (18446744073709551616 : Int) < (18446744073709551616 : Int)) ∧ (0 : Int) ≤ x.l.use
  (x.l.prod x.len) y % (18446744073709551616 : Int) ∧ x.l.use (x.l.prod x.len) y % (18446744073709551616 : Int) < (18446744073709551616 : Int)) ∧ ((0 : Int) ≤ wN ((if x.t (x.lo + (↑y : Int).toNat) = (0 : Int) then (0 :
  Int) else wN (x.l.prod x.len / (18446744073709551616 : Int)) (x.l.prod x.len % (18446744073709551616 : Int)) / x.t (x.lo + (↑y : Int).toNat)) / (18446744073709551616 : Int)) ((if x.t (x.lo + (↑y : Int).toNat) = (0 : Int)
  then (0 : Int) else wN (x.l.prod x.len / (18446744073709551616 : Int)) (x.l.prod x.len % (18446744073709551616 : Int)) / x.t (x.lo + (↑y : Int).toNat)) % (18446744073709551616 : Int)) * x.q (x.lo + (↑y : Int).toNat) /
  (18446744073709551616 : Int) ∧ wN ((if x.t (x.lo + (↑y : Int).toNat) = (0 : Int) then (0 : Int) else wN (x.l.prod x.len / (18446744073709551616 : Int)) (x.l.prod x.len % (18446744073709551616 : Int)) / x.t (x.lo + (↑y :
  Int).toNat)) / (18446744073709551616 : Int)) ((if x.t (x.lo + (↑y : Int).toNat) = (0 : Int) then (0 : Int) else wN (x.l.prod x.len / (18446744073709551616 : Int)) (x.l.prod x.len % (18446744073709551616 : Int)) / x.t
  (x.lo + (↑y : Int).toNat)) % (18446744073709551616 : Int)) * x.q (x.lo + (↑y : Int).toNat) / (18446744073709551616 : Int) < (18446744073709551616 : Int)) ∧ (0 : Int) ≤ wN ((if x.t (x.lo + (↑y : Int).toNat) = (0 : Int)
  then (0 : Int) else wN (x.l.prod x.len / (18446744073709551616 : Int)) (x.l.prod x.len % (18446744073709551616 : Int)) / x.t (x.lo + (↑y : Int).toNat)) / (18446744073709551616 : Int)) ((if x.t (x.lo + (↑y : Int).toNat) =
  (0 : Int) then (0 : Int) else wN (x.l.prod x.len / (18446744073709551616 : Int)) (x.l.prod x.len % (18446744073709551616 : Int)) / x.t (x.lo + (↑y : Int).toNat)) % (18446744073709551616 : Int)) * x.q (x.lo + (↑y :
  Int).toNat) % (18446744073709551616 : Int) ∧ wN ((if x.t (x.lo + (↑y : Int).toNat) = (0 : Int) then (0 : Int) else wN (x.l.prod x.len / (18446744073709551616 : Int)) (x.l.prod x.len % (18446744073709551616 : Int)) / x.t
  (x.lo + (↑y : Int).toNat)) / (18446744073709551616 : Int)) ((if x.t (x.lo + (↑y : Int).toNat) = (0 : Int) then (0 : Int) else wN (x.l.prod x.len / (18446744073709551616 : Int)) (x.l.prod x.len % (18446744073709551616 :
  Int)) / x.t (x.lo + (↑y : Int).toNat)) % (18446744073709551616 : Int)) * x.q (x.lo + (↑y : Int).toNat) % (18446744073709551616 : Int) < (18446744073709551616 : Int)) ∧ wN (x.l.use (x.l.prod x.len) y /
  (18446744073709551616 : Int)) (x.l.use (x.l.prod x.len) y % (18446744073709551616 : Int)) + wN (wN ((if x.t (x.lo + (↑y : Int).toNat) = (0 : Int) then (0 : Int) else wN (x.l.prod x.len / (18446744073709551616 : Int))
  (x.l.prod x.len % (18446744073709551616 : Int)) / x.t (x.lo + (↑y : Int).toNat)) / (18446744073709551616 : Int)) ((if x.t (x.lo + (↑y : Int).toNat) = (0 : Int) then (0 : Int) else wN (x.l.prod x.len /
  (18446744073709551616 : Int)) (x.l.prod x.len % (18446744073709551616 : Int)) / x.t (x.lo + (↑y : Int).toNat)) % (18446744073709551616 : Int)) * x.q (x.lo + (↑y : Int).toNat) / (18446744073709551616 : Int)) (wN ((if x.t
  (x.lo + (↑y : Int).toNat) = (0 : Int) then (0 : Int) else wN (x.l.prod x.len / (18446744073709551616 : Int)) (x.l.prod x.len % (18446744073709551616 : Int)) / x.t (x.lo + (↑y : Int).toNat)) / (18446744073709551616 :
  Int)) ((if x.t (x.lo + (↑y : Int).toNat) = (0 : Int) then (0 : Int) else wN (x.l.prod x.len / (18446744073709551616 : Int)) (x.l.prod x.len % (18446744073709551616 : Int)) / x.t (x.lo + (↑y : Int).toNat)) %
  (18446744073709551616 : Int)) * x.q (x.lo + (↑y : Int).toNat) % (18446744073709551616 : Int)) < two128) ∧ (((x.k (x.lo + (↑y : Int).toNat) = x.k (x.lo + (↑y : Int).toNat) ∧ x.q (x.lo + (↑y : Int).toNat) = x.q (x.lo + (↑y
  : Int).toNat) ∧ x.t (x.lo + (↑y : Int).toNat) = x.t (x.lo + (↑y : Int).toNat) ∧ True) ∧ True) ∧ True) ∧ rightE (x.k (x.lo + (↑y : Int).toNat)) (x.q (x.lo + (↑y : Int).toNat)) (x.t (x.lo + (↑y : Int).toNat)) ∧ (((wN ((if
  x.t (x.lo + (↑y : Int).toNat) = (0 : Int) then (0 : Int) else wN (x.l.prod x.len / (18446744073709551616 : Int)) (x.l.prod x.len % (18446744073709551616 : Int)) / x.t (x.lo + (↑y : Int).toNat)) / (18446744073709551616 :
  Int)) ((if x.t (x.lo + (↑y : Int).toNat) = (0 : Int) then (0 : Int) else wN (x.l.prod x.len / (18446744073709551616 : Int)) (x.l.prod x.len % (18446744073709551616 : Int)) / x.t (x.lo + (↑y : Int).toNat)) %
  (18446744073709551616 : Int)) * x.q (x.lo + (↑y : Int).toNat) / (18446744073709551616 : Int) = wN ((if x.t (x.lo + (↑y : Int).toNat) = (0 : Int) then (0 : Int) else wN (x.l.prod x.len / (18446744073709551616 : Int))
  (x.l.prod x.len % (18446744073709551616 : Int)) / x.t (x.lo + (↑y : Int).toNat)) / (18446744073709551616 : Int)) ((if x.t (x.lo + (↑y : Int).toNat) = (0 : Int) then (0 : Int) else wN (x.l.prod x.len /
  (18446744073709551616 : Int)) (x.l.prod x.len % (18446744073709551616 : Int)) / x.t (x.lo + (↑y : Int).toNat)) % (18446744073709551616 : Int)) * x.q (x.lo + (↑y : Int).toNat) / (18446744073709551616 : Int) ∧ wN ((if x.t
  (x.lo + (↑y : Int).toNat) = (0 : Int) then (0 : Int) else wN (x.l.prod x.len / (18446744073709551616 : Int)) (x.l.prod x.len % (18446744073709551616 : Int)) / x.t (x.lo + (↑y : Int).toNat)) / (18446744073709551616 :
  Int)) ((if x.t (x.lo + (↑y : Int).toNat) = (0 : Int) then (0 : Int) else wN (x.l.prod x.len / (18446744073709551616 : Int)) (x.l.prod x.len % (18446744073709551616 : Int)) / x.t (x.lo + (↑y : Int).toNat)) %
  (18446744073709551616 : Int)) * x.q (x.lo + (↑y : Int).toNat) % (18446744073709551616 : Int) = wN ((if x.t (x.lo + (↑y : Int).toNat) = (0 : Int) then (0 : Int) else wN (x.l.prod x.len / (18446744073709551616 : Int))
  (x.l.prod x.len % (18446744073709551616 : Int)) / x.t (x.lo + (↑y : Int).toNat)) / (18446744073709551616 : Int)) ((if x.t (x.lo + (↑y : Int).toNat) = (0 : Int) then (0 : Int) else wN (x.l.prod x.len /
  (18446744073709551616 : Int)) (x.l.prod x.len % (18446744073709551616 : Int)) / x.t (x.lo + (↑y : Int).toNat)) % (18446744073709551616 : Int)) * x.q (x.lo + (↑y : Int).toNat) % (18446744073709551616 : Int) ∧ True) ∧ ((if
  x.k (x.lo + (↑y : Int).toNat) = (1 : Int) then (0 : Int) else x.t (x.lo + (↑y : Int).toNat) - x.q (x.lo + (↑y : Int).toNat)) = if x.k (x.lo + (↑y : Int).toNat) = (1 : Int) then (0 : Int) else x.t (x.lo + (↑y :
  Int).toNat) - x.q (x.lo + (↑y : Int).toNat)) ∧ True) ∧ True) ∧ ((((0 : Int) ≤ wN ((if x.t (x.lo + (↑y : Int).toNat) = (0 : Int) then (0 : Int) else wN (x.l.prod x.len / (18446744073709551616 : Int)) (x.l.prod x.len %
  (18446744073709551616 : Int)) / x.t (x.lo + (↑y : Int).toNat)) / (18446744073709551616 : Int)) ((if x.t (x.lo + (↑y : Int).toNat) = (0 : Int) then (0 : Int) else wN (x.l.prod x.len / (18446744073709551616 : Int))
  (x.l.prod x.len % (18446744073709551616 : Int)) / x.t (x.lo + (↑y : Int).toNat)) % (18446744073709551616 : Int)) * x.q (x.lo + (↑y : Int).toNat) / (18446744073709551616 : Int) ∧ wN ((if x.t (x.lo + (↑y : Int).toNat) = (0
  : Int) then (0 : Int) else wN (x.l.prod x.len / (18446744073709551616 : Int)) (x.l.prod x.len % (18446744073709551616 : Int)) / x.t (x.lo + (↑y : Int).toNat)) / (18446744073709551616 : Int)) ((if x.t (x.lo + (↑y :
  Int).toNat) = (0 : Int) then (0 : Int) else wN (x.l.prod x.len / (18446744073709551616 : Int)) (x.l.prod x.len % (18446744073709551616 : Int)) / x.t (x.lo + (↑y : Int).toNat)) % (18446744073709551616 : Int)) * x.q (x.lo
  + (↑y : Int).toNat) / (18446744073709551616 : Int) < (18446744073709551616 : Int)) ∧ (0 : Int) ≤ wN ((if x.t (x.lo + (↑y : Int).toNat) = (0 : Int) then (0 : Int) else wN (x.l.prod x.len / (18446744073709551616 : Int))
  (x.l.prod x.len % (18446744073709551616 : Int)) / x.t (x.lo + (↑y : Int).toNat)) / (18446744073709551616 : Int)) ((if x.t (x.lo + (↑y : Int).toNat) = (0 : Int) then (0 : Int) else wN (x.l.prod x.len /
  (18446744073709551616 : Int)) (x.l.prod x.len % (18446744073709551616 : Int)) / x.t (x.lo + (↑y : Int).toNat)) % (18446744073709551616 : Int)) * x.q (x.lo + (↑y : Int).toNat) % (18446744073709551616 : Int) ∧ wN ((if x.t
  (x.lo + (↑y : Int).toNat) = (0 : Int) then (0 : Int) else wN (x.l.prod x.len / (18446744073709551616 : Int)) (x.l.prod x.len % (18446744073709551616 : Int)) / x.t (x.lo + (↑y : Int).toNat)) / (18446744073709551616 :
  Int)) ((if x.t (x.lo + (↑y : Int).toNat) = (0 : Int) then (0 : Int) else wN (x.l.prod x.len / (18446744073709551616 : Int)) (x.l.prod x.len % (18446744073709551616 : Int)) / x.t (x.lo + (↑y : Int).toNat)) %
  (18446744073709551616 : Int)) * x.q (x.lo + (↑y : Int).toNat) % (18446744073709551616 : Int) < (18446744073709551616 : Int)) ∧ (((0 : Int) ≤ if x.k (x.lo + (↑y : Int).toNat) = (1 : Int) then (0 : Int) else x.t (x.lo +
  (↑y : Int).toNat) - x.q (x.lo + (↑y : Int).toNat)) ∧ (if x.k (x.lo + (↑y : Int).toNat) = (1 : Int) then (0 : Int) else x.t (x.lo + (↑y : Int).toNat) - x.q (x.lo + (↑y : Int).toNat)) < (18446744073709551616 : Int)) ∧ (wN
  (wN ((if x.t (x.lo + (↑y : Int).toNat) = (0 : Int) then (0 : Int) else wN (x.l.prod x.len / (18446744073709551616 : Int)) (x.l.prod x.len % (18446744073709551616 : Int)) / x.t (x.lo + (↑y : Int).toNat)) /
  (18446744073709551616 : Int)) ((if x.t (x.lo + (↑y : Int).toNat) = (0 : Int) then (0 : Int) else wN (x.l.prod x.len / (18446744073709551616 : Int)) (x.l.prod x.len % (18446744073709551616 : Int)) / x.t (x.lo + (↑y :
  Int).toNat)) % (18446744073709551616 : Int)) * x.q (x.lo + (↑y : Int).toNat) / (18446744073709551616 : Int)) (wN ((if x.t (x.lo + (↑y : Int).toNat) = (0 : Int) then (0 : Int) else wN (x.l.prod x.len /
  (18446744073709551616 : Int)) (x.l.prod x.len % (18446744073709551616 : Int)) / x.t (x.lo + (↑y : Int).toNat)) / (18446744073709551616 : Int)) ((if x.t (x.lo + (↑y : Int).toNat) = (0 : Int) then (0 : Int) else wN
  (x.l.prod x.len / (18446744073709551616 : Int)) (x.l.prod x.len % (18446744073709551616 : Int)) / x.t (x.lo + (↑y : Int).toNat)) % (18446744073709551616 : Int)) * x.q (x.lo + (↑y : Int).toNat) % (18446744073709551616 :
  Int)) * if x.k (x.lo + (↑y : Int).toNat) = (1 : Int) then (0 : Int) else x.t (x.lo + (↑y : Int).toNat) - x.q (x.lo + (↑y : Int).toNat)) < two128) ∧ (((x.l.slk (x.l.prod x.len) y / (18446744073709551616 : Int) = x.l.slk
  (x.l.prod x.len) y / (18446744073709551616 : Int) ∧ x.l.slk (x.l.prod x.len) y % (18446744073709551616 : Int) = x.l.slk (x.l.prod x.len) y % (18446744073709551616 : Int) ∧ True) ∧ ((wN (wN ((if x.t (x.lo + (↑y :
  Int).toNat) = (0 : Int) then (0 : Int) else wN (x.l.prod x.len / (18446744073709551616 : Int)) (x.l.prod x.len % (18446744073709551616 : Int)) / x.t (x.lo + (↑y : Int).toNat)) / (18446744073709551616 : Int)) ((if x.t
  (x.lo + (↑y : Int).toNat) = (0 : Int) then (0 : Int) else wN (x.l.prod x.len / (18446744073709551616 : Int)) (x.l.prod x.len % (18446744073709551616 : Int)) / x.t (x.lo + (↑y : Int).toNat)) % (18446744073709551616 :
  Int)) * x.q (x.lo + (↑y : Int).toNat) / (18446744073709551616 : Int)) (wN ((if x.t (x.lo + (↑y : Int).toNat) = (0 : Int) then (0 : Int) else wN (x.l.prod x.len / (18446744073709551616 : Int)) (x.l.prod x.len %
  (18446744073709551616 : Int)) / x.t (x.lo + (↑y : Int).toNat)) / (18446744073709551616 : Int)) ((if x.t (x.lo + (↑y : Int).toNat) = (0 : Int) then (0 : Int) else wN (x.l.prod x.len / (18446744073709551616 : Int))
  (x.l.prod x.len % (18446744073709551616 : Int)) / x.t (x.lo + (↑y : Int).toNat)) % (18446744073709551616 : Int)) * x.q (x.lo + (↑y : Int).toNat) % (18446744073709551616 : Int)) * if x.k (x.lo + (↑y : Int).toNat) = (1 :
  Int) then (0 : Int) else x.t (x.lo + (↑y : Int).toNat) - x.q (x.lo + (↑y : Int).toNat)) / (18446744073709551616 : Int) = (wN (wN ((if x.t (x.lo + (↑y : Int).toNat) = (0 : Int) then (0 : Int) else wN (x.l.prod x.len /
  (18446744073709551616 : Int)) (x.l.prod x.len % (18446744073709551616 : Int)) / x.t (x.lo + (↑y : Int).toNat)) / (18446744073709551616 : Int)) ((if x.t (x.lo + (↑y : Int).toNat) = (0 : Int) then (0 : Int) else wN
  (x.l.prod x.len / (18446744073709551616 : Int)) (x.l.prod x.len % (18446744073709551616 : Int)) / x.t (x.lo + (↑y : Int).toNat)) % (18446744073709551616 : Int)) * x.q (x.lo + (↑y : Int).toNat) / (18446744073709551616 :
  Int)) (wN ((if x.t (x.lo + (↑y : Int).toNat) = (0 : Int) then (0 : Int) else wN (x.l.prod x.len / (18446744073709551616 : Int)) (x.l.prod x.len % (18446744073709551616 : Int)) / x.t (x.lo + (↑y : Int).toNat)) /
  (18446744073709551616 : Int)) ((if x.t (x.lo + (↑y : Int).toNat) = (0 : Int) then (0 : Int) else wN (x.l.prod x.len / (18446744073709551616 : Int)) (x.l.prod x.len % (18446744073709551616 : Int)) / x.t (x.lo + (↑y :
  Int).toNat)) % (18446744073709551616 : Int)) * x.q (x.lo + (↑y : Int).toNat) % (18446744073709551616 : Int)) * if x.k (x.lo + (↑y : Int).toNat) = (1 : Int) then (0 : Int) else x.t (x.lo + (↑y : Int).toNat) - x.q (x.lo +
  (↑y : Int).toNat)) / (18446744073709551616 : Int) ∧ (wN (wN ((if x.t (x.lo + (↑y : Int).toNat) = (0 : Int) then (0 : Int) else wN (x.l.prod x.len / (18446744073709551616 : Int)) (x.l.prod x.len % (18446744073709551616 :
  Int)) / x.t (x.lo + (↑y : Int).toNat)) / (18446744073709551616 : Int)) ((if x.t (x.lo + (↑y : Int).toNat) = (0 : Int) then (0 : Int) else wN (x.l.prod x.len / (18446744073709551616 : Int)) (x.l.prod x.len %
  (18446744073709551616 : Int)) / x.t (x.lo + (↑y : Int).toNat)) % (18446744073709551616 : Int)) * x.q (x.lo + (↑y : Int).toNat) / (18446744073709551616 : Int)) (wN ((if x.t (x.lo + (↑y : Int).toNat) = (0 : Int) then (0 :
  Int) else wN (x.l.prod x.len / (18446744073709551616 : Int)) (x.l.prod x.len % (18446744073709551616 : Int)) / x.t (x.lo + (↑y : Int).toNat)) / (18446744073709551616 : Int)) ((if x.t (x.lo + (↑y : Int).toNat) = (0 : Int)
  then (0 : Int) else wN (x.l.prod x.len / (18446744073709551616 : Int)) (x.l.prod x.len % (18446744073709551616 : Int)) / x.t (x.lo + (↑y : Int).toNat)) % (18446744073709551616 : Int)) * x.q (x.lo + (↑y : Int).toNat) %
  (18446744073709551616 : Int)) * if x.k (x.lo + (↑y : Int).toNat) = (1 : Int) then (0 : Int) else x.t (x.lo + (↑y : Int).toNat) - x.q (x.lo + (↑y : Int).toNat)) % (18446744073709551616 : Int) = (wN (wN ((if x.t (x.lo +
  (↑y : Int).toNat) = (0 : Int) then (0 : Int) else wN (x.l.prod x.len / (18446744073709551616 : Int)) (x.l.prod x.len % (18446744073709551616 : Int)) / x.t (x.lo + (↑y : Int).toNat)) / (18446744073709551616 : Int)) ((if
  x.t (x.lo + (↑y : Int).toNat) = (0 : Int) then (0 : Int) else wN (x.l.prod x.len / (18446744073709551616 : Int)) (x.l.prod x.len % (18446744073709551616 : Int)) / x.t (x.lo + (↑y : Int).toNat)) % (18446744073709551616 :
  Int)) * x.q (x.lo + (↑y : Int).toNat) / (18446744073709551616 : Int)) (wN ((if x.t (x.lo + (↑y : Int).toNat) = (0 : Int) then (0 : Int) else wN (x.l.prod x.len / (18446744073709551616 : Int)) (x.l.prod x.len %
  (18446744073709551616 : Int)) / x.t (x.lo + (↑y : Int).toNat)) / (18446744073709551616 : Int)) ((if x.t (x.lo + (↑y : Int).toNat) = (0 : Int) then (0 : Int) else wN (x.l.prod x.len / (18446744073709551616 : Int))
  (x.l.prod x.len % (18446744073709551616 : Int)) / x.t (x.lo + (↑y : Int).toNat)) % (18446744073709551616 : Int)) * x.q (x.lo + (↑y : Int).toNat) % (18446744073709551616 : Int)) * if x.k (x.lo + (↑y : Int).toNat) = (1 :
  Int) then (0 : Int) else x.t (x.lo + (↑y : Int).toNat) - x.q (x.lo + (↑y : Int).toNat)) % (18446744073709551616 : Int) ∧ True) ∧ True) ∧ True) ∧ (((((0 : Int) ≤ x.l.slk (x.l.prod x.len) y / (18446744073709551616 : Int) ∧
  x.l.slk (x.l.prod x.len) y / (18446744073709551616 : Int) < (18446744073709551616 : Int)) ∧ (0 : Int) ≤ x.l.slk (x.l.prod x.len) y % (18446744073709551616 : Int) ∧ x.l.slk (x.l.prod x.len) y % (18446744073709551616 :
  Int) < (18446744073709551616 : Int)) ∧ ((0 : Int) ≤ (wN (wN ((if x.t (x.lo + (↑y : Int).toNat) = (0 : Int) then (0 : Int) else wN (x.l.prod x.len / (18446744073709551616 : Int)) (x.l.prod x.len % (18446744073709551616 :
  Int)) / x.t (x.lo + (↑y : Int).toNat)) / (18446744073709551616 : Int)) ((if x.t (x.lo + (↑y : Int).toNat) = (0 : Int) then (0 : Int) else wN (x.l.prod x.len / (18446744073709551616 : Int)) (x.l.prod x.len %
  (18446744073709551616 : Int)) / x.t (x.lo + (↑y : Int).toNat)) % (18446744073709551616 : Int)) * x.q (x.lo + (↑y : Int).toNat) / (18446744073709551616 : Int)) (wN ((if x.t (x.lo + (↑y : Int).toNat) = (0 : Int) then (0 :
  Int) else wN (x.l.prod x.len / (18446744073709551616 : Int)) (x.l.prod x.len % (18446744073709551616 : Int)) / x.t (x.lo + (↑y : Int).toNat)) / (18446744073709551616 : Int)) ((if x.t (x.lo + (↑y : Int).toNat) = (0 : Int)
  then (0 : Int) else wN (x.l.prod x.len / (18446744073709551616 : Int)) (x.l.prod x.len % (18446744073709551616 : Int)) / x.t (x.lo + (↑y : Int).toNat)) % (18446744073709551616 : Int)) * x.q (x.lo + (↑y : Int).toNat) %
  (18446744073709551616 : Int)) * if x.k (x.lo + (↑y : Int).toNat) = (1 : Int) then (0 : Int) else x.t (x.lo + (↑y : Int).toNat) - x.q (x.lo + (↑y : Int).toNat)) / (18446744073709551616 : Int) ∧ (wN (wN ((if x.t (x.lo +
  (↑y : Int).toNat) = (0 : Int) then (0 : Int) else wN (x.l.prod x.len / (18446744073709551616 : Int)) (x.l.prod x.len % (18446744073709551616 : Int)) / x.t (x.lo + (↑y : Int).toNat)) / (18446744073709551616 : Int)) ((if
  x.t (x.lo + (↑y : Int).toNat) = (0 : Int) then (0 : Int) else wN (x.l.prod x.len / (18446744073709551616 : Int)) (x.l.prod x.len % (18446744073709551616 : Int)) / x.t (x.lo + (↑y : Int).toNat)) % (18446744073709551616 :
  Int)) * x.q (x.lo + (↑y : Int).toNat) / (18446744073709551616 : Int)) (wN ((if x.t (x.lo + (↑y : Int).toNat) = (0 : Int) then (0 : Int) else wN (x.l.prod x.len / (18446744073709551616 : Int)) (x.l.prod x.len %
  (18446744073709551616 : Int)) / x.t (x.lo + (↑y : Int).toNat)) / (18446744073709551616 : Int)) ((if x.t (x.lo + (↑y : Int).toNat) = (0 : Int) then (0 : Int) else wN (x.l.prod x.len / (18446744073709551616 : Int))
  (x.l.prod x.len % (18446744073709551616 : Int)) / x.t (x.lo + (↑y : Int).toNat)) % (18446744073709551616 : Int)) * x.q (x.lo + (↑y : Int).toNat) % (18446744073709551616 : Int)) * if x.k (x.lo + (↑y : Int).toNat) = (1 :
  Int) then (0 : Int) else x.t (x.lo + (↑y : Int).toNat) - x.q (x.lo + (↑y : Int).toNat)) / (18446744073709551616 : Int) < (18446744073709551616 : Int)) ∧ (0 : Int) ≤ (wN (wN ((if x.t (x.lo + (↑y : Int).toNat) = (0 : Int)
  then (0 : Int) else wN (x.l.prod x.len / (18446744073709551616 : Int)) (x.l.prod x.len % (18446744073709551616 : Int)) / x.t (x.lo + (↑y : Int).toNat)) / (18446744073709551616 : Int)) ((if x.t (x.lo + (↑y : Int).toNat) =
  (0 : Int) then (0 : Int) else wN (x.l.prod x.len / (18446744073709551616 : Int)) (x.l.prod x.len % (18446744073709551616 : Int)) / x.t (x.lo + (↑y : Int).toNat)) % (18446744073709551616 : Int)) * x.q (x.lo + (↑y :
  Int).toNat) / (18446744073709551616 : Int)) (wN ((if x.t (x.lo + (↑y : Int).toNat) = (0 : Int) then (0 : Int) else wN (x.l.prod x.len / (18446744073709551616 : Int)) (x.l.prod x.len % (18446744073709551616 : Int)) / x.t
  (x.lo + (↑y : Int).toNat)) / (18446744073709551616 : Int)) ((if x.t (x.lo + (↑y : Int).toNat) = (0 : Int) then (0 : Int) else wN (x.l.prod x.len / (18446744073709551616 : Int)) (x.l.prod x.len % (18446744073709551616 :
  Int)) / x.t (x.lo + (↑y : Int).toNat)) % (18446744073709551616 : Int)) * x.q (x.lo + (↑y : Int).toNat) % (18446744073709551616 : Int)) * if x.k (x.lo + (↑y : Int).toNat) = (1 : Int) then (0 : Int) else x.t (x.lo + (↑y :
  Int).toNat) - x.q (x.lo + (↑y : Int).toNat)) % (18446744073709551616 : Int) ∧ (wN (wN ((if x.t (x.lo + (↑y : Int).toNat) = (0 : Int) then (0 : Int) else wN (x.l.prod x.len / (18446744073709551616 : Int)) (x.l.prod x.len
  % (18446744073709551616 : Int)) / x.t (x.lo + (↑y : Int).toNat)) / (18446744073709551616 : Int)) ((if x.t (x.lo + (↑y : Int).toNat) = (0 : Int) then (0 : Int) else wN (x.l.prod x.len / (18446744073709551616 : Int))
  (x.l.prod x.len % (18446744073709551616 : Int)) / x.t (x.lo + (↑y : Int).toNat)) % (18446744073709551616 : Int)) * x.q (x.lo + (↑y : Int).toNat) / (18446744073709551616 : Int)) (wN ((if x.t (x.lo + (↑y : Int).toNat) = (0
  : Int) then (0 : Int) else wN (x.l.prod x.len / (18446744073709551616 : Int)) (x.l.prod x.len % (18446744073709551616 : Int)) / x.t (x.lo + (↑y : Int).toNat)) / (18446744073709551616 : Int)) ((if x.t (x.lo + (↑y :
  Int).toNat) = (0 : Int) then (0 : Int) else wN (x.l.prod x.len / (18446744073709551616 : Int)) (x.l.prod x.len % (18446744073709551616 : Int)) / x.t (x.lo + (↑y : Int).toNat)) % (18446744073709551616 : Int)) * x.q (x.lo
  + (↑y : Int).toNat) % (18446744073709551616 : Int)) * if x.k (x.lo + (↑y : Int).toNat) = (1 : Int) then (0 : Int) else x.t (x.lo + (↑y : Int).toNat) - x.q (x.lo + (↑y : Int).toNat)) % (18446744073709551616 : Int) <
  (18446744073709551616 : Int)) ∧ wN (x.l.slk (x.l.prod x.len) y / (18446744073709551616 : Int)) (x.l.slk (x.l.prod x.len) y % (18446744073709551616 : Int)) + wN ((wN (wN ((if x.t (x.lo + (↑y : Int).toNat) = (0 : Int) then
  (0 : Int) else wN (x.l.prod x.len / (18446744073709551616 : Int)) (x.l.prod x.len % (18446744073709551616 : Int)) / x.t (x.lo + (↑y : Int).toNat)) / (18446744073709551616 : Int)) ((if x.t (x.lo + (↑y : Int).toNat) = (0 :
  Int) then (0 : Int) else wN (x.l.prod x.len / (18446744073709551616 : Int)) (x.l.prod x.len % (18446744073709551616 : Int)) / x.t (x.lo + (↑y : Int).toNat)) % (18446744073709551616 : Int)) * x.q (x.lo + (↑y : Int).toNat)
  / (18446744073709551616 : Int)) (wN ((if x.t (x.lo + (↑y : Int).toNat) = (0 : Int) then (0 : Int) else wN (x.l.prod x.len / (18446744073709551616 : Int)) (x.l.prod x.len % (18446744073709551616 : Int)) / x.t (x.lo + (↑y
  : Int).toNat)) / (18446744073709551616 : Int)) ((if x.t (x.lo + (↑y : Int).toNat) = (0 : Int) then (0 : Int) else wN (x.l.prod x.len / (18446744073709551616 : Int)) (x.l.prod x.len % (18446744073709551616 : Int)) / x.t
  (x.lo + (↑y : Int).toNat)) % (18446744073709551616 : Int)) * x.q (x.lo + (↑y : Int).toNat) % (18446744073709551616 : Int)) * if x.k (x.lo + (↑y : Int).toNat) = (1 : Int) then (0 : Int) else x.t (x.lo + (↑y : Int).toNat)
  - x.q (x.lo + (↑y : Int).toNat)) / (18446744073709551616 : Int)) ((wN (wN ((if x.t (x.lo + (↑y : Int).toNat) = (0 : Int) then (0 : Int) else wN (x.l.prod x.len / (18446744073709551616 : Int)) (x.l.prod x.len %
  (18446744073709551616 : Int)) / x.t (x.lo + (↑y : Int).toNat)) / (18446744073709551616 : Int)) ((if x.t (x.lo + (↑y : Int).toNat) = (0 : Int) then (0 : Int) else wN (x.l.prod x.len / (18446744073709551616 : Int))
  (x.l.prod x.len % (18446744073709551616 : Int)) / x.t (x.lo + (↑y : Int).toNat)) % (18446744073709551616 : Int)) * x.q (x.lo + (↑y : Int).toNat) / (18446744073709551616 : Int)) (wN ((if x.t (x.lo + (↑y : Int).toNat) = (0
  : Int) then (0 : Int) else wN (x.l.prod x.len / (18446744073709551616 : Int)) (x.l.prod x.len % (18446744073709551616 : Int)) / x.t (x.lo + (↑y : Int).toNat)) / (18446744073709551616 : Int)) ((if x.t (x.lo + (↑y :
  Int).toNat) = (0 : Int) then (0 : Int) else wN (x.l.prod x.len / (18446744073709551616 : Int)) (x.l.prod x.len % (18446744073709551616 : Int)) / x.t (x.lo + (↑y : Int).toNat)) % (18446744073709551616 : Int)) * x.q (x.lo
  + (↑y : Int).toNat) % (18446744073709551616 : Int)) * if x.k (x.lo + (↑y : Int).toNat) = (1 : Int) then (0 : Int) else x.t (x.lo + (↑y : Int).toNat) - x.q (x.lo + (↑y : Int).toNat)) % (18446744073709551616 : Int)) <
  two128) ∧ ∃ (y_1 : Nat), (sumF2 x).I y_1 ∧ (((True ∧ True) ∧ (True ∧ True) ∧ ((x.nil = true → x.nil = true) ∧ (x.nil = false → x.nil = false ∧ True ∧ True ∧ x.lo = x.lo ∧ x.len = x.len ∧ x.cap = x.cap)) ∧ (↑x.len : Int)
  = (↑x.len : Int) ∧ IntKind.i64.wrap ((↑y : Int) + (1 : Int)) = (↑y_1 : Int) ∧ True) ∧ ((0 : Nat) ≤ (0 : Nat) ∧ x.n = x.n ∧ ∀ (j : Nat), j < x.n → x.k j = x.k j ∧ x.q j = x.q j ∧ x.t j = x.t j ∧ True) ∧ ((6 : Nat) ≤ (6 :
  Nat) ∧ ((0 / 18446744073709551616 : Int) = (0 / 18446744073709551616 : Int) ∧ (0 : Int) % (18446744073709551616 : Int) = (0 : Int) % (18446744073709551616 : Int) ∧ True) ∧ ((0 / 18446744073709551616 : Int) = (0 /
  18446744073709551616 : Int) ∧ (0 : Int) % (18446744073709551616 : Int) = (0 : Int) % (18446744073709551616 : Int) ∧ True) ∧ ((0 / 18446744073709551616 : Int) = (0 / 18446744073709551616 : Int) ∧ (0 : Int) %
  (18446744073709551616 : Int) = (0 : Int) % (18446744073709551616 : Int) ∧ True) ∧ True) ∧ ((6 : Nat) ≤ (6 : Nat) ∧ (x.l.prod x.len / (18446744073709551616 : Int) = x.l.prod x.len / (18446744073709551616 : Int) ∧ x.l.prod
  x.len % (18446744073709551616 : Int) = x.l.prod x.len % (18446744073709551616 : Int) ∧ True) ∧ ((wN (x.l.use (x.l.prod x.len) y / (18446744073709551616 : Int)) (x.l.use (x.l.prod x.len) y % (18446744073709551616 : Int))
  + wN (wN ((if x.t (x.lo + (↑y : Int).toNat) = (0 : Int) then (0 : Int) else wN (x.l.prod x.len / (18446744073709551616 : Int)) (x.l.prod x.len % (18446744073709551616 : Int)) / x.t (x.lo + (↑y : Int).toNat)) /
  (18446744073709551616 : Int)) ((if x.t (x.lo + (↑y : Int).toNat) = (0 : Int) then (0 : Int) else wN (x.l.prod x.len / (18446744073709551616 : Int)) (x.l.prod x.len % (18446744073709551616 : Int)) / x.t (x.lo + (↑y :
  Int).toNat)) % (18446744073709551616 : Int)) * x.q (x.lo + (↑y : Int).toNat) / (18446744073709551616 : Int)) (wN ((if x.t (x.lo + (↑y : Int).toNat) = (0 : Int) then (0 : Int) else wN (x.l.prod x.len /
  (18446744073709551616 : Int)) (x.l.prod x.len % (18446744073709551616 : Int)) / x.t (x.lo + (↑y : Int).toNat)) / (18446744073709551616 : Int)) ((if x.t (x.lo + (↑y : Int).toNat) = (0 : Int) then (0 : Int) else wN
  (x.l.prod x.len / (18446744073709551616 : Int)) (x.l.prod x.len % (18446744073709551616 : Int)) / x.t (x.lo + (↑y : Int).toNat)) % (18446744073709551616 : Int)) * x.q (x.lo + (↑y : Int).toNat) % (18446744073709551616 :
  Int))) / (18446744073709551616 : Int) = x.l.use (x.l.prod x.len) y_1 / (18446744073709551616 : Int) ∧ (wN (x.l.use (x.l.prod x.len) y / (18446744073709551616 : Int)) (x.l.use (x.l.prod x.len) y % (18446744073709551616 :
  Int)) + wN (wN ((if x.t (x.lo + (↑y : Int).toNat) = (0 : Int) then (0 : Int) else wN (x.l.prod x.len / (18446744073709551616 : Int)) (x.l.prod x.len % (18446744073709551616 : Int)) / x.t (x.lo + (↑y : Int).toNat)) /
  (18446744073709551616 : Int)) ((if x.t (x.lo + (↑y : Int).toNat) = (0 : Int) then (0 : Int) else wN (x.l.prod x.len / (18446744073709551616 : Int)) (x.l.prod x.len % (18446744073709551616 : Int)) / x.t (x.lo + (↑y :
  Int).toNat)) % (18446744073709551616 : Int)) * x.q (x.lo + (↑y : Int).toNat) / (18446744073709551616 : Int)) (wN ((if x.t (x.lo + (↑y : Int).toNat) = (0 : Int) then (0 : Int) else wN (x.l.prod x.len /
  (18446744073709551616 : Int)) (x.l.prod x.len % (18446744073709551616 : Int)) / x.t (x.lo + (↑y : Int).toNat)) / (18446744073709551616 : Int)) ((if x.t (x.lo + (↑y : Int).toNat) = (0 : Int) then (0 : Int) else wN
  (x.l.prod x.len / (18446744073709551616 : Int)) (x.l.prod x.len % (18446744073709551616 : Int)) / x.t (x.lo + (↑y : Int).toNat)) % (18446744073709551616 : Int)) * x.q (x.lo + (↑y : Int).toNat) % (18446744073709551616 :
  Int))) % (18446744073709551616 : Int) = x.l.use (x.l.prod x.len) y_1 % (18446744073709551616 : Int) ∧ True) ∧ ((wN (x.l.slk (x.l.prod x.len) y / (18446744073709551616 : Int)) (x.l.slk (x.l.prod x.len) y %
  (18446744073709551616 : Int)) + wN ((wN (wN ((if x.t (x.lo + (↑y : Int).toNat) = (0 : Int) then (0 : Int) else wN (x.l.prod x.len / (18446744073709551616 : Int)) (x.l.prod x.len % (18446744073709551616 : Int)) / x.t
  (x.lo + (↑y : Int).toNat)) / (18446744073709551616 : Int)) ((if x.t (x.lo + (↑y : Int).toNat) = (0 : Int) then (0 : Int) else wN (x.l.prod x.len / (18446744073709551616 : Int)) (x.l.prod x.len % (18446744073709551616 :
  Int)) / x.t (x.lo + (↑y : Int).toNat)) % (18446744073709551616 : Int)) * x.q (x.lo + (↑y : Int).toNat) / (18446744073709551616 : Int)) (wN ((if x.t (x.lo + (↑y : Int).toNat) = (0 : Int) then (0 : Int) else wN (x.l.prod
  x.len / (18446744073709551616 : Int)) (x.l.prod x.len % (18446744073709551616 : Int)) / x.t (x.lo + (↑y : Int).toNat)) / (18446744073709551616 : Int)) ((if x.t (x.lo + (↑y : Int).toNat) = (0 : Int) then (0 : Int) else wN
  (x.l.prod x.len / (18446744073709551616 : Int)) (x.l.prod x.len % (18446744073709551616 : Int)) / x.t (x.lo + (↑y : Int).toNat)) % (18446744073709551616 : Int)) * x.q (x.lo + (↑y : Int).toNat) % (18446744073709551616 :
  Int)) * if x.k (x.lo + (↑y : Int).toNat) = (1 : Int) then (0 : Int) else x.t (x.lo + (↑y : Int).toNat) - x.q (x.lo + (↑y : Int).toNat)) / (18446744073709551616 : Int)) ((wN (wN ((if x.t (x.lo + (↑y : Int).toNat) = (0 :
  Int) then (0 : Int) else wN (x.l.prod x.len / (18446744073709551616 : Int)) (x.l.prod x.len % (18446744073709551616 : Int)) / x.t (x.lo + (↑y : Int).toNat)) / (18446744073709551616 : Int)) ((if x.t (x.lo + (↑y :
  Int).toNat) = (0 : Int) then (0 : Int) else wN (x.l.prod x.len / (18446744073709551616 : Int)) (x.l.prod x.len % (18446744073709551616 : Int)) / x.t (x.lo + (↑y : Int).toNat)) % (18446744073709551616 : Int)) * x.q (x.lo
  + (↑y : Int).toNat) / (18446744073709551616 : Int)) (wN ((if x.t (x.lo + (↑y : Int).toNat) = (0 : Int) then (0 : Int) else wN (x.l.prod x.len / (18446744073709551616 : Int)) (x.l.prod x.len % (18446744073709551616 :
  Int)) / x.t (x.lo + (↑y : Int).toNat)) / (18446744073709551616 : Int)) ((if x.t (x.lo + (↑y : Int).toNat) = (0 : Int) then (0 : Int) else wN (x.l.prod x.len / (18446744073709551616 : Int)) (x.l.prod x.len %
  (18446744073709551616 : Int)) / x.t (x.lo + (↑y : Int).toNat)) % (18446744073709551616 : Int)) * x.q (x.lo + (↑y : Int).toNat) % (18446744073709551616 : Int)) * if x.k (x.lo + (↑y : Int).toNat) = (1 : Int) then (0 : Int)
  else x.t (x.lo + (↑y : Int).toNat) - x.q (x.lo + (↑y : Int).toNat)) % (18446744073709551616 : Int))) / (18446744073709551616 : Int) = x.l.slk (x.l.prod x.len) y_1 / (18446744073709551616 : Int) ∧ (wN (x.l.slk (x.l.prod
  x.len) y / (18446744073709551616 : Int)) (x.l.slk (x.l.prod x.len) y % (18446744073709551616 : Int)) + wN ((wN (wN ((if x.t (x.lo + (↑y : Int).toNat) = (0 : Int) then (0 : Int) else wN (x.l.prod x.len /
  (18446744073709551616 : Int)) (x.l.prod x.len % (18446744073709551616 : Int)) / x.t (x.lo + (↑y : Int).toNat)) / (18446744073709551616 : Int)) ((if x.t (x.lo + (↑y : Int).toNat) = (0 : Int) then (0 : Int) else wN
  (x.l.prod x.len / (18446744073709551616 : Int)) (x.l.prod x.len % (18446744073709551616 : Int)) / x.t (x.lo + (↑y : Int).toNat)) % (18446744073709551616 : Int)) * x.q (x.lo + (↑y : Int).toNat) / (18446744073709551616 :
  Int)) (wN ((if x.t (x.lo + (↑y : Int).toNat) = (0 : Int) then (0 : Int) else wN (x.l.prod x.len / (18446744073709551616 : Int)) (x.l.prod x.len % (18446744073709551616 : Int)) / x.t (x.lo + (↑y : Int).toNat)) /
  (18446744073709551616 : Int)) ((if x.t (x.lo + (↑y : Int).toNat) = (0 : Int) then (0 : Int) else wN (x.l.prod x.len / (18446744073709551616 : Int)) (x.l.prod x.len % (18446744073709551616 : Int)) / x.t (x.lo + (↑y :
  Int).toNat)) % (18446744073709551616 : Int)) * x.q (x.lo + (↑y : Int).toNat) % (18446744073709551616 : Int)) * if x.k (x.lo + (↑y : Int).toNat) = (1 : Int) then (0 : Int) else x.t (x.lo + (↑y : Int).toNat) - x.q (x.lo +
  (↑y : Int).toNat)) / (18446744073709551616 : Int)) ((wN (wN ((if x.t (x.lo + (↑y : Int).toNat) = (0 : Int) then (0 : Int) else wN (x.l.prod x.len / (18446744073709551616 : Int)) (x.l.prod x.len % (18446744073709551616 :
  Int)) / x.t (x.lo + (↑y : Int).toNat)) / (18446744073709551616 : Int)) ((if x.t (x.lo + (↑y : Int).toNat) = (0 : Int) then (0 : Int) else wN (x.l.prod x.len / (18446744073709551616 : Int)) (x.l.prod x.len %
  (18446744073709551616 : Int)) / x.t (x.lo + (↑y : Int).toNat)) % (18446744073709551616 : Int)) * x.q (x.lo + (↑y : Int).toNat) / (18446744073709551616 : Int)) (wN ((if x.t (x.lo + (↑y : Int).toNat) = (0 : Int) then (0 :
  Int) else wN (x.l.prod x.len / (18446744073709551616 : Int)) (x.l.prod x.len % (18446744073709551616 : Int)) / x.t (x.lo + (↑y : Int).toNat)) / (18446744073709551616 : Int)) ((if x.t (x.lo + (↑y : Int).toNat) = (0 : Int)
  then (0 : Int) else wN (x.l.prod x.len / (18446744073709551616 : Int)) (x.l.prod x.len % (18446744073709551616 : Int)) / x.t (x.lo + (↑y : Int).toNat)) % (18446744073709551616 : Int)) * x.q (x.lo + (↑y : Int).toNat) %
  (18446744073709551616 : Int)) * if x.k (x.lo + (↑y : Int).toNat) = (1 : Int) then (0 : Int) else x.t (x.lo + (↑y : Int).toNat) - x.q (x.lo + (↑y : Int).toNat)) % (18446744073709551616 : Int))) % (18446744073709551616 :
  Int) = x.l.slk (x.l.prod x.len) y_1 % (18446744073709551616 : Int) ∧ True) ∧ True) ∧ True) ∧ (sumF2 x).μ y_1 < (sumF2 x).μ y) ∧ (decide ((↑y : Int) < (↑x.len : Int)) = false → x.Ok ∧ x.l.right → ((x.l.prod x.len /
  (18446744073709551616 : Int) = x.l.prod x.len / (18446744073709551616 : Int) ∧ x.l.prod x.len % (18446744073709551616 : Int) = x.l.prod x.len % (18446744073709551616 : Int) ∧ True) ∧ (x.l.use (x.l.prod x.len) y /
  (18446744073709551616 : Int) = x.l.use (x.l.prod x.len) x.len / (18446744073709551616 : Int) ∧ x.l.use (x.l.prod x.len) y % (18446744073709551616 : Int) = x.l.use (x.l.prod x.len) x.len % (18446744073709551616 : Int) ∧
  True) ∧ (x.l.slk (x.l.prod x.len) y / (18446744073709551616 : Int) = x.l.slk (x.l.prod x.len) x.len / (18446744073709551616 : Int) ∧ x.l.slk (x.l.prod x.len) y % (18446744073709551616 : Int) = x.l.slk (x.l.prod x.len)
  x.len % (18446744073709551616 : Int) ∧ True) ∧ True) ∧ True ∧ ((0 : Nat) ≤ (0 : Nat) ∧ x.n = x.n ∧ ∀ (j : Nat), j < x.n → x.k j = x.k j ∧ x.q j = x.q j ∧ x.t j = x.t j ∧ True) ∧ True)) := by
  simp only [true_and, and_true, eq_self, Nat.le_refl, decide_eq_true_eq, decide_eq_false_iff_not, implies_true, and_self, Int.not_lt, Int.toNat_natCast, IntKind.wrap_i64]
  rintro x ⟨⟨hnil, hlo⟩, hr⟩
  have hI1 : ∀ z : Nat, (sumF1 x).I z = (z ≤ x.len) := fun _ => rfl
  have hM1 : ∀ z : Nat, (sumF1 x).μ z = x.len - z := fun _ => rfl
  have hI2 : ∀ z : Nat, (sumF2 x).I z = (z ≤ x.len) := fun _ => rfl
  have hM2 : ∀ z : Nat, (sumF2 x).μ z = x.len - z := fun _ => rfl
  simp only [hI1, hM1, hI2, hM2, wNdm]
  have hW := LL.prod_le hr (Nat.le_refl x.len)
  have h8 : x.len ≤ 8 := hr.1
  unfold two128
  refine ⟨hnil, ⟨0, Nat.zero_le _, ⟨⟨id, id⟩, ⟨id, id⟩, rfl⟩, by decide, (show (0 : Int) = 1 / 18446744073709551616 ∧ (1 : Int) = 1 % 18446744073709551616 by decide), by decide⟩, fun y hy => ⟨fun hlt => ?_, fun hge => ?_⟩⟩
  · have h1 := LL.prod_le hr (show y ≤ x.len by omega)
    have h2 := LL.prod_le hr (show y + 1 ≤ x.len by omega)
    have hs : x.l.prod (y + 1) = x.l.prod y * x.t (x.lo + y) := rfl
    have hr1 : rightE (x.k (x.lo + y)) (x.q (x.lo + y)) (x.t (x.lo + y)) := hr.2 y (by show y < x.len; omega)
    unfold rightE at hr1
    rw [← hs]
    exact ⟨hnil, by omega, by omega, by omega, ⟨y + 1, by omega, ⟨⟨⟨id, id⟩, ⟨id, id⟩, by omega⟩, rfl, rfl⟩, by omega⟩⟩
  · have : y = x.len := by omega
    subst this
    refine ⟨hnil, ⟨0, Nat.zero_le _, ⟨⟨id, id⟩, rfl⟩, ⟨rfl, rfl⟩, ⟨rfl, rfl⟩, rfl, rfl⟩, fun y hy => ⟨fun hlt => ?_, fun hge => ?_⟩⟩
    · have hr0 : rightE (x.k (x.lo + y)) (x.q (x.lo + y)) (x.t (x.lo + y)) := hr.2 y (by show y < x.len; omega)
      have hr1 := hr0
      unfold rightE at hr1
      have ht : ¬ x.t (x.lo + y) = 0 := by omega
      simp only [if_neg ht]
      have hw0 : 0 ≤ x.l.prod x.len := by omega
      have hu := LL.use_bd hr hw0 y (by show y ≤ x.len; omega)
      have hu1 := LL.use_bd hr hw0 (y + 1) (by show y + 1 ≤ x.len; omega)
      have ho := LL.one_bd hr hw0 (show y < x.len by omega)
      have hs1 : x.l.use (x.l.prod x.len) (y + 1) = x.l.use (x.l.prod x.len) y + x.l.prod x.len / x.t (x.lo + y) * x.q (x.lo + y) := rfl
      have hs2 : x.l.slk (x.l.prod x.len) (y + 1) = x.l.slk (x.l.prod x.len) y + x.l.prod x.len / x.t (x.lo + y) * x.q (x.lo + y) * x.l.sl y := rfl
      have e0 : (if x.k (x.lo + y) = 1 then 0 else x.t (x.lo + y) - x.q (x.lo + y)) = x.l.sl y := rfl
      have ho : (0 ≤ x.l.prod x.len / x.t (x.lo + y) ∧ x.l.prod x.len / x.t (x.lo + y) ≤ x.l.prod x.len) ∧ (0 ≤ x.l.prod x.len / x.t (x.lo + y) * x.q (x.lo + y) ∧ x.l.prod x.len / x.t (x.lo + y) * x.q (x.lo + y) ≤ x.l.prod x.len) ∧ (0 ≤ x.l.sl y ∧ x.l.sl y ≤ 8191) ∧ 0 ≤ x.l.prod x.len / x.t (x.lo + y) * x.q (x.lo + y) * x.l.sl y ∧ x.l.prod x.len / x.t (x.lo + y) * x.q (x.lo + y) * x.l.sl y ≤ x.l.prod x.len * 8191 := ho
      have m1 : ((y + 1 : Nat) : Int) * x.l.prod x.len ≤ 8 * x.l.prod x.len := Int.mul_le_mul_of_nonneg_right (by omega) hw0
      have m2 : ((y + 1 : Nat) : Int) * (x.l.prod x.len * 8191) ≤ 8 * (x.l.prod x.len * 8191) := Int.mul_le_mul_of_nonneg_right (by omega) (by omega)
      simp only [e0]
      generalize x.l.prod x.len / x.t (x.lo + y) * x.q (x.lo + y) * x.l.sl y = b at *
      generalize x.l.prod x.len / x.t (x.lo + y) * x.q (x.lo + y) = a at *
      generalize x.l.prod x.len / x.t (x.lo + y) = o at *
      generalize hU : x.l.use (x.l.prod x.len) = U at *
      generalize hS : x.l.slk (x.l.prod x.len) = S at *
      generalize x.l.prod x.len = W at *
      rw [← hs1, ← hs2]
      have last : ∃ y_1, y_1 ≤ x.len ∧ ((((x.nil = true → x.nil = true) ∧ (x.nil = false → x.nil = false)) ∧ ((y : Int) + 1 + 9223372036854775808) % 18446744073709551616 - 9223372036854775808 = (y_1 : Nat)) ∧ (U (y + 1) / 18446744073709551616 = U y_1 / 18446744073709551616 ∧ U (y + 1) % 18446744073709551616 = U y_1 % 18446744073709551616) ∧ S (y + 1) / 18446744073709551616 = S y_1 / 18446744073709551616 ∧ S (y + 1) % 18446744073709551616 = S y_1 % 18446744073709551616) ∧ x.len - y_1 < x.len - y := ⟨y + 1, by omega, ⟨⟨⟨id, id⟩, by omega⟩, ⟨rfl, rfl⟩, rfl, rfl⟩, by omega⟩
      have hsl := ho.2.2.1
      generalize x.l.sl y = c at *
      refine ⟨hnil, by omega, by omega, by omega, fun v hv => ?_⟩
      clear hv hU hS hI1 hI2 hM1 hM2 hr
      have bU : 0 ≤ U y ∧ U y < 340282366920938463463374607431768211456 := by omega
      have bU1 : U (y + 1) < 340282366920938463463374607431768211456 := by omega
      have bS : 0 ≤ S y ∧ S y < 340282366920938463463374607431768211456 := by omega
      have bS1 : S (y + 1) < 340282366920938463463374607431768211456 := by omega
      exact ⟨⟨by omega, by omega, by omega⟩, ⟨by omega, bU1⟩, hr0, ⟨by omega, by omega, by omega⟩, ⟨by omega, bS1⟩, last⟩
    · have : y = x.len := by omega
      subst this
      exact fun _ => ⟨⟨rfl, rfl⟩, rfl, rfl⟩

def sum_C (x : LS) : Cfg := { Γ := Go.Sx.look tSum, names := true, loops := sumL x }
theorem sum_al (x : LS) : Shown (sumP.vc Try.prog (sum_C x) Try.f32 x) := ⟨@Eq.mp _ _ (by kernel_rfl) (sum_vc x)⟩
theorem sum_ok : SpOk Try.prog 32 sumP.sp := @Pat.okS _ sumP Try.prog sum_C 32 Try.f32 (fun x => cfg_tab rfl tSum_ok) (by kernel_rfl) Try.func32 (fun _ => rfl) sum_al
def evenP : Pat ((Int × Int) × (Int × Int) × (Int × Int)) where
  view | [.cons (.cons (.int .u64 a) (.cons (.int .u64 b) .nil)) (.cons (.cons (.int .u64 c) (.cons (.int .u64 d) .nil)) (.cons (.cons (.int .u64 e) (.cons (.int .u64 f) .nil)) .nil))], _ => some ((a, b), (c, d), (e, f)) | _, _ => none
  args x := [.cons (wT x.1.1 x.1.2) (.cons (wT x.2.1.1 x.2.1.2) (.cons (wT x.2.2.1 x.2.2.2) .nil))]
  H _ := []
  out x := .need (0 ≤ x.2.2.1 ∧ 0 ≤ x.2.2.2) (.retq (.bool (decide (wN x.2.2.1 x.2.2.2 = 0))))
theorem even_vc : ∀ (_ _ _ _ e f : Int), ((0 : Int) ≤ e ∧ (0 : Int) ≤ f) ∧ True → (0 : Int) ≤ e ∧ (0 : Int) ≤ f → (e == (0 : Int) && (f == (0 : Int) && true)) = decide (wN e f = (0 : Int)) ∧ True ∧ True := by
  simp only [and_true, and_self]
  rintro a b c d e f h _
  unfold wN
  rw [Bool.eq_iff_iff]
  simp only [Bool.and_eq_true, beq_iff_eq, decide_eq_true_eq, and_true]
  omega

def even_C (_ : ((Int × Int) × (Int × Int) × (Int × Int))) : Cfg := { Γ := Go.Sx.look [], names := true }
theorem even_al (x : ((Int × Int) × (Int × Int) × (Int × Int))) : Shown (evenP.vc Try.prog (even_C x) Try.f33 x) := ⟨@Eq.mp _ _ (by kernel_rfl) (even_vc (x.1.1) (x.1.2) (x.2.1.1) (x.2.1.2) (x.2.2.1) (x.2.2.2))⟩
theorem even_ok : SpOk Try.prog 33 evenP.sp := @Pat.okS _ evenP Try.prog even_C 33 Try.f33 (fun x => cfg_nil rfl) (by kernel_rfl) Try.func33 (fun _ => rfl) even_al
def fullP : Pat ((Int × Int) × (Int × Int) × (Int × Int)) where
  view | [.cons (.cons (.int .u64 a) (.cons (.int .u64 b) .nil)) (.cons (.cons (.int .u64 c) (.cons (.int .u64 d) .nil)) (.cons (.cons (.int .u64 e) (.cons (.int .u64 f) .nil)) .nil))], _ => some ((a, b), (c, d), (e, f)) | _, _ => none
  args x := [.cons (wT x.1.1 x.1.2) (.cons (wT x.2.1.1 x.2.1.2) (.cons (wT x.2.2.1 x.2.2.2) .nil))]
  H _ := []
  out x := .need ((u64 x.1.1 ∧ u64 x.1.2) ∧ u64 x.2.1.1 ∧ u64 x.2.1.2) (.retq (.int .i64 (wcmp x.2.1.1 x.2.1.2 x.1.1 x.1.2)))
def tFull : Tab := [(57, wcmpPt.sp)]
theorem tFull_ok : TabOk Try.prog tFull := (tab_cons wcmp_ok tab_nil)

theorem full_vc : ∀ (a b c d _ _ : Int), ((((0 : Int) ≤ a ∧ a < (18446744073709551616 : Int)) ∧ (0 : Int) ≤ b ∧ b < (18446744073709551616 : Int)) ∧ ((0 : Int) ≤ c ∧ c < (18446744073709551616 : Int)) ∧ (0 : Int) ≤ d ∧ d <
  (18446744073709551616 : Int)) ∧ True → ∀ (v : Int), v = (0 : Int) → (((c = c ∧ d = d ∧ True) ∧ (a = a ∧ b = b ∧ True) ∧ True) ∧ True) ∧ ((((0 : Int) ≤ c ∧ c < (18446744073709551616 : Int)) ∧ (0 : Int) ≤ d ∧ d <
  (18446744073709551616 : Int)) ∧ ((0 : Int) ≤ a ∧ a < (18446744073709551616 : Int)) ∧ (0 : Int) ≤ b ∧ b < (18446744073709551616 : Int)) ∧ ∀ (v : Int), v = wcmp c d a b → (((0 : Int) ≤ a ∧ a < (18446744073709551616 : Int))
  ∧ (0 : Int) ≤ b ∧ b < (18446744073709551616 : Int)) ∧ ((0 : Int) ≤ c ∧ c < (18446744073709551616 : Int)) ∧ (0 : Int) ≤ d ∧ d < (18446744073709551616 : Int) → v = wcmp c d a b ∧ True ∧ True := by
  simp only [true_and, and_true, eq_self, and_self]
  rintro a b c d e f ⟨h1, h2⟩
  try dsimp only
  repeat' (with_reducible first | assumption | apply And.intro | intro _)
  all_goals (try simp only [cond_dec, decide_eq_decide] at *)
  all_goals (first | omega | ((repeat' (first | omega | split)) <;> (try dsimp only) <;> (try (first | omega | contradiction | (subst_vars; first | rfl | omega) | (simp_all; done) | (simp_all; omega)))))

def full_C (_ : ((Int × Int) × (Int × Int) × (Int × Int))) : Cfg := { Γ := Go.Sx.look tFull, names := true }
theorem full_al (x : ((Int × Int) × (Int × Int) × (Int × Int))) : Shown (fullP.vc Try.prog (full_C x) Try.f34 x) := ⟨@Eq.mp _ _ (by kernel_rfl) (full_vc (x.1.1) (x.1.2) (x.2.1.1) (x.2.1.2) (x.2.2.1) (x.2.2.2))⟩
theorem full_ok : SpOk Try.prog 34 fullP.sp := @Pat.okS _ fullP Try.prog full_C 34 Try.f34 (fun x => cfg_tab rfl tFull_ok) (by kernel_rfl) Try.func34 (fun _ => rfl) full_al
def leC (l w : Int × Int) (h : Int) : Bool := decide (wN w.1 w.2 ≤ wN l.1 l.2 * h)
def lestP : Pat (Int × (Int × Int) × (Int × Int)) where
  view | [.int .i64 h, .ptr a 0 [], .ptr b 0 []], H => some (h, (tInt (tAt (regC H a) 0), tInt (tAt (regC H a) 1)), (tInt (tAt (regC H b) 0), tInt (tAt (regC H b) 1))) | _, _ => none
  args x := [.int .i64 x.1, p0 0, p0 1]
  H x := [newReg 57 (wT x.2.1.1 x.2.1.2), newReg 57 (wT x.2.2.1 x.2.2.2)]
  out x := .need (((u64 x.2.1.1 ∧ u64 x.2.1.2) ∧ u64 x.2.2.1 ∧ u64 x.2.2.2) ∧ (0 ≤ x.1 ∧ x.1 ≤ 65536) ∧ wN x.2.1.1 x.2.1.2 ≤ 20282409603651670423947251286016) (.retq (.bool (leC x.2.1 x.2.2 x.1)))
def tLest : Tab := [(47, timesP.sp), (57, wcmpPt.sp)]
theorem tLest_ok : TabOk Try.prog tLest := (tab_cons times_ok (tab_cons wcmp_ok tab_nil))

theorem lest_vc : ∀ (h a b c d : Int), (((((0 : Int) ≤ a ∧ a < (18446744073709551616 : Int)) ∧ (0 : Int) ≤ b ∧ b < (18446744073709551616 : Int)) ∧ ((0 : Int) ≤ c ∧ c < (18446744073709551616 : Int)) ∧ (0 : Int) ≤ d ∧ d <
  (18446744073709551616 : Int)) ∧ ((0 : Int) ≤ h ∧ h ≤ (65536 : Int)) ∧ wN a b ≤ (20282409603651670423947251286016 : Int)) ∧ True → (((a = a ∧ b = b ∧ True) ∧ IntKind.u64.wrap h = IntKind.u64.wrap h ∧ True) ∧ True) ∧ ((((0
  : Int) ≤ a ∧ a < (18446744073709551616 : Int)) ∧ (0 : Int) ≤ b ∧ b < (18446744073709551616 : Int)) ∧ ((0 : Int) ≤ IntKind.u64.wrap h ∧ IntKind.u64.wrap h < (18446744073709551616 : Int)) ∧ wN a b * IntKind.u64.wrap h <
  two128) ∧ (((wN a b * IntKind.u64.wrap h / (18446744073709551616 : Int) = wN a b * IntKind.u64.wrap h / (18446744073709551616 : Int) ∧ wN a b * IntKind.u64.wrap h % (18446744073709551616 : Int) = wN a b *
  IntKind.u64.wrap h % (18446744073709551616 : Int) ∧ True) ∧ (c = c ∧ d = d ∧ True) ∧ True) ∧ True) ∧ ((((0 : Int) ≤ wN a b * IntKind.u64.wrap h / (18446744073709551616 : Int) ∧ wN a b * IntKind.u64.wrap h /
  (18446744073709551616 : Int) < (18446744073709551616 : Int)) ∧ (0 : Int) ≤ wN a b * IntKind.u64.wrap h % (18446744073709551616 : Int) ∧ wN a b * IntKind.u64.wrap h % (18446744073709551616 : Int) < (18446744073709551616 :
  Int)) ∧ ((0 : Int) ≤ c ∧ c < (18446744073709551616 : Int)) ∧ (0 : Int) ≤ d ∧ d < (18446744073709551616 : Int)) ∧ (((((0 : Int) ≤ a ∧ a < (18446744073709551616 : Int)) ∧ (0 : Int) ≤ b ∧ b < (18446744073709551616 : Int)) ∧
  ((0 : Int) ≤ c ∧ c < (18446744073709551616 : Int)) ∧ (0 : Int) ≤ d ∧ d < (18446744073709551616 : Int)) ∧ ((0 : Int) ≤ h ∧ h ≤ (65536 : Int)) ∧ wN a b ≤ (20282409603651670423947251286016 : Int) → decide (wcmp (wN a b *
  IntKind.u64.wrap h / (18446744073709551616 : Int)) (wN a b * IntKind.u64.wrap h % (18446744073709551616 : Int)) c d ≥ (0 : Int)) = leC (a, b) (c, d) h ∧ True ∧ ((2 : Nat) ≤ (2 : Nat) ∧ a = a ∧ b = b ∧ True) ∧ ((2 : Nat)
  ≤ (2 : Nat) ∧ c = c ∧ d = d ∧ True) ∧ True) := by
  simp only [true_and, and_true, eq_self, Nat.le_refl, and_self, ge_iff_le, IntKind.wrap_u64]
  rintro h a b c d ⟨⟨⟨⟨ha, ha'⟩, hb, hb'⟩, ⟨hc, hc'⟩, hd, hd'⟩, ⟨hh, hh'⟩, hle⟩
  have e : h % 18446744073709551616 = h := by omega
  rw [e]
  have h0 : 0 ≤ wN a b := by unfold wN; omega
  have h1 : 0 ≤ wN a b * h := Int.mul_nonneg h0 hh
  have h2 : wN a b * h ≤ 20282409603651670423947251286016 * 65536 := Int.mul_le_mul hle hh' hh (by decide)
  have hw : wcmp (wN a b * h / 18446744073709551616) (wN a b * h % 18446744073709551616) c d = if wN a b * h < wN c d then -1 else if wN c d < wN a b * h then 1 else 0 := by unfold wcmp; rw [wNdm]
  rw [hw]
  unfold leC two128
  dsimp only
  generalize wN a b * h = p at *
  refine ⟨⟨⟨⟨ha, ha'⟩, hb, hb'⟩, ⟨hh, by omega⟩, by omega⟩, ⟨by omega, ⟨hc, hc'⟩, hd, hd'⟩, fun _ => decide_eq_decide.2 ?_⟩
  split
  · omega
  · split <;> omega

def lest_C (_ : (Int × (Int × Int) × (Int × Int))) : Cfg := { Γ := Go.Sx.look tLest, names := true }
theorem lest_al (x : (Int × (Int × Int) × (Int × Int))) : Shown (lestP.vc Try.prog (lest_C x) Try.f58 x) := ⟨@Eq.mp _ _ (by kernel_rfl) (lest_vc (x.1) (x.2.1.1) (x.2.1.2) (x.2.2.1) (x.2.2.2))⟩
theorem lest_ok : SpOk Try.prog 58 lestP.sp := @Pat.okS _ lestP Try.prog lest_C 58 Try.f58 (fun x => cfg_tab rfl tLest_ok) (by kernel_rfl) Try.func58 (fun _ => rfl) lest_al
end Go.Proofs.Ytijpjhelgggmfaa
