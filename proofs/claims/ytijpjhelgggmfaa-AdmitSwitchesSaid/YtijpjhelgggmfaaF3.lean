import Derived.Test.YtijpjhelgggmfaaF2
open Go Go.Sx Go.Proofs
set_option maxRecDepth 100000
namespace Go.Proofs.Ytijpjhelgggmfaa

/-- The document's least number. -/
structure RL where
  h : Int
  e : Nat
def pw : Nat → Int
  | 0 => 0
  | e + 1 => 2 ^ e
theorem pw_half (e : Nat) : (pw (e + 1)).tdiv 2 % 18446744073709551616 = pw e ∨ 17 < e := by
  by_cases h : 17 < e
  · exact .inr h
  · left
    have : ∀ e, e < 18 → (pw (e + 1)).tdiv 2 % 18446744073709551616 = pw e := by decide
    exact this e (by omega)
theorem pw_le (e : Nat) (h : e ≤ 17) : 0 ≤ pw e ∧ pw e ≤ 65536 ∧ (0 < pw e ↔ 0 < e) := by
  have : ∀ e, e < 18 → 0 ≤ pw e ∧ pw e ≤ 65536 ∧ (0 < pw e ↔ 0 < e) := by decide
  exact this e (by omega)
def rleastP : Pat ((Int × Int) × (Int × Int)) where
  view | [.cons (.int .u64 a) (.cons (.int .u64 b) .nil), .cons (.int .u64 c) (.cons (.int .u64 d) .nil)], _ => some ((a, b), (c, d)) | _, _ => none
  args x := [wT x.1.1 x.1.2, wT x.2.1 x.2.2]
  H _ := []
  out x := .need ((((u64 x.1.1 ∧ u64 x.1.2) ∧ u64 x.2.1 ∧ u64 x.2.2) ∧ wN x.1.1 x.1.2 ≤ 20282409603651670423947251286016) ∧ wN x.2.1 x.2.2 ≤ wN x.1.1 x.1.2 * 65536) (.retq (.int .u64 (lst (leN (wN x.1.1 x.1.2) (wN x.2.1 x.2.2)) 0 65537 : Nat)))
def rleastF (a b c d : Int) : Fam where
  α := RL
  I y := y.e ≤ 17 ∧ (0 ≤ y.h ∧ y.h ≤ 65536) ∧ wN c d ≤ wN a b * y.h ∧ (∀ k : Int, 0 ≤ k → wN c d ≤ wN a b * k → y.h - k < 2 ^ y.e)
  st y := { sl := mkSl 28 [(2, p0 0), (3, p0 1), (5, .int .u64 y.h), (6, .int .u64 (pw y.e))], H := [newReg 64 (wT a b), newReg 64 (wT c d)] }
  μ y := y.e
def tRleast : Tab := [(40, timesP.sp), (38, rcmpPt.sp)]
theorem tRleast_ok : TabOk Try.prog tRleast := (tab_cons rtimes_ok (tab_cons rcmp_ok tab_nil))

theorem rleast_vc : ∀ (a b c d : Int), ((((((0 : Int) ≤ a ∧ a < (18446744073709551616 : Int)) ∧ (0 : Int) ≤ b ∧ b < (18446744073709551616 : Int)) ∧ ((0 : Int) ≤ c ∧ c < (18446744073709551616 : Int)) ∧ (0 : Int) ≤ d ∧ d <
  (18446744073709551616 : Int)) ∧ wN a b ≤ (20282409603651670423947251286016 : Int)) ∧ wN c d ≤ wN a b * (65536 : Int)) ∧ True → ∀ (v : Int), v = (0 : Int) → ∀ (v : Int), v = (65536 : Int) → ∀ (v_1 : Int), v_1 = (65536 :
  Int) → (∃ (y : RL), (y.e ≤ (17 : Nat) ∧ ((0 : Int) ≤ y.h ∧ y.h ≤ (65536 : Int)) ∧ wN c d ≤ wN a b * y.h ∧ ∀ (k : Int), (0 : Int) ≤ k → wN c d ≤ wN a b * k → y.h - k < (2 : Int) ^ y.e) ∧ (((True ∧ True) ∧ (True ∧ True) ∧
  v = y.h ∧ v_1 = pw y.e ∧ True) ∧ ((2 : Nat) ≤ (2 : Nat) ∧ a = a ∧ b = b ∧ True) ∧ ((2 : Nat) ≤ (2 : Nat) ∧ c = c ∧ d = d ∧ True) ∧ True) ∧ True) ∧ ∀ (y : RL), (y.e ≤ (17 : Nat) ∧ ((0 : Int) ≤ y.h ∧ y.h ≤ (65536 : Int)) ∧
  wN c d ≤ wN a b * y.h ∧ ∀ (k : Int), (0 : Int) ≤ k → wN c d ≤ wN a b * k → y.h - k < (2 : Int) ^ y.e) → (decide (pw y.e > (0 : Int)) = true → (decide (y.h ≥ pw y.e) = true → (((a = a ∧ b = b ∧ True) ∧ IntKind.u64.wrap
  (y.h - pw y.e) = IntKind.u64.wrap (y.h - pw y.e) ∧ True) ∧ True) ∧ ((((0 : Int) ≤ a ∧ a < (18446744073709551616 : Int)) ∧ (0 : Int) ≤ b ∧ b < (18446744073709551616 : Int)) ∧ ((0 : Int) ≤ IntKind.u64.wrap (y.h - pw y.e) ∧
  IntKind.u64.wrap (y.h - pw y.e) < (18446744073709551616 : Int)) ∧ wN a b * IntKind.u64.wrap (y.h - pw y.e) < two128) ∧ (((wN a b * IntKind.u64.wrap (y.h - pw y.e) / (18446744073709551616 : Int) = wN a b *
  IntKind.u64.wrap (y.h - pw y.e) / (18446744073709551616 : Int) ∧ wN a b * IntKind.u64.wrap (y.h - pw y.e) % (18446744073709551616 : Int) = wN a b * IntKind.u64.wrap (y.h - pw y.e) % (18446744073709551616 : Int) ∧ True) ∧
  (c = c ∧ d = d ∧ True) ∧ True) ∧ True) ∧ ((((0 : Int) ≤ wN a b * IntKind.u64.wrap (y.h - pw y.e) / (18446744073709551616 : Int) ∧ wN a b * IntKind.u64.wrap (y.h - pw y.e) / (18446744073709551616 : Int) <
  (18446744073709551616 : Int)) ∧ (0 : Int) ≤ wN a b * IntKind.u64.wrap (y.h - pw y.e) % (18446744073709551616 : Int) ∧ wN a b * IntKind.u64.wrap (y.h - pw y.e) % (18446744073709551616 : Int) < (18446744073709551616 :
  Int)) ∧ ((0 : Int) ≤ c ∧ c < (18446744073709551616 : Int)) ∧ (0 : Int) ≤ d ∧ d < (18446744073709551616 : Int)) ∧ (decide (wcmp (wN a b * IntKind.u64.wrap (y.h - pw y.e) / (18446744073709551616 : Int)) (wN a b *
  IntKind.u64.wrap (y.h - pw y.e) % (18446744073709551616 : Int)) c d ≥ (0 : Int)) = true → ∀ (v : Int), v = IntKind.u64.wrap (y.h - pw y.e) → (2 : Int) ≠ (0 : Int) ∧ ∀ (v_2 : Int), v_2 = IntKind.u64.wrap ((pw y.e).tdiv (2
  : Int)) → ∃ (y_1 : RL), (y_1.e ≤ (17 : Nat) ∧ ((0 : Int) ≤ y_1.h ∧ y_1.h ≤ (65536 : Int)) ∧ wN c d ≤ wN a b * y_1.h ∧ ∀ (k : Int), (0 : Int) ≤ k → wN c d ≤ wN a b * k → y_1.h - k < (2 : Int) ^ y_1.e) ∧ (((True ∧ True) ∧
  (True ∧ True) ∧ v = y_1.h ∧ v_2 = pw y_1.e ∧ True) ∧ ((2 : Nat) ≤ (2 : Nat) ∧ a = a ∧ b = b ∧ True) ∧ ((2 : Nat) ≤ (2 : Nat) ∧ c = c ∧ d = d ∧ True) ∧ True) ∧ (rleastF a b c d).μ y_1 < (rleastF a b c d).μ y) ∧ (decide
  (wcmp (wN a b * IntKind.u64.wrap (y.h - pw y.e) / (18446744073709551616 : Int)) (wN a b * IntKind.u64.wrap (y.h - pw y.e) % (18446744073709551616 : Int)) c d ≥ (0 : Int)) = false → (2 : Int) ≠ (0 : Int) ∧ ∀ (v : Int), v
  = IntKind.u64.wrap ((pw y.e).tdiv (2 : Int)) → ∃ (y_1 : RL), (y_1.e ≤ (17 : Nat) ∧ ((0 : Int) ≤ y_1.h ∧ y_1.h ≤ (65536 : Int)) ∧ wN c d ≤ wN a b * y_1.h ∧ ∀ (k : Int), (0 : Int) ≤ k → wN c d ≤ wN a b * k → y_1.h - k < (2
  : Int) ^ y_1.e) ∧ (((True ∧ True) ∧ (True ∧ True) ∧ y.h = y_1.h ∧ v = pw y_1.e ∧ True) ∧ ((2 : Nat) ≤ (2 : Nat) ∧ a = a ∧ b = b ∧ True) ∧ ((2 : Nat) ≤ (2 : Nat) ∧ c = c ∧ d = d ∧ True) ∧ True) ∧ (rleastF a b c d).μ y_1 <
  (rleastF a b c d).μ y)) ∧ (decide (y.h ≥ pw y.e) = false → (2 : Int) ≠ (0 : Int) ∧ ∀ (v : Int), v = IntKind.u64.wrap ((pw y.e).tdiv (2 : Int)) → ∃ (y_1 : RL), (y_1.e ≤ (17 : Nat) ∧ ((0 : Int) ≤ y_1.h ∧ y_1.h ≤ (65536 :
  Int)) ∧ wN c d ≤ wN a b * y_1.h ∧ ∀ (k : Int), (0 : Int) ≤ k → wN c d ≤ wN a b * k → y_1.h - k < (2 : Int) ^ y_1.e) ∧ (((True ∧ True) ∧ (True ∧ True) ∧ y.h = y_1.h ∧ v = pw y_1.e ∧ True) ∧ ((2 : Nat) ≤ (2 : Nat) ∧ a = a
  ∧ b = b ∧ True) ∧ ((2 : Nat) ≤ (2 : Nat) ∧ c = c ∧ d = d ∧ True) ∧ True) ∧ (rleastF a b c d).μ y_1 < (rleastF a b c d).μ y)) ∧ (decide (pw y.e > (0 : Int)) = false → ∀ (v : Int), v = y.h → (((((0 : Int) ≤ a ∧ a <
  (18446744073709551616 : Int)) ∧ (0 : Int) ≤ b ∧ b < (18446744073709551616 : Int)) ∧ ((0 : Int) ≤ c ∧ c < (18446744073709551616 : Int)) ∧ (0 : Int) ≤ d ∧ d < (18446744073709551616 : Int)) ∧ wN a b ≤
  (20282409603651670423947251286016 : Int)) ∧ wN c d ≤ wN a b * (65536 : Int) → v = (↑(lst (leN (wN a b) (wN c d)) (0 : Nat) (65537 : Nat)) : Int) ∧ True ∧ True) := by
  simp only [true_and, and_true, eq_self, Nat.le_refl, decide_eq_true_eq, decide_eq_false_iff_not, and_self, Int.not_lt, Int.not_le, ge_iff_le, gt_iff_lt, ne_eq, IntKind.wrap_u64]
  rintro a b c d ⟨⟨h1, hle⟩, hwl⟩ _ _
  rintro _ rfl _ rfl
  have h0 : 0 ≤ wN a b := by unfold wN; omega
  have hcw : ∀ p : Int, wcmp (p / 18446744073709551616) (p % 18446744073709551616) c d = if p < wN c d then -1 else if wN c d < p then 1 else 0 := fun p => by unfold wcmp; rw [wNdm]
  simp only [hcw]
  refine ⟨⟨⟨65536, 17⟩, ⟨Nat.le_refl _, ⟨by decide, by decide⟩, hwl, fun k hk _ => ?_⟩, rfl, rfl⟩, ?_⟩
  · show (65536 : Int) - k < 2 ^ 17
    have : (2 : Int) ^ 17 = 131072 := by decide
    omega
  rintro ⟨h, e⟩ ⟨he, ⟨hh, hh'⟩, hW, hI⟩
  dsimp only at he hh hh' hW hI ⊢
  have hp := pw_le e he
  refine ⟨fun hpos => ?_, fun hz v hv _ => ?_⟩
  · obtain ⟨e, rfl⟩ : ∃ e', e = e' + 1 := ⟨e - 1, by omega⟩
    have hhalf : (pw (e + 1)).tdiv 2 % 18446744073709551616 = pw e := (pw_half e).resolve_right (by omega)
    have hpe : pw (e + 1) = 2 ^ e := rfl
    have h2 : (2 : Int) ^ (e + 1) = 2 ^ e * 2 := Int.pow_succ 2 e
    rw [hhalf]
    rw [hpe] at hp ⊢
    rw [h2] at hI
    generalize hS : (2 : Int) ^ e = S at *
    have hS0 : 0 < S := by rw [← hS]; exact Int.pow_pos (by decide)
    have stay : (¬ (S ≤ h ∧ wN c d ≤ wN a b * (h - S))) → ∀ v : Int, v = pw e → ∃ y_1 : RL, (y_1.e ≤ 17 ∧ (0 ≤ y_1.h ∧ y_1.h ≤ 65536) ∧ wN c d ≤ wN a b * y_1.h ∧ ∀ k : Int, 0 ≤ k → wN c d ≤ wN a b * k → y_1.h - k < 2 ^ y_1.e) ∧ (h = y_1.h ∧ v = pw y_1.e) ∧ (rleastF a b c d).μ y_1 < (rleastF a b c d).μ ⟨h, e + 1⟩ := fun hno v hv => by
      refine ⟨⟨h, e⟩, ⟨by show e ≤ 17; omega, ⟨hh, hh'⟩, hW, fun k hk hk2 => ?_⟩, ⟨rfl, hv⟩, Nat.lt_succ_self e⟩
      show h - k < 2 ^ e
      rw [hS]
      by_cases hlt : h - k < S
      · exact hlt
      · exfalso
        refine hno ⟨by omega, ?_⟩
        have := Int.mul_le_mul_of_nonneg_left (show k ≤ h - S by omega) h0
        omega
    have go : S ≤ h → wN c d ≤ wN a b * (h - S) → ∀ v v2 : Int, v = h - S → v2 = pw e → ∃ y_1 : RL, (y_1.e ≤ 17 ∧ (0 ≤ y_1.h ∧ y_1.h ≤ 65536) ∧ wN c d ≤ wN a b * y_1.h ∧ ∀ k : Int, 0 ≤ k → wN c d ≤ wN a b * k → y_1.h - k < 2 ^ y_1.e) ∧ (v = y_1.h ∧ v2 = pw y_1.e) ∧ (rleastF a b c d).μ y_1 < (rleastF a b c d).μ ⟨h, e + 1⟩ := fun hs hw v v2 hv hv2 => by
      refine ⟨⟨h - S, e⟩, ⟨by show e ≤ 17; omega, ⟨by show 0 ≤ h - S; omega, by show h - S ≤ 65536; omega⟩, hw, fun k hk hk2 => ?_⟩, ⟨hv, hv2⟩, Nat.lt_succ_self e⟩
      show h - S - k < 2 ^ e
      rw [hS]
      have := hI k hk hk2
      omega
    refine ⟨fun hs => ?_, fun hs => ⟨by decide, fun v hv => stay (fun hc => by omega) v hv⟩⟩
    have em : (h - S) % 18446744073709551616 = h - S := by omega
    rw [em]
    have p1 : 0 ≤ wN a b * (h - S) := Int.mul_nonneg h0 (by omega)
    have p2 : wN a b * (h - S) ≤ 20282409603651670423947251286016 * 65536 := Int.mul_le_mul hle (by omega) (by omega) (by decide)
    have hgo := go hs
    have hst : ¬ wN c d ≤ wN a b * (h - S) → _ := fun hc => stay fun h2 => hc h2.2
    clear go stay
    unfold two128
    generalize wN a b * (h - S) = P at *
    refine ⟨⟨h1.1, ⟨by omega, by omega⟩, by omega⟩, ⟨by omega, h1.2⟩, fun hc v hv => ⟨by decide, fun v2 hv2 => hgo ?_ v v2 hv hv2⟩, fun hc => ⟨by decide, fun v hv => hst ?_ v hv⟩⟩
    · split at hc <;> omega
    · split at hc
      · omega
      · split at hc <;> omega
  · have e0 : e = 0 := by omega
    subst e0
    have hI : ∀ k : Int, 0 ≤ k → wN c d ≤ wN a b * k → h - k < 1 := hI
    rw [hv, lst_eq (leN (wN a b) (wN c d)) 65537 0 h.toNat (Nat.zero_le _) (by omega) (fun k _ hk => ?_) (.inr ?_)]
    · omega
    · unfold leN
      refine decide_eq_true ?_
      rw [show ((h.toNat : Nat) : Int) = h by omega]; exact hW
    · unfold leN
      refine decide_eq_false fun hk2 => ?_
      have := hI k (by omega) hk2
      omega

def rleast_C (x : ((Int × Int) × (Int × Int))) : Cfg := { Γ := Go.Sx.look tRleast, names := true, loops := onlyAt 3 [rleastF (x.1.1) (x.1.2) (x.2.1) (x.2.2)] }
theorem rleast_al (x : ((Int × Int) × (Int × Int))) : Shown (rleastP.vc Try.prog (rleast_C x) Try.f41 x) := ⟨@Eq.mp _ _ (by kernel_rfl) (rleast_vc (x.1.1) (x.1.2) (x.2.1) (x.2.2))⟩
theorem rleast_ok : SpOk Try.prog 41 rleastP.sp := @Pat.okS _ rleastP Try.prog rleast_C 41 Try.f41 (fun x => cfg_tab rfl tRleast_ok) (by kernel_rfl) Try.func41 (fun _ => rfl) rleast_al
def rhorP : Pat LS where
  view | [t], H => some (viewL t H) | _, _ => none
  args x := [x.v 0]
  H x := [x.regR]
  out x := .need x.Ok (.retq (.tup (.cons (.int .u64 x.l.hor.1) (.cons (.int .i64 x.l.hor.2) .nil))))
def tRhor : Tab := [(13, rrP.sp), (37, rsumP.sp), (38, rcmpPt.sp), (39, wminP.sp), (40, timesP.sp), (41, rleastP.sp)]
theorem tRhor_ok : TabOk Try.prog tRhor := (tab_cons rright_ok (tab_cons rsum_ok (tab_cons rcmp_ok (tab_cons rmin_ok (tab_cons rtimes_ok (tab_cons rleast_ok tab_nil))))))

theorem rhor_vc : ∀ (x : LS), x.Ok ∧ True → ∀ (v : Int), v = (0 : Int) → ∀ (v : Int), v = (0 : Int) → ((((x.nil = true → x.nil = true) ∧ (x.nil = false → x.nil = false ∧ True ∧ True ∧ x.lo = x.lo ∧ x.len = x.len ∧ x.cap = x.cap)) ∧ True)
  ∧ ((0 : Nat) ≤ (0 : Nat) ∧ x.n = x.n ∧ ∀ (j : Nat), j < x.n → x.k j = x.k j ∧ x.q j = x.q j ∧ x.t j = x.t j ∧ True) ∧ True) ∧ x.Ok ∧ ((!decide x.l.right) = true → ∀ (v : Int), v = (0 : Int) → ∀ (v_1 : Int), v_1 = (11 :
  Int) → x.Ok → (v = x.l.hor.fst ∧ v_1 = x.l.hor.snd ∧ True) ∧ True ∧ ((0 : Nat) ≤ (0 : Nat) ∧ x.n = x.n ∧ ∀ (j : Nat), j < x.n → x.k j = x.k j ∧ x.q j = x.q j ∧ x.t j = x.t j ∧ True) ∧ True) ∧ ((!decide x.l.right) = false
  → ((((x.nil = true → x.nil = true) ∧ (x.nil = false → x.nil = false ∧ True ∧ True ∧ x.lo = x.lo ∧ x.len = x.len ∧ x.cap = x.cap)) ∧ True) ∧ ((0 : Nat) ≤ (0 : Nat) ∧ x.n = x.n ∧ ∀ (j : Nat), j < x.n → x.k j = x.k j ∧ x.q
  j = x.q j ∧ x.t j = x.t j ∧ True) ∧ True) ∧ (x.Ok ∧ x.l.right) ∧ (((x.l.slk (x.l.prod x.len) x.len / (18446744073709551616 : Int) = x.l.slk (x.l.prod x.len) x.len / (18446744073709551616 : Int) ∧ x.l.slk (x.l.prod x.len)
  x.len % (18446744073709551616 : Int) = x.l.slk (x.l.prod x.len) x.len % (18446744073709551616 : Int) ∧ True) ∧ ((0 : Int) = (0 : Int) ∧ (0 : Int) = (0 : Int) ∧ True) ∧ True) ∧ True) ∧ ((((0 : Int) ≤ x.l.slk (x.l.prod
  x.len) x.len / (18446744073709551616 : Int) ∧ x.l.slk (x.l.prod x.len) x.len / (18446744073709551616 : Int) < (18446744073709551616 : Int)) ∧ (0 : Int) ≤ x.l.slk (x.l.prod x.len) x.len % (18446744073709551616 : Int) ∧
  x.l.slk (x.l.prod x.len) x.len % (18446744073709551616 : Int) < (18446744073709551616 : Int)) ∧ ((0 : Int) ≤ (0 : Int) ∧ (0 : Int) < (18446744073709551616 : Int)) ∧ (0 : Int) ≤ (0 : Int) ∧ (0 : Int) <
  (18446744073709551616 : Int)) ∧ ((wcmp (x.l.slk (x.l.prod x.len) x.len / (18446744073709551616 : Int)) (x.l.slk (x.l.prod x.len) x.len % (18446744073709551616 : Int)) (0 : Int) (0 : Int) == (0 : Int)) = true → ∀ (v :
  Int), v = (0 : Int) → ∀ (v_1 : Int), v_1 = (0 : Int) → x.Ok → (v = x.l.hor.fst ∧ v_1 = x.l.hor.snd ∧ True) ∧ True ∧ ((0 : Nat) ≤ (0 : Nat) ∧ x.n = x.n ∧ ∀ (j : Nat), j < x.n → x.k j = x.k j ∧ x.q j = x.q j ∧ x.t j = x.t
  j ∧ True) ∧ True) ∧ ((wcmp (x.l.slk (x.l.prod x.len) x.len / (18446744073709551616 : Int)) (x.l.slk (x.l.prod x.len) x.len % (18446744073709551616 : Int)) (0 : Int) (0 : Int) == (0 : Int)) = false → (((x.l.use (x.l.prod
  x.len) x.len / (18446744073709551616 : Int) = x.l.use (x.l.prod x.len) x.len / (18446744073709551616 : Int) ∧ x.l.use (x.l.prod x.len) x.len % (18446744073709551616 : Int) = x.l.use (x.l.prod x.len) x.len %
  (18446744073709551616 : Int) ∧ True) ∧ (x.l.prod x.len / (18446744073709551616 : Int) = x.l.prod x.len / (18446744073709551616 : Int) ∧ x.l.prod x.len % (18446744073709551616 : Int) = x.l.prod x.len %
  (18446744073709551616 : Int) ∧ True) ∧ True) ∧ True) ∧ ((((0 : Int) ≤ x.l.use (x.l.prod x.len) x.len / (18446744073709551616 : Int) ∧ x.l.use (x.l.prod x.len) x.len / (18446744073709551616 : Int) < (18446744073709551616
  : Int)) ∧ (0 : Int) ≤ x.l.use (x.l.prod x.len) x.len % (18446744073709551616 : Int) ∧ x.l.use (x.l.prod x.len) x.len % (18446744073709551616 : Int) < (18446744073709551616 : Int)) ∧ ((0 : Int) ≤ x.l.prod x.len /
  (18446744073709551616 : Int) ∧ x.l.prod x.len / (18446744073709551616 : Int) < (18446744073709551616 : Int)) ∧ (0 : Int) ≤ x.l.prod x.len % (18446744073709551616 : Int) ∧ x.l.prod x.len % (18446744073709551616 : Int) <
  (18446744073709551616 : Int)) ∧ (decide (wcmp (x.l.use (x.l.prod x.len) x.len / (18446744073709551616 : Int)) (x.l.use (x.l.prod x.len) x.len % (18446744073709551616 : Int)) (x.l.prod x.len / (18446744073709551616 :
  Int)) (x.l.prod x.len % (18446744073709551616 : Int)) ≥ (0 : Int)) = true → ∀ (v : Int), v = (0 : Int) → ∀ (v_1 : Int), v_1 = (0 : Int) → x.Ok → (v = x.l.hor.fst ∧ v_1 = x.l.hor.snd ∧ True) ∧ True ∧ ((0 : Nat) ≤ (0 :
  Nat) ∧ x.n = x.n ∧ ∀ (j : Nat), j < x.n → x.k j = x.k j ∧ x.q j = x.q j ∧ x.t j = x.t j ∧ True) ∧ True) ∧ (decide (wcmp (x.l.use (x.l.prod x.len) x.len / (18446744073709551616 : Int)) (x.l.use (x.l.prod x.len) x.len %
  (18446744073709551616 : Int)) (x.l.prod x.len / (18446744073709551616 : Int)) (x.l.prod x.len % (18446744073709551616 : Int)) ≥ (0 : Int)) = false → (((x.l.prod x.len / (18446744073709551616 : Int) = x.l.prod x.len /
  (18446744073709551616 : Int) ∧ x.l.prod x.len % (18446744073709551616 : Int) = x.l.prod x.len % (18446744073709551616 : Int) ∧ True) ∧ (x.l.use (x.l.prod x.len) x.len / (18446744073709551616 : Int) = x.l.use (x.l.prod
  x.len) x.len / (18446744073709551616 : Int) ∧ x.l.use (x.l.prod x.len) x.len % (18446744073709551616 : Int) = x.l.use (x.l.prod x.len) x.len % (18446744073709551616 : Int) ∧ True) ∧ True) ∧ True) ∧ (((((0 : Int) ≤
  x.l.prod x.len / (18446744073709551616 : Int) ∧ x.l.prod x.len / (18446744073709551616 : Int) < (18446744073709551616 : Int)) ∧ (0 : Int) ≤ x.l.prod x.len % (18446744073709551616 : Int) ∧ x.l.prod x.len %
  (18446744073709551616 : Int) < (18446744073709551616 : Int)) ∧ ((0 : Int) ≤ x.l.use (x.l.prod x.len) x.len / (18446744073709551616 : Int) ∧ x.l.use (x.l.prod x.len) x.len / (18446744073709551616 : Int) <
  (18446744073709551616 : Int)) ∧ (0 : Int) ≤ x.l.use (x.l.prod x.len) x.len % (18446744073709551616 : Int) ∧ x.l.use (x.l.prod x.len) x.len % (18446744073709551616 : Int) < (18446744073709551616 : Int)) ∧ wN (x.l.use
  (x.l.prod x.len) x.len / (18446744073709551616 : Int)) (x.l.use (x.l.prod x.len) x.len % (18446744073709551616 : Int)) ≤ wN (x.l.prod x.len / (18446744073709551616 : Int)) (x.l.prod x.len % (18446744073709551616 : Int)))
  ∧ ((((wN (x.l.prod x.len / (18446744073709551616 : Int)) (x.l.prod x.len % (18446744073709551616 : Int)) - wN (x.l.use (x.l.prod x.len) x.len / (18446744073709551616 : Int)) (x.l.use (x.l.prod x.len) x.len %
  (18446744073709551616 : Int))) / (18446744073709551616 : Int) = (wN (x.l.prod x.len / (18446744073709551616 : Int)) (x.l.prod x.len % (18446744073709551616 : Int)) - wN (x.l.use (x.l.prod x.len) x.len /
  (18446744073709551616 : Int)) (x.l.use (x.l.prod x.len) x.len % (18446744073709551616 : Int))) / (18446744073709551616 : Int) ∧ (wN (x.l.prod x.len / (18446744073709551616 : Int)) (x.l.prod x.len % (18446744073709551616
  : Int)) - wN (x.l.use (x.l.prod x.len) x.len / (18446744073709551616 : Int)) (x.l.use (x.l.prod x.len) x.len % (18446744073709551616 : Int))) % (18446744073709551616 : Int) = (wN (x.l.prod x.len / (18446744073709551616 :
  Int)) (x.l.prod x.len % (18446744073709551616 : Int)) - wN (x.l.use (x.l.prod x.len) x.len / (18446744073709551616 : Int)) (x.l.use (x.l.prod x.len) x.len % (18446744073709551616 : Int))) % (18446744073709551616 : Int) ∧
  True) ∧ (65536 : Int) = (65536 : Int) ∧ True) ∧ True) ∧ ((((0 : Int) ≤ (wN (x.l.prod x.len / (18446744073709551616 : Int)) (x.l.prod x.len % (18446744073709551616 : Int)) - wN (x.l.use (x.l.prod x.len) x.len /
  (18446744073709551616 : Int)) (x.l.use (x.l.prod x.len) x.len % (18446744073709551616 : Int))) / (18446744073709551616 : Int) ∧ (wN (x.l.prod x.len / (18446744073709551616 : Int)) (x.l.prod x.len % (18446744073709551616
  : Int)) - wN (x.l.use (x.l.prod x.len) x.len / (18446744073709551616 : Int)) (x.l.use (x.l.prod x.len) x.len % (18446744073709551616 : Int))) / (18446744073709551616 : Int) < (18446744073709551616 : Int)) ∧ (0 : Int) ≤
  (wN (x.l.prod x.len / (18446744073709551616 : Int)) (x.l.prod x.len % (18446744073709551616 : Int)) - wN (x.l.use (x.l.prod x.len) x.len / (18446744073709551616 : Int)) (x.l.use (x.l.prod x.len) x.len %
  (18446744073709551616 : Int))) % (18446744073709551616 : Int) ∧ (wN (x.l.prod x.len / (18446744073709551616 : Int)) (x.l.prod x.len % (18446744073709551616 : Int)) - wN (x.l.use (x.l.prod x.len) x.len /
  (18446744073709551616 : Int)) (x.l.use (x.l.prod x.len) x.len % (18446744073709551616 : Int))) % (18446744073709551616 : Int) < (18446744073709551616 : Int)) ∧ ((0 : Int) ≤ (65536 : Int) ∧ (65536 : Int) <
  (18446744073709551616 : Int)) ∧ wN ((wN (x.l.prod x.len / (18446744073709551616 : Int)) (x.l.prod x.len % (18446744073709551616 : Int)) - wN (x.l.use (x.l.prod x.len) x.len / (18446744073709551616 : Int)) (x.l.use
  (x.l.prod x.len) x.len % (18446744073709551616 : Int))) / (18446744073709551616 : Int)) ((wN (x.l.prod x.len / (18446744073709551616 : Int)) (x.l.prod x.len % (18446744073709551616 : Int)) - wN (x.l.use (x.l.prod x.len)
  x.len / (18446744073709551616 : Int)) (x.l.use (x.l.prod x.len) x.len % (18446744073709551616 : Int))) % (18446744073709551616 : Int)) * (65536 : Int) < two128) ∧ (((wN ((wN (x.l.prod x.len / (18446744073709551616 :
  Int)) (x.l.prod x.len % (18446744073709551616 : Int)) - wN (x.l.use (x.l.prod x.len) x.len / (18446744073709551616 : Int)) (x.l.use (x.l.prod x.len) x.len % (18446744073709551616 : Int))) / (18446744073709551616 : Int))
  ((wN (x.l.prod x.len / (18446744073709551616 : Int)) (x.l.prod x.len % (18446744073709551616 : Int)) - wN (x.l.use (x.l.prod x.len) x.len / (18446744073709551616 : Int)) (x.l.use (x.l.prod x.len) x.len %
  (18446744073709551616 : Int))) % (18446744073709551616 : Int)) * (65536 : Int) / (18446744073709551616 : Int) = wN ((wN (x.l.prod x.len / (18446744073709551616 : Int)) (x.l.prod x.len % (18446744073709551616 : Int)) - wN
  (x.l.use (x.l.prod x.len) x.len / (18446744073709551616 : Int)) (x.l.use (x.l.prod x.len) x.len % (18446744073709551616 : Int))) / (18446744073709551616 : Int)) ((wN (x.l.prod x.len / (18446744073709551616 : Int))
  (x.l.prod x.len % (18446744073709551616 : Int)) - wN (x.l.use (x.l.prod x.len) x.len / (18446744073709551616 : Int)) (x.l.use (x.l.prod x.len) x.len % (18446744073709551616 : Int))) % (18446744073709551616 : Int)) *
  (65536 : Int) / (18446744073709551616 : Int) ∧ wN ((wN (x.l.prod x.len / (18446744073709551616 : Int)) (x.l.prod x.len % (18446744073709551616 : Int)) - wN (x.l.use (x.l.prod x.len) x.len / (18446744073709551616 : Int))
  (x.l.use (x.l.prod x.len) x.len % (18446744073709551616 : Int))) / (18446744073709551616 : Int)) ((wN (x.l.prod x.len / (18446744073709551616 : Int)) (x.l.prod x.len % (18446744073709551616 : Int)) - wN (x.l.use
  (x.l.prod x.len) x.len / (18446744073709551616 : Int)) (x.l.use (x.l.prod x.len) x.len % (18446744073709551616 : Int))) % (18446744073709551616 : Int)) * (65536 : Int) % (18446744073709551616 : Int) = wN ((wN (x.l.prod
  x.len / (18446744073709551616 : Int)) (x.l.prod x.len % (18446744073709551616 : Int)) - wN (x.l.use (x.l.prod x.len) x.len / (18446744073709551616 : Int)) (x.l.use (x.l.prod x.len) x.len % (18446744073709551616 : Int)))
  / (18446744073709551616 : Int)) ((wN (x.l.prod x.len / (18446744073709551616 : Int)) (x.l.prod x.len % (18446744073709551616 : Int)) - wN (x.l.use (x.l.prod x.len) x.len / (18446744073709551616 : Int)) (x.l.use (x.l.prod
  x.len) x.len % (18446744073709551616 : Int))) % (18446744073709551616 : Int)) * (65536 : Int) % (18446744073709551616 : Int) ∧ True) ∧ (x.l.slk (x.l.prod x.len) x.len / (18446744073709551616 : Int) = x.l.slk (x.l.prod
  x.len) x.len / (18446744073709551616 : Int) ∧ x.l.slk (x.l.prod x.len) x.len % (18446744073709551616 : Int) = x.l.slk (x.l.prod x.len) x.len % (18446744073709551616 : Int) ∧ True) ∧ True) ∧ True) ∧ ((((0 : Int) ≤ wN ((wN
  (x.l.prod x.len / (18446744073709551616 : Int)) (x.l.prod x.len % (18446744073709551616 : Int)) - wN (x.l.use (x.l.prod x.len) x.len / (18446744073709551616 : Int)) (x.l.use (x.l.prod x.len) x.len % (18446744073709551616
  : Int))) / (18446744073709551616 : Int)) ((wN (x.l.prod x.len / (18446744073709551616 : Int)) (x.l.prod x.len % (18446744073709551616 : Int)) - wN (x.l.use (x.l.prod x.len) x.len / (18446744073709551616 : Int)) (x.l.use
  (x.l.prod x.len) x.len % (18446744073709551616 : Int))) % (18446744073709551616 : Int)) * (65536 : Int) / (18446744073709551616 : Int) ∧ wN ((wN (x.l.prod x.len / (18446744073709551616 : Int)) (x.l.prod x.len %
  (18446744073709551616 : Int)) - wN (x.l.use (x.l.prod x.len) x.len / (18446744073709551616 : Int)) (x.l.use (x.l.prod x.len) x.len % (18446744073709551616 : Int))) / (18446744073709551616 : Int)) ((wN (x.l.prod x.len /
  (18446744073709551616 : Int)) (x.l.prod x.len % (18446744073709551616 : Int)) - wN (x.l.use (x.l.prod x.len) x.len / (18446744073709551616 : Int)) (x.l.use (x.l.prod x.len) x.len % (18446744073709551616 : Int))) %
  (18446744073709551616 : Int)) * (65536 : Int) / (18446744073709551616 : Int) < (18446744073709551616 : Int)) ∧ (0 : Int) ≤ wN ((wN (x.l.prod x.len / (18446744073709551616 : Int)) (x.l.prod x.len % (18446744073709551616 :
  Int)) - wN (x.l.use (x.l.prod x.len) x.len / (18446744073709551616 : Int)) (x.l.use (x.l.prod x.len) x.len % (18446744073709551616 : Int))) / (18446744073709551616 : Int)) ((wN (x.l.prod x.len / (18446744073709551616 :
  Int)) (x.l.prod x.len % (18446744073709551616 : Int)) - wN (x.l.use (x.l.prod x.len) x.len / (18446744073709551616 : Int)) (x.l.use (x.l.prod x.len) x.len % (18446744073709551616 : Int))) % (18446744073709551616 : Int))
  * (65536 : Int) % (18446744073709551616 : Int) ∧ wN ((wN (x.l.prod x.len / (18446744073709551616 : Int)) (x.l.prod x.len % (18446744073709551616 : Int)) - wN (x.l.use (x.l.prod x.len) x.len / (18446744073709551616 :
  Int)) (x.l.use (x.l.prod x.len) x.len % (18446744073709551616 : Int))) / (18446744073709551616 : Int)) ((wN (x.l.prod x.len / (18446744073709551616 : Int)) (x.l.prod x.len % (18446744073709551616 : Int)) - wN (x.l.use
  (x.l.prod x.len) x.len / (18446744073709551616 : Int)) (x.l.use (x.l.prod x.len) x.len % (18446744073709551616 : Int))) % (18446744073709551616 : Int)) * (65536 : Int) % (18446744073709551616 : Int) <
  (18446744073709551616 : Int)) ∧ ((0 : Int) ≤ x.l.slk (x.l.prod x.len) x.len / (18446744073709551616 : Int) ∧ x.l.slk (x.l.prod x.len) x.len / (18446744073709551616 : Int) < (18446744073709551616 : Int)) ∧ (0 : Int) ≤
  x.l.slk (x.l.prod x.len) x.len % (18446744073709551616 : Int) ∧ x.l.slk (x.l.prod x.len) x.len % (18446744073709551616 : Int) < (18446744073709551616 : Int)) ∧ (decide (wcmp (wN ((wN (x.l.prod x.len /
  (18446744073709551616 : Int)) (x.l.prod x.len % (18446744073709551616 : Int)) - wN (x.l.use (x.l.prod x.len) x.len / (18446744073709551616 : Int)) (x.l.use (x.l.prod x.len) x.len % (18446744073709551616 : Int))) /
  (18446744073709551616 : Int)) ((wN (x.l.prod x.len / (18446744073709551616 : Int)) (x.l.prod x.len % (18446744073709551616 : Int)) - wN (x.l.use (x.l.prod x.len) x.len / (18446744073709551616 : Int)) (x.l.use (x.l.prod
  x.len) x.len % (18446744073709551616 : Int))) % (18446744073709551616 : Int)) * (65536 : Int) / (18446744073709551616 : Int)) (wN ((wN (x.l.prod x.len / (18446744073709551616 : Int)) (x.l.prod x.len %
  (18446744073709551616 : Int)) - wN (x.l.use (x.l.prod x.len) x.len / (18446744073709551616 : Int)) (x.l.use (x.l.prod x.len) x.len % (18446744073709551616 : Int))) / (18446744073709551616 : Int)) ((wN (x.l.prod x.len /
  (18446744073709551616 : Int)) (x.l.prod x.len % (18446744073709551616 : Int)) - wN (x.l.use (x.l.prod x.len) x.len / (18446744073709551616 : Int)) (x.l.use (x.l.prod x.len) x.len % (18446744073709551616 : Int))) %
  (18446744073709551616 : Int)) * (65536 : Int) % (18446744073709551616 : Int)) (x.l.slk (x.l.prod x.len) x.len / (18446744073709551616 : Int)) (x.l.slk (x.l.prod x.len) x.len % (18446744073709551616 : Int)) < (0 : Int)) =
  true → ∀ (v : Int), v = (0 : Int) → ∀ (v_1 : Int), v_1 = (14 : Int) → x.Ok → (v = x.l.hor.fst ∧ v_1 = x.l.hor.snd ∧ True) ∧ True ∧ ((0 : Nat) ≤ (0 : Nat) ∧ x.n = x.n ∧ ∀ (j : Nat), j < x.n → x.k j = x.k j ∧ x.q j = x.q j
  ∧ x.t j = x.t j ∧ True) ∧ True) ∧ (decide (wcmp (wN ((wN (x.l.prod x.len / (18446744073709551616 : Int)) (x.l.prod x.len % (18446744073709551616 : Int)) - wN (x.l.use (x.l.prod x.len) x.len / (18446744073709551616 :
  Int)) (x.l.use (x.l.prod x.len) x.len % (18446744073709551616 : Int))) / (18446744073709551616 : Int)) ((wN (x.l.prod x.len / (18446744073709551616 : Int)) (x.l.prod x.len % (18446744073709551616 : Int)) - wN (x.l.use
  (x.l.prod x.len) x.len / (18446744073709551616 : Int)) (x.l.use (x.l.prod x.len) x.len % (18446744073709551616 : Int))) % (18446744073709551616 : Int)) * (65536 : Int) / (18446744073709551616 : Int)) (wN ((wN (x.l.prod
  x.len / (18446744073709551616 : Int)) (x.l.prod x.len % (18446744073709551616 : Int)) - wN (x.l.use (x.l.prod x.len) x.len / (18446744073709551616 : Int)) (x.l.use (x.l.prod x.len) x.len % (18446744073709551616 : Int)))
  / (18446744073709551616 : Int)) ((wN (x.l.prod x.len / (18446744073709551616 : Int)) (x.l.prod x.len % (18446744073709551616 : Int)) - wN (x.l.use (x.l.prod x.len) x.len / (18446744073709551616 : Int)) (x.l.use (x.l.prod
  x.len) x.len % (18446744073709551616 : Int))) % (18446744073709551616 : Int)) * (65536 : Int) % (18446744073709551616 : Int)) (x.l.slk (x.l.prod x.len) x.len / (18446744073709551616 : Int)) (x.l.slk (x.l.prod x.len)
  x.len % (18446744073709551616 : Int)) < (0 : Int)) = false → ((((wN (x.l.prod x.len / (18446744073709551616 : Int)) (x.l.prod x.len % (18446744073709551616 : Int)) - wN (x.l.use (x.l.prod x.len) x.len /
  (18446744073709551616 : Int)) (x.l.use (x.l.prod x.len) x.len % (18446744073709551616 : Int))) / (18446744073709551616 : Int) = (wN (x.l.prod x.len / (18446744073709551616 : Int)) (x.l.prod x.len % (18446744073709551616
  : Int)) - wN (x.l.use (x.l.prod x.len) x.len / (18446744073709551616 : Int)) (x.l.use (x.l.prod x.len) x.len % (18446744073709551616 : Int))) / (18446744073709551616 : Int) ∧ (wN (x.l.prod x.len / (18446744073709551616 :
  Int)) (x.l.prod x.len % (18446744073709551616 : Int)) - wN (x.l.use (x.l.prod x.len) x.len / (18446744073709551616 : Int)) (x.l.use (x.l.prod x.len) x.len % (18446744073709551616 : Int))) % (18446744073709551616 : Int) =
  (wN (x.l.prod x.len / (18446744073709551616 : Int)) (x.l.prod x.len % (18446744073709551616 : Int)) - wN (x.l.use (x.l.prod x.len) x.len / (18446744073709551616 : Int)) (x.l.use (x.l.prod x.len) x.len %
  (18446744073709551616 : Int))) % (18446744073709551616 : Int) ∧ True) ∧ (x.l.slk (x.l.prod x.len) x.len / (18446744073709551616 : Int) = x.l.slk (x.l.prod x.len) x.len / (18446744073709551616 : Int) ∧ x.l.slk (x.l.prod
  x.len) x.len % (18446744073709551616 : Int) = x.l.slk (x.l.prod x.len) x.len % (18446744073709551616 : Int) ∧ True) ∧ True) ∧ True) ∧ ((((((0 : Int) ≤ (wN (x.l.prod x.len / (18446744073709551616 : Int)) (x.l.prod x.len %
  (18446744073709551616 : Int)) - wN (x.l.use (x.l.prod x.len) x.len / (18446744073709551616 : Int)) (x.l.use (x.l.prod x.len) x.len % (18446744073709551616 : Int))) / (18446744073709551616 : Int) ∧ (wN (x.l.prod x.len /
  (18446744073709551616 : Int)) (x.l.prod x.len % (18446744073709551616 : Int)) - wN (x.l.use (x.l.prod x.len) x.len / (18446744073709551616 : Int)) (x.l.use (x.l.prod x.len) x.len % (18446744073709551616 : Int))) /
  (18446744073709551616 : Int) < (18446744073709551616 : Int)) ∧ (0 : Int) ≤ (wN (x.l.prod x.len / (18446744073709551616 : Int)) (x.l.prod x.len % (18446744073709551616 : Int)) - wN (x.l.use (x.l.prod x.len) x.len /
  (18446744073709551616 : Int)) (x.l.use (x.l.prod x.len) x.len % (18446744073709551616 : Int))) % (18446744073709551616 : Int) ∧ (wN (x.l.prod x.len / (18446744073709551616 : Int)) (x.l.prod x.len % (18446744073709551616
  : Int)) - wN (x.l.use (x.l.prod x.len) x.len / (18446744073709551616 : Int)) (x.l.use (x.l.prod x.len) x.len % (18446744073709551616 : Int))) % (18446744073709551616 : Int) < (18446744073709551616 : Int)) ∧ ((0 : Int) ≤
  x.l.slk (x.l.prod x.len) x.len / (18446744073709551616 : Int) ∧ x.l.slk (x.l.prod x.len) x.len / (18446744073709551616 : Int) < (18446744073709551616 : Int)) ∧ (0 : Int) ≤ x.l.slk (x.l.prod x.len) x.len %
  (18446744073709551616 : Int) ∧ x.l.slk (x.l.prod x.len) x.len % (18446744073709551616 : Int) < (18446744073709551616 : Int)) ∧ wN ((wN (x.l.prod x.len / (18446744073709551616 : Int)) (x.l.prod x.len %
  (18446744073709551616 : Int)) - wN (x.l.use (x.l.prod x.len) x.len / (18446744073709551616 : Int)) (x.l.use (x.l.prod x.len) x.len % (18446744073709551616 : Int))) / (18446744073709551616 : Int)) ((wN (x.l.prod x.len /
  (18446744073709551616 : Int)) (x.l.prod x.len % (18446744073709551616 : Int)) - wN (x.l.use (x.l.prod x.len) x.len / (18446744073709551616 : Int)) (x.l.use (x.l.prod x.len) x.len % (18446744073709551616 : Int))) %
  (18446744073709551616 : Int)) ≤ (20282409603651670423947251286016 : Int)) ∧ wN (x.l.slk (x.l.prod x.len) x.len / (18446744073709551616 : Int)) (x.l.slk (x.l.prod x.len) x.len % (18446744073709551616 : Int)) ≤ wN ((wN
  (x.l.prod x.len / (18446744073709551616 : Int)) (x.l.prod x.len % (18446744073709551616 : Int)) - wN (x.l.use (x.l.prod x.len) x.len / (18446744073709551616 : Int)) (x.l.use (x.l.prod x.len) x.len % (18446744073709551616
  : Int))) / (18446744073709551616 : Int)) ((wN (x.l.prod x.len / (18446744073709551616 : Int)) (x.l.prod x.len % (18446744073709551616 : Int)) - wN (x.l.use (x.l.prod x.len) x.len / (18446744073709551616 : Int)) (x.l.use
  (x.l.prod x.len) x.len % (18446744073709551616 : Int))) % (18446744073709551616 : Int)) * (65536 : Int)) ∧ ∀ (v : Int), v = (↑(lst (leN (wN ((wN (x.l.prod x.len / (18446744073709551616 : Int)) (x.l.prod x.len %
  (18446744073709551616 : Int)) - wN (x.l.use (x.l.prod x.len) x.len / (18446744073709551616 : Int)) (x.l.use (x.l.prod x.len) x.len % (18446744073709551616 : Int))) / (18446744073709551616 : Int)) ((wN (x.l.prod x.len /
  (18446744073709551616 : Int)) (x.l.prod x.len % (18446744073709551616 : Int)) - wN (x.l.use (x.l.prod x.len) x.len / (18446744073709551616 : Int)) (x.l.use (x.l.prod x.len) x.len % (18446744073709551616 : Int))) %
  (18446744073709551616 : Int))) (wN (x.l.slk (x.l.prod x.len) x.len / (18446744073709551616 : Int)) (x.l.slk (x.l.prod x.len) x.len % (18446744073709551616 : Int)))) (0 : Nat) (65537 : Nat)) : Int) → ∀ (v_1 : Int), v_1 =
  (0 : Int) → x.Ok → (v = x.l.hor.fst ∧ v_1 = x.l.hor.snd ∧ True) ∧ True ∧ ((0 : Nat) ≤ (0 : Nat) ∧ x.n = x.n ∧ ∀ (j : Nat), j < x.n → x.k j = x.k j ∧ x.q j = x.q j ∧ x.t j = x.t j ∧ True) ∧ True)))) := by
  simp only [true_and, and_true, eq_self, Nat.le_refl, decide_eq_true_eq, decide_eq_false_iff_not, beq_iff_eq, beq_eq_false_iff_ne, implies_true, and_self, Int.not_lt, Int.not_le, ge_iff_le, ne_eq, Bool.not_eq_true', Bool.not_eq_false']
  simp only [wNdm, wcmpdm]
  rintro x hx _ _ _ _
  have eW : x.l.prod x.len = x.l.W := rfl
  have eU : x.l.use x.l.W x.len = x.l.U := rfl
  have eS : x.l.slk x.l.W x.len = x.l.S := rfl
  simp only [eW, eU, eS]
  refine ⟨⟨id, id⟩, hx, fun h v hv v1 hv1 _ => ?_, fun hr => ?_⟩
  · unfold LL.hor; rw [if_pos h]; exact ⟨hv, hv1⟩
  have hW := LL.prod_le hr (Nat.le_refl _)
  have hW : 1 ≤ x.l.W ∧ x.l.W ≤ 20282409603651670423947251286016 := hW
  have hu := LL.use_bd hr (show 0 ≤ x.l.W by omega) x.l.n (Nat.le_refl _)
  have hu : (0 ≤ x.l.U ∧ x.l.U ≤ x.l.n * x.l.W) ∧ 0 ≤ x.l.S ∧ x.l.S ≤ x.l.n * (x.l.W * 8191) := hu
  have h8 := hr.1
  have m1 : (x.l.n : Int) * x.l.W ≤ 8 * x.l.W := Int.mul_le_mul_of_nonneg_right (by omega) (by omega)
  have m2 : (x.l.n : Int) * (x.l.W * 8191) ≤ 8 * (x.l.W * 8191) := Int.mul_le_mul_of_nonneg_right (by omega) (by omega)
  have hh : x.l.hor = if x.l.S = 0 ∨ x.l.W ≤ x.l.U then (0, 0) else lestO (x.l.W - x.l.U) x.l.S := by unfold LL.hor; rw [if_neg (fun h => h hr)]
  rw [hh]
  generalize x.l.W = W at *
  generalize x.l.U = U at *
  generalize x.l.S = S at *
  generalize (x.l.n : Int) * W = p1 at *
  generalize (x.l.n : Int) * (W * 8191) = p2 at *
  have hb : ∀ n : Int, 0 ≤ n → n < 340282366920938463463374607431768211456 → (0 ≤ n / 18446744073709551616 ∧ n / 18446744073709551616 < 18446744073709551616) ∧ 0 ≤ n % 18446744073709551616 ∧ n % 18446744073709551616 < 18446744073709551616 := fun n h1 h2 => by omega
  have hlt : (if U < W then (-1 : Int) else if W < U then 1 else 0) < 0 → U < W := fun h2 => by
    by_cases hlt : U < W
    · exact hlt
    · rw [if_neg hlt] at h2; split at h2 <;> omega
  have hcz : wcmp (S / 18446744073709551616) (S % 18446744073709551616) 0 0 = if S < 0 then -1 else if 0 < S then 1 else 0 := by unfold wcmp; rw [wNdm, wN0]
  have bW := hb W (by omega) (by omega)
  have bU := hb U (by omega) (by omega)
  have bS := hb S (by omega) (by omega)
  have spec : U < W → ¬ S = 0 → ((W - U) * 65536 < S → lestO (W - U) S = (0, 14)) ∧ (S ≤ (W - U) * 65536 → lestO (W - U) S = (((lst (leN (W - U) S) 0 65537 : Nat) : Int), 0)) := fun hUW _ => by
    have hs := lst_spec (leN (W - U) S) 65537 0
    have hbd := lst_bd (leN (W - U) S) 65537 0
    unfold lestO
    generalize lst (leN (W - U) S) 0 65537 = N at *
    refine ⟨fun h => ?_, fun h => ?_⟩
    · rw [if_pos]
      by_cases hN : 65536 < N
      · exact hN
      · exfalso
        rcases hs.2 with h2 | h2
        · omega
        · unfold leN at h2
          have h2 := of_decide_eq_true h2
          have := Int.mul_le_mul_of_nonneg_left (show (N : Int) ≤ 65536 by omega) (show 0 ≤ W - U by omega)
          omega
    · rw [if_neg]
      intro hN
      have h2 := hs.1 65536 (Nat.zero_le _) hN
      unfold leN at h2
      exact absurd h (of_decide_eq_false h2)
  rw [hcz]
  unfold two128
  refine ⟨⟨id, id⟩, ⟨hx, hr⟩, ⟨bS, by decide⟩, fun h v hv v1 hv1 _ => ?_, fun h => ⟨⟨bU, bW⟩, fun h2 v hv v1 hv1 _ => ?_, fun h2 => ?_⟩⟩
  · have : S = 0 := by split at h; omega; split at h <;> omega
    rw [if_pos (.inl this)]; exact ⟨hv, hv1⟩
  · have : W ≤ U := by
      by_cases hlt : U < W
      · rw [if_pos hlt] at h2; omega
      · omega
    rw [if_pos (.inr this)]; exact ⟨hv, hv1⟩
  have hUW := hlt h2
  have hS0 : ¬ S = 0 := fun h3 => h (by rw [h3]; rfl)
  have bL := hb (W - U) (by omega) (by omega)
  have bP := hb ((W - U) * 65536) (by omega) (by omega)
  obtain ⟨s1, s2⟩ := spec hUW hS0
  rw [if_neg (show ¬ (S = 0 ∨ W ≤ U) by omega)]
  refine ⟨⟨⟨bW, bU⟩, Int.le_of_lt hUW⟩, ⟨bL, by decide, by omega⟩, ⟨bP, bS⟩, fun hc v hv v1 hv1 _ => ?_, fun hc => ⟨⟨⟨⟨bL, bS⟩, by omega⟩, ?_⟩, fun v hv v1 hv1 _ => ?_⟩⟩
  · have hc : (W - U) * 65536 < S := by
      by_cases h9 : (W - U) * 65536 < S
      · exact h9
      · rw [if_neg h9] at hc; split at hc <;> omega
    rw [s1 hc]; exact ⟨hv, hv1⟩
  all_goals have hc : S ≤ (W - U) * 65536 := (by
    by_cases h9 : (W - U) * 65536 < S
    · rw [if_pos h9] at hc; omega
    · omega)
  · exact hc
  · rw [s2 hc]; exact ⟨hv, hv1⟩

def rhor_C (_ : LS) : Cfg := { Γ := Go.Sx.look tRhor, names := true }
theorem rhor_al (x : LS) : Shown (rhorP.vc Try.prog (rhor_C x) Try.f17 x) := ⟨@Eq.mp _ _ (by kernel_rfl) (rhor_vc x)⟩
theorem rhor_ok : SpOk Try.prog 17 rhorP.sp := @Pat.okS _ rhorP Try.prog rhor_C 17 Try.f17 (fun x => cfg_tab rfl tRhor_ok) (by kernel_rfl) Try.func17 (fun _ => rfl) rhor_al
end Go.Proofs.Ytijpjhelgggmfaa
