import Derived.Test.YtijpjhelgggmfaaF3
open Go Go.Sx Go.Proofs
set_option maxRecDepth 100000
namespace Go.Proofs.Ytijpjhelgggmfaa

theorem LL.fine_all {l : LL} (hr : l.right) (H : Int) : l.fine H ↔ ∀ t : Nat, 1 ≤ t → (t : Int) ≤ H → l.dem t l.n ≤ t := by
  rw [LL.fine_iff hr]
  constructor
  · intro hf t
    induction t with
    | zero => intro h; omega
    | succ t ih =>
      intro _ hle
      have ih : l.dem t l.n ≤ t := by
        by_cases h0 : t = 0
        · subst h0; rw [show ((0 : Nat) : Int) = 0 from rfl, LL.dem_zero hr _ (Nat.le_refl _)]; exact Int.le_refl _
        · exact ih (by omega) (by omega)
      by_cases hp : ∀ j, j < l.n → ∀ m, l.pt j m ≠ ((t + 1 : Nat) : Int)
      · rw [LL.dem_step hr (by omega) hp _ (Nat.le_refl _), show ((t + 1 : Nat) : Int) - 1 = t by omega]
        omega
      · simp only [Classical.not_forall, Decidable.not_not, ne_eq] at hp
        obtain ⟨j, hj, m, e⟩ := hp
        have := hf j hj m (by omega)
        rw [e] at this
        exact this
  · intro h j hj m hm
    have hp := LL.pt_bd hr hj m
    have := h (l.pt j m).toNat (by omega) (by omega)
    rwa [show (((l.pt j m).toNat : Nat) : Int) = l.pt j m by omega] at this
def rborneP : Pat LS where
  view | [t], H => some (viewL t H) | _, _ => none
  args x := [x.v 0]
  H x := [x.regR]
  out x := .need x.Ok (.retq (.tup (.cons (.bool x.l.borne.1) (.cons (.int .i64 x.l.borne.2) .nil))))
def rboC (x : LS) : Fam where
  α := Bool
  I _ := x.l.right ∧ ¬ (x.l.W < x.l.U ∨ (x.l.U = x.l.W ∧ ¬ x.l.S = 0))
  st _ := { sl := mkSl 52 [(0, x.v 0)], H := [x.regR] }
  μ _ := 0
def rboF (x : LS) : Fam where
  α := Nat
  I y := (x.l.right ∧ ¬ (x.l.W < x.l.U ∨ (x.l.U = x.l.W ∧ ¬ x.l.S = 0)) ∧ x.l.hor.2 = 0) ∧ 1 ≤ y ∧ (y : Int) ≤ x.l.hor.1 + 1 ∧ ∀ t : Nat, 1 ≤ t → t < y → x.l.dem t x.len ≤ t
  st y := { sl := mkSl 52 [(0, x.v 0), (8, .int .u64 x.l.hor.1), (10, .int .u64 y)], H := [x.regR] }
  μ y := (x.l.hor.1 + 1).toNat - y
def rboK (x : LS) : Nat → Gam
  | 7 => .l [rboC x]
  | _ => .l []
def tRborne : Tab := [(13, rrP.sp), (37, rsumP.sp), (38, rcmpPt.sp), (17, rhorP.sp), (15, rdemP.sp)]
theorem tRborne_ok : TabOk Try.prog tRborne := (tab_cons rright_ok (tab_cons rsum_ok (tab_cons rcmp_ok (tab_cons rhor_ok (tab_cons rdem_ok tab_nil)))))

theorem rborne_vc : ∀ (x : LS), x.Ok ∧ True → ∀ (v : Int), v = (0 : Int) → ((((x.nil = true → x.nil = true) ∧ (x.nil = false → x.nil = false ∧ True ∧ True ∧ x.lo = x.lo ∧ x.len = x.len ∧ x.cap = x.cap)) ∧ True) ∧ ((0 : Nat) ≤ (0 : Nat) ∧
  x.n = x.n ∧ ∀ (j : Nat), j < x.n → x.k j = x.k j ∧ x.q j = x.q j ∧ x.t j = x.t j ∧ True) ∧ True) ∧ x.Ok ∧ ((!decide x.l.right) = true → ∀ (v : Int), v = (11 : Int) → x.Ok → (x.l.borne.fst = false ∧ v = x.l.borne.snd ∧
  True) ∧ True ∧ ((0 : Nat) ≤ (0 : Nat) ∧ x.n = x.n ∧ ∀ (j : Nat), j < x.n → x.k j = x.k j ∧ x.q j = x.q j ∧ x.t j = x.t j ∧ True) ∧ True) ∧ ((!decide x.l.right) = false → ((((x.nil = true → x.nil = true) ∧ (x.nil = false
  → x.nil = false ∧ True ∧ True ∧ x.lo = x.lo ∧ x.len = x.len ∧ x.cap = x.cap)) ∧ True) ∧ ((0 : Nat) ≤ (0 : Nat) ∧ x.n = x.n ∧ ∀ (j : Nat), j < x.n → x.k j = x.k j ∧ x.q j = x.q j ∧ x.t j = x.t j ∧ True) ∧ True) ∧ (x.Ok ∧
  x.l.right) ∧ (((x.l.use (x.l.prod x.len) x.len / (18446744073709551616 : Int) = x.l.use (x.l.prod x.len) x.len / (18446744073709551616 : Int) ∧ x.l.use (x.l.prod x.len) x.len % (18446744073709551616 : Int) = x.l.use
  (x.l.prod x.len) x.len % (18446744073709551616 : Int) ∧ True) ∧ (x.l.prod x.len / (18446744073709551616 : Int) = x.l.prod x.len / (18446744073709551616 : Int) ∧ x.l.prod x.len % (18446744073709551616 : Int) = x.l.prod
  x.len % (18446744073709551616 : Int) ∧ True) ∧ True) ∧ True) ∧ ((((0 : Int) ≤ x.l.use (x.l.prod x.len) x.len / (18446744073709551616 : Int) ∧ x.l.use (x.l.prod x.len) x.len / (18446744073709551616 : Int) <
  (18446744073709551616 : Int)) ∧ (0 : Int) ≤ x.l.use (x.l.prod x.len) x.len % (18446744073709551616 : Int) ∧ x.l.use (x.l.prod x.len) x.len % (18446744073709551616 : Int) < (18446744073709551616 : Int)) ∧ ((0 : Int) ≤
  x.l.prod x.len / (18446744073709551616 : Int) ∧ x.l.prod x.len / (18446744073709551616 : Int) < (18446744073709551616 : Int)) ∧ (0 : Int) ≤ x.l.prod x.len % (18446744073709551616 : Int) ∧ x.l.prod x.len %
  (18446744073709551616 : Int) < (18446744073709551616 : Int)) ∧ ∀ (v : Int), v = wcmp (x.l.use (x.l.prod x.len) x.len / (18446744073709551616 : Int)) (x.l.use (x.l.prod x.len) x.len % (18446744073709551616 : Int))
  (x.l.prod x.len / (18446744073709551616 : Int)) (x.l.prod x.len % (18446744073709551616 : Int)) → ((decide (v > (0 : Int)) = true → ∀ (v : Int), v = (0 : Int) → x.Ok → (x.l.borne.fst = false ∧ v = x.l.borne.snd ∧ True) ∧
  True ∧ ((0 : Nat) ≤ (0 : Nat) ∧ x.n = x.n ∧ ∀ (j : Nat), j < x.n → x.k j = x.k j ∧ x.q j = x.q j ∧ x.t j = x.t j ∧ True) ∧ True) ∧ (decide (v > (0 : Int)) = false → ((v == (0 : Int)) = true → ((!(x.l.slk (x.l.prod x.len)
  x.len / (18446744073709551616 : Int) == (0 : Int) && (x.l.slk (x.l.prod x.len) x.len % (18446744073709551616 : Int) == (0 : Int) && true))) = true → ∀ (v : Int), v = (0 : Int) → x.Ok → (x.l.borne.fst = false ∧ v =
  x.l.borne.snd ∧ True) ∧ True ∧ ((0 : Nat) ≤ (0 : Nat) ∧ x.n = x.n ∧ ∀ (j : Nat), j < x.n → x.k j = x.k j ∧ x.q j = x.q j ∧ x.t j = x.t j ∧ True) ∧ True) ∧ ((!(x.l.slk (x.l.prod x.len) x.len / (18446744073709551616 : Int)
  == (0 : Int) && (x.l.slk (x.l.prod x.len) x.len % (18446744073709551616 : Int) == (0 : Int) && true))) = false → ∃ (_ : Bool), (x.l.right ∧ ¬(x.l.W < x.l.U ∨ x.l.U = x.l.W ∧ ¬x.l.S = (0 : Int))) ∧ ((((x.nil = true →
  x.nil = true) ∧ (x.nil = false → x.nil = false ∧ True ∧ True ∧ x.lo = x.lo ∧ x.len = x.len ∧ x.cap = x.cap)) ∧ True) ∧ ((0 : Nat) ≤ (0 : Nat) ∧ x.n = x.n ∧ ∀ (j : Nat), j < x.n → x.k j = x.k j ∧ x.q j = x.q j ∧ x.t j =
  x.t j ∧ True) ∧ True) ∧ True)) ∧ ((v == (0 : Int)) = false → ∃ (_ : Bool), (x.l.right ∧ ¬(x.l.W < x.l.U ∨ x.l.U = x.l.W ∧ ¬x.l.S = (0 : Int))) ∧ ((((x.nil = true → x.nil = true) ∧ (x.nil = false → x.nil = false ∧ True ∧
  True ∧ x.lo = x.lo ∧ x.len = x.len ∧ x.cap = x.cap)) ∧ True) ∧ ((0 : Nat) ≤ (0 : Nat) ∧ x.n = x.n ∧ ∀ (j : Nat), j < x.n → x.k j = x.k j ∧ x.q j = x.q j ∧ x.t j = x.t j ∧ True) ∧ True) ∧ True))) ∧ ∀ (_ : Bool), x.l.right
  ∧ ¬(x.l.W < x.l.U ∨ x.l.U = x.l.W ∧ ¬x.l.S = (0 : Int)) → ((((x.nil = true → x.nil = true) ∧ (x.nil = false → x.nil = false ∧ True ∧ True ∧ x.lo = x.lo ∧ x.len = x.len ∧ x.cap = x.cap)) ∧ True) ∧ ((0 : Nat) ≤ (0 : Nat) ∧
  x.n = x.n ∧ ∀ (j : Nat), j < x.n → x.k j = x.k j ∧ x.q j = x.q j ∧ x.t j = x.t j ∧ True) ∧ True) ∧ x.Ok ∧ ∀ (v : Int), v = x.l.hor.fst → ∀ (v_1 : Int), v_1 = x.l.hor.snd → ((v_1 != (0 : Int)) = true → ∀ (v : Int), v =
  v_1 → x.Ok → (x.l.borne.fst = false ∧ v = x.l.borne.snd ∧ True) ∧ True ∧ ((0 : Nat) ≤ (0 : Nat) ∧ x.n = x.n ∧ ∀ (j : Nat), j < x.n → x.k j = x.k j ∧ x.q j = x.q j ∧ x.t j = x.t j ∧ True) ∧ True) ∧ ((v_1 != (0 : Int)) =
  false → ∀ (v_2 : Int), v_2 = (1 : Int) → (∃ (y : Nat), ((x.l.right ∧ ¬(x.l.W < x.l.U ∨ x.l.U = x.l.W ∧ ¬x.l.S = (0 : Int)) ∧ x.l.hor.snd = (0 : Int)) ∧ (1 : Nat) ≤ y ∧ (↑y : Int) ≤ x.l.hor.fst + (1 : Int) ∧ ∀ (t : Nat),
  (1 : Nat) ≤ t → t < y → x.l.dem (↑t : Int) x.len ≤ (↑t : Int)) ∧ ((((x.nil = true → x.nil = true) ∧ (x.nil = false → x.nil = false ∧ True ∧ True ∧ x.lo = x.lo ∧ x.len = x.len ∧ x.cap = x.cap)) ∧ v = x.l.hor.fst ∧ v_2 =
  (↑y : Int) ∧ True) ∧ ((0 : Nat) ≤ (0 : Nat) ∧ x.n = x.n ∧ ∀ (j : Nat), j < x.n → x.k j = x.k j ∧ x.q j = x.q j ∧ x.t j = x.t j ∧ True) ∧ True) ∧ True) ∧ ∀ (y : Nat), ((x.l.right ∧ ¬(x.l.W < x.l.U ∨ x.l.U = x.l.W ∧ ¬x.l.S
  = (0 : Int)) ∧ x.l.hor.snd = (0 : Int)) ∧ (1 : Nat) ≤ y ∧ (↑y : Int) ≤ x.l.hor.fst + (1 : Int) ∧ ∀ (t : Nat), (1 : Nat) ≤ t → t < y → x.l.dem (↑t : Int) x.len ≤ (↑t : Int)) → (decide ((↑y : Int) ≤ x.l.hor.fst) = true →
  ((((x.nil = true → x.nil = true) ∧ (x.nil = false → x.nil = false ∧ True ∧ True ∧ x.lo = x.lo ∧ x.len = x.len ∧ x.cap = x.cap)) ∧ (↑y : Int) = (↑y : Int) ∧ True) ∧ ((0 : Nat) ≤ (0 : Nat) ∧ x.n = x.n ∧ ∀ (j : Nat), j <
  x.n → x.k j = x.k j ∧ x.q j = x.q j ∧ x.t j = x.t j ∧ True) ∧ True) ∧ (x.Ok ∧ (0 : Int) ≤ (↑y : Int) ∧ (↑y : Int) < (18446744073709551616 : Int)) ∧ (decide ((if x.l.right then x.l.dem (min (↑y : Int) (1099511627776 :
  Int)) x.len else (0 : Int)) > (↑y : Int)) = true → ∀ (v : Int), v = (0 : Int) → x.Ok → (x.l.borne.fst = false ∧ v = x.l.borne.snd ∧ True) ∧ True ∧ ((0 : Nat) ≤ (0 : Nat) ∧ x.n = x.n ∧ ∀ (j : Nat), j < x.n → x.k j = x.k j
  ∧ x.q j = x.q j ∧ x.t j = x.t j ∧ True) ∧ True) ∧ (decide ((if x.l.right then x.l.dem (min (↑y : Int) (1099511627776 : Int)) x.len else (0 : Int)) > (↑y : Int)) = false → ∀ (v : Int), v = IntKind.u64.wrap ((↑y : Int) +
  (1 : Int)) → ∃ (y_1 : Nat), ((x.l.right ∧ ¬(x.l.W < x.l.U ∨ x.l.U = x.l.W ∧ ¬x.l.S = (0 : Int)) ∧ x.l.hor.snd = (0 : Int)) ∧ (1 : Nat) ≤ y_1 ∧ (↑y_1 : Int) ≤ x.l.hor.fst + (1 : Int) ∧ ∀ (t : Nat), (1 : Nat) ≤ t → t < y_1
  → x.l.dem (↑t : Int) x.len ≤ (↑t : Int)) ∧ ((((x.nil = true → x.nil = true) ∧ (x.nil = false → x.nil = false ∧ True ∧ True ∧ x.lo = x.lo ∧ x.len = x.len ∧ x.cap = x.cap)) ∧ x.l.hor.fst = x.l.hor.fst ∧ v = (↑y_1 : Int) ∧
  True) ∧ ((0 : Nat) ≤ (0 : Nat) ∧ x.n = x.n ∧ ∀ (j : Nat), j < x.n → x.k j = x.k j ∧ x.q j = x.q j ∧ x.t j = x.t j ∧ True) ∧ True) ∧ (rboF x).μ y_1 < (rboF x).μ y)) ∧ (decide ((↑y : Int) ≤ x.l.hor.fst) = false → ∀ (v :
  Int), v = (0 : Int) → x.Ok → (x.l.borne.fst = true ∧ v = x.l.borne.snd ∧ True) ∧ True ∧ ((0 : Nat) ≤ (0 : Nat) ∧ x.n = x.n ∧ ∀ (j : Nat), j < x.n → x.k j = x.k j ∧ x.q j = x.q j ∧ x.t j = x.t j ∧ True) ∧ True))) := by
  simp only [true_and, and_true, eq_self, Nat.le_refl, decide_eq_true_eq, decide_eq_false_iff_not, beq_iff_eq, beq_eq_false_iff_ne, implies_true, and_self, bne_iff_ne, Int.not_lt, Int.not_le, gt_iff_lt, ne_eq, IntKind.wrap_u64, bne_eq_false_iff_eq, Bool.not_eq_true', Bool.not_eq_false']
  simp only [wcmpdm]
  rintro x hx _ _
  have eW : x.l.prod x.len = x.l.W := rfl
  have eU : x.l.use x.l.W x.len = x.l.U := rfl
  have eS : x.l.slk x.l.W x.len = x.l.S := rfl
  simp only [eW, eU, eS]
  refine ⟨⟨id, id⟩, hx, fun h v hv _ => ?_, fun hr => ⟨⟨id, id⟩, ⟨hx, hr⟩, ?_⟩⟩
  · unfold LL.borne; rw [if_pos h]; exact ⟨rfl, hv⟩
  have hW := LL.prod_le hr (Nat.le_refl _)
  have hW : 1 ≤ x.l.W ∧ x.l.W ≤ 20282409603651670423947251286016 := hW
  have hu := LL.use_bd hr (show 0 ≤ x.l.W by omega) x.l.n (Nat.le_refl _)
  have hu : (0 ≤ x.l.U ∧ x.l.U ≤ x.l.n * x.l.W) ∧ 0 ≤ x.l.S ∧ x.l.S ≤ x.l.n * (x.l.W * 8191) := hu
  have h8 := hr.1
  have m1 : (x.l.n : Int) * x.l.W ≤ 8 * x.l.W := Int.mul_le_mul_of_nonneg_right (by omega) (by omega)
  have m2 : (x.l.n : Int) * (x.l.W * 8191) ≤ 8 * (x.l.W * 8191) := Int.mul_le_mul_of_nonneg_right (by omega) (by omega)
  have hb : ∀ n : Int, 0 ≤ n → n < 340282366920938463463374607431768211456 → (0 ≤ n / 18446744073709551616 ∧ n / 18446744073709551616 < 18446744073709551616) ∧ 0 ≤ n % 18446744073709551616 ∧ n % 18446744073709551616 < 18446744073709551616 := fun n h1 h2 => by omega
  have bW := hb x.l.W (by omega) (by omega)
  have bU := hb x.l.U (by omega) (by omega)
  refine ⟨⟨bU, bW⟩, fun c hc => ⟨?_, fun _ hg => ?_⟩⟩
  · have hbo : (x.l.W < x.l.U ∨ (x.l.U = x.l.W ∧ ¬ x.l.S = 0)) → x.l.borne = (false, 0) := fun h => by unfold LL.borne; rw [if_neg (fun h => h hr), if_pos h]
    have hsz : ((x.l.S / 18446744073709551616 == 0 && (x.l.S % 18446744073709551616 == 0 && true)) = true) ↔ x.l.S = 0 := by
      simp only [Bool.and_eq_true, beq_iff_eq, and_true]; omega
    generalize hbz : (x.l.S / 18446744073709551616 == 0 && (x.l.S % 18446744073709551616 == 0 && true)) = z at *
    have hcs : (0 < c ↔ x.l.W < x.l.U) ∧ (c = 0 ↔ x.l.U = x.l.W) := by
      by_cases h1 : x.l.U < x.l.W
      · rw [if_pos h1] at hc; omega
      · rw [if_neg h1] at hc; split at hc <;> omega
    obtain ⟨c1, c2⟩ := hcs
    refine ⟨fun h v hv _ => ?_, fun h => ⟨fun h2 => ⟨fun h3 v hv _ => ?_, fun h3 => ⟨true, ⟨hr, ?_⟩, id, id⟩⟩, fun h2 => ⟨true, ⟨hr, ?_⟩, id, id⟩⟩⟩
    · rw [hbo (.inl (c1.1 h))]; exact ⟨rfl, hv⟩
    · rw [hbo (.inr ⟨c2.1 h2, fun h4 => by rw [hsz.2 h4] at h3; cases h3⟩)]; exact ⟨rfl, hv⟩
    · rintro (h4 | h4)
      · have := c1.2 h4; omega
      · exact h4.2 (hsz.1 h3)
    · rintro (h4 | h4)
      · have := c1.2 h4; omega
      · exact h2 (c2.2 h4.1)
  · obtain ⟨hr, hok⟩ := hg
    have hb1 : ¬ x.l.hor.2 = 0 → x.l.borne = (false, x.l.hor.2) := fun h => by unfold LL.borne; rw [if_neg (fun h => h hr), if_neg hok, if_pos h]
    have hb2 : x.l.hor.2 = 0 → x.l.borne = (decide (x.l.fine x.l.hor.1), 0) := fun h => by unfold LL.borne; rw [if_neg (fun h => h hr), if_neg hok, if_neg (fun h2 => h2 h)]
    have hfi := LL.fine_all hr x.l.hor.1
    have hhb := x.l.hor_bd
    refine ⟨⟨id, id⟩, hx, fun v hv v1 hv1 => ⟨fun h v2 hv2 _ => ?_, fun h v2 hv2 => ?_⟩⟩
    · rw [hb1 (by omega)]; exact ⟨rfl, by omega⟩
    have h0 : x.l.hor.2 = 0 := by omega
    have hb2 := hb2 h0
    refine ⟨⟨1, ⟨⟨hr, hok, h0⟩, Nat.le_refl _, (by show (1 : Int) ≤ _; omega), fun t h1 h2 => by omega⟩, ⟨id, id⟩, hv, hv2⟩, fun y hy => ?_⟩
    obtain ⟨-, y1, y2, y3⟩ := hy
    refine ⟨fun hle => ⟨⟨id, id⟩, ⟨hx, by omega, by omega⟩, fun hbad v4 hv4 _ => ?_, fun hgood v4 hv4 => ⟨y + 1, ⟨⟨hr, hok, h0⟩, by omega, by omega, fun t h1 h2 => ?_⟩, ⟨⟨id, id⟩, by omega⟩, ?_⟩⟩, fun hgt v4 hv4 _ => ?_⟩
    · rw [if_pos hr, show min (y : Int) 1099511627776 = y by omega] at hbad
      rw [hb2]
      refine ⟨decide_eq_false fun hf => ?_, hv4⟩
      have := hfi.1 hf y y1 hle
      have e : x.l.dem y x.l.n = x.l.dem y x.len := rfl
      omega
    · rw [if_pos hr, show min (y : Int) 1099511627776 = y by omega] at hgood
      by_cases e : t = y
      · rw [e]; exact hgood
      · exact y3 t h1 (by omega)
    · show (x.l.hor.1 + 1).toNat - (y + 1) < (x.l.hor.1 + 1).toNat - y
      omega
    · rw [hb2]
      exact ⟨decide_eq_true (hfi.2 fun t h1 h2 => y3 t h1 (by omega)), hv4⟩

def rborne_C (x : LS) : Cfg := { Γ := Go.Sx.look tRborne, names := true, loops := onlyAt 11 [rboF x], cuts := rboK x }
theorem rborne_al (x : LS) : Shown (rborneP.vc Try.prog (rborne_C x) Try.f19 x) := ⟨@Eq.mp _ _ (by kernel_rfl) (rborne_vc x)⟩
theorem rborne_ok : SpOk Try.prog 19 rborneP.sp := @Pat.okS _ rborneP Try.prog rborne_C 19 Try.f19 (fun x => cfg_tab rfl tRborne_ok) (by kernel_rfl) Try.func19 (fun _ => rfl) rborne_al
end Go.Proofs.Ytijpjhelgggmfaa
