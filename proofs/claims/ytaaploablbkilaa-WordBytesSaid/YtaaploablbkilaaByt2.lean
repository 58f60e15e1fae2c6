import Derived.Test.YtaaploablbkilaaWid3
open Go Go.Sx Go.Proofs
set_option maxRecDepth 100000
namespace Go.Proofs.Ytaaploablbkilaa

theorem getW_low (b : Nat → Int) (a : Nat) : ∀ k, getW b a (k + 1) = b a + 256 * getW b (a + 1) k
  | 0 => by simp [getW]
  | k + 1 => by
    rw [getW, getW_low b a k, getW, show a + 1 + k = a + (k + 1) by omega, show 8 * (k + 1) = 8 * k + 8 by omega, Int.pow_add, show (2 : Int) ^ 8 = 256 from rfl, ← Int.mul_assoc]
    omega
def rgetFam (x : BS) (a : Int) : Fam where
  α := Nat
  I y := y ≤ 4
  st y := { sl := mkSl 32 [(0, x.t 0), (1, .int .i64 a), (4, .int .u32 0), (5, .ff), (6, .int .u32 (getW x.b (a.toNat + y) (4 - y))), (7, .int .i64 (y - 1))], H := [x.reg] }
  μ y := y
theorem rget_vc : ∀ (x : BS) (a : Int),
    (x.Ok ∧ (-9223372036854775808 : Int) ≤ a ∧ a < (9223372036854775808 : Int)) ∧ True →
      ∀ (v : Int),
        v = (0 : Int) →
          (decide (a < (0 : Int)) = true →
              ∀ (v : Int),
                v = (0 : Int) →
                  x.Ok ∧ (-9223372036854775808 : Int) ≤ a ∧ a < (9223372036854775808 : Int) →
                    ((v = if fitsB x a then getW x.b a.toNat (4 : Nat) else (0 : Int)) ∧ decide (fitsB x a) = false ∧ True) ∧
                      True ∧ ((0 : Nat) ≤ (0 : Nat) ∧ x.len = x.len ∧ ∀ (j : Nat), j < x.len → x.b j = x.b j) ∧ True) ∧
            (decide (a < (0 : Int)) = false →
              (x.nil = true → x.len = (0 : Nat)) ∧
                (decide (a > IntKind.i64.wrap ((↑x.len : Int) - (4 : Int))) = true →
                    ∀ (v : Int),
                      v = (0 : Int) →
                        x.Ok ∧ (-9223372036854775808 : Int) ≤ a ∧ a < (9223372036854775808 : Int) →
                          ((v = if fitsB x a then getW x.b a.toNat (4 : Nat) else (0 : Int)) ∧ decide (fitsB x a) = false ∧ True) ∧
                            True ∧ ((0 : Nat) ≤ (0 : Nat) ∧ x.len = x.len ∧ ∀ (j : Nat), j < x.len → x.b j = x.b j) ∧ True) ∧
                  (decide (a > IntKind.i64.wrap ((↑x.len : Int) - (4 : Int))) = false →
                    ∀ (v_1 : Int),
                      v_1 = (0 : Int) →
                        ∀ (v_2 : Int),
                          v_2 = (3 : Int) →
                            (∃ (y : Nat),
                                (rgetFam x a).I y ∧
                                  ((((x.nil = true → x.nil = true) ∧ (x.nil = false → x.nil = false ∧ True ∧ True ∧ (0 : Nat) = (0 : Nat) ∧ x.len = x.len ∧ x.cap = x.cap)) ∧
                                        a = a ∧ v = (0 : Int) ∧ True ∧ v_1 = getW x.b (a.toNat + y) ((4 : Nat) - y) ∧ v_2 = (↑y : Int) - (1 : Int) ∧ True) ∧
                                      ((0 : Nat) ≤ (0 : Nat) ∧ x.len = x.len ∧ ∀ (j : Nat), j < x.len → x.b j = x.b j) ∧ True) ∧
                                    True) ∧
                              ∀ (y : Nat),
                                (rgetFam x a).I y →
                                  (decide ((↑y : Int) - (1 : Int) ≥ (0 : Int)) = true →
                                      (x.nil = true → x.len = (0 : Nat)) ∧
                                        ((0 : Int) ≤ IntKind.i64.wrap (a + ((↑y : Int) - (1 : Int))) ∧ IntKind.i64.wrap (a + ((↑y : Int) - (1 : Int))) < (↑x.len : Int)) ∧
                                          (0 : Nat) + (IntKind.i64.wrap (a + ((↑y : Int) - (1 : Int)))).toNat < x.len ∧
                                            ∀ (v : Int),
                                              v =
                                                  IntKind.u32.wrap
                                                    (IntKind.u32.wrap (getW x.b (a.toNat + y) ((4 : Nat) - y) * (256 : Int)) +
                                                      IntKind.u32.wrap (x.b ((0 : Nat) + (IntKind.i64.wrap (a + ((↑y : Int) - (1 : Int)))).toNat))) →
                                                ∀ (v_3 : Int),
                                                  v_3 = IntKind.i64.wrap ((↑y : Int) - (1 : Int) - (1 : Int)) →
                                                    ∃ (y_1 : Nat),
                                                      (rgetFam x a).I y_1 ∧
                                                        ((((x.nil = true → x.nil = true) ∧
                                                                (x.nil = false → x.nil = false ∧ True ∧ True ∧ (0 : Nat) = (0 : Nat) ∧ x.len = x.len ∧ x.cap = x.cap)) ∧
                                                              a = a ∧
                                                                (0 : Int) = (0 : Int) ∧
                                                                  True ∧ v = getW x.b (a.toNat + y_1) ((4 : Nat) - y_1) ∧ v_3 = (↑y_1 : Int) - (1 : Int) ∧ True) ∧
                                                            ((0 : Nat) ≤ (0 : Nat) ∧ x.len = x.len ∧ ∀ (j : Nat), j < x.len → x.b j = x.b j) ∧ True) ∧
                                                          (rgetFam x a).μ y_1 < (rgetFam x a).μ y) ∧
                                    (decide ((↑y : Int) - (1 : Int) ≥ (0 : Int)) = false →
                                      ∀ (v : Int),
                                        v = getW x.b (a.toNat + y) ((4 : Nat) - y) →
                                          x.Ok ∧ (-9223372036854775808 : Int) ≤ a ∧ a < (9223372036854775808 : Int) →
                                            ((v = if fitsB x a then getW x.b a.toNat (4 : Nat) else (0 : Int)) ∧ decide (fitsB x a) = true ∧ True) ∧
                                              True ∧ ((0 : Nat) ≤ (0 : Nat) ∧ x.len = x.len ∧ ∀ (j : Nat), j < x.len → x.b j = x.b j) ∧ True))) := by
  simp only [true_and, and_true, eq_self, Nat.le_refl, decide_eq_true_eq, decide_eq_false_iff_not, implies_true, and_self, Int.not_lt, Int.not_le, ge_iff_le, gt_iff_lt, Nat.zero_add, IntKind.wrap_i64]
  rintro x a ⟨hx, ha⟩
  obtain ⟨xnil, xlen, xcap, xb⟩ := id hx
  have hI : ∀ z : Nat, (rgetFam x a).I z = (z ≤ 4) := fun _ => rfl
  have hM : ∀ z : Nat, (rgetFam x a).μ z = z := fun _ => rfl
  simp only [hI, hM]
  have e1 : ((x.len : Int) - 4 + 9223372036854775808) % 18446744073709551616 - 9223372036854775808 = x.len - 4 := by omega
  rw [e1]
  rintro _ rfl
  refine ⟨fun h v hv _ => ⟨by rw [if_neg (by unfold fitsB; omega)]; exact hv, by unfold fitsB; omega⟩, fun h0 => ⟨xnil, fun h1 v hv _ => ⟨by rw [if_neg (by unfold fitsB; omega)]; exact hv, by unfold fitsB; omega⟩, fun h1 => ?_⟩⟩
  rintro _ rfl _ rfl
  refine ⟨⟨4, by omega, ⟨fun h => h, fun h => h⟩, rfl, rfl, rfl⟩, fun y hy => ⟨fun hlt => ⟨xnil, by omega, by omega, fun v hv w hw => ⟨y - 1, by omega, ⟨⟨fun h => h, fun h => h⟩, ?_, by omega⟩, by omega⟩⟩, fun hge v hv _ => ?_⟩⟩
  · obtain ⟨m, rfl⟩ : ∃ m, y = m + 1 := ⟨y - 1, by omega⟩
    have e2 : ((a + (((m + 1 : Nat) : Int) - 1) + 9223372036854775808) % 18446744073709551616 - 9223372036854775808).toNat = a.toNat + m := by omega
    rw [e2] at hv
    rw [hv, show m + 1 - 1 = m by omega, show 4 - m = (4 - (m + 1)) + 1 by omega, getW_low, show a.toNat + m + 1 = a.toNat + (m + 1) by omega]
    obtain ⟨g1, g2⟩ := getW_lt (b := x.b) (a := a.toNat + (m + 1)) (4 - (m + 1)) fun j hj => xb _ (by omega)
    obtain ⟨c1, c2⟩ := xb (a.toNat + m) (by omega)
    have g3 := pow_le' (show 8 * (4 - (m + 1)) ≤ 24 by omega)
    rw [show (2 : Int) ^ 24 = 16777216 from by decide] at g3
    rw [wrap_u32_of (show u32 (x.b (a.toNat + m)) from ⟨by omega, by omega⟩), wrap_u32_of (show u32 (getW x.b (a.toNat + (m + 1)) (4 - (m + 1)) * 256) from ⟨by omega, by omega⟩), wrap_u32_of ⟨by omega, by omega⟩]
    omega
  · have : y = 0 := by omega
    subst this
    rw [if_pos ⟨h0, h1⟩]
    exact ⟨hv, h0, h1⟩

def rget_C (x : (BS × Int)) : Cfg := { Γ := Go.Sx.look [], names := true, loops := onlyAt 5 [rgetFam (x.1) (x.2)] }
theorem rget_al (x : (BS × Int)) : Shown (getPt.vc Try.prog (rget_C x) Try.f17 x) := ⟨@Eq.mp _ _ (by kernel_rfl) (rget_vc (x.1) (x.2))⟩
theorem rget_ok : SpOk Try.prog 17 getPt.sp := @Pat.okS _ getPt Try.prog rget_C 17 Try.f17 (fun x => cfg_nil rfl) (by kernel_rfl) Try.func17 (fun _ => rfl) rget_al
def byW (w : Int) (j : Nat) : Int := w / 2 ^ (8 * j) % 256
def fourPt : Pat Int where
  view | [.int .u32 w], _ => some w | _, _ => none
  args w := [.int .u32 w]
  H _ := []
  out w := .need (u32 w) (.ret (.slice 0 0 [] 0 1 4 4) [bReg 4 4 (byW w)])
theorem four_vc : ∀ (w : Int),
    ((0 : Int) ≤ w ∧ w < (4294967296 : Int)) ∧ True →
      (256 : Int) ≠ (0 : Int) ∧
        (65536 : Int) ≠ (0 : Int) ∧
          (16777216 : Int) ≠ (0 : Int) ∧
            ((0 : Int) ≤ w ∧ w < (4294967296 : Int) →
              (True ∧ True ∧ (0 : Nat) = (0 : Nat) ∧ (4 : Nat) = (4 : Nat) ∧ (4 : Nat) = (4 : Nat)) ∧
                True ∧
                  ((0 : Nat) ≤ (4 : Nat) ∧
                      (4 : Nat) = (4 : Nat) ∧
                        ∀ (j : Nat),
                          j < (4 : Nat) →
                            (bif j.beq (0 : Nat) then IntKind.u8.wrap w
                              else
                                bif j.beq (1 : Nat) then IntKind.u8.wrap (IntKind.u32.wrap (w.tdiv (256 : Int)))
                                else
                                  bif j.beq (2 : Nat) then IntKind.u8.wrap (IntKind.u32.wrap (w.tdiv (65536 : Int)))
                                  else IntKind.u8.wrap (IntKind.u32.wrap (w.tdiv (16777216 : Int)))) =
                              byW w j) ∧
                    True) := by
  simp only [true_and, and_true, eq_self, and_self, ne_eq, cond_nbeq]
  rintro w ⟨hw, hw'⟩
  refine ⟨by decide, by decide, by decide, fun _ => ⟨by decide, fun j hj => ?_⟩⟩
  rw [Int.tdiv_eq_ediv_of_nonneg hw, Int.tdiv_eq_ediv_of_nonneg hw, Int.tdiv_eq_ediv_of_nonneg hw]
  rw [wrap_u32_of ⟨by omega, by omega⟩, wrap_u32_of ⟨by omega, by omega⟩, wrap_u32_of ⟨by omega, by omega⟩]
  simp only [IntKind.wrap_u8]
  unfold byW
  match j, hj with
  | 0, _ => rw [if_pos rfl]; show w % 256 = w / 1 % 256; omega
  | 1, _ => rfl
  | 2, _ => rfl
  | 3, _ => rfl

def four_C (_ : Int) : Cfg := { Γ := Go.Sx.look [], names := true }
theorem four_al (x : Int) : Shown (fourPt.vc Try.prog (four_C x) Try.f20 x) := ⟨@Eq.mp _ _ (by kernel_rfl) (four_vc x)⟩
theorem four_ok : SpOk Try.prog 20 fourPt.sp := @Pat.okS _ fourPt Try.prog four_C 20 Try.f20 (fun x => cfg_nil rfl) (by kernel_rfl) Try.func20 (fun _ => rfl) four_al
def copyPt : Pat BS where
  view | [t], H => some (viewB t H) | _, _ => none
  args x := [x.t 0]
  H x := [x.reg]
  out x := .need (x.Ok ∧ x.len ≤ 140737488355328) (.any (fun c : Nat => x.len ≤ c) fun c => .ret (.slice 1 0 [] 0 1 x.len c) [x.reg, bReg x.len c x.b])
theorem copy_vc : ∀ (x : BS),
    (x.Ok ∧ x.len ≤ (140737488355328 : Nat)) ∧ True →
      (x.nil = true → x.len = (0 : Nat)) ∧
        (0 : Nat) + x.len ≤ x.len ∧
          ((0 : Nat) = (0 : Nat) ∧
              (0 : Nat) ≤ (0 : Nat) ∧
                (0 : Nat) ≤ (0 : Nat) ∧
                  (0 : Nat) ≤ (0 : Nat) ∧
                    ((0 : Nat) + x.len) * (1 : Nat) ≤ (140737488355328 : Nat) ∧
                      (0 : Nat) + x.len ≤ (9223372036854775807 : Nat) ∧ (∀ (_ : Nat), (1 : Nat) = (1 : Nat)) ∧ ∀ (_ : Nat), (1 : Nat) = (1 : Nat)) ∧
            ∀ (cap' : Nat),
              (0 : Nat) + x.len ≤ cap' →
                x.Ok ∧ x.len ≤ (140737488355328 : Nat) →
                  ∃ (x_1 : Nat),
                    x.len ≤ x_1 ∧
                      (True ∧ True ∧ (0 : Nat) = (0 : Nat) ∧ (0 : Nat) + x.len = x.len ∧ cap' = x_1) ∧
                        True ∧
                          ((0 : Nat) ≤ (0 : Nat) ∧ x.len = x.len ∧ ∀ (j : Nat), j < x.len → x.b j = x.b j) ∧
                            ((0 : Nat) ≤ cap' * (1 : Nat) ∧
                                x.len = (0 : Nat) + x.len ∧
                                  ∀ (j : Nat), j < (0 : Nat) + x.len → (j.blt (0 : Nat) = true → False) ∧ (j.blt (0 : Nat) = false → x.b ((0 : Nat) + (j - (0 : Nat))) = x.b j)) ∧
                              True := by
  simp only [true_and, and_true, eq_self, Nat.le_refl, implies_true, and_self, Nat.zero_add, nblt_true, nblt_false]
  rintro x hx
  obtain ⟨hok, hlen⟩ := id hx
  exact ⟨hok.1, ⟨by omega, by omega⟩, fun c hc _ => ⟨c, hc, rfl, by omega, fun j hj => ⟨fun h => by omega, fun _ => rfl⟩⟩⟩

def copy_C (_ : BS) : Cfg := { Γ := Go.Sx.look [], names := true }
theorem copy_al (x : BS) : Shown (copyPt.vc Try.prog (copy_C x) Try.f18 x) := ⟨@Eq.mp _ _ (by kernel_rfl) (copy_vc x)⟩
theorem copy_ok : SpOk Try.prog 18 copyPt.sp := @Pat.okS _ copyPt Try.prog copy_C 18 Try.f18 (fun x => cfg_nil rfl) (by kernel_rfl) Try.func18 (fun _ => rfl) copy_al
def BS.t' (x : BS) (r : Nat) : T := x.t r
def sameB (x y : BS) : Prop := x.len = y.len ∧ ∀ j, j < x.len → x.b j = y.b j
instance (x y : BS) : Decidable (sameB x y) := by unfold sameB; infer_instance
def samePt : Pat (BS × BS) where
  view | [t, u], H => some (viewB t H, viewB u H) | _, _ => none
  args x := [x.1.t 0, x.2.t 1]
  H x := [x.1.reg, x.2.reg]
  out x := .need (x.1.Ok ∧ x.2.Ok) (.retq (.bool (decide (sameB x.1 x.2))))
def sameFam (x y : BS) : Fam where
  α := Nat
  I z := z ≤ x.len ∧ x.len = y.len ∧ ∀ j, j < z → x.b j = y.b j
  st z := { sl := mkSl 26 [(0, x.t 0), (1, y.t 1), (4, .ff), (5, .int .i64 z)], H := [x.reg, y.reg] }
  μ z := x.len - z
theorem same_vc : ∀ (x y : BS),
    (x.Ok ∧ y.Ok) ∧ True →
      (x.nil = true → x.len = (0 : Nat)) ∧
        (y.nil = true → y.len = (0 : Nat)) ∧
          (((↑x.len : Int) != (↑y.len : Int)) = true →
              x.Ok ∧ y.Ok →
                decide (sameB x y) = false ∧
                  True ∧
                    ((0 : Nat) ≤ (0 : Nat) ∧ x.len = x.len ∧ ∀ (j : Nat), j < x.len → x.b j = x.b j) ∧
                      ((0 : Nat) ≤ (0 : Nat) ∧ y.len = y.len ∧ ∀ (j : Nat), j < y.len → y.b j = y.b j) ∧ True) ∧
            (((↑x.len : Int) != (↑y.len : Int)) = false →
              ∀ (v : Int),
                v = (0 : Int) →
                  (∃ (y_1 : Nat),
                      (y_1 ≤ x.len ∧ x.len = y.len ∧ ∀ (j : Nat), j < y_1 → x.b j = y.b j) ∧
                        ((((x.nil = true → x.nil = true) ∧ (x.nil = false → x.nil = false ∧ True ∧ True ∧ (0 : Nat) = (0 : Nat) ∧ x.len = x.len ∧ x.cap = x.cap)) ∧
                              ((y.nil = true → y.nil = true) ∧ (y.nil = false → y.nil = false ∧ True ∧ True ∧ (0 : Nat) = (0 : Nat) ∧ y.len = y.len ∧ y.cap = y.cap)) ∧
                                True ∧ v = (↑y_1 : Int) ∧ True) ∧
                            ((0 : Nat) ≤ (0 : Nat) ∧ x.len = x.len ∧ ∀ (j : Nat), j < x.len → x.b j = x.b j) ∧
                              ((0 : Nat) ≤ (0 : Nat) ∧ y.len = y.len ∧ ∀ (j : Nat), j < y.len → y.b j = y.b j) ∧ True) ∧
                          True) ∧
                    ∀ (y_1 : Nat),
                      (y_1 ≤ x.len ∧ x.len = y.len ∧ ∀ (j : Nat), j < y_1 → x.b j = y.b j) →
                        (x.nil = true → x.len = (0 : Nat)) ∧
                          (decide ((↑y_1 : Int) < (↑x.len : Int)) = true →
                              (x.nil = true → x.len = (0 : Nat)) ∧
                                ((0 : Int) ≤ (↑y_1 : Int) ∧ (↑y_1 : Int) < (↑x.len : Int)) ∧
                                  (0 : Nat) + (↑y_1 : Int).toNat < x.len ∧
                                    (y.nil = true → y.len = (0 : Nat)) ∧
                                      ((0 : Int) ≤ (↑y_1 : Int) ∧ (↑y_1 : Int) < (↑y.len : Int)) ∧
                                        (0 : Nat) + (↑y_1 : Int).toNat < y.len ∧
                                          ((x.b ((0 : Nat) + (↑y_1 : Int).toNat) != y.b ((0 : Nat) + (↑y_1 : Int).toNat)) = true →
                                              x.Ok ∧ y.Ok →
                                                decide (sameB x y) = false ∧
                                                  True ∧
                                                    ((0 : Nat) ≤ (0 : Nat) ∧ x.len = x.len ∧ ∀ (j : Nat), j < x.len → x.b j = x.b j) ∧
                                                      ((0 : Nat) ≤ (0 : Nat) ∧ y.len = y.len ∧ ∀ (j : Nat), j < y.len → y.b j = y.b j) ∧ True) ∧
                                            ((x.b ((0 : Nat) + (↑y_1 : Int).toNat) != y.b ((0 : Nat) + (↑y_1 : Int).toNat)) = false →
                                              ∀ (v : Int),
                                                v = IntKind.i64.wrap ((↑y_1 : Int) + (1 : Int)) →
                                                  ∃ (y_2 : Nat),
                                                    (y_2 ≤ x.len ∧ x.len = y.len ∧ ∀ (j : Nat), j < y_2 → x.b j = y.b j) ∧
                                                      ((((x.nil = true → x.nil = true) ∧
                                                              (x.nil = false → x.nil = false ∧ True ∧ True ∧ (0 : Nat) = (0 : Nat) ∧ x.len = x.len ∧ x.cap = x.cap)) ∧
                                                            ((y.nil = true → y.nil = true) ∧
                                                                (y.nil = false → y.nil = false ∧ True ∧ True ∧ (0 : Nat) = (0 : Nat) ∧ y.len = y.len ∧ y.cap = y.cap)) ∧
                                                              True ∧ v = (↑y_2 : Int) ∧ True) ∧
                                                          ((0 : Nat) ≤ (0 : Nat) ∧ x.len = x.len ∧ ∀ (j : Nat), j < x.len → x.b j = x.b j) ∧
                                                            ((0 : Nat) ≤ (0 : Nat) ∧ y.len = y.len ∧ ∀ (j : Nat), j < y.len → y.b j = y.b j) ∧ True) ∧
                                                        (sameFam x y).μ y_2 < (sameFam x y).μ y_1)) ∧
                            (decide ((↑y_1 : Int) < (↑x.len : Int)) = false →
                              x.Ok ∧ y.Ok →
                                decide (sameB x y) = true ∧
                                  True ∧
                                    ((0 : Nat) ≤ (0 : Nat) ∧ x.len = x.len ∧ ∀ (j : Nat), j < x.len → x.b j = x.b j) ∧
                                      ((0 : Nat) ≤ (0 : Nat) ∧ y.len = y.len ∧ ∀ (j : Nat), j < y.len → y.b j = y.b j) ∧ True)) := by
  simp only [true_and, and_true, eq_self, Nat.le_refl, decide_eq_true_eq, decide_eq_false_iff_not, implies_true, and_self, bne_iff_ne, Int.not_lt, ne_eq, Nat.zero_add, Int.toNat_natCast, IntKind.wrap_i64, bne_eq_false_iff_eq]
  rintro x y ⟨hx, hy⟩
  have hM : ∀ z : Nat, (sameFam x y).μ z = x.len - z := fun _ => rfl
  simp only [hM]
  have hxo := hx.1
  have hyo := hy.1
  have hl := hx.2.1
  refine ⟨hxo, hyo, fun h _ hs => h (by rw [hs.1]), fun h => ?_⟩
  rintro _ rfl
  refine ⟨⟨0, ⟨by omega, by omega, fun j hj => absurd hj (Nat.not_lt_zero j)⟩, ⟨fun h => h, fun h => h⟩, ⟨fun h => h, fun h => h⟩, rfl⟩, fun z hz => ?_⟩
  obtain ⟨z1, z2, z3⟩ := hz
  refine ⟨hxo, fun hlt => ⟨hxo, by omega, by omega, hyo, by omega, by omega, fun hne _ hs => hne (hs.2 z (by omega)), fun heq v hv => ⟨z + 1, ⟨by omega, z2, fun j hj => ?_⟩, ⟨⟨fun h => h, fun h => h⟩, ⟨fun h => h, fun h => h⟩, by omega⟩, by omega⟩⟩, fun hge _ => ⟨z2, fun j hj => z3 j (by omega)⟩⟩
  by_cases hjz : j = z
  · rw [hjz]; exact heq
  · exact z3 j (by omega)

def same_C (x : (BS × BS)) : Cfg := { Γ := Go.Sx.look [], names := true, loops := onlyAt 4 [sameFam (x.1) (x.2)] }
theorem same_al (x : (BS × BS)) : Shown (samePt.vc Try.prog (same_C x) Try.f21 x) := ⟨@Eq.mp _ _ (by kernel_rfl) (same_vc (x.1) (x.2))⟩
theorem same_ok : SpOk Try.prog 21 samePt.sp := @Pat.okS _ samePt Try.prog same_C 21 Try.f21 (fun x => cfg_nil rfl) (by kernel_rfl) Try.func21 (fun _ => rfl) same_al
end Go.Proofs.Ytaaploablbkilaa
