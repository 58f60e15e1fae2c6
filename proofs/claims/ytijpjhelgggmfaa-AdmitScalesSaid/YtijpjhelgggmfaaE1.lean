import Derived.Test.YtijpjhelgggmfaaD2
open Go Go.Sx Go.Proofs
set_option maxRecDepth 100000
namespace Go.Proofs.Ytijpjhelgggmfaa

theorem LL.slk_zero {l : LL} (hk : ∀ j, j < l.n → l.k j = 1) (w : Int) : ∀ m, m ≤ l.n → l.slk w m = 0
  | 0, _ => rfl
  | m + 1, hm => by
    have e : l.sl m = 0 := by unfold LL.sl; rw [if_pos (hk m (by omega))]
    simp only [LL.slk]
    rw [LL.slk_zero hk w m (by omega), e, Int.mul_zero]; rfl
theorem LL.sp_borne {l : LL} (hr : l.right) (hk : ∀ j, j < l.n → l.k j = 1) : l.borne = (decide (l.U ≤ l.W), 0) ∧ l.hor = (0, 0) := by
  have hS : l.S = 0 := LL.slk_zero hk _ _ (Nat.le_refl _)
  have hh : l.hor = (0, 0) := by unfold LL.hor; rw [if_neg (fun h => h hr), if_pos (.inl hS)]
  refine ⟨?_, hh⟩
  unfold LL.borne
  rw [if_neg (fun h => h hr)]
  by_cases hu : l.W < l.U
  · rw [if_pos (.inl hu), decide_eq_false (by omega)]
  · rw [if_neg (fun h => h.elim hu fun h2 => h2.2 hS), hh, if_neg (fun h => h rfl), decide_eq_true (show l.U ≤ l.W by omega)]
    rw [decide_eq_true ((LL.fine_iff hr _).2 fun j hj m hm => by have := LL.pt_bd hr hj m; omega)]
def sameL (l : LL) : LL := ⟨l.n, fun _ => 1, l.q, l.t⟩
def moreL (l : LL) (m : Int) : LL := ⟨l.n, fun _ => 1, fun j => l.q j * m, fun j => l.t j * m⟩
theorem more_prod (l : LL) (m : Int) : ∀ n, (moreL l m).prod n = (sameL l).prod n * m ^ n
  | 0 => by simp [LL.prod]
  | n + 1 => by
    simp only [LL.prod]
    rw [more_prod l m n, Int.pow_succ]
    show (sameL l).prod n * m ^ n * (l.t n * m) = (sameL l).prod n * l.t n * (m ^ n * m)
    simp only [Int.mul_assoc, Int.mul_left_comm, Int.mul_comm]
theorem more_use (l : LL) {m w : Int} (hm : 1 ≤ m) {N : Nat} (hN : 1 ≤ N) : ∀ n, (∀ j, j < n → 1 ≤ l.t j ∧ l.t j ∣ w) → (moreL l m).use (w * m ^ N) n = (sameL l).use w n * m ^ N
  | 0, _ => by simp [LL.use]
  | n + 1, h => by
    simp only [LL.use]
    rw [more_use l hm hN n (fun j hj => h j (by omega)), Int.add_mul]
    congr 1
    obtain ⟨h1, c, hc⟩ := h n (by omega)
    show w * m ^ N / (l.t n * m) * (l.q n * m) = w / l.t n * l.q n * m ^ N
    obtain ⟨K, rfl⟩ := Nat.exists_eq_add_of_le hN
    rw [Nat.add_comm 1 K, Int.pow_succ]
    have e1 : w * (m ^ K * m) = (l.t n * m) * (c * m ^ K) := by
      rw [hc]; simp only [Int.mul_assoc, Int.mul_left_comm, Int.mul_comm]
    have e2 : w / l.t n = c := by rw [hc]; exact Int.mul_ediv_cancel_left _ (by omega)
    have hne : l.t n * m ≠ 0 := Int.ne_of_gt (Int.mul_pos (by omega) (by omega))
    rw [e1, Int.mul_ediv_cancel_left _ hne, e2]
    simp only [Int.mul_assoc, Int.mul_left_comm, Int.mul_comm]
theorem more_iff {l : LL} {m : Int} (hr : (sameL l).right) (hm : 1 ≤ m) : (moreL l m).U ≤ (moreL l m).W ↔ (sameL l).U ≤ (sameL l).W := by
  have hp : (0 : Int) < m ^ l.n := Int.pow_pos (by omega)
  have eW : (moreL l m).W = (sameL l).W * m ^ l.n := more_prod l m l.n
  have eU : (moreL l m).U = (sameL l).U * m ^ l.n := by
    show (moreL l m).use (moreL l m).W l.n = _
    rw [eW]
    by_cases h0 : l.n = 0
    · have : (sameL l).U = 0 := by show (sameL l).use _ l.n = 0; rw [h0]; rfl
      rw [this, h0]; simp [LL.use]
    · refine more_use l hm (by omega) l.n fun j hj => ⟨?_, (sameL l).dvd l.n j hj⟩
      have h1 : rightE 1 (l.q j) (l.t j) := hr.2 j hj
      unfold rightE at h1; omega
  rw [eW, eU]
  exact ⟨fun h => Int.le_of_mul_le_mul_right h hp, fun h => Int.mul_le_mul_of_nonneg_right h (Int.le_of_lt hp)⟩
structure SC where
  i : Nat
  a : Nat
  b : Nat
def LL.tk (l : LL) (i : Nat) : LL := ⟨i, l.k, l.q, l.t⟩
def scF (x : LS) (m : Int) : Fam where
  α := SC
  I y := (x.l.right ∧ 1 ≤ m ∧ m ≤ 100) ∧ y.i ≤ x.len ∧ y.i ≤ y.a ∧ y.i ≤ y.b ∧ ∀ j, j < y.i → x.l.t j * m ≤ 8192
  st y := { sl := mkSl 112 [(0, x.v 0), (1, .int .i64 m), (5, .slice 1 0 [] 0 3 y.i y.a), (6, .slice 2 0 [] 0 3 y.i y.b), (7, .int .i64 y.i)], H := [x.reg, ((moreL x.l m).tk y.i).row y.a, ((sameL x.l).tk y.i).row y.b] }
  μ y := x.len - y.i
def scM : Nat → Nat
  | 12 => 1
  | 13 => 1
  | _ => 0
def scP : Pat (LS × JI) where
  view _ _ := none
  args x := [x.1.v 0, x.2.t]
  H x := [x.1.reg]
  out x := .need (x.1.Ok ∧ x.2.Ok) (.retq .tt)
def tSc : Tab := [(10, aliveP.sp), (18, borneP.sp), (12, RightP.sp), (16, horP.sp)]
theorem tSc_ok : TabOk Try.prog tSc := (tab_cons alive_ok (tab_cons borne_ok (tab_cons Right_ok (tab_cons hor_ok tab_nil))))

theorem scales_vc : ∀ (x : LS) (m : JI),
    (x.Ok ∧ m.Ok) ∧ True →
      (True ∧ True) ∧
        ((((x.nil = true → x.nil = true) ∧ (x.nil = false → x.nil = false ∧ True ∧ True ∧ x.lo = x.lo ∧ x.len = x.len ∧ x.cap = x.cap)) ∧ True) ∧
            ((0 : Nat) ≤ (0 : Nat) ∧ x.n = x.n ∧ ∀ (j : Nat), j < x.n → x.k j = x.k j ∧ x.q j = x.q j ∧ x.t j = x.t j ∧ True) ∧ True) ∧
          x.Ok ∧
            ((!decide x.l.right) = true →
                x.Ok ∧ m.Ok → True ∧ True ∧ ((0 : Nat) ≤ (0 : Nat) ∧ x.n = x.n ∧ ∀ (j : Nat), j < x.n → x.k j = x.k j ∧ x.q j = x.q j ∧ x.t j = x.t j ∧ True) ∧ True) ∧
              ((!decide x.l.right) = false →
                (decide (m.v < (1 : Int)) = true →
                    x.Ok ∧ m.Ok → True ∧ True ∧ ((0 : Nat) ≤ (0 : Nat) ∧ x.n = x.n ∧ ∀ (j : Nat), j < x.n → x.k j = x.k j ∧ x.q j = x.q j ∧ x.t j = x.t j ∧ True) ∧ True) ∧
                  (decide (m.v < (1 : Int)) = false →
                    (decide (m.v > (100 : Int)) = true →
                        x.Ok ∧ m.Ok → True ∧ True ∧ ((0 : Nat) ≤ (0 : Nat) ∧ x.n = x.n ∧ ∀ (j : Nat), j < x.n → x.k j = x.k j ∧ x.q j = x.q j ∧ x.t j = x.t j ∧ True) ∧ True) ∧
                      (decide (m.v > (100 : Int)) = false →
                        ∀ (v : Int),
                          v = (0 : Int) →
                            (∃ (y : SC),
                                ((x.l.right ∧ (1 : Int) ≤ m.v ∧ m.v ≤ (100 : Int)) ∧ y.i ≤ x.len ∧ y.i ≤ y.a ∧ y.i ≤ y.b ∧ ∀ (j : Nat), j < y.i → x.l.t j * m.v ≤ (8192 : Int)) ∧
                                  ((((x.nil = true → x.nil = true) ∧ (x.nil = false → x.nil = false ∧ True ∧ True ∧ x.lo = x.lo ∧ x.len = x.len ∧ x.cap = x.cap)) ∧
                                        m.v = m.v ∧
                                          (True ∧ True ∧ (0 : Nat) = (0 : Nat) ∧ (0 : Nat) = y.i ∧ (0 : Nat) = y.a) ∧
                                            (True ∧ True ∧ (0 : Nat) = (0 : Nat) ∧ (0 : Nat) = y.i ∧ (0 : Nat) = y.b) ∧ v = (↑y.i : Int) ∧ True) ∧
                                      ((0 : Nat) ≤ (0 : Nat) ∧ x.n = x.n ∧ ∀ (j : Nat), j < x.n → x.k j = x.k j ∧ x.q j = x.q j ∧ x.t j = x.t j ∧ True) ∧
                                        (y.a * (3 : Nat) ≤ (0 : Nat) ∧
                                            ((moreL x.l m.v).tk y.i).n = (0 : Nat) ∧
                                              ∀ (j : Nat),
                                                j < (0 : Nat) →
                                                  (0 : Int) = ((moreL x.l m.v).tk y.i).k j ∧
                                                    (0 : Int) = ((moreL x.l m.v).tk y.i).q j ∧ (0 : Int) = ((moreL x.l m.v).tk y.i).t j ∧ True) ∧
                                          (y.b * (3 : Nat) ≤ (0 : Nat) ∧
                                              ((sameL x.l).tk y.i).n = (0 : Nat) ∧
                                                ∀ (j : Nat),
                                                  j < (0 : Nat) →
                                                    (0 : Int) = ((sameL x.l).tk y.i).k j ∧ (0 : Int) = ((sameL x.l).tk y.i).q j ∧ (0 : Int) = ((sameL x.l).tk y.i).t j ∧ True) ∧
                                            True) ∧
                                    True) ∧
                              ∀ (y : SC),
                                ((x.l.right ∧ (1 : Int) ≤ m.v ∧ m.v ≤ (100 : Int)) ∧ y.i ≤ x.len ∧ y.i ≤ y.a ∧ y.i ≤ y.b ∧ ∀ (j : Nat), j < y.i → x.l.t j * m.v ≤ (8192 : Int)) →
                                  (x.nil = true → x.len = (0 : Nat)) ∧
                                    (decide ((↑y.i : Int) < (↑x.len : Int)) = true →
                                        (x.nil = true → x.len = (0 : Nat)) ∧
                                          ((0 : Int) ≤ (↑y.i : Int) ∧ (↑y.i : Int) < (↑x.len : Int)) ∧
                                            x.lo + (↑y.i : Int).toNat < x.n ∧
                                              IntKind.u64.wrap m.v ≠ (0 : Int) ∧
                                                (decide (x.t (x.lo + (↑y.i : Int).toNat) > IntKind.u64.wrap (Int.tdiv (8192 : Int) (IntKind.u64.wrap m.v))) = true →
                                                    x.Ok ∧ m.Ok →
                                                      True ∧
                                                        True ∧
                                                          ((0 : Nat) ≤ (0 : Nat) ∧ x.n = x.n ∧ ∀ (j : Nat), j < x.n → x.k j = x.k j ∧ x.q j = x.q j ∧ x.t j = x.t j ∧ True) ∧ True) ∧
                                                  (decide (x.t (x.lo + (↑y.i : Int).toNat) > IntKind.u64.wrap (Int.tdiv (8192 : Int) (IntKind.u64.wrap m.v))) = false →
                                                    (x.nil = true → x.len = (0 : Nat)) ∧
                                                      ((0 : Int) ≤ (↑y.i : Int) ∧ (↑y.i : Int) < (↑x.len : Int)) ∧
                                                        x.lo + (↑y.i : Int).toNat < x.n ∧
                                                          (x.nil = true → x.len = (0 : Nat)) ∧
                                                            ((0 : Int) ≤ (↑y.i : Int) ∧ (↑y.i : Int) < (↑x.len : Int)) ∧
                                                              x.lo + (↑y.i : Int).toNat < x.n ∧
                                                                (1 : Nat) ≤ (1 : Nat) ∧
                                                                  ((0 : Nat) = (0 : Nat) ∧
                                                                      y.i ≤ ((sameL x.l).tk y.i).n ∧
                                                                        y.i ≤ y.b ∧
                                                                          y.b * (3 : Nat) ≤ y.b * (3 : Nat) ∧
                                                                            (y.i + (1 : Nat)) * (24 : Nat) ≤ (140737488355328 : Nat) ∧
                                                                              y.i + (1 : Nat) ≤ (9223372036854775807 : Nat) ∧
                                                                                (∀ (_ : Nat), (3 : Nat) = (3 : Nat)) ∧ ∀ (_ : Nat), (3 : Nat) = (3 : Nat)) ∧
                                                                    ∀ (cap' : Nat),
                                                                      y.i + (1 : Nat) ≤ cap' →
                                                                        (x.nil = true → x.len = (0 : Nat)) ∧
                                                                          ((0 : Int) ≤ (↑y.i : Int) ∧ (↑y.i : Int) < (↑x.len : Int)) ∧
                                                                            x.lo + (↑y.i : Int).toNat < x.n ∧
                                                                              (x.nil = true → x.len = (0 : Nat)) ∧
                                                                                ((0 : Int) ≤ (↑y.i : Int) ∧ (↑y.i : Int) < (↑x.len : Int)) ∧
                                                                                  x.lo + (↑y.i : Int).toNat < x.n ∧
                                                                                    (1 : Nat) ≤ (1 : Nat) ∧
                                                                                      ((0 : Nat) = (0 : Nat) ∧
                                                                                          y.i ≤ ((moreL x.l m.v).tk y.i).n ∧
                                                                                            y.i ≤ y.a ∧
                                                                                              y.a * (3 : Nat) ≤ y.a * (3 : Nat) ∧
                                                                                                (y.i + (1 : Nat)) * (24 : Nat) ≤ (140737488355328 : Nat) ∧
                                                                                                  y.i + (1 : Nat) ≤ (9223372036854775807 : Nat) ∧
                                                                                                    (∀ (_ : Nat), (3 : Nat) = (3 : Nat)) ∧ ∀ (_ : Nat), (3 : Nat) = (3 : Nat)) ∧
                                                                                        ∀ (cap'_1 : Nat),
                                                                                          y.i + (1 : Nat) ≤ cap'_1 →
                                                                                            ∀ (v : Int),
                                                                                              v = IntKind.i64.wrap ((↑y.i : Int) + (1 : Int)) →
                                                                                                ∃ (y_1 : SC),
                                                                                                  ((x.l.right ∧ (1 : Int) ≤ m.v ∧ m.v ≤ (100 : Int)) ∧
                                                                                                      y_1.i ≤ x.len ∧
                                                                                                        y_1.i ≤ y_1.a ∧
                                                                                                          y_1.i ≤ y_1.b ∧ ∀ (j : Nat), j < y_1.i → x.l.t j * m.v ≤ (8192 : Int)) ∧
                                                                                                    ((((x.nil = true → x.nil = true) ∧
                                                                                                            (x.nil = false →
                                                                                                              x.nil = false ∧
                                                                                                                True ∧ True ∧ x.lo = x.lo ∧ x.len = x.len ∧ x.cap = x.cap)) ∧
                                                                                                          m.v = m.v ∧
                                                                                                            (True ∧
                                                                                                                True ∧
                                                                                                                  (0 : Nat) = (0 : Nat) ∧ y.i + (1 : Nat) = y_1.i ∧ cap'_1 = y_1.a) ∧
                                                                                                              (True ∧
                                                                                                                  True ∧
                                                                                                                    (0 : Nat) = (0 : Nat) ∧ y.i + (1 : Nat) = y_1.i ∧ cap' = y_1.b) ∧
                                                                                                                v = (↑y_1.i : Int) ∧ True) ∧
                                                                                                        ((0 : Nat) ≤ (0 : Nat) ∧
                                                                                                            x.n = x.n ∧
                                                                                                              ∀ (j : Nat),
                                                                                                                j < x.n → x.k j = x.k j ∧ x.q j = x.q j ∧ x.t j = x.t j ∧ True) ∧
                                                                                                          (y_1.a * (3 : Nat) ≤ cap'_1 * (3 : Nat) ∧
                                                                                                              ((moreL x.l m.v).tk y_1.i).n = y.i + (1 : Nat) ∧
                                                                                                                ∀ (j : Nat),
                                                                                                                  j < y.i + (1 : Nat) →
                                                                                                                    (j.blt y.i = true →
                                                                                                                        ((moreL x.l m.v).tk y.i).k j =
                                                                                                                            ((moreL x.l m.v).tk y_1.i).k j ∧
                                                                                                                          ((moreL x.l m.v).tk y.i).q j =
                                                                                                                              ((moreL x.l m.v).tk y_1.i).q j ∧
                                                                                                                            ((moreL x.l m.v).tk y.i).t j =
                                                                                                                                ((moreL x.l m.v).tk y_1.i).t j ∧
                                                                                                                              True) ∧
                                                                                                                      (j.blt y.i = false →
                                                                                                                        (1 : Int) = ((moreL x.l m.v).tk y_1.i).k j ∧
                                                                                                                          IntKind.u64.wrap
                                                                                                                                (x.q (x.lo + (↑y.i : Int).toNat) *
                                                                                                                                  IntKind.u64.wrap m.v) =
                                                                                                                              ((moreL x.l m.v).tk y_1.i).q j ∧
                                                                                                                            IntKind.u64.wrap
                                                                                                                                  (x.t (x.lo + (↑y.i : Int).toNat) *
                                                                                                                                    IntKind.u64.wrap m.v) =
                                                                                                                                ((moreL x.l m.v).tk y_1.i).t j ∧
                                                                                                                              True)) ∧
                                                                                                            (y_1.b * (3 : Nat) ≤ cap' * (3 : Nat) ∧
                                                                                                                ((sameL x.l).tk y_1.i).n = y.i + (1 : Nat) ∧
                                                                                                                  ∀ (j : Nat),
                                                                                                                    j < y.i + (1 : Nat) →
                                                                                                                      (j.blt y.i = true →
                                                                                                                          ((sameL x.l).tk y.i).k j = ((sameL x.l).tk y_1.i).k j ∧
                                                                                                                            ((sameL x.l).tk y.i).q j = ((sameL x.l).tk y_1.i).q j ∧
                                                                                                                              ((sameL x.l).tk y.i).t j = ((sameL x.l).tk y_1.i).t j ∧
                                                                                                                                True) ∧
                                                                                                                        (j.blt y.i = false →
                                                                                                                          (1 : Int) = ((sameL x.l).tk y_1.i).k j ∧
                                                                                                                            x.q (x.lo + (↑y.i : Int).toNat) =
                                                                                                                                ((sameL x.l).tk y_1.i).q j ∧
                                                                                                                              x.t (x.lo + (↑y.i : Int).toNat) =
                                                                                                                                  ((sameL x.l).tk y_1.i).t j ∧
                                                                                                                                True)) ∧
                                                                                                              True) ∧
                                                                                                      (scF x m.v).μ y_1 < (scF x m.v).μ y)) ∧
                                      (decide ((↑y.i : Int) < (↑x.len : Int)) = false →
                                        (((false = false ∧ True ∧ True ∧ (0 : Nat) = (0 : Nat) ∧ y.i = y.i ∧ y.b = y.b) ∧ True) ∧
                                            ((0 : Nat) ≤ y.b * (3 : Nat) ∧
                                                ((sameL x.l).tk y.i).n = ((sameL x.l).tk y.i).n ∧
                                                  ∀ (j : Nat),
                                                    j < ((sameL x.l).tk y.i).n →
                                                      ((sameL x.l).tk y.i).k j = ((sameL x.l).tk y.i).k j ∧
                                                        ((sameL x.l).tk y.i).q j = ((sameL x.l).tk y.i).q j ∧ ((sameL x.l).tk y.i).t j = ((sameL x.l).tk y.i).t j ∧ True) ∧
                                              True) ∧
                                          (LS.mk false (0 : Nat) y.i y.b ((sameL x.l).tk y.i).n ((sameL x.l).tk y.i).k ((sameL x.l).tk y.i).q ((sameL x.l).tk y.i).t).Ok ∧
                                            ∀ (v : Int),
                                              v =
                                                  (LS.mk false (0 : Nat) y.i y.b ((sameL x.l).tk y.i).n ((sameL x.l).tk y.i).k ((sameL x.l).tk y.i).q
                                                          ((sameL x.l).tk y.i).t).l.borne.snd →
                                                (((false = false ∧ True ∧ True ∧ (0 : Nat) = (0 : Nat) ∧ y.i = y.i ∧ y.a = y.a) ∧ True) ∧
                                                    ((0 : Nat) ≤ y.a * (3 : Nat) ∧
                                                        ((moreL x.l m.v).tk y.i).n = ((moreL x.l m.v).tk y.i).n ∧
                                                          ∀ (j : Nat),
                                                            j < ((moreL x.l m.v).tk y.i).n →
                                                              ((moreL x.l m.v).tk y.i).k j = ((moreL x.l m.v).tk y.i).k j ∧
                                                                ((moreL x.l m.v).tk y.i).q j = ((moreL x.l m.v).tk y.i).q j ∧
                                                                  ((moreL x.l m.v).tk y.i).t j = ((moreL x.l m.v).tk y.i).t j ∧ True) ∧
                                                      True) ∧
                                                  (LS.mk false (0 : Nat) y.i y.a ((moreL x.l m.v).tk y.i).n ((moreL x.l m.v).tk y.i).k ((moreL x.l m.v).tk y.i).q
                                                        ((moreL x.l m.v).tk y.i).t).Ok ∧
                                                    ∀ (v_1 : Int),
                                                      v_1 =
                                                          (LS.mk false (0 : Nat) y.i y.a ((moreL x.l m.v).tk y.i).n ((moreL x.l m.v).tk y.i).k ((moreL x.l m.v).tk y.i).q
                                                                  ((moreL x.l m.v).tk y.i).t).l.borne.snd →
                                                        (((false = false ∧ True ∧ True ∧ (0 : Nat) = (0 : Nat) ∧ y.i = y.i ∧ y.a = y.a) ∧ True) ∧
                                                            ((0 : Nat) ≤ y.a * (3 : Nat) ∧
                                                                ((moreL x.l m.v).tk y.i).n = ((moreL x.l m.v).tk y.i).n ∧
                                                                  ∀ (j : Nat),
                                                                    j < ((moreL x.l m.v).tk y.i).n →
                                                                      ((moreL x.l m.v).tk y.i).k j = ((moreL x.l m.v).tk y.i).k j ∧
                                                                        ((moreL x.l m.v).tk y.i).q j = ((moreL x.l m.v).tk y.i).q j ∧
                                                                          ((moreL x.l m.v).tk y.i).t j = ((moreL x.l m.v).tk y.i).t j ∧ True) ∧
                                                              True) ∧
                                                          (LS.mk false (0 : Nat) y.i y.a ((moreL x.l m.v).tk y.i).n ((moreL x.l m.v).tk y.i).k ((moreL x.l m.v).tk y.i).q
                                                                ((moreL x.l m.v).tk y.i).t).Ok ∧
                                                            ∀ (v_2 : Int),
                                                              v_2 =
                                                                  (LS.mk false (0 : Nat) y.i y.a ((moreL x.l m.v).tk y.i).n ((moreL x.l m.v).tk y.i).k ((moreL x.l m.v).tk y.i).q
                                                                          ((moreL x.l m.v).tk y.i).t).l.hor.fst →
                                                                ∀ (v_3 : Int),
                                                                  v_3 =
                                                                      (LS.mk false (0 : Nat) y.i y.a ((moreL x.l m.v).tk y.i).n ((moreL x.l m.v).tk y.i).k ((moreL x.l m.v).tk y.i).q
                                                                              ((moreL x.l m.v).tk y.i).t).l.hor.snd →
                                                                    ((v == (0 : Int)) = true →
                                                                        ((v_1 == (0 : Int)) = true →
                                                                            (((LS.mk false (0 : Nat) y.i y.b ((sameL x.l).tk y.i).n ((sameL x.l).tk y.i).k ((sameL x.l).tk y.i).q
                                                                                            ((sameL x.l).tk y.i).t).l.borne.fst ==
                                                                                    (LS.mk false (0 : Nat) y.i y.a ((moreL x.l m.v).tk y.i).n ((moreL x.l m.v).tk y.i).k
                                                                                            ((moreL x.l m.v).tk y.i).q ((moreL x.l m.v).tk y.i).t).l.borne.fst) =
                                                                                  true →
                                                                                ((v_3 == (0 : Int)) = true →
                                                                                    x.Ok ∧ m.Ok →
                                                                                      (v_2 == (0 : Int)) = true ∧
                                                                                        True ∧
                                                                                          ((0 : Nat) ≤ (0 : Nat) ∧
                                                                                              x.n = x.n ∧
                                                                                                ∀ (j : Nat), j < x.n → x.k j = x.k j ∧ x.q j = x.q j ∧ x.t j = x.t j ∧ True) ∧
                                                                                            True) ∧
                                                                                  ((v_3 == (0 : Int)) = false →
                                                                                    x.Ok ∧ m.Ok →
                                                                                      False ∧
                                                                                        True ∧
                                                                                          ((0 : Nat) ≤ (0 : Nat) ∧
                                                                                              x.n = x.n ∧
                                                                                                ∀ (j : Nat), j < x.n → x.k j = x.k j ∧ x.q j = x.q j ∧ x.t j = x.t j ∧ True) ∧
                                                                                            True)) ∧
                                                                              (((LS.mk false (0 : Nat) y.i y.b ((sameL x.l).tk y.i).n ((sameL x.l).tk y.i).k ((sameL x.l).tk y.i).q
                                                                                            ((sameL x.l).tk y.i).t).l.borne.fst ==
                                                                                    (LS.mk false (0 : Nat) y.i y.a ((moreL x.l m.v).tk y.i).n ((moreL x.l m.v).tk y.i).k
                                                                                            ((moreL x.l m.v).tk y.i).q ((moreL x.l m.v).tk y.i).t).l.borne.fst) =
                                                                                  false →
                                                                                x.Ok ∧ m.Ok →
                                                                                  False ∧
                                                                                    True ∧
                                                                                      ((0 : Nat) ≤ (0 : Nat) ∧
                                                                                          x.n = x.n ∧ ∀ (j : Nat), j < x.n → x.k j = x.k j ∧ x.q j = x.q j ∧ x.t j = x.t j ∧ True) ∧
                                                                                        True)) ∧
                                                                          ((v_1 == (0 : Int)) = false →
                                                                            x.Ok ∧ m.Ok →
                                                                              False ∧
                                                                                True ∧
                                                                                  ((0 : Nat) ≤ (0 : Nat) ∧
                                                                                      x.n = x.n ∧ ∀ (j : Nat), j < x.n → x.k j = x.k j ∧ x.q j = x.q j ∧ x.t j = x.t j ∧ True) ∧
                                                                                    True)) ∧
                                                                      ((v == (0 : Int)) = false →
                                                                        x.Ok ∧ m.Ok →
                                                                          False ∧
                                                                            True ∧
                                                                              ((0 : Nat) ≤ (0 : Nat) ∧
                                                                                  x.n = x.n ∧ ∀ (j : Nat), j < x.n → x.k j = x.k j ∧ x.q j = x.q j ∧ x.t j = x.t j ∧ True) ∧
                                                                                True))))) := by
  simp only [true_and, and_true, eq_self, Nat.le_refl, decide_eq_true_eq, decide_eq_false_iff_not, beq_iff_eq, beq_eq_false_iff_ne, implies_true, and_self, Int.not_lt, gt_iff_lt, ne_eq, Int.toNat_natCast, nblt_true, nblt_false, IntKind.wrap_u64, IntKind.wrap_i64, Bool.not_eq_true', Bool.not_eq_false']
  rintro x ⟨m⟩ ⟨hx, hm, hm'⟩
  dsimp only at hm hm' ⊢
  have eL : ∀ (l : LL) (c : Nat), (LS.mk false 0 l.n c l.n l.k l.q l.t).l = l := fun l c => by
    unfold LS.l
    simp only [Nat.zero_add]
  have eL1 : ∀ i c, ({ nil := false, lo := 0, len := i, cap := c, n := ((moreL x.l m).tk i).n, k := ((moreL x.l m).tk i).k, q := ((moreL x.l m).tk i).q, t := ((moreL x.l m).tk i).t } : LS).l = (moreL x.l m).tk i := fun i c => eL ((moreL x.l m).tk i) c
  have eL2 : ∀ i c, ({ nil := false, lo := 0, len := i, cap := c, n := ((sameL x.l).tk i).n, k := ((sameL x.l).tk i).k, q := ((sameL x.l).tk i).q, t := ((sameL x.l).tk i).t } : LS).l = (sameL x.l).tk i := fun i c => eL ((sameL x.l).tk i) c
  have ok : ∀ (l : LL) (c : Nat), LS.Ok (LS.mk false 0 l.n c l.n l.k l.q l.t) := fun l c => ⟨fun h => (nomatch h), by show 0 + l.n ≤ l.n; omega⟩
  simp only [eL1, eL2]
  have hlo := hx.2
  refine ⟨⟨id, id⟩, hx, fun hr m1 m100 v hv => ⟨⟨⟨0, 0, 0⟩, ⟨⟨hr, m1, m100⟩, Nat.zero_le _, Nat.le_refl _, Nat.le_refl _, fun j hj => absurd hj (Nat.not_lt_zero j)⟩, ⟨⟨id, id⟩, ⟨rfl, rfl⟩, ⟨rfl, rfl⟩, hv⟩, ⟨Nat.le_refl _, rfl, fun j hj => absurd hj (Nat.not_lt_zero j)⟩, Nat.le_refl _, rfl, fun j hj => absurd hj (Nat.not_lt_zero j)⟩, fun y hy => ?_⟩⟩
  obtain ⟨i, a, b⟩ := y
  obtain ⟨-, y1, y2, y3, y4⟩ := hy
  dsimp only at y1 y2 y3 y4 ⊢
  have h8 : x.len ≤ 8 := hr.1
  have em : m % 18446744073709551616 = m := by omega
  simp only [em]
  refine ⟨hx.1, fun hlt => ⟨hx.1, by omega, by omega, by omega, fun hle => ?_⟩, fun hge => ?_⟩
  · have hE : rightE (x.k (x.lo + i)) (x.q (x.lo + i)) (x.t (x.lo + i)) := hr.2 i (by show i < x.len; omega)
    unfold rightE at hE
    have hd0 : 0 ≤ (8192 : Int) / m := Int.ediv_nonneg (by decide) (by omega)
    have hd1 : (8192 : Int) / m ≤ 8192 := Int.ediv_le_self _ (by decide)
    rw [Int.tdiv_eq_ediv_of_nonneg (by decide), show (8192 : Int) / m % 18446744073709551616 = 8192 / m by omega] at hle
    have htm : x.t (x.lo + i) * m ≤ 8192 := by
      have h1 := Int.mul_le_mul_of_nonneg_right hle (show 0 ≤ m by omega)
      have h2 := Int.ediv_mul_le (8192 : Int) (show m ≠ 0 by omega)
      omega
    have hqm : x.q (x.lo + i) * m ≤ x.t (x.lo + i) * m := Int.mul_le_mul_of_nonneg_right (by omega) (by omega)
    have hq0 : 0 ≤ x.q (x.lo + i) * m := Int.mul_nonneg (by omega) (by omega)
    have ht0 : 0 ≤ x.t (x.lo + i) * m := by omega
    have er : ∀ c : Nat, i + 1 ≤ c → True := fun _ _ => trivial
    refine ⟨hx.1, by omega, by omega, hx.1, by omega, by omega, ⟨Nat.le_refl _, y3, by omega, by omega⟩, fun c hc => ⟨hx.1, by omega, by omega, hx.1, by omega, by omega, ⟨Nat.le_refl _, y2, by omega, by omega⟩, fun c2 hc2 v2 hv2 => ⟨⟨i + 1, c2, c⟩, ⟨⟨hr, m1, m100⟩, (by show i + 1 ≤ x.len; omega), hc2, hc, fun j hj => ?_⟩, ⟨⟨⟨id, id⟩, ⟨rfl, rfl⟩, ⟨rfl, rfl⟩, (by show v2 = ((i + 1 : Nat) : Int); omega)⟩, ⟨Nat.le_refl _, rfl, fun j hj => ⟨fun _ => ⟨rfl, rfl, rfl⟩, fun h => ?_⟩⟩, Nat.le_refl _, rfl, fun j hj => ⟨fun _ => ⟨rfl, rfl, rfl⟩, fun h => ?_⟩⟩, (by show x.len - (i + 1) < x.len - i; omega)⟩⟩⟩
    · have hj : j < i + 1 := hj
      by_cases e : j = i
      · subst e; exact htm
      · exact y4 j (by omega)
    · have e : j = i := by omega
      subst e
      exact ⟨rfl, (by show _ = x.q (x.lo + j) * m; omega), (by show _ = x.t (x.lo + j) * m; omega)⟩
    · have e : j = i := by omega
      subst e
      exact ⟨rfl, rfl, rfl⟩
  · have e : i = x.len := by omega
    subst e
    have e1 : (moreL x.l m).tk x.len = moreL x.l m := rfl
    have e2 : (sameL x.l).tk x.len = sameL x.l := rfl
    simp only [e1, e2]
    have hE : ∀ j, j < x.len → 1 ≤ x.l.q j ∧ x.l.q j ≤ x.l.t j ∧ x.l.t j ≤ 8192 := fun j hj => by
      have := hr.2 j hj
      unfold rightE at this; omega
    have r2 : (sameL x.l).right := ⟨h8, fun j hj => by have := hE j hj; show rightE 1 (x.l.q j) (x.l.t j); unfold rightE; omega⟩
    have r1 : (moreL x.l m).right := ⟨h8, fun j hj => by
      have h1 := hE j hj
      have h2 := y4 j hj
      have h3 : x.l.q j * m ≤ x.l.t j * m := Int.mul_le_mul_of_nonneg_right (by omega) (by omega)
      have h4 : 1 * 1 ≤ x.l.q j * m := Int.mul_le_mul h1.1 m1 (by decide) (by omega)
      show rightE 1 (x.l.q j * m) (x.l.t j * m); unfold rightE; omega⟩
    obtain ⟨b1, h1⟩ := LL.sp_borne r1 (fun _ _ => rfl)
    obtain ⟨b2, _⟩ := LL.sp_borne r2 (fun _ _ => rfl)
    have hi : decide ((sameL x.l).U ≤ (sameL x.l).W) = decide ((moreL x.l m).U ≤ (moreL x.l m).W) := decide_eq_decide.2 (more_iff r2 m1).symm
    rw [b1, b2, h1]
    exact ⟨by omega, ok (sameL x.l) b, fun v hv => ⟨by omega, ok (moreL x.l m) a, fun v1 hv1 => ⟨by omega, ok (moreL x.l m) a, fun v2 hv2 v3 hv3 => ⟨fun _ => ⟨fun _ => ⟨fun _ => ⟨fun _ _ => hv2, fun h => absurd hv3 h⟩, fun h => absurd hi h⟩, fun h => absurd hv1 h⟩, fun h => absurd hv h⟩⟩⟩⟩

def scales_C (x : (LS × JI)) : Cfg := { Γ := Go.Sx.look tSc, names := true, loops := onlyAt 8 [scF (x.1) (x.2).v], mode := scM }
theorem scales_al (x : (LS × JI)) : Shown (scP.vc Try.prog (scales_C x) Try.f7 x) := ⟨@Eq.mp _ _ (by kernel_rfl) (scales_vc (x.1) (x.2))⟩
theorem scales_ok : SpOk Try.prog 7 scP.sp := @Pat.okS _ scP Try.prog scales_C 7 Try.f7 (fun x => cfg_tab rfl tSc_ok) (by kernel_rfl) Try.func7 (fun _ => rfl) scales_al
end Go.Proofs.Ytijpjhelgggmfaa
