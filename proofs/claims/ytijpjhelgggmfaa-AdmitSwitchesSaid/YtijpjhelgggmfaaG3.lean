import Derived.Test.YtijpjhelgggmfaaG2
import Derived.Test.YtijpjhelgggmfaaF5
open Go Go.Sx Go.Proofs
set_option maxRecDepth 100000
namespace Go.Proofs.Ytijpjhelgggmfaa

theorem w_bas {k q t u acc : Int} (h : rightE k q t) (hu : 0 ≤ u ∧ u ≤ 1048576) (ha : 0 ≤ acc ∧ acc ≤ 1099511627776) : (acc + (u.tdiv t % 18446744073709551616 + 1) % 18446744073709551616 * q % 18446744073709551616) % 18446744073709551616 = acc + (u / t + 1) * q := by
  have ho := LL.one_sw h hu.1
  rw [Int.tdiv_eq_ediv_of_nonneg hu.1]
  have e1 : (u / t % 18446744073709551616 + 1) % 18446744073709551616 = u / t + 1 := by omega
  rw [e1]
  generalize (u / t + 1) * q = p at *
  omega
theorem w_exs {k q t u acc : Int} (h : rightE k q t) (hu : 0 ≤ u ∧ u ≤ 1048576) (ha : 0 ≤ acc ∧ acc ≤ 1099511627776) : (acc + u.tdiv t % 18446744073709551616 * q % 18446744073709551616) % 18446744073709551616 = acc + u / t * q := by
  have ho := LL.one_sw h hu.1
  rw [Int.tdiv_eq_ediv_of_nonneg hu.1]
  have e1 : u / t % 18446744073709551616 = u / t := by omega
  rw [e1]
  generalize u / t * q = p at *
  omega
theorem LL.bX {l : LL} (h : l.right) {t : Int} (ht : 0 ≤ t) (m : Nat) (hm : m ≤ l.n) : 0 ≤ l.bas t m ∧ l.bas t m ≤ 8 * (t + 8192) := by
  have := (LL.sw_bd h ht m hm).1
  have h8 := h.1
  have h : (m : Int) * (t + 8192) ≤ 8 * (t + 8192) := Int.mul_le_mul_of_nonneg_right (by omega) (by omega)
  omega
theorem LL.bY {l : LL} (h : l.right) {t : Int} (ht : 0 ≤ t) (m : Nat) (hm : m ≤ l.n) : 0 ≤ l.exs t m ∧ l.exs t m ≤ 8 * t := by
  have := (LL.sw_bd h ht m hm).2
  have h8 := h.1
  have h : (m : Int) * t ≤ 8 * t := Int.mul_le_mul_of_nonneg_right (by omega) (by omega)
  omega
def bothP : Pat (LS × LS) where
  view | [a, b], H => some (viewL a H, viewL b H) | _, _ => none
  args x := [x.1.v 0, x.2.v 1]
  H x := [x.1.regR, x.2.regR]
  out x := .need ((x.1.Ok ∧ x.2.Ok) ∧ x.1.len ≤ 100 ∧ x.2.len ≤ 100)
    (.any (fun c : Nat => x.1.len + x.2.len ≤ c) fun c => .ret (.slice 2 0 [] 0 3 (x.1.len + x.2.len) c) [x.1.regR, x.2.regR, (x.1.l.cat x.2.l).rowR c])
theorem both_vc : ∀ (x y : LS), ((x.Ok ∧ y.Ok) ∧ x.len ≤ (100 : Nat) ∧ y.len ≤ (100 : Nat)) ∧ True → (x.nil = true → x.len = (0 : Nat)) ∧ x.lo + x.len ≤ x.n ∧ ((0 : Nat) = (0 : Nat) ∧ (0 : Nat) ≤ (0 : Nat) ∧ (0 : Nat) ≤ (0 : Nat) ∧ (0 :
  Nat) ≤ (0 : Nat) ∧ ((0 : Nat) + x.len) * (24 : Nat) ≤ (140737488355328 : Nat) ∧ (0 : Nat) + x.len ≤ (9223372036854775807 : Nat) ∧ (∀ (_ : Nat), (3 : Nat) = (3 : Nat)) ∧ ∀ (_ : Nat), (3 : Nat) = (3 : Nat)) ∧ ∀ (cap' :
  Nat), (0 : Nat) + x.len ≤ cap' → (y.nil = true → y.len = (0 : Nat)) ∧ y.lo + y.len ≤ y.n ∧ ((0 : Nat) = (0 : Nat) ∧ (0 : Nat) + x.len ≤ (0 : Nat) + x.len ∧ (0 : Nat) + x.len ≤ cap' ∧ cap' * (3 : Nat) ≤ cap' * (3 : Nat) ∧
  ((0 : Nat) + x.len + y.len) * (24 : Nat) ≤ (140737488355328 : Nat) ∧ (0 : Nat) + x.len + y.len ≤ (9223372036854775807 : Nat) ∧ (∀ (_ : Nat), (3 : Nat) = (3 : Nat)) ∧ ∀ (_ : Nat), (3 : Nat) = (3 : Nat)) ∧ ∀ (cap' : Nat),
  (0 : Nat) + x.len + y.len ≤ cap' → (x.Ok ∧ y.Ok) ∧ x.len ≤ (100 : Nat) ∧ y.len ≤ (100 : Nat) → ∃ (x_1 : Nat), x.len + y.len ≤ x_1 ∧ (True ∧ True ∧ (0 : Nat) = (0 : Nat) ∧ (0 : Nat) + x.len + y.len = x.len + y.len ∧ cap'
  = x_1) ∧ True ∧ ((0 : Nat) ≤ (0 : Nat) ∧ x.n = x.n ∧ ∀ (j : Nat), j < x.n → x.k j = x.k j ∧ x.q j = x.q j ∧ x.t j = x.t j ∧ True) ∧ ((0 : Nat) ≤ (0 : Nat) ∧ y.n = y.n ∧ ∀ (j : Nat), j < y.n → y.k j = y.k j ∧ y.q j = y.q
  j ∧ y.t j = y.t j ∧ True) ∧ (x_1 * (3 : Nat) ≤ cap' * (3 : Nat) ∧ (x.l.cat y.l).n = (0 : Nat) + x.len + y.len ∧ ∀ (j : Nat), j < (0 : Nat) + x.len + y.len → (j.blt ((0 : Nat) + x.len) = true → (j.blt (0 : Nat) = true →
  (0 : Int) = (x.l.cat y.l).k j ∧ (0 : Int) = (x.l.cat y.l).q j ∧ (0 : Int) = (x.l.cat y.l).t j ∧ True) ∧ (j.blt (0 : Nat) = false → x.k (x.lo + (j - (0 : Nat))) = (x.l.cat y.l).k j ∧ x.q (x.lo + (j - (0 : Nat))) =
  (x.l.cat y.l).q j ∧ x.t (x.lo + (j - (0 : Nat))) = (x.l.cat y.l).t j ∧ True)) ∧ (j.blt ((0 : Nat) + x.len) = false → y.k (y.lo + (j - ((0 : Nat) + x.len))) = (x.l.cat y.l).k j ∧ y.q (y.lo + (j - ((0 : Nat) + x.len))) =
  (x.l.cat y.l).q j ∧ y.t (y.lo + (j - ((0 : Nat) + x.len))) = (x.l.cat y.l).t j ∧ True)) ∧ True := by
  simp only [true_and, and_true, eq_self, Nat.le_refl, implies_true, and_self, Nat.zero_add, nblt_true, nblt_false]
  rintro x y ⟨⟨⟨hx1, hx2⟩, hy1, hy2⟩, hxl, hyl⟩
  refine ⟨hx1, hx2, ⟨by omega, by omega⟩, fun c1 hc1 => ⟨hy1, hy2, ⟨hc1, by omega, by omega⟩, fun c hc _ => ⟨c, hc, rfl, Nat.le_refl _, rfl, fun j hj => ⟨fun h => ⟨fun h2 => absurd h2 (Nat.not_lt_zero j), fun _ => ?_⟩, fun h => ?_⟩⟩⟩⟩
  · obtain ⟨a1, a2, a3⟩ := LL.cat_lo (b := x.l) (e := y.l) (j := j) h
    exact ⟨a1.symm, a2.symm, a3.symm⟩
  · obtain ⟨a1, a2, a3⟩ := LL.cat_hi (b := x.l) (e := y.l) (j := j) h
    exact ⟨a1.symm, a2.symm, a3.symm⟩

def both_C (_ : (LS × LS)) : Cfg := { Γ := Go.Sx.look [], names := true }
theorem both_al (x : (LS × LS)) : Shown (bothP.vc Try.prog (both_C x) Try.f51 x) := ⟨@Eq.mp _ _ (by kernel_rfl) (both_vc (x.1) (x.2))⟩
theorem both_ok : SpOk Try.prog 51 bothP.sp := @Pat.okS _ bothP Try.prog both_C 51 Try.f51 (fun x => cfg_nil rfl) (by kernel_rfl) Try.func51 (fun _ => rfl) both_al
def LL.mn (e : LL) : Nat → Int
  | 0 => e.t 0
  | i + 1 => min (e.mn i) (e.t i)
theorem LL.mn_le (e : LL) : ∀ m j, j < m → e.mn m ≤ e.t j
  | 0, j, h => absurd h (Nat.not_lt_zero j)
  | m + 1, j, h => by
    simp only [LL.mn]
    by_cases hj : j = m
    · rw [hj]; omega
    · have := e.mn_le m j (by omega)
      omega
theorem LL.mn_is (e : LL) : ∀ m, ∃ j, j ≤ m - 1 ∧ e.mn m = e.t j
  | 0 => ⟨0, Nat.le_refl _, rfl⟩
  | m + 1 => by
    obtain ⟨j, h1, h2⟩ := e.mn_is m
    simp only [LL.mn]
    by_cases h : e.mn m ≤ e.t m
    · exact ⟨j, by omega, by omega⟩
    · exact ⟨m, by omega, by omega⟩
theorem LL.mn_fst (e : LL) (h : e.n ≠ 0) : e.mn e.n = e.fst := by
  obtain ⟨j, h1, h2⟩ := e.mn_is e.n
  have h3 := e.am_min (e.n - 1) j h1
  have h4 := e.mn_le e.n (e.am (e.n - 1)) (by have := e.am_le (e.n - 1); omega)
  unfold LL.fst
  omega
def rswP : Pat (LS × LS) where
  view | [a, b], H => some (viewL a H, viewL b H) | _, _ => none
  args x := [x.1.v 0, x.2.v 1]
  H x := [x.1.regR, x.2.regR]
  out x := .need ((x.1.Ok ∧ x.2.Ok) ∧ x.1.len ≤ 100 ∧ x.2.len ≤ 100) (.retq (.tup (.cons (.bool (swO x.1.l x.2.l).1) (.cons (.int .i64 (swO x.1.l x.2.l).2) .nil))))
def rswG (x y : LS) : Prop := (x.l.cat y.l).right ∧ y.len ≠ 0 ∧ (x.l.cat y.l).U < (x.l.cat y.l).W
def wReg (n : Int) : Reg := newReg 64 (wO n)
def rswF1 (x y : LS) : Fam where
  α := Nat
  I i := i ≤ x.len ∧ rswG x y
  st i := { sl := mkSl 138 [(0, x.v 0), (1, y.v 1), (7, p0 2), (10, p0 3), (11, .int .u64 (x.l.sq i)), (12, .int .i64 i)], H := [x.regR, y.regR, wReg (x.l.cat y.l).W, wReg (swL x.l y.l)] }
  μ i := x.len - i
def rswF2 (x y : LS) : Fam where
  α := Nat
  I i := i ≤ y.len ∧ rswG x y ∧ (x.l.cat y.l).W * x.l.sq x.len ≤ swL x.l y.l * 65536
  st i := { sl := mkSl 138 [(0, x.v 0), (1, y.v 1), (10, p0 2), (13, p0 3), (14, .int .u64 (y.l.mn i)), (15, .int .i64 i)], H := [x.regR, y.regR, wReg (swL x.l y.l), wReg ((x.l.cat y.l).W * x.l.sq x.len)] }
  μ i := y.len - i
def rswF3 (x y : LS) : Fam where
  α := Nat
  I i := (y.l.fst ≤ i ∧ (i : Int) ≤ max y.l.fst (swH x.l y.l).1 + 1) ∧ (rswG x y ∧ (swH x.l y.l).2 = 0) ∧ ∀ t : Nat, y.l.fst ≤ t → t < i → swd x.l y.l t ≤ t
  st i := { sl := mkSl 138 [(0, x.v 0), (1, y.v 1), (14, .int .u64 y.l.fst), (16, .int .u64 (swH x.l y.l).1), (17, .int .u64 i)], H := [x.regR, y.regR] }
  μ i := (max y.l.fst (swH x.l y.l).1 + 2 - i).toNat
def rswF4 (x y : LS) (u : Nat) : Fam where
  α := Nat
  I i := i ≤ x.len
  st i := { sl := mkSl 138 [(0, x.v 0), (1, y.v 1), (14, .int .u64 y.l.fst), (16, .int .u64 (swH x.l y.l).1), (17, .int .u64 (u : Nat)), (18, .int .u64 (x.l.bas (u : Nat) i)), (19, .int .i64 i)], H := [x.regR, y.regR] }
  μ i := x.len - i
def rswF5 (x y : LS) (u : Nat) : Fam where
  α := Nat
  I i := i ≤ y.len
  st i := { sl := mkSl 138 [(0, x.v 0), (1, y.v 1), (14, .int .u64 y.l.fst), (16, .int .u64 (swH x.l y.l).1), (17, .int .u64 (u : Nat)), (18, .int .u64 (x.l.bas (u : Nat) x.len + y.l.exs (u : Nat) i)), (20, .int .i64 i)], H := [x.regR, y.regR] }
  μ i := y.len - i
def rswLo (x y : LS) : Nat → Gam
  | 12 => .l [rswF1 x y]
  | 20 => .l [rswF2 x y]
  | 25 => .l [rswF3 x y]
  | 29 => .g fun u => [rswF4 x y u]
  | 33 => .g fun u => [rswF5 x y u]
  | _ => .l []
def tRsw : Tab := [(51, bothP.sp), (13, rrP.sp), (37, rsumP.sp), (38, rcmpPt.sp), (39, wminP.sp), (40, timesP.sp), (41, rleastP.sp)]
theorem tRsw_ok : TabOk Try.prog tRsw := (tab_cons both_ok (tab_cons rright_ok (tab_cons rsum_ok (tab_cons rcmp_ok (tab_cons rmin_ok (tab_cons rtimes_ok (tab_cons rleast_ok tab_nil)))))))

theorem rsw_vc : ∀ (x y : LS), ((x.Ok ∧ y.Ok) ∧ x.len ≤ (100 : Nat) ∧ y.len ≤ (100 : Nat)) ∧ True → ∀ (v : Int), v = (0 : Int) → ((((x.nil = true → x.nil = true) ∧ (x.nil = false → x.nil = false ∧ True ∧ True ∧ x.lo = x.lo ∧ x.len =
  x.len ∧ x.cap = x.cap)) ∧ ((y.nil = true → y.nil = true) ∧ (y.nil = false → y.nil = false ∧ True ∧ True ∧ y.lo = y.lo ∧ y.len = y.len ∧ y.cap = y.cap)) ∧ True) ∧ ((0 : Nat) ≤ (0 : Nat) ∧ x.n = x.n ∧ ∀ (j : Nat), j < x.n
  → x.k j = x.k j ∧ x.q j = x.q j ∧ x.t j = x.t j ∧ True) ∧ ((0 : Nat) ≤ (0 : Nat) ∧ y.n = y.n ∧ ∀ (j : Nat), j < y.n → y.k j = y.k j ∧ y.q j = y.q j ∧ y.t j = y.t j ∧ True) ∧ True) ∧ ((x.Ok ∧ y.Ok) ∧ x.len ≤ (100 : Nat) ∧
  y.len ≤ (100 : Nat)) ∧ ∀ (x_1 : Nat), x.len + y.len ≤ x_1 → (((false = false ∧ True ∧ True ∧ (0 : Nat) = (0 : Nat) ∧ x.len + y.len = x.len + y.len ∧ x_1 = x_1) ∧ True) ∧ ((0 : Nat) ≤ x_1 * (3 : Nat) ∧ (x.l.cat y.l).n =
  (x.l.cat y.l).n ∧ ∀ (j : Nat), j < (x.l.cat y.l).n → (x.l.cat y.l).k j = (x.l.cat y.l).k j ∧ (x.l.cat y.l).q j = (x.l.cat y.l).q j ∧ (x.l.cat y.l).t j = (x.l.cat y.l).t j ∧ True) ∧ True) ∧ (LS.mk false (0 : Nat) (x.len +
  y.len) x_1 (x.l.cat y.l).n (x.l.cat y.l).k (x.l.cat y.l).q (x.l.cat y.l).t).Ok ∧ ((!decide (LS.mk false (0 : Nat) (x.len + y.len) x_1 (x.l.cat y.l).n (x.l.cat y.l).k (x.l.cat y.l).q (x.l.cat y.l).t).l.right) = true → ∀
  (v : Int), v = (11 : Int) → (x.Ok ∧ y.Ok) ∧ x.len ≤ (100 : Nat) ∧ y.len ≤ (100 : Nat) → ((swO x.l y.l).fst = false ∧ v = (swO x.l y.l).snd ∧ True) ∧ True ∧ ((0 : Nat) ≤ (0 : Nat) ∧ x.n = x.n ∧ ∀ (j : Nat), j < x.n → x.k
  j = x.k j ∧ x.q j = x.q j ∧ x.t j = x.t j ∧ True) ∧ ((0 : Nat) ≤ (0 : Nat) ∧ y.n = y.n ∧ ∀ (j : Nat), j < y.n → y.k j = y.k j ∧ y.q j = y.q j ∧ y.t j = y.t j ∧ True) ∧ True) ∧ ((!decide (LS.mk false (0 : Nat) (x.len +
  y.len) x_1 (x.l.cat y.l).n (x.l.cat y.l).k (x.l.cat y.l).q (x.l.cat y.l).t).l.right) = false → (y.nil = true → y.len = (0 : Nat)) ∧ (((↑y.len : Int) == (0 : Int)) = true → ∀ (v : Int), v = (0 : Int) → (x.Ok ∧ y.Ok) ∧
  x.len ≤ (100 : Nat) ∧ y.len ≤ (100 : Nat) → ((swO x.l y.l).fst = true ∧ v = (swO x.l y.l).snd ∧ True) ∧ True ∧ ((0 : Nat) ≤ (0 : Nat) ∧ x.n = x.n ∧ ∀ (j : Nat), j < x.n → x.k j = x.k j ∧ x.q j = x.q j ∧ x.t j = x.t j ∧
  True) ∧ ((0 : Nat) ≤ (0 : Nat) ∧ y.n = y.n ∧ ∀ (j : Nat), j < y.n → y.k j = y.k j ∧ y.q j = y.q j ∧ y.t j = y.t j ∧ True) ∧ True) ∧ (((↑y.len : Int) == (0 : Int)) = false → (((false = false ∧ True ∧ True ∧ (0 : Nat) = (0
  : Nat) ∧ x.len + y.len = x.len + y.len ∧ x_1 = x_1) ∧ True) ∧ ((0 : Nat) ≤ x_1 * (3 : Nat) ∧ (x.l.cat y.l).n = (x.l.cat y.l).n ∧ ∀ (j : Nat), j < (x.l.cat y.l).n → (x.l.cat y.l).k j = (x.l.cat y.l).k j ∧ (x.l.cat y.l).q
  j = (x.l.cat y.l).q j ∧ (x.l.cat y.l).t j = (x.l.cat y.l).t j ∧ True) ∧ True) ∧ ((LS.mk false (0 : Nat) (x.len + y.len) x_1 (x.l.cat y.l).n (x.l.cat y.l).k (x.l.cat y.l).q (x.l.cat y.l).t).Ok ∧ (LS.mk false (0 : Nat)
  (x.len + y.len) x_1 (x.l.cat y.l).n (x.l.cat y.l).k (x.l.cat y.l).q (x.l.cat y.l).t).l.right) ∧ ((((LS.mk false (0 : Nat) (x.len + y.len) x_1 (x.l.cat y.l).n (x.l.cat y.l).k (x.l.cat y.l).q (x.l.cat y.l).t).l.use ((LS.mk
  false (0 : Nat) (x.len + y.len) x_1 (x.l.cat y.l).n (x.l.cat y.l).k (x.l.cat y.l).q (x.l.cat y.l).t).l.prod (x.len + y.len)) (x.len + y.len) / (18446744073709551616 : Int) = (LS.mk false (0 : Nat) (x.len + y.len) x_1
  (x.l.cat y.l).n (x.l.cat y.l).k (x.l.cat y.l).q (x.l.cat y.l).t).l.use ((LS.mk false (0 : Nat) (x.len + y.len) x_1 (x.l.cat y.l).n (x.l.cat y.l).k (x.l.cat y.l).q (x.l.cat y.l).t).l.prod (x.len + y.len)) (x.len + y.len)
  / (18446744073709551616 : Int) ∧ (LS.mk false (0 : Nat) (x.len + y.len) x_1 (x.l.cat y.l).n (x.l.cat y.l).k (x.l.cat y.l).q (x.l.cat y.l).t).l.use ((LS.mk false (0 : Nat) (x.len + y.len) x_1 (x.l.cat y.l).n (x.l.cat
  y.l).k (x.l.cat y.l).q (x.l.cat y.l).t).l.prod (x.len + y.len)) (x.len + y.len) % (18446744073709551616 : Int) = (LS.mk false (0 : Nat) (x.len + y.len) x_1 (x.l.cat y.l).n (x.l.cat y.l).k (x.l.cat y.l).q (x.l.cat
  y.l).t).l.use ((LS.mk false (0 : Nat) (x.len + y.len) x_1 (x.l.cat y.l).n (x.l.cat y.l).k (x.l.cat y.l).q (x.l.cat y.l).t).l.prod (x.len + y.len)) (x.len + y.len) % (18446744073709551616 : Int) ∧ True) ∧ ((LS.mk false (0
  : Nat) (x.len + y.len) x_1 (x.l.cat y.l).n (x.l.cat y.l).k (x.l.cat y.l).q (x.l.cat y.l).t).l.prod (x.len + y.len) / (18446744073709551616 : Int) = (LS.mk false (0 : Nat) (x.len + y.len) x_1 (x.l.cat y.l).n (x.l.cat
  y.l).k (x.l.cat y.l).q (x.l.cat y.l).t).l.prod (x.len + y.len) / (18446744073709551616 : Int) ∧ (LS.mk false (0 : Nat) (x.len + y.len) x_1 (x.l.cat y.l).n (x.l.cat y.l).k (x.l.cat y.l).q (x.l.cat y.l).t).l.prod (x.len +
  y.len) % (18446744073709551616 : Int) = (LS.mk false (0 : Nat) (x.len + y.len) x_1 (x.l.cat y.l).n (x.l.cat y.l).k (x.l.cat y.l).q (x.l.cat y.l).t).l.prod (x.len + y.len) % (18446744073709551616 : Int) ∧ True) ∧ True) ∧
  True) ∧ ((((0 : Int) ≤ (LS.mk false (0 : Nat) (x.len + y.len) x_1 (x.l.cat y.l).n (x.l.cat y.l).k (x.l.cat y.l).q (x.l.cat y.l).t).l.use ((LS.mk false (0 : Nat) (x.len + y.len) x_1 (x.l.cat y.l).n (x.l.cat y.l).k
  (x.l.cat y.l).q (x.l.cat y.l).t).l.prod (x.len + y.len)) (x.len + y.len) / (18446744073709551616 : Int) ∧ (LS.mk false (0 : Nat) (x.len + y.len) x_1 (x.l.cat y.l).n (x.l.cat y.l).k (x.l.cat y.l).q (x.l.cat y.l).t).l.use
  ((LS.mk false (0 : Nat) (x.len + y.len) x_1 (x.l.cat y.l).n (x.l.cat y.l).k (x.l.cat y.l).q (x.l.cat y.l).t).l.prod (x.len + y.len)) (x.len + y.len) / (18446744073709551616 : Int) < (18446744073709551616 : Int)) ∧ (0 :
  Int) ≤ (LS.mk false (0 : Nat) (x.len + y.len) x_1 (x.l.cat y.l).n (x.l.cat y.l).k (x.l.cat y.l).q (x.l.cat y.l).t).l.use ((LS.mk false (0 : Nat) (x.len + y.len) x_1 (x.l.cat y.l).n (x.l.cat y.l).k (x.l.cat y.l).q
  (x.l.cat y.l).t).l.prod (x.len + y.len)) (x.len + y.len) % (18446744073709551616 : Int) ∧ (LS.mk false (0 : Nat) (x.len + y.len) x_1 (x.l.cat y.l).n (x.l.cat y.l).k (x.l.cat y.l).q (x.l.cat y.l).t).l.use ((LS.mk false (0
  : Nat) (x.len + y.len) x_1 (x.l.cat y.l).n (x.l.cat y.l).k (x.l.cat y.l).q (x.l.cat y.l).t).l.prod (x.len + y.len)) (x.len + y.len) % (18446744073709551616 : Int) < (18446744073709551616 : Int)) ∧ ((0 : Int) ≤ (LS.mk
  false (0 : Nat) (x.len + y.len) x_1 (x.l.cat y.l).n (x.l.cat y.l).k (x.l.cat y.l).q (x.l.cat y.l).t).l.prod (x.len + y.len) / (18446744073709551616 : Int) ∧ (LS.mk false (0 : Nat) (x.len + y.len) x_1 (x.l.cat y.l).n
  (x.l.cat y.l).k (x.l.cat y.l).q (x.l.cat y.l).t).l.prod (x.len + y.len) / (18446744073709551616 : Int) < (18446744073709551616 : Int)) ∧ (0 : Int) ≤ (LS.mk false (0 : Nat) (x.len + y.len) x_1 (x.l.cat y.l).n (x.l.cat
  y.l).k (x.l.cat y.l).q (x.l.cat y.l).t).l.prod (x.len + y.len) % (18446744073709551616 : Int) ∧ (LS.mk false (0 : Nat) (x.len + y.len) x_1 (x.l.cat y.l).n (x.l.cat y.l).k (x.l.cat y.l).q (x.l.cat y.l).t).l.prod (x.len +
  y.len) % (18446744073709551616 : Int) < (18446744073709551616 : Int)) ∧ (decide (wcmp ((LS.mk false (0 : Nat) (x.len + y.len) x_1 (x.l.cat y.l).n (x.l.cat y.l).k (x.l.cat y.l).q (x.l.cat y.l).t).l.use ((LS.mk false (0 :
  Nat) (x.len + y.len) x_1 (x.l.cat y.l).n (x.l.cat y.l).k (x.l.cat y.l).q (x.l.cat y.l).t).l.prod (x.len + y.len)) (x.len + y.len) / (18446744073709551616 : Int)) ((LS.mk false (0 : Nat) (x.len + y.len) x_1 (x.l.cat
  y.l).n (x.l.cat y.l).k (x.l.cat y.l).q (x.l.cat y.l).t).l.use ((LS.mk false (0 : Nat) (x.len + y.len) x_1 (x.l.cat y.l).n (x.l.cat y.l).k (x.l.cat y.l).q (x.l.cat y.l).t).l.prod (x.len + y.len)) (x.len + y.len) %
  (18446744073709551616 : Int)) ((LS.mk false (0 : Nat) (x.len + y.len) x_1 (x.l.cat y.l).n (x.l.cat y.l).k (x.l.cat y.l).q (x.l.cat y.l).t).l.prod (x.len + y.len) / (18446744073709551616 : Int)) ((LS.mk false (0 : Nat)
  (x.len + y.len) x_1 (x.l.cat y.l).n (x.l.cat y.l).k (x.l.cat y.l).q (x.l.cat y.l).t).l.prod (x.len + y.len) % (18446744073709551616 : Int)) ≥ (0 : Int)) = true → ∀ (v : Int), v = (0 : Int) → (x.Ok ∧ y.Ok) ∧ x.len ≤ (100
  : Nat) ∧ y.len ≤ (100 : Nat) → ((swO x.l y.l).fst = false ∧ v = (swO x.l y.l).snd ∧ True) ∧ True ∧ ((0 : Nat) ≤ (0 : Nat) ∧ x.n = x.n ∧ ∀ (j : Nat), j < x.n → x.k j = x.k j ∧ x.q j = x.q j ∧ x.t j = x.t j ∧ True) ∧ ((0 :
  Nat) ≤ (0 : Nat) ∧ y.n = y.n ∧ ∀ (j : Nat), j < y.n → y.k j = y.k j ∧ y.q j = y.q j ∧ y.t j = y.t j ∧ True) ∧ True) ∧ (decide (wcmp ((LS.mk false (0 : Nat) (x.len + y.len) x_1 (x.l.cat y.l).n (x.l.cat y.l).k (x.l.cat
  y.l).q (x.l.cat y.l).t).l.use ((LS.mk false (0 : Nat) (x.len + y.len) x_1 (x.l.cat y.l).n (x.l.cat y.l).k (x.l.cat y.l).q (x.l.cat y.l).t).l.prod (x.len + y.len)) (x.len + y.len) / (18446744073709551616 : Int)) ((LS.mk
  false (0 : Nat) (x.len + y.len) x_1 (x.l.cat y.l).n (x.l.cat y.l).k (x.l.cat y.l).q (x.l.cat y.l).t).l.use ((LS.mk false (0 : Nat) (x.len + y.len) x_1 (x.l.cat y.l).n (x.l.cat y.l).k (x.l.cat y.l).q (x.l.cat
  y.l).t).l.prod (x.len + y.len)) (x.len + y.len) % (18446744073709551616 : Int)) ((LS.mk false (0 : Nat) (x.len + y.len) x_1 (x.l.cat y.l).n (x.l.cat y.l).k (x.l.cat y.l).q (x.l.cat y.l).t).l.prod (x.len + y.len) /
  (18446744073709551616 : Int)) ((LS.mk false (0 : Nat) (x.len + y.len) x_1 (x.l.cat y.l).n (x.l.cat y.l).k (x.l.cat y.l).q (x.l.cat y.l).t).l.prod (x.len + y.len) % (18446744073709551616 : Int)) ≥ (0 : Int)) = false →
  ((((LS.mk false (0 : Nat) (x.len + y.len) x_1 (x.l.cat y.l).n (x.l.cat y.l).k (x.l.cat y.l).q (x.l.cat y.l).t).l.prod (x.len + y.len) / (18446744073709551616 : Int) = (LS.mk false (0 : Nat) (x.len + y.len) x_1 (x.l.cat
  y.l).n (x.l.cat y.l).k (x.l.cat y.l).q (x.l.cat y.l).t).l.prod (x.len + y.len) / (18446744073709551616 : Int) ∧ (LS.mk false (0 : Nat) (x.len + y.len) x_1 (x.l.cat y.l).n (x.l.cat y.l).k (x.l.cat y.l).q (x.l.cat
  y.l).t).l.prod (x.len + y.len) % (18446744073709551616 : Int) = (LS.mk false (0 : Nat) (x.len + y.len) x_1 (x.l.cat y.l).n (x.l.cat y.l).k (x.l.cat y.l).q (x.l.cat y.l).t).l.prod (x.len + y.len) % (18446744073709551616 :
  Int) ∧ True) ∧ ((LS.mk false (0 : Nat) (x.len + y.len) x_1 (x.l.cat y.l).n (x.l.cat y.l).k (x.l.cat y.l).q (x.l.cat y.l).t).l.use ((LS.mk false (0 : Nat) (x.len + y.len) x_1 (x.l.cat y.l).n (x.l.cat y.l).k (x.l.cat
  y.l).q (x.l.cat y.l).t).l.prod (x.len + y.len)) (x.len + y.len) / (18446744073709551616 : Int) = (LS.mk false (0 : Nat) (x.len + y.len) x_1 (x.l.cat y.l).n (x.l.cat y.l).k (x.l.cat y.l).q (x.l.cat y.l).t).l.use ((LS.mk
  false (0 : Nat) (x.len + y.len) x_1 (x.l.cat y.l).n (x.l.cat y.l).k (x.l.cat y.l).q (x.l.cat y.l).t).l.prod (x.len + y.len)) (x.len + y.len) / (18446744073709551616 : Int) ∧ (LS.mk false (0 : Nat) (x.len + y.len) x_1
  (x.l.cat y.l).n (x.l.cat y.l).k (x.l.cat y.l).q (x.l.cat y.l).t).l.use ((LS.mk false (0 : Nat) (x.len + y.len) x_1 (x.l.cat y.l).n (x.l.cat y.l).k (x.l.cat y.l).q (x.l.cat y.l).t).l.prod (x.len + y.len)) (x.len + y.len)
  % (18446744073709551616 : Int) = (LS.mk false (0 : Nat) (x.len + y.len) x_1 (x.l.cat y.l).n (x.l.cat y.l).k (x.l.cat y.l).q (x.l.cat y.l).t).l.use ((LS.mk false (0 : Nat) (x.len + y.len) x_1 (x.l.cat y.l).n (x.l.cat
  y.l).k (x.l.cat y.l).q (x.l.cat y.l).t).l.prod (x.len + y.len)) (x.len + y.len) % (18446744073709551616 : Int) ∧ True) ∧ True) ∧ True) ∧ (((((0 : Int) ≤ (LS.mk false (0 : Nat) (x.len + y.len) x_1 (x.l.cat y.l).n (x.l.cat
  y.l).k (x.l.cat y.l).q (x.l.cat y.l).t).l.prod (x.len + y.len) / (18446744073709551616 : Int) ∧ (LS.mk false (0 : Nat) (x.len + y.len) x_1 (x.l.cat y.l).n (x.l.cat y.l).k (x.l.cat y.l).q (x.l.cat y.l).t).l.prod (x.len +
  y.len) / (18446744073709551616 : Int) < (18446744073709551616 : Int)) ∧ (0 : Int) ≤ (LS.mk false (0 : Nat) (x.len + y.len) x_1 (x.l.cat y.l).n (x.l.cat y.l).k (x.l.cat y.l).q (x.l.cat y.l).t).l.prod (x.len + y.len) %
  (18446744073709551616 : Int) ∧ (LS.mk false (0 : Nat) (x.len + y.len) x_1 (x.l.cat y.l).n (x.l.cat y.l).k (x.l.cat y.l).q (x.l.cat y.l).t).l.prod (x.len + y.len) % (18446744073709551616 : Int) < (18446744073709551616 :
  Int)) ∧ ((0 : Int) ≤ (LS.mk false (0 : Nat) (x.len + y.len) x_1 (x.l.cat y.l).n (x.l.cat y.l).k (x.l.cat y.l).q (x.l.cat y.l).t).l.use ((LS.mk false (0 : Nat) (x.len + y.len) x_1 (x.l.cat y.l).n (x.l.cat y.l).k (x.l.cat
  y.l).q (x.l.cat y.l).t).l.prod (x.len + y.len)) (x.len + y.len) / (18446744073709551616 : Int) ∧ (LS.mk false (0 : Nat) (x.len + y.len) x_1 (x.l.cat y.l).n (x.l.cat y.l).k (x.l.cat y.l).q (x.l.cat y.l).t).l.use ((LS.mk
  false (0 : Nat) (x.len + y.len) x_1 (x.l.cat y.l).n (x.l.cat y.l).k (x.l.cat y.l).q (x.l.cat y.l).t).l.prod (x.len + y.len)) (x.len + y.len) / (18446744073709551616 : Int) < (18446744073709551616 : Int)) ∧ (0 : Int) ≤
  (LS.mk false (0 : Nat) (x.len + y.len) x_1 (x.l.cat y.l).n (x.l.cat y.l).k (x.l.cat y.l).q (x.l.cat y.l).t).l.use ((LS.mk false (0 : Nat) (x.len + y.len) x_1 (x.l.cat y.l).n (x.l.cat y.l).k (x.l.cat y.l).q (x.l.cat
  y.l).t).l.prod (x.len + y.len)) (x.len + y.len) % (18446744073709551616 : Int) ∧ (LS.mk false (0 : Nat) (x.len + y.len) x_1 (x.l.cat y.l).n (x.l.cat y.l).k (x.l.cat y.l).q (x.l.cat y.l).t).l.use ((LS.mk false (0 : Nat)
  (x.len + y.len) x_1 (x.l.cat y.l).n (x.l.cat y.l).k (x.l.cat y.l).q (x.l.cat y.l).t).l.prod (x.len + y.len)) (x.len + y.len) % (18446744073709551616 : Int) < (18446744073709551616 : Int)) ∧ wN ((LS.mk false (0 : Nat)
  (x.len + y.len) x_1 (x.l.cat y.l).n (x.l.cat y.l).k (x.l.cat y.l).q (x.l.cat y.l).t).l.use ((LS.mk false (0 : Nat) (x.len + y.len) x_1 (x.l.cat y.l).n (x.l.cat y.l).k (x.l.cat y.l).q (x.l.cat y.l).t).l.prod (x.len +
  y.len)) (x.len + y.len) / (18446744073709551616 : Int)) ((LS.mk false (0 : Nat) (x.len + y.len) x_1 (x.l.cat y.l).n (x.l.cat y.l).k (x.l.cat y.l).q (x.l.cat y.l).t).l.use ((LS.mk false (0 : Nat) (x.len + y.len) x_1
  (x.l.cat y.l).n (x.l.cat y.l).k (x.l.cat y.l).q (x.l.cat y.l).t).l.prod (x.len + y.len)) (x.len + y.len) % (18446744073709551616 : Int)) ≤ wN ((LS.mk false (0 : Nat) (x.len + y.len) x_1 (x.l.cat y.l).n (x.l.cat y.l).k
  (x.l.cat y.l).q (x.l.cat y.l).t).l.prod (x.len + y.len) / (18446744073709551616 : Int)) ((LS.mk false (0 : Nat) (x.len + y.len) x_1 (x.l.cat y.l).n (x.l.cat y.l).k (x.l.cat y.l).q (x.l.cat y.l).t).l.prod (x.len + y.len)
  % (18446744073709551616 : Int))) ∧ ∀ (v : Int), v = (0 : Int) → ∀ (v_1 : Int), v_1 = (0 : Int) → (∃ (y_1 : Nat), (y_1 ≤ x.len ∧ rswG x y) ∧ ((((x.nil = true → x.nil = true) ∧ (x.nil = false → x.nil = false ∧ True ∧ True
  ∧ x.lo = x.lo ∧ x.len = x.len ∧ x.cap = x.cap)) ∧ ((y.nil = true → y.nil = true) ∧ (y.nil = false → y.nil = false ∧ True ∧ True ∧ y.lo = y.lo ∧ y.len = y.len ∧ y.cap = y.cap)) ∧ (True ∧ True) ∧ (True ∧ True) ∧ v = x.l.sq
  y_1 ∧ v_1 = (↑y_1 : Int) ∧ True) ∧ ((0 : Nat) ≤ (0 : Nat) ∧ x.n = x.n ∧ ∀ (j : Nat), j < x.n → x.k j = x.k j ∧ x.q j = x.q j ∧ x.t j = x.t j ∧ True) ∧ ((0 : Nat) ≤ (0 : Nat) ∧ y.n = y.n ∧ ∀ (j : Nat), j < y.n → y.k j =
  y.k j ∧ y.q j = y.q j ∧ y.t j = y.t j ∧ True) ∧ ((2 : Nat) ≤ (2 : Nat) ∧ (LS.mk false (0 : Nat) (x.len + y.len) x_1 (x.l.cat y.l).n (x.l.cat y.l).k (x.l.cat y.l).q (x.l.cat y.l).t).l.prod (x.len + y.len) /
  (18446744073709551616 : Int) = (x.l.cat y.l).W / (18446744073709551616 : Int) ∧ (LS.mk false (0 : Nat) (x.len + y.len) x_1 (x.l.cat y.l).n (x.l.cat y.l).k (x.l.cat y.l).q (x.l.cat y.l).t).l.prod (x.len + y.len) %
  (18446744073709551616 : Int) = (x.l.cat y.l).W % (18446744073709551616 : Int) ∧ True) ∧ ((2 : Nat) ≤ (2 : Nat) ∧ (wN ((LS.mk false (0 : Nat) (x.len + y.len) x_1 (x.l.cat y.l).n (x.l.cat y.l).k (x.l.cat y.l).q (x.l.cat
  y.l).t).l.prod (x.len + y.len) / (18446744073709551616 : Int)) ((LS.mk false (0 : Nat) (x.len + y.len) x_1 (x.l.cat y.l).n (x.l.cat y.l).k (x.l.cat y.l).q (x.l.cat y.l).t).l.prod (x.len + y.len) % (18446744073709551616 :
  Int)) - wN ((LS.mk false (0 : Nat) (x.len + y.len) x_1 (x.l.cat y.l).n (x.l.cat y.l).k (x.l.cat y.l).q (x.l.cat y.l).t).l.use ((LS.mk false (0 : Nat) (x.len + y.len) x_1 (x.l.cat y.l).n (x.l.cat y.l).k (x.l.cat y.l).q
  (x.l.cat y.l).t).l.prod (x.len + y.len)) (x.len + y.len) / (18446744073709551616 : Int)) ((LS.mk false (0 : Nat) (x.len + y.len) x_1 (x.l.cat y.l).n (x.l.cat y.l).k (x.l.cat y.l).q (x.l.cat y.l).t).l.use ((LS.mk false (0
  : Nat) (x.len + y.len) x_1 (x.l.cat y.l).n (x.l.cat y.l).k (x.l.cat y.l).q (x.l.cat y.l).t).l.prod (x.len + y.len)) (x.len + y.len) % (18446744073709551616 : Int))) / (18446744073709551616 : Int) = swL x.l y.l /
  (18446744073709551616 : Int) ∧ (wN ((LS.mk false (0 : Nat) (x.len + y.len) x_1 (x.l.cat y.l).n (x.l.cat y.l).k (x.l.cat y.l).q (x.l.cat y.l).t).l.prod (x.len + y.len) / (18446744073709551616 : Int)) ((LS.mk false (0 :
  Nat) (x.len + y.len) x_1 (x.l.cat y.l).n (x.l.cat y.l).k (x.l.cat y.l).q (x.l.cat y.l).t).l.prod (x.len + y.len) % (18446744073709551616 : Int)) - wN ((LS.mk false (0 : Nat) (x.len + y.len) x_1 (x.l.cat y.l).n (x.l.cat
  y.l).k (x.l.cat y.l).q (x.l.cat y.l).t).l.use ((LS.mk false (0 : Nat) (x.len + y.len) x_1 (x.l.cat y.l).n (x.l.cat y.l).k (x.l.cat y.l).q (x.l.cat y.l).t).l.prod (x.len + y.len)) (x.len + y.len) / (18446744073709551616 :
  Int)) ((LS.mk false (0 : Nat) (x.len + y.len) x_1 (x.l.cat y.l).n (x.l.cat y.l).k (x.l.cat y.l).q (x.l.cat y.l).t).l.use ((LS.mk false (0 : Nat) (x.len + y.len) x_1 (x.l.cat y.l).n (x.l.cat y.l).k (x.l.cat y.l).q
  (x.l.cat y.l).t).l.prod (x.len + y.len)) (x.len + y.len) % (18446744073709551616 : Int))) % (18446744073709551616 : Int) = swL x.l y.l % (18446744073709551616 : Int) ∧ True) ∧ True) ∧ True) ∧ ∀ (y_1 : Nat), y_1 ≤ x.len ∧
  rswG x y → (x.nil = true → x.len = (0 : Nat)) ∧ (decide ((↑y_1 : Int) < (↑x.len : Int)) = true → (x.nil = true → x.len = (0 : Nat)) ∧ ((0 : Int) ≤ (↑y_1 : Int) ∧ (↑y_1 : Int) < (↑x.len : Int)) ∧ x.lo + (↑y_1 : Int).toNat
  < x.n ∧ ∀ (v : Int), v = IntKind.u64.wrap (x.l.sq y_1 + x.q (x.lo + (↑y_1 : Int).toNat)) → ∀ (v_2 : Int), v_2 = IntKind.i64.wrap ((↑y_1 : Int) + (1 : Int)) → ∃ (y_2 : Nat), (y_2 ≤ x.len ∧ rswG x y) ∧ ((((x.nil = true →
  x.nil = true) ∧ (x.nil = false → x.nil = false ∧ True ∧ True ∧ x.lo = x.lo ∧ x.len = x.len ∧ x.cap = x.cap)) ∧ ((y.nil = true → y.nil = true) ∧ (y.nil = false → y.nil = false ∧ True ∧ True ∧ y.lo = y.lo ∧ y.len = y.len ∧
  y.cap = y.cap)) ∧ (True ∧ True) ∧ (True ∧ True) ∧ v = x.l.sq y_2 ∧ v_2 = (↑y_2 : Int) ∧ True) ∧ ((0 : Nat) ≤ (0 : Nat) ∧ x.n = x.n ∧ ∀ (j : Nat), j < x.n → x.k j = x.k j ∧ x.q j = x.q j ∧ x.t j = x.t j ∧ True) ∧ ((0 :
  Nat) ≤ (0 : Nat) ∧ y.n = y.n ∧ ∀ (j : Nat), j < y.n → y.k j = y.k j ∧ y.q j = y.q j ∧ y.t j = y.t j ∧ True) ∧ ((2 : Nat) ≤ (2 : Nat) ∧ (x.l.cat y.l).W / (18446744073709551616 : Int) = (x.l.cat y.l).W /
  (18446744073709551616 : Int) ∧ (x.l.cat y.l).W % (18446744073709551616 : Int) = (x.l.cat y.l).W % (18446744073709551616 : Int) ∧ True) ∧ ((2 : Nat) ≤ (2 : Nat) ∧ swL x.l y.l / (18446744073709551616 : Int) = swL x.l y.l /
  (18446744073709551616 : Int) ∧ swL x.l y.l % (18446744073709551616 : Int) = swL x.l y.l % (18446744073709551616 : Int) ∧ True) ∧ True) ∧ (rswF1 x y).μ y_2 < (rswF1 x y).μ y_1) ∧ (decide ((↑y_1 : Int) < (↑x.len : Int)) =
  false → ((((x.l.cat y.l).W / (18446744073709551616 : Int) = (x.l.cat y.l).W / (18446744073709551616 : Int) ∧ (x.l.cat y.l).W % (18446744073709551616 : Int) = (x.l.cat y.l).W % (18446744073709551616 : Int) ∧ True) ∧
  x.l.sq y_1 = x.l.sq y_1 ∧ True) ∧ True) ∧ ((((0 : Int) ≤ (x.l.cat y.l).W / (18446744073709551616 : Int) ∧ (x.l.cat y.l).W / (18446744073709551616 : Int) < (18446744073709551616 : Int)) ∧ (0 : Int) ≤ (x.l.cat y.l).W %
  (18446744073709551616 : Int) ∧ (x.l.cat y.l).W % (18446744073709551616 : Int) < (18446744073709551616 : Int)) ∧ ((0 : Int) ≤ x.l.sq y_1 ∧ x.l.sq y_1 < (18446744073709551616 : Int)) ∧ wN ((x.l.cat y.l).W /
  (18446744073709551616 : Int)) ((x.l.cat y.l).W % (18446744073709551616 : Int)) * x.l.sq y_1 < two128) ∧ (((swL x.l y.l / (18446744073709551616 : Int) = swL x.l y.l / (18446744073709551616 : Int) ∧ swL x.l y.l %
  (18446744073709551616 : Int) = swL x.l y.l % (18446744073709551616 : Int) ∧ True) ∧ (65536 : Int) = (65536 : Int) ∧ True) ∧ True) ∧ ((((0 : Int) ≤ swL x.l y.l / (18446744073709551616 : Int) ∧ swL x.l y.l /
  (18446744073709551616 : Int) < (18446744073709551616 : Int)) ∧ (0 : Int) ≤ swL x.l y.l % (18446744073709551616 : Int) ∧ swL x.l y.l % (18446744073709551616 : Int) < (18446744073709551616 : Int)) ∧ ((0 : Int) ≤ (65536 :
  Int) ∧ (65536 : Int) < (18446744073709551616 : Int)) ∧ wN (swL x.l y.l / (18446744073709551616 : Int)) (swL x.l y.l % (18446744073709551616 : Int)) * (65536 : Int) < two128) ∧ (((wN (swL x.l y.l / (18446744073709551616 :
  Int)) (swL x.l y.l % (18446744073709551616 : Int)) * (65536 : Int) / (18446744073709551616 : Int) = wN (swL x.l y.l / (18446744073709551616 : Int)) (swL x.l y.l % (18446744073709551616 : Int)) * (65536 : Int) /
  (18446744073709551616 : Int) ∧ wN (swL x.l y.l / (18446744073709551616 : Int)) (swL x.l y.l % (18446744073709551616 : Int)) * (65536 : Int) % (18446744073709551616 : Int) = wN (swL x.l y.l / (18446744073709551616 : Int))
  (swL x.l y.l % (18446744073709551616 : Int)) * (65536 : Int) % (18446744073709551616 : Int) ∧ True) ∧ (wN ((x.l.cat y.l).W / (18446744073709551616 : Int)) ((x.l.cat y.l).W % (18446744073709551616 : Int)) * x.l.sq y_1 /
  (18446744073709551616 : Int) = wN ((x.l.cat y.l).W / (18446744073709551616 : Int)) ((x.l.cat y.l).W % (18446744073709551616 : Int)) * x.l.sq y_1 / (18446744073709551616 : Int) ∧ wN ((x.l.cat y.l).W /
  (18446744073709551616 : Int)) ((x.l.cat y.l).W % (18446744073709551616 : Int)) * x.l.sq y_1 % (18446744073709551616 : Int) = wN ((x.l.cat y.l).W / (18446744073709551616 : Int)) ((x.l.cat y.l).W % (18446744073709551616 :
  Int)) * x.l.sq y_1 % (18446744073709551616 : Int) ∧ True) ∧ True) ∧ True) ∧ ((((0 : Int) ≤ wN (swL x.l y.l / (18446744073709551616 : Int)) (swL x.l y.l % (18446744073709551616 : Int)) * (65536 : Int) /
  (18446744073709551616 : Int) ∧ wN (swL x.l y.l / (18446744073709551616 : Int)) (swL x.l y.l % (18446744073709551616 : Int)) * (65536 : Int) / (18446744073709551616 : Int) < (18446744073709551616 : Int)) ∧ (0 : Int) ≤ wN
  (swL x.l y.l / (18446744073709551616 : Int)) (swL x.l y.l % (18446744073709551616 : Int)) * (65536 : Int) % (18446744073709551616 : Int) ∧ wN (swL x.l y.l / (18446744073709551616 : Int)) (swL x.l y.l %
  (18446744073709551616 : Int)) * (65536 : Int) % (18446744073709551616 : Int) < (18446744073709551616 : Int)) ∧ ((0 : Int) ≤ wN ((x.l.cat y.l).W / (18446744073709551616 : Int)) ((x.l.cat y.l).W % (18446744073709551616 :
  Int)) * x.l.sq y_1 / (18446744073709551616 : Int) ∧ wN ((x.l.cat y.l).W / (18446744073709551616 : Int)) ((x.l.cat y.l).W % (18446744073709551616 : Int)) * x.l.sq y_1 / (18446744073709551616 : Int) < (18446744073709551616
  : Int)) ∧ (0 : Int) ≤ wN ((x.l.cat y.l).W / (18446744073709551616 : Int)) ((x.l.cat y.l).W % (18446744073709551616 : Int)) * x.l.sq y_1 % (18446744073709551616 : Int) ∧ wN ((x.l.cat y.l).W / (18446744073709551616 : Int))
  ((x.l.cat y.l).W % (18446744073709551616 : Int)) * x.l.sq y_1 % (18446744073709551616 : Int) < (18446744073709551616 : Int)) ∧ (decide (wcmp (wN (swL x.l y.l / (18446744073709551616 : Int)) (swL x.l y.l %
  (18446744073709551616 : Int)) * (65536 : Int) / (18446744073709551616 : Int)) (wN (swL x.l y.l / (18446744073709551616 : Int)) (swL x.l y.l % (18446744073709551616 : Int)) * (65536 : Int) % (18446744073709551616 : Int))
  (wN ((x.l.cat y.l).W / (18446744073709551616 : Int)) ((x.l.cat y.l).W % (18446744073709551616 : Int)) * x.l.sq y_1 / (18446744073709551616 : Int)) (wN ((x.l.cat y.l).W / (18446744073709551616 : Int)) ((x.l.cat y.l).W %
  (18446744073709551616 : Int)) * x.l.sq y_1 % (18446744073709551616 : Int)) < (0 : Int)) = true → ∀ (v : Int), v = (14 : Int) → (x.Ok ∧ y.Ok) ∧ x.len ≤ (100 : Nat) ∧ y.len ≤ (100 : Nat) → ((swO x.l y.l).fst = false ∧ v =
  (swO x.l y.l).snd ∧ True) ∧ True ∧ ((0 : Nat) ≤ (0 : Nat) ∧ x.n = x.n ∧ ∀ (j : Nat), j < x.n → x.k j = x.k j ∧ x.q j = x.q j ∧ x.t j = x.t j ∧ True) ∧ ((0 : Nat) ≤ (0 : Nat) ∧ y.n = y.n ∧ ∀ (j : Nat), j < y.n → y.k j =
  y.k j ∧ y.q j = y.q j ∧ y.t j = y.t j ∧ True) ∧ True) ∧ (decide (wcmp (wN (swL x.l y.l / (18446744073709551616 : Int)) (swL x.l y.l % (18446744073709551616 : Int)) * (65536 : Int) / (18446744073709551616 : Int)) (wN (swL
  x.l y.l / (18446744073709551616 : Int)) (swL x.l y.l % (18446744073709551616 : Int)) * (65536 : Int) % (18446744073709551616 : Int)) (wN ((x.l.cat y.l).W / (18446744073709551616 : Int)) ((x.l.cat y.l).W %
  (18446744073709551616 : Int)) * x.l.sq y_1 / (18446744073709551616 : Int)) (wN ((x.l.cat y.l).W / (18446744073709551616 : Int)) ((x.l.cat y.l).W % (18446744073709551616 : Int)) * x.l.sq y_1 % (18446744073709551616 :
  Int)) < (0 : Int)) = false → (y.nil = true → y.len = (0 : Nat)) ∧ ((0 : Int) ≤ (0 : Int) ∧ (0 : Int) < (↑y.len : Int)) ∧ y.lo + Int.toNat (0 : Int) < y.n ∧ ∀ (v : Int), v = y.t (y.lo + Int.toNat (0 : Int)) → ∀ (v_2 :
  Int), v_2 = (0 : Int) → (∃ (y_2 : Nat), (y_2 ≤ y.len ∧ rswG x y ∧ (x.l.cat y.l).W * x.l.sq x.len ≤ swL x.l y.l * (65536 : Int)) ∧ ((((x.nil = true → x.nil = true) ∧ (x.nil = false → x.nil = false ∧ True ∧ True ∧ x.lo =
  x.lo ∧ x.len = x.len ∧ x.cap = x.cap)) ∧ ((y.nil = true → y.nil = true) ∧ (y.nil = false → y.nil = false ∧ True ∧ True ∧ y.lo = y.lo ∧ y.len = y.len ∧ y.cap = y.cap)) ∧ (True ∧ True) ∧ (True ∧ True) ∧ v = y.l.mn y_2 ∧
  v_2 = (↑y_2 : Int) ∧ True) ∧ ((0 : Nat) ≤ (0 : Nat) ∧ x.n = x.n ∧ ∀ (j : Nat), j < x.n → x.k j = x.k j ∧ x.q j = x.q j ∧ x.t j = x.t j ∧ True) ∧ ((0 : Nat) ≤ (0 : Nat) ∧ y.n = y.n ∧ ∀ (j : Nat), j < y.n → y.k j = y.k j ∧
  y.q j = y.q j ∧ y.t j = y.t j ∧ True) ∧ ((2 : Nat) ≤ (2 : Nat) ∧ swL x.l y.l / (18446744073709551616 : Int) = swL x.l y.l / (18446744073709551616 : Int) ∧ swL x.l y.l % (18446744073709551616 : Int) = swL x.l y.l %
  (18446744073709551616 : Int) ∧ True) ∧ ((2 : Nat) ≤ (2 : Nat) ∧ wN ((x.l.cat y.l).W / (18446744073709551616 : Int)) ((x.l.cat y.l).W % (18446744073709551616 : Int)) * x.l.sq y_1 / (18446744073709551616 : Int) = (x.l.cat
  y.l).W * x.l.sq x.len / (18446744073709551616 : Int) ∧ wN ((x.l.cat y.l).W / (18446744073709551616 : Int)) ((x.l.cat y.l).W % (18446744073709551616 : Int)) * x.l.sq y_1 % (18446744073709551616 : Int) = (x.l.cat y.l).W *
  x.l.sq x.len % (18446744073709551616 : Int) ∧ True) ∧ True) ∧ True) ∧ ∀ (y_2 : Nat), y_2 ≤ y.len ∧ rswG x y ∧ (x.l.cat y.l).W * x.l.sq x.len ≤ swL x.l y.l * (65536 : Int) → (y.nil = true → y.len = (0 : Nat)) ∧ (decide
  ((↑y_2 : Int) < (↑y.len : Int)) = true → (y.nil = true → y.len = (0 : Nat)) ∧ ((0 : Int) ≤ (↑y_2 : Int) ∧ (↑y_2 : Int) < (↑y.len : Int)) ∧ y.lo + (↑y_2 : Int).toNat < y.n ∧ ∀ (v : Int), (v = if y.t (y.lo + (↑y_2 :
  Int).toNat) < y.l.mn y_2 then y.t (y.lo + (↑y_2 : Int).toNat) else y.l.mn y_2) → ∀ (v_3 : Int), v_3 = IntKind.i64.wrap ((↑y_2 : Int) + (1 : Int)) → ∃ (y_3 : Nat), (y_3 ≤ y.len ∧ rswG x y ∧ (x.l.cat y.l).W * x.l.sq x.len
  ≤ swL x.l y.l * (65536 : Int)) ∧ ((((x.nil = true → x.nil = true) ∧ (x.nil = false → x.nil = false ∧ True ∧ True ∧ x.lo = x.lo ∧ x.len = x.len ∧ x.cap = x.cap)) ∧ ((y.nil = true → y.nil = true) ∧ (y.nil = false → y.nil =
  false ∧ True ∧ True ∧ y.lo = y.lo ∧ y.len = y.len ∧ y.cap = y.cap)) ∧ (True ∧ True) ∧ (True ∧ True) ∧ v = y.l.mn y_3 ∧ v_3 = (↑y_3 : Int) ∧ True) ∧ ((0 : Nat) ≤ (0 : Nat) ∧ x.n = x.n ∧ ∀ (j : Nat), j < x.n → x.k j = x.k
  j ∧ x.q j = x.q j ∧ x.t j = x.t j ∧ True) ∧ ((0 : Nat) ≤ (0 : Nat) ∧ y.n = y.n ∧ ∀ (j : Nat), j < y.n → y.k j = y.k j ∧ y.q j = y.q j ∧ y.t j = y.t j ∧ True) ∧ ((2 : Nat) ≤ (2 : Nat) ∧ swL x.l y.l / (18446744073709551616
  : Int) = swL x.l y.l / (18446744073709551616 : Int) ∧ swL x.l y.l % (18446744073709551616 : Int) = swL x.l y.l % (18446744073709551616 : Int) ∧ True) ∧ ((2 : Nat) ≤ (2 : Nat) ∧ (x.l.cat y.l).W * x.l.sq x.len /
  (18446744073709551616 : Int) = (x.l.cat y.l).W * x.l.sq x.len / (18446744073709551616 : Int) ∧ (x.l.cat y.l).W * x.l.sq x.len % (18446744073709551616 : Int) = (x.l.cat y.l).W * x.l.sq x.len % (18446744073709551616 : Int)
  ∧ True) ∧ True) ∧ (rswF2 x y).μ y_3 < (rswF2 x y).μ y_2) ∧ (decide ((↑y_2 : Int) < (↑y.len : Int)) = false → (((swL x.l y.l / (18446744073709551616 : Int) = swL x.l y.l / (18446744073709551616 : Int) ∧ swL x.l y.l %
  (18446744073709551616 : Int) = swL x.l y.l % (18446744073709551616 : Int) ∧ True) ∧ ((x.l.cat y.l).W * x.l.sq x.len / (18446744073709551616 : Int) = (x.l.cat y.l).W * x.l.sq x.len / (18446744073709551616 : Int) ∧
  (x.l.cat y.l).W * x.l.sq x.len % (18446744073709551616 : Int) = (x.l.cat y.l).W * x.l.sq x.len % (18446744073709551616 : Int) ∧ True) ∧ True) ∧ True) ∧ ((((((0 : Int) ≤ swL x.l y.l / (18446744073709551616 : Int) ∧ swL
  x.l y.l / (18446744073709551616 : Int) < (18446744073709551616 : Int)) ∧ (0 : Int) ≤ swL x.l y.l % (18446744073709551616 : Int) ∧ swL x.l y.l % (18446744073709551616 : Int) < (18446744073709551616 : Int)) ∧ ((0 : Int) ≤
  (x.l.cat y.l).W * x.l.sq x.len / (18446744073709551616 : Int) ∧ (x.l.cat y.l).W * x.l.sq x.len / (18446744073709551616 : Int) < (18446744073709551616 : Int)) ∧ (0 : Int) ≤ (x.l.cat y.l).W * x.l.sq x.len %
  (18446744073709551616 : Int) ∧ (x.l.cat y.l).W * x.l.sq x.len % (18446744073709551616 : Int) < (18446744073709551616 : Int)) ∧ wN (swL x.l y.l / (18446744073709551616 : Int)) (swL x.l y.l % (18446744073709551616 : Int))
  ≤ (20282409603651670423947251286016 : Int)) ∧ wN ((x.l.cat y.l).W * x.l.sq x.len / (18446744073709551616 : Int)) ((x.l.cat y.l).W * x.l.sq x.len % (18446744073709551616 : Int)) ≤ wN (swL x.l y.l / (18446744073709551616 :
  Int)) (swL x.l y.l % (18446744073709551616 : Int)) * (65536 : Int)) ∧ ∀ (v : Int), v = (↑(lst (leN (wN (swL x.l y.l / (18446744073709551616 : Int)) (swL x.l y.l % (18446744073709551616 : Int))) (wN ((x.l.cat y.l).W *
  x.l.sq x.len / (18446744073709551616 : Int)) ((x.l.cat y.l).W * x.l.sq x.len % (18446744073709551616 : Int)))) (0 : Nat) (65537 : Nat)) : Int) → ∀ (v_3 : Int), v_3 = y.l.mn y_2 → (∃ (y_3 : Nat), ((y.l.fst ≤ (↑y_3 : Int)
  ∧ (↑y_3 : Int) ≤ max y.l.fst (swH x.l y.l).fst + (1 : Int)) ∧ (rswG x y ∧ (swH x.l y.l).snd = (0 : Int)) ∧ ∀ (t : Nat), y.l.fst ≤ (↑t : Int) → t < y_3 → swd x.l y.l (↑t : Int) ≤ (↑t : Int)) ∧ ((((x.nil = true → x.nil =
  true) ∧ (x.nil = false → x.nil = false ∧ True ∧ True ∧ x.lo = x.lo ∧ x.len = x.len ∧ x.cap = x.cap)) ∧ ((y.nil = true → y.nil = true) ∧ (y.nil = false → y.nil = false ∧ True ∧ True ∧ y.lo = y.lo ∧ y.len = y.len ∧ y.cap =
  y.cap)) ∧ y.l.mn y_2 = y.l.fst ∧ v = (swH x.l y.l).fst ∧ v_3 = (↑y_3 : Int) ∧ True) ∧ ((0 : Nat) ≤ (0 : Nat) ∧ x.n = x.n ∧ ∀ (j : Nat), j < x.n → x.k j = x.k j ∧ x.q j = x.q j ∧ x.t j = x.t j ∧ True) ∧ ((0 : Nat) ≤ (0 :
  Nat) ∧ y.n = y.n ∧ ∀ (j : Nat), j < y.n → y.k j = y.k j ∧ y.q j = y.q j ∧ y.t j = y.t j ∧ True) ∧ True) ∧ True) ∧ ∀ (y_3 : Nat), ((y.l.fst ≤ (↑y_3 : Int) ∧ (↑y_3 : Int) ≤ max y.l.fst (swH x.l y.l).fst + (1 : Int)) ∧
  (rswG x y ∧ (swH x.l y.l).snd = (0 : Int)) ∧ ∀ (t : Nat), y.l.fst ≤ (↑t : Int) → t < y_3 → swd x.l y.l (↑t : Int) ≤ (↑t : Int)) → (decide ((↑y_3 : Int) ≤ if y.l.fst < (swH x.l y.l).fst then (swH x.l y.l).fst else
  y.l.fst) = true → ∀ (v : Int), v = (0 : Int) → ∀ (v_4 : Int), v_4 = (0 : Int) → ∃ (g : Nat), (∃ (y_4 : Nat), (rswF4 x y g).I y_4 ∧ ((((x.nil = true → x.nil = true) ∧ (x.nil = false → x.nil = false ∧ True ∧ True ∧ x.lo =
  x.lo ∧ x.len = x.len ∧ x.cap = x.cap)) ∧ ((y.nil = true → y.nil = true) ∧ (y.nil = false → y.nil = false ∧ True ∧ True ∧ y.lo = y.lo ∧ y.len = y.len ∧ y.cap = y.cap)) ∧ y.l.fst = y.l.fst ∧ (swH x.l y.l).fst = (swH x.l
  y.l).fst ∧ (↑y_3 : Int) = (↑g : Int) ∧ v = x.l.bas (↑g : Int) y_4 ∧ v_4 = (↑y_4 : Int) ∧ True) ∧ ((0 : Nat) ≤ (0 : Nat) ∧ x.n = x.n ∧ ∀ (j : Nat), j < x.n → x.k j = x.k j ∧ x.q j = x.q j ∧ x.t j = x.t j ∧ True) ∧ ((0 :
  Nat) ≤ (0 : Nat) ∧ y.n = y.n ∧ ∀ (j : Nat), j < y.n → y.k j = y.k j ∧ y.q j = y.q j ∧ y.t j = y.t j ∧ True) ∧ True) ∧ True) ∧ ∀ (y_4 : Nat), (rswF4 x y g).I y_4 → (x.nil = true → x.len = (0 : Nat)) ∧ (decide ((↑y_4 :
  Int) < (↑x.len : Int)) = true → (x.nil = true → x.len = (0 : Nat)) ∧ ((0 : Int) ≤ (↑y_4 : Int) ∧ (↑y_4 : Int) < (↑x.len : Int)) ∧ x.lo + (↑y_4 : Int).toNat < x.n ∧ x.t (x.lo + (↑y_4 : Int).toNat) ≠ (0 : Int) ∧ (x.nil =
  true → x.len = (0 : Nat)) ∧ ((0 : Int) ≤ (↑y_4 : Int) ∧ (↑y_4 : Int) < (↑x.len : Int)) ∧ x.lo + (↑y_4 : Int).toNat < x.n ∧ ∀ (v : Int), v = IntKind.u64.wrap (x.l.bas (↑g : Int) y_4 + IntKind.u64.wrap (IntKind.u64.wrap
  (IntKind.u64.wrap ((↑g : Int).tdiv (x.t (x.lo + (↑y_4 : Int).toNat))) + (1 : Int)) * x.q (x.lo + (↑y_4 : Int).toNat))) → ∀ (v_5 : Int), v_5 = IntKind.i64.wrap ((↑y_4 : Int) + (1 : Int)) → ∃ (y_5 : Nat), (rswF4 x y g).I
  y_5 ∧ ((((x.nil = true → x.nil = true) ∧ (x.nil = false → x.nil = false ∧ True ∧ True ∧ x.lo = x.lo ∧ x.len = x.len ∧ x.cap = x.cap)) ∧ ((y.nil = true → y.nil = true) ∧ (y.nil = false → y.nil = false ∧ True ∧ True ∧ y.lo
  = y.lo ∧ y.len = y.len ∧ y.cap = y.cap)) ∧ y.l.fst = y.l.fst ∧ (swH x.l y.l).fst = (swH x.l y.l).fst ∧ (↑g : Int) = (↑g : Int) ∧ v = x.l.bas (↑g : Int) y_5 ∧ v_5 = (↑y_5 : Int) ∧ True) ∧ ((0 : Nat) ≤ (0 : Nat) ∧ x.n =
  x.n ∧ ∀ (j : Nat), j < x.n → x.k j = x.k j ∧ x.q j = x.q j ∧ x.t j = x.t j ∧ True) ∧ ((0 : Nat) ≤ (0 : Nat) ∧ y.n = y.n ∧ ∀ (j : Nat), j < y.n → y.k j = y.k j ∧ y.q j = y.q j ∧ y.t j = y.t j ∧ True) ∧ True) ∧ (rswF4 x y
  g).μ y_5 < (rswF4 x y g).μ y_4) ∧ (decide ((↑y_4 : Int) < (↑x.len : Int)) = false → ∀ (v : Int), v = (0 : Int) → ∃ (g_1 : Nat), (∃ (y_5 : Nat), (rswF5 x y g_1).I y_5 ∧ ((((x.nil = true → x.nil = true) ∧ (x.nil = false →
  x.nil = false ∧ True ∧ True ∧ x.lo = x.lo ∧ x.len = x.len ∧ x.cap = x.cap)) ∧ ((y.nil = true → y.nil = true) ∧ (y.nil = false → y.nil = false ∧ True ∧ True ∧ y.lo = y.lo ∧ y.len = y.len ∧ y.cap = y.cap)) ∧ y.l.fst =
  y.l.fst ∧ (swH x.l y.l).fst = (swH x.l y.l).fst ∧ (↑g : Int) = (↑g_1 : Int) ∧ x.l.bas (↑g : Int) y_4 = x.l.bas (↑g_1 : Int) x.len + y.l.exs (↑g_1 : Int) y_5 ∧ v = (↑y_5 : Int) ∧ True) ∧ ((0 : Nat) ≤ (0 : Nat) ∧ x.n = x.n
  ∧ ∀ (j : Nat), j < x.n → x.k j = x.k j ∧ x.q j = x.q j ∧ x.t j = x.t j ∧ True) ∧ ((0 : Nat) ≤ (0 : Nat) ∧ y.n = y.n ∧ ∀ (j : Nat), j < y.n → y.k j = y.k j ∧ y.q j = y.q j ∧ y.t j = y.t j ∧ True) ∧ True) ∧ True) ∧ ∀ (y_5
  : Nat), (rswF5 x y g_1).I y_5 → (y.nil = true → y.len = (0 : Nat)) ∧ (decide ((↑y_5 : Int) < (↑y.len : Int)) = true → (y.nil = true → y.len = (0 : Nat)) ∧ ((0 : Int) ≤ (↑y_5 : Int) ∧ (↑y_5 : Int) < (↑y.len : Int)) ∧ y.lo
  + (↑y_5 : Int).toNat < y.n ∧ y.t (y.lo + (↑y_5 : Int).toNat) ≠ (0 : Int) ∧ (y.nil = true → y.len = (0 : Nat)) ∧ ((0 : Int) ≤ (↑y_5 : Int) ∧ (↑y_5 : Int) < (↑y.len : Int)) ∧ y.lo + (↑y_5 : Int).toNat < y.n ∧ ∀ (v : Int),
  v = IntKind.u64.wrap (x.l.bas (↑g_1 : Int) x.len + y.l.exs (↑g_1 : Int) y_5 + IntKind.u64.wrap (IntKind.u64.wrap ((↑g_1 : Int).tdiv (y.t (y.lo + (↑y_5 : Int).toNat))) * y.q (y.lo + (↑y_5 : Int).toNat))) → ∀ (v_5 : Int),
  v_5 = IntKind.i64.wrap ((↑y_5 : Int) + (1 : Int)) → ∃ (y_6 : Nat), (rswF5 x y g_1).I y_6 ∧ ((((x.nil = true → x.nil = true) ∧ (x.nil = false → x.nil = false ∧ True ∧ True ∧ x.lo = x.lo ∧ x.len = x.len ∧ x.cap = x.cap)) ∧
  ((y.nil = true → y.nil = true) ∧ (y.nil = false → y.nil = false ∧ True ∧ True ∧ y.lo = y.lo ∧ y.len = y.len ∧ y.cap = y.cap)) ∧ y.l.fst = y.l.fst ∧ (swH x.l y.l).fst = (swH x.l y.l).fst ∧ (↑g_1 : Int) = (↑g_1 : Int) ∧ v
  = x.l.bas (↑g_1 : Int) x.len + y.l.exs (↑g_1 : Int) y_6 ∧ v_5 = (↑y_6 : Int) ∧ True) ∧ ((0 : Nat) ≤ (0 : Nat) ∧ x.n = x.n ∧ ∀ (j : Nat), j < x.n → x.k j = x.k j ∧ x.q j = x.q j ∧ x.t j = x.t j ∧ True) ∧ ((0 : Nat) ≤ (0 :
  Nat) ∧ y.n = y.n ∧ ∀ (j : Nat), j < y.n → y.k j = y.k j ∧ y.q j = y.q j ∧ y.t j = y.t j ∧ True) ∧ True) ∧ (rswF5 x y g_1).μ y_6 < (rswF5 x y g_1).μ y_5) ∧ (decide ((↑y_5 : Int) < (↑y.len : Int)) = false → (decide
  (x.l.bas (↑g_1 : Int) x.len + y.l.exs (↑g_1 : Int) y_5 > (↑g_1 : Int)) = true → ∀ (v : Int), v = (0 : Int) → (x.Ok ∧ y.Ok) ∧ x.len ≤ (100 : Nat) ∧ y.len ≤ (100 : Nat) → ((swO x.l y.l).fst = false ∧ v = (swO x.l y.l).snd
  ∧ True) ∧ True ∧ ((0 : Nat) ≤ (0 : Nat) ∧ x.n = x.n ∧ ∀ (j : Nat), j < x.n → x.k j = x.k j ∧ x.q j = x.q j ∧ x.t j = x.t j ∧ True) ∧ ((0 : Nat) ≤ (0 : Nat) ∧ y.n = y.n ∧ ∀ (j : Nat), j < y.n → y.k j = y.k j ∧ y.q j = y.q
  j ∧ y.t j = y.t j ∧ True) ∧ True) ∧ (decide (x.l.bas (↑g_1 : Int) x.len + y.l.exs (↑g_1 : Int) y_5 > (↑g_1 : Int)) = false → ∀ (v : Int), v = IntKind.u64.wrap ((↑g_1 : Int) + (1 : Int)) → ∃ (y_6 : Nat), ((y.l.fst ≤ (↑y_6
  : Int) ∧ (↑y_6 : Int) ≤ max y.l.fst (swH x.l y.l).fst + (1 : Int)) ∧ (rswG x y ∧ (swH x.l y.l).snd = (0 : Int)) ∧ ∀ (t : Nat), y.l.fst ≤ (↑t : Int) → t < y_6 → swd x.l y.l (↑t : Int) ≤ (↑t : Int)) ∧ ((((x.nil = true →
  x.nil = true) ∧ (x.nil = false → x.nil = false ∧ True ∧ True ∧ x.lo = x.lo ∧ x.len = x.len ∧ x.cap = x.cap)) ∧ ((y.nil = true → y.nil = true) ∧ (y.nil = false → y.nil = false ∧ True ∧ True ∧ y.lo = y.lo ∧ y.len = y.len ∧
  y.cap = y.cap)) ∧ y.l.fst = y.l.fst ∧ (swH x.l y.l).fst = (swH x.l y.l).fst ∧ v = (↑y_6 : Int) ∧ True) ∧ ((0 : Nat) ≤ (0 : Nat) ∧ x.n = x.n ∧ ∀ (j : Nat), j < x.n → x.k j = x.k j ∧ x.q j = x.q j ∧ x.t j = x.t j ∧ True) ∧
  ((0 : Nat) ≤ (0 : Nat) ∧ y.n = y.n ∧ ∀ (j : Nat), j < y.n → y.k j = y.k j ∧ y.q j = y.q j ∧ y.t j = y.t j ∧ True) ∧ True) ∧ (rswF3 x y).μ y_6 < (rswF3 x y).μ y_3)))) ∧ (decide ((↑y_3 : Int) ≤ if y.l.fst < (swH x.l
  y.l).fst then (swH x.l y.l).fst else y.l.fst) = false → ∀ (v : Int), v = (0 : Int) → (x.Ok ∧ y.Ok) ∧ x.len ≤ (100 : Nat) ∧ y.len ≤ (100 : Nat) → ((swO x.l y.l).fst = true ∧ v = (swO x.l y.l).snd ∧ True) ∧ True ∧ ((0 :
  Nat) ≤ (0 : Nat) ∧ x.n = x.n ∧ ∀ (j : Nat), j < x.n → x.k j = x.k j ∧ x.q j = x.q j ∧ x.t j = x.t j ∧ True) ∧ ((0 : Nat) ≤ (0 : Nat) ∧ y.n = y.n ∧ ∀ (j : Nat), j < y.n → y.k j = y.k j ∧ y.q j = y.q j ∧ y.t j = y.t j ∧
  True) ∧ True))))))) := by
  simp only [true_and, and_true, eq_self, Nat.le_refl, decide_eq_true_eq, decide_eq_false_iff_not, beq_iff_eq, beq_eq_false_iff_ne, implies_true, and_self, Int.not_lt, Int.not_le, ge_iff_le, gt_iff_lt, ne_eq, Int.toNat_natCast, IntKind.wrap_u64, IntKind.wrap_i64, Bool.not_eq_true', Bool.not_eq_false']
  intro x y hxy v0 hv0
  have eW : (x.l.cat y.l).prod (x.len + y.len) = (x.l.cat y.l).W := rfl
  have eU : (x.l.cat y.l).use (x.l.cat y.l).W (x.len + y.len) = (x.l.cat y.l).U := rfl
  have eS : (x.l.cat y.l).slk (x.l.cat y.l).W (x.len + y.len) = (x.l.cat y.l).S := rfl
  have eL : ∀ c : Nat, ({ nil := false, lo := 0, len := x.len + y.len, cap := c, n := (x.l.cat y.l).n, k := (x.l.cat y.l).k, q := (x.l.cat y.l).q, t := (x.l.cat y.l).t } : LS).l = x.l.cat y.l := fun c => rowLS_l (x.l.cat y.l) c
  have ok : ∀ c : Nat, LS.Ok { nil := false, lo := 0, len := x.len + y.len, cap := c, n := (x.l.cat y.l).n, k := (x.l.cat y.l).k, q := (x.l.cat y.l).q, t := (x.l.cat y.l).t } := fun c => rowLS_ok (x.l.cat y.l) c
  have hM1 : ∀ z : Nat, (rswF1 x y).μ z = x.len - z := fun _ => rfl
  have hM2 : ∀ z : Nat, (rswF2 x y).μ z = y.len - z := fun _ => rfl
  have hM4 : ∀ u z : Nat, (rswF4 x y u).μ z = x.len - z := fun _ _ => rfl
  have hM5 : ∀ u z : Nat, (rswF5 x y u).μ z = y.len - z := fun _ _ => rfl
  have hI4 : ∀ u z : Nat, (rswF4 x y u).I z = (z ≤ x.len) := fun _ _ => rfl
  have hI5 : ∀ u z : Nat, (rswF5 x y u).I z = (z ≤ y.len) := fun _ _ => rfl
  have hM3 : ∀ z : Nat, (rswF3 x y).μ z = (max y.l.fst (swH x.l y.l).1 + 2 - z).toNat := fun _ => rfl
  simp only [hM1, hM2, hM3, hM4, hM5, hI4, hI5, eL, eW, eU, ok, wNdm, wcmpdm, imp_self, and_self, true_and]
  clear eL eW eU eS ok hM1 hM2 hM3 hM4 hM5 hI4 hI5
  have eH : swH x.l y.l = lestO (swL x.l y.l) ((x.l.cat y.l).W * x.l.sq x.len) := rfl
  have eD : swL x.l y.l = (x.l.cat y.l).W - (x.l.cat y.l).U := rfl
  have hG : rswG x y = ((x.l.cat y.l).right ∧ y.len ≠ 0 ∧ (x.l.cat y.l).U < (x.l.cat y.l).W) := rfl
  have hO1 : ¬ (x.l.cat y.l).right → swO x.l y.l = (false, 11) := fun h => if_pos h
  have hO2 : (x.l.cat y.l).right → y.len = 0 → swO x.l y.l = (true, 0) := fun h h2 => by unfold swO; rw [if_neg (fun h3 => h3 h), if_pos (show y.l.n = 0 from h2)]
  have hO3 : (x.l.cat y.l).right → y.len ≠ 0 → (x.l.cat y.l).W ≤ (x.l.cat y.l).U → swO x.l y.l = (false, 0) := fun h h2 h3 => by unfold swO; rw [if_neg (fun h3 => h3 h), if_neg (show ¬ y.l.n = 0 from h2), if_pos h3]
  have hO4 : (x.l.cat y.l).right → y.len ≠ 0 → (x.l.cat y.l).U < (x.l.cat y.l).W → (swH x.l y.l).2 ≠ 0 → swO x.l y.l = (false, (swH x.l y.l).2) := fun h h2 h3 h4 => by unfold swO; rw [if_neg (fun h3 => h3 h), if_neg (show ¬ y.l.n = 0 from h2), if_neg (by omega), if_pos h4]
  have hO5 : (x.l.cat y.l).right → y.len ≠ 0 → (x.l.cat y.l).U < (x.l.cat y.l).W → (swH x.l y.l).2 = 0 → swO x.l y.l = (decide (swFine x.l y.l (swH x.l y.l).1), 0) := fun h h2 h3 h4 => by unfold swO; rw [if_neg (fun h3 => h3 h), if_neg (show ¬ y.l.n = 0 from h2), if_neg (by omega), if_neg (fun h5 => h5 h4)]
  have hrr : (x.l.cat y.l).right → x.l.right ∧ y.l.right := LL.cat_right
  have eA : (x.l.cat y.l).n = x.len + y.len := rfl
  generalize x.l.cat y.l = A at *
  have hall := hxy
  obtain ⟨⟨⟨hx1, hx2⟩, hy1, hy2⟩, hxl, hyl⟩ := hxy
  refine ⟨hall, fun c hc => ⟨Nat.zero_le _, fun hr v hv _ => (by rw [hO1 hr]; exact ⟨rfl, hv⟩), fun hr => ⟨hy1, fun h v hv _ => (by rw [hO2 hr (by omega)]; exact ⟨rfl, hv⟩), fun hn => ?_⟩⟩⟩
  have hn : y.len ≠ 0 := by omega
  obtain ⟨hrx, hry⟩ := hrr hr
  have h8 := hr.1
  have hW : 1 ≤ A.W ∧ A.W ≤ 20282409603651670423947251286016 := LL.prod_le hr (Nat.le_refl _)
  have hu := LL.use_bd hr (show 0 ≤ A.W by omega) A.n (Nat.le_refl _)
  have hu : (0 ≤ A.U ∧ A.U ≤ A.n * A.W) ∧ 0 ≤ A.S ∧ A.S ≤ A.n * (A.W * 8191) := hu
  have m1 : (A.n : Int) * A.W ≤ 8 * A.W := Int.mul_le_mul_of_nonneg_right (by omega) (by omega)
  have hb : ∀ n : Int, 0 ≤ n → n < 340282366920938463463374607431768211456 → (0 ≤ n / 18446744073709551616 ∧ n / 18446744073709551616 < 18446744073709551616) ∧ 0 ≤ n % 18446744073709551616 ∧ n % 18446744073709551616 < 18446744073709551616 := fun n h1 h2 => by omega
  have bW := hb A.W (by omega) (by omega)
  have bU := hb A.U (by omega) (by omega)
  refine ⟨Nat.zero_le _, hr, ⟨bU, bW⟩, fun h v hv _ => ?_, fun h => ?_⟩
  · rw [hO3 hr hn (by split at h <;> omega)]
    exact ⟨rfl, hv⟩
  have hUW : A.U < A.W := by
    by_cases h1 : A.U < A.W
    · exact h1
    · rw [if_neg h1] at h
      split at h <;> omega
  have hg : rswG x y := by rw [hG]; exact ⟨hr, hn, hUW⟩
  refine ⟨⟨⟨bW, bU⟩, by omega⟩, fun v hv v1 hv1 => ⟨⟨0, ⟨Nat.zero_le _, hg⟩, ⟨hv, hv1⟩, by rw [eD], by rw [eD]⟩, fun i hi => ⟨hx1, fun hlt => ?_, fun hge => ?_⟩⟩⟩
  · have hi := hi.1
    have q0 := LL.sq_bd hrx (i + 1) (by show i + 1 ≤ x.len; omega)
    have hr1 := hrx.2 i (by show i < x.len; omega)
    unfold rightE at hr1
    have hn8 : x.len ≤ 8 := hrx.1
    have e : x.l.sq (i + 1) = x.l.sq i + x.q (x.lo + i) := rfl
    exact ⟨hx1, ⟨by omega, hlt⟩, by omega, fun v2 hv2 v3 hv3 => ⟨i + 1, ⟨by omega, hg⟩, ⟨by omega, by omega⟩, by omega⟩⟩
  have e : i = x.len := by have := hi.1; omega
  subst e
  have hn8 : x.len ≤ 8 := hrx.1
  have hq : 0 ≤ x.l.sq x.len ∧ x.l.sq x.len ≤ x.len * 8192 := LL.sq_bd hrx x.len (Nat.le_refl _)
  have p1 : 0 ≤ A.W * x.l.sq x.len := Int.mul_nonneg (by omega) hq.1
  have p2 : A.W * x.l.sq x.len ≤ 20282409603651670423947251286016 * 65536 := Int.mul_le_mul hW.2 (by omega) hq.1 (by decide)
  have hHb : 0 ≤ (swH x.l y.l).1 ∧ (swH x.l y.l).1 ≤ 65536 := by
    rw [eH]
    unfold lestO
    generalize lst _ 0 65537 = N
    split
    · exact ⟨Int.le_refl 0, by show (0 : Int) ≤ 65536; decide⟩
    · exact ⟨by show (0 : Int) ≤ (N : Int); omega, by show (N : Int) ≤ 65536; omega⟩
  generalize swL x.l y.l = D at *
  have hP : A.W * x.l.sq x.len = A.W * x.l.sq x.len := rfl
  generalize A.W * x.l.sq x.len = P at *
  have spec : (D * 65536 < P → swH x.l y.l = (0, 14)) ∧ (P ≤ D * 65536 → swH x.l y.l = (((lst (leN D P) 0 65537 : Nat) : Int), 0)) := by
    have hs := lst_spec (leN D P) 65537 0
    have hbd := lst_bd (leN D P) 65537 0
    rw [eH]
    unfold lestO
    generalize lst (leN D P) 0 65537 = N at *
    refine ⟨fun h => ?_, fun h => ?_⟩
    · rw [if_pos]
      by_cases hN : 65536 < N
      · exact hN
      · exfalso
        rcases hs.2 with h2 | h2
        · omega
        · unfold leN at h2
          have h2 := of_decide_eq_true h2
          have := Int.mul_le_mul_of_nonneg_left (show (N : Int) ≤ 65536 by omega) (show 0 ≤ D by omega)
          omega
    · rw [if_neg]
      intro hN
      have h2 := hs.1 65536 (Nat.zero_le _) hN
      unfold leN at h2
      exact absurd h (of_decide_eq_false h2)
  have bD := hb D (by omega) (by omega)
  have bD6 := hb (D * 65536) (by omega) (by omega)
  have bP := hb P p1 (by omega)
  refine ⟨⟨bW, ⟨by omega, by omega⟩, by unfold two128; omega⟩, ⟨bD, ⟨by decide, by decide⟩, by unfold two128; omega⟩, ⟨bD6, bP⟩, fun h v2 hv2 _ => ?_, fun h => ?_⟩
  · have hlt : D * 65536 < P := by
      by_cases h1 : D * 65536 < P
      · exact h1
      · rw [if_neg h1] at h
        split at h <;> omega
    rw [hO4 hr hn hUW (by rw [spec.1 hlt]; show ¬ (14 : Int) = 0; decide), spec.1 hlt]
    exact ⟨rfl, hv2⟩
  have hle : P ≤ D * 65536 := by
    by_cases h1 : D * 65536 < P
    · rw [if_pos h1] at h
      omega
    · omega
  have hsp := spec.2 hle
  have h0 : (swH x.l y.l).2 = 0 := by rw [hsp]
  have hs1 : (swH x.l y.l).1 = ((lst (leN D P) 0 65537 : Nat) : Int) := by rw [hsp]
  have hF := LL.fst_bd hry hn
  have h8y : y.len ≤ 8 := hry.1
  have hO5 := hO5 hr hn hUW h0
  refine ⟨hy1, ⟨Int.le_refl _, by omega⟩, (by show y.lo + 0 < y.n; omega), fun v2 hv2 v3 hv3 => ⟨⟨0, ⟨Nat.zero_le _, hg, hle⟩, ⟨hv2, hv3⟩, rfl, rfl⟩, fun i hi => ⟨hy1, fun hlt => ?_, fun hge => ?_⟩⟩⟩
  · refine ⟨hy1, ⟨by omega, hlt⟩, by omega, fun v4 hv4 v5 hv5 => ⟨i + 1, ⟨by omega, hg, hle⟩, ⟨?_, by omega⟩, by omega⟩⟩
    show v4 = min (y.l.mn i) (y.t (y.lo + i))
    omega
  have e : i = y.len := by have := hi.1; omega
  subst e
  have emn : y.l.mn y.len = y.l.fst := y.l.mn_fst hn
  rw [emn, ← hs1]
  clear hO1 hO2 hO3 hO4 m1 bW bU spec hb p1 p2 hs1 hsp eH hg hG
  refine ⟨⟨⟨⟨bD, bP⟩, by omega⟩, hle⟩, fun v4 hv4 v5 hv5 => ?_⟩
  have emax : (if y.l.fst < (swH x.l y.l).1 then (swH x.l y.l).1 else y.l.fst) = max y.l.fst (swH x.l y.l).1 := by split <;> omega
  have hdef : swFine x.l y.l (swH x.l y.l).1 = ∀ t : Nat, t < (max y.l.fst (swH x.l y.l).1).toNat + 1 → y.l.fst ≤ t → swd x.l y.l t ≤ t := rfl
  rw [emax]
  have hM : 1 ≤ max y.l.fst (swH x.l y.l).1 ∧ max y.l.fst (swH x.l y.l).1 ≤ 65536 := by omega
  clear hle bD bD6 bP hP eD hu hW hUW hq
  generalize (swH x.l y.l).1 = H at *
  generalize max y.l.fst H = M at *
  refine ⟨⟨y.l.fst.toNat, ⟨⟨by omega, by omega⟩, ⟨hi.2.1, h0⟩, fun t h1 h2 => by omega⟩, rfl, hv4, by omega⟩, fun u hu' => ⟨fun hle2 v6 hv6 v7 hv7 => ⟨u, ⟨0, Nat.zero_le _, rfl, hv6, hv7⟩, fun i hi2 => ⟨hx1, fun hlt => ?_, fun hge v8 hv8 => ⟨u, ⟨0, Nat.zero_le _, rfl, ?_, hv8⟩, fun j hj => ⟨hy1, fun hlt => ?_, fun hge2 => ?_⟩⟩⟩⟩, fun hgt v6 hv6 _ => ?_⟩⟩
  · have hr1 : rightE (x.k (x.lo + i)) (x.q (x.lo + i)) (x.t (x.lo + i)) := hrx.2 i (by show i < x.len; omega)
    have hb := LL.bX hrx (show 0 ≤ (u : Int) by omega) i hi2
    have hw := w_bas hr1 (u := u) (by omega) (acc := x.l.bas (u : Nat) i) (by omega)
    unfold rightE at hr1
    refine ⟨hx1, ⟨by omega, hlt⟩, by omega, by omega, hx1, ⟨by omega, hlt⟩, by omega, fun v8 hv8 v9 hv9 => ⟨i + 1, by omega, ⟨?_, by omega⟩, by omega⟩⟩
    rw [hv8, hw]
    rfl
  · have e : i = x.len := by omega
    rw [e]
    exact (Int.add_zero _).symm
  · have hr1 : rightE (y.k (y.lo + j)) (y.q (y.lo + j)) (y.t (y.lo + j)) := hry.2 j (by show j < y.len; omega)
    have hb := LL.bX hrx (show 0 ≤ (u : Int) by omega) x.len (Nat.le_refl _)
    have hb2 := LL.bY hry (show 0 ≤ (u : Int) by omega) j hj
    have hw := w_exs hr1 (u := u) (by omega) (acc := x.l.bas (u : Nat) x.len + y.l.exs (u : Nat) j) (by omega)
    unfold rightE at hr1
    refine ⟨hy1, ⟨by omega, hlt⟩, by omega, by omega, hy1, ⟨by omega, hlt⟩, by omega, fun v8 hv8 v9 hv9 => ⟨j + 1, by omega, ⟨?_, by omega⟩, by omega⟩⟩
    rw [hv8, hw, Int.add_assoc]
    rfl
  · have e : j = y.len := by omega
    subst e
    have es : x.l.bas (u : Nat) x.len + y.l.exs (u : Nat) y.len = swd x.l y.l u := rfl
    rw [es]
    refine ⟨fun hbad v9 hv9 _ => ?_, fun hgood v9 hv9 => ⟨u + 1, ⟨⟨by omega, by omega⟩, hu'.2.1, fun t h1 h2 => ?_⟩, by omega, by omega⟩⟩
    · rw [hO5, decide_eq_false (fun h => by rw [hdef] at h; have := h u (by omega) (by omega); omega)]
      exact ⟨rfl, hv9⟩
    · by_cases e : t = u
      · rw [e]; exact hgood
      · exact hu'.2.2 t h1 (by omega)
  · rw [hO5, decide_eq_true (by rw [hdef]; exact fun t h1 h2 => hu'.2.2 t h2 (by omega))]
    exact ⟨rfl, hv6⟩

def rsw_C (x : (LS × LS)) : Cfg := { Γ := Go.Sx.look tRsw, names := true, loops := rswLo (x.1) (x.2) }
theorem rsw_al (x : (LS × LS)) : Shown (rswP.vc Try.prog (rsw_C x) Try.f22 x) := ⟨@Eq.mp _ _ (by kernel_rfl) (rsw_vc (x.1) (x.2))⟩
theorem rsw_ok : SpOk Try.prog 22 rswP.sp := @Pat.okS _ rswP Try.prog rsw_C 22 Try.f22 (fun x => cfg_tab rfl tRsw_ok) (by kernel_rfl) Try.func22 (fun _ => rfl) rsw_al
end Go.Proofs.Ytijpjhelgggmfaa
