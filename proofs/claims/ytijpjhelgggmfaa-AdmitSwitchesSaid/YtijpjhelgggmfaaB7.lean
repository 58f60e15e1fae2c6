import Derived.Test.YtijpjhelgggmfaaB6
open Go Go.Sx Go.Proofs
set_option maxRecDepth 100000
namespace Go.Proofs.Ytijpjhelgggmfaa

def sr2P : Pat (Nat × SP) where
  view | [.int .i64 h, .fn 44 (.cons (.ptr a 0 []) (.cons (.ptr b 0 []) .nil))], H => some (h.toNat, viewSP a b H) | _, _ => none
  args x := [.int .i64 x.1, .fn 44 (.cons (p0 2) (.cons (p0 1) .nil))]
  H x := x.2.H
  out x := .need (x.2.Ok ∧ x.1 = x.2.t.toNat) (.any (fun _ : Int => True) fun q => .ret (.int .i64 (lst (refu x.2.x.l x.2.t) 0 x.1)) ({ x.2 with q := q } : SP).H)
structure SJ where
  i : Nat
  j : Nat
  q : Int
def sr2Fam (n : Nat) (p : SP) : Fam where
  α := SJ
  I y := y.i ≤ y.j ∧ y.j ≤ n ∧ (∀ k, k < y.i → refu p.x.l p.t k = false) ∧ (y.j = n ∨ refu p.x.l p.t y.j = true)
  st y := { sl := mkSl 26 [(1, .fn 44 (.cons (p0 2) (.cons (p0 1) .nil))), (5, .int .i64 y.i), (6, .int .i64 y.j)], H := ({ p with q := y.q } : SP).H }
  μ y := y.j - y.i
def tSr2 : Tab := [(44, spcP.sp)]
theorem tSr2_ok : TabOk Try.prog tSr2 := (tab_cons spc_ok tab_nil)

theorem sr2_vc : ∀ (n : Nat) (p : SP), (p.Ok ∧ n = p.t.toNat) ∧ True → ∀ (v : Int), v = (0 : Int) → ∀ (v : Int), v = (0 : Int) → ∀ (v_1 : Int), v_1 = (↑n : Int) → (∃ (y : SJ), (y.i ≤ y.j ∧ y.j ≤ n ∧ (∀ (k : Nat), k < y.i → refu p.x.l p.t
  k = false) ∧ (y.j = n ∨ refu p.x.l p.t y.j = true)) ∧ ((((True ∧ True) ∧ (True ∧ True) ∧ True) ∧ v = (↑y.i : Int) ∧ v_1 = (↑y.j : Int) ∧ True) ∧ ((0 : Nat) ≤ (0 : Nat) ∧ p.x.n = p.x.n ∧ ∀ (j : Nat), j < p.x.n → p.x.k j =
  p.x.k j ∧ p.x.q j = p.x.q j ∧ p.x.t j = p.x.t j ∧ True) ∧ ((1 : Nat) ≤ (1 : Nat) ∧ (p.x.nil = true → p.x.nil = true) ∧ (p.x.nil = false → p.x.nil = false ∧ True ∧ True ∧ p.x.lo = p.x.lo ∧ p.x.len = p.x.len ∧ p.x.cap =
  p.x.cap)) ∧ ((1 : Nat) ≤ (1 : Nat) ∧ True ∧ True ∧ (0 : Nat) = (0 : Nat) ∧ p.x.len + (1 : Nat) = p.x.len + (1 : Nat) ∧ p.cap = p.cap) ∧ (p.cap * (3 : Nat) ≤ p.cap * (3 : Nat) ∧ (p.x.l.ext y.q p.t).n = (p.x.l.ext p.q
  p.t).n ∧ ∀ (j : Nat), j < (p.x.l.ext p.q p.t).n → (p.x.l.ext p.q p.t).k j = (p.x.l.ext y.q p.t).k j ∧ (p.x.l.ext p.q p.t).q j = (p.x.l.ext y.q p.t).q j ∧ (p.x.l.ext p.q p.t).t j = (p.x.l.ext y.q p.t).t j ∧ True) ∧ True)
  ∧ True) ∧ ∀ (y : SJ), y.i ≤ y.j ∧ y.j ≤ n ∧ (∀ (k : Nat), k < y.i → refu p.x.l p.t k = false) ∧ (y.j = n ∨ refu p.x.l p.t y.j = true) → (decide ((↑y.i : Int) < (↑y.j : Int)) = true → (0 : Int) ≤ (1 : Int) ∧ ∀ (v : Int),
  v = IntKind.i64.wrap ((IntKind.u64.wrap (IntKind.i64.wrap ((↑y.i : Int) + (↑y.j : Int)))).fdiv ((2 : Int) ^ min (Int.toNat (1 : Int)) IntKind.u64.bits)) → ((v = (↑v.toNat : Int) ∧ (True ∧ True) ∧ (True ∧ True) ∧ True) ∧
  ((0 : Nat) ≤ (0 : Nat) ∧ p.x.n = p.x.n ∧ ∀ (j : Nat), j < p.x.n → p.x.k j = p.x.k j ∧ p.x.q j = p.x.q j ∧ p.x.t j = p.x.t j ∧ True) ∧ ((1 : Nat) ≤ (1 : Nat) ∧ (p.x.nil = true → p.x.nil = true) ∧ (p.x.nil = false →
  p.x.nil = false ∧ True ∧ True ∧ p.x.lo = p.x.lo ∧ p.x.len = p.x.len ∧ p.x.cap = p.x.cap)) ∧ ((1 : Nat) ≤ (1 : Nat) ∧ True ∧ True ∧ (0 : Nat) = (0 : Nat) ∧ p.x.len + (1 : Nat) = p.x.len + (1 : Nat) ∧ p.cap = p.cap) ∧
  (p.cap * (3 : Nat) ≤ p.cap * (3 : Nat) ∧ (p.x.l.ext ((p.x.l.ext y.q p.t).q p.x.len) ((p.x.l.ext y.q p.t).t p.x.len)).n = (p.x.l.ext y.q p.t).n ∧ ∀ (j : Nat), j < (p.x.l.ext y.q p.t).n → (p.x.l.ext y.q p.t).k j =
  (p.x.l.ext ((p.x.l.ext y.q p.t).q p.x.len) ((p.x.l.ext y.q p.t).t p.x.len)).k j ∧ (p.x.l.ext y.q p.t).q j = (p.x.l.ext ((p.x.l.ext y.q p.t).q p.x.len) ((p.x.l.ext y.q p.t).t p.x.len)).q j ∧ (p.x.l.ext y.q p.t).t j =
  (p.x.l.ext ((p.x.l.ext y.q p.t).q p.x.len) ((p.x.l.ext y.q p.t).t p.x.len)).t j ∧ True) ∧ True) ∧ ((SP.mk (LS.mk p.x.nil p.x.lo p.x.len p.x.cap p.x.n (fun (j : Nat) => p.x.k j) (fun (j : Nat) => p.x.q j) fun (j : Nat) =>
  p.x.t j) ((p.x.l.ext y.q p.t).q p.x.len) ((p.x.l.ext y.q p.t).t p.x.len) p.cap).Ok ∧ v.toNat < ((p.x.l.ext y.q p.t).t p.x.len).toNat) ∧ ((!refu p.x.l ((p.x.l.ext y.q p.t).t p.x.len) v.toNat) = true → ∀ (v_2 : Int), v_2 =
  IntKind.i64.wrap (v + (1 : Int)) → ∃ (y_1 : SJ), (y_1.i ≤ y_1.j ∧ y_1.j ≤ n ∧ (∀ (k : Nat), k < y_1.i → refu p.x.l p.t k = false) ∧ (y_1.j = n ∨ refu p.x.l p.t y_1.j = true)) ∧ ((((True ∧ True) ∧ (True ∧ True) ∧ True) ∧
  v_2 = (↑y_1.i : Int) ∧ (↑y.j : Int) = (↑y_1.j : Int) ∧ True) ∧ ((0 : Nat) ≤ (0 : Nat) ∧ p.x.n = p.x.n ∧ ∀ (j : Nat), j < p.x.n → p.x.k j = p.x.k j ∧ p.x.q j = p.x.q j ∧ p.x.t j = p.x.t j ∧ True) ∧ ((1 : Nat) ≤ (1 : Nat)
  ∧ (p.x.nil = true → p.x.nil = true) ∧ (p.x.nil = false → p.x.nil = false ∧ True ∧ True ∧ p.x.lo = p.x.lo ∧ p.x.len = p.x.len ∧ p.x.cap = p.x.cap)) ∧ ((1 : Nat) ≤ (1 : Nat) ∧ True ∧ True ∧ (0 : Nat) = (0 : Nat) ∧ p.x.len
  + (1 : Nat) = p.x.len + (1 : Nat) ∧ p.cap = p.cap) ∧ (p.cap * (3 : Nat) ≤ p.cap * (3 : Nat) ∧ (p.x.l.ext y_1.q p.t).n = ((LS.mk p.x.nil p.x.lo p.x.len p.x.cap p.x.n (fun (j : Nat) => p.x.k j) (fun (j : Nat) => p.x.q j)
  fun (j : Nat) => p.x.t j).l.ext ((↑v.toNat : Int) + (1 : Int)) ((p.x.l.ext y.q p.t).t p.x.len)).n ∧ ∀ (j : Nat), j < ((LS.mk p.x.nil p.x.lo p.x.len p.x.cap p.x.n (fun (j : Nat) => p.x.k j) (fun (j : Nat) => p.x.q j) fun
  (j : Nat) => p.x.t j).l.ext ((↑v.toNat : Int) + (1 : Int)) ((p.x.l.ext y.q p.t).t p.x.len)).n → ((LS.mk p.x.nil p.x.lo p.x.len p.x.cap p.x.n (fun (j : Nat) => p.x.k j) (fun (j : Nat) => p.x.q j) fun (j : Nat) => p.x.t
  j).l.ext ((↑v.toNat : Int) + (1 : Int)) ((p.x.l.ext y.q p.t).t p.x.len)).k j = (p.x.l.ext y_1.q p.t).k j ∧ ((LS.mk p.x.nil p.x.lo p.x.len p.x.cap p.x.n (fun (j : Nat) => p.x.k j) (fun (j : Nat) => p.x.q j) fun (j : Nat)
  => p.x.t j).l.ext ((↑v.toNat : Int) + (1 : Int)) ((p.x.l.ext y.q p.t).t p.x.len)).q j = (p.x.l.ext y_1.q p.t).q j ∧ ((LS.mk p.x.nil p.x.lo p.x.len p.x.cap p.x.n (fun (j : Nat) => p.x.k j) (fun (j : Nat) => p.x.q j) fun
  (j : Nat) => p.x.t j).l.ext ((↑v.toNat : Int) + (1 : Int)) ((p.x.l.ext y.q p.t).t p.x.len)).t j = (p.x.l.ext y_1.q p.t).t j ∧ True) ∧ True) ∧ (sr2Fam n p).μ y_1 < (sr2Fam n p).μ y) ∧ ((!refu p.x.l ((p.x.l.ext y.q p.t).t
  p.x.len) v.toNat) = false → ∀ (v_2 : Int), v_2 = v → ∃ (y_1 : SJ), (y_1.i ≤ y_1.j ∧ y_1.j ≤ n ∧ (∀ (k : Nat), k < y_1.i → refu p.x.l p.t k = false) ∧ (y_1.j = n ∨ refu p.x.l p.t y_1.j = true)) ∧ ((((True ∧ True) ∧ (True
  ∧ True) ∧ True) ∧ (↑y.i : Int) = (↑y_1.i : Int) ∧ v_2 = (↑y_1.j : Int) ∧ True) ∧ ((0 : Nat) ≤ (0 : Nat) ∧ p.x.n = p.x.n ∧ ∀ (j : Nat), j < p.x.n → p.x.k j = p.x.k j ∧ p.x.q j = p.x.q j ∧ p.x.t j = p.x.t j ∧ True) ∧ ((1 :
  Nat) ≤ (1 : Nat) ∧ (p.x.nil = true → p.x.nil = true) ∧ (p.x.nil = false → p.x.nil = false ∧ True ∧ True ∧ p.x.lo = p.x.lo ∧ p.x.len = p.x.len ∧ p.x.cap = p.x.cap)) ∧ ((1 : Nat) ≤ (1 : Nat) ∧ True ∧ True ∧ (0 : Nat) = (0
  : Nat) ∧ p.x.len + (1 : Nat) = p.x.len + (1 : Nat) ∧ p.cap = p.cap) ∧ (p.cap * (3 : Nat) ≤ p.cap * (3 : Nat) ∧ (p.x.l.ext y_1.q p.t).n = ((LS.mk p.x.nil p.x.lo p.x.len p.x.cap p.x.n (fun (j : Nat) => p.x.k j) (fun (j :
  Nat) => p.x.q j) fun (j : Nat) => p.x.t j).l.ext ((↑v.toNat : Int) + (1 : Int)) ((p.x.l.ext y.q p.t).t p.x.len)).n ∧ ∀ (j : Nat), j < ((LS.mk p.x.nil p.x.lo p.x.len p.x.cap p.x.n (fun (j : Nat) => p.x.k j) (fun (j : Nat)
  => p.x.q j) fun (j : Nat) => p.x.t j).l.ext ((↑v.toNat : Int) + (1 : Int)) ((p.x.l.ext y.q p.t).t p.x.len)).n → ((LS.mk p.x.nil p.x.lo p.x.len p.x.cap p.x.n (fun (j : Nat) => p.x.k j) (fun (j : Nat) => p.x.q j) fun (j :
  Nat) => p.x.t j).l.ext ((↑v.toNat : Int) + (1 : Int)) ((p.x.l.ext y.q p.t).t p.x.len)).k j = (p.x.l.ext y_1.q p.t).k j ∧ ((LS.mk p.x.nil p.x.lo p.x.len p.x.cap p.x.n (fun (j : Nat) => p.x.k j) (fun (j : Nat) => p.x.q j)
  fun (j : Nat) => p.x.t j).l.ext ((↑v.toNat : Int) + (1 : Int)) ((p.x.l.ext y.q p.t).t p.x.len)).q j = (p.x.l.ext y_1.q p.t).q j ∧ ((LS.mk p.x.nil p.x.lo p.x.len p.x.cap p.x.n (fun (j : Nat) => p.x.k j) (fun (j : Nat) =>
  p.x.q j) fun (j : Nat) => p.x.t j).l.ext ((↑v.toNat : Int) + (1 : Int)) ((p.x.l.ext y.q p.t).t p.x.len)).t j = (p.x.l.ext y_1.q p.t).t j ∧ True) ∧ True) ∧ (sr2Fam n p).μ y_1 < (sr2Fam n p).μ y)) ∧ (decide ((↑y.i : Int) <
  (↑y.j : Int)) = false → ∀ (v : Int), v = (↑y.i : Int) → p.Ok ∧ n = p.t.toNat → ∃ (x : Int), True ∧ v = (↑(lst (refu p.x.l p.t) (0 : Nat) n) : Int) ∧ True ∧ ((0 : Nat) ≤ (0 : Nat) ∧ p.x.n = p.x.n ∧ ∀ (j : Nat), j < p.x.n
  → p.x.k j = p.x.k j ∧ p.x.q j = p.x.q j ∧ p.x.t j = p.x.t j ∧ True) ∧ ((1 : Nat) ≤ (1 : Nat) ∧ (p.x.nil = true → p.x.nil = true) ∧ (p.x.nil = false → p.x.nil = false ∧ True ∧ True ∧ p.x.lo = p.x.lo ∧ p.x.len = p.x.len ∧
  p.x.cap = p.x.cap)) ∧ ((1 : Nat) ≤ (1 : Nat) ∧ True ∧ True ∧ (0 : Nat) = (0 : Nat) ∧ p.x.len + (1 : Nat) = p.x.len + (1 : Nat) ∧ p.cap = p.cap) ∧ (p.cap * (3 : Nat) ≤ p.cap * (3 : Nat) ∧ (p.x.l.ext x p.t).n = (p.x.l.ext
  y.q p.t).n ∧ ∀ (j : Nat), j < (p.x.l.ext y.q p.t).n → (p.x.l.ext y.q p.t).k j = (p.x.l.ext x p.t).k j ∧ (p.x.l.ext y.q p.t).q j = (p.x.l.ext x p.t).q j ∧ (p.x.l.ext y.q p.t).t j = (p.x.l.ext x p.t).t j ∧ True) ∧ True) := by
  simp only [true_and, and_true, eq_self, Nat.le_refl, decide_eq_true_eq, decide_eq_false_iff_not, implies_true, and_self, Int.not_lt, IntKind.wrap_u64, IntKind.wrap_i64, Bool.not_eq_true', Bool.not_eq_false']
  rintro n p ⟨hp, hn⟩ _ rfl _ rfl _ rfl
  have hM : ∀ z : SJ, (sr2Fam n p).μ z = z.j - z.i := fun _ => rfl
  simp only [hM]
  have eq : ∀ q, (p.x.l.ext q p.t).q p.x.len = q := fun q => if_pos rfl
  have et : ∀ q, (p.x.l.ext q p.t).t p.x.len = p.t := fun q => if_pos rfl
  have eta : ({ nil := p.x.nil, lo := p.x.lo, len := p.x.len, cap := p.x.cap, n := p.x.n, k := fun j => p.x.k j, q := fun j => p.x.q j, t := fun j => p.x.t j } : LS) = p.x := rfl
  simp only [eq, et, eta]
  have same : ∀ q, (p.x.l.ext q p.t).n = (p.x.l.ext p.q p.t).n := fun q => rfl
  refine ⟨⟨⟨0, n, p.q⟩, ⟨Nat.zero_le _, Nat.le_refl _, fun k hk => absurd hk (Nat.not_lt_zero k), .inl rfl⟩, ⟨rfl, rfl⟩, ⟨id, id⟩, rfl, fun j _ => ⟨rfl, rfl, rfl⟩⟩, fun y hy => ?_⟩
  obtain ⟨i, j, q⟩ := y
  obtain ⟨y1, y2, y3, y4⟩ := hy
  dsimp only at y1 y2 y3 y4 ⊢
  have hpt : p.t ≤ 8192 := hp.2.2.2.2
  have hn2 : n ≤ 8192 := by omega
  refine ⟨fun hlt => ⟨by decide, fun v hv => ?_⟩, fun hge v hv _ => ?_⟩
  · have e : v = (((i + j) / 2 : Nat) : Int) := by
      have e1 : ((i : Int) + j + 9223372036854775808) % 18446744073709551616 - 9223372036854775808 = i + j := by clear hv hlt; omega
      have e2 : ((i : Int) + j) % 18446744073709551616 = i + j := by clear hv hlt e1; omega
      have e3 : ((i : Int) + j) / 2 = (((i + j) / 2 : Nat) : Int) := by clear hv hlt e1 e2; omega
      have e4 : (i + j) / 2 ≤ 65537 := by clear hv hlt e1 e2 e3; omega
      rw [hv, show min (Int.toNat (1 : Int)) IntKind.u64.bits = 1 from rfl, fdiv_pow, show (2 : Int) ^ 1 = 2 from rfl, e1, e2, e3]
      generalize (i + j) / 2 = q at e4
      clear hv hlt e1 e2 e3
      omega
    clear hv
    subst e
    simp only [Int.toNat_natCast]
    refine ⟨⟨trivial, ⟨id, id⟩, (by first | rfl | trivial), fun j _ => (by first | trivial | exact ⟨rfl, rfl, rfl⟩)⟩, ⟨hp, by omega⟩, fun hf v2 hv2 => ⟨⟨(i + j) / 2 + 1, j, ((i + j) / 2 : Nat) + 1⟩, ⟨(by show (i + j) / 2 + 1 ≤ j; omega), y2, fun k hk => ?_, y4⟩, ⟨⟨(by show v2 = (((i + j) / 2 + 1 : Nat) : Int); omega), rfl⟩, ⟨id, id⟩, rfl, fun j _ => ⟨rfl, rfl, rfl⟩⟩, (by show j - ((i + j) / 2 + 1) < j - i; omega)⟩, fun ht v2 hv2 => ⟨⟨i, (i + j) / 2, ((i + j) / 2 : Nat) + 1⟩, ⟨(by show i ≤ (i + j) / 2; omega), (by show (i + j) / 2 ≤ n; omega), y3, .inr ht⟩, ⟨⟨rfl, hv2⟩, ⟨id, id⟩, rfl, fun j _ => ⟨rfl, rfl, rfl⟩⟩, (by show (i + j) / 2 - i < j - i; omega)⟩⟩
    cases hk2 : refu p.x.l p.t k with
    | false => rfl
    | true =>
      have hk : k < (i + j) / 2 + 1 := hk
      rw [refu_mono (show k ≤ (i + j) / 2 by omega) hk2] at hf
      exact hf
  · have e : i = j := by omega
    subst e
    refine ⟨q, ?_⟩
    rw [hv, lst_eq (refu p.x.l p.t) n 0 i (Nat.zero_le _) (by omega) (fun k _ h => y3 k h) (by rcases y4 with h | h; left; omega; right; exact h)]
    exact ⟨rfl, ⟨id, id⟩, rfl, fun j _ => ⟨rfl, rfl, rfl⟩⟩

def sr2_C (x : (Nat × SP)) : Cfg := { Γ := Go.Sx.look tSr2, names := true, loops := onlyAt 2 [sr2Fam (x.1) (x.2)] }
theorem sr2_al (x : (Nat × SP)) : Shown (sr2P.vc Try.prog (sr2_C x) Try.f45 x) := ⟨@Eq.mp _ _ (by kernel_rfl) (sr2_vc (x.1) (x.2))⟩
theorem sr2_ok : SpOk Try.prog 45 sr2P.sp := @Pat.okS _ sr2P Try.prog sr2_C 45 Try.f45 (fun x => cfg_tab rfl tSr2_ok) (by kernel_rfl) Try.func45 (fun _ => rfl) sr2_al
def spareO (l : LL) (t : Int) : Int × Int := if l.right ∧ l.n < 8 ∧ rightE 1 1 t then (lst (refu l t) 0 t.toNat, 0) else (0, 11)
def spareP : Pat (LS × Int) where
  view | [v, .int .u64 t], H => some (viewL v H, t) | _, _ => none
  args x := [x.1.v 0, .int .u64 x.2]
  H x := [x.1.reg]
  out x := .need (x.1.Ok ∧ u64 x.2) (.retq (.tup (.cons (.int .u64 (spareO x.1.l x.2).1) (.cons (.int .i64 (spareO x.1.l x.2).2) .nil))))
def spareC (x : LS) (t : Int) : Fam where
  α := Nat
  I _ := x.l.right ∧ x.len < 8 ∧ rightE 1 1 t
  st y := { sl := mkSl 35 [(1, .int .u64 t), (2, p0 1), (7, p0 2)], H := (⟨x, 1, t, y⟩ : SP).H }
  μ _ := 0
def spareK (x : LS) (t : Int) : Nat → Gam
  | 5 => .l [spareC x t]
  | _ => .l []
def spareM : Nat → Nat
  | 4 => 1
  | _ => 0
def spareLk : Nat → List Nat
  | 4 => [1, 2]
  | _ => []
def tSpare : Tab := [(12, RightP.sp), (28, rightP.sp), (43, cloneP.sp), (45, sr2P.sp)]
theorem tSpare_ok : TabOk Try.prog tSpare := (tab_cons Right_ok (tab_cons right_ok (tab_cons clone_ok (tab_cons sr2_ok tab_nil))))

theorem spare_vc : ∀ (x : LS) (t : Int), (x.Ok ∧ (0 : Int) ≤ t ∧ t < (18446744073709551616 : Int)) ∧ True → ∀ (v : Int), v = (0 : Int) → ∀ (v : Int), v = (0 : Int) → ((((x.nil = true → x.nil = true) ∧ (x.nil = false → x.nil = false ∧ True
  ∧ True ∧ x.lo = x.lo ∧ x.len = x.len ∧ x.cap = x.cap)) ∧ True) ∧ ((0 : Nat) ≤ (0 : Nat) ∧ x.n = x.n ∧ ∀ (j : Nat), j < x.n → x.k j = x.k j ∧ x.q j = x.q j ∧ x.t j = x.t j ∧ True) ∧ True) ∧ x.Ok ∧ ((!decide x.l.right) =
  true → ∀ (v : Int), v = (0 : Int) → ∀ (v_1 : Int), v_1 = (11 : Int) → x.Ok ∧ (0 : Int) ≤ t ∧ t < (18446744073709551616 : Int) → (v = (spareO x.l t).fst ∧ v_1 = (spareO x.l t).snd ∧ True) ∧ True ∧ ((0 : Nat) ≤ (0 : Nat) ∧
  x.n = x.n ∧ ∀ (j : Nat), j < x.n → x.k j = x.k j ∧ x.q j = x.q j ∧ x.t j = x.t j ∧ True) ∧ True) ∧ ((!decide x.l.right) = false → (x.nil = true → x.len = (0 : Nat)) ∧ (decide ((↑x.len : Int) ≥ (8 : Int)) = true → ∀ (v :
  Int), v = (0 : Int) → ∀ (v_1 : Int), v_1 = (11 : Int) → x.Ok ∧ (0 : Int) ≤ t ∧ t < (18446744073709551616 : Int) → (v = (spareO x.l t).fst ∧ v_1 = (spareO x.l t).snd ∧ True) ∧ True ∧ ((0 : Nat) ≤ (0 : Nat) ∧ x.n = x.n ∧ ∀
  (j : Nat), j < x.n → x.k j = x.k j ∧ x.q j = x.q j ∧ x.t j = x.t j ∧ True) ∧ True) ∧ (decide ((↑x.len : Int) ≥ (8 : Int)) = false → ((((1 : Int) = (1 : Int) ∧ (1 : Int) = (1 : Int) ∧ t = t ∧ True) ∧ True) ∧ True) ∧
  ((!decide (rightE (1 : Int) (1 : Int) t)) = true → ∀ (v : Int), v = (0 : Int) → ∀ (v_1 : Int), v_1 = (11 : Int) → x.Ok ∧ (0 : Int) ≤ t ∧ t < (18446744073709551616 : Int) → (v = (spareO x.l t).fst ∧ v_1 = (spareO x.l
  t).snd ∧ True) ∧ True ∧ ((0 : Nat) ≤ (0 : Nat) ∧ x.n = x.n ∧ ∀ (j : Nat), j < x.n → x.k j = x.k j ∧ x.q j = x.q j ∧ x.t j = x.t j ∧ True) ∧ True) ∧ ((!decide (rightE (1 : Int) (1 : Int) t)) = false → ((((((x.nil = true →
  x.nil = true) ∧ (x.nil = false → x.nil = false ∧ True ∧ True ∧ x.lo = x.lo ∧ x.len = x.len ∧ x.cap = x.cap)) ∧ True) ∧ ((0 : Nat) ≤ (0 : Nat) ∧ x.n = x.n ∧ ∀ (j : Nat), j < x.n → x.k j = x.k j ∧ x.q j = x.q j ∧ x.t j =
  x.t j ∧ True) ∧ True) ∧ (x.Ok ∧ x.len ≤ (1000 : Nat)) ∧ (x.nil = true → (((1 : Nat) ≤ (1 : Nat) ∧ ((1 : Nat) = (0 : Nat) → ∃ (_ : Nat), (x.l.right ∧ x.len < (8 : Nat) ∧ rightE (1 : Int) (1 : Int) t) ∧ False ∧ True) ∧ ((1
  : Nat) ≠ (0 : Nat) → (24 : Nat) ≤ (140737488355328 : Nat) ∧ (1 : Nat) ≤ (9223372036854775807 : Nat) ∧ ∀ (cap : Nat), (1 : Nat) ≤ cap → ∃ (y : Nat), (x.l.right ∧ x.len < (8 : Nat) ∧ rightE (1 : Int) (1 : Int) t) ∧ ((t = t
  ∧ (True ∧ True) ∧ (True ∧ True) ∧ True) ∧ ((0 : Nat) ≤ (0 : Nat) ∧ x.n = x.n ∧ ∀ (j : Nat), j < x.n → x.k j = x.k j ∧ x.q j = x.q j ∧ x.t j = x.t j ∧ True) ∧ ((1 : Nat) ≤ (1 : Nat) ∧ (x.nil = true → x.nil = true) ∧
  (x.nil = false → x.nil = false ∧ True ∧ True ∧ x.lo = x.lo ∧ x.len = x.len ∧ x.cap = x.cap)) ∧ ((1 : Nat) ≤ (1 : Nat) ∧ True ∧ True ∧ (0 : Nat) = (0 : Nat) ∧ (1 : Nat) = x.len + (1 : Nat) ∧ cap = y) ∧ (y * (3 : Nat) ≤
  cap * (3 : Nat) ∧ (x.l.ext (1 : Int) t).n = (1 : Nat) ∧ ∀ (j : Nat), j < (1 : Nat) → (1 : Int) = (x.l.ext (1 : Int) t).k j ∧ (1 : Int) = (x.l.ext (1 : Int) t).q j ∧ t = (x.l.ext (1 : Int) t).t j ∧ True) ∧ True) ∧ True))
  ∧ (1 : Nat) ≤ (1 : Nat) ∧ ((1 : Nat) = (0 : Nat) → ∃ (_ : Nat), (x.l.right ∧ x.len < (8 : Nat) ∧ rightE (1 : Int) (1 : Int) t) ∧ False ∧ True) ∧ ((1 : Nat) ≠ (0 : Nat) → (24 : Nat) ≤ (140737488355328 : Nat) ∧ (1 : Nat) ≤
  (9223372036854775807 : Nat) ∧ ∀ (cap : Nat), (1 : Nat) ≤ cap → ∃ (y : Nat), (x.l.right ∧ x.len < (8 : Nat) ∧ rightE (1 : Int) (1 : Int) t) ∧ ((t = t ∧ (True ∧ True) ∧ (True ∧ True) ∧ True) ∧ ((0 : Nat) ≤ (0 : Nat) ∧ x.n
  = x.n ∧ ∀ (j : Nat), j < x.n → x.k j = x.k j ∧ x.q j = x.q j ∧ x.t j = x.t j ∧ True) ∧ ((1 : Nat) ≤ (1 : Nat) ∧ (x.nil = true → x.nil = true) ∧ (x.nil = false → x.nil = false ∧ True ∧ True ∧ x.lo = x.lo ∧ x.len = x.len ∧
  x.cap = x.cap)) ∧ ((1 : Nat) ≤ (1 : Nat) ∧ True ∧ True ∧ (0 : Nat) = (0 : Nat) ∧ (1 : Nat) = x.len + (1 : Nat) ∧ cap = y) ∧ (y * (3 : Nat) ≤ cap * (3 : Nat) ∧ (x.l.ext (1 : Int) t).n = (1 : Nat) ∧ ∀ (j : Nat), j < (1 :
  Nat) → (1 : Int) = (x.l.ext (1 : Int) t).k j ∧ (1 : Int) = (x.l.ext (1 : Int) t).q j ∧ t = (x.l.ext (1 : Int) t).t j ∧ True) ∧ True) ∧ True)) ∧ (1 : Nat) ≤ (1 : Nat) ∧ ((1 : Nat) = (0 : Nat) → ∃ (_ : Nat), (x.l.right ∧
  x.len < (8 : Nat) ∧ rightE (1 : Int) (1 : Int) t) ∧ False ∧ True) ∧ ((1 : Nat) ≠ (0 : Nat) → (24 : Nat) ≤ (140737488355328 : Nat) ∧ (1 : Nat) ≤ (9223372036854775807 : Nat) ∧ ∀ (cap : Nat), (1 : Nat) ≤ cap → ∃ (y : Nat),
  (x.l.right ∧ x.len < (8 : Nat) ∧ rightE (1 : Int) (1 : Int) t) ∧ ((t = t ∧ (True ∧ True) ∧ (True ∧ True) ∧ True) ∧ ((0 : Nat) ≤ (0 : Nat) ∧ x.n = x.n ∧ ∀ (j : Nat), j < x.n → x.k j = x.k j ∧ x.q j = x.q j ∧ x.t j = x.t j
  ∧ True) ∧ ((1 : Nat) ≤ (1 : Nat) ∧ (x.nil = true → x.nil = true) ∧ (x.nil = false → x.nil = false ∧ True ∧ True ∧ x.lo = x.lo ∧ x.len = x.len ∧ x.cap = x.cap)) ∧ ((1 : Nat) ≤ (1 : Nat) ∧ True ∧ True ∧ (0 : Nat) = (0 :
  Nat) ∧ (1 : Nat) = x.len + (1 : Nat) ∧ cap = y) ∧ (y * (3 : Nat) ≤ cap * (3 : Nat) ∧ (x.l.ext (1 : Int) t).n = (1 : Nat) ∧ ∀ (j : Nat), j < (1 : Nat) → (1 : Int) = (x.l.ext (1 : Int) t).k j ∧ (1 : Int) = (x.l.ext (1 :
  Int) t).q j ∧ t = (x.l.ext (1 : Int) t).t j ∧ True) ∧ True) ∧ True)) ∧ (¬x.nil = true → ∀ (x_1 : Nat), x.len ≤ x_1 → (((1 : Nat) ≤ (1 : Nat) ∧ ((0 : Nat) = (0 : Nat) ∧ x.len ≤ x.l.n ∧ x.len ≤ x_1 ∧ x_1 * (3 : Nat) ≤ x_1
  * (3 : Nat) ∧ (x.len + (1 : Nat)) * (24 : Nat) ≤ (140737488355328 : Nat) ∧ x.len + (1 : Nat) ≤ (9223372036854775807 : Nat) ∧ (∀ (_ : Nat), (3 : Nat) = (3 : Nat)) ∧ ∀ (_ : Nat), (3 : Nat) = (3 : Nat)) ∧ ∀ (cap' : Nat),
  x.len + (1 : Nat) ≤ cap' → ∃ (y : Nat), (x.l.right ∧ x.len < (8 : Nat) ∧ rightE (1 : Int) (1 : Int) t) ∧ ((t = t ∧ (True ∧ True) ∧ (True ∧ True) ∧ True) ∧ ((0 : Nat) ≤ (0 : Nat) ∧ x.n = x.n ∧ ∀ (j : Nat), j < x.n → x.k j
  = x.k j ∧ x.q j = x.q j ∧ x.t j = x.t j ∧ True) ∧ ((1 : Nat) ≤ (1 : Nat) ∧ (x.nil = true → x.nil = true) ∧ (x.nil = false → x.nil = false ∧ True ∧ True ∧ x.lo = x.lo ∧ x.len = x.len ∧ x.cap = x.cap)) ∧ ((1 : Nat) ≤ (1 :
  Nat) ∧ True ∧ True ∧ (0 : Nat) = (0 : Nat) ∧ x.len + (1 : Nat) = x.len + (1 : Nat) ∧ cap' = y) ∧ (y * (3 : Nat) ≤ cap' * (3 : Nat) ∧ (x.l.ext (1 : Int) t).n = x.len + (1 : Nat) ∧ ∀ (j : Nat), j < x.len + (1 : Nat) →
  (j.blt x.len = true → x.l.k j = (x.l.ext (1 : Int) t).k j ∧ x.l.q j = (x.l.ext (1 : Int) t).q j ∧ x.l.t j = (x.l.ext (1 : Int) t).t j ∧ True) ∧ (j.blt x.len = false → (1 : Int) = (x.l.ext (1 : Int) t).k j ∧ (1 : Int) =
  (x.l.ext (1 : Int) t).q j ∧ t = (x.l.ext (1 : Int) t).t j ∧ True)) ∧ True) ∧ True) ∧ (1 : Nat) ≤ (1 : Nat) ∧ ((0 : Nat) = (0 : Nat) ∧ x.len ≤ x.l.n ∧ x.len ≤ x_1 ∧ x_1 * (3 : Nat) ≤ x_1 * (3 : Nat) ∧ (x.len + (1 : Nat))
  * (24 : Nat) ≤ (140737488355328 : Nat) ∧ x.len + (1 : Nat) ≤ (9223372036854775807 : Nat) ∧ (∀ (_ : Nat), (3 : Nat) = (3 : Nat)) ∧ ∀ (_ : Nat), (3 : Nat) = (3 : Nat)) ∧ ∀ (cap' : Nat), x.len + (1 : Nat) ≤ cap' → ∃ (y :
  Nat), (x.l.right ∧ x.len < (8 : Nat) ∧ rightE (1 : Int) (1 : Int) t) ∧ ((t = t ∧ (True ∧ True) ∧ (True ∧ True) ∧ True) ∧ ((0 : Nat) ≤ (0 : Nat) ∧ x.n = x.n ∧ ∀ (j : Nat), j < x.n → x.k j = x.k j ∧ x.q j = x.q j ∧ x.t j =
  x.t j ∧ True) ∧ ((1 : Nat) ≤ (1 : Nat) ∧ (x.nil = true → x.nil = true) ∧ (x.nil = false → x.nil = false ∧ True ∧ True ∧ x.lo = x.lo ∧ x.len = x.len ∧ x.cap = x.cap)) ∧ ((1 : Nat) ≤ (1 : Nat) ∧ True ∧ True ∧ (0 : Nat) =
  (0 : Nat) ∧ x.len + (1 : Nat) = x.len + (1 : Nat) ∧ cap' = y) ∧ (y * (3 : Nat) ≤ cap' * (3 : Nat) ∧ (x.l.ext (1 : Int) t).n = x.len + (1 : Nat) ∧ ∀ (j : Nat), j < x.len + (1 : Nat) → (j.blt x.len = true → x.l.k j =
  (x.l.ext (1 : Int) t).k j ∧ x.l.q j = (x.l.ext (1 : Int) t).q j ∧ x.l.t j = (x.l.ext (1 : Int) t).t j ∧ True) ∧ (j.blt x.len = false → (1 : Int) = (x.l.ext (1 : Int) t).k j ∧ (1 : Int) = (x.l.ext (1 : Int) t).q j ∧ t =
  (x.l.ext (1 : Int) t).t j ∧ True)) ∧ True) ∧ True) ∧ (1 : Nat) ≤ (1 : Nat) ∧ ((0 : Nat) = (0 : Nat) ∧ x.len ≤ x.l.n ∧ x.len ≤ x_1 ∧ x_1 * (3 : Nat) ≤ x_1 * (3 : Nat) ∧ (x.len + (1 : Nat)) * (24 : Nat) ≤ (140737488355328
  : Nat) ∧ x.len + (1 : Nat) ≤ (9223372036854775807 : Nat) ∧ (∀ (_ : Nat), (3 : Nat) = (3 : Nat)) ∧ ∀ (_ : Nat), (3 : Nat) = (3 : Nat)) ∧ ∀ (cap' : Nat), x.len + (1 : Nat) ≤ cap' → ∃ (y : Nat), (x.l.right ∧ x.len < (8 :
  Nat) ∧ rightE (1 : Int) (1 : Int) t) ∧ ((t = t ∧ (True ∧ True) ∧ (True ∧ True) ∧ True) ∧ ((0 : Nat) ≤ (0 : Nat) ∧ x.n = x.n ∧ ∀ (j : Nat), j < x.n → x.k j = x.k j ∧ x.q j = x.q j ∧ x.t j = x.t j ∧ True) ∧ ((1 : Nat) ≤ (1
  : Nat) ∧ (x.nil = true → x.nil = true) ∧ (x.nil = false → x.nil = false ∧ True ∧ True ∧ x.lo = x.lo ∧ x.len = x.len ∧ x.cap = x.cap)) ∧ ((1 : Nat) ≤ (1 : Nat) ∧ True ∧ True ∧ (0 : Nat) = (0 : Nat) ∧ x.len + (1 : Nat) =
  x.len + (1 : Nat) ∧ cap' = y) ∧ (y * (3 : Nat) ≤ cap' * (3 : Nat) ∧ (x.l.ext (1 : Int) t).n = x.len + (1 : Nat) ∧ ∀ (j : Nat), j < x.len + (1 : Nat) → (j.blt x.len = true → x.l.k j = (x.l.ext (1 : Int) t).k j ∧ x.l.q j =
  (x.l.ext (1 : Int) t).q j ∧ x.l.t j = (x.l.ext (1 : Int) t).t j ∧ True) ∧ (j.blt x.len = false → (1 : Int) = (x.l.ext (1 : Int) t).k j ∧ (1 : Int) = (x.l.ext (1 : Int) t).q j ∧ t = (x.l.ext (1 : Int) t).t j ∧ True)) ∧
  True) ∧ True)) ∧ ((((((x.nil = true → x.nil = true) ∧ (x.nil = false → x.nil = false ∧ True ∧ True ∧ x.lo = x.lo ∧ x.len = x.len ∧ x.cap = x.cap)) ∧ True) ∧ ((0 : Nat) ≤ (0 : Nat) ∧ x.n = x.n ∧ ∀ (j : Nat), j < x.n → x.k
  j = x.k j ∧ x.q j = x.q j ∧ x.t j = x.t j ∧ True) ∧ True) ∧ (x.Ok ∧ x.len ≤ (1000 : Nat)) ∧ (x.nil = true → ((1 : Nat) ≤ (1 : Nat) ∧ ((1 : Nat) = (0 : Nat) → ∃ (_ : Nat), (x.l.right ∧ x.len < (8 : Nat) ∧ rightE (1 : Int)
  (1 : Int) t) ∧ False ∧ True) ∧ ((1 : Nat) ≠ (0 : Nat) → (24 : Nat) ≤ (140737488355328 : Nat) ∧ (1 : Nat) ≤ (9223372036854775807 : Nat) ∧ ∀ (cap : Nat), (1 : Nat) ≤ cap → ∃ (y : Nat), (x.l.right ∧ x.len < (8 : Nat) ∧
  rightE (1 : Int) (1 : Int) t) ∧ ((t = t ∧ (True ∧ True) ∧ (True ∧ True) ∧ True) ∧ ((0 : Nat) ≤ (0 : Nat) ∧ x.n = x.n ∧ ∀ (j : Nat), j < x.n → x.k j = x.k j ∧ x.q j = x.q j ∧ x.t j = x.t j ∧ True) ∧ ((1 : Nat) ≤ (1 : Nat)
  ∧ (x.nil = true → x.nil = true) ∧ (x.nil = false → x.nil = false ∧ True ∧ True ∧ x.lo = x.lo ∧ x.len = x.len ∧ x.cap = x.cap)) ∧ ((1 : Nat) ≤ (1 : Nat) ∧ True ∧ True ∧ (0 : Nat) = (0 : Nat) ∧ (1 : Nat) = x.len + (1 :
  Nat) ∧ cap = y) ∧ (y * (3 : Nat) ≤ cap * (3 : Nat) ∧ (x.l.ext (1 : Int) t).n = (1 : Nat) ∧ ∀ (j : Nat), j < (1 : Nat) → (1 : Int) = (x.l.ext (1 : Int) t).k j ∧ (1 : Int) = (x.l.ext (1 : Int) t).q j ∧ t = (x.l.ext (1 :
  Int) t).t j ∧ True) ∧ True) ∧ True)) ∧ (1 : Nat) ≤ (1 : Nat) ∧ ((1 : Nat) = (0 : Nat) → ∃ (_ : Nat), (x.l.right ∧ x.len < (8 : Nat) ∧ rightE (1 : Int) (1 : Int) t) ∧ False ∧ True) ∧ ((1 : Nat) ≠ (0 : Nat) → (24 : Nat) ≤
  (140737488355328 : Nat) ∧ (1 : Nat) ≤ (9223372036854775807 : Nat) ∧ ∀ (cap : Nat), (1 : Nat) ≤ cap → ∃ (y : Nat), (x.l.right ∧ x.len < (8 : Nat) ∧ rightE (1 : Int) (1 : Int) t) ∧ ((t = t ∧ (True ∧ True) ∧ (True ∧ True) ∧
  True) ∧ ((0 : Nat) ≤ (0 : Nat) ∧ x.n = x.n ∧ ∀ (j : Nat), j < x.n → x.k j = x.k j ∧ x.q j = x.q j ∧ x.t j = x.t j ∧ True) ∧ ((1 : Nat) ≤ (1 : Nat) ∧ (x.nil = true → x.nil = true) ∧ (x.nil = false → x.nil = false ∧ True ∧
  True ∧ x.lo = x.lo ∧ x.len = x.len ∧ x.cap = x.cap)) ∧ ((1 : Nat) ≤ (1 : Nat) ∧ True ∧ True ∧ (0 : Nat) = (0 : Nat) ∧ (1 : Nat) = x.len + (1 : Nat) ∧ cap = y) ∧ (y * (3 : Nat) ≤ cap * (3 : Nat) ∧ (x.l.ext (1 : Int) t).n
  = (1 : Nat) ∧ ∀ (j : Nat), j < (1 : Nat) → (1 : Int) = (x.l.ext (1 : Int) t).k j ∧ (1 : Int) = (x.l.ext (1 : Int) t).q j ∧ t = (x.l.ext (1 : Int) t).t j ∧ True) ∧ True) ∧ True)) ∧ (¬x.nil = true → ∀ (x_1 : Nat), x.len ≤
  x_1 → ((1 : Nat) ≤ (1 : Nat) ∧ ((0 : Nat) = (0 : Nat) ∧ x.len ≤ x.l.n ∧ x.len ≤ x_1 ∧ x_1 * (3 : Nat) ≤ x_1 * (3 : Nat) ∧ (x.len + (1 : Nat)) * (24 : Nat) ≤ (140737488355328 : Nat) ∧ x.len + (1 : Nat) ≤
  (9223372036854775807 : Nat) ∧ (∀ (_ : Nat), (3 : Nat) = (3 : Nat)) ∧ ∀ (_ : Nat), (3 : Nat) = (3 : Nat)) ∧ ∀ (cap' : Nat), x.len + (1 : Nat) ≤ cap' → ∃ (y : Nat), (x.l.right ∧ x.len < (8 : Nat) ∧ rightE (1 : Int) (1 :
  Int) t) ∧ ((t = t ∧ (True ∧ True) ∧ (True ∧ True) ∧ True) ∧ ((0 : Nat) ≤ (0 : Nat) ∧ x.n = x.n ∧ ∀ (j : Nat), j < x.n → x.k j = x.k j ∧ x.q j = x.q j ∧ x.t j = x.t j ∧ True) ∧ ((1 : Nat) ≤ (1 : Nat) ∧ (x.nil = true →
  x.nil = true) ∧ (x.nil = false → x.nil = false ∧ True ∧ True ∧ x.lo = x.lo ∧ x.len = x.len ∧ x.cap = x.cap)) ∧ ((1 : Nat) ≤ (1 : Nat) ∧ True ∧ True ∧ (0 : Nat) = (0 : Nat) ∧ x.len + (1 : Nat) = x.len + (1 : Nat) ∧ cap' =
  y) ∧ (y * (3 : Nat) ≤ cap' * (3 : Nat) ∧ (x.l.ext (1 : Int) t).n = x.len + (1 : Nat) ∧ ∀ (j : Nat), j < x.len + (1 : Nat) → (j.blt x.len = true → x.l.k j = (x.l.ext (1 : Int) t).k j ∧ x.l.q j = (x.l.ext (1 : Int) t).q j
  ∧ x.l.t j = (x.l.ext (1 : Int) t).t j ∧ True) ∧ (j.blt x.len = false → (1 : Int) = (x.l.ext (1 : Int) t).k j ∧ (1 : Int) = (x.l.ext (1 : Int) t).q j ∧ t = (x.l.ext (1 : Int) t).t j ∧ True)) ∧ True) ∧ True) ∧ (1 : Nat) ≤
  (1 : Nat) ∧ ((0 : Nat) = (0 : Nat) ∧ x.len ≤ x.l.n ∧ x.len ≤ x_1 ∧ x_1 * (3 : Nat) ≤ x_1 * (3 : Nat) ∧ (x.len + (1 : Nat)) * (24 : Nat) ≤ (140737488355328 : Nat) ∧ x.len + (1 : Nat) ≤ (9223372036854775807 : Nat) ∧ (∀ (_
  : Nat), (3 : Nat) = (3 : Nat)) ∧ ∀ (_ : Nat), (3 : Nat) = (3 : Nat)) ∧ ∀ (cap' : Nat), x.len + (1 : Nat) ≤ cap' → ∃ (y : Nat), (x.l.right ∧ x.len < (8 : Nat) ∧ rightE (1 : Int) (1 : Int) t) ∧ ((t = t ∧ (True ∧ True) ∧
  (True ∧ True) ∧ True) ∧ ((0 : Nat) ≤ (0 : Nat) ∧ x.n = x.n ∧ ∀ (j : Nat), j < x.n → x.k j = x.k j ∧ x.q j = x.q j ∧ x.t j = x.t j ∧ True) ∧ ((1 : Nat) ≤ (1 : Nat) ∧ (x.nil = true → x.nil = true) ∧ (x.nil = false → x.nil
  = false ∧ True ∧ True ∧ x.lo = x.lo ∧ x.len = x.len ∧ x.cap = x.cap)) ∧ ((1 : Nat) ≤ (1 : Nat) ∧ True ∧ True ∧ (0 : Nat) = (0 : Nat) ∧ x.len + (1 : Nat) = x.len + (1 : Nat) ∧ cap' = y) ∧ (y * (3 : Nat) ≤ cap' * (3 : Nat)
  ∧ (x.l.ext (1 : Int) t).n = x.len + (1 : Nat) ∧ ∀ (j : Nat), j < x.len + (1 : Nat) → (j.blt x.len = true → x.l.k j = (x.l.ext (1 : Int) t).k j ∧ x.l.q j = (x.l.ext (1 : Int) t).q j ∧ x.l.t j = (x.l.ext (1 : Int) t).t j ∧
  True) ∧ (j.blt x.len = false → (1 : Int) = (x.l.ext (1 : Int) t).k j ∧ (1 : Int) = (x.l.ext (1 : Int) t).q j ∧ t = (x.l.ext (1 : Int) t).t j ∧ True)) ∧ True) ∧ True)) ∧ ((((x.nil = true → x.nil = true) ∧ (x.nil = false →
  x.nil = false ∧ True ∧ True ∧ x.lo = x.lo ∧ x.len = x.len ∧ x.cap = x.cap)) ∧ True) ∧ ((0 : Nat) ≤ (0 : Nat) ∧ x.n = x.n ∧ ∀ (j : Nat), j < x.n → x.k j = x.k j ∧ x.q j = x.q j ∧ x.t j = x.t j ∧ True) ∧ True) ∧ (x.Ok ∧
  x.len ≤ (1000 : Nat)) ∧ (x.nil = true → (1 : Nat) ≤ (1 : Nat) ∧ ((1 : Nat) = (0 : Nat) → ∃ (_ : Nat), (x.l.right ∧ x.len < (8 : Nat) ∧ rightE (1 : Int) (1 : Int) t) ∧ False ∧ True) ∧ ((1 : Nat) ≠ (0 : Nat) → (24 : Nat) ≤
  (140737488355328 : Nat) ∧ (1 : Nat) ≤ (9223372036854775807 : Nat) ∧ ∀ (cap : Nat), (1 : Nat) ≤ cap → ∃ (y : Nat), (x.l.right ∧ x.len < (8 : Nat) ∧ rightE (1 : Int) (1 : Int) t) ∧ ((t = t ∧ (True ∧ True) ∧ (True ∧ True) ∧
  True) ∧ ((0 : Nat) ≤ (0 : Nat) ∧ x.n = x.n ∧ ∀ (j : Nat), j < x.n → x.k j = x.k j ∧ x.q j = x.q j ∧ x.t j = x.t j ∧ True) ∧ ((1 : Nat) ≤ (1 : Nat) ∧ (x.nil = true → x.nil = true) ∧ (x.nil = false → x.nil = false ∧ True ∧
  True ∧ x.lo = x.lo ∧ x.len = x.len ∧ x.cap = x.cap)) ∧ ((1 : Nat) ≤ (1 : Nat) ∧ True ∧ True ∧ (0 : Nat) = (0 : Nat) ∧ (1 : Nat) = x.len + (1 : Nat) ∧ cap = y) ∧ (y * (3 : Nat) ≤ cap * (3 : Nat) ∧ (x.l.ext (1 : Int) t).n
  = (1 : Nat) ∧ ∀ (j : Nat), j < (1 : Nat) → (1 : Int) = (x.l.ext (1 : Int) t).k j ∧ (1 : Int) = (x.l.ext (1 : Int) t).q j ∧ t = (x.l.ext (1 : Int) t).t j ∧ True) ∧ True) ∧ True)) ∧ (¬x.nil = true → ∀ (x_1 : Nat), x.len ≤
  x_1 → (1 : Nat) ≤ (1 : Nat) ∧ ((0 : Nat) = (0 : Nat) ∧ x.len ≤ x.l.n ∧ x.len ≤ x_1 ∧ x_1 * (3 : Nat) ≤ x_1 * (3 : Nat) ∧ (x.len + (1 : Nat)) * (24 : Nat) ≤ (140737488355328 : Nat) ∧ x.len + (1 : Nat) ≤
  (9223372036854775807 : Nat) ∧ (∀ (_ : Nat), (3 : Nat) = (3 : Nat)) ∧ ∀ (_ : Nat), (3 : Nat) = (3 : Nat)) ∧ ∀ (cap' : Nat), x.len + (1 : Nat) ≤ cap' → ∃ (y : Nat), (x.l.right ∧ x.len < (8 : Nat) ∧ rightE (1 : Int) (1 :
  Int) t) ∧ ((t = t ∧ (True ∧ True) ∧ (True ∧ True) ∧ True) ∧ ((0 : Nat) ≤ (0 : Nat) ∧ x.n = x.n ∧ ∀ (j : Nat), j < x.n → x.k j = x.k j ∧ x.q j = x.q j ∧ x.t j = x.t j ∧ True) ∧ ((1 : Nat) ≤ (1 : Nat) ∧ (x.nil = true →
  x.nil = true) ∧ (x.nil = false → x.nil = false ∧ True ∧ True ∧ x.lo = x.lo ∧ x.len = x.len ∧ x.cap = x.cap)) ∧ ((1 : Nat) ≤ (1 : Nat) ∧ True ∧ True ∧ (0 : Nat) = (0 : Nat) ∧ x.len + (1 : Nat) = x.len + (1 : Nat) ∧ cap' =
  y) ∧ (y * (3 : Nat) ≤ cap' * (3 : Nat) ∧ (x.l.ext (1 : Int) t).n = x.len + (1 : Nat) ∧ ∀ (j : Nat), j < x.len + (1 : Nat) → (j.blt x.len = true → x.l.k j = (x.l.ext (1 : Int) t).k j ∧ x.l.q j = (x.l.ext (1 : Int) t).q j
  ∧ x.l.t j = (x.l.ext (1 : Int) t).t j ∧ True) ∧ (j.blt x.len = false → (1 : Int) = (x.l.ext (1 : Int) t).k j ∧ (1 : Int) = (x.l.ext (1 : Int) t).q j ∧ t = (x.l.ext (1 : Int) t).t j ∧ True)) ∧ True) ∧ True)) ∧ (((((x.nil
  = true → x.nil = true) ∧ (x.nil = false → x.nil = false ∧ True ∧ True ∧ x.lo = x.lo ∧ x.len = x.len ∧ x.cap = x.cap)) ∧ True) ∧ ((0 : Nat) ≤ (0 : Nat) ∧ x.n = x.n ∧ ∀ (j : Nat), j < x.n → x.k j = x.k j ∧ x.q j = x.q j ∧
  x.t j = x.t j ∧ True) ∧ True) ∧ (x.Ok ∧ x.len ≤ (1000 : Nat)) ∧ (x.nil = true → (1 : Nat) ≤ (1 : Nat) ∧ ((1 : Nat) = (0 : Nat) → ∃ (_ : Nat), (x.l.right ∧ x.len < (8 : Nat) ∧ rightE (1 : Int) (1 : Int) t) ∧ False ∧ True)
  ∧ ((1 : Nat) ≠ (0 : Nat) → (24 : Nat) ≤ (140737488355328 : Nat) ∧ (1 : Nat) ≤ (9223372036854775807 : Nat) ∧ ∀ (cap : Nat), (1 : Nat) ≤ cap → ∃ (y : Nat), (x.l.right ∧ x.len < (8 : Nat) ∧ rightE (1 : Int) (1 : Int) t) ∧
  ((t = t ∧ (True ∧ True) ∧ (True ∧ True) ∧ True) ∧ ((0 : Nat) ≤ (0 : Nat) ∧ x.n = x.n ∧ ∀ (j : Nat), j < x.n → x.k j = x.k j ∧ x.q j = x.q j ∧ x.t j = x.t j ∧ True) ∧ ((1 : Nat) ≤ (1 : Nat) ∧ (x.nil = true → x.nil = true)
  ∧ (x.nil = false → x.nil = false ∧ True ∧ True ∧ x.lo = x.lo ∧ x.len = x.len ∧ x.cap = x.cap)) ∧ ((1 : Nat) ≤ (1 : Nat) ∧ True ∧ True ∧ (0 : Nat) = (0 : Nat) ∧ (1 : Nat) = x.len + (1 : Nat) ∧ cap = y) ∧ (y * (3 : Nat) ≤
  cap * (3 : Nat) ∧ (x.l.ext (1 : Int) t).n = (1 : Nat) ∧ ∀ (j : Nat), j < (1 : Nat) → (1 : Int) = (x.l.ext (1 : Int) t).k j ∧ (1 : Int) = (x.l.ext (1 : Int) t).q j ∧ t = (x.l.ext (1 : Int) t).t j ∧ True) ∧ True) ∧ True))
  ∧ (¬x.nil = true → ∀ (x_1 : Nat), x.len ≤ x_1 → (1 : Nat) ≤ (1 : Nat) ∧ ((0 : Nat) = (0 : Nat) ∧ x.len ≤ x.l.n ∧ x.len ≤ x_1 ∧ x_1 * (3 : Nat) ≤ x_1 * (3 : Nat) ∧ (x.len + (1 : Nat)) * (24 : Nat) ≤ (140737488355328 :
  Nat) ∧ x.len + (1 : Nat) ≤ (9223372036854775807 : Nat) ∧ (∀ (_ : Nat), (3 : Nat) = (3 : Nat)) ∧ ∀ (_ : Nat), (3 : Nat) = (3 : Nat)) ∧ ∀ (cap' : Nat), x.len + (1 : Nat) ≤ cap' → ∃ (y : Nat), (x.l.right ∧ x.len < (8 : Nat)
  ∧ rightE (1 : Int) (1 : Int) t) ∧ ((t = t ∧ (True ∧ True) ∧ (True ∧ True) ∧ True) ∧ ((0 : Nat) ≤ (0 : Nat) ∧ x.n = x.n ∧ ∀ (j : Nat), j < x.n → x.k j = x.k j ∧ x.q j = x.q j ∧ x.t j = x.t j ∧ True) ∧ ((1 : Nat) ≤ (1 :
  Nat) ∧ (x.nil = true → x.nil = true) ∧ (x.nil = false → x.nil = false ∧ True ∧ True ∧ x.lo = x.lo ∧ x.len = x.len ∧ x.cap = x.cap)) ∧ ((1 : Nat) ≤ (1 : Nat) ∧ True ∧ True ∧ (0 : Nat) = (0 : Nat) ∧ x.len + (1 : Nat) =
  x.len + (1 : Nat) ∧ cap' = y) ∧ (y * (3 : Nat) ≤ cap' * (3 : Nat) ∧ (x.l.ext (1 : Int) t).n = x.len + (1 : Nat) ∧ ∀ (j : Nat), j < x.len + (1 : Nat) → (j.blt x.len = true → x.l.k j = (x.l.ext (1 : Int) t).k j ∧ x.l.q j =
  (x.l.ext (1 : Int) t).q j ∧ x.l.t j = (x.l.ext (1 : Int) t).t j ∧ True) ∧ (j.blt x.len = false → (1 : Int) = (x.l.ext (1 : Int) t).k j ∧ (1 : Int) = (x.l.ext (1 : Int) t).q j ∧ t = (x.l.ext (1 : Int) t).t j ∧ True)) ∧
  True) ∧ True)) ∧ ((((x.nil = true → x.nil = true) ∧ (x.nil = false → x.nil = false ∧ True ∧ True ∧ x.lo = x.lo ∧ x.len = x.len ∧ x.cap = x.cap)) ∧ True) ∧ ((0 : Nat) ≤ (0 : Nat) ∧ x.n = x.n ∧ ∀ (j : Nat), j < x.n → x.k j
  = x.k j ∧ x.q j = x.q j ∧ x.t j = x.t j ∧ True) ∧ True) ∧ (x.Ok ∧ x.len ≤ (1000 : Nat)) ∧ (x.nil = true → (1 : Nat) ≤ (1 : Nat) ∧ ((1 : Nat) = (0 : Nat) → ∃ (_ : Nat), (x.l.right ∧ x.len < (8 : Nat) ∧ rightE (1 : Int) (1
  : Int) t) ∧ False ∧ True) ∧ ((1 : Nat) ≠ (0 : Nat) → (24 : Nat) ≤ (140737488355328 : Nat) ∧ (1 : Nat) ≤ (9223372036854775807 : Nat) ∧ ∀ (cap : Nat), (1 : Nat) ≤ cap → ∃ (y : Nat), (x.l.right ∧ x.len < (8 : Nat) ∧ rightE
  (1 : Int) (1 : Int) t) ∧ ((t = t ∧ (True ∧ True) ∧ (True ∧ True) ∧ True) ∧ ((0 : Nat) ≤ (0 : Nat) ∧ x.n = x.n ∧ ∀ (j : Nat), j < x.n → x.k j = x.k j ∧ x.q j = x.q j ∧ x.t j = x.t j ∧ True) ∧ ((1 : Nat) ≤ (1 : Nat) ∧
  (x.nil = true → x.nil = true) ∧ (x.nil = false → x.nil = false ∧ True ∧ True ∧ x.lo = x.lo ∧ x.len = x.len ∧ x.cap = x.cap)) ∧ ((1 : Nat) ≤ (1 : Nat) ∧ True ∧ True ∧ (0 : Nat) = (0 : Nat) ∧ (1 : Nat) = x.len + (1 : Nat)
  ∧ cap = y) ∧ (y * (3 : Nat) ≤ cap * (3 : Nat) ∧ (x.l.ext (1 : Int) t).n = (1 : Nat) ∧ ∀ (j : Nat), j < (1 : Nat) → (1 : Int) = (x.l.ext (1 : Int) t).k j ∧ (1 : Int) = (x.l.ext (1 : Int) t).q j ∧ t = (x.l.ext (1 : Int)
  t).t j ∧ True) ∧ True) ∧ True)) ∧ (¬x.nil = true → ∀ (x_1 : Nat), x.len ≤ x_1 → (1 : Nat) ≤ (1 : Nat) ∧ ((0 : Nat) = (0 : Nat) ∧ x.len ≤ x.l.n ∧ x.len ≤ x_1 ∧ x_1 * (3 : Nat) ≤ x_1 * (3 : Nat) ∧ (x.len + (1 : Nat)) * (24
  : Nat) ≤ (140737488355328 : Nat) ∧ x.len + (1 : Nat) ≤ (9223372036854775807 : Nat) ∧ (∀ (_ : Nat), (3 : Nat) = (3 : Nat)) ∧ ∀ (_ : Nat), (3 : Nat) = (3 : Nat)) ∧ ∀ (cap' : Nat), x.len + (1 : Nat) ≤ cap' → ∃ (y : Nat),
  (x.l.right ∧ x.len < (8 : Nat) ∧ rightE (1 : Int) (1 : Int) t) ∧ ((t = t ∧ (True ∧ True) ∧ (True ∧ True) ∧ True) ∧ ((0 : Nat) ≤ (0 : Nat) ∧ x.n = x.n ∧ ∀ (j : Nat), j < x.n → x.k j = x.k j ∧ x.q j = x.q j ∧ x.t j = x.t j
  ∧ True) ∧ ((1 : Nat) ≤ (1 : Nat) ∧ (x.nil = true → x.nil = true) ∧ (x.nil = false → x.nil = false ∧ True ∧ True ∧ x.lo = x.lo ∧ x.len = x.len ∧ x.cap = x.cap)) ∧ ((1 : Nat) ≤ (1 : Nat) ∧ True ∧ True ∧ (0 : Nat) = (0 :
  Nat) ∧ x.len + (1 : Nat) = x.len + (1 : Nat) ∧ cap' = y) ∧ (y * (3 : Nat) ≤ cap' * (3 : Nat) ∧ (x.l.ext (1 : Int) t).n = x.len + (1 : Nat) ∧ ∀ (j : Nat), j < x.len + (1 : Nat) → (j.blt x.len = true → x.l.k j = (x.l.ext
  (1 : Int) t).k j ∧ x.l.q j = (x.l.ext (1 : Int) t).q j ∧ x.l.t j = (x.l.ext (1 : Int) t).t j ∧ True) ∧ (j.blt x.len = false → (1 : Int) = (x.l.ext (1 : Int) t).k j ∧ (1 : Int) = (x.l.ext (1 : Int) t).q j ∧ t = (x.l.ext
  (1 : Int) t).t j ∧ True)) ∧ True) ∧ True)) ∧ ∀ (y : Nat), x.l.right ∧ x.len < (8 : Nat) ∧ rightE (1 : Int) (1 : Int) t → ((IntKind.i64.wrap t = (↑(IntKind.i64.wrap t).toNat : Int) ∧ ((True ∧ True) ∧ (True ∧ True) ∧ True)
  ∧ True) ∧ ((0 : Nat) ≤ (0 : Nat) ∧ x.n = x.n ∧ ∀ (j : Nat), j < x.n → x.k j = x.k j ∧ x.q j = x.q j ∧ x.t j = x.t j ∧ True) ∧ ((1 : Nat) ≤ (1 : Nat) ∧ (x.nil = true → x.nil = true) ∧ (x.nil = false → x.nil = false ∧ True
  ∧ True ∧ x.lo = x.lo ∧ x.len = x.len ∧ x.cap = x.cap)) ∧ ((1 : Nat) ≤ (1 : Nat) ∧ True ∧ True ∧ (0 : Nat) = (0 : Nat) ∧ x.len + (1 : Nat) = x.len + (1 : Nat) ∧ y = y) ∧ (y * (3 : Nat) ≤ y * (3 : Nat) ∧ (x.l.ext ((x.l.ext
  (1 : Int) t).q x.len) ((x.l.ext (1 : Int) t).t x.len)).n = (x.l.ext (1 : Int) t).n ∧ ∀ (j : Nat), j < (x.l.ext (1 : Int) t).n → (x.l.ext (1 : Int) t).k j = (x.l.ext ((x.l.ext (1 : Int) t).q x.len) ((x.l.ext (1 : Int)
  t).t x.len)).k j ∧ (x.l.ext (1 : Int) t).q j = (x.l.ext ((x.l.ext (1 : Int) t).q x.len) ((x.l.ext (1 : Int) t).t x.len)).q j ∧ (x.l.ext (1 : Int) t).t j = (x.l.ext ((x.l.ext (1 : Int) t).q x.len) ((x.l.ext (1 : Int) t).t
  x.len)).t j ∧ True) ∧ True) ∧ ((SP.mk (LS.mk x.nil x.lo x.len x.cap x.n (fun (j : Nat) => x.k j) (fun (j : Nat) => x.q j) fun (j : Nat) => x.t j) ((x.l.ext (1 : Int) t).q x.len) ((x.l.ext (1 : Int) t).t x.len) y).Ok ∧
  (IntKind.i64.wrap t).toNat = ((x.l.ext (1 : Int) t).t x.len).toNat) ∧ ∀ (_ : Int), True → ∀ (v : Int), v = IntKind.u64.wrap (↑(lst (refu x.l ((x.l.ext (1 : Int) t).t x.len)) (0 : Nat) (IntKind.i64.wrap t).toNat) : Int)
  → ∀ (v_1 : Int), v_1 = (0 : Int) → x.Ok ∧ (0 : Int) ≤ t ∧ t < (18446744073709551616 : Int) → (v = (spareO x.l t).fst ∧ v_1 = (spareO x.l t).snd ∧ True) ∧ True ∧ ((0 : Nat) ≤ (0 : Nat) ∧ x.n = x.n ∧ ∀ (j : Nat), j < x.n →
  x.k j = x.k j ∧ x.q j = x.q j ∧ x.t j = x.t j ∧ True) ∧ True))) := by
  simp only [true_and, and_true, eq_self, Nat.le_refl, decide_eq_true_eq, decide_eq_false_iff_not, implies_true, true_implies, and_self, Int.not_le, ge_iff_le, ne_eq, nblt_true, nblt_false, IntKind.wrap_u64, IntKind.wrap_i64, Bool.not_eq_true, Bool.not_eq_true', Bool.not_eq_false']
  rintro x t ⟨hx, ht, ht'⟩ _ _ _ _
  have eq : ∀ q, (x.l.ext q t).q x.len = q := fun q => if_pos rfl
  have et : ∀ q, (x.l.ext q t).t x.len = t := fun q => if_pos rfl
  have eta : ({ nil := x.nil, lo := x.lo, len := x.len, cap := x.cap, n := x.n, k := fun j => x.k j, q := fun j => x.q j, t := fun j => x.t j } : LS) = x := rfl
  simp only [eq, et, eta]
  have no : ¬ (x.l.right ∧ x.l.n < 8 ∧ rightE 1 1 t) → spareO x.l t = (0, 11) := fun h => by unfold spareO; rw [if_neg h]
  have low : ∀ j, j < x.len → x.l.k j = (x.l.ext 1 t).k j ∧ x.l.q j = (x.l.ext 1 t).q j ∧ x.l.t j = (x.l.ext 1 t).t j := fun j hj => by
    have h : ¬ j = x.l.n := by show ¬ j = x.len; omega
    simp only [LL.ext, if_neg h, and_self]
  have top : ∀ j, j < x.len + 1 → x.len ≤ j → 1 = (x.l.ext 1 t).k j ∧ 1 = (x.l.ext 1 t).q j ∧ t = (x.l.ext 1 t).t j := fun j h1 h2 => by
    have h : j = x.l.n := by show j = x.len; omega
    simp only [LL.ext, if_pos h, and_self]
  refine ⟨⟨id, id⟩, hx, fun h v hv v1 hv1 _ => ?_, fun hr => ⟨hx.1, fun h v hv v1 hv1 _ => ?_, fun h8 => ⟨fun h v hv v1 hv1 _ => ?_, fun hE => ?_⟩⟩⟩
  · rw [no fun h2 => h h2.1]; exact ⟨hv, hv1⟩
  · rw [no fun h2 => by have : x.len < 8 := h2.2.1; omega]; exact ⟨hv, hv1⟩
  · rw [no fun h2 => h h2.2.2]; exact ⟨hv, hv1⟩
  have h8 : x.len < 8 := by omega
  have hE2 := hE
  unfold rightE at hE2
  have e1 : (t + 9223372036854775808) % 18446744073709551616 - 9223372036854775808 = t := by omega
  simp only [e1]
  refine ⟨⟨⟨id, id⟩, ⟨hx, by omega⟩, fun hn => ⟨fun h => absurd h (by decide), fun _ => ⟨by decide, by decide, fun c hc => ⟨c, ⟨hr, h8, hE⟩, ⟨id, id⟩, ⟨by have := hx.1 hn; omega, rfl⟩, Nat.le_refl _, ?_, fun j hj => top j (by omega) (by have := hx.1 hn; omega)⟩⟩⟩, fun hn c hc => ⟨⟨Nat.le_refl _, hc, by omega, by omega⟩, fun c2 hc2 => ⟨c2, ⟨hr, h8, hE⟩, ⟨id, id⟩, rfl, Nat.le_refl _, rfl, fun j hj => ⟨fun h => low j h, fun h => top j hj h⟩⟩⟩⟩, fun y _ => ⟨?_, ⟨⟨hx, hr, h8, hE2.2.2.1, hE2.2.2.2⟩, (by first | rfl | trivial)⟩, fun q v hv v1 hv1 _ => ?_⟩⟩
  · show x.len + 1 = 1
    have := hx.1 hn; omega
  · exact ⟨by omega, ⟨id, id⟩, trivial, fun _ _ => ⟨trivial, trivial, trivial⟩⟩
  · have hb := lst_bd (refu x.l t) t.toNat 0
    unfold spareO
    rw [if_pos ⟨hr, h8, hE⟩]
    dsimp only
    exact ⟨by omega, hv1⟩

def spare_C (x : (LS × Int)) : Cfg := { Γ := Go.Sx.look tSpare, names := true, cuts := spareK (x.1) (x.2), mode := spareM, locks := spareLk }
theorem spare_al (x : (LS × Int)) : Shown (spareP.vc Try.prog (spare_C x) Try.f20 x) := ⟨@Eq.mp _ _ (by kernel_rfl) (spare_vc (x.1) (x.2))⟩
theorem spare_ok : SpOk Try.prog 20 spareP.sp := @Pat.okS _ spareP Try.prog spare_C 20 Try.f20 (fun x => cfg_tab rfl tSpare_ok) (by kernel_rfl) Try.func20 (fun _ => rfl) spare_al
end Go.Proofs.Ytijpjhelgggmfaa
