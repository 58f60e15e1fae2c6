import Derived.Test.YtokiakcmdbihhaaS4
open Go Go.Sx Go.Proofs
set_option maxRecDepth 100000
namespace Go.Proofs.Ytokiakcmdbihhaa

/-- A sporadic server's chunks, as they lie in memory. -/
structure SS where
  q : Int
  t : Int
  b : Int
  x : CR
def spReg (q t b : Int) (v : T) : Reg := newReg 56 (.cons (frT q t b) (.cons v .nil))
def SS.H (s : SS) : List Reg := [spReg s.q s.t s.b (s.x.v 1), s.x.reg]
def SS.Hr (s : SS) : List Reg := [spReg s.q s.t s.b (s.x.v 1), s.x.ro]
def SS.H2 (s : SS) (y : CR) : List Reg := [spReg s.q s.t s.b (y.v 2), dead, y.reg]
def viewS (r : Nat) (H : List Reg) : SS :=
  let c := regC H r
  ⟨tInt (tAt (tAt c 0) 0), tInt (tAt (tAt c 0) 1), tInt (tAt (tAt c 0) 2), viewC (tAt c 1) H⟩
def CR.Sm (x : CR) : Prop := x.Ok ∧ x.len ≤ 8 ∧ InL x.L ∧ totL x.L ≤ 4398046511104
def wakeP : Pat (SS × Int) where
  view | [.ptr r 0 [], .int .u64 n], H => some (viewS r H, n) | _, _ => none
  args x := [p0 0, .int .u64 x.2]
  H x := x.1.H
  out x := .need x.1.x.Sm (.any (fun y : CR => y.Ok ∧ y.L = wakeL x.2 x.1.x.L) fun y => .ret (.tup .nil) (x.1.H2 y))
def wakeF (s : SS) (n : Int) : Fam where
  α := Nat × Int
  I y := y.1 ≤ s.x.len ∧ y.1 ≤ wakeN n s.x.L ∧ y.2 = sumN y.1 s.x.L
  st y := { sl := mkSl 52 [(0, p0 0), (1, .int .u64 n), (4, .int .i64 y.1), (5, .int .u64 y.2)], H := s.H }
  μ y := s.x.len - y.1
def tWake : Tab := [(45, repP.sp)]
theorem tWake_ok : TabOk Try.prog tWake := (tab_cons rep_ok tab_nil)

theorem wake_vc : ∀ (s : SS) (n : Int), s.x.Sm ∧ True → ∀ (v : Int), v = (0 : Int) → ∀ (v_1 : Int), v_1 = (0 : Int) → (∃ (y : Nat × Int), (y.fst ≤ s.x.len ∧ y.fst ≤ wakeN n s.x.L ∧ y.snd = sumN y.fst s.x.L) ∧ (((True ∧ True) ∧ n = n ∧ v =
  (↑y.fst : Int) ∧ v_1 = y.snd ∧ True) ∧ ((4 : Nat) ≤ (4 : Nat) ∧ (s.q = s.q ∧ s.t = s.t ∧ s.b = s.b ∧ True) ∧ (True ∧ True ∧ s.x.lo = s.x.lo ∧ s.x.len = s.x.len ∧ s.x.cap = s.x.cap) ∧ True) ∧ ((s.x.lo + s.x.cap) * (2 :
  Nat) ≤ (s.x.lo + s.x.cap) * (2 : Nat) ∧ s.x.N = s.x.N ∧ ∀ (j : Nat), j < s.x.N → s.x.a j = s.x.a j ∧ s.x.b j = s.x.b j ∧ True) ∧ True) ∧ True) ∧ ∀ (y : Nat × Int), y.fst ≤ s.x.len ∧ y.fst ≤ wakeN n s.x.L ∧ y.snd = sumN
  y.fst s.x.L → (decide ((↑y.fst : Int) < (↑s.x.len : Int)) = true → ((0 : Int) ≤ (↑y.fst : Int) ∧ (↑y.fst : Int) < (↑s.x.len : Int)) ∧ s.x.lo + (↑y.fst : Int).toNat < s.x.N ∧ (decide (s.x.a (s.x.lo + (↑y.fst : Int).toNat)
  ≤ n) = true → ((0 : Int) ≤ (↑y.fst : Int) ∧ (↑y.fst : Int) < (↑s.x.len : Int)) ∧ s.x.lo + (↑y.fst : Int).toNat < s.x.N ∧ ∀ (v : Int), v = IntKind.u64.wrap (y.snd + s.x.b (s.x.lo + (↑y.fst : Int).toNat)) → ∀ (v_2 : Int),
  v_2 = IntKind.i64.wrap ((↑y.fst : Int) + (1 : Int)) → ∃ (y_1 : Nat × Int), (y_1.fst ≤ s.x.len ∧ y_1.fst ≤ wakeN n s.x.L ∧ y_1.snd = sumN y_1.fst s.x.L) ∧ (((True ∧ True) ∧ n = n ∧ v_2 = (↑y_1.fst : Int) ∧ v = y_1.snd ∧
  True) ∧ ((4 : Nat) ≤ (4 : Nat) ∧ (s.q = s.q ∧ s.t = s.t ∧ s.b = s.b ∧ True) ∧ (True ∧ True ∧ s.x.lo = s.x.lo ∧ s.x.len = s.x.len ∧ s.x.cap = s.x.cap) ∧ True) ∧ ((s.x.lo + s.x.cap) * (2 : Nat) ≤ (s.x.lo + s.x.cap) * (2 :
  Nat) ∧ s.x.N = s.x.N ∧ ∀ (j : Nat), j < s.x.N → s.x.a j = s.x.a j ∧ s.x.b j = s.x.b j ∧ True) ∧ True) ∧ (wakeF s n).μ y_1 < (wakeF s n).μ y) ∧ (decide (s.x.a (s.x.lo + (↑y.fst : Int).toNat) ≤ n) = false → (decide
  ((↑y.fst : Int) > (0 : Int)) = true → (((True ∧ True ∧ s.x.lo = s.x.lo ∧ s.x.len = s.x.len ∧ s.x.cap = s.x.cap) ∧ (0 : Int) = (0 : Int) ∧ (↑y.fst : Int) = (↑(↑y.fst : Int).toNat : Int) ∧ (True ∧ True ∧ (0 : Nat) = (0 :
  Nat) ∧ (1 : Nat) = (1 : Nat) ∧ (1 : Nat) = (1 : Nat)) ∧ True) ∧ ((s.x.lo + s.x.cap) * (2 : Nat) ≤ (s.x.lo + s.x.cap) * (2 : Nat) ∧ s.x.N = s.x.N ∧ ∀ (j : Nat), j < s.x.N → s.x.a j = s.x.a j ∧ s.x.b j = s.x.b j ∧ True) ∧
  ((2 : Nat) ≤ (2 : Nat) ∧ (1 : Nat) = (1 : Nat) ∧ ∀ (j : Nat), j < (1 : Nat) → n = n ∧ y.snd = y.snd ∧ True) ∧ True) ∧ (s.x.Ok ∧ s.x.len ≤ (1000 : Nat) ∧ (↑y.fst : Int).toNat ≤ s.x.len ∧ (1 : Nat) ≤ (↑y.fst : Int).toNat)
  ∧ ∀ (x : CR), x.Ok ∧ x.L = (n, y.snd) :: List.drop (↑y.fst : Int).toNat s.x.L → s.x.Sm → ∃ (x_1 : CR), (x_1.Ok ∧ x_1.L = wakeL n s.x.L) ∧ True ∧ True ∧ ((4 : Nat) ≤ (4 : Nat) ∧ (s.q = s.q ∧ s.t = s.t ∧ s.b = s.b ∧ True)
  ∧ (True ∧ True ∧ x.lo = x_1.lo ∧ x.len = x_1.len ∧ x.cap = x_1.cap) ∧ True) ∧ (0 : Nat) = (0 : Nat) ∧ ((x_1.lo + x_1.cap) * (2 : Nat) ≤ (x.lo + x.cap) * (2 : Nat) ∧ x_1.N = x.N ∧ ∀ (j : Nat), j < x.N → x.a j = x_1.a j ∧
  x.b j = x_1.b j ∧ True) ∧ True) ∧ (decide ((↑y.fst : Int) > (0 : Int)) = false → s.x.Sm → ∃ (x : CR), (x.Ok ∧ x.L = wakeL n s.x.L) ∧ True ∧ True ∧ ((4 : Nat) ≤ (4 : Nat) ∧ (s.q = s.q ∧ s.t = s.t ∧ s.b = s.b ∧ True) ∧
  (True ∧ True ∧ s.x.lo = x.lo ∧ s.x.len = x.len ∧ s.x.cap = x.cap) ∧ True) ∧ (0 : Nat) = (0 : Nat) ∧ ((x.lo + x.cap) * (2 : Nat) ≤ (s.x.lo + s.x.cap) * (2 : Nat) ∧ x.N = s.x.N ∧ ∀ (j : Nat), j < s.x.N → s.x.a j = x.a j ∧
  s.x.b j = x.b j ∧ True) ∧ True))) ∧ (decide ((↑y.fst : Int) < (↑s.x.len : Int)) = false → (decide ((↑y.fst : Int) > (0 : Int)) = true → (((True ∧ True ∧ s.x.lo = s.x.lo ∧ s.x.len = s.x.len ∧ s.x.cap = s.x.cap) ∧ (0 :
  Int) = (0 : Int) ∧ (↑y.fst : Int) = (↑(↑y.fst : Int).toNat : Int) ∧ (True ∧ True ∧ (0 : Nat) = (0 : Nat) ∧ (1 : Nat) = (1 : Nat) ∧ (1 : Nat) = (1 : Nat)) ∧ True) ∧ ((s.x.lo + s.x.cap) * (2 : Nat) ≤ (s.x.lo + s.x.cap) *
  (2 : Nat) ∧ s.x.N = s.x.N ∧ ∀ (j : Nat), j < s.x.N → s.x.a j = s.x.a j ∧ s.x.b j = s.x.b j ∧ True) ∧ ((2 : Nat) ≤ (2 : Nat) ∧ (1 : Nat) = (1 : Nat) ∧ ∀ (j : Nat), j < (1 : Nat) → n = n ∧ y.snd = y.snd ∧ True) ∧ True) ∧
  (s.x.Ok ∧ s.x.len ≤ (1000 : Nat) ∧ (↑y.fst : Int).toNat ≤ s.x.len ∧ (1 : Nat) ≤ (↑y.fst : Int).toNat) ∧ ∀ (x : CR), x.Ok ∧ x.L = (n, y.snd) :: List.drop (↑y.fst : Int).toNat s.x.L → s.x.Sm → ∃ (x_1 : CR), (x_1.Ok ∧ x_1.L
  = wakeL n s.x.L) ∧ True ∧ True ∧ ((4 : Nat) ≤ (4 : Nat) ∧ (s.q = s.q ∧ s.t = s.t ∧ s.b = s.b ∧ True) ∧ (True ∧ True ∧ x.lo = x_1.lo ∧ x.len = x_1.len ∧ x.cap = x_1.cap) ∧ True) ∧ (0 : Nat) = (0 : Nat) ∧ ((x_1.lo +
  x_1.cap) * (2 : Nat) ≤ (x.lo + x.cap) * (2 : Nat) ∧ x_1.N = x.N ∧ ∀ (j : Nat), j < x.N → x.a j = x_1.a j ∧ x.b j = x_1.b j ∧ True) ∧ True) ∧ (decide ((↑y.fst : Int) > (0 : Int)) = false → s.x.Sm → ∃ (x : CR), (x.Ok ∧ x.L
  = wakeL n s.x.L) ∧ True ∧ True ∧ ((4 : Nat) ≤ (4 : Nat) ∧ (s.q = s.q ∧ s.t = s.t ∧ s.b = s.b ∧ True) ∧ (True ∧ True ∧ s.x.lo = x.lo ∧ s.x.len = x.len ∧ s.x.cap = x.cap) ∧ True) ∧ (0 : Nat) = (0 : Nat) ∧ ((x.lo + x.cap) *
  (2 : Nat) ≤ (s.x.lo + s.x.cap) * (2 : Nat) ∧ x.N = s.x.N ∧ ∀ (j : Nat), j < s.x.N → s.x.a j = x.a j ∧ s.x.b j = x.b j ∧ True) ∧ True)) := by
  simp only [true_and, and_true, eq_self, Nat.le_refl, decide_eq_true_eq, decide_eq_false_iff_not, implies_true, and_self, Int.not_lt, Int.not_le, gt_iff_lt, Int.toNat_natCast, IntKind.wrap_u64, IntKind.wrap_i64]
  rintro s n ⟨hx, h8, hin, htot⟩ _ rfl _ rfl
  have hM : ∀ z : Nat × Int, (wakeF s n).μ z = s.x.len - z.1 := fun _ => rfl
  simp only [hM]
  have hx1 := hx.1
  refine ⟨⟨(0, 0), ⟨Nat.zero_le _, Nat.zero_le _, rfl⟩, rfl, rfl⟩, fun y hy => ?_⟩
  obtain ⟨k, w⟩ := y
  obtain ⟨y1, y2, y3⟩ := hy
  dsimp only at y1 y2 y3 ⊢
  have fin : wakeN n s.x.L = k → (0 < k → (s.x.Ok ∧ s.x.len ≤ 1000 ∧ k ≤ s.x.len ∧ 1 ≤ k) ∧ ∀ (x : CR), x.Ok ∧ x.L = (n, w) :: List.drop k s.x.L → x.L = wakeL n s.x.L) ∧ (k = 0 → s.x.L = wakeL n s.x.L) := fun e => by
    unfold wakeL
    refine ⟨fun h => ⟨⟨hx, by omega, y1, h⟩, fun x hx2 => ?_⟩, fun h => ?_⟩
    · rw [if_neg (by omega), e, ← y3, hx2.2]
    · rw [if_pos (by omega)]
  refine ⟨fun hlt => ⟨by omega, by omega, fun ha => ⟨by omega, by omega, fun v hv v2 hv2 => ?_⟩, fun ha => ?_⟩, fun hge => ?_⟩
  · have hg : s.x.L[k]? = some (s.x.a (s.x.lo + k), s.x.b (s.x.lo + k)) := by rw [CR.L_get, if_pos (by omega)]
    have hs := sumN_succ hg
    have hw := wakeN_low k y2 _ _ hg ha
    have h1 := sumN_bd hin.pos k
    have h2 := sumN_bd hin.pos (k + 1)
    exact ⟨(k + 1, sumN (k + 1) s.x.L), ⟨by dsimp only; omega, hw, rfl⟩, ⟨by dsimp only; omega, by dsimp only; omega⟩, by dsimp only; omega⟩
  · obtain ⟨f1, f2⟩ := fin (wakeN_high k y2 fun a b e => by
      rw [CR.L_get, if_pos (by omega)] at e
      simp only [Option.some.injEq, Prod.mk.injEq] at e
      rw [← e.1]; exact ha)
    refine ⟨fun h => ⟨(f1 (by omega)).1, fun x hx2 _ => ⟨x, ⟨hx2.1, (f1 (by omega)).2 x hx2⟩, ⟨rfl, rfl, rfl⟩, Nat.le_refl _, rfl, fun j _ => ⟨rfl, rfl⟩⟩⟩,
      fun h _ => ⟨s.x, ⟨hx, f2 (by omega)⟩, ⟨rfl, rfl, rfl⟩, Nat.le_refl _, rfl, fun j _ => ⟨rfl, rfl⟩⟩⟩
  · obtain ⟨f1, f2⟩ := fin (wakeN_high k y2 fun a b e => by
      rw [CR.L_get, if_neg (by omega)] at e
      cases e)
    refine ⟨fun h => ⟨(f1 (by omega)).1, fun x hx2 _ => ⟨x, ⟨hx2.1, (f1 (by omega)).2 x hx2⟩, ⟨rfl, rfl, rfl⟩, Nat.le_refl _, rfl, fun j _ => ⟨rfl, rfl⟩⟩⟩,
      fun h _ => ⟨s.x, ⟨hx, f2 (by omega)⟩, ⟨rfl, rfl, rfl⟩, Nat.le_refl _, rfl, fun j _ => ⟨rfl, rfl⟩⟩⟩

def wake_C (x : (SS × Int)) : Cfg := { Γ := Go.Sx.look tWake, names := true, loops := onlyAt 2 [wakeF (x.1) (x.2)] }
theorem wake_al (x : (SS × Int)) : Shown (wakeP.vc Try.prog (wake_C x) Try.f42 x) := ⟨@Eq.mp _ _ (by kernel_rfl) (wake_vc (x.1) (x.2))⟩
theorem wake_ok : SpOk Try.prog 42 wakeP.sp := @Pat.okS _ wakeP Try.prog wake_C 42 Try.f42 (fun x => cfg_tab rfl tWake_ok) (by kernel_rfl) Try.func42 (fun _ => rfl) wake_al
def dlP : Pat (SS × Int) where
  view | [.ptr r 0 [], .int .u64 n], H => some (viewS r H, n) | _, _ => none
  args x := [p0 0, .int .u64 x.2]
  H x := x.1.Hr
  out x := .need (x.1.x.Ok ∧ 1 ≤ x.1.x.len ∧ (0 ≤ x.1.x.a x.1.x.lo ∧ x.1.x.a x.1.x.lo ≤ 4611686018427387904) ∧ (0 ≤ x.1.t ∧ x.1.t ≤ 1099511627776)) (.retq (.int .u64 (dueL x.1.t x.1.x.L)))
def tDl : Tab := [(22, cutP.sp)]
theorem tDl_ok : TabOk Try.prog tDl := (tab_cons cut_ok tab_nil)

theorem due_eq {x : CR} (t : Int) (h : 1 ≤ x.len) : dueL t x.L = cutI (x.a x.lo + t) := by
  unfold dueL
  rw [CR.L_get, if_pos (by omega)]
  rfl
theorem dl_vc : ∀ (s : SS) (_ : Int), (s.x.Ok ∧ (1 : Nat) ≤ s.x.len ∧ ((0 : Int) ≤ s.x.a s.x.lo ∧ s.x.a s.x.lo ≤ (4611686018427387904 : Int)) ∧ (0 : Int) ≤ s.t ∧ s.t ≤ (1099511627776 : Int)) ∧ True → ∀ (v : Int), v = (0 : Int) → ((0 :
  Int) ≤ (0 : Int) ∧ (0 : Int) < (↑s.x.len : Int)) ∧ s.x.lo + Int.toNat (0 : Int) < s.x.N ∧ ((IntKind.u64.wrap (s.x.a (s.x.lo + Int.toNat (0 : Int)) + s.t) = IntKind.u64.wrap (s.x.a (s.x.lo + Int.toNat (0 : Int)) + s.t) ∧
  True) ∧ True) ∧ ∀ (v : Int), v = cutI (IntKind.u64.wrap (s.x.a (s.x.lo + Int.toNat (0 : Int)) + s.t)) → s.x.Ok ∧ (1 : Nat) ≤ s.x.len ∧ ((0 : Int) ≤ s.x.a s.x.lo ∧ s.x.a s.x.lo ≤ (4611686018427387904 : Int)) ∧ (0 : Int) ≤
  s.t ∧ s.t ≤ (1099511627776 : Int) → v = dueL s.t s.x.L ∧ True ∧ ((4 : Nat) ≤ (4 : Nat) ∧ (s.q = s.q ∧ s.t = s.t ∧ s.b = s.b ∧ True) ∧ (True ∧ True ∧ s.x.lo = s.x.lo ∧ s.x.len = s.x.len ∧ s.x.cap = s.x.cap) ∧ True) ∧ ((0
  : Nat) ≤ (0 : Nat) ∧ s.x.N = s.x.N ∧ ∀ (j : Nat), j < s.x.N → s.x.a j = s.x.a j ∧ s.x.b j = s.x.b j ∧ True) ∧ True := by
  simp only [true_and, and_true, eq_self, Nat.le_refl, implies_true, and_self, IntKind.wrap_u64]
  rintro s n ⟨hx, h1, ha, ht⟩
  have hx1 := hx.1
  rw [due_eq _ h1]
  have e : (s.x.a s.x.lo + s.t) % 18446744073709551616 = s.x.a s.x.lo + s.t := by omega
  simp only [Int.toNat_zero, Nat.add_zero, e]
  try dsimp only
  repeat' (with_reducible first | assumption | apply And.intro | intro _)
  all_goals (try simp only [cond_dec, decide_eq_decide] at *)
  all_goals (first | omega | ((repeat' (first | omega | split)) <;> (try dsimp only) <;> (try (first | omega | contradiction | (subst_vars; first | rfl | omega) | (simp_all; done) | (simp_all; omega)))))

def dl_C (_ : (SS × Int)) : Cfg := { Γ := Go.Sx.look tDl, names := true }
theorem dl_al (x : (SS × Int)) : Shown (dlP.vc Try.prog (dl_C x) Try.f41 x) := ⟨@Eq.mp _ _ (by kernel_rfl) (dl_vc (x.1) (x.2))⟩
theorem dl_ok : SpOk Try.prog 41 dlP.sp := @Pat.okS _ dlP Try.prog dl_C 41 Try.f41 (fun x => cfg_tab rfl tDl_ok) (by kernel_rfl) Try.func41 (fun _ => rfl) dl_al
def chkP : Pat (SS × Int) where
  view | [.ptr r 0 [], .int .u64 n], H => some (viewS r H, n) | _, _ => none
  args x := [p0 0, .int .u64 x.2]
  H x := x.1.Hr
  out x := .need (x.1.x.Ok ∧ x.1.x.len ≤ 8) (.any (fun y : CR => (y.Ok ∧ y.lo = 0 ∧ y.len = x.1.x.len ∧ y.N = x.1.x.len) ∧ y.L = x.1.x.L) fun y => .ret (y.v 2) (x.1.Hr ++ [y.reg]))
def tChk : Tab := [(44, cloP.sp)]
theorem tChk_ok : TabOk Try.prog tChk := (tab_cons clo_ok tab_nil)

theorem chk_vc : ∀ (s : SS) (_ : Int), (s.x.Ok ∧ s.x.len ≤ (8 : Nat)) ∧ True → (((True ∧ True ∧ s.x.lo = s.x.lo ∧ s.x.len = s.x.len ∧ s.x.cap = s.x.cap) ∧ True) ∧ ((0 : Nat) ≤ (0 : Nat) ∧ s.x.N = s.x.N ∧ ∀ (j : Nat), j < s.x.N → s.x.a j
  = s.x.a j ∧ s.x.b j = s.x.b j ∧ True) ∧ True) ∧ (s.x.Ok ∧ s.x.len ≤ (1000 : Nat)) ∧ ∀ (x : CR), (x.Ok ∧ x.lo = (0 : Nat) ∧ x.len = s.x.len ∧ x.N = s.x.len) ∧ x.L = s.x.L → s.x.Ok ∧ s.x.len ≤ (8 : Nat) → ∃ (x_1 : CR),
  ((x_1.Ok ∧ x_1.lo = (0 : Nat) ∧ x_1.len = s.x.len ∧ x_1.N = s.x.len) ∧ x_1.L = s.x.L) ∧ (True ∧ True ∧ x.lo = x_1.lo ∧ x.len = x_1.len ∧ x.cap = x_1.cap) ∧ True ∧ ((4 : Nat) ≤ (4 : Nat) ∧ (s.q = s.q ∧ s.t = s.t ∧ s.b =
  s.b ∧ True) ∧ (True ∧ True ∧ s.x.lo = s.x.lo ∧ s.x.len = s.x.len ∧ s.x.cap = s.x.cap) ∧ True) ∧ ((0 : Nat) ≤ (0 : Nat) ∧ s.x.N = s.x.N ∧ ∀ (j : Nat), j < s.x.N → s.x.a j = s.x.a j ∧ s.x.b j = s.x.b j ∧ True) ∧ ((x_1.lo +
  x_1.cap) * (2 : Nat) ≤ (x.lo + x.cap) * (2 : Nat) ∧ x_1.N = x.N ∧ ∀ (j : Nat), j < x.N → x.a j = x_1.a j ∧ x.b j = x_1.b j ∧ True) ∧ True := by
  simp only [true_and, and_true, eq_self, Nat.le_refl, implies_true, and_self]
  rintro s n ⟨hx, h8⟩
  exact ⟨⟨hx, by omega⟩, fun x hx2 _ => ⟨x, hx2, ⟨rfl, rfl, rfl⟩, Nat.le_refl _, rfl, fun j _ => ⟨rfl, rfl⟩⟩⟩

def chk_C (_ : (SS × Int)) : Cfg := { Γ := Go.Sx.look tChk, names := true }
theorem chk_al (x : (SS × Int)) : Shown (chkP.vc Try.prog (chk_C x) Try.f40 x) := ⟨@Eq.mp _ _ (by kernel_rfl) (chk_vc (x.1) (x.2))⟩
theorem chk_ok : SpOk Try.prog 40 chkP.sp := @Pat.okS _ chkP Try.prog chk_C 40 Try.f40 (fun x => cfg_tab rfl tChk_ok) (by kernel_rfl) Try.func40 (fun _ => rfl) chk_al
end Go.Proofs.Ytokiakcmdbihhaa
