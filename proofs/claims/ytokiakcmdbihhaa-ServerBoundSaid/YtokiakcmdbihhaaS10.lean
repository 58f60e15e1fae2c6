import Derived.Test.YtokiakcmdbihhaaS9
open Go Go.Sx Go.Proofs
set_option maxRecDepth 100000
namespace Go.Proofs.Ytokiakcmdbihhaa

def usL (n : Int) (l : Chs) : Int := if n < fstD l[0]? then 0 else sndD l[0]?
theorem hd_get {x : CR} (h : 1 ≤ x.len) : fstD x.L[0]? = x.a x.lo ∧ sndD x.L[0]? = x.b x.lo := by
  rw [CR.L_get, if_pos (by omega)]; exact ⟨rfl, rfl⟩
/-! Usable -/
def suP : Pat (SS × Int) where
  view | [.ptr r 0 [], .int .u64 n], H => some (viewSV r H, n) | _, _ => none
  args x := [p0 0, .int .u64 x.2]
  H x := x.1.V
  out x := .need x.1.Ok (.retq (.int .u64 (usL (atI x.1.b x.2) x.1.x.L)))
def tU : Tab := [(21, atP.sp), (14, altH isSpo (skP.sp) (sdkP.sp))]
theorem tU_ok : TabOk Try.prog tU := (tab_cons at__ok (tab_cons skA_ok tab_nil))

theorem su_vc : ∀ (s : SS) (n : Int), s.Ok ∧ True → ∀ (v : Int), v = (0 : Int) → (((True ∧ True) ∧ n = n ∧ True) ∧ ((5 : Nat) ≤ (5 : Nat) ∧ (s.q = s.q ∧ s.t = s.t ∧ s.b = s.b ∧ True) ∧ (1 : Int) = (1 : Int) ∧ (True ∧ True) ∧ True) ∧ ((4
  : Nat) ≤ (4 : Nat) ∧ (s.q = s.q ∧ s.t = s.t ∧ s.b = s.b ∧ True) ∧ (True ∧ True ∧ s.x.lo = s.x.lo ∧ s.x.len = s.x.len ∧ s.x.cap = s.x.cap) ∧ True) ∧ ((s.x.lo + s.x.cap) * (2 : Nat) ≤ (s.x.lo + s.x.cap) * (2 : Nat) ∧ s.x.N
  = s.x.N ∧ ∀ (j : Nat), j < s.x.N → s.x.a j = s.x.a j ∧ s.x.b j = s.x.b j ∧ True) ∧ True) ∧ (SS.mk s.q s.t s.b (CR.mk s.x.lo s.x.len s.x.cap s.x.N (fun (j : Nat) => s.x.a j) fun (j : Nat) => s.x.b j)).Ok ∧ ∀ (x : CR),
  (x.Ok ∧ x.lo = (0 : Nat) ∧ x.len = s.x.len ∧ x.N = s.x.len) ∧ x.L = s.x.L → (((↑x.len : Int) == (0 : Int)) = true → ∀ (v : Int), v = (0 : Int) → s.Ok → v = usL (atI s.b n) s.x.L ∧ True ∧ ((5 : Nat) ≤ (5 : Nat) ∧ (s.q =
  s.q ∧ s.t = s.t ∧ s.b = s.b ∧ True) ∧ (1 : Int) = (1 : Int) ∧ (True ∧ True) ∧ True) ∧ ((4 : Nat) ≤ (4 : Nat) ∧ (s.q = s.q ∧ s.t = s.t ∧ s.b = s.b ∧ True) ∧ (True ∧ True ∧ s.x.lo = s.x.lo ∧ s.x.len = s.x.len ∧ s.x.cap =
  s.x.cap) ∧ True) ∧ ((s.x.lo + s.x.cap) * (2 : Nat) ≤ (s.x.lo + s.x.cap) * (2 : Nat) ∧ s.x.N = s.x.N ∧ ∀ (j : Nat), j < s.x.N → s.x.a j = s.x.a j ∧ s.x.b j = s.x.b j ∧ True) ∧ True) ∧ (((↑x.len : Int) == (0 : Int)) =
  false → ((0 : Int) ≤ (0 : Int) ∧ (0 : Int) < (↑x.len : Int)) ∧ x.lo + Int.toNat (0 : Int) < x.N ∧ (((s.q = s.q ∧ s.t = s.t ∧ s.b = s.b ∧ True) ∧ n = n ∧ True) ∧ True) ∧ (decide (x.a (x.lo + Int.toNat (0 : Int)) > atI s.b
  n) = true → ∀ (v : Int), v = (0 : Int) → s.Ok → v = usL (atI s.b n) s.x.L ∧ True ∧ ((5 : Nat) ≤ (5 : Nat) ∧ (s.q = s.q ∧ s.t = s.t ∧ s.b = s.b ∧ True) ∧ (1 : Int) = (1 : Int) ∧ (True ∧ True) ∧ True) ∧ ((4 : Nat) ≤ (4 :
  Nat) ∧ (s.q = s.q ∧ s.t = s.t ∧ s.b = s.b ∧ True) ∧ (True ∧ True ∧ s.x.lo = s.x.lo ∧ s.x.len = s.x.len ∧ s.x.cap = s.x.cap) ∧ True) ∧ ((s.x.lo + s.x.cap) * (2 : Nat) ≤ (s.x.lo + s.x.cap) * (2 : Nat) ∧ s.x.N = s.x.N ∧ ∀
  (j : Nat), j < s.x.N → s.x.a j = s.x.a j ∧ s.x.b j = s.x.b j ∧ True) ∧ True) ∧ (decide (x.a (x.lo + Int.toNat (0 : Int)) > atI s.b n) = false → ((0 : Int) ≤ (0 : Int) ∧ (0 : Int) < (↑x.len : Int)) ∧ x.lo + Int.toNat (0 :
  Int) < x.N ∧ ∀ (v : Int), v = x.b (x.lo + Int.toNat (0 : Int)) → s.Ok → v = usL (atI s.b n) s.x.L ∧ True ∧ ((5 : Nat) ≤ (5 : Nat) ∧ (s.q = s.q ∧ s.t = s.t ∧ s.b = s.b ∧ True) ∧ (1 : Int) = (1 : Int) ∧ (True ∧ True) ∧
  True) ∧ ((4 : Nat) ≤ (4 : Nat) ∧ (s.q = s.q ∧ s.t = s.t ∧ s.b = s.b ∧ True) ∧ (True ∧ True ∧ s.x.lo = s.x.lo ∧ s.x.len = s.x.len ∧ s.x.cap = s.x.cap) ∧ True) ∧ ((s.x.lo + s.x.cap) * (2 : Nat) ≤ (s.x.lo + s.x.cap) * (2 :
  Nat) ∧ s.x.N = s.x.N ∧ ∀ (j : Nat), j < s.x.N → s.x.a j = s.x.a j ∧ s.x.b j = s.x.b j ∧ True) ∧ True)) := by
  simp only [true_and, and_true, eq_self, Nat.le_refl, decide_eq_true_eq, decide_eq_false_iff_not, beq_iff_eq, beq_eq_false_iff_ne, implies_true, and_self, Int.not_lt, gt_iff_lt, ne_eq]
  rintro s n hok _ rfl
  have z0 : Int.toNat (0 : Int) = 0 := rfl
  simp only [z0, Nat.add_zero]
  refine ⟨hok, fun x hx => ?_⟩
  obtain ⟨⟨x1, x2, x3, x4⟩, x5⟩ := hx
  have one := hok.one
  obtain ⟨h1, h2⟩ := hd_get (x := x) (by omega)
  rw [x5] at h1 h2
  unfold usL
  rw [h1, h2]
  have x6 := x1.1
  exact ⟨fun h => by omega, fun _ => ⟨by omega, by omega, fun h v hv _ => by rw [hv, if_pos h], fun h => ⟨by omega, by omega, fun v hv _ => by rw [hv, if_neg (by omega)]⟩⟩⟩

def su_C (_ : (SS × Int)) : Cfg := { Γ := Go.Sx.look tU, names := true }
theorem su_al (x : (SS × Int)) : Shown (suP.vc Try.prog (su_C x) Try.f12 x) := ⟨@Eq.mp _ _ (by kernel_rfl) (su_vc (x.1) (x.2))⟩
theorem su_ok : SpOk Try.prog 12 suP.sp := @Pat.okS _ suP Try.prog su_C 12 Try.f12 (fun x => cfg_tab rfl tU_ok) (by kernel_rfl) Try.func12 (fun _ => rfl) su_al
def DS.us (d : DS) (n : Int) : Int := d.q - d.gon n
def sduP : Pat (DS × Int) where
  view | [.ptr r 0 [], .int .u64 n], H => some (viewDV r H, n) | _, _ => none
  args x := [p0 0, .int .u64 x.2]
  H x := x.1.V
  out x := .need x.1.Ok (.retq (.int .u64 (x.1.us (atI x.1.b x.2))))
theorem sdu_vc : ∀ (d : DS) (n : Int), d.Ok ∧ True → ∀ (v : Int), v = (0 : Int) → (((True ∧ True) ∧ n = n ∧ True) ∧ ((5 : Nat) ≤ (5 : Nat) ∧ (d.q = d.q ∧ d.t = d.t ∧ d.b = d.b ∧ True) ∧ (2 : Int) = (2 : Int) ∧ (True ∧ True) ∧ True) ∧ ((5
  : Nat) ≤ (5 : Nat) ∧ (d.q = d.q ∧ d.t = d.t ∧ d.b = d.b ∧ True) ∧ d.p = d.p ∧ d.g = d.g ∧ True) ∧ True) ∧ d.Ok ∧ (d.gon (atI d.b n) = d.q → (((0 : Int) == (0 : Int)) = true → ∀ (v : Int), v = (0 : Int) → d.Ok → v = d.us
  (atI d.b n) ∧ True ∧ ((5 : Nat) ≤ (5 : Nat) ∧ (d.q = d.q ∧ d.t = d.t ∧ d.b = d.b ∧ True) ∧ (2 : Int) = (2 : Int) ∧ (True ∧ True) ∧ True) ∧ ((5 : Nat) ≤ (5 : Nat) ∧ (d.q = d.q ∧ d.t = d.t ∧ d.b = d.b ∧ True) ∧ d.p = d.p ∧
  d.g = d.g ∧ True) ∧ True) ∧ (((0 : Int) == (0 : Int)) = false → False)) ∧ (¬d.gon (atI d.b n) = d.q → (((↑(1 : Nat) : Int) == (0 : Int)) = true → ∀ (v : Int), v = (0 : Int) → d.Ok → v = d.us (atI d.b n) ∧ True ∧ ((5 :
  Nat) ≤ (5 : Nat) ∧ (d.q = d.q ∧ d.t = d.t ∧ d.b = d.b ∧ True) ∧ (2 : Int) = (2 : Int) ∧ (True ∧ True) ∧ True) ∧ ((5 : Nat) ≤ (5 : Nat) ∧ (d.q = d.q ∧ d.t = d.t ∧ d.b = d.b ∧ True) ∧ d.p = d.p ∧ d.g = d.g ∧ True) ∧ True)
  ∧ (((↑(1 : Nat) : Int) == (0 : Int)) = false → ((0 : Int) ≤ (0 : Int) ∧ (0 : Int) < (↑(1 : Nat) : Int)) ∧ (0 : Nat) < (1 : Nat) ∧ (((d.q = d.q ∧ d.t = d.t ∧ d.b = d.b ∧ True) ∧ n = n ∧ True) ∧ True) ∧ (decide (d.b +
  d.per (atI d.b n) * d.t > atI d.b n) = true → ∀ (v : Int), v = (0 : Int) → d.Ok → v = d.us (atI d.b n) ∧ True ∧ ((5 : Nat) ≤ (5 : Nat) ∧ (d.q = d.q ∧ d.t = d.t ∧ d.b = d.b ∧ True) ∧ (2 : Int) = (2 : Int) ∧ (True ∧ True)
  ∧ True) ∧ ((5 : Nat) ≤ (5 : Nat) ∧ (d.q = d.q ∧ d.t = d.t ∧ d.b = d.b ∧ True) ∧ d.p = d.p ∧ d.g = d.g ∧ True) ∧ True) ∧ (decide (d.b + d.per (atI d.b n) * d.t > atI d.b n) = false → ((0 : Int) ≤ (0 : Int) ∧ (0 : Int) <
  (↑(1 : Nat) : Int)) ∧ (0 : Nat) < (1 : Nat) ∧ ∀ (v : Int), v = d.q - d.gon (atI d.b n) → d.Ok → v = d.us (atI d.b n) ∧ True ∧ ((5 : Nat) ≤ (5 : Nat) ∧ (d.q = d.q ∧ d.t = d.t ∧ d.b = d.b ∧ True) ∧ (2 : Int) = (2 : Int) ∧
  (True ∧ True) ∧ True) ∧ ((5 : Nat) ≤ (5 : Nat) ∧ (d.q = d.q ∧ d.t = d.t ∧ d.b = d.b ∧ True) ∧ d.p = d.p ∧ d.g = d.g ∧ True) ∧ True))) := by
  simp only [true_and, and_true, eq_self, Nat.le_refl, decide_eq_true_eq, decide_eq_false_iff_not, beq_iff_eq, beq_eq_false_iff_ne, true_implies, and_self, Int.not_lt, gt_iff_lt, ne_eq]
  rintro d n hok _ rfl
  have ha := atI_in (n := n) hok.b0 hok.b1
  obtain ⟨p1, p2, p3, p4⟩ := DS.per_bd hok ⟨ha.1, ha.2.2⟩
  unfold DS.us
  refine ⟨hok, fun h => ⟨fun v hv _ => by omega, fun h => absurd trivial h⟩, fun h => ⟨fun h => absurd h (by decide), fun _ => ⟨by decide, by decide, fun h => by omega, fun h => ⟨by decide, by decide, fun v hv _ => hv⟩⟩⟩⟩

def sdu_C (_ : (DS × Int)) : Cfg := { Γ := Go.Sx.look tU, names := true }
theorem sdu_al (x : (DS × Int)) : Shown (sduP.vc Try.prog (sdu_C x) Try.f12 x) := ⟨@Eq.mp _ _ (by kernel_rfl) (sdu_vc (x.1) (x.2))⟩
theorem sdu_ok : SpOk Try.prog 12 sduP.sp := @Pat.okS _ sduP Try.prog sdu_C 12 Try.f12 (fun x => cfg_tab rfl tU_ok) (by kernel_rfl) Try.func12 (fun _ => rfl) sdu_al
theorem suA_ok : SpOk Try.prog 12 (altH isSpo (suP.sp) (sduP.sp)) := altH_ok su_ok sdu_ok

/-! Next -/
def snP : Pat (SS × Int) where
  view | [.ptr r 0 [], .int .u64 n], H => some (viewSV r H, n) | _, _ => none
  args x := [p0 0, .int .u64 x.2]
  H x := x.1.V
  out x := .need x.1.Ok (.retq (.tup (.cons (.int .u64 (if 0 < usL (atI x.1.b x.2) x.1.x.L then 0 else fstD x.1.x.L[0]?)) (.cons (.bool (!decide (0 < usL (atI x.1.b x.2) x.1.x.L))) .nil))))
def tN : Tab := [(12, altH isSpo (suP.sp) (sduP.sp)), (14, altH isSpo (skP.sp) (sdkP.sp)), (15, altH isSpo (slP.sp) (sdlP.sp))]
theorem tN_ok : TabOk Try.prog tN := (tab_cons suA_ok (tab_cons skA_ok (tab_cons slA_ok tab_nil)))

theorem sn_vc : ∀ (s : SS) (n : Int), s.Ok ∧ True → ∀ (v : Int), v = (0 : Int) → (((True ∧ True) ∧ n = n ∧ True) ∧ ((5 : Nat) ≤ (5 : Nat) ∧ (s.q = s.q ∧ s.t = s.t ∧ s.b = s.b ∧ True) ∧ (1 : Int) = (1 : Int) ∧ (True ∧ True) ∧ True) ∧ ((4
  : Nat) ≤ (4 : Nat) ∧ (s.q = s.q ∧ s.t = s.t ∧ s.b = s.b ∧ True) ∧ (True ∧ True ∧ s.x.lo = s.x.lo ∧ s.x.len = s.x.len ∧ s.x.cap = s.x.cap) ∧ True) ∧ ((s.x.lo + s.x.cap) * (2 : Nat) ≤ (s.x.lo + s.x.cap) * (2 : Nat) ∧ s.x.N
  = s.x.N ∧ ∀ (j : Nat), j < s.x.N → s.x.a j = s.x.a j ∧ s.x.b j = s.x.b j ∧ True) ∧ True) ∧ (SS.mk s.q s.t s.b (CR.mk s.x.lo s.x.len s.x.cap s.x.N (fun (j : Nat) => s.x.a j) fun (j : Nat) => s.x.b j)).Ok ∧ (decide (usL
  (atI s.b n) s.x.L > (0 : Int)) = true → ∀ (v : Int), v = (0 : Int) → s.Ok → ((v = if (0 : Int) < usL (atI s.b n) s.x.L then (0 : Int) else fstD s.x.L[(0 : Nat)]?) ∧ (!decide ((0 : Int) < usL (atI s.b n) s.x.L)) = false ∧
  True) ∧ True ∧ ((5 : Nat) ≤ (5 : Nat) ∧ (s.q = s.q ∧ s.t = s.t ∧ s.b = s.b ∧ True) ∧ (1 : Int) = (1 : Int) ∧ (True ∧ True) ∧ True) ∧ ((4 : Nat) ≤ (4 : Nat) ∧ (s.q = s.q ∧ s.t = s.t ∧ s.b = s.b ∧ True) ∧ (True ∧ True ∧
  s.x.lo = s.x.lo ∧ s.x.len = s.x.len ∧ s.x.cap = s.x.cap) ∧ True) ∧ ((s.x.lo + s.x.cap) * (2 : Nat) ≤ (s.x.lo + s.x.cap) * (2 : Nat) ∧ s.x.N = s.x.N ∧ ∀ (j : Nat), j < s.x.N → s.x.a j = s.x.a j ∧ s.x.b j = s.x.b j ∧ True)
  ∧ True) ∧ (decide (usL (atI s.b n) s.x.L > (0 : Int)) = false → (((True ∧ True) ∧ n = n ∧ True) ∧ ((5 : Nat) ≤ (5 : Nat) ∧ (s.q = s.q ∧ s.t = s.t ∧ s.b = s.b ∧ True) ∧ (1 : Int) = (1 : Int) ∧ (True ∧ True) ∧ True) ∧ ((4
  : Nat) ≤ (4 : Nat) ∧ (s.q = s.q ∧ s.t = s.t ∧ s.b = s.b ∧ True) ∧ (True ∧ True ∧ s.x.lo = s.x.lo ∧ s.x.len = s.x.len ∧ s.x.cap = s.x.cap) ∧ True) ∧ ((s.x.lo + s.x.cap) * (2 : Nat) ≤ (s.x.lo + s.x.cap) * (2 : Nat) ∧ s.x.N
  = s.x.N ∧ ∀ (j : Nat), j < s.x.N → s.x.a j = s.x.a j ∧ s.x.b j = s.x.b j ∧ True) ∧ True) ∧ (SS.mk s.q s.t s.b (CR.mk s.x.lo s.x.len s.x.cap s.x.N (fun (j : Nat) => s.x.a j) fun (j : Nat) => s.x.b j)).Ok ∧ ∀ (x : CR),
  (x.Ok ∧ x.lo = (0 : Nat) ∧ x.len = s.x.len ∧ x.N = s.x.len) ∧ x.L = s.x.L → (decide ((↑x.len : Int) > (0 : Int)) = true → ((0 : Int) ≤ (0 : Int) ∧ (0 : Int) < (↑x.len : Int)) ∧ x.lo + Int.toNat (0 : Int) < x.N ∧ ∀ (v :
  Int), v = x.a (x.lo + Int.toNat (0 : Int)) → s.Ok → ((v = if (0 : Int) < usL (atI s.b n) s.x.L then (0 : Int) else fstD s.x.L[(0 : Nat)]?) ∧ (!decide ((0 : Int) < usL (atI s.b n) s.x.L)) = true ∧ True) ∧ True ∧ ((5 :
  Nat) ≤ (5 : Nat) ∧ (s.q = s.q ∧ s.t = s.t ∧ s.b = s.b ∧ True) ∧ (1 : Int) = (1 : Int) ∧ (True ∧ True) ∧ True) ∧ ((4 : Nat) ≤ (4 : Nat) ∧ (s.q = s.q ∧ s.t = s.t ∧ s.b = s.b ∧ True) ∧ (True ∧ True ∧ s.x.lo = s.x.lo ∧
  s.x.len = s.x.len ∧ s.x.cap = s.x.cap) ∧ True) ∧ ((s.x.lo + s.x.cap) * (2 : Nat) ≤ (s.x.lo + s.x.cap) * (2 : Nat) ∧ s.x.N = s.x.N ∧ ∀ (j : Nat), j < s.x.N → s.x.a j = s.x.a j ∧ s.x.b j = s.x.b j ∧ True) ∧ True) ∧ (decide
  ((↑x.len : Int) > (0 : Int)) = false → (((True ∧ True) ∧ n = n ∧ True) ∧ ((5 : Nat) ≤ (5 : Nat) ∧ (s.q = s.q ∧ s.t = s.t ∧ s.b = s.b ∧ True) ∧ (1 : Int) = (1 : Int) ∧ (True ∧ True) ∧ True) ∧ ((4 : Nat) ≤ (4 : Nat) ∧ (s.q
  = s.q ∧ s.t = s.t ∧ s.b = s.b ∧ True) ∧ (True ∧ True ∧ s.x.lo = s.x.lo ∧ s.x.len = s.x.len ∧ s.x.cap = s.x.cap) ∧ True) ∧ ((s.x.lo + s.x.cap) * (2 : Nat) ≤ (s.x.lo + s.x.cap) * (2 : Nat) ∧ s.x.N = s.x.N ∧ ∀ (j : Nat), j
  < s.x.N → s.x.a j = s.x.a j ∧ s.x.b j = s.x.b j ∧ True) ∧ True) ∧ (SS.mk s.q s.t s.b (CR.mk s.x.lo s.x.len s.x.cap s.x.N (fun (j : Nat) => s.x.a j) fun (j : Nat) => s.x.b j)).Ok ∧ ∀ (v : Int), v = dueL s.t (CR.mk s.x.lo
  s.x.len s.x.cap s.x.N (fun (j : Nat) => s.x.a j) fun (j : Nat) => s.x.b j).L → s.Ok → ((v = if (0 : Int) < usL (atI s.b n) s.x.L then (0 : Int) else fstD s.x.L[(0 : Nat)]?) ∧ (!decide ((0 : Int) < usL (atI s.b n) s.x.L))
  = true ∧ True) ∧ True ∧ ((5 : Nat) ≤ (5 : Nat) ∧ (s.q = s.q ∧ s.t = s.t ∧ s.b = s.b ∧ True) ∧ (1 : Int) = (1 : Int) ∧ (True ∧ True) ∧ True) ∧ ((4 : Nat) ≤ (4 : Nat) ∧ (s.q = s.q ∧ s.t = s.t ∧ s.b = s.b ∧ True) ∧ (True ∧
  True ∧ s.x.lo = s.x.lo ∧ s.x.len = s.x.len ∧ s.x.cap = s.x.cap) ∧ True) ∧ ((s.x.lo + s.x.cap) * (2 : Nat) ≤ (s.x.lo + s.x.cap) * (2 : Nat) ∧ s.x.N = s.x.N ∧ ∀ (j : Nat), j < s.x.N → s.x.a j = s.x.a j ∧ s.x.b j = s.x.b j
  ∧ True) ∧ True)) := by
  simp only [true_and, and_true, eq_self, Nat.le_refl, decide_eq_true_eq, decide_eq_false_iff_not, implies_true, and_self, Int.not_lt, gt_iff_lt, Bool.not_eq_true', Bool.not_eq_false']
  rintro s n hok _ rfl
  have z0 : Int.toNat (0 : Int) = 0 := rfl
  simp only [z0, Nat.add_zero]
  refine ⟨hok, fun h v hv _ => ⟨by rw [hv, if_pos h], h⟩, fun h => ⟨hok, fun x hx => ?_⟩⟩
  obtain ⟨⟨x1, x2, x3, x4⟩, x5⟩ := hx
  have one := hok.one
  obtain ⟨h1, h2⟩ := hd_get (x := x) (by omega)
  have x5 : x.L = s.x.L := x5
  rw [x5] at h1 h2
  have x6 := x1.1
  rw [if_neg (by omega), h1]
  exact ⟨fun _ => ⟨by omega, by omega, fun v hv _ => ⟨hv, h⟩⟩, fun h => by omega⟩

def sn_C (_ : (SS × Int)) : Cfg := { Γ := Go.Sx.look tN, names := true }
theorem sn_al (x : (SS × Int)) : Shown (snP.vc Try.prog (sn_C x) Try.f17 x) := ⟨@Eq.mp _ _ (by kernel_rfl) (sn_vc (x.1) (x.2))⟩
theorem sn_ok : SpOk Try.prog 17 snP.sp := @Pat.okS _ snP Try.prog sn_C 17 Try.f17 (fun x => cfg_tab rfl tN_ok) (by kernel_rfl) Try.func17 (fun _ => rfl) sn_al
def sdnP : Pat (DS × Int) where
  view | [.ptr r 0 [], .int .u64 n], H => some (viewDV r H, n) | _, _ => none
  args x := [p0 0, .int .u64 x.2]
  H x := x.1.V
  out x := .need x.1.Ok (.retq (.tup (.cons (.int .u64 (if 0 < x.1.us (atI x.1.b x.2) then 0 else x.1.due (atI x.1.b x.2))) (.cons (.bool (!decide (0 < x.1.us (atI x.1.b x.2)))) .nil))))
theorem sdn_vc : ∀ (d : DS) (n : Int), d.Ok ∧ True → ∀ (v : Int), v = (0 : Int) → (((True ∧ True) ∧ n = n ∧ True) ∧ ((5 : Nat) ≤ (5 : Nat) ∧ (d.q = d.q ∧ d.t = d.t ∧ d.b = d.b ∧ True) ∧ (2 : Int) = (2 : Int) ∧ (True ∧ True) ∧ True) ∧ ((5
  : Nat) ≤ (5 : Nat) ∧ (d.q = d.q ∧ d.t = d.t ∧ d.b = d.b ∧ True) ∧ d.p = d.p ∧ d.g = d.g ∧ True) ∧ True) ∧ d.Ok ∧ (decide (d.us (atI d.b n) > (0 : Int)) = true → ∀ (v : Int), v = (0 : Int) → d.Ok → ((v = if (0 : Int) <
  d.us (atI d.b n) then (0 : Int) else d.due (atI d.b n)) ∧ (!decide ((0 : Int) < d.us (atI d.b n))) = false ∧ True) ∧ True ∧ ((5 : Nat) ≤ (5 : Nat) ∧ (d.q = d.q ∧ d.t = d.t ∧ d.b = d.b ∧ True) ∧ (2 : Int) = (2 : Int) ∧
  (True ∧ True) ∧ True) ∧ ((5 : Nat) ≤ (5 : Nat) ∧ (d.q = d.q ∧ d.t = d.t ∧ d.b = d.b ∧ True) ∧ d.p = d.p ∧ d.g = d.g ∧ True) ∧ True) ∧ (decide (d.us (atI d.b n) > (0 : Int)) = false → (((True ∧ True) ∧ n = n ∧ True) ∧ ((5
  : Nat) ≤ (5 : Nat) ∧ (d.q = d.q ∧ d.t = d.t ∧ d.b = d.b ∧ True) ∧ (2 : Int) = (2 : Int) ∧ (True ∧ True) ∧ True) ∧ ((5 : Nat) ≤ (5 : Nat) ∧ (d.q = d.q ∧ d.t = d.t ∧ d.b = d.b ∧ True) ∧ d.p = d.p ∧ d.g = d.g ∧ True) ∧
  True) ∧ d.Ok ∧ (d.gon (atI d.b n) = d.q → (decide ((0 : Int) > (0 : Int)) = true → False) ∧ (decide ((0 : Int) > (0 : Int)) = false → (((True ∧ True) ∧ n = n ∧ True) ∧ ((5 : Nat) ≤ (5 : Nat) ∧ (d.q = d.q ∧ d.t = d.t ∧
  d.b = d.b ∧ True) ∧ (2 : Int) = (2 : Int) ∧ (True ∧ True) ∧ True) ∧ ((5 : Nat) ≤ (5 : Nat) ∧ (d.q = d.q ∧ d.t = d.t ∧ d.b = d.b ∧ True) ∧ d.p = d.p ∧ d.g = d.g ∧ True) ∧ True) ∧ d.Ok ∧ ∀ (v : Int), v = d.due (atI d.b n)
  → d.Ok → ((v = if (0 : Int) < d.us (atI d.b n) then (0 : Int) else d.due (atI d.b n)) ∧ (!decide ((0 : Int) < d.us (atI d.b n))) = true ∧ True) ∧ True ∧ ((5 : Nat) ≤ (5 : Nat) ∧ (d.q = d.q ∧ d.t = d.t ∧ d.b = d.b ∧ True)
  ∧ (2 : Int) = (2 : Int) ∧ (True ∧ True) ∧ True) ∧ ((5 : Nat) ≤ (5 : Nat) ∧ (d.q = d.q ∧ d.t = d.t ∧ d.b = d.b ∧ True) ∧ d.p = d.p ∧ d.g = d.g ∧ True) ∧ True)) ∧ (¬d.gon (atI d.b n) = d.q → (decide ((↑(1 : Nat) : Int) >
  (0 : Int)) = true → ((0 : Int) ≤ (0 : Int) ∧ (0 : Int) < (↑(1 : Nat) : Int)) ∧ (0 : Nat) < (1 : Nat) ∧ ∀ (v : Int), v = d.b + d.per (atI d.b n) * d.t → d.Ok → ((v = if (0 : Int) < d.us (atI d.b n) then (0 : Int) else
  d.due (atI d.b n)) ∧ (!decide ((0 : Int) < d.us (atI d.b n))) = true ∧ True) ∧ True ∧ ((5 : Nat) ≤ (5 : Nat) ∧ (d.q = d.q ∧ d.t = d.t ∧ d.b = d.b ∧ True) ∧ (2 : Int) = (2 : Int) ∧ (True ∧ True) ∧ True) ∧ ((5 : Nat) ≤ (5
  : Nat) ∧ (d.q = d.q ∧ d.t = d.t ∧ d.b = d.b ∧ True) ∧ d.p = d.p ∧ d.g = d.g ∧ True) ∧ True) ∧ (decide ((↑(1 : Nat) : Int) > (0 : Int)) = false → (((True ∧ True) ∧ n = n ∧ True) ∧ ((5 : Nat) ≤ (5 : Nat) ∧ (d.q = d.q ∧ d.t
  = d.t ∧ d.b = d.b ∧ True) ∧ (2 : Int) = (2 : Int) ∧ (True ∧ True) ∧ True) ∧ ((5 : Nat) ≤ (5 : Nat) ∧ (d.q = d.q ∧ d.t = d.t ∧ d.b = d.b ∧ True) ∧ d.p = d.p ∧ d.g = d.g ∧ True) ∧ True) ∧ d.Ok ∧ ∀ (v : Int), v = d.due (atI
  d.b n) → d.Ok → ((v = if (0 : Int) < d.us (atI d.b n) then (0 : Int) else d.due (atI d.b n)) ∧ (!decide ((0 : Int) < d.us (atI d.b n))) = true ∧ True) ∧ True ∧ ((5 : Nat) ≤ (5 : Nat) ∧ (d.q = d.q ∧ d.t = d.t ∧ d.b = d.b
  ∧ True) ∧ (2 : Int) = (2 : Int) ∧ (True ∧ True) ∧ True) ∧ ((5 : Nat) ≤ (5 : Nat) ∧ (d.q = d.q ∧ d.t = d.t ∧ d.b = d.b ∧ True) ∧ d.p = d.p ∧ d.g = d.g ∧ True) ∧ True))) := by
  simp only [true_and, and_true, eq_self, Nat.le_refl, decide_eq_true_eq, decide_eq_false_iff_not, and_self, Int.not_lt, gt_iff_lt, Bool.not_eq_true', Bool.not_eq_false']
  rintro d n hok _ rfl
  have hg := (DS.gon_bd hok (atI d.b n)).2
  refine ⟨hok, fun h v hv _ => ⟨by rw [hv, if_pos h], h⟩, fun h => ⟨hok, fun h1 => ⟨fun h => absurd h (by decide), fun _ => ⟨hok, fun v hv _ => ⟨by rw [hv, if_neg (by omega)], h⟩⟩⟩, fun h1 => ?_⟩⟩
  unfold DS.us at h
  omega

def sdn_C (_ : (DS × Int)) : Cfg := { Γ := Go.Sx.look tN, names := true }
theorem sdn_al (x : (DS × Int)) : Shown (sdnP.vc Try.prog (sdn_C x) Try.f17 x) := ⟨@Eq.mp _ _ (by kernel_rfl) (sdn_vc (x.1) (x.2))⟩
theorem sdn_ok : SpOk Try.prog 17 sdnP.sp := @Pat.okS _ sdnP Try.prog sdn_C 17 Try.f17 (fun x => cfg_tab rfl tN_ok) (by kernel_rfl) Try.func17 (fun _ => rfl) sdn_al
theorem snA_ok : SpOk Try.prog 17 (altH isSpo (snP.sp) (sdnP.sp)) := altH_ok sn_ok sdn_ok

/-! New -/
def rngI (q t n : Int) : Prop := 1 ≤ q ∧ q ≤ t ∧ t ≤ 1099511627776 ∧ n ≤ 2305843009213693952
instance (q t n : Int) : Decidable (rngI q t n) := by unfold rngI; infer_instance
def nwP : Pat (Int × Int × Int × Int) where
  view | [.int .i64 k, .int .u64 q, .int .u64 t, .int .u64 n], _ => some (k, q, t, n) | _, _ => none
  args x := [.int .i64 x.1, .int .u64 x.2.1, .int .u64 x.2.2.1, .int .u64 x.2.2.2]
  H _ := []
  out x := .br (x.1 = 1 ∧ rngI x.2.1 x.2.2.1 x.2.2.2)
    (.any (fun y : CR => y.Ok ∧ y.L = [(x.2.2.2, x.2.1)]) fun y => .ret (.tup (.cons (p0 0) (.cons (.int .i64 0) .nil))) (⟨x.2.1, x.2.2.1, x.2.2.2, y⟩ : SS).V)
    (.br (x.1 = 2 ∧ rngI x.2.1 x.2.2.1 x.2.2.2) (.ret (.tup (.cons (p0 0) (.cons (.int .i64 0) .nil))) (⟨x.2.1, x.2.2.1, x.2.2.2, 0, 0⟩ : DS).V)
      (.ret (.tup (.cons .nilp (.cons (.int .i64 (if x.1 = 1 ∨ x.1 = 2 then 11 else 10)) .nil))) []))
theorem nw_vc : ∀ (k q t n : Int), True → ∀ (v : Int), v = (0 : Int) → ((k == (1 : Int)) = true → (decide (q < (1 : Int)) = true → ∀ (v : Int), v = (11 : Int) → (k = (1 : Int) ∧ rngI q t n → ∃ (x : CR), (x.Ok ∧ x.L = [(n, q)]) ∧ (False
  ∧ v = (0 : Int) ∧ True) ∧ False) ∧ (¬(k = (1 : Int) ∧ rngI q t n) → (k = (2 : Int) ∧ rngI q t n → (False ∧ v = (0 : Int) ∧ True) ∧ False) ∧ (¬(k = (2 : Int) ∧ rngI q t n) → (True ∧ (v = if k = (1 : Int) ∨ k = (2 : Int)
  then (11 : Int) else (10 : Int)) ∧ True) ∧ True ∧ True))) ∧ (decide (q < (1 : Int)) = false → (decide (q > t) = true → ∀ (v : Int), v = (11 : Int) → (k = (1 : Int) ∧ rngI q t n → ∃ (x : CR), (x.Ok ∧ x.L = [(n, q)]) ∧
  (False ∧ v = (0 : Int) ∧ True) ∧ False) ∧ (¬(k = (1 : Int) ∧ rngI q t n) → (k = (2 : Int) ∧ rngI q t n → (False ∧ v = (0 : Int) ∧ True) ∧ False) ∧ (¬(k = (2 : Int) ∧ rngI q t n) → (True ∧ (v = if k = (1 : Int) ∨ k = (2 :
  Int) then (11 : Int) else (10 : Int)) ∧ True) ∧ True ∧ True))) ∧ (decide (q > t) = false → (decide (t > (1099511627776 : Int)) = true → ∀ (v : Int), v = (11 : Int) → (k = (1 : Int) ∧ rngI q t n → ∃ (x : CR), (x.Ok ∧ x.L
  = [(n, q)]) ∧ (False ∧ v = (0 : Int) ∧ True) ∧ False) ∧ (¬(k = (1 : Int) ∧ rngI q t n) → (k = (2 : Int) ∧ rngI q t n → (False ∧ v = (0 : Int) ∧ True) ∧ False) ∧ (¬(k = (2 : Int) ∧ rngI q t n) → (True ∧ (v = if k = (1 :
  Int) ∨ k = (2 : Int) then (11 : Int) else (10 : Int)) ∧ True) ∧ True ∧ True))) ∧ (decide (t > (1099511627776 : Int)) = false → (decide (n > (2305843009213693952 : Int)) = true → ∀ (v : Int), v = (11 : Int) → (k = (1 :
  Int) ∧ rngI q t n → ∃ (x : CR), (x.Ok ∧ x.L = [(n, q)]) ∧ (False ∧ v = (0 : Int) ∧ True) ∧ False) ∧ (¬(k = (1 : Int) ∧ rngI q t n) → (k = (2 : Int) ∧ rngI q t n → (False ∧ v = (0 : Int) ∧ True) ∧ False) ∧ (¬(k = (2 :
  Int) ∧ rngI q t n) → (True ∧ (v = if k = (1 : Int) ∨ k = (2 : Int) then (11 : Int) else (10 : Int)) ∧ True) ∧ True ∧ True))) ∧ (decide (n > (2305843009213693952 : Int)) = false → ∀ (v : Int), v = (0 : Int) → (k = (1 :
  Int) ∧ rngI q t n → ∃ (x : CR), (x.Ok ∧ x.L = [(n, q)]) ∧ ((True ∧ True) ∧ v = (0 : Int) ∧ True) ∧ True ∧ ((5 : Nat) ≤ (5 : Nat) ∧ (q = q ∧ t = t ∧ n = n ∧ True) ∧ k = (1 : Int) ∧ (True ∧ True) ∧ True) ∧ ((4 : Nat) ≤ (4
  : Nat) ∧ (q = q ∧ t = t ∧ n = n ∧ True) ∧ (True ∧ True ∧ (0 : Nat) = x.lo ∧ (1 : Nat) = x.len ∧ (1 : Nat) = x.cap) ∧ True) ∧ ((x.lo + x.cap) * (2 : Nat) ≤ (2 : Nat) ∧ x.N = (1 : Nat) ∧ ∀ (j : Nat), j < (1 : Nat) → n =
  x.a j ∧ q = x.b j ∧ True) ∧ True) ∧ (¬(k = (1 : Int) ∧ rngI q t n) → (k = (2 : Int) ∧ rngI q t n → ((True ∧ True) ∧ v = (0 : Int) ∧ True) ∧ True ∧ ((5 : Nat) ≤ (5 : Nat) ∧ (q = q ∧ t = t ∧ n = n ∧ True) ∧ k = (2 : Int) ∧
  False ∧ True) ∧ False ∧ True) ∧ (¬(k = (2 : Int) ∧ rngI q t n) → (False ∧ (v = if k = (1 : Int) ∨ k = (2 : Int) then (11 : Int) else (10 : Int)) ∧ True) ∧ True ∧ True))))))) ∧ ((k == (1 : Int)) = false → ((k == (2 :
  Int)) = true → (decide (q < (1 : Int)) = true → ∀ (v : Int), v = (11 : Int) → (k = (1 : Int) ∧ rngI q t n → ∃ (x : CR), (x.Ok ∧ x.L = [(n, q)]) ∧ (False ∧ v = (0 : Int) ∧ True) ∧ False) ∧ (¬(k = (1 : Int) ∧ rngI q t n) →
  (k = (2 : Int) ∧ rngI q t n → (False ∧ v = (0 : Int) ∧ True) ∧ False) ∧ (¬(k = (2 : Int) ∧ rngI q t n) → (True ∧ (v = if k = (1 : Int) ∨ k = (2 : Int) then (11 : Int) else (10 : Int)) ∧ True) ∧ True ∧ True))) ∧ (decide
  (q < (1 : Int)) = false → (decide (q > t) = true → ∀ (v : Int), v = (11 : Int) → (k = (1 : Int) ∧ rngI q t n → ∃ (x : CR), (x.Ok ∧ x.L = [(n, q)]) ∧ (False ∧ v = (0 : Int) ∧ True) ∧ False) ∧ (¬(k = (1 : Int) ∧ rngI q t
  n) → (k = (2 : Int) ∧ rngI q t n → (False ∧ v = (0 : Int) ∧ True) ∧ False) ∧ (¬(k = (2 : Int) ∧ rngI q t n) → (True ∧ (v = if k = (1 : Int) ∨ k = (2 : Int) then (11 : Int) else (10 : Int)) ∧ True) ∧ True ∧ True))) ∧
  (decide (q > t) = false → (decide (t > (1099511627776 : Int)) = true → ∀ (v : Int), v = (11 : Int) → (k = (1 : Int) ∧ rngI q t n → ∃ (x : CR), (x.Ok ∧ x.L = [(n, q)]) ∧ (False ∧ v = (0 : Int) ∧ True) ∧ False) ∧ (¬(k = (1
  : Int) ∧ rngI q t n) → (k = (2 : Int) ∧ rngI q t n → (False ∧ v = (0 : Int) ∧ True) ∧ False) ∧ (¬(k = (2 : Int) ∧ rngI q t n) → (True ∧ (v = if k = (1 : Int) ∨ k = (2 : Int) then (11 : Int) else (10 : Int)) ∧ True) ∧
  True ∧ True))) ∧ (decide (t > (1099511627776 : Int)) = false → (decide (n > (2305843009213693952 : Int)) = true → ∀ (v : Int), v = (11 : Int) → (k = (1 : Int) ∧ rngI q t n → ∃ (x : CR), (x.Ok ∧ x.L = [(n, q)]) ∧ (False ∧
  v = (0 : Int) ∧ True) ∧ False) ∧ (¬(k = (1 : Int) ∧ rngI q t n) → (k = (2 : Int) ∧ rngI q t n → (False ∧ v = (0 : Int) ∧ True) ∧ False) ∧ (¬(k = (2 : Int) ∧ rngI q t n) → (True ∧ (v = if k = (1 : Int) ∨ k = (2 : Int)
  then (11 : Int) else (10 : Int)) ∧ True) ∧ True ∧ True))) ∧ (decide (n > (2305843009213693952 : Int)) = false → ∀ (v : Int), v = (0 : Int) → (k = (1 : Int) ∧ rngI q t n → ∃ (x : CR), (x.Ok ∧ x.L = [(n, q)]) ∧ ((True ∧
  True) ∧ v = (0 : Int) ∧ True) ∧ False) ∧ (¬(k = (1 : Int) ∧ rngI q t n) → (k = (2 : Int) ∧ rngI q t n → ((True ∧ True) ∧ v = (0 : Int) ∧ True) ∧ True ∧ ((5 : Nat) ≤ (5 : Nat) ∧ (q = q ∧ t = t ∧ n = n ∧ True) ∧ k = (2 :
  Int) ∧ (True ∧ True) ∧ True) ∧ ((5 : Nat) ≤ (5 : Nat) ∧ (q = q ∧ t = t ∧ n = n ∧ True) ∧ (0 : Int) = (0 : Int) ∧ (0 : Int) = (0 : Int) ∧ True) ∧ True) ∧ (¬(k = (2 : Int) ∧ rngI q t n) → (False ∧ (v = if k = (1 : Int) ∨ k
  = (2 : Int) then (11 : Int) else (10 : Int)) ∧ True) ∧ True ∧ True))))))) ∧ ((k == (2 : Int)) = false → ∀ (v : Int), v = (10 : Int) → (k = (1 : Int) ∧ rngI q t n → ∃ (x : CR), (x.Ok ∧ x.L = [(n, q)]) ∧ (False ∧ v = (0 :
  Int) ∧ True) ∧ False) ∧ (¬(k = (1 : Int) ∧ rngI q t n) → (k = (2 : Int) ∧ rngI q t n → (False ∧ v = (0 : Int) ∧ True) ∧ False) ∧ (¬(k = (2 : Int) ∧ rngI q t n) → (True ∧ (v = if k = (1 : Int) ∨ k = (2 : Int) then (11 :
  Int) else (10 : Int)) ∧ True) ∧ True ∧ True)))) := by
  simp only [true_and, and_true, eq_self, Nat.le_refl, decide_eq_true_eq, decide_eq_false_iff_not, beq_iff_eq, beq_eq_false_iff_ne, true_implies, and_self, Int.not_lt, gt_iff_lt, ne_eq]
  intro k q t n v hv
  have key : ∃ x : CR, (x.Ok ∧ x.L = [(n, q)]) ∧ (0 = x.lo ∧ 1 = x.len ∧ 1 = x.cap) ∧ (x.lo + x.cap) * 2 ≤ 2 ∧ x.N = 1 ∧ ∀ (j : Nat), j < 1 → n = x.a j ∧ q = x.b j :=
    ⟨⟨0, 1, 1, 1, fun _ => n, fun _ => q⟩, ⟨⟨Nat.le_refl _, Nat.le_refl _⟩, rfl⟩, ⟨rfl, rfl, rfl⟩, Nat.le_refl _, rfl, fun j _ => ⟨rfl, rfl⟩⟩
  unfold rngI
  have bad : ∀ v : Int, v = 11 → (k = 1 ∨ k = 2) → ¬ (1 ≤ q ∧ q ≤ t ∧ t ≤ 1099511627776 ∧ n ≤ 2305843009213693952) → (k = 1 ∧ 1 ≤ q ∧ q ≤ t ∧ t ≤ 1099511627776 ∧ n ≤ 2305843009213693952 → ∃ x : CR, (x.Ok ∧ x.L = [(n, q)]) ∧ (False ∧ v = 0) ∧ False) ∧ (¬(k = 1 ∧ 1 ≤ q ∧ q ≤ t ∧ t ≤ 1099511627776 ∧ n ≤ 2305843009213693952) → (k = 2 ∧ 1 ≤ q ∧ q ≤ t ∧ t ≤ 1099511627776 ∧ n ≤ 2305843009213693952 → (False ∧ v = 0) ∧ False) ∧ (¬(k = 2 ∧ 1 ≤ q ∧ q ≤ t ∧ t ≤ 1099511627776 ∧ n ≤ 2305843009213693952) → v = if k = 1 ∨ k = 2 then 11 else 10)) :=
    fun v hv hk hn => ⟨fun h => absurd h.2 hn, fun _ => ⟨fun h => absurd h.2 hn, fun _ => by rw [hv, if_pos hk]⟩⟩
  refine ⟨fun hk => ⟨fun h v hv => bad v hv (.inl hk) (by omega), fun h1 => ⟨fun h v hv => bad v hv (.inl hk) (by omega), fun h2 => ⟨fun h v hv => bad v hv (.inl hk) (by omega), fun h3 => ⟨fun h v hv => bad v hv (.inl hk) (by omega), fun h4 v hv => ⟨fun _ => ?_, fun h => absurd ⟨hk, h1, h2, h3, h4⟩ h⟩⟩⟩⟩⟩,
    fun hk => ⟨fun hk2 => ⟨fun h v hv => bad v hv (.inr hk2) (by omega), fun h1 => ⟨fun h v hv => bad v hv (.inr hk2) (by omega), fun h2 => ⟨fun h v hv => bad v hv (.inr hk2) (by omega), fun h3 => ⟨fun h v hv => bad v hv (.inr hk2) (by omega), fun h4 v hv => ⟨fun h => absurd h.1 hk, fun _ => ⟨fun _ => ⟨hv, hk2⟩, fun h => absurd ⟨hk2, h1, h2, h3, h4⟩ h⟩⟩⟩⟩⟩⟩, fun hk2 v hv => ⟨fun h => absurd h.1 hk, fun _ => ⟨fun h => absurd h.1 hk2, fun _ => ?_⟩⟩⟩⟩
  · obtain ⟨x, e1, e2, e3⟩ := key
    exact ⟨x, e1, hv, hk, e2, e3⟩
  · rw [hv, if_neg (by omega)]

def nw_C (_ : (Int × Int × Int × Int)) : Cfg := { Γ := Go.Sx.look [], names := true }
theorem nw_al (x : (Int × Int × Int × Int)) : Shown (nwP.vc Try.prog (nw_C x) Try.f9 x) := ⟨@Eq.mp _ _ (by kernel_rfl) (nw_vc (x.1) (x.2.1) (x.2.2.1) (x.2.2.2))⟩
theorem nw_ok : SpOk Try.prog 9 nwP.sp := @Pat.okS _ nwP Try.prog nw_C 9 Try.f9 (fun x => cfg_nil rfl) (by kernel_rfl) Try.func9 (fun _ => rfl) nw_al
end Go.Proofs.Ytokiakcmdbihhaa
