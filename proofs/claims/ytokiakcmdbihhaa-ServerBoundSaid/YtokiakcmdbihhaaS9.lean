import Derived.Test.YtokiakcmdbihhaaS8
open Go Go.Sx Go.Proofs
set_option maxRecDepth 100000
namespace Go.Proofs.Ytokiakcmdbihhaa

def svReg (q t b k : Int) (i : T) : Reg := newReg 53 (.cons (frT q t b) (.cons (.int .i64 k) (.cons i .nil)))
/-- A sporadic server that was made. -/
structure SS.Ok (s : SS) : Prop where
  sm : s.x.Sm
  one : 1 ≤ s.x.len
  ia : InA s.x.L
  q0 : 1 ≤ s.q
  qt : s.q ≤ s.t
  t1 : s.t ≤ 1099511627776
  b0 : 0 ≤ s.b
  b1 : s.b ≤ 2305843009213693952
  tot : totL s.x.L = s.q
def SS.V (s : SS) : List Reg := [svReg s.q s.t s.b 1 (.iface 54 (p0 1)), spReg s.q s.t s.b (s.x.v 2), s.x.reg]
def SS.V2 (s : SS) (y : CR) : List Reg := [svReg s.q s.t s.b 1 (.iface 54 (p0 1)), spReg s.q s.t s.b (y.v 3), dead, y.reg]
def DS.V (d : DS) : List Reg := [svReg d.q d.t d.b 2 (.iface 57 (p0 1)), dReg d]
def tIf : T → T
  | .iface _ v => v
  | _ => .top
def tTy : T → Nat
  | .iface t _ => t
  | _ => 0
def isSpo (args : List T) (H : List Reg) : Bool := Nat.beq (tTy (tAt (regC H (tRef (getSl args 0))) 2)) 54
def viewSV (r : Nat) (H : List Reg) : SS := viewS (tRef (tIf (tAt (regC H r) 2))) H
def viewDV (r : Nat) (H : List Reg) : DS := viewD (tRef (tIf (tAt (regC H r) 2))) H
theorem atI_in {b n : Int} (h0 : 0 ≤ b) (h1 : b ≤ 2305843009213693952) : b ≤ atI b n ∧ 0 ≤ atI b n ∧ atI b n ≤ 4611686018427387904 := by
  unfold atI cutI; split <;> split <;> omega
theorem SS.Ok.ch {s : SS} (h : s.Ok) (n c : Int) (hc : 0 ≤ c) : ChOk s (atI s.b n) c := by
  obtain ⟨a1, a2, a3⟩ := atI_in (n := n) h.b0 h.b1
  have := h.q0; have := h.qt
  exact ⟨h.sm, h.one, by omega, h.t1, a2, a3, hc, by omega, by rw [h.tot]; omega, h.ia⟩
theorem SS.Ok.hd {s : SS} (h : s.Ok) : (0 ≤ s.x.a s.x.lo ∧ s.x.a s.x.lo ≤ 4611686018427387904) ∧ 1 ≤ s.x.b s.x.lo ∧ s.x.b s.x.lo ≤ 4398046511104 :=
  ⟨h.ia (s.x.a s.x.lo, s.x.b s.x.lo) (by rw [CR.L_cons h.one]; exact List.mem_cons_self), CR.snd_le h.sm.2.2.1 h.sm.2.2.2 (j := 0) (by have := h.one; omega)⟩
def m1 : Nat → Nat
  | 0 => 1
  | 1 => 1
  | _ => 0
def k1 : Nat → List Nat
  | 0 => [0]
  | 1 => [0]
  | _ => []
/-! Wake -/
def swP : Pat (SS × Int) where
  view | [.ptr r 0 [], .int .u64 n], H => some (viewSV r H, n) | _, _ => none
  args x := [p0 0, .int .u64 x.2]
  H x := x.1.V
  out x := .need x.1.Ok (.any (fun y : CR => y.Ok ∧ y.L = wakeL (atI x.1.b x.2) x.1.x.L) fun y => .ret (.tup .nil) (x.1.V2 y))
def tW : Tab := [(21, atP.sp), (42, wakeP.sp), (57, dwP.sp)]
theorem tW_ok : TabOk Try.prog tW := (tab_cons at__ok (tab_cons wake_ok (tab_cons dw_ok tab_nil)))

theorem sw_vc : ∀ (s : SS) (n : Int), s.Ok ∧ True → (((s.q = s.q ∧ s.t = s.t ∧ s.b = s.b ∧ True) ∧ n = n ∧ True) ∧ True) ∧ (((True ∧ True) ∧ atI s.b n = atI s.b n ∧ True) ∧ ((4 : Nat) ≤ (4 : Nat) ∧ (s.q = s.q ∧ s.t = s.t ∧ s.b = s.b ∧
  True) ∧ (True ∧ True ∧ s.x.lo = s.x.lo ∧ s.x.len = s.x.len ∧ s.x.cap = s.x.cap) ∧ True) ∧ ((s.x.lo + s.x.cap) * (2 : Nat) ≤ (s.x.lo + s.x.cap) * (2 : Nat) ∧ s.x.N = s.x.N ∧ ∀ (j : Nat), j < s.x.N → s.x.a j = s.x.a j ∧
  s.x.b j = s.x.b j ∧ True) ∧ True) ∧ s.x.Sm ∧ ∀ (x : CR), x.Ok ∧ x.L = wakeL (atI s.b n) s.x.L → s.Ok → ∃ (x_1 : CR), (x_1.Ok ∧ x_1.L = wakeL (atI s.b n) s.x.L) ∧ True ∧ True ∧ ((5 : Nat) ≤ (5 : Nat) ∧ (s.q = s.q ∧ s.t =
  s.t ∧ s.b = s.b ∧ True) ∧ (1 : Int) = (1 : Int) ∧ (True ∧ True) ∧ True) ∧ ((4 : Nat) ≤ (4 : Nat) ∧ (s.q = s.q ∧ s.t = s.t ∧ s.b = s.b ∧ True) ∧ (True ∧ True ∧ x.lo = x_1.lo ∧ x.len = x_1.len ∧ x.cap = x_1.cap) ∧ True) ∧
  (0 : Nat) = (0 : Nat) ∧ ((x_1.lo + x_1.cap) * (2 : Nat) ≤ (x.lo + x.cap) * (2 : Nat) ∧ x_1.N = x.N ∧ ∀ (j : Nat), j < x.N → x.a j = x_1.a j ∧ x.b j = x_1.b j ∧ True) ∧ True := by
  simp only [true_and, and_true, eq_self, Nat.le_refl, implies_true, and_self]
  rintro s n hok
  exact ⟨hok.sm, fun x hx _ => ⟨x, hx, ⟨rfl, rfl, rfl⟩, Nat.le_refl _, rfl, fun j _ => ⟨rfl, rfl⟩⟩⟩

def sw_C (_ : (SS × Int)) : Cfg := { Γ := Go.Sx.look tW, names := true, mode := m1, locks := k1 }
theorem sw_al (x : (SS × Int)) : Shown (swP.vc Try.prog (sw_C x) Try.f11 x) := ⟨@Eq.mp _ _ (by kernel_rfl) (sw_vc (x.1) (x.2))⟩
theorem sw_ok : SpOk Try.prog 11 swP.sp := @Pat.okS _ swP Try.prog sw_C 11 Try.f11 (fun x => cfg_tab rfl tW_ok) (by kernel_rfl) Try.func11 (fun _ => rfl) sw_al
def sdwP : Pat (DS × Int) where
  view | [.ptr r 0 [], .int .u64 n], H => some (viewDV r H, n) | _, _ => none
  args x := [p0 0, .int .u64 x.2]
  H x := x.1.V
  out _ := .retq (.tup .nil)
theorem sdw_vc : ∀ (d : DS) (n : Int), True → (((d.q = d.q ∧ d.t = d.t ∧ d.b = d.b ∧ True) ∧ n = n ∧ True) ∧ True) ∧ (((True ∧ True) ∧ atI d.b n = atI d.b n ∧ True) ∧ ((5 : Nat) ≤ (5 : Nat) ∧ (d.q = d.q ∧ d.t = d.t ∧ d.b = d.b ∧ True) ∧
  d.p = d.p ∧ d.g = d.g ∧ True) ∧ True) ∧ True ∧ True ∧ ((5 : Nat) ≤ (5 : Nat) ∧ (d.q = d.q ∧ d.t = d.t ∧ d.b = d.b ∧ True) ∧ (2 : Int) = (2 : Int) ∧ (True ∧ True) ∧ True) ∧ ((5 : Nat) ≤ (5 : Nat) ∧ (d.q = d.q ∧ d.t = d.t
  ∧ d.b = d.b ∧ True) ∧ d.p = d.p ∧ d.g = d.g ∧ True) ∧ True := by
  simp only [eq_self, Nat.le_refl, implies_true, and_self]
  try (intro d n; trivial)

def sdw_C (_ : (DS × Int)) : Cfg := { Γ := Go.Sx.look tW, names := true, mode := m1, locks := k1 }
theorem sdw_al (x : (DS × Int)) : Shown (sdwP.vc Try.prog (sdw_C x) Try.f11 x) := ⟨@Eq.mp _ _ (by kernel_rfl) (sdw_vc (x.1) (x.2))⟩
theorem sdw_ok : SpOk Try.prog 11 sdwP.sp := @Pat.okS _ sdwP Try.prog sdw_C 11 Try.f11 (fun x => cfg_tab rfl tW_ok) (by kernel_rfl) Try.func11 (fun _ => rfl) sdw_al
theorem swA_ok : SpOk Try.prog 11 (altH isSpo (swP.sp) (sdwP.sp)) := altH_ok sw_ok sdw_ok

/-! Charge -/
def scP : Pat (SS × Int × Int) where
  view | [.ptr r 0 [], .int .u64 n, .int .u64 c], H => some (viewSV r H, n, c) | _, _ => none
  args x := [p0 0, .int .u64 x.2.1, .int .u64 x.2.2]
  H x := x.1.V
  out x := .need (x.1.Ok ∧ 0 ≤ x.2.2) (.any (fun y : CR => y.Ok ∧ y.L = chargeL x.1.q x.1.t (atI x.1.b x.2.1) x.2.2 x.1.x.L) fun y => .ret (.int .u64 (cI x.1.q x.2.2)) (x.1.V2 y))
def tC : Tab := [(21, atP.sp), (39, chgP.sp), (54, dcP.sp)]
theorem tC_ok : TabOk Try.prog tC := (tab_cons at__ok (tab_cons chg_ok (tab_cons dc_ok tab_nil)))

theorem sc__vc : ∀ (s : SS) (n c : Int), (s.Ok ∧ (0 : Int) ≤ c) ∧ True → ∀ (v : Int), v = (0 : Int) → (((s.q = s.q ∧ s.t = s.t ∧ s.b = s.b ∧ True) ∧ n = n ∧ True) ∧ True) ∧ (((True ∧ True) ∧ atI s.b n = atI s.b n ∧ c = c ∧ True) ∧ ((4 :
  Nat) ≤ (4 : Nat) ∧ (s.q = s.q ∧ s.t = s.t ∧ s.b = s.b ∧ True) ∧ (True ∧ True ∧ s.x.lo = s.x.lo ∧ s.x.len = s.x.len ∧ s.x.cap = s.x.cap) ∧ True) ∧ ((s.x.lo + s.x.cap) * (2 : Nat) ≤ (s.x.lo + s.x.cap) * (2 : Nat) ∧ s.x.N =
  s.x.N ∧ ∀ (j : Nat), j < s.x.N → s.x.a j = s.x.a j ∧ s.x.b j = s.x.b j ∧ True) ∧ True) ∧ ChOk (SS.mk s.q s.t s.b (CR.mk s.x.lo s.x.len s.x.cap s.x.N (fun (j : Nat) => s.x.a j) fun (j : Nat) => s.x.b j)) (atI s.b n) c ∧ ∀
  (x : CR), x.Ok ∧ x.L = chargeL s.q s.t (atI s.b n) c s.x.L → ∀ (v : Int), v = cI s.q c → s.Ok ∧ (0 : Int) ≤ c → ∃ (x_1 : CR), (x_1.Ok ∧ x_1.L = chargeL s.q s.t (atI s.b n) c s.x.L) ∧ v = cI s.q c ∧ True ∧ ((5 : Nat) ≤ (5
  : Nat) ∧ (s.q = s.q ∧ s.t = s.t ∧ s.b = s.b ∧ True) ∧ (1 : Int) = (1 : Int) ∧ (True ∧ True) ∧ True) ∧ ((4 : Nat) ≤ (4 : Nat) ∧ (s.q = s.q ∧ s.t = s.t ∧ s.b = s.b ∧ True) ∧ (True ∧ True ∧ x.lo = x_1.lo ∧ x.len = x_1.len ∧
  x.cap = x_1.cap) ∧ True) ∧ (0 : Nat) = (0 : Nat) ∧ ((x_1.lo + x_1.cap) * (2 : Nat) ≤ (x.lo + x.cap) * (2 : Nat) ∧ x_1.N = x.N ∧ ∀ (j : Nat), j < x.N → x.a j = x_1.a j ∧ x.b j = x_1.b j ∧ True) ∧ True := by
  simp only [true_and, and_true, eq_self, Nat.le_refl, implies_true, and_self]
  rintro s n c ⟨hok, hc⟩ _ rfl
  exact ⟨hok.ch n c hc, fun x hx v hv _ => ⟨x, hx, hv, ⟨rfl, rfl, rfl⟩, Nat.le_refl _, rfl, fun j _ => ⟨rfl, rfl⟩⟩⟩

def sc__C (_ : (SS × Int × Int)) : Cfg := { Γ := Go.Sx.look tC, names := true, mode := m1, locks := k1 }
theorem sc__al (x : (SS × Int × Int)) : Shown (scP.vc Try.prog (sc__C x) Try.f13 x) := ⟨@Eq.mp _ _ (by kernel_rfl) (sc__vc (x.1) (x.2.1) (x.2.2))⟩
theorem sc__ok : SpOk Try.prog 13 scP.sp := @Pat.okS _ scP Try.prog sc__C 13 Try.f13 (fun x => cfg_tab rfl tC_ok) (by kernel_rfl) Try.func13 (fun _ => rfl) sc__al
def sdcP : Pat (DS × Int × Int) where
  view | [.ptr r 0 [], .int .u64 n, .int .u64 c], H => some (viewDV r H, n, c) | _, _ => none
  args x := [p0 0, .int .u64 x.2.1, .int .u64 x.2.2]
  H x := x.1.V
  out x := .need (x.1.Ok ∧ 0 ≤ x.2.2) (.ret (.int .u64 (x.1.chg (atI x.1.b x.2.1) x.2.2)) (x.1.aft (atI x.1.b x.2.1) x.2.2).V)
theorem sdc_vc : ∀ (d : DS) (n c : Int), (d.Ok ∧ (0 : Int) ≤ c) ∧ True → ∀ (v : Int), v = (0 : Int) → (((d.q = d.q ∧ d.t = d.t ∧ d.b = d.b ∧ True) ∧ n = n ∧ True) ∧ True) ∧ (((True ∧ True) ∧ atI d.b n = atI d.b n ∧ c = c ∧ True) ∧ ((5 :
  Nat) ≤ (5 : Nat) ∧ (d.q = d.q ∧ d.t = d.t ∧ d.b = d.b ∧ True) ∧ d.p = d.p ∧ d.g = d.g ∧ True) ∧ True) ∧ (d.Ok ∧ inR d.b (atI d.b n) ∧ (0 : Int) ≤ c) ∧ ∀ (v : Int), v = d.chg (atI d.b n) c → d.Ok ∧ (0 : Int) ≤ c → v =
  d.chg (atI d.b n) c ∧ True ∧ ((5 : Nat) ≤ (5 : Nat) ∧ (d.q = (d.aft (atI d.b n) c).q ∧ d.t = (d.aft (atI d.b n) c).t ∧ d.b = (d.aft (atI d.b n) c).b ∧ True) ∧ (2 : Int) = (2 : Int) ∧ (True ∧ True) ∧ True) ∧ ((5 : Nat) ≤
  (5 : Nat) ∧ ((d.aft (atI d.b n) c).q = (d.aft (atI d.b n) c).q ∧ (d.aft (atI d.b n) c).t = (d.aft (atI d.b n) c).t ∧ (d.aft (atI d.b n) c).b = (d.aft (atI d.b n) c).b ∧ True) ∧ (d.aft (atI d.b n) c).p = (d.aft (atI d.b
  n) c).p ∧ (d.aft (atI d.b n) c).g = (d.aft (atI d.b n) c).g ∧ True) ∧ True := by
  simp only [true_and, and_true, eq_self, Nat.le_refl, and_self]
  rintro d n c ⟨hok, hc⟩ _ rfl
  have ha := atI_in (n := n) hok.b0 hok.b1
  refine ⟨⟨hok, ⟨ha.1, ha.2.2⟩, hc⟩, fun v hv _ => ?_⟩
  refine And.intro hv ?_
  exact ⟨rfl, rfl, rfl⟩

def sdc_C (_ : (DS × Int × Int)) : Cfg := { Γ := Go.Sx.look tC, names := true, mode := m1, locks := k1 }
theorem sdc_al (x : (DS × Int × Int)) : Shown (sdcP.vc Try.prog (sdc_C x) Try.f13 x) := ⟨@Eq.mp _ _ (by kernel_rfl) (sdc_vc (x.1) (x.2.1) (x.2.2))⟩
theorem sdc_ok : SpOk Try.prog 13 sdcP.sp := @Pat.okS _ sdcP Try.prog sdc_C 13 Try.f13 (fun x => cfg_tab rfl tC_ok) (by kernel_rfl) Try.func13 (fun _ => rfl) sdc_al
theorem scA_ok : SpOk Try.prog 13 (altH isSpo (scP.sp) (sdcP.sp)) := altH_ok sc__ok sdc_ok

/-! Deadline -/
def slP : Pat (SS × Int) where
  view | [.ptr r 0 [], .int .u64 n], H => some (viewSV r H, n) | _, _ => none
  args x := [p0 0, .int .u64 x.2]
  H x := x.1.V
  out x := .need x.1.Ok (.retq (.int .u64 (dueL x.1.t x.1.x.L)))
def tD : Tab := [(21, atP.sp), (41, dlP.sp), (56, ddP.sp)]
theorem tD_ok : TabOk Try.prog tD := (tab_cons at__ok (tab_cons dl_ok (tab_cons dd_ok tab_nil)))

theorem sl__vc : ∀ (s : SS) (n : Int), s.Ok ∧ True → ∀ (v : Int), v = (0 : Int) → (((s.q = s.q ∧ s.t = s.t ∧ s.b = s.b ∧ True) ∧ n = n ∧ True) ∧ True) ∧ (((True ∧ True) ∧ atI s.b n = atI s.b n ∧ True) ∧ ((4 : Nat) ≤ (4 : Nat) ∧ (s.q =
  s.q ∧ s.t = s.t ∧ s.b = s.b ∧ True) ∧ (True ∧ True ∧ s.x.lo = s.x.lo ∧ s.x.len = s.x.len ∧ s.x.cap = s.x.cap) ∧ True) ∧ ((0 : Nat) ≤ (s.x.lo + s.x.cap) * (2 : Nat) ∧ s.x.N = s.x.N ∧ ∀ (j : Nat), j < s.x.N → s.x.a j =
  s.x.a j ∧ s.x.b j = s.x.b j ∧ True) ∧ True) ∧ (s.x.Ok ∧ (1 : Nat) ≤ s.x.len ∧ ((0 : Int) ≤ s.x.a s.x.lo ∧ s.x.a s.x.lo ≤ (4611686018427387904 : Int)) ∧ (0 : Int) ≤ s.t ∧ s.t ≤ (1099511627776 : Int)) ∧ ∀ (v : Int), v =
  dueL s.t s.x.L → s.Ok → v = dueL s.t s.x.L ∧ True ∧ ((5 : Nat) ≤ (5 : Nat) ∧ (s.q = s.q ∧ s.t = s.t ∧ s.b = s.b ∧ True) ∧ (1 : Int) = (1 : Int) ∧ (True ∧ True) ∧ True) ∧ ((4 : Nat) ≤ (4 : Nat) ∧ (s.q = s.q ∧ s.t = s.t ∧
  s.b = s.b ∧ True) ∧ (True ∧ True ∧ s.x.lo = s.x.lo ∧ s.x.len = s.x.len ∧ s.x.cap = s.x.cap) ∧ True) ∧ ((s.x.lo + s.x.cap) * (2 : Nat) ≤ (s.x.lo + s.x.cap) * (2 : Nat) ∧ s.x.N = s.x.N ∧ ∀ (j : Nat), j < s.x.N → s.x.a j =
  s.x.a j ∧ s.x.b j = s.x.b j ∧ True) ∧ True := by
  simp only [true_and, and_true, eq_self, Nat.le_refl, implies_true, and_self]
  rintro s n hok _ rfl
  have h := hok.hd
  have := hok.q0; have := hok.qt; have := hok.t1
  exact ⟨by omega, ⟨hok.sm.1, hok.one, h.1, by omega, hok.t1⟩, fun v hv _ => hv⟩

def sl__C (_ : (SS × Int)) : Cfg := { Γ := Go.Sx.look tD, names := true }
theorem sl__al (x : (SS × Int)) : Shown (slP.vc Try.prog (sl__C x) Try.f15 x) := ⟨@Eq.mp _ _ (by kernel_rfl) (sl__vc (x.1) (x.2))⟩
theorem sl__ok : SpOk Try.prog 15 slP.sp := @Pat.okS _ slP Try.prog sl__C 15 Try.f15 (fun x => cfg_tab rfl tD_ok) (by kernel_rfl) Try.func15 (fun _ => rfl) sl__al
def sdlP : Pat (DS × Int) where
  view | [.ptr r 0 [], .int .u64 n], H => some (viewDV r H, n) | _, _ => none
  args x := [p0 0, .int .u64 x.2]
  H x := x.1.V
  out x := .need x.1.Ok (.retq (.int .u64 (x.1.due (atI x.1.b x.2))))
theorem sdl_vc : ∀ (d : DS) (n : Int), d.Ok ∧ True → ∀ (v : Int), v = (0 : Int) → (((d.q = d.q ∧ d.t = d.t ∧ d.b = d.b ∧ True) ∧ n = n ∧ True) ∧ True) ∧ (((True ∧ True) ∧ atI d.b n = atI d.b n ∧ True) ∧ ((5 : Nat) ≤ (5 : Nat) ∧ (d.q =
  d.q ∧ d.t = d.t ∧ d.b = d.b ∧ True) ∧ d.p = d.p ∧ d.g = d.g ∧ True) ∧ True) ∧ (d.Ok ∧ inR d.b (atI d.b n)) ∧ ∀ (v : Int), v = d.due (atI d.b n) → d.Ok → v = d.due (atI d.b n) ∧ True ∧ ((5 : Nat) ≤ (5 : Nat) ∧ (d.q = d.q
  ∧ d.t = d.t ∧ d.b = d.b ∧ True) ∧ (2 : Int) = (2 : Int) ∧ (True ∧ True) ∧ True) ∧ ((5 : Nat) ≤ (5 : Nat) ∧ (d.q = d.q ∧ d.t = d.t ∧ d.b = d.b ∧ True) ∧ d.p = d.p ∧ d.g = d.g ∧ True) ∧ True := by
  simp only [true_and, and_true, eq_self, Nat.le_refl, and_self]
  rintro d n hok _ rfl
  have ha := atI_in (n := n) hok.b0 hok.b1
  exact ⟨⟨hok, ⟨ha.1, ha.2.2⟩⟩, fun v hv _ => hv⟩

def sdl_C (_ : (DS × Int)) : Cfg := { Γ := Go.Sx.look tD, names := true }
theorem sdl_al (x : (DS × Int)) : Shown (sdlP.vc Try.prog (sdl_C x) Try.f15 x) := ⟨@Eq.mp _ _ (by kernel_rfl) (sdl_vc (x.1) (x.2))⟩
theorem sdl_ok : SpOk Try.prog 15 sdlP.sp := @Pat.okS _ sdlP Try.prog sdl_C 15 Try.f15 (fun x => cfg_tab rfl tD_ok) (by kernel_rfl) Try.func15 (fun _ => rfl) sdl_al
theorem slA_ok : SpOk Try.prog 15 (altH isSpo (slP.sp) (sdlP.sp)) := altH_ok sl__ok sdl_ok

/-! Chunks -/
def skP : Pat (SS × Int) where
  view | [.ptr r 0 [], .int .u64 n], H => some (viewSV r H, n) | _, _ => none
  args x := [p0 0, .int .u64 x.2]
  H x := x.1.V
  out x := .need x.1.Ok (.any (fun y : CR => (y.Ok ∧ y.lo = 0 ∧ y.len = x.1.x.len ∧ y.N = x.1.x.len) ∧ y.L = x.1.x.L) fun y => .ret (y.v 3) (x.1.V ++ [y.reg]))
def tK : Tab := [(21, atP.sp), (40, chkP.sp), (55, dkP.sp)]
theorem tK_ok : TabOk Try.prog tK := (tab_cons at__ok (tab_cons chk_ok (tab_cons dk_ok tab_nil)))

theorem sk_vc : ∀ (s : SS) (n : Int), s.Ok ∧ True → (((s.q = s.q ∧ s.t = s.t ∧ s.b = s.b ∧ True) ∧ n = n ∧ True) ∧ True) ∧ (((True ∧ True) ∧ atI s.b n = atI s.b n ∧ True) ∧ ((4 : Nat) ≤ (4 : Nat) ∧ (s.q = s.q ∧ s.t = s.t ∧ s.b = s.b ∧
  True) ∧ (True ∧ True ∧ s.x.lo = s.x.lo ∧ s.x.len = s.x.len ∧ s.x.cap = s.x.cap) ∧ True) ∧ ((0 : Nat) ≤ (s.x.lo + s.x.cap) * (2 : Nat) ∧ s.x.N = s.x.N ∧ ∀ (j : Nat), j < s.x.N → s.x.a j = s.x.a j ∧ s.x.b j = s.x.b j ∧
  True) ∧ True) ∧ (s.x.Ok ∧ s.x.len ≤ (8 : Nat)) ∧ ∀ (x : CR), (x.Ok ∧ x.lo = (0 : Nat) ∧ x.len = s.x.len ∧ x.N = s.x.len) ∧ x.L = s.x.L → s.Ok → ∃ (x_1 : CR), ((x_1.Ok ∧ x_1.lo = (0 : Nat) ∧ x_1.len = s.x.len ∧ x_1.N =
  s.x.len) ∧ x_1.L = s.x.L) ∧ (True ∧ True ∧ x.lo = x_1.lo ∧ x.len = x_1.len ∧ x.cap = x_1.cap) ∧ True ∧ ((5 : Nat) ≤ (5 : Nat) ∧ (s.q = s.q ∧ s.t = s.t ∧ s.b = s.b ∧ True) ∧ (1 : Int) = (1 : Int) ∧ (True ∧ True) ∧ True) ∧
  ((4 : Nat) ≤ (4 : Nat) ∧ (s.q = s.q ∧ s.t = s.t ∧ s.b = s.b ∧ True) ∧ (True ∧ True ∧ s.x.lo = s.x.lo ∧ s.x.len = s.x.len ∧ s.x.cap = s.x.cap) ∧ True) ∧ ((s.x.lo + s.x.cap) * (2 : Nat) ≤ (s.x.lo + s.x.cap) * (2 : Nat) ∧
  s.x.N = s.x.N ∧ ∀ (j : Nat), j < s.x.N → s.x.a j = s.x.a j ∧ s.x.b j = s.x.b j ∧ True) ∧ ((x_1.lo + x_1.cap) * (2 : Nat) ≤ (x.lo + x.cap) * (2 : Nat) ∧ x_1.N = x.N ∧ ∀ (j : Nat), j < x.N → x.a j = x_1.a j ∧ x.b j = x_1.b
  j ∧ True) ∧ True := by
  simp only [true_and, and_true, eq_self, Nat.le_refl, implies_true, and_self]
  rintro s n hok
  exact ⟨by omega, ⟨hok.sm.1, hok.sm.2.1⟩, fun x hx _ => ⟨x, hx, ⟨rfl, rfl, rfl⟩, Nat.le_refl _, rfl, fun j _ => ⟨rfl, rfl⟩⟩⟩

def sk_C (_ : (SS × Int)) : Cfg := { Γ := Go.Sx.look tK, names := true, mode := m1, locks := k1 }
theorem sk_al (x : (SS × Int)) : Shown (skP.vc Try.prog (sk_C x) Try.f14 x) := ⟨@Eq.mp _ _ (by kernel_rfl) (sk_vc (x.1) (x.2))⟩
theorem sk_ok : SpOk Try.prog 14 skP.sp := @Pat.okS _ skP Try.prog sk_C 14 Try.f14 (fun x => cfg_tab rfl tK_ok) (by kernel_rfl) Try.func14 (fun _ => rfl) sk_al
def sdkP : Pat (DS × Int) where
  view | [.ptr r 0 [], .int .u64 n], H => some (viewDV r H, n) | _, _ => none
  args x := [p0 0, .int .u64 x.2]
  H x := x.1.V
  out x := .need x.1.Ok (.br (x.1.gon (atI x.1.b x.2) = x.1.q) (.retq .nils) (.ret (.slice 2 0 [] 0 2 1 1) (x.1.V ++ [dRow (x.1.b + x.1.per (atI x.1.b x.2) * x.1.t) (x.1.q - x.1.gon (atI x.1.b x.2))])))
theorem sdk_vc : ∀ (d : DS) (n : Int), d.Ok ∧ True → (((d.q = d.q ∧ d.t = d.t ∧ d.b = d.b ∧ True) ∧ n = n ∧ True) ∧ True) ∧ (((True ∧ True) ∧ atI d.b n = atI d.b n ∧ True) ∧ ((5 : Nat) ≤ (5 : Nat) ∧ (d.q = d.q ∧ d.t = d.t ∧ d.b = d.b ∧
  True) ∧ d.p = d.p ∧ d.g = d.g ∧ True) ∧ True) ∧ (d.Ok ∧ inR d.b (atI d.b n)) ∧ (d.gon (atI d.b n) = d.q → d.Ok → (d.gon (atI d.b n) = d.q → True ∧ True ∧ ((5 : Nat) ≤ (5 : Nat) ∧ (d.q = d.q ∧ d.t = d.t ∧ d.b = d.b ∧
  True) ∧ (2 : Int) = (2 : Int) ∧ (True ∧ True) ∧ True) ∧ ((5 : Nat) ≤ (5 : Nat) ∧ (d.q = d.q ∧ d.t = d.t ∧ d.b = d.b ∧ True) ∧ d.p = d.p ∧ d.g = d.g ∧ True) ∧ True) ∧ (¬d.gon (atI d.b n) = d.q → False ∧ False)) ∧ (¬d.gon
  (atI d.b n) = d.q → d.Ok → (d.gon (atI d.b n) = d.q → False ∧ True ∧ ((5 : Nat) ≤ (5 : Nat) ∧ (d.q = d.q ∧ d.t = d.t ∧ d.b = d.b ∧ True) ∧ (2 : Int) = (2 : Int) ∧ (True ∧ True) ∧ True) ∧ ((5 : Nat) ≤ (5 : Nat) ∧ (d.q =
  d.q ∧ d.t = d.t ∧ d.b = d.b ∧ True) ∧ d.p = d.p ∧ d.g = d.g ∧ True) ∧ True) ∧ (¬d.gon (atI d.b n) = d.q → (True ∧ True ∧ (0 : Nat) = (0 : Nat) ∧ (1 : Nat) = (1 : Nat) ∧ (1 : Nat) = (1 : Nat)) ∧ True ∧ ((5 : Nat) ≤ (5 :
  Nat) ∧ (d.q = d.q ∧ d.t = d.t ∧ d.b = d.b ∧ True) ∧ (2 : Int) = (2 : Int) ∧ (True ∧ True) ∧ True) ∧ ((5 : Nat) ≤ (5 : Nat) ∧ (d.q = d.q ∧ d.t = d.t ∧ d.b = d.b ∧ True) ∧ d.p = d.p ∧ d.g = d.g ∧ True) ∧ ((2 : Nat) ≤ (2 :
  Nat) ∧ (1 : Nat) = (1 : Nat) ∧ ∀ (j : Nat), j < (1 : Nat) → d.b + d.per (atI d.b n) * d.t = d.b + d.per (atI d.b n) * d.t ∧ d.q - d.gon (atI d.b n) = d.q - d.gon (atI d.b n) ∧ True) ∧ True)) := by
  simp only [true_and, and_true, eq_self, Nat.le_refl, implies_true, and_self]
  rintro d n hok
  have ha := atI_in (n := n) hok.b0 hok.b1
  exact ⟨⟨hok, ⟨ha.1, ha.2.2⟩⟩, fun h _ h2 => h2 h, fun h _ h2 => h h2⟩

def sdk_C (_ : (DS × Int)) : Cfg := { Γ := Go.Sx.look tK, names := true, mode := m1, locks := k1 }
theorem sdk_al (x : (DS × Int)) : Shown (sdkP.vc Try.prog (sdk_C x) Try.f14 x) := ⟨@Eq.mp _ _ (by kernel_rfl) (sdk_vc (x.1) (x.2))⟩
theorem sdk_ok : SpOk Try.prog 14 sdkP.sp := @Pat.okS _ sdkP Try.prog sdk_C 14 Try.f14 (fun x => cfg_tab rfl tK_ok) (by kernel_rfl) Try.func14 (fun _ => rfl) sdk_al
theorem skA_ok : SpOk Try.prog 14 (altH isSpo (skP.sp) (sdkP.sp)) := altH_ok sk_ok sdk_ok

end Go.Proofs.Ytokiakcmdbihhaa
