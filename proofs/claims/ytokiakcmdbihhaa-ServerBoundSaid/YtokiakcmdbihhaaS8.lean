import Derived.Test.YtokiakcmdbihhaaS7
open Go Go.Sx Go.Proofs
set_option maxRecDepth 100000
namespace Go.Proofs.Ytokiakcmdbihhaa

/-- A deferrable server. -/
structure DS where
  q : Int
  t : Int
  b : Int
  p : Int
  g : Int
def dReg (d : DS) : Reg := newReg 59 (.cons (frT d.q d.t d.b) (.cons (.int .u64 d.p) (.cons (.int .u64 d.g) .nil)))
def DS.H (d : DS) : List Reg := [dReg d]
def viewD (r : Nat) (H : List Reg) : DS :=
  let c := regC H r
  ⟨tInt (tAt (tAt c 0) 0), tInt (tAt (tAt c 0) 1), tInt (tAt (tAt c 0) 2), tInt (tAt c 1), tInt (tAt c 2)⟩
structure DS.Ok (d : DS) : Prop where
  q0 : 1 ≤ d.q
  qt : d.q ≤ d.t
  t1 : d.t ≤ 1099511627776
  b0 : 0 ≤ d.b
  b1 : d.b ≤ 2305843009213693952
  g0 : 0 ≤ d.g
  g1 : d.g ≤ d.q
def DS.per (d : DS) (n : Int) : Int := (n - d.b) / d.t
def DS.gon (d : DS) (n : Int) : Int := if d.per n = d.p then d.g else 0
def inR (b n : Int) : Prop := b ≤ n ∧ n ≤ 4611686018427387904
def DS.chg (d : DS) (n c : Int) : Int := if d.q - d.gon n < c then d.q - d.gon n else c
def DS.aft (d : DS) (n c : Int) : DS := { d with p := d.per n, g := d.gon n + d.chg n c }
def DS.due (d : DS) (n : Int) : Int := cutI (d.b + (d.per n + 1) * d.t)
theorem DS.gon_bd {d : DS} (h : d.Ok) (n : Int) : 0 ≤ d.gon n ∧ d.gon n ≤ d.q := by
  have := h.g0; have := h.g1; have := h.q0
  unfold DS.gon; split <;> omega
theorem DS.per_bd {d : DS} (h : d.Ok) {n : Int} (hn : inR d.b n) : 0 ≤ d.per n ∧ d.per n ≤ 4611686018427387904 ∧ d.per n * d.t ≤ n - d.b ∧ n - d.b < (d.per n + 1) * d.t := by
  have h1 := h.q0; have h2 := h.qt; have h3 := h.b0
  obtain ⟨n1, n2⟩ := hn
  unfold DS.per
  have e := Int.mul_ediv_add_emod (n - d.b) d.t
  have e1 := Int.emod_nonneg (n - d.b) (show d.t ≠ 0 by omega)
  have e2 := Int.emod_lt_of_pos (n - d.b) (show 0 < d.t by omega)
  have e3 : 0 ≤ (n - d.b) / d.t := Int.ediv_nonneg (by omega) (by omega)
  have e4 : (n - d.b) / d.t ≤ n - d.b := Int.ediv_le_self _ (by omega)
  rw [Int.mul_comm] at e
  rw [Int.add_mul]
  refine ⟨e3, by omega, by omega, by omega⟩
def inP : Pat (DS × Int) where
  view | [.ptr r 0 [], .int .u64 n], H => some (viewD r H, n) | _, _ => none
  args x := [p0 0, .int .u64 x.2]
  H x := x.1.H
  out x := .need (x.1.Ok ∧ inR x.1.b x.2) (.retq (.tup (.cons (.int .u64 (x.1.per x.2)) (.cons (.int .u64 (x.1.gon x.2)) .nil))))
theorem in__vc : ∀ (d : DS) (n : Int), (d.Ok ∧ inR d.b n) ∧ True → ∀ (v : Int), v = (0 : Int) → ∀ (v : Int), v = (0 : Int) → d.t ≠ (0 : Int) ∧ ∀ (v_1 : Int), v_1 = IntKind.u64.wrap ((IntKind.u64.wrap (n - d.b)).tdiv d.t) → ((v_1 == d.p)
  = true → ∀ (v : Int), v = d.g → ∀ (v_2 : Int), v_2 = v_1 → ∀ (v_3 : Int), v_3 = v → d.Ok ∧ inR d.b n → (v_2 = d.per n ∧ v_3 = d.gon n ∧ True) ∧ True ∧ ((5 : Nat) ≤ (5 : Nat) ∧ (d.q = d.q ∧ d.t = d.t ∧ d.b = d.b ∧ True) ∧
  d.p = d.p ∧ d.g = d.g ∧ True) ∧ True) ∧ ((v_1 == d.p) = false → ∀ (v_2 : Int), v_2 = v_1 → ∀ (v_3 : Int), v_3 = v → d.Ok ∧ inR d.b n → (v_2 = d.per n ∧ v_3 = d.gon n ∧ True) ∧ True ∧ ((5 : Nat) ≤ (5 : Nat) ∧ (d.q = d.q ∧
  d.t = d.t ∧ d.b = d.b ∧ True) ∧ d.p = d.p ∧ d.g = d.g ∧ True) ∧ True) := by
  simp only [and_true, eq_self, Nat.le_refl, beq_iff_eq, beq_eq_false_iff_ne, and_self, ne_eq, IntKind.wrap_u64]
  rintro d n ⟨hok, h1, h2⟩ _ rfl _ rfl
  have q0 := hok.q0
  have qt := hok.qt
  have b0 := hok.b0
  have e1 : (n - d.b) % 18446744073709551616 = n - d.b := by omega
  have e2 : (n - d.b).tdiv d.t = d.per n := Int.tdiv_eq_ediv_of_nonneg (by omega)
  obtain ⟨p1, p2, p3, p4⟩ := DS.per_bd hok ⟨h1, h2⟩
  have e3 : d.per n % 18446744073709551616 = d.per n := by omega
  simp only [e1, e2, e3]
  unfold DS.gon
  refine ⟨by omega, fun v hv => ?_⟩
  subst hv
  try dsimp only
  repeat' (with_reducible first | assumption | apply And.intro | intro _)
  all_goals (try simp only [cond_dec, decide_eq_decide] at *)
  all_goals (first | omega | ((repeat' (first | omega | split)) <;> (try dsimp only) <;> (try (first | omega | contradiction | (subst_vars; first | rfl | omega) | (simp_all; done) | (simp_all; omega)))))

def in__C (_ : (DS × Int)) : Cfg := { Γ := Go.Sx.look [], names := true }
theorem in__al (x : (DS × Int)) : Shown (inP.vc Try.prog (in__C x) Try.f58 x) := ⟨@Eq.mp _ _ (by kernel_rfl) (in__vc (x.1) (x.2))⟩
theorem in__ok : SpOk Try.prog 58 inP.sp := @Pat.okS _ inP Try.prog in__C 58 Try.f58 (fun x => cfg_nil rfl) (by kernel_rfl) Try.func58 (fun _ => rfl) in__al
def tIn : Tab := [(58, inP.sp), (22, cutP.sp)]
theorem tIn_ok : TabOk Try.prog tIn := (tab_cons in__ok (tab_cons cut_ok tab_nil))

def dwP : Pat (DS × Int) where
  view | [.ptr r 0 [], .int .u64 n], H => some (viewD r H, n) | _, _ => none
  args x := [p0 0, .int .u64 x.2]
  H x := x.1.H
  out _ := .retq (.tup .nil)
theorem dw_vc : ∀ (d : DS) (_ : Int), True → True ∧ True ∧ ((5 : Nat) ≤ (5 : Nat) ∧ (d.q = d.q ∧ d.t = d.t ∧ d.b = d.b ∧ True) ∧ d.p = d.p ∧ d.g = d.g ∧ True) ∧ True := by
  simp only [eq_self, Nat.le_refl, implies_true, and_self]
  try (intro d n; trivial)

def dw_C (_ : (DS × Int)) : Cfg := { Γ := Go.Sx.look [], names := true }
theorem dw_al (x : (DS × Int)) : Shown (dwP.vc Try.prog (dw_C x) Try.f57 x) := ⟨@Eq.mp _ _ (by kernel_rfl) (dw_vc (x.1) (x.2))⟩
theorem dw_ok : SpOk Try.prog 57 dwP.sp := @Pat.okS _ dwP Try.prog dw_C 57 Try.f57 (fun x => cfg_nil rfl) (by kernel_rfl) Try.func57 (fun _ => rfl) dw_al
def ddP : Pat (DS × Int) where
  view | [.ptr r 0 [], .int .u64 n], H => some (viewD r H, n) | _, _ => none
  args x := [p0 0, .int .u64 x.2]
  H x := x.1.H
  out x := .need (x.1.Ok ∧ inR x.1.b x.2) (.retq (.int .u64 (x.1.due x.2)))
theorem dd_vc : ∀ (d : DS) (n : Int), (d.Ok ∧ inR d.b n) ∧ True → ∀ (v : Int), v = (0 : Int) → (((True ∧ True) ∧ n = n ∧ True) ∧ ((5 : Nat) ≤ (5 : Nat) ∧ (d.q = d.q ∧ d.t = d.t ∧ d.b = d.b ∧ True) ∧ d.p = d.p ∧ d.g = d.g ∧ True) ∧ True)
  ∧ (d.Ok ∧ inR d.b n) ∧ ∀ (v : Int), v = d.per n → ∀ (v_1 : Int), v_1 = d.gon n → ((IntKind.u64.wrap (d.b + IntKind.u64.wrap (IntKind.u64.wrap (v + (1 : Int)) * d.t)) = IntKind.u64.wrap (d.b + IntKind.u64.wrap
  (IntKind.u64.wrap (v + (1 : Int)) * d.t)) ∧ True) ∧ True) ∧ ∀ (v_2 : Int), v_2 = cutI (IntKind.u64.wrap (d.b + IntKind.u64.wrap (IntKind.u64.wrap (v + (1 : Int)) * d.t))) → d.Ok ∧ inR d.b n → v_2 = d.due n ∧ True ∧ ((5 :
  Nat) ≤ (5 : Nat) ∧ (d.q = d.q ∧ d.t = d.t ∧ d.b = d.b ∧ True) ∧ d.p = d.p ∧ d.g = d.g ∧ True) ∧ True := by
  simp only [true_and, and_true, eq_self, Nat.le_refl, and_self, IntKind.wrap_u64]
  rintro d n ⟨hok, hn⟩ _ rfl
  obtain ⟨p1, p2, p3, p4⟩ := DS.per_bd hok hn
  have qt := hok.qt
  have t1 := hok.t1
  have b0 := hok.b0
  have b1 := hok.b1
  have hn2 := hn.2
  have e1 : (d.per n + 1) % 18446744073709551616 = d.per n + 1 := by omega
  have e2 : (d.per n + 1) * d.t = d.per n * d.t + d.t := by rw [Int.add_mul, Int.one_mul]
  refine ⟨⟨hok, hn⟩, fun v hv v1 _ v2 hv2 _ => ?_⟩
  subst hv
  rw [hv2, e1]
  unfold DS.due
  rw [e2]
  have q0 := hok.q0
  have hz := Int.mul_nonneg p1 (show 0 ≤ d.t by omega)
  generalize d.per n * d.t = z at *
  have e3 : (d.b + (z + d.t) % 18446744073709551616) % 18446744073709551616 = d.b + (z + d.t) := by omega
  rw [e3]

def dd_C (_ : (DS × Int)) : Cfg := { Γ := Go.Sx.look tIn, names := true }
theorem dd_al (x : (DS × Int)) : Shown (ddP.vc Try.prog (dd_C x) Try.f56 x) := ⟨@Eq.mp _ _ (by kernel_rfl) (dd_vc (x.1) (x.2))⟩
theorem dd_ok : SpOk Try.prog 56 ddP.sp := @Pat.okS _ ddP Try.prog dd_C 56 Try.f56 (fun x => cfg_tab rfl tIn_ok) (by kernel_rfl) Try.func56 (fun _ => rfl) dd_al
def dcP : Pat (DS × Int × Int) where
  view | [.ptr r 0 [], .int .u64 n, .int .u64 c], H => some (viewD r H, n, c) | _, _ => none
  args x := [p0 0, .int .u64 x.2.1, .int .u64 x.2.2]
  H x := x.1.H
  out x := .need (x.1.Ok ∧ inR x.1.b x.2.1 ∧ 0 ≤ x.2.2) (.ret (.int .u64 (x.1.chg x.2.1 x.2.2)) (x.1.aft x.2.1 x.2.2).H)
theorem dc_vc : ∀ (d : DS) (n c : Int), (d.Ok ∧ inR d.b n ∧ (0 : Int) ≤ c) ∧ True → ∀ (v : Int), v = (0 : Int) → (((True ∧ True) ∧ n = n ∧ True) ∧ ((5 : Nat) ≤ (5 : Nat) ∧ (d.q = d.q ∧ d.t = d.t ∧ d.b = d.b ∧ True) ∧ d.p = d.p ∧ d.g =
  d.g ∧ True) ∧ True) ∧ (d.Ok ∧ inR d.b n) ∧ ∀ (v : Int), (v = if IntKind.u64.wrap (d.q - d.gon n) < c then IntKind.u64.wrap (d.q - d.gon n) else c) → ∀ (v_1 : Int), v_1 = v → d.Ok ∧ inR d.b n ∧ (0 : Int) ≤ c → v_1 = d.chg
  n c ∧ True ∧ ((5 : Nat) ≤ (5 : Nat) ∧ (d.q = (d.aft n c).q ∧ d.t = (d.aft n c).t ∧ d.b = (d.aft n c).b ∧ True) ∧ d.per n = (d.aft n c).p ∧ IntKind.u64.wrap (d.gon n + v) = (d.aft n c).g ∧ True) ∧ True := by
  simp only [true_and, and_true, eq_self, Nat.le_refl, and_self, IntKind.wrap_u64]
  rintro d n c ⟨hok, hn, hc⟩ _ rfl
  obtain ⟨g1, g2⟩ := DS.gon_bd hok n
  have q1 := hok.qt
  have t1 := hok.t1
  have e1 : (d.q - d.gon n) % 18446744073709551616 = d.q - d.gon n := by omega
  simp only [e1]
  have e2 : 0 ≤ d.chg n c ∧ d.chg n c ≤ d.q := by unfold DS.chg; split <;> omega
  have e3 : (d.gon n + d.chg n c) % 18446744073709551616 = d.gon n + d.chg n c := by omega
  refine ⟨⟨hok, hn⟩, fun v hv v2 hv2 _ => ?_⟩
  have hv : v = d.chg n c := hv
  subst hv
  rw [e3]
  exact ⟨hv2, ⟨rfl, rfl, rfl⟩, rfl, rfl⟩

def dc_C (_ : (DS × Int × Int)) : Cfg := { Γ := Go.Sx.look tIn, names := true }
theorem dc_al (x : (DS × Int × Int)) : Shown (dcP.vc Try.prog (dc_C x) Try.f54 x) := ⟨@Eq.mp _ _ (by kernel_rfl) (dc_vc (x.1) (x.2.1) (x.2.2))⟩
theorem dc_ok : SpOk Try.prog 54 dcP.sp := @Pat.okS _ dcP Try.prog dc_C 54 Try.f54 (fun x => cfg_tab rfl tIn_ok) (by kernel_rfl) Try.func54 (fun _ => rfl) dc_al
def dRow (a b : Int) : Reg := rowReg 40 1 2 1 (fun _ => chT a b)
def dkP : Pat (DS × Int) where
  view | [.ptr r 0 [], .int .u64 n], H => some (viewD r H, n) | _, _ => none
  args x := [p0 0, .int .u64 x.2]
  H x := x.1.H
  out x := .need (x.1.Ok ∧ inR x.1.b x.2) (.br (x.1.gon x.2 = x.1.q) (.retq .nils) (.ret (.slice 1 0 [] 0 2 1 1) (x.1.H ++ [dRow (x.1.b + x.1.per x.2 * x.1.t) (x.1.q - x.1.gon x.2)])))
theorem dk_vc : ∀ (d : DS) (n : Int), (d.Ok ∧ inR d.b n) ∧ True → (((True ∧ True) ∧ n = n ∧ True) ∧ ((5 : Nat) ≤ (5 : Nat) ∧ (d.q = d.q ∧ d.t = d.t ∧ d.b = d.b ∧ True) ∧ d.p = d.p ∧ d.g = d.g ∧ True) ∧ True) ∧ (d.Ok ∧ inR d.b n) ∧ ∀ (v
  : Int), v = d.per n → ∀ (v_1 : Int), v_1 = d.gon n → ((v_1 == d.q) = true → d.Ok ∧ inR d.b n → (d.gon n = d.q → True ∧ True ∧ ((5 : Nat) ≤ (5 : Nat) ∧ (d.q = d.q ∧ d.t = d.t ∧ d.b = d.b ∧ True) ∧ d.p = d.p ∧ d.g = d.g ∧
  True) ∧ True) ∧ (¬d.gon n = d.q → False ∧ False)) ∧ ((v_1 == d.q) = false → d.Ok ∧ inR d.b n → (d.gon n = d.q → False ∧ True ∧ ((5 : Nat) ≤ (5 : Nat) ∧ (d.q = d.q ∧ d.t = d.t ∧ d.b = d.b ∧ True) ∧ d.p = d.p ∧ d.g = d.g ∧
  True) ∧ True) ∧ (¬d.gon n = d.q → (True ∧ True ∧ (0 : Nat) = (0 : Nat) ∧ (1 : Nat) = (1 : Nat) ∧ (1 : Nat) = (1 : Nat)) ∧ True ∧ ((5 : Nat) ≤ (5 : Nat) ∧ (d.q = d.q ∧ d.t = d.t ∧ d.b = d.b ∧ True) ∧ d.p = d.p ∧ d.g = d.g
  ∧ True) ∧ ((2 : Nat) ≤ (2 : Nat) ∧ (1 : Nat) = (1 : Nat) ∧ ∀ (j : Nat), j < (1 : Nat) → IntKind.u64.wrap (d.b + IntKind.u64.wrap (v * d.t)) = d.b + d.per n * d.t ∧ IntKind.u64.wrap (d.q - v_1) = d.q - d.gon n ∧ True) ∧
  True)) := by
  simp only [true_and, and_true, eq_self, Nat.le_refl, beq_iff_eq, beq_eq_false_iff_ne, implies_true, and_self, ne_eq, IntKind.wrap_u64]
  rintro d n ⟨hok, hn⟩
  obtain ⟨g1, g2⟩ := DS.gon_bd hok n
  obtain ⟨p1, p2, p3, p4⟩ := DS.per_bd hok hn
  have q1 := hok.qt
  have t1 := hok.t1
  have b0 := hok.b0
  have b1 := hok.b1
  have hn2 := hn.2
  have e1 : (d.q - d.gon n) % 18446744073709551616 = d.q - d.gon n := by omega
  have q0 := hok.q0
  have hz := Int.mul_nonneg p1 (show 0 ≤ d.t by omega)
  have e3 : (d.b + d.per n * d.t % 18446744073709551616) % 18446744073709551616 = d.b + d.per n * d.t := by
    generalize d.per n * d.t = z at *
    omega
  refine ⟨⟨hok, hn⟩, fun v hv v1 hv1 => ?_⟩
  subst hv
  subst hv1
  rw [e1, e3]
  exact ⟨fun h _ h2 => h2 h, fun h _ => ⟨h, fun _ j _ => ⟨rfl, rfl⟩⟩⟩

def dk_C (_ : (DS × Int)) : Cfg := { Γ := Go.Sx.look tIn, names := true }
theorem dk_al (x : (DS × Int)) : Shown (dkP.vc Try.prog (dk_C x) Try.f55 x) := ⟨@Eq.mp _ _ (by kernel_rfl) (dk_vc (x.1) (x.2))⟩
theorem dk_ok : SpOk Try.prog 55 dkP.sp := @Pat.okS _ dkP Try.prog dk_C 55 Try.f55 (fun x => cfg_tab rfl tIn_ok) (by kernel_rfl) Try.func55 (fun _ => rfl) dk_al
end Go.Proofs.Ytokiakcmdbihhaa
