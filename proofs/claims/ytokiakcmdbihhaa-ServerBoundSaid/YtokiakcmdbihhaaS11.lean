import Derived.Test.YtokiakcmdbihhaaS10
open Go Go.Sx Go.Proofs
set_option maxRecDepth 100000
namespace Go.Proofs.Ytokiakcmdbihhaa

theorem cutI_in {a : Int} (h : 0 ≤ a) : 0 ≤ cutI a ∧ cutI a ≤ 4611686018427387904 := by unfold cutI; split <;> omega
theorem lay_InA {t m : Int} (h0 : 0 ≤ t) (h1 : t ≤ 4611686018427387904) {l : Chs} (h : InA l) : InA (layL t m l) := by
  have hi : InA (insL t m l) := fun p hp => by
    rcases insL_mem hp with e | ⟨r, hr, e⟩
    · rw [e]; exact ⟨h0, h1⟩
    · rw [← e]; exact h r hr
  unfold layL trimL
  split
  · obtain ⟨p, x, y, e⟩ := split2 (l := insL t m l) (by omega)
    rw [e, merge2_app]
    rw [e] at hi
    intro r hr
    rcases List.mem_append.1 hr with hr | hr
    · exact hi r (by simp [hr])
    · simp only [List.mem_singleton] at hr
      rw [hr]
      exact hi y (by simp)
  · exact hi
theorem lays_InA : ∀ {k l : Chs}, InA k → InA l → InA (laysL k l)
  | [], l, _, h => h
  | (a, b) :: k, l, hk, h => by
    have ha := hk (a, b) List.mem_cons_self
    exact lays_InA (k := k) (fun p hp => hk p (List.mem_cons_of_mem _ hp)) (lay_InA ha.1 ha.2 h)
theorem take_InA {t : Int} (ht : 0 ≤ t) : ∀ {l : Chs} {left : Int}, InA l → InA (takeL t left l).1 ∧ InA (takeL t left l).2
  | [], left, h => ⟨fun p hp => by simp [takeL] at hp, h⟩
  | (a, b) :: l, left, h => by
    have ha := h (a, b) List.mem_cons_self
    have hl : InA l := fun p hp => h p (List.mem_cons_of_mem _ hp)
    have hc := cutI_in (a := a + t) (by dsimp only at ha; omega)
    simp only [takeL]
    split
    · exact ⟨fun p hp => by simp at hp, h⟩
    · split
      · refine ⟨fun p hp => ?_, fun p hp => ?_⟩
        · simp only [List.mem_singleton] at hp
          rw [hp]; exact hc
        · rcases List.mem_cons.1 hp with rfl | hp
          · exact ha
          · exact hl p hp
      · obtain ⟨g1, g2⟩ := take_InA ht (l := l) (left := left - b) hl
        refine ⟨fun p hp => ?_, g2⟩
        rcases List.mem_cons.1 hp with rfl | hp
        · exact hc
        · exact g1 p hp
/-- What a list of chunks is, that is Q together. -/
structure QL (q : Int) (l : Chs) : Prop where
  inl : InL l
  ia : InA l
  ln : l.length ≤ 8
  tot : totL l = q
theorem QL.one {q : Int} {l : Chs} (h : QL q l) (hq : 1 ≤ q) : 1 ≤ l.length := by
  cases l with
  | nil => have := h.tot; simp only [totL] at this; omega
  | cons x l => simp
theorem QL.wake {q n : Int} {l : Chs} (h : QL q l) (_ : 1 ≤ q) (h0 : 0 ≤ n) (h1 : n ≤ 4611686018427387904) : QL q (wakeL n l) := by
  obtain ⟨g1, g2, g3, g4⟩ := wake_In (now := n) h.inl
  have := h.ln
  exact ⟨g1, wake_InA h0 h1 h.ia, by omega, g2.trans h.tot⟩
theorem QL.charge {q t n c : Int} {l : Chs} (h : QL q l) (hq : 1 ≤ q) (ht : 0 ≤ t) (hc : 0 ≤ c) (h0 : 0 ≤ n) (h1 : n ≤ 4611686018427387904) : QL q (chargeL q t n c l) := by
  have hL : QL q (L1 t n l) := by
    unfold L1; split
    · exact h.wake hq h0 h1
    · exact h
  have hcI : 0 ≤ cI q c ∧ cI q c ≤ q := by unfold cI; split <;> omega
  obtain ⟨g1, g2, g3, g4, g5, g6⟩ := take_In (t := t) (l := L1 t n l) (left := cI q c) hL.inl hcI.1 (by rw [hL.tot]; exact hcI.2)
  have hln := hL.ln
  obtain ⟨k1, k2, k3, k4⟩ := lays_In g3 g1 (by omega)
  obtain ⟨a1, a2⟩ := take_InA ht (l := L1 t n l) (left := cI q c) hL.ia
  rw [charge_def]
  exact ⟨k1, lays_InA a1 a2, k3, by rw [k2, g4, g2, hL.tot]; omega⟩
theorem SS.Ok.ql {s : SS} (h : s.Ok) : QL s.q s.x.L := ⟨h.sm.2.2.1, h.ia, by rw [CR.L_len]; exact h.sm.2.1, h.tot⟩
theorem SS.ok_of {q t b : Int} {y : CR} (hy : y.Ok) (h : QL q y.L) (q0 : 1 ≤ q) (qt : q ≤ t) (t1 : t ≤ 1099511627776) (b0 : 0 ≤ b) (b1 : b ≤ 2305843009213693952) : (⟨q, t, b, y⟩ : SS).Ok := by
  have h1 := h.one q0
  have h2 := h.ln
  rw [CR.L_len] at h1 h2
  exact ⟨⟨hy, h2, h.inl, by rw [h.tot]; omega⟩, h1, h.ia, q0, qt, t1, b0, b1, h.tot⟩
theorem SS.Ok.of {s : SS} (h : s.Ok) {y : CR} (hy : y.Ok) (hL : QL s.q y.L) : (⟨s.q, s.t, s.b, y⟩ : SS).Ok := SS.ok_of hy hL h.q0 h.qt h.t1 h.b0 h.b1
theorem QL.new {q n : Int} (hq : 1 ≤ q) (h0 : 0 ≤ n) (h1 : n ≤ 4611686018427387904) : QL q [(n, q)] :=
  ⟨⟨⟨fun p hp => by simp at hp, trivial⟩, fun p hp => by simp at hp; rw [hp]; exact hq⟩, fun p hp => by simp at hp; rw [hp]; exact ⟨h0, h1⟩, by simp, by simp [totL]⟩
theorem DS.Ok.aft {d : DS} (h : d.Ok) {n c : Int} (hc : 0 ≤ c) : (d.aft n c).Ok := by
  have hg := DS.gon_bd h n
  have : 0 ≤ d.chg n c ∧ d.chg n c ≤ d.q - d.gon n := by unfold DS.chg; split <;> omega
  exact ⟨h.q0, h.qt, h.t1, h.b0, h.b1, by show 0 ≤ d.gon n + d.chg n c; omega, by show d.gon n + d.chg n c ≤ d.q; omega⟩
theorem DS.ok_new {q t n : Int} (q0 : 1 ≤ q) (qt : q ≤ t) (t1 : t ≤ 1099511627776) (b0 : 0 ≤ n) (b1 : n ≤ 2305843009213693952) : (⟨q, t, n, 0, 0⟩ : DS).Ok := ⟨q0, qt, t1, b0, b1, Int.le_refl _, by show (0 : Int) ≤ q; omega⟩
/-! the three questions -/
def q1P : Pat SS where
  view | [.ptr r 0 []], H => some (viewSV r H) | _, _ => none
  args _ := [p0 0]
  H x := x.V
  out x := .retq (.int .u64 x.q)
theorem qq_vc : ∀ (s : SS), True → ∀ (v : Int), v = (0 : Int) → ∀ (v : Int), v = s.q → v = s.q ∧ True ∧ ((5 : Nat) ≤ (5 : Nat) ∧ (s.q = s.q ∧ s.t = s.t ∧ s.b = s.b ∧ True) ∧ (1 : Int) = (1 : Int) ∧ (True ∧ True) ∧ True) ∧ ((4 : Nat) ≤
  (4 : Nat) ∧ (s.q = s.q ∧ s.t = s.t ∧ s.b = s.b ∧ True) ∧ (True ∧ True ∧ s.x.lo = s.x.lo ∧ s.x.len = s.x.len ∧ s.x.cap = s.x.cap) ∧ True) ∧ ((s.x.lo + s.x.cap) * (2 : Nat) ≤ (s.x.lo + s.x.cap) * (2 : Nat) ∧ s.x.N = s.x.N
  ∧ ∀ (j : Nat), j < s.x.N → s.x.a j = s.x.a j ∧ s.x.b j = s.x.b j ∧ True) ∧ True := by
  simp only [and_true, eq_self, Nat.le_refl, implies_true, true_implies, and_self]
  try (rintro s _ rfl v hv; exact hv)

def qq_C (_ : SS) : Cfg := { Γ := Go.Sx.look [], names := true }
theorem qq_al (x : SS) : Shown (q1P.vc Try.prog (qq_C x) Try.f18 x) := ⟨@Eq.mp _ _ (by kernel_rfl) (qq_vc x)⟩
theorem qq_ok : SpOk Try.prog 18 q1P.sp := @Pat.okS _ q1P Try.prog qq_C 18 Try.f18 (fun x => cfg_nil rfl) (by kernel_rfl) Try.func18 (fun _ => rfl) qq_al
def q2P : Pat SS where
  view | [.ptr r 0 []], H => some (viewSV r H) | _, _ => none
  args _ := [p0 0]
  H x := x.V
  out x := .retq (.int .u64 x.t)
theorem qt_vc : ∀ (s : SS), True → ∀ (v : Int), v = (0 : Int) → ∀ (v : Int), v = s.t → v = s.t ∧ True ∧ ((5 : Nat) ≤ (5 : Nat) ∧ (s.q = s.q ∧ s.t = s.t ∧ s.b = s.b ∧ True) ∧ (1 : Int) = (1 : Int) ∧ (True ∧ True) ∧ True) ∧ ((4 : Nat) ≤
  (4 : Nat) ∧ (s.q = s.q ∧ s.t = s.t ∧ s.b = s.b ∧ True) ∧ (True ∧ True ∧ s.x.lo = s.x.lo ∧ s.x.len = s.x.len ∧ s.x.cap = s.x.cap) ∧ True) ∧ ((s.x.lo + s.x.cap) * (2 : Nat) ≤ (s.x.lo + s.x.cap) * (2 : Nat) ∧ s.x.N = s.x.N
  ∧ ∀ (j : Nat), j < s.x.N → s.x.a j = s.x.a j ∧ s.x.b j = s.x.b j ∧ True) ∧ True := by
  simp only [and_true, eq_self, Nat.le_refl, implies_true, true_implies, and_self]
  try (rintro s _ rfl v hv; exact hv)

def qt_C (_ : SS) : Cfg := { Γ := Go.Sx.look [], names := true }
theorem qt_al (x : SS) : Shown (q2P.vc Try.prog (qt_C x) Try.f19 x) := ⟨@Eq.mp _ _ (by kernel_rfl) (qt_vc x)⟩
theorem qt_ok : SpOk Try.prog 19 q2P.sp := @Pat.okS _ q2P Try.prog qt_C 19 Try.f19 (fun x => cfg_nil rfl) (by kernel_rfl) Try.func19 (fun _ => rfl) qt_al
def q3P : Pat SS where
  view | [.ptr r 0 []], H => some (viewSV r H) | _, _ => none
  args _ := [p0 0]
  H x := x.V
  out _ := .retq (.int .i64 1)
theorem qk_vc : ∀ (s : SS), True → ∀ (v : Int), v = (0 : Int) → ∀ (v : Int), v = (1 : Int) → v = (1 : Int) ∧ True ∧ ((5 : Nat) ≤ (5 : Nat) ∧ (s.q = s.q ∧ s.t = s.t ∧ s.b = s.b ∧ True) ∧ (1 : Int) = (1 : Int) ∧ (True ∧ True) ∧ True) ∧
  ((4 : Nat) ≤ (4 : Nat) ∧ (s.q = s.q ∧ s.t = s.t ∧ s.b = s.b ∧ True) ∧ (True ∧ True ∧ s.x.lo = s.x.lo ∧ s.x.len = s.x.len ∧ s.x.cap = s.x.cap) ∧ True) ∧ ((s.x.lo + s.x.cap) * (2 : Nat) ≤ (s.x.lo + s.x.cap) * (2 : Nat) ∧
  s.x.N = s.x.N ∧ ∀ (j : Nat), j < s.x.N → s.x.a j = s.x.a j ∧ s.x.b j = s.x.b j ∧ True) ∧ True := by
  simp only [and_true, eq_self, Nat.le_refl, implies_true, true_implies, and_self]
  try (rintro s _ rfl v hv; exact hv)

def qk_C (_ : SS) : Cfg := { Γ := Go.Sx.look [], names := true }
theorem qk_al (x : SS) : Shown (q3P.vc Try.prog (qk_C x) Try.f20 x) := ⟨@Eq.mp _ _ (by kernel_rfl) (qk_vc x)⟩
theorem qk_ok : SpOk Try.prog 20 q3P.sp := @Pat.okS _ q3P Try.prog qk_C 20 Try.f20 (fun x => cfg_nil rfl) (by kernel_rfl) Try.func20 (fun _ => rfl) qk_al
def n1P : Pat (Int × Int × Int) where
  view | [.int .i64 _, .int .u64 q, .int .u64 t, .int .u64 n], _ => some (q, t, n) | _, _ => none
  args x := [.int .i64 1, .int .u64 x.1, .int .u64 x.2.1, .int .u64 x.2.2]
  H _ := []
  out x := .need (rngI x.1 x.2.1 x.2.2) (.any (fun y : CR => y.Ok ∧ y.L = [(x.2.2, x.1)]) fun y => .ret (.tup (.cons (p0 0) (.cons (.int .i64 0) .nil))) (⟨x.1, x.2.1, x.2.2, y⟩ : SS).V)
theorem n1_vc : ∀ (q t n : Int), rngI q t n ∧ True → ∀ (v : Int), v = (0 : Int) → (((1 : Int) == (1 : Int)) = true → (decide (q < (1 : Int)) = true → ∀ (v : Int), v = (11 : Int) → rngI q t n → ∃ (x : CR), (x.Ok ∧ x.L = [(n, q)]) ∧
  (False ∧ v = (0 : Int) ∧ True) ∧ False) ∧ (decide (q < (1 : Int)) = false → (decide (q > t) = true → ∀ (v : Int), v = (11 : Int) → rngI q t n → ∃ (x : CR), (x.Ok ∧ x.L = [(n, q)]) ∧ (False ∧ v = (0 : Int) ∧ True) ∧
  False) ∧ (decide (q > t) = false → (decide (t > (1099511627776 : Int)) = true → ∀ (v : Int), v = (11 : Int) → rngI q t n → ∃ (x : CR), (x.Ok ∧ x.L = [(n, q)]) ∧ (False ∧ v = (0 : Int) ∧ True) ∧ False) ∧ (decide (t >
  (1099511627776 : Int)) = false → (decide (n > (2305843009213693952 : Int)) = true → ∀ (v : Int), v = (11 : Int) → rngI q t n → ∃ (x : CR), (x.Ok ∧ x.L = [(n, q)]) ∧ (False ∧ v = (0 : Int) ∧ True) ∧ False) ∧ (decide (n >
  (2305843009213693952 : Int)) = false → ∀ (v : Int), v = (0 : Int) → rngI q t n → ∃ (x : CR), (x.Ok ∧ x.L = [(n, q)]) ∧ ((True ∧ True) ∧ v = (0 : Int) ∧ True) ∧ True ∧ ((5 : Nat) ≤ (5 : Nat) ∧ (q = q ∧ t = t ∧ n = n ∧
  True) ∧ (1 : Int) = (1 : Int) ∧ (True ∧ True) ∧ True) ∧ ((4 : Nat) ≤ (4 : Nat) ∧ (q = q ∧ t = t ∧ n = n ∧ True) ∧ (True ∧ True ∧ (0 : Nat) = x.lo ∧ (1 : Nat) = x.len ∧ (1 : Nat) = x.cap) ∧ True) ∧ ((x.lo + x.cap) * (2 :
  Nat) ≤ (2 : Nat) ∧ x.N = (1 : Nat) ∧ ∀ (j : Nat), j < (1 : Nat) → n = x.a j ∧ q = x.b j ∧ True) ∧ True))))) ∧ (((1 : Int) == (1 : Int)) = false → (((1 : Int) == (2 : Int)) = true → (decide (q < (1 : Int)) = true → ∀ (v :
  Int), v = (11 : Int) → rngI q t n → ∃ (x : CR), (x.Ok ∧ x.L = [(n, q)]) ∧ (False ∧ v = (0 : Int) ∧ True) ∧ False) ∧ (decide (q < (1 : Int)) = false → (decide (q > t) = true → ∀ (v : Int), v = (11 : Int) → rngI q t n → ∃
  (x : CR), (x.Ok ∧ x.L = [(n, q)]) ∧ (False ∧ v = (0 : Int) ∧ True) ∧ False) ∧ (decide (q > t) = false → (decide (t > (1099511627776 : Int)) = true → ∀ (v : Int), v = (11 : Int) → rngI q t n → ∃ (x : CR), (x.Ok ∧ x.L =
  [(n, q)]) ∧ (False ∧ v = (0 : Int) ∧ True) ∧ False) ∧ (decide (t > (1099511627776 : Int)) = false → (decide (n > (2305843009213693952 : Int)) = true → ∀ (v : Int), v = (11 : Int) → rngI q t n → ∃ (x : CR), (x.Ok ∧ x.L =
  [(n, q)]) ∧ (False ∧ v = (0 : Int) ∧ True) ∧ False) ∧ (decide (n > (2305843009213693952 : Int)) = false → ∀ (v : Int), v = (0 : Int) → rngI q t n → ∃ (x : CR), (x.Ok ∧ x.L = [(n, q)]) ∧ ((True ∧ True) ∧ v = (0 : Int) ∧
  True) ∧ False))))) ∧ (((1 : Int) == (2 : Int)) = false → ∀ (v : Int), v = (10 : Int) → rngI q t n → ∃ (x : CR), (x.Ok ∧ x.L = [(n, q)]) ∧ (False ∧ v = (0 : Int) ∧ True) ∧ False)) := by
  simp only [true_and, and_true, eq_self, Nat.le_refl, decide_eq_true_eq, decide_eq_false_iff_not, beq_iff_eq, beq_eq_false_iff_ne, true_implies, and_self, Int.not_lt, gt_iff_lt, ne_eq]
  rintro q t n ⟨h1, h2, h3, h4⟩ v hv
  refine ⟨⟨fun h => by omega, fun _ => ⟨fun h => by omega, fun _ => ⟨fun h => by omega, fun _ => ⟨fun h => by omega, fun _ v2 hv2 _ => ?_⟩⟩⟩⟩, fun h => absurd trivial h⟩
  exact ⟨⟨0, 1, 1, 1, fun _ => n, fun _ => q⟩, ⟨⟨Nat.le_refl _, Nat.le_refl _⟩, rfl⟩, hv2, ⟨rfl, rfl, rfl⟩, Nat.le_refl _, rfl, fun j _ => ⟨rfl, rfl⟩⟩

def n1_C (_ : (Int × Int × Int)) : Cfg := { Γ := Go.Sx.look [], names := true }
theorem n1_al (x : (Int × Int × Int)) : Shown (n1P.vc Try.prog (n1_C x) Try.f9 x) := ⟨@Eq.mp _ _ (by kernel_rfl) (n1_vc (x.1) (x.2.1) (x.2.2))⟩
theorem n1_ok : SpOk Try.prog 9 n1P.sp := @Pat.okS _ n1P Try.prog n1_C 9 Try.f9 (fun x => cfg_nil rfl) (by kernel_rfl) Try.func9 (fun _ => rfl) n1_al
def n2P : Pat (Int × Int × Int) where
  view | [.int .i64 _, .int .u64 q, .int .u64 t, .int .u64 n], _ => some (q, t, n) | _, _ => none
  args x := [.int .i64 2, .int .u64 x.1, .int .u64 x.2.1, .int .u64 x.2.2]
  H _ := []
  out x := .need (rngI x.1 x.2.1 x.2.2) (.ret (.tup (.cons (p0 0) (.cons (.int .i64 0) .nil))) (⟨x.1, x.2.1, x.2.2, 0, 0⟩ : DS).V)
theorem n2_vc : ∀ (q t n : Int), rngI q t n ∧ True → ∀ (v : Int), v = (0 : Int) → (((2 : Int) == (1 : Int)) = true → (decide (q < (1 : Int)) = true → ∀ (v : Int), v = (11 : Int) → rngI q t n → (False ∧ v = (0 : Int) ∧ True) ∧ False) ∧
  (decide (q < (1 : Int)) = false → (decide (q > t) = true → ∀ (v : Int), v = (11 : Int) → rngI q t n → (False ∧ v = (0 : Int) ∧ True) ∧ False) ∧ (decide (q > t) = false → (decide (t > (1099511627776 : Int)) = true → ∀ (v
  : Int), v = (11 : Int) → rngI q t n → (False ∧ v = (0 : Int) ∧ True) ∧ False) ∧ (decide (t > (1099511627776 : Int)) = false → (decide (n > (2305843009213693952 : Int)) = true → ∀ (v : Int), v = (11 : Int) → rngI q t n →
  (False ∧ v = (0 : Int) ∧ True) ∧ False) ∧ (decide (n > (2305843009213693952 : Int)) = false → ∀ (v : Int), v = (0 : Int) → rngI q t n → ((True ∧ True) ∧ v = (0 : Int) ∧ True) ∧ True ∧ ((5 : Nat) ≤ (5 : Nat) ∧ (q = q ∧ t
  = t ∧ n = n ∧ True) ∧ (2 : Int) = (2 : Int) ∧ False ∧ True) ∧ False ∧ True))))) ∧ (((2 : Int) == (1 : Int)) = false → (((2 : Int) == (2 : Int)) = true → (decide (q < (1 : Int)) = true → ∀ (v : Int), v = (11 : Int) → rngI
  q t n → (False ∧ v = (0 : Int) ∧ True) ∧ False) ∧ (decide (q < (1 : Int)) = false → (decide (q > t) = true → ∀ (v : Int), v = (11 : Int) → rngI q t n → (False ∧ v = (0 : Int) ∧ True) ∧ False) ∧ (decide (q > t) = false →
  (decide (t > (1099511627776 : Int)) = true → ∀ (v : Int), v = (11 : Int) → rngI q t n → (False ∧ v = (0 : Int) ∧ True) ∧ False) ∧ (decide (t > (1099511627776 : Int)) = false → (decide (n > (2305843009213693952 : Int)) =
  true → ∀ (v : Int), v = (11 : Int) → rngI q t n → (False ∧ v = (0 : Int) ∧ True) ∧ False) ∧ (decide (n > (2305843009213693952 : Int)) = false → ∀ (v : Int), v = (0 : Int) → rngI q t n → ((True ∧ True) ∧ v = (0 : Int) ∧
  True) ∧ True ∧ ((5 : Nat) ≤ (5 : Nat) ∧ (q = q ∧ t = t ∧ n = n ∧ True) ∧ (2 : Int) = (2 : Int) ∧ (True ∧ True) ∧ True) ∧ ((5 : Nat) ≤ (5 : Nat) ∧ (q = q ∧ t = t ∧ n = n ∧ True) ∧ (0 : Int) = (0 : Int) ∧ (0 : Int) = (0 :
  Int) ∧ True) ∧ True))))) ∧ (((2 : Int) == (2 : Int)) = false → ∀ (v : Int), v = (10 : Int) → rngI q t n → (False ∧ v = (0 : Int) ∧ True) ∧ False)) := by
  simp only [true_and, and_true, eq_self, Nat.le_refl, decide_eq_true_eq, decide_eq_false_iff_not, beq_iff_eq, beq_eq_false_iff_ne, true_implies, and_self, Int.not_lt, gt_iff_lt, ne_eq]
  rintro q t n ⟨h1, h2, h3, h4⟩ v hv
  refine ⟨fun h => absurd h (by decide), fun _ => ⟨⟨fun h => by omega, fun _ => ⟨fun h => by omega, fun _ => ⟨fun h => by omega, fun _ => ⟨fun h => by omega, fun _ v2 hv2 _ => ?_⟩⟩⟩⟩, fun h => absurd trivial h⟩⟩
  exact hv2

def n2_C (_ : (Int × Int × Int)) : Cfg := { Γ := Go.Sx.look [], names := true }
theorem n2_al (x : (Int × Int × Int)) : Shown (n2P.vc Try.prog (n2_C x) Try.f9 x) := ⟨@Eq.mp _ _ (by kernel_rfl) (n2_vc (x.1) (x.2.1) (x.2.2))⟩
theorem n2_ok : SpOk Try.prog 9 n2P.sp := @Pat.okS _ n2P Try.prog n2_C 9 Try.f9 (fun x => cfg_nil rfl) (by kernel_rfl) Try.func9 (fun _ => rfl) n2_al
def isK1 (args : List T) (_ : List Reg) : Bool := match args with
  | .int _ k :: _ => Int.decEq k 1 |>.decide
  | _ => false
theorem nA_ok : SpOk Try.prog 9 (altH isK1 (n1P.sp) (n2P.sp)) := altH_ok n1_ok n2_ok

end Go.Proofs.Ytokiakcmdbihhaa
