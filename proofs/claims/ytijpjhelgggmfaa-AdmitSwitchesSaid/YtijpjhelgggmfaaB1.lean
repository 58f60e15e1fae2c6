import Derived.Test.YtijpjhelgggmfaaA6
open Go Go.Sx Go.Proofs
set_option maxRecDepth 100000
namespace Go.Proofs.Ytijpjhelgggmfaa

def ro (e n sz : Nat) (f : Nat → T) : Reg := { own := false, pl := true, fam := 1, el := e, tot := fun _ => 0, c := fun _ => .arr n sz f }
def ldT (k q t : Int) : T := .cons (.int .i64 k) (.cons (.int .u64 q) (.cons (.int .u64 t) .nil))
/-- Loads. -/
structure LL where
  n : Nat
  k : Nat → Int
  q : Nat → Int
  t : Nat → Int
/-- Loads, as they lie in memory. -/
structure LS where
  nil : Bool
  lo : Nat
  len : Nat
  cap : Nat
  n : Nat
  k : Nat → Int
  q : Nat → Int
  t : Nat → Int
def LS.reg (x : LS) : Reg := ro 40 x.n 3 (fun j => ldT (x.k j) (x.q j) (x.t j))
def LS.v (x : LS) (r : Nat) : T := .ite x.nil .nils (.slice r 0 [] x.lo 3 x.len x.cap)
def LS.l (x : LS) : LL := ⟨x.len, fun j => x.k (x.lo + j), fun j => x.q (x.lo + j), fun j => x.t (x.lo + j)⟩
def LS.Ok (x : LS) : Prop := (x.nil = true → x.len = 0) ∧ x.lo + x.len ≤ x.n
def viewL (t : T) (H : List Reg) : LS :=
  let a := regC H (tRef t)
  ⟨tNil t, tLo t, tLen t, tCap t, tLen a, fun j => tInt (tAt (tArr a j) 0), fun j => tInt (tAt (tArr a j) 1), fun j => tInt (tAt (tArr a j) 2)⟩
def rightE (k q t : Int) : Prop := (k = 1 ∨ k = 2) ∧ 1 ≤ q ∧ q ≤ t ∧ t ≤ 8192
instance (k q t : Int) : Decidable (rightE k q t) := by unfold rightE; infer_instance
def LL.right (l : LL) : Prop := l.n ≤ 8 ∧ ∀ j, j < l.n → rightE (l.k j) (l.q j) (l.t j)
instance (l : LL) : Decidable l.right := by unfold LL.right; infer_instance
def rightP : Pat (Int × Int × Int) where
  view | [.cons (.int .i64 k) (.cons (.int .u64 q) (.cons (.int .u64 t) .nil))], _ => some (k, q, t) | _, _ => none
  args x := [ldT x.1 x.2.1 x.2.2]
  H _ := []
  out x := .retq (.bool (decide (rightE x.1 x.2.1 x.2.2)))
theorem right_vc : ∀ (k q t : Int), True → ((k == (1 : Int)) = true → (decide (q ≥ (1 : Int)) = true → (decide (q ≤ t) = true → decide (t ≤ (8192 : Int)) = decide (rightE k q t) ∧ True ∧ True) ∧ (decide (q ≤ t) = false → decide (rightE k q
  t) = false ∧ True ∧ True)) ∧ (decide (q ≥ (1 : Int)) = false → decide (rightE k q t) = false ∧ True ∧ True)) ∧ ((k == (1 : Int)) = false → ((k == (2 : Int)) = true → (decide (q ≥ (1 : Int)) = true → (decide (q ≤ t) =
  true → decide (t ≤ (8192 : Int)) = decide (rightE k q t) ∧ True ∧ True) ∧ (decide (q ≤ t) = false → decide (rightE k q t) = false ∧ True ∧ True)) ∧ (decide (q ≥ (1 : Int)) = false → decide (rightE k q t) = false ∧ True ∧
  True)) ∧ ((k == (2 : Int)) = false → decide (rightE k q t) = false ∧ True ∧ True)) := by
  simp only [and_true, decide_eq_true_eq, decide_eq_false_iff_not, beq_iff_eq, beq_eq_false_iff_ne, true_implies, and_self, Int.not_le, ge_iff_le, ne_eq]
  intro k q t
  unfold rightE
  try dsimp only
  repeat' (with_reducible first | assumption | apply And.intro | intro _)
  all_goals (try simp only [cond_dec, decide_eq_decide] at *)
  all_goals (first | omega | ((repeat' (first | omega | split)) <;> (try dsimp only) <;> (try (first | omega | contradiction | (subst_vars; first | rfl | omega) | (simp_all; done) | (simp_all; omega)))))

def right_C (_ : (Int × Int × Int)) : Cfg := { Γ := Go.Sx.look [], names := true }
theorem right_al (x : (Int × Int × Int)) : Shown (rightP.vc Try.prog (right_C x) Try.f28 x) := ⟨@Eq.mp _ _ (by kernel_rfl) (right_vc (x.1) (x.2.1) (x.2.2))⟩
theorem right_ok : SpOk Try.prog 28 rightP.sp := @Pat.okS _ rightP Try.prog right_C 28 Try.f28 (fun x => cfg_nil rfl) (by kernel_rfl) Try.func28 (fun _ => rfl) right_al
def tRight : Tab := [(28, rightP.sp)]
theorem tRight_ok : TabOk Try.prog tRight := (tab_cons right_ok tab_nil)

def wrongP : Pat (Int × Int × Int) where
  view | [.cons (.int .i64 k) (.cons (.int .u64 q) (.cons (.int .u64 t) .nil))], _ => some (k, q, t) | _, _ => none
  args x := [ldT x.1 x.2.1 x.2.2]
  H _ := []
  out x := .retq (.bool (!decide (rightE x.1 x.2.1 x.2.2)))
theorem wrong_vc : ∀ (k q t : Int), True → (((k = k ∧ q = q ∧ t = t ∧ True) ∧ True) ∧ True) ∧ (!decide (rightE k q t)) = !decide (rightE k q t) ∧ True ∧ True := by
  simp only [eq_self, implies_true, and_self]
  try (intro k q t; trivial)

def wrong_C (_ : (Int × Int × Int)) : Cfg := { Γ := Go.Sx.look tRight, names := true }
theorem wrong_al (x : (Int × Int × Int)) : Shown (wrongP.vc Try.prog (wrong_C x) Try.f27 x) := ⟨@Eq.mp _ _ (by kernel_rfl) (wrong_vc (x.1) (x.2.1) (x.2.2))⟩
theorem wrong_ok : SpOk Try.prog 27 wrongP.sp := @Pat.okS _ wrongP Try.prog wrong_C 27 Try.f27 (fun x => cfg_tab rfl tRight_ok) (by kernel_rfl) Try.func27 (fun _ => rfl) wrong_al
def tWrong : Tab := [(27, wrongP.sp)]
theorem tWrong_ok : TabOk Try.prog tWrong := (tab_cons wrong_ok tab_nil)

def badF (l : LL) : Nat → Nat → Int
  | _, 0 => -1
  | y, m + 1 => if rightE (l.k y) (l.q y) (l.t y) then badF l (y + 1) m else y
theorem badF_spec (l : LL) : ∀ (m y : Nat), (0 ≤ badF l y m) ↔ ¬ ∀ j, y ≤ j → j < y + m → rightE (l.k j) (l.q j) (l.t j)
  | 0, y => ⟨fun h => absurd h (show ¬ (0 : Int) ≤ -1 by decide), fun h => absurd (fun j h1 h2 => by omega) h⟩
  | m + 1, y => by
    simp only [badF]
    split
    · rename_i h
      rw [badF_spec l m (y + 1)]
      constructor
      · exact fun h1 h2 => h1 fun j h3 h4 => h2 j (by omega) (by omega)
      · refine fun h1 h2 => h1 fun j h3 h4 => ?_
        by_cases e : j = y
        · rw [e]; exact h
        · exact h2 j (by omega) (by omega)
    · rename_i h
      exact ⟨fun _ h2 => h (h2 y (Nat.le_refl _) (by omega)), fun _ => by omega⟩
def LL.all (l : LL) : Prop := ∀ j, j < l.n → rightE (l.k j) (l.q j) (l.t j)
instance (l : LL) : Decidable l.all := by unfold LL.all; infer_instance
theorem badF_all (l : LL) : 0 ≤ badF l 0 l.n ↔ ¬ l.all := by
  rw [badF_spec]
  unfold LL.all
  rw [Nat.zero_add]
  exact not_congr ⟨fun h j hj => h j (Nat.zero_le _) hj, fun h j _ hj => h j hj⟩
def ixP : Pat LS where
  view | [t, .fn 27 .nil], H => some (viewL t H) | _, _ => none
  args x := [x.v 0, .fn 27 .nil]
  H x := [x.reg]
  out x := .need (x.Ok ∧ x.len ≤ 8) (.retq (.int .i64 (badF x.l 0 x.len)))
def ixFam (x : LS) : Fam where
  α := Nat
  I y := y ≤ x.len ∧ badF x.l 0 x.len = badF x.l y (x.len - y)
  st y := { sl := mkSl 19 [(0, x.v 0), (1, .fn 27 .nil), (7, .int .i64 x.len), (8, .int .i64 y)], H := [x.reg] }
  μ y := x.len - y
theorem ix_vc : ∀ (x : LS), (x.Ok ∧ x.len ≤ (8 : Nat)) ∧ True → ∀ (v : Int), v = (0 : Int) → (x.nil = true → x.len = (0 : Nat)) ∧ (∃ (y : Nat), (y ≤ x.len ∧ badF x.l (0 : Nat) x.len = badF x.l y (x.len - y)) ∧ ((((x.nil = true → x.nil =
  true) ∧ (x.nil = false → x.nil = false ∧ True ∧ True ∧ x.lo = x.lo ∧ x.len = x.len ∧ x.cap = x.cap)) ∧ True ∧ (↑x.len : Int) = (↑x.len : Int) ∧ (0 : Int) = (↑y : Int) ∧ True) ∧ ((0 : Nat) ≤ (0 : Nat) ∧ x.n = x.n ∧ ∀ (j :
  Nat), j < x.n → x.k j = x.k j ∧ x.q j = x.q j ∧ x.t j = x.t j ∧ True) ∧ True) ∧ True) ∧ ∀ (y : Nat), y ≤ x.len ∧ badF x.l (0 : Nat) x.len = badF x.l y (x.len - y) → (decide ((↑y : Int) < (↑x.len : Int)) = true → ∀ (v :
  Int), v = (↑y : Int) → (x.nil = true → x.len = (0 : Nat)) ∧ ((0 : Int) ≤ v ∧ v < (↑x.len : Int)) ∧ x.lo + v.toNat < x.n ∧ (((x.k (x.lo + v.toNat) = x.k (x.lo + v.toNat) ∧ x.q (x.lo + v.toNat) = x.q (x.lo + v.toNat) ∧ x.t
  (x.lo + v.toNat) = x.t (x.lo + v.toNat) ∧ True) ∧ True) ∧ True) ∧ ((!decide (rightE (x.k (x.lo + v.toNat)) (x.q (x.lo + v.toNat)) (x.t (x.lo + v.toNat)))) = true → ∀ (v_1 : Int), v_1 = v → x.Ok ∧ x.len ≤ (8 : Nat) → v_1
  = badF x.l (0 : Nat) x.len ∧ True ∧ ((0 : Nat) ≤ (0 : Nat) ∧ x.n = x.n ∧ ∀ (j : Nat), j < x.n → x.k j = x.k j ∧ x.q j = x.q j ∧ x.t j = x.t j ∧ True) ∧ True) ∧ ((!decide (rightE (x.k (x.lo + v.toNat)) (x.q (x.lo +
  v.toNat)) (x.t (x.lo + v.toNat)))) = false → ∃ (y_1 : Nat), (y_1 ≤ x.len ∧ badF x.l (0 : Nat) x.len = badF x.l y_1 (x.len - y_1)) ∧ ((((x.nil = true → x.nil = true) ∧ (x.nil = false → x.nil = false ∧ True ∧ True ∧ x.lo =
  x.lo ∧ x.len = x.len ∧ x.cap = x.cap)) ∧ True ∧ (↑x.len : Int) = (↑x.len : Int) ∧ IntKind.i64.wrap ((↑y : Int) + (1 : Int)) = (↑y_1 : Int) ∧ True) ∧ ((0 : Nat) ≤ (0 : Nat) ∧ x.n = x.n ∧ ∀ (j : Nat), j < x.n → x.k j = x.k
  j ∧ x.q j = x.q j ∧ x.t j = x.t j ∧ True) ∧ True) ∧ (ixFam x).μ y_1 < (ixFam x).μ y)) ∧ (decide ((↑y : Int) < (↑x.len : Int)) = false → ∀ (v : Int), v = (-1 : Int) → x.Ok ∧ x.len ≤ (8 : Nat) → v = badF x.l (0 : Nat)
  x.len ∧ True ∧ ((0 : Nat) ≤ (0 : Nat) ∧ x.n = x.n ∧ ∀ (j : Nat), j < x.n → x.k j = x.k j ∧ x.q j = x.q j ∧ x.t j = x.t j ∧ True) ∧ True) := by
  simp only [true_and, and_true, eq_self, Nat.le_refl, decide_eq_true_eq, decide_eq_false_iff_not, implies_true, and_self, Int.not_lt, IntKind.wrap_i64, Bool.not_eq_true', Bool.not_eq_false']
  rintro x ⟨⟨hnil, hlo⟩, h8⟩ _ rfl
  have hI : ∀ z : Nat, (ixFam x).I z = (z ≤ x.len ∧ badF x.l 0 x.len = badF x.l z (x.len - z)) := fun _ => rfl
  have hM : ∀ z : Nat, (ixFam x).μ z = x.len - z := fun _ => rfl
  simp only [hM]
  refine ⟨hnil, ⟨0, ⟨Nat.zero_le _, rfl⟩, ⟨id, id⟩, rfl⟩, fun y hy => ?_⟩
  obtain ⟨y1, y2⟩ := hy
  refine ⟨fun hlt => ?_, fun hge => ?_⟩
  · have e : x.len - y = (x.len - (y + 1)) + 1 := by omega
    rw [e] at y2
    simp only [badF] at y2
    rintro _ rfl
    simp only [Int.toNat_natCast]
    refine ⟨hnil, by omega, by omega, fun h v hv _ => ?_, fun h => ⟨y + 1, ⟨by omega, ?_⟩, ⟨⟨id, id⟩, by omega⟩, by omega⟩⟩
    · rw [if_neg (show ¬ rightE (x.l.k y) (x.l.q y) (x.l.t y) from h)] at y2
      omega
    · rw [if_pos (show rightE (x.l.k y) (x.l.q y) (x.l.t y) from h)] at y2; exact y2
  · have e : x.len - y = 0 := by omega
    rw [e] at y2
    intro v hv _
    rw [y2]; exact hv

def ix_C (x : LS) : Cfg := { Γ := Go.Sx.look tWrong, names := true, loops := onlyAt 2 [ixFam x] }
theorem ix_al (x : LS) : Shown (ixP.vc Try.prog (ix_C x) Try.f54 x) := ⟨@Eq.mp _ _ (by kernel_rfl) (ix_vc x)⟩
theorem ix_ok : SpOk Try.prog 54 ixP.sp := @Pat.okS _ ixP Try.prog ix_C 54 Try.f54 (fun x => cfg_tab rfl tWrong_ok) (by kernel_rfl) Try.func54 (fun _ => rfl) ix_al
def tIx : Tab := [(54, ixP.sp)]
theorem tIx_ok : TabOk Try.prog tIx := (tab_cons ix_ok tab_nil)

def hasP : Pat LS where
  view | [t, .fn 27 .nil], H => some (viewL t H) | _, _ => none
  args x := [x.v 0, .fn 27 .nil]
  H x := [x.reg]
  out x := .need (x.Ok ∧ x.len ≤ 8) (.retq (.bool (!decide x.l.all)))
theorem has_vc : ∀ (x : LS), (x.Ok ∧ x.len ≤ (8 : Nat)) ∧ True → ((((x.nil = true → x.nil = true) ∧ (x.nil = false → x.nil = false ∧ True ∧ True ∧ x.lo = x.lo ∧ x.len = x.len ∧ x.cap = x.cap)) ∧ True ∧ True) ∧ ((0 : Nat) ≤ (0 : Nat) ∧
  x.n = x.n ∧ ∀ (j : Nat), j < x.n → x.k j = x.k j ∧ x.q j = x.q j ∧ x.t j = x.t j ∧ True) ∧ True) ∧ (x.Ok ∧ x.len ≤ (8 : Nat)) ∧ (x.Ok ∧ x.len ≤ (8 : Nat) → decide (badF x.l (0 : Nat) x.len ≥ (0 : Int)) = !decide x.l.all
  ∧ True ∧ ((0 : Nat) ≤ (0 : Nat) ∧ x.n = x.n ∧ ∀ (j : Nat), j < x.n → x.k j = x.k j ∧ x.q j = x.q j ∧ x.t j = x.t j ∧ True) ∧ True) := by
  simp only [and_true, eq_self, Nat.le_refl, implies_true, and_self, ge_iff_le]
  intro x hx
  refine ⟨⟨id, id⟩, hx, fun _ => ?_⟩
  have h := badF_all x.l
  have h : 0 ≤ badF x.l 0 x.len ↔ ¬ x.l.all := h
  rw [Bool.eq_iff_iff]
  simp only [decide_eq_true_eq, Bool.not_eq_true', decide_eq_false_iff_not]
  exact h

def has_C (_ : LS) : Cfg := { Γ := Go.Sx.look tIx, names := true }
theorem has_al (x : LS) : Shown (hasP.vc Try.prog (has_C x) Try.f29 x) := ⟨@Eq.mp _ _ (by kernel_rfl) (has_vc x)⟩
theorem has_ok : SpOk Try.prog 29 hasP.sp := @Pat.okS _ hasP Try.prog has_C 29 Try.f29 (fun x => cfg_tab rfl tIx_ok) (by kernel_rfl) Try.func29 (fun _ => rfl) has_al
def tHas : Tab := [(29, hasP.sp)]
theorem tHas_ok : TabOk Try.prog tHas := (tab_cons has_ok tab_nil)

def RightP : Pat LS where
  view | [t], H => some (viewL t H) | _, _ => none
  args x := [x.v 0]
  H x := [x.reg]
  out x := .need x.Ok (.retq (.bool (decide x.l.right)))
theorem Right_vc : ∀ (x : LS), x.Ok ∧ True → (x.nil = true → x.len = (0 : Nat)) ∧ (decide ((↑x.len : Int) ≤ (8 : Int)) = true → ((((x.nil = true → x.nil = true) ∧ (x.nil = false → x.nil = false ∧ True ∧ True ∧ x.lo = x.lo ∧ x.len = x.len ∧
  x.cap = x.cap)) ∧ True ∧ True) ∧ ((0 : Nat) ≤ (0 : Nat) ∧ x.n = x.n ∧ ∀ (j : Nat), j < x.n → x.k j = x.k j ∧ x.q j = x.q j ∧ x.t j = x.t j ∧ True) ∧ True) ∧ (x.Ok ∧ x.len ≤ (8 : Nat)) ∧ (x.Ok → (!!decide x.l.all) =
  decide x.l.right ∧ True ∧ ((0 : Nat) ≤ (0 : Nat) ∧ x.n = x.n ∧ ∀ (j : Nat), j < x.n → x.k j = x.k j ∧ x.q j = x.q j ∧ x.t j = x.t j ∧ True) ∧ True)) ∧ (decide ((↑x.len : Int) ≤ (8 : Int)) = false → x.Ok → decide
  x.l.right = false ∧ True ∧ ((0 : Nat) ≤ (0 : Nat) ∧ x.n = x.n ∧ ∀ (j : Nat), j < x.n → x.k j = x.k j ∧ x.q j = x.q j ∧ x.t j = x.t j ∧ True) ∧ True) := by
  simp only [and_true, eq_self, Nat.le_refl, decide_eq_true_eq, decide_eq_false_iff_not, implies_true, and_self, Int.not_le]
  intro x hx
  refine ⟨hx.1, fun h => ⟨⟨id, id⟩, ⟨hx, by omega⟩, fun _ => ?_⟩, fun h _ hr => ?_⟩
  · try rw [Bool.not_not]
    exact decide_eq_decide.2 ⟨fun h2 => ⟨(by show x.len ≤ 8; omega), h2⟩, fun h2 => h2.2⟩
  · have : x.len ≤ 8 := hr.1
    omega

def Right_C (_ : LS) : Cfg := { Γ := Go.Sx.look tHas, names := true }
theorem Right_al (x : LS) : Shown (RightP.vc Try.prog (Right_C x) Try.f12 x) := ⟨@Eq.mp _ _ (by kernel_rfl) (Right_vc x)⟩
theorem Right_ok : SpOk Try.prog 12 RightP.sp := @Pat.okS _ RightP Try.prog Right_C 12 Try.f12 (fun x => cfg_tab rfl tHas_ok) (by kernel_rfl) Try.func12 (fun _ => rfl) Right_al
def LL.sl (l : LL) (j : Nat) : Int := if l.k j = 1 then 0 else l.t j - l.q j
def slP : Pat (Int × Int × Int) where
  view | [.cons (.int .i64 k) (.cons (.int .u64 q) (.cons (.int .u64 t) .nil))], _ => some (k, q, t) | _, _ => none
  args x := [ldT x.1 x.2.1 x.2.2]
  H _ := []
  out x := .need (rightE x.1 x.2.1 x.2.2) (.retq (.int .u64 (if x.1 = 1 then 0 else x.2.2 - x.2.1)))
theorem sl_vc : ∀ (k q t : Int), rightE k q t ∧ True → ∀ (v : Int), v = (0 : Int) → ((k == (1 : Int)) = true → ∀ (v : Int), v = (0 : Int) → rightE k q t → (v = if k = (1 : Int) then (0 : Int) else t - q) ∧ True ∧ True) ∧ ((k == (1 :
  Int)) = false → ∀ (v : Int), v = IntKind.u64.wrap (t - q) → rightE k q t → (v = if k = (1 : Int) then (0 : Int) else t - q) ∧ True ∧ True) := by
  simp only [and_true, beq_iff_eq, beq_eq_false_iff_ne, and_self, ne_eq, IntKind.wrap_u64]
  rintro k q t hr
  unfold rightE at hr
  try dsimp only
  repeat' (with_reducible first | assumption | apply And.intro | intro _)
  all_goals (try simp only [cond_dec, decide_eq_decide] at *)
  all_goals (first | omega | ((repeat' (first | omega | split)) <;> (try dsimp only) <;> (try (first | omega | contradiction | (subst_vars; first | rfl | omega) | (simp_all; done) | (simp_all; omega)))))

def sl_C (_ : (Int × Int × Int)) : Cfg := { Γ := Go.Sx.look [], names := true }
theorem sl_al (x : (Int × Int × Int)) : Shown (slP.vc Try.prog (sl_C x) Try.f42 x) := ⟨@Eq.mp _ _ (by kernel_rfl) (sl_vc (x.1) (x.2.1) (x.2.2))⟩
theorem sl_ok : SpOk Try.prog 42 slP.sp := @Pat.okS _ slP Try.prog sl_C 42 Try.f42 (fun x => cfg_nil rfl) (by kernel_rfl) Try.func42 (fun _ => rfl) sl_al
def tDem : Tab := [(42, slP.sp)]
theorem tDem_ok : TabOk Try.prog tDem := (tab_cons sl_ok tab_nil)

/-- How much is asked for, of the first ones. -/
def LL.dem (l : LL) (t : Int) : Nat → Int
  | 0 => 0
  | j + 1 => l.dem t j + (t + l.sl j) / l.t j * l.q j
theorem LL.dem_bd {l : LL} (h : l.right) {t : Int} (ht : 0 ≤ t) : ∀ m, m ≤ l.n → 0 ≤ l.dem t m ∧ l.dem t m ≤ m * (t + 8192)
  | 0, _ => ⟨Int.le_refl _, by simp [LL.dem]⟩
  | m + 1, hm => by
    have ih := LL.dem_bd h ht m (by omega)
    have hr := h.2 m (by omega)
    unfold rightE at hr
    have hs : 0 ≤ l.sl m ∧ l.sl m ≤ 8192 := by unfold LL.sl; split <;> omega
    have h1 : 0 ≤ (t + l.sl m) / l.t m := Int.ediv_nonneg (by omega) (by omega)
    have h2 : (t + l.sl m) / l.t m * l.q m ≤ (t + l.sl m) / l.t m * l.t m := Int.mul_le_mul_of_nonneg_left (by omega) h1
    have h3 : (t + l.sl m) / l.t m * l.t m ≤ t + l.sl m := Int.ediv_mul_le _ (by omega)
    have h4 : 0 ≤ (t + l.sl m) / l.t m * l.q m := Int.mul_nonneg h1 (by omega)
    have e : ((m + 1 : Nat) : Int) * (t + 8192) = m * (t + 8192) + (t + 8192) := by
      rw [Int.natCast_add, Int.add_mul]; simp
    simp only [LL.dem]
    rw [e]
    omega
def demP : Pat (LS × Int) where
  view | [t, .int .u64 u], H => some (viewL t H, u) | _, _ => none
  args x := [x.1.v 0, .int .u64 x.2]
  H x := [x.1.reg]
  out x := .need (x.1.Ok ∧ x.1.l.right ∧ 0 ≤ x.2 ∧ x.2 ≤ 1099511627776) (.retq (.int .u64 (x.1.l.dem x.2 x.1.len)))
def demFam (x : LS) (u : Int) : Fam where
  α := Nat
  I y := y ≤ x.len
  st y := { sl := mkSl 28 [(1, .int .u64 u), (5, .int .u64 (x.l.dem u y)), (8, x.v 0), (9, .int .i64 x.len), (10, .int .i64 y)], H := [x.reg] }
  μ y := x.len - y
theorem dem_vc : ∀ (x : LS) (u : Int), (x.Ok ∧ x.l.right ∧ (0 : Int) ≤ u ∧ u ≤ (1099511627776 : Int)) ∧ True → ∀ (v : Int), v = (0 : Int) → ∀ (v : Int), v = (0 : Int) → (x.nil = true → x.len = (0 : Nat)) ∧ (∃ (y : Nat), (demFam x u).I y
  ∧ ((u = u ∧ v = x.l.dem u y ∧ ((x.nil = true → x.nil = true) ∧ (x.nil = false → x.nil = false ∧ True ∧ True ∧ x.lo = x.lo ∧ x.len = x.len ∧ x.cap = x.cap)) ∧ (↑x.len : Int) = (↑x.len : Int) ∧ (0 : Int) = (↑y : Int) ∧
  True) ∧ ((0 : Nat) ≤ (0 : Nat) ∧ x.n = x.n ∧ ∀ (j : Nat), j < x.n → x.k j = x.k j ∧ x.q j = x.q j ∧ x.t j = x.t j ∧ True) ∧ True) ∧ True) ∧ ∀ (y : Nat), (demFam x u).I y → (decide ((↑y : Int) < (↑x.len : Int)) = true →
  (x.nil = true → x.len = (0 : Nat)) ∧ ((0 : Int) ≤ (↑y : Int) ∧ (↑y : Int) < (↑x.len : Int)) ∧ x.lo + (↑y : Int).toNat < x.n ∧ (((x.k (x.lo + (↑y : Int).toNat) = x.k (x.lo + (↑y : Int).toNat) ∧ x.q (x.lo + (↑y :
  Int).toNat) = x.q (x.lo + (↑y : Int).toNat) ∧ x.t (x.lo + (↑y : Int).toNat) = x.t (x.lo + (↑y : Int).toNat) ∧ True) ∧ True) ∧ True) ∧ rightE (x.k (x.lo + (↑y : Int).toNat)) (x.q (x.lo + (↑y : Int).toNat)) (x.t (x.lo +
  (↑y : Int).toNat)) ∧ x.t (x.lo + (↑y : Int).toNat) ≠ (0 : Int) ∧ ∀ (v : Int), v = IntKind.u64.wrap (x.l.dem u y + IntKind.u64.wrap (IntKind.u64.wrap ((IntKind.u64.wrap (u + if x.k (x.lo + (↑y : Int).toNat) = (1 : Int)
  then (0 : Int) else x.t (x.lo + (↑y : Int).toNat) - x.q (x.lo + (↑y : Int).toNat))).tdiv (x.t (x.lo + (↑y : Int).toNat))) * x.q (x.lo + (↑y : Int).toNat))) → ∃ (y_1 : Nat), (demFam x u).I y_1 ∧ ((u = u ∧ v = x.l.dem u
  y_1 ∧ ((x.nil = true → x.nil = true) ∧ (x.nil = false → x.nil = false ∧ True ∧ True ∧ x.lo = x.lo ∧ x.len = x.len ∧ x.cap = x.cap)) ∧ (↑x.len : Int) = (↑x.len : Int) ∧ IntKind.i64.wrap ((↑y : Int) + (1 : Int)) = (↑y_1 :
  Int) ∧ True) ∧ ((0 : Nat) ≤ (0 : Nat) ∧ x.n = x.n ∧ ∀ (j : Nat), j < x.n → x.k j = x.k j ∧ x.q j = x.q j ∧ x.t j = x.t j ∧ True) ∧ True) ∧ (demFam x u).μ y_1 < (demFam x u).μ y) ∧ (decide ((↑y : Int) < (↑x.len : Int)) =
  false → ∀ (v : Int), v = x.l.dem u y → x.Ok ∧ x.l.right ∧ (0 : Int) ≤ u ∧ u ≤ (1099511627776 : Int) → v = x.l.dem u x.len ∧ True ∧ ((0 : Nat) ≤ (0 : Nat) ∧ x.n = x.n ∧ ∀ (j : Nat), j < x.n → x.k j = x.k j ∧ x.q j = x.q j
  ∧ x.t j = x.t j ∧ True) ∧ True) := by
  simp only [true_and, and_true, eq_self, Nat.le_refl, decide_eq_true_eq, decide_eq_false_iff_not, implies_true, and_self, Int.not_lt, ne_eq, Int.toNat_natCast, IntKind.wrap_u64, IntKind.wrap_i64]
  rintro x u ⟨⟨hnil, hlo⟩, hr, hu, hu'⟩ _ rfl _ rfl
  have hI : ∀ z : Nat, (demFam x u).I z = (z ≤ x.len) := fun _ => rfl
  have hM : ∀ z : Nat, (demFam x u).μ z = x.len - z := fun _ => rfl
  simp only [hI, hM]
  refine ⟨hnil, ⟨0, Nat.zero_le _, rfl, ⟨id, id⟩, rfl⟩, fun y hy => ⟨fun hlt => ?_, fun hge v hv _ => ?_⟩⟩
  · have hr1 := hr.2 y (by show y < x.len; omega)
    have hb := LL.dem_bd hr hu (y + 1) (by show y + 1 ≤ x.len; omega)
    have hb0 := LL.dem_bd hr hu y (by show y ≤ x.len; omega)
    have h8 : x.len ≤ 8 := hr.1
    have hs : x.l.dem u (y + 1) = x.l.dem u y + (u + x.l.sl y) / x.l.t y * x.l.q y := rfl
    have hr1 : rightE (x.k (x.lo + y)) (x.q (x.lo + y)) (x.t (x.lo + y)) := hr1
    have hr2 := hr1
    unfold rightE at hr2
    have e0 : (u + if x.k (x.lo + y) = 1 then 0 else x.t (x.lo + y) - x.q (x.lo + y)) = u + x.l.sl y := rfl
    have hsl : 0 ≤ x.l.sl y ∧ x.l.sl y ≤ 8192 := by unfold LL.sl; show _ ∧ _; have e1 : x.l.t y = x.t (x.lo + y) := rfl; have e2 : x.l.q y = x.q (x.lo + y) := rfl; split <;> omega
    rw [e0]
    refine ⟨hnil, by omega, by omega, hr1, by omega, fun v hv => ⟨y + 1, by omega, ⟨?_, ⟨id, id⟩, by omega⟩, by omega⟩⟩
    have e3 : (u + x.l.sl y) % 18446744073709551616 = u + x.l.sl y := by omega
    rw [e3, Int.tdiv_eq_ediv_of_nonneg (by omega)] at hv
    have h1 : 0 ≤ (u + x.l.sl y) / x.t (x.lo + y) := Int.ediv_nonneg (by omega) (by omega)
    have h5 : (u + x.l.sl y) / x.t (x.lo + y) ≤ u + x.l.sl y := Int.ediv_le_self _ (by omega)
    have e4 : (u + x.l.sl y) / x.t (x.lo + y) % 18446744073709551616 = (u + x.l.sl y) / x.t (x.lo + y) := by omega
    rw [e4] at hv
    have h6 : 0 ≤ (u + x.l.sl y) / x.t (x.lo + y) * x.q (x.lo + y) := Int.mul_nonneg h1 (by omega)
    have hs' : x.l.dem u (y + 1) = x.l.dem u y + (u + x.l.sl y) / x.t (x.lo + y) * x.q (x.lo + y) := hs
    generalize (u + x.l.sl y) / x.t (x.lo + y) * x.q (x.lo + y) = p at *
    have hb1 : ((y + 1 : Nat) : Int) * (u + 8192) ≤ 8 * (u + 8192) := Int.mul_le_mul_of_nonneg_right (by omega) (by omega)
    omega
  · have : y = x.len := by omega
    rw [hv, this]

def dem_C (x : (LS × Int)) : Cfg := { Γ := Go.Sx.look tDem, names := true, loops := onlyAt 3 [demFam (x.1) (x.2)] }
theorem dem_al (x : (LS × Int)) : Shown (demP.vc Try.prog (dem_C x) Try.f30 x) := ⟨@Eq.mp _ _ (by kernel_rfl) (dem_vc (x.1) (x.2))⟩
theorem dem_ok : SpOk Try.prog 30 demP.sp := @Pat.okS _ demP Try.prog dem_C 30 Try.f30 (fun x => cfg_tab rfl tDem_ok) (by kernel_rfl) Try.func30 (fun _ => rfl) dem_al
def tDemand : Tab := [(12, RightP.sp), (30, demP.sp)]
theorem tDemand_ok : TabOk Try.prog tDemand := (tab_cons Right_ok (tab_cons dem_ok tab_nil))

def DemP : Pat (LS × Int) where
  view | [t, .int .u64 u], H => some (viewL t H, u) | _, _ => none
  args x := [x.1.v 0, .int .u64 x.2]
  H x := [x.1.reg]
  out x := .need (x.1.Ok ∧ u64 x.2) (.retq (.int .u64 (if x.1.l.right then x.1.l.dem (min x.2 1099511627776) x.1.len else 0)))
theorem Dem_vc : ∀ (x : LS) (u : Int), (x.Ok ∧ (0 : Int) ≤ u ∧ u < (18446744073709551616 : Int)) ∧ True → ∀ (v : Int), v = (0 : Int) → ((((x.nil = true → x.nil = true) ∧ (x.nil = false → x.nil = false ∧ True ∧ True ∧ x.lo = x.lo ∧ x.len
  = x.len ∧ x.cap = x.cap)) ∧ True) ∧ ((0 : Nat) ≤ (0 : Nat) ∧ x.n = x.n ∧ ∀ (j : Nat), j < x.n → x.k j = x.k j ∧ x.q j = x.q j ∧ x.t j = x.t j ∧ True) ∧ True) ∧ x.Ok ∧ ((!decide x.l.right) = true → ∀ (v : Int), v = (0 :
  Int) → x.Ok ∧ (0 : Int) ≤ u ∧ u < (18446744073709551616 : Int) → (v = if x.l.right then x.l.dem (min u (1099511627776 : Int)) x.len else (0 : Int)) ∧ True ∧ ((0 : Nat) ≤ (0 : Nat) ∧ x.n = x.n ∧ ∀ (j : Nat), j < x.n → x.k
  j = x.k j ∧ x.q j = x.q j ∧ x.t j = x.t j ∧ True) ∧ True) ∧ ((!decide x.l.right) = false → ((((x.nil = true → x.nil = true) ∧ (x.nil = false → x.nil = false ∧ True ∧ True ∧ x.lo = x.lo ∧ x.len = x.len ∧ x.cap = x.cap)) ∧
  ((if (1099511627776 : Int) < u then (1099511627776 : Int) else u) = if (1099511627776 : Int) < u then (1099511627776 : Int) else u) ∧ True) ∧ ((0 : Nat) ≤ (0 : Nat) ∧ x.n = x.n ∧ ∀ (j : Nat), j < x.n → x.k j = x.k j ∧
  x.q j = x.q j ∧ x.t j = x.t j ∧ True) ∧ True) ∧ (x.Ok ∧ x.l.right ∧ ((0 : Int) ≤ if (1099511627776 : Int) < u then (1099511627776 : Int) else u) ∧ (if (1099511627776 : Int) < u then (1099511627776 : Int) else u) ≤
  (1099511627776 : Int)) ∧ ∀ (v : Int), v = x.l.dem (if (1099511627776 : Int) < u then (1099511627776 : Int) else u) x.len → x.Ok ∧ (0 : Int) ≤ u ∧ u < (18446744073709551616 : Int) → (v = if x.l.right then x.l.dem (min u
  (1099511627776 : Int)) x.len else (0 : Int)) ∧ True ∧ ((0 : Nat) ≤ (0 : Nat) ∧ x.n = x.n ∧ ∀ (j : Nat), j < x.n → x.k j = x.k j ∧ x.q j = x.q j ∧ x.t j = x.t j ∧ True) ∧ True) := by
  simp only [and_true, eq_self, Nat.le_refl, decide_eq_true_eq, decide_eq_false_iff_not, implies_true, and_self, Bool.not_eq_true', Bool.not_eq_false']
  rintro x u ⟨hx, hu, hu'⟩ _ rfl
  refine ⟨⟨id, id⟩, hx, fun h v hv _ => ?_, fun h => ⟨⟨id, id⟩, ⟨hx, h, ?_⟩, fun v hv _ => ?_⟩⟩
  · rw [if_neg h]; exact hv
  · split <;> omega
  · rw [if_pos h, hv]
    have : (if 1099511627776 < u then 1099511627776 else u) = min u 1099511627776 := by split <;> omega
    rw [this]

def Dem_C (_ : (LS × Int)) : Cfg := { Γ := Go.Sx.look tDemand, names := true }
theorem Dem_al (x : (LS × Int)) : Shown (DemP.vc Try.prog (Dem_C x) Try.f14 x) := ⟨@Eq.mp _ _ (by kernel_rfl) (Dem_vc (x.1) (x.2))⟩
theorem Dem_ok : SpOk Try.prog 14 DemP.sp := @Pat.okS _ DemP Try.prog Dem_C 14 Try.f14 (fun x => cfg_tab rfl tDemand_ok) (by kernel_rfl) Try.func14 (fun _ => rfl) Dem_al
end Go.Proofs.Ytijpjhelgggmfaa
