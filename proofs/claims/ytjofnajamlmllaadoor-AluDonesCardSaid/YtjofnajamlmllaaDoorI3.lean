import Derived.Test.YtjofnajamlmllaaDoorI2
open Go Go.Sx Go.Proofs
set_option maxRecDepth 100000
namespace Go.Proofs.YtjofnajamlmllaaDoor

/-- Bytes. -/
structure BS where
  nil : Bool
  len : Nat
  cap : Nat
  b : Nat → Int
def roRegB (e n sz : Nat) (f : Nat → T) : Reg := { own := false, pl := true, fam := 1, el := e, tot := fun _ => 0, c := fun _ => .arr n sz f }
def BS.reg (x : BS) : Reg := roRegB 5 x.len 1 (fun j => .int .u8 (x.b j))
def BS.t (x : BS) (r : Nat) : T := .ite x.nil .nils (.slice r 0 [] 0 1 x.len x.cap)
def BS.Ok (x : BS) : Prop := (x.nil = true → x.len = 0) ∧ x.len ≤ 9223372036854775807 ∧ x.len ≤ x.cap ∧ ∀ j, j < x.len → u8 (x.b j)
def viewB (t : T) (H : List Reg) : BS := ⟨tNil t, tLen t, tCap t, fun j => tInt (tArr (regC H (tRef t)) (tLo t + j))⟩
def getW (b : Nat → Int) (a : Nat) : Nat → Int
  | 0 => 0
  | k + 1 => getW b a k + b (a + k) * 2 ^ (8 * k)
theorem getW_lt {b : Nat → Int} {a : Nat} : ∀ k, (∀ j, j < k → u8 (b (a + j))) → 0 ≤ getW b a k ∧ getW b a k < 2 ^ (8 * k)
  | 0, _ => ⟨Int.le_refl _, by show (0 : Int) < 1; decide⟩
  | k + 1, h => by
    have ih := getW_lt k fun j hj => h j (by omega)
    obtain ⟨h1, h2⟩ := h k (by omega)
    have hp : (0 : Int) < 2 ^ (8 * k) := Int.pow_pos (by decide)
    have e : (2 : Int) ^ (8 * (k + 1)) = 256 * 2 ^ (8 * k) := by rw [show 8 * (k + 1) = 8 + 8 * k by omega, Int.pow_add]; rfl
    simp only [getW]
    rw [e]
    generalize (2 : Int) ^ (8 * k) = p at *
    have m1 : 0 ≤ b (a + k) * p := Int.mul_nonneg h1 (by omega)
    have m2 : b (a + k) * p ≤ 255 * p := Int.mul_le_mul_of_nonneg_right (by omega) (by omega)
    omega
theorem getW_step {b : Nat → Int} {a k : Nat} (hk : k < 4) (h : ∀ j, j < k + 1 → u8 (b (a + j))) : bits .or .u32 (getW b a k) (IntKind.u32.wrap (IntKind.u32.wrap (b (a + k)) * 2 ^ (8 * k))) = getW b a (k + 1) := by
  obtain ⟨l1, l2⟩ := getW_lt (b := b) (a := a) k fun j hj => h j (by omega)
  obtain ⟨l3, l4⟩ := getW_lt (b := b) (a := a) (k + 1) h
  obtain ⟨l5, l6⟩ := h k (by omega)
  have h32 : (2 : Int) ^ (8 * (k + 1)) ≤ 4294967296 := by
    have := pow_le' (show 8 * (k + 1) ≤ 32 by omega)
    rwa [show (2 : Int) ^ 32 = 4294967296 from by decide] at this
  rw [wrap_u32_of (show u32 (b (a + k)) from ⟨l5, by omega⟩)]
  have e : getW b a (k + 1) = getW b a k + b (a + k) * 2 ^ (8 * k) := rfl
  rw [e] at l3 l4 ⊢
  obtain ⟨G, hG⟩ := Int.eq_ofNat_of_zero_le l1
  obtain ⟨B, hB⟩ := Int.eq_ofNat_of_zero_le l5
  rw [hG] at l2 l4 ⊢
  rw [hB] at l4 ⊢
  have c1 : (B : Int) * 2 ^ (8 * k) = ((B * 2 ^ (8 * k) : Nat) : Int) := by simp
  have c2 : (2 : Int) ^ (8 * k) = ((2 ^ (8 * k) : Nat) : Int) := by simp
  rw [or32 (by rw [c2] at l2; exact Int.ofNat_lt.1 l2) (by rw [c1] at l4; omega)]
  rw [c1]; omega
def fitsB (x : BS) (a : Int) : Prop := 0 ≤ a ∧ a ≤ x.len - 4
instance (x : BS) (a : Int) : Decidable (fitsB x a) := by unfold fitsB; infer_instance
def getPt : Pat (BS × Int) where
  view | [t, .int .i64 a], H => some (viewB t H, a) | _, _ => none
  args x := [x.1.t 0, .int .i64 x.2]
  H x := [x.1.reg]
  out x := .need (x.1.Ok ∧ i64 x.2) (.retq (.tup (.cons (.int .u32 (if fitsB x.1 x.2 then getW x.1.b x.2.toNat 4 else 0)) (.cons (.bool (decide (fitsB x.1 x.2))) .nil))))
def getFam (x : BS) (a : Int) : Fam where
  α := Nat
  I y := y ≤ 4
  st y := { sl := mkSl 38 [(6, .int .u32 (getW x.b a.toNat y)), (22, .ite x.nil .nils (.slice 0 0 [] a.toNat 1 4 (x.cap - a.toNat))), (23, .int .i64 4), (24, .int .i64 y)], H := [x.reg] }
  μ y := 4 - y
theorem get_vc : ∀ (x : BS) (a : Int), (x.Ok ∧ (-9223372036854775808 : Int) ≤ a ∧ a < (9223372036854775808 : Int)) ∧ True → ∀ (v : Int), v = (0 : Int) → (decide (a < (0 : Int)) = true → ∀ (v : Int), v = (0 : Int) → x.Ok ∧
  (-9223372036854775808 : Int) ≤ a ∧ a < (9223372036854775808 : Int) → ((v = if fitsB x a then getW x.b a.toNat (4 : Nat) else (0 : Int)) ∧ decide (fitsB x a) = false ∧ True) ∧ True ∧ ((0 : Nat) ≤ (0 : Nat) ∧ x.len = x.len
  ∧ ∀ (j : Nat), j < x.len → x.b j = x.b j) ∧ True) ∧ (decide (a < (0 : Int)) = false → (x.nil = true → x.len = (0 : Nat)) ∧ (decide (a > IntKind.i64.wrap ((↑x.len : Int) - (4 : Int))) = true → ∀ (v : Int), v = (0 : Int) →
  x.Ok ∧ (-9223372036854775808 : Int) ≤ a ∧ a < (9223372036854775808 : Int) → ((v = if fitsB x a then getW x.b a.toNat (4 : Nat) else (0 : Int)) ∧ decide (fitsB x a) = false ∧ True) ∧ True ∧ ((0 : Nat) ≤ (0 : Nat) ∧ x.len
  = x.len ∧ ∀ (j : Nat), j < x.len → x.b j = x.b j) ∧ True) ∧ (decide (a > IntKind.i64.wrap ((↑x.len : Int) - (4 : Int))) = false → ∀ (v : Int), v = (0 : Int) → (x.nil = true → a = (0 : Int) ∧ IntKind.i64.wrap (a + (4 :
  Int)) = (0 : Int) ∧ True) ∧ (((0 : Int) ≤ IntKind.i64.wrap (a + (4 : Int)) ∧ IntKind.i64.wrap (a + (4 : Int)) ≤ (↑x.cap : Int)) ∧ (0 : Int) ≤ a ∧ a ≤ IntKind.i64.wrap (a + (4 : Int))) ∧ (x.nil = true → (IntKind.i64.wrap
  (a + (4 : Int))).toNat - a.toNat = (0 : Nat)) ∧ (∃ (y : Nat), (getFam x a).I y ∧ ((v = getW x.b a.toNat y ∧ ((x.nil = true → x.nil = true) ∧ (x.nil = false → x.nil = false ∧ True ∧ True ∧ (if x.cap = a.toNat then (0 :
  Nat) else (0 : Nat) + a.toNat) = a.toNat ∧ (IntKind.i64.wrap (a + (4 : Int))).toNat - a.toNat = (4 : Nat) ∧ x.cap - a.toNat = x.cap - a.toNat)) ∧ (↑((IntKind.i64.wrap (a + (4 : Int))).toNat - a.toNat) : Int) = (4 : Int)
  ∧ (0 : Int) = (↑y : Int) ∧ True) ∧ ((0 : Nat) ≤ (0 : Nat) ∧ x.len = x.len ∧ ∀ (j : Nat), j < x.len → x.b j = x.b j) ∧ True) ∧ True) ∧ ∀ (y : Nat), (getFam x a).I y → (decide ((↑y : Int) < (4 : Int)) = true → (x.nil =
  true → (4 : Nat) = (0 : Nat)) ∧ ((0 : Int) ≤ (↑y : Int) ∧ (↑y : Int) < (↑(4 : Nat) : Int)) ∧ a.toNat + (↑y : Int).toNat < x.len ∧ ∀ (v : Int), v = (↑y : Int) → ∀ (v_1 : Int), v_1 = x.b (a.toNat + (↑y : Int).toNat) → (0 :
  Int) ≤ IntKind.i64.wrap ((8 : Int) * v) ∧ ∀ (v_2 : Int), v_2 = bits BinOp.or IntKind.u32 (getW x.b a.toNat y) (IntKind.u32.wrap (IntKind.u32.wrap v_1 * (2 : Int) ^ min (IntKind.i64.wrap ((8 : Int) * v)).toNat
  IntKind.u32.bits)) → ∃ (y_1 : Nat), (getFam x a).I y_1 ∧ ((v_2 = getW x.b a.toNat y_1 ∧ ((x.nil = true → x.nil = true) ∧ (x.nil = false → x.nil = false ∧ True ∧ True ∧ a.toNat = a.toNat ∧ (4 : Nat) = (4 : Nat) ∧ x.cap -
  a.toNat = x.cap - a.toNat)) ∧ (4 : Int) = (4 : Int) ∧ IntKind.i64.wrap ((↑y : Int) + (1 : Int)) = (↑y_1 : Int) ∧ True) ∧ ((0 : Nat) ≤ (0 : Nat) ∧ x.len = x.len ∧ ∀ (j : Nat), j < x.len → x.b j = x.b j) ∧ True) ∧ (getFam
  x a).μ y_1 < (getFam x a).μ y) ∧ (decide ((↑y : Int) < (4 : Int)) = false → ∀ (v : Int), v = getW x.b a.toNat y → x.Ok ∧ (-9223372036854775808 : Int) ≤ a ∧ a < (9223372036854775808 : Int) → ((v = if fitsB x a then getW
  x.b a.toNat (4 : Nat) else (0 : Int)) ∧ decide (fitsB x a) = true ∧ True) ∧ True ∧ ((0 : Nat) ≤ (0 : Nat) ∧ x.len = x.len ∧ ∀ (j : Nat), j < x.len → x.b j = x.b j) ∧ True))) := by
  simp only [true_and, and_true, eq_self, Nat.le_refl, decide_eq_true_eq, decide_eq_false_iff_not, implies_true, and_self, Int.not_lt, gt_iff_lt, Nat.zero_add, Int.toNat_natCast, IntKind.wrap_i64]
  rintro x a ⟨hx, ha⟩ v0 hv0
  obtain ⟨xnil, xlen, xcap, xb⟩ := id hx
  have hI : ∀ z : Nat, (getFam x a).I z = (z ≤ 4) := fun _ => rfl
  have hM : ∀ z : Nat, (getFam x a).μ z = 4 - z := fun _ => rfl
  simp only [hI, hM]
  have e1 : ((x.len : Int) - 4 + 9223372036854775808) % 18446744073709551616 - 9223372036854775808 = x.len - 4 := by omega
  rw [e1]
  refine ⟨fun h v hv _ => ⟨by rw [if_neg (by unfold fitsB; omega)]; exact hv, by unfold fitsB; omega⟩, fun h0 => ⟨xnil, fun h1 v hv _ => ⟨by rw [if_neg (by unfold fitsB; omega)]; exact hv, by unfold fitsB; omega⟩, fun h1 v hv => ?_⟩⟩
  have hnn : x.nil = false := by
    cases hh : x.nil with
    | false => rfl
    | true => have := xnil hh; omega
  have e2 : (a + 4 + 9223372036854775808) % 18446744073709551616 - 9223372036854775808 = a + 4 := by omega
  have e3 : (a + 4).toNat - a.toNat = 4 := by omega
  rw [e2, e3]
  simp only [hnn]
  refine ⟨fun h => (nomatch h), by omega, fun h => (nomatch h), ⟨0, by omega, hv, ?_⟩, fun y hy => ⟨fun hlt => ⟨fun h => (nomatch h), by omega, by omega, fun i hi c hc => ⟨by omega, fun r hr => ⟨y + 1, by omega, ⟨?_, ⟨fun h => h, fun h => h⟩, by omega⟩, by omega⟩⟩⟩, fun hge v hv _ => ⟨?_, ⟨h0, h1⟩⟩⟩⟩
  · try dsimp only
    repeat' (with_reducible first | assumption | apply And.intro | intro _)
    all_goals (try simp only [cond_dec, decide_eq_decide] at *)
    all_goals (first | omega | ((repeat' (first | omega | split)) <;> (try dsimp only) <;> (try (first | omega | contradiction | (subst_vars; first | rfl | omega) | (simp_all; done) | (simp_all; omega)))))
  · have e4 : (8 * i + 9223372036854775808) % 18446744073709551616 - 9223372036854775808 = ((8 * y : Nat) : Int) := by omega
    rw [hr, e4, Int.toNat_natCast, min32 (by omega), hc]
    exact getW_step (by omega) fun j hj => xb _ (by omega)
  · have : y = 4 := by omega
    subst this
    rw [if_pos ⟨h0, h1⟩]; exact hv

def get_C (x : (BS × Int)) : Cfg := { Γ := Go.Sx.look [], names := true, loops := onlyAt 5 [getFam (x.1) (x.2)] }
theorem get_al (x : (BS × Int)) : Shown (getPt.vc Tryd.prog (get_C x) Tryd.f16 x) := ⟨@Eq.mp _ _ (by kernel_rfl) (get_vc (x.1) (x.2))⟩
theorem get_ok : SpOk Tryd.prog 16 getPt.sp := @Pat.okS _ getPt Tryd.prog get_C 16 Tryd.f16 (fun x => cfg_nil rfl) (by kernel_rfl) Tryd.func16 (fun _ => rfl) get_al
/-- A row of bytes that may be written. -/
def bReg (len _ : Nat) (b : Nat → Int) : Reg := { own := true, pl := true, fam := 1, el := 5, tot := fun _ => 0, c := fun _ => .arr len 1 (fun j => .int .u8 (b j)) }
def setB (b : Nat → Int) (a : Nat) (w : Int) (k : Nat) : Nat → Int := fun j => if a ≤ j ∧ j < a + k then w / 2 ^ (8 * (j - a)) % 256 else b j
def setPt : Pat (BS × Int × Int) where
  view | [.slice r 0 [] 0 1 n c, .int .i64 a, .int .u32 w], H => some (⟨false, n, c, fun j => tInt (tArr (regC H r) j)⟩, a, w) | _, _ => none
  args x := [.slice 0 0 [] 0 1 x.1.len x.1.cap, .int .i64 x.2.1, .int .u32 x.2.2]
  H x := [bReg x.1.len x.1.cap x.1.b]
  out x := .need (x.1.len ≤ 9223372036854775807 ∧ i64 x.2.1 ∧ u32 x.2.2) (.ret (.bool (decide (fitsB x.1 x.2.1))) [bReg x.1.len x.1.cap (setB x.1.b x.2.1.toNat x.2.2 (if fitsB x.1 x.2.1 then 4 else 0))])
def setFam (x : BS) (a w : Int) : Fam where
  α := Nat
  I y := y ≤ 4
  st y := { sl := mkSl 31 [(0, .slice 0 0 [] 0 1 x.len x.cap), (1, .int .i64 a), (2, .int .u32 w), (17, .int .i64 y)], H := [bReg x.len x.cap (setB x.b a.toNat w y)] }
  μ y := 4 - y
theorem set_vc : ∀ (x : BS) (a w : Int), (x.len ≤ (9223372036854775807 : Nat) ∧ ((-9223372036854775808 : Int) ≤ a ∧ a < (9223372036854775808 : Int)) ∧ (0 : Int) ≤ w ∧ w < (4294967296 : Int)) ∧ True → (decide (a < (0 : Int)) = true →
  x.len ≤ (9223372036854775807 : Nat) ∧ ((-9223372036854775808 : Int) ≤ a ∧ a < (9223372036854775808 : Int)) ∧ (0 : Int) ≤ w ∧ w < (4294967296 : Int) → decide (fitsB x a) = false ∧ True ∧ ((0 : Nat) ≤ (0 : Nat) ∧ x.len =
  x.len ∧ ∀ (j : Nat), j < x.len → x.b j = setB x.b a.toNat w (if fitsB x a then (4 : Nat) else (0 : Nat)) j) ∧ True) ∧ (decide (a < (0 : Int)) = false → (decide (a > IntKind.i64.wrap ((↑x.len : Int) - (4 : Int))) = true →
  x.len ≤ (9223372036854775807 : Nat) ∧ ((-9223372036854775808 : Int) ≤ a ∧ a < (9223372036854775808 : Int)) ∧ (0 : Int) ≤ w ∧ w < (4294967296 : Int) → decide (fitsB x a) = false ∧ True ∧ ((0 : Nat) ≤ (0 : Nat) ∧ x.len =
  x.len ∧ ∀ (j : Nat), j < x.len → x.b j = setB x.b a.toNat w (if fitsB x a then (4 : Nat) else (0 : Nat)) j) ∧ True) ∧ (decide (a > IntKind.i64.wrap ((↑x.len : Int) - (4 : Int))) = false → (∃ (y : Nat), (setFam x a w).I y
  ∧ (((True ∧ True ∧ (0 : Nat) = (0 : Nat) ∧ x.len = x.len ∧ x.cap = x.cap) ∧ a = a ∧ w = w ∧ (0 : Int) = (↑y : Int) ∧ True) ∧ ((0 : Nat) ≤ (0 : Nat) ∧ x.len = x.len ∧ ∀ (j : Nat), j < x.len → x.b j = setB x.b a.toNat w y
  j) ∧ True) ∧ True) ∧ ∀ (y : Nat), (setFam x a w).I y → (decide ((↑y : Int) < (4 : Int)) = true → ∀ (v : Int), v = (↑y : Int) → (0 : Int) ≤ IntKind.i64.wrap ((8 : Int) * v) ∧ ((0 : Int) ≤ IntKind.i64.wrap (a + v) ∧
  IntKind.i64.wrap (a + v) < (↑x.len : Int)) ∧ (0 : Nat) + (IntKind.i64.wrap (a + v)).toNat < x.len ∧ ∃ (y_1 : Nat), (setFam x a w).I y_1 ∧ (((True ∧ True ∧ (0 : Nat) = (0 : Nat) ∧ x.len = x.len ∧ x.cap = x.cap) ∧ a = a ∧
  w = w ∧ IntKind.i64.wrap ((↑y : Int) + (1 : Int)) = (↑y_1 : Int) ∧ True) ∧ ((0 : Nat) ≤ (0 : Nat) ∧ x.len = x.len ∧ ∀ (j : Nat), j < x.len → (bif j.beq ((0 : Nat) + (IntKind.i64.wrap (a + v)).toNat) then IntKind.u8.wrap
  (w.fdiv ((2 : Int) ^ min (IntKind.i64.wrap ((8 : Int) * v)).toNat IntKind.u32.bits)) else setB x.b a.toNat w y j) = setB x.b a.toNat w y_1 j) ∧ True) ∧ (setFam x a w).μ y_1 < (setFam x a w).μ y) ∧ (decide ((↑y : Int) <
  (4 : Int)) = false → x.len ≤ (9223372036854775807 : Nat) ∧ ((-9223372036854775808 : Int) ≤ a ∧ a < (9223372036854775808 : Int)) ∧ (0 : Int) ≤ w ∧ w < (4294967296 : Int) → decide (fitsB x a) = true ∧ True ∧ ((0 : Nat) ≤
  (0 : Nat) ∧ x.len = x.len ∧ ∀ (j : Nat), j < x.len → setB x.b a.toNat w y j = setB x.b a.toNat w (if fitsB x a then (4 : Nat) else (0 : Nat)) j) ∧ True))) := by
  simp only [true_and, and_true, eq_self, Nat.le_refl, decide_eq_true_eq, decide_eq_false_iff_not, and_self, Int.not_lt, gt_iff_lt, Nat.zero_add, cond_nbeq, IntKind.wrap_i64]
  rintro x a w ⟨hx, ha, hw⟩
  have hI : ∀ z : Nat, (setFam x a w).I z = (z ≤ 4) := fun _ => rfl
  have hM : ∀ z : Nat, (setFam x a w).μ z = 4 - z := fun _ => rfl
  simp only [hI, hM]
  have e1 : (x.len : Int) - 4 + 9223372036854775808 - 9223372036854775808 = x.len - 4 := by omega
  have s0 : ∀ j, setB x.b a.toNat w 0 j = x.b j := fun j => by unfold setB; rw [if_neg (by omega)]
  have hno : ¬ fitsB x a → ∀ j, setB x.b a.toNat w (if fitsB x a then 4 else 0) j = x.b j := fun h j => by rw [if_neg h]; exact s0 j
  have hfit : fitsB x a ↔ (0 ≤ a ∧ a ≤ (x.len : Int) - 4) := Iff.rfl
  refine ⟨fun h _ => ⟨fun hh => by have := hfit.1 hh; omega, fun j hj => (hno (fun hh => by have := hfit.1 hh; omega) j).symm⟩, fun h0 => ⟨fun h1 _ => ⟨fun hh => by have := hfit.1 hh; omega, fun j hj => (hno (fun hh => by have := hfit.1 hh; omega) j).symm⟩, fun h1 => ⟨⟨0, by omega, rfl, fun j hj => (s0 j).symm⟩, fun y hy => ⟨fun hlt v hv => ⟨by omega, by omega, by omega, y + 1, by omega, ⟨by omega, fun j hj => ?_⟩, by omega⟩, fun hge => ?_⟩⟩⟩⟩
  · have e4 : (8 * v + 9223372036854775808) % 18446744073709551616 - 9223372036854775808 = ((8 * y : Nat) : Int) := by omega
    have e5 : ((a + v + 9223372036854775808) % 18446744073709551616 - 9223372036854775808).toNat = a.toNat + y := by omega
    rw [e4, e5, Int.toNat_natCast, min32 (by omega), fdiv_pow, IntKind.wrap_u8]
    unfold setB
    by_cases hj2 : j = a.toNat + y
    · subst hj2
      rw [if_pos rfl, if_pos (by omega), show a.toNat + y - a.toNat = y by omega]
    · rw [if_neg hj2]
      by_cases hj3 : a.toNat ≤ j ∧ j < a.toNat + y
      · rw [if_pos hj3, if_pos (by omega)]
      · rw [if_neg hj3, if_neg (by omega)]
  · have : y = 4 := by omega
    subst this
    have hf : fitsB x a := hfit.2 (by omega)
    intro _
    exact ⟨hf, fun j hj => by rw [if_pos hf]⟩

def set_C (x : (BS × Int × Int)) : Cfg := { Γ := Go.Sx.look [], names := true, loops := onlyAt 4 [setFam (x.1) (x.2.1) (x.2.2)] }
theorem set_al (x : (BS × Int × Int)) : Shown (setPt.vc Tryd.prog (set_C x) Tryd.f37 x) := ⟨@Eq.mp _ _ (by kernel_rfl) (set_vc (x.1) (x.2.1) (x.2.2))⟩
theorem set_ok : SpOk Tryd.prog 37 setPt.sp := @Pat.okS _ setPt Tryd.prog set_C 37 Tryd.f37 (fun x => cfg_nil rfl) (by kernel_rfl) Tryd.func37 (fun _ => rfl) set_al
