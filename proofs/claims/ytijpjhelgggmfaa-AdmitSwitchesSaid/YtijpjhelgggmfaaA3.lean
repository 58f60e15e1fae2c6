import Derived.Test.YtijpjhelgggmfaaA2
open Go Go.Sx Go.Proofs
set_option maxRecDepth 100000
namespace Go.Proofs.Ytijpjhelgggmfaa

def tAddW : Tab := [(74, add64Sp)]
theorem tAddW_ok : TabOk Try.prog tAddW := (tab_cons add64_ok tab_nil)

theorem addW_vc : ∀ (a1 a0 b1 b0 : Int), ((((0 : Int) ≤ a1 ∧ a1 < (18446744073709551616 : Int)) ∧ (0 : Int) ≤ a0 ∧ a0 < (18446744073709551616 : Int)) ∧ ((0 : Int) ≤ b1 ∧ b1 < (18446744073709551616 : Int)) ∧ (0 : Int) ≤ b0 ∧ b0 <
  (18446744073709551616 : Int)) ∧ True → ((((0 : Int) ≤ a0 ∧ a0 < (18446744073709551616 : Int)) ∧ (0 : Int) ≤ b0 ∧ b0 < (18446744073709551616 : Int)) ∧ (0 : Int) ≤ (0 : Int) ∧ (0 : Int) ≤ (1 : Int)) ∧ ∀ (v : Int), v = (a0
  + b0 + (0 : Int)) % (18446744073709551616 : Int) → ∀ (v_1 : Int), v_1 = (a0 + b0 + (0 : Int)) / (18446744073709551616 : Int) → ((((0 : Int) ≤ a1 ∧ a1 < (18446744073709551616 : Int)) ∧ (0 : Int) ≤ b1 ∧ b1 <
  (18446744073709551616 : Int)) ∧ (0 : Int) ≤ v_1 ∧ v_1 ≤ (1 : Int)) ∧ ∀ (v_2 : Int), v_2 = (a1 + b1 + v_1) % (18446744073709551616 : Int) → ∀ (v_3 : Int), v_3 = (a1 + b1 + v_1) / (18446744073709551616 : Int) → ((v_3 != (0
  : Int)) = true → (((0 : Int) ≤ a1 ∧ a1 < (18446744073709551616 : Int)) ∧ (0 : Int) ≤ a0 ∧ a0 < (18446744073709551616 : Int)) ∧ ((0 : Int) ≤ b1 ∧ b1 < (18446744073709551616 : Int)) ∧ (0 : Int) ≤ b0 ∧ b0 <
  (18446744073709551616 : Int) → (((0 : Int) = (if wN a1 a0 + wN b1 b0 < two128 then wN a1 a0 + wN b1 b0 else (0 : Int)) / (18446744073709551616 : Int) ∧ (0 : Int) = (if wN a1 a0 + wN b1 b0 < two128 then wN a1 a0 + wN b1
  b0 else (0 : Int)) % (18446744073709551616 : Int) ∧ True) ∧ decide (wN a1 a0 + wN b1 b0 < two128) = false ∧ True) ∧ True ∧ True) ∧ ((v_3 != (0 : Int)) = false → (((0 : Int) ≤ a1 ∧ a1 < (18446744073709551616 : Int)) ∧ (0
  : Int) ≤ a0 ∧ a0 < (18446744073709551616 : Int)) ∧ ((0 : Int) ≤ b1 ∧ b1 < (18446744073709551616 : Int)) ∧ (0 : Int) ≤ b0 ∧ b0 < (18446744073709551616 : Int) → ((v_2 = (if wN a1 a0 + wN b1 b0 < two128 then wN a1 a0 + wN
  b1 b0 else (0 : Int)) / (18446744073709551616 : Int) ∧ v = (if wN a1 a0 + wN b1 b0 < two128 then wN a1 a0 + wN b1 b0 else (0 : Int)) % (18446744073709551616 : Int) ∧ True) ∧ decide (wN a1 a0 + wN b1 b0 < two128) = true ∧
  True) ∧ True ∧ True) := by
  simp only [and_true, decide_eq_true_eq, decide_eq_false_iff_not, and_self, bne_iff_ne, Int.not_lt, ne_eq, bne_eq_false_iff_eq]
  rintro a1 a0 b1 b0 ⟨⟨⟨ha1, ha1'⟩, ha0, ha0'⟩, ⟨hb1, hb1'⟩, hb0, hb0'⟩
  refine ⟨⟨⟨⟨ha0, ha0'⟩, hb0, hb0'⟩, by decide, by decide⟩, fun v hv v1 hv1 => ⟨⟨⟨⟨ha1, ha1'⟩, hb1, hb1'⟩, by omega, by omega⟩, fun v2 hv2 v3 hv3 => ?_⟩⟩
  have e : wN a1 a0 = a1 * 18446744073709551616 + a0 := rfl
  have e' : wN b1 b0 = b1 * 18446744073709551616 + b0 := rfl
  rw [e, e']
  unfold two128
  refine ⟨fun h _ => ?_, fun h _ => ?_⟩
  · rw [if_neg (by omega)]
    omega
  · rw [if_pos (by omega)]
    omega

def addW_C (_ : ((Int × Int) × (Int × Int))) : Cfg := { Γ := Go.Sx.look tAddW, names := true }
theorem addW_al (x : ((Int × Int) × (Int × Int))) : Shown (addP.vc Try.prog (addW_C x) Try.f66 x) := ⟨@Eq.mp _ _ (by kernel_rfl) (addW_vc (x.1.1) (x.1.2) (x.2.1) (x.2.2))⟩
theorem addW_ok : SpOk Try.prog 66 addP.sp := @Pat.okS _ addP Try.prog addW_C 66 Try.f66 (fun x => cfg_tab rfl tAddW_ok) (by kernel_rfl) Try.func66 (fun _ => rfl) addW_al
def minusPt : Pat ((Int × Int) × (Int × Int)) where
  view | [.cons (.int .u64 a) (.cons (.int .u64 b) .nil), .cons (.int .u64 c) (.cons (.int .u64 d) .nil)], _ => some ((a, b), (c, d)) | _, _ => none
  args x := [wT x.1.1 x.1.2, wT x.2.1 x.2.2]
  H _ := []
  out x := .need (((u64 x.1.1 ∧ u64 x.1.2) ∧ u64 x.2.1 ∧ u64 x.2.2) ∧ wN x.2.1 x.2.2 ≤ wN x.1.1 x.1.2) (.retq (wO (wN x.1.1 x.1.2 - wN x.2.1 x.2.2)))
theorem minus_vc : ∀ (a1 a0 b1 b0 : Int), (((((0 : Int) ≤ a1 ∧ a1 < (18446744073709551616 : Int)) ∧ (0 : Int) ≤ a0 ∧ a0 < (18446744073709551616 : Int)) ∧ ((0 : Int) ≤ b1 ∧ b1 < (18446744073709551616 : Int)) ∧ (0 : Int) ≤ b0 ∧ b0 <
  (18446744073709551616 : Int)) ∧ wN b1 b0 ≤ wN a1 a0) ∧ True → (decide (a0 < b0) = true → ((((0 : Int) ≤ a1 ∧ a1 < (18446744073709551616 : Int)) ∧ (0 : Int) ≤ a0 ∧ a0 < (18446744073709551616 : Int)) ∧ ((0 : Int) ≤ b1 ∧ b1
  < (18446744073709551616 : Int)) ∧ (0 : Int) ≤ b0 ∧ b0 < (18446744073709551616 : Int)) ∧ wN b1 b0 ≤ wN a1 a0 → (IntKind.u64.wrap (IntKind.u64.wrap (a1 - b1) - (1 : Int)) = (wN a1 a0 - wN b1 b0) / (18446744073709551616 :
  Int) ∧ IntKind.u64.wrap (a0 - b0) = (wN a1 a0 - wN b1 b0) % (18446744073709551616 : Int) ∧ True) ∧ True ∧ True) ∧ (decide (a0 < b0) = false → ((((0 : Int) ≤ a1 ∧ a1 < (18446744073709551616 : Int)) ∧ (0 : Int) ≤ a0 ∧ a0 <
  (18446744073709551616 : Int)) ∧ ((0 : Int) ≤ b1 ∧ b1 < (18446744073709551616 : Int)) ∧ (0 : Int) ≤ b0 ∧ b0 < (18446744073709551616 : Int)) ∧ wN b1 b0 ≤ wN a1 a0 → (IntKind.u64.wrap (a1 - b1) = (wN a1 a0 - wN b1 b0) /
  (18446744073709551616 : Int) ∧ IntKind.u64.wrap (a0 - b0) = (wN a1 a0 - wN b1 b0) % (18446744073709551616 : Int) ∧ True) ∧ True ∧ True) := by
  simp only [and_true, decide_eq_true_eq, decide_eq_false_iff_not, and_self, Int.not_lt, IntKind.wrap_u64]
  rintro a1 a0 b1 b0 ⟨⟨⟨⟨ha1, ha1'⟩, ha0, ha0'⟩, ⟨hb1, hb1'⟩, hb0, hb0'⟩, hle⟩
  have e : wN a1 a0 = a1 * 18446744073709551616 + a0 := rfl
  have e' : wN b1 b0 = b1 * 18446744073709551616 + b0 := rfl
  rw [e, e'] at hle
  simp only [e, e']
  refine ⟨fun h _ => ⟨by omega, by omega⟩, fun h _ => ⟨by omega, by omega⟩⟩

def minus_C (_ : ((Int × Int) × (Int × Int))) : Cfg := { Γ := Go.Sx.look [], names := true }
theorem minus_al (x : ((Int × Int) × (Int × Int))) : Shown (minusPt.vc Try.prog (minus_C x) Try.f70 x) := ⟨@Eq.mp _ _ (by kernel_rfl) (minus_vc (x.1.1) (x.1.2) (x.2.1) (x.2.2))⟩
theorem minus_ok : SpOk Try.prog 70 minusPt.sp := @Pat.okS _ minusPt Try.prog minus_C 70 Try.f70 (fun x => cfg_nil rfl) (by kernel_rfl) Try.func70 (fun _ => rfl) minus_al
def rcmpPt : Pat ((Int × Int) × (Int × Int)) where
  view | [.cons (.int .u64 a) (.cons (.int .u64 b) .nil), .cons (.int .u64 c) (.cons (.int .u64 d) .nil)], _ => some ((a, b), (c, d)) | _, _ => none
  args x := [wT x.1.1 x.1.2, wT x.2.1 x.2.2]
  H _ := []
  out x := .need ((u64 x.1.1 ∧ u64 x.1.2) ∧ u64 x.2.1 ∧ u64 x.2.2) (.retq (.int .i64 (wcmp x.1.1 x.1.2 x.2.1 x.2.2)))
def rcmpFam (a1 a0 b1 b0 : Int) : Fam where
  α := Int
  I y := (-1 ≤ y ∧ y ≤ 127) ∧ wN a1 a0 / 2 ^ (y + 1).toNat = wN b1 b0 / 2 ^ (y + 1).toNat
  st y := { sl := mkSl 24 [(2, p0 0), (3, p0 1), (4, .int .i64 0), (5, .int .i64 y)], H := [newReg 64 (wT a1 a0), newReg 64 (wT b1 b0)] }
  μ y := (y + 1).toNat

def tRbit : Tab := [(61, bitP.sp)]
theorem tRbit_ok : TabOk Try.prog tRbit := (tab_cons bit_ok tab_nil)

theorem rcmp_vc : ∀ (a1 a0 b1 b0 : Int), ((((0 : Int) ≤ a1 ∧ a1 < (18446744073709551616 : Int)) ∧ (0 : Int) ≤ a0 ∧ a0 < (18446744073709551616 : Int)) ∧ ((0 : Int) ≤ b1 ∧ b1 < (18446744073709551616 : Int)) ∧ (0 : Int) ≤ b0 ∧ b0 <
  (18446744073709551616 : Int)) ∧ True → ∀ (v : Int), v = (0 : Int) → ∀ (v_1 : Int), v_1 = (127 : Int) → (∃ (y : Int), (((-1 : Int) ≤ y ∧ y ≤ (127 : Int)) ∧ wN a1 a0 / (2 : Int) ^ (y + (1 : Int)).toNat = wN b1 b0 / (2 :
  Int) ^ (y + (1 : Int)).toNat) ∧ (((True ∧ True) ∧ (True ∧ True) ∧ v = (0 : Int) ∧ v_1 = y ∧ True) ∧ ((2 : Nat) ≤ (2 : Nat) ∧ a1 = a1 ∧ a0 = a0 ∧ True) ∧ ((2 : Nat) ≤ (2 : Nat) ∧ b1 = b1 ∧ b0 = b0 ∧ True) ∧ True) ∧ True)
  ∧ ∀ (y : Int), ((-1 : Int) ≤ y ∧ y ≤ (127 : Int)) ∧ wN a1 a0 / (2 : Int) ^ (y + (1 : Int)).toNat = wN b1 b0 / (2 : Int) ^ (y + (1 : Int)).toNat → (decide (y ≥ (0 : Int)) = true → (((a1 = a1 ∧ a0 = a0 ∧ True) ∧ y = y ∧
  True) ∧ True) ∧ ((((0 : Int) ≤ a1 ∧ a1 < (18446744073709551616 : Int)) ∧ (0 : Int) ≤ a0 ∧ a0 < (18446744073709551616 : Int)) ∧ (0 : Int) ≤ y ∧ y < (128 : Int)) ∧ ∀ (v : Int), v = wN a1 a0 / (2 : Int) ^ y.toNat % (2 :
  Int) → (((b1 = b1 ∧ b0 = b0 ∧ True) ∧ y = y ∧ True) ∧ True) ∧ ((((0 : Int) ≤ b1 ∧ b1 < (18446744073709551616 : Int)) ∧ (0 : Int) ≤ b0 ∧ b0 < (18446744073709551616 : Int)) ∧ (0 : Int) ≤ y ∧ y < (128 : Int)) ∧ ∀ (v_2 :
  Int), v_2 = wN b1 b0 / (2 : Int) ^ y.toNat % (2 : Int) → (decide (v < v_2) = true → ∀ (v : Int), v = (-1 : Int) → (((0 : Int) ≤ a1 ∧ a1 < (18446744073709551616 : Int)) ∧ (0 : Int) ≤ a0 ∧ a0 < (18446744073709551616 :
  Int)) ∧ ((0 : Int) ≤ b1 ∧ b1 < (18446744073709551616 : Int)) ∧ (0 : Int) ≤ b0 ∧ b0 < (18446744073709551616 : Int) → v = wcmp a1 a0 b1 b0 ∧ True ∧ True) ∧ (decide (v < v_2) = false → (decide (v > v_2) = true → ∀ (v :
  Int), v = (1 : Int) → (((0 : Int) ≤ a1 ∧ a1 < (18446744073709551616 : Int)) ∧ (0 : Int) ≤ a0 ∧ a0 < (18446744073709551616 : Int)) ∧ ((0 : Int) ≤ b1 ∧ b1 < (18446744073709551616 : Int)) ∧ (0 : Int) ≤ b0 ∧ b0 <
  (18446744073709551616 : Int) → v = wcmp a1 a0 b1 b0 ∧ True ∧ True) ∧ (decide (v > v_2) = false → ∀ (v : Int), v = IntKind.i64.wrap (y - (1 : Int)) → ∃ (y_1 : Int), (((-1 : Int) ≤ y_1 ∧ y_1 ≤ (127 : Int)) ∧ wN a1 a0 / (2
  : Int) ^ (y_1 + (1 : Int)).toNat = wN b1 b0 / (2 : Int) ^ (y_1 + (1 : Int)).toNat) ∧ (((True ∧ True) ∧ (True ∧ True) ∧ (0 : Int) = (0 : Int) ∧ v = y_1 ∧ True) ∧ ((2 : Nat) ≤ (2 : Nat) ∧ a1 = a1 ∧ a0 = a0 ∧ True) ∧ ((2 :
  Nat) ≤ (2 : Nat) ∧ b1 = b1 ∧ b0 = b0 ∧ True) ∧ True) ∧ (rcmpFam a1 a0 b1 b0).μ y_1 < (rcmpFam a1 a0 b1 b0).μ y))) ∧ (decide (y ≥ (0 : Int)) = false → ∀ (v : Int), v = (0 : Int) → (((0 : Int) ≤ a1 ∧ a1 <
  (18446744073709551616 : Int)) ∧ (0 : Int) ≤ a0 ∧ a0 < (18446744073709551616 : Int)) ∧ ((0 : Int) ≤ b1 ∧ b1 < (18446744073709551616 : Int)) ∧ (0 : Int) ≤ b0 ∧ b0 < (18446744073709551616 : Int) → v = wcmp a1 a0 b1 b0 ∧
  True ∧ True) := by
  simp only [true_and, and_true, eq_self, Nat.le_refl, decide_eq_true_eq, decide_eq_false_iff_not, and_self, Int.not_lt, Int.not_le, ge_iff_le, gt_iff_lt, IntKind.wrap_i64]
  rintro a1 a0 b1 b0 ⟨⟨⟨ha1, ha1'⟩, ha0, ha0'⟩, ⟨hb1, hb1'⟩, hb0, hb0'⟩
  have hA : 0 ≤ wN a1 a0 ∧ wN a1 a0 < two128 := by unfold wN two128; omega
  have hB : 0 ≤ wN b1 b0 ∧ wN b1 b0 < two128 := by unfold wN two128; omega
  have hM : ∀ z : Int, (rcmpFam a1 a0 b1 b0).μ z = (z + 1).toNat := fun _ => rfl
  simp only [hM]
  unfold wcmp
  generalize wN a1 a0 = A at *
  generalize wN b1 b0 = B at *
  have h128 : (2 : Int) ^ ((127 : Int) + 1).toNat = two128 := by decide
  rintro _ rfl _ rfl
  refine ⟨⟨127, ⟨⟨by decide, by decide⟩, ?_⟩, rfl, rfl⟩, fun y hy => ?_⟩
  · rw [h128, Int.ediv_eq_zero_of_lt hA.1 hA.2, Int.ediv_eq_zero_of_lt hB.1 hB.2]
  obtain ⟨⟨y1, y2⟩, hq⟩ := hy
  refine ⟨fun h0 => ⟨⟨⟨⟨ha1, ha1'⟩, ha0, ha0'⟩, h0, by omega⟩, fun v hv => ⟨⟨⟨⟨hb1, hb1'⟩, hb0, hb0'⟩, h0, by omega⟩, fun w hw => ?_⟩⟩, fun h0 => ?_⟩
  · rw [toNat_succ h0] at hq
    have eA := ediv_succ A y.toNat
    have eB := ediv_succ B y.toNat
    have mAB : B ≤ A → B / 2 ^ y.toNat ≤ A / 2 ^ y.toNat := fun h => Int.ediv_le_ediv (pow_pos' _) h
    have mBA : A ≤ B → A / 2 ^ y.toNat ≤ B / 2 ^ y.toNat := fun h => Int.ediv_le_ediv (pow_pos' _) h
    refine ⟨fun hlt v3 hv3 _ => ?_, fun _ => ⟨fun hgt v3 hv3 _ => ?_, fun heq v3 hv3 => ⟨y - 1, ⟨⟨by omega, by omega⟩, ?_⟩, by omega, by omega⟩⟩⟩
    · rw [if_pos (by omega)]; exact hv3
    · rw [if_neg (by omega), if_pos (by omega)]; exact hv3
    · rw [show y - 1 + 1 = y by omega]; omega
  · have : (y + 1).toNat = 0 := by omega
    rw [this, show (2 : Int) ^ 0 = 1 from rfl, Int.ediv_one, Int.ediv_one] at hq
    intro v hv _
    rw [if_neg (by omega), if_neg (by omega)]; exact hv

def rcmp_C (x : ((Int × Int) × (Int × Int))) : Cfg := { Γ := Go.Sx.look tRbit, names := true, loops := onlyAt 2 [rcmpFam (x.1.1) (x.1.2) (x.2.1) (x.2.2)] }
theorem rcmp_al (x : ((Int × Int) × (Int × Int))) : Shown (rcmpPt.vc Try.prog (rcmp_C x) Try.f38 x) := ⟨@Eq.mp _ _ (by kernel_rfl) (rcmp_vc (x.1.1) (x.1.2) (x.2.1) (x.2.2))⟩
theorem rcmp_ok : SpOk Try.prog 38 rcmpPt.sp := @Pat.okS _ rcmpPt Try.prog rcmp_C 38 Try.f38 (fun x => cfg_tab rfl tRbit_ok) (by kernel_rfl) Try.func38 (fun _ => rfl) rcmp_al
end Go.Proofs.Ytijpjhelgggmfaa
