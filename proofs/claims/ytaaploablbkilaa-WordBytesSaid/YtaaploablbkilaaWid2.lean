import Derived.Test.YtaaploablbkilaaWid
open Go Go.Sx Go.Proofs
set_option maxRecDepth 100000
namespace Go.Proofs.Ytaaploablbkilaa

def tAddW : Tab := [(36, add64Sp)]
theorem tAddW_ok : TabOk Try.prog tAddW := (tab_cons add64_ok tab_nil)

theorem addW_vc : ∀ (a1 a0 b1 b0 : Int),
    ((((0 : Int) ≤ a1 ∧ a1 < (18446744073709551616 : Int)) ∧ (0 : Int) ≤ a0 ∧ a0 < (18446744073709551616 : Int)) ∧
          ((0 : Int) ≤ b1 ∧ b1 < (18446744073709551616 : Int)) ∧ (0 : Int) ≤ b0 ∧ b0 < (18446744073709551616 : Int)) ∧
        True →
      ((((0 : Int) ≤ a0 ∧ a0 < (18446744073709551616 : Int)) ∧ (0 : Int) ≤ b0 ∧ b0 < (18446744073709551616 : Int)) ∧ (0 : Int) ≤ (0 : Int) ∧ (0 : Int) ≤ (1 : Int)) ∧
        ∀ (v : Int),
          v = (a0 + b0 + (0 : Int)) % (18446744073709551616 : Int) →
            ∀ (v_1 : Int),
              v_1 = (a0 + b0 + (0 : Int)) / (18446744073709551616 : Int) →
                ((((0 : Int) ≤ a1 ∧ a1 < (18446744073709551616 : Int)) ∧ (0 : Int) ≤ b1 ∧ b1 < (18446744073709551616 : Int)) ∧ (0 : Int) ≤ v_1 ∧ v_1 ≤ (1 : Int)) ∧
                  ∀ (v_2 : Int),
                    v_2 = (a1 + b1 + v_1) % (18446744073709551616 : Int) →
                      ∀ (v_3 : Int),
                        v_3 = (a1 + b1 + v_1) / (18446744073709551616 : Int) →
                          ((v_3 != (0 : Int)) = true →
                              (((0 : Int) ≤ a1 ∧ a1 < (18446744073709551616 : Int)) ∧ (0 : Int) ≤ a0 ∧ a0 < (18446744073709551616 : Int)) ∧
                                  ((0 : Int) ≤ b1 ∧ b1 < (18446744073709551616 : Int)) ∧ (0 : Int) ≤ b0 ∧ b0 < (18446744073709551616 : Int) →
                                (((0 : Int) = (if wN a1 a0 + wN b1 b0 < two128 then wN a1 a0 + wN b1 b0 else (0 : Int)) / (18446744073709551616 : Int) ∧
                                      (0 : Int) = (if wN a1 a0 + wN b1 b0 < two128 then wN a1 a0 + wN b1 b0 else (0 : Int)) % (18446744073709551616 : Int) ∧ True) ∧
                                    decide (wN a1 a0 + wN b1 b0 < two128) = false ∧ True) ∧
                                  True ∧ True) ∧
                            ((v_3 != (0 : Int)) = false →
                              (((0 : Int) ≤ a1 ∧ a1 < (18446744073709551616 : Int)) ∧ (0 : Int) ≤ a0 ∧ a0 < (18446744073709551616 : Int)) ∧
                                  ((0 : Int) ≤ b1 ∧ b1 < (18446744073709551616 : Int)) ∧ (0 : Int) ≤ b0 ∧ b0 < (18446744073709551616 : Int) →
                                ((v_2 = (if wN a1 a0 + wN b1 b0 < two128 then wN a1 a0 + wN b1 b0 else (0 : Int)) / (18446744073709551616 : Int) ∧
                                      v = (if wN a1 a0 + wN b1 b0 < two128 then wN a1 a0 + wN b1 b0 else (0 : Int)) % (18446744073709551616 : Int) ∧ True) ∧
                                    decide (wN a1 a0 + wN b1 b0 < two128) = true ∧ True) ∧
                                  True ∧ True) := by
  simp only [and_true, decide_eq_true_eq, decide_eq_false_iff_not, and_self, bne_iff_ne, Int.not_lt, ne_eq, bne_eq_false_iff_eq]
  rintro a1 a0 b1 b0 ⟨⟨⟨ha1, ha1'⟩, ha0, ha0'⟩, ⟨hb1, hb1'⟩, hb0, hb0'⟩
  refine ⟨⟨⟨⟨ha0, ha0'⟩, hb0, hb0'⟩, by decide, by decide⟩, fun v hv v1 hv1 => ⟨⟨⟨⟨ha1, ha1'⟩, hb1, hb1'⟩, by omega, by omega⟩, fun v2 hv2 v3 hv3 => ?_⟩⟩
  have e : wN a1 a0 = a1 * 18446744073709551616 + a0 := rfl
  have e' : wN b1 b0 = b1 * 18446744073709551616 + b0 := rfl
  rw [e, e']
  unfold two128
  refine ⟨fun h _ => ?_, fun h _ => ?_⟩
  · rw [if_neg (by omega)]
    omega
  · rw [if_pos (by omega)]
    omega

def addW_C (_ : ((Int × Int) × (Int × Int))) : Cfg := { Γ := Go.Sx.look tAddW, names := true }
theorem addW_al (x : ((Int × Int) × (Int × Int))) : Shown (addP.vc Try.prog (addW_C x) Try.f23 x) := ⟨@Eq.mp _ _ (by kernel_rfl) (addW_vc (x.1.1) (x.1.2) (x.2.1) (x.2.2))⟩
theorem addW_ok : SpOk Try.prog 23 addP.sp := @Pat.okS _ addP Try.prog addW_C 23 Try.f23 (fun x => cfg_tab rfl tAddW_ok) (by kernel_rfl) Try.func23 (fun _ => rfl) addW_al
def byteF (f : Nat → Int) (j : Nat) : Int := f (j / 4) / 2 ^ (8 * (j % 4)) % 256
def wordReg (n : Nat) (f : Nat → Int) : Reg := { own := false, pl := true, fam := 1, el := 22, tot := fun _ => 0, c := fun _ => .arr n 1 (fun j => .int .u32 (f j)) }
def bytesPt : Pat IS where
  view | [.slice r 0 [] 0 1 n c], H => some ⟨n, c, fun j => tInt (tArr (regC H r) j)⟩ | _, _ => none
  args x := [.slice 0 0 [] 0 1 x.n x.cap]
  H x := [wordReg x.n x.f]
  out x := .need (x.n ≤ 1000 ∧ ∀ j, u32 (x.f j)) (.ret (.slice 1 0 [] 0 1 (4 * x.n) (4 * x.n)) [wordReg x.n x.f, bReg (4 * x.n) (4 * x.n) (byteF x.f)])
def bytesF (f : Nat → Int) (y j : Nat) : Int := if j < 4 * y then byteF f j else 0
def bytesFam (x : IS) : Fam where
  α := Nat
  I y := y ≤ x.n
  st y := { sl := mkSl 24 [(3, .slice 1 0 [] 0 1 (4 * x.n) (4 * x.n)), (10, .slice 0 0 [] 0 1 x.n x.cap), (11, .int .i64 x.n), (12, .int .i64 y)], H := [wordReg x.n x.f, bReg (4 * x.n) (4 * x.n) (bytesF x.f y)] }
  μ y := x.n - y
def tBytes : Tab := [(19, setPt.sp)]
theorem tBytes_ok : TabOk Try.prog tBytes := (tab_cons set_ok tab_nil)

theorem bytes_vc : ∀ (x : IS),
    (x.n ≤ (1000 : Nat) ∧ ∀ (j : Nat), (0 : Int) ≤ x.f j ∧ x.f j < (4294967296 : Int)) ∧ True →
      ((0 : Int) ≤ IntKind.i64.wrap ((4 : Int) * (↑x.n : Int)) ∧
          IntKind.i64.wrap ((4 : Int) * (↑x.n : Int)) ≤ IntKind.i64.wrap ((4 : Int) * (↑x.n : Int)) ∧
            IntKind.i64.wrap ((4 : Int) * (↑x.n : Int)) ≤ (9223372036854775807 : Int) ∧ (↑(1 : Nat) : Int) * IntKind.i64.wrap ((4 : Int) * (↑x.n : Int)) ≤ (281474976710656 : Int)) ∧
        (∃ (y : Nat),
            (bytesFam x).I y ∧
              (((True ∧
                      True ∧
                        (0 : Nat) = (0 : Nat) ∧
                          (IntKind.i64.wrap ((4 : Int) * (↑x.n : Int))).toNat = (4 : Nat) * x.n ∧ (IntKind.i64.wrap ((4 : Int) * (↑x.n : Int))).toNat = (4 : Nat) * x.n) ∧
                    (True ∧ True ∧ (0 : Nat) = (0 : Nat) ∧ x.n = x.n ∧ x.cap = x.cap) ∧ (↑x.n : Int) = (↑x.n : Int) ∧ (0 : Int) = (↑y : Int) ∧ True) ∧
                  ((0 : Nat) ≤ (0 : Nat) ∧ x.n = x.n ∧ ∀ (j : Nat), j < x.n → x.f j = x.f j) ∧
                    ((0 : Nat) ≤ (IntKind.i64.wrap ((4 : Int) * (↑x.n : Int))).toNat * (1 : Nat) ∧
                        (4 : Nat) * x.n = (IntKind.i64.wrap ((4 : Int) * (↑x.n : Int))).toNat ∧
                          ∀ (j : Nat), j < (IntKind.i64.wrap ((4 : Int) * (↑x.n : Int))).toNat → (0 : Int) = bytesF x.f y j) ∧
                      True) ∧
                True) ∧
          ∀ (y : Nat),
            (bytesFam x).I y →
              (decide ((↑y : Int) < (↑x.n : Int)) = true →
                  ((0 : Int) ≤ (↑y : Int) ∧ (↑y : Int) < (↑x.n : Int)) ∧
                    (0 : Nat) + (↑y : Int).toNat < x.n ∧
                      ∀ (v : Int),
                        v = (↑y : Int) →
                          ∀ (v_1 : Int),
                            v_1 = x.f ((0 : Nat) + (↑y : Int).toNat) →
                              (((True ∧ True ∧ (0 : Nat) = (0 : Nat) ∧ (4 : Nat) * x.n = (4 : Nat) * x.n ∧ (4 : Nat) * x.n = (4 : Nat) * x.n) ∧
                                    IntKind.i64.wrap ((4 : Int) * v) = IntKind.i64.wrap ((4 : Int) * v) ∧ v_1 = v_1 ∧ True) ∧
                                  ((0 : Nat) ≤ (0 : Nat) ∧ (4 : Nat) * x.n = (4 : Nat) * x.n ∧ ∀ (j : Nat), j < (4 : Nat) * x.n → bytesF x.f y j = bytesF x.f y j) ∧ True) ∧
                                ((4 : Nat) * x.n ≤ (9223372036854775807 : Nat) ∧
                                    ((-9223372036854775808 : Int) ≤ IntKind.i64.wrap ((4 : Int) * v) ∧ IntKind.i64.wrap ((4 : Int) * v) < (9223372036854775808 : Int)) ∧
                                      (0 : Int) ≤ v_1 ∧ v_1 < (4294967296 : Int)) ∧
                                  ∃ (y_1 : Nat),
                                    (bytesFam x).I y_1 ∧
                                      (((True ∧ True ∧ (0 : Nat) = (0 : Nat) ∧ (4 : Nat) * x.n = (4 : Nat) * x.n ∧ (4 : Nat) * x.n = (4 : Nat) * x.n) ∧
                                            (True ∧ True ∧ (0 : Nat) = (0 : Nat) ∧ x.n = x.n ∧ x.cap = x.cap) ∧
                                              (↑x.n : Int) = (↑x.n : Int) ∧ IntKind.i64.wrap ((↑y : Int) + (1 : Int)) = (↑y_1 : Int) ∧ True) ∧
                                          ((0 : Nat) ≤ (0 : Nat) ∧ x.n = x.n ∧ ∀ (j : Nat), j < x.n → x.f j = x.f j) ∧
                                            ((0 : Nat) ≤ (0 : Nat) ∧
                                                (4 : Nat) * x.n = (4 : Nat) * x.n ∧
                                                  ∀ (j : Nat),
                                                    j < (4 : Nat) * x.n →
                                                      setB (fun (j : Nat) => bytesF x.f y j) (IntKind.i64.wrap ((4 : Int) * v)).toNat v_1
                                                          (if
                                                              fitsB (BS.mk false ((4 : Nat) * x.n) ((4 : Nat) * x.n) fun (j : Nat) => bytesF x.f y j)
                                                                (IntKind.i64.wrap ((4 : Int) * v)) then
                                                            (4 : Nat)
                                                          else (0 : Nat))
                                                          j =
                                                        bytesF x.f y_1 j) ∧
                                              True) ∧
                                        (bytesFam x).μ y_1 < (bytesFam x).μ y) ∧
                (decide ((↑y : Int) < (↑x.n : Int)) = false →
                  (x.n ≤ (1000 : Nat) ∧ ∀ (j : Nat), (0 : Int) ≤ x.f j ∧ x.f j < (4294967296 : Int)) →
                    (True ∧ True ∧ (0 : Nat) = (0 : Nat) ∧ (4 : Nat) * x.n = (4 : Nat) * x.n ∧ (4 : Nat) * x.n = (4 : Nat) * x.n) ∧
                      True ∧
                        ((0 : Nat) ≤ (0 : Nat) ∧ x.n = x.n ∧ ∀ (j : Nat), j < x.n → x.f j = x.f j) ∧
                          ((0 : Nat) ≤ (0 : Nat) ∧ (4 : Nat) * x.n = (4 : Nat) * x.n ∧ ∀ (j : Nat), j < (4 : Nat) * x.n → bytesF x.f y j = byteF x.f j) ∧ True) := by
  simp only [true_and, and_true, eq_self, Nat.le_refl, decide_eq_true_eq, decide_eq_false_iff_not, implies_true, and_self, Int.not_lt, Nat.zero_add, Int.toNat_natCast, IntKind.wrap_i64]
  rintro x hx
  obtain ⟨hn, hf⟩ := id hx
  have hI : ∀ z : Nat, (bytesFam x).I z = (z ≤ x.n) := fun _ => rfl
  have hM : ∀ z : Nat, (bytesFam x).μ z = x.n - z := fun _ => rfl
  simp only [hI, hM]
  have e1 : (4 * (x.n : Int) + 9223372036854775808) % 18446744073709551616 - 9223372036854775808 = ((4 * x.n : Nat) : Int) := by omega
  rw [e1]
  refine ⟨by omega, ⟨0, by omega, by omega, by omega, by omega, fun j hj => ?_⟩, fun y hy => ⟨fun hlt => ⟨by omega, by omega, fun v hv v1 hv1 => ⟨⟨by omega, by omega, by rw [hv1]; exact hf y⟩, y + 1, by omega, ⟨by omega, fun j hj => ?_⟩, by omega⟩⟩, fun hge _ j hj => ?_⟩⟩
  · unfold bytesF; rw [if_neg (by omega)]
  · have e2 : (4 * v + 9223372036854775808) % 18446744073709551616 - 9223372036854775808 = ((4 * y : Nat) : Int) := by omega
    rw [e2, if_pos (by unfold fitsB; simp only; omega)]
    unfold setB bytesF
    simp only [Int.toNat_natCast]
    by_cases h1 : j < 4 * y
    · rw [if_neg (by omega), if_pos h1, if_pos (by omega)]
    · by_cases h2 : j < 4 * y + 4
      · rw [if_pos (by omega), if_pos (by omega), hv1]
        unfold byteF
        rw [show j / 4 = y by omega, show j % 4 = j - 4 * y by omega]
      · rw [if_neg (by omega), if_neg h1, if_neg (by omega)]
  · unfold bytesF
    rw [if_pos (by omega)]

def bytes_C (x : IS) : Cfg := { Γ := Go.Sx.look tBytes, names := true, loops := onlyAt 3 [bytesFam x] }
theorem bytes_al (x : IS) : Shown (bytesPt.vc Try.prog (bytes_C x) Try.f22 x) := ⟨@Eq.mp _ _ (by kernel_rfl) (bytes_vc x)⟩
theorem bytes_ok : SpOk Try.prog 22 bytesPt.sp := @Pat.okS _ bytesPt Try.prog bytes_C 22 Try.f22 (fun x => cfg_tab rfl tBytes_ok) (by kernel_rfl) Try.func22 (fun _ => rfl) bytes_al
def minusPt : Pat ((Int × Int) × (Int × Int)) where
  view | [.cons (.int .u64 a) (.cons (.int .u64 b) .nil), .cons (.int .u64 c) (.cons (.int .u64 d) .nil)], _ => some ((a, b), (c, d)) | _, _ => none
  args x := [wT x.1.1 x.1.2, wT x.2.1 x.2.2]
  H _ := []
  out x := .need (((u64 x.1.1 ∧ u64 x.1.2) ∧ u64 x.2.1 ∧ u64 x.2.2) ∧ wN x.2.1 x.2.2 ≤ wN x.1.1 x.1.2) (.retq (wO (wN x.1.1 x.1.2 - wN x.2.1 x.2.2)))
theorem minus_vc : ∀ (a1 a0 b1 b0 : Int),
    (((((0 : Int) ≤ a1 ∧ a1 < (18446744073709551616 : Int)) ∧ (0 : Int) ≤ a0 ∧ a0 < (18446744073709551616 : Int)) ∧
            ((0 : Int) ≤ b1 ∧ b1 < (18446744073709551616 : Int)) ∧ (0 : Int) ≤ b0 ∧ b0 < (18446744073709551616 : Int)) ∧
          wN b1 b0 ≤ wN a1 a0) ∧
        True →
      (decide (a0 < b0) = true →
          ((((0 : Int) ≤ a1 ∧ a1 < (18446744073709551616 : Int)) ∧ (0 : Int) ≤ a0 ∧ a0 < (18446744073709551616 : Int)) ∧
                ((0 : Int) ≤ b1 ∧ b1 < (18446744073709551616 : Int)) ∧ (0 : Int) ≤ b0 ∧ b0 < (18446744073709551616 : Int)) ∧
              wN b1 b0 ≤ wN a1 a0 →
            (IntKind.u64.wrap (IntKind.u64.wrap (a1 - b1) - (1 : Int)) = (wN a1 a0 - wN b1 b0) / (18446744073709551616 : Int) ∧
                IntKind.u64.wrap (a0 - b0) = (wN a1 a0 - wN b1 b0) % (18446744073709551616 : Int) ∧ True) ∧
              True ∧ True) ∧
        (decide (a0 < b0) = false →
          ((((0 : Int) ≤ a1 ∧ a1 < (18446744073709551616 : Int)) ∧ (0 : Int) ≤ a0 ∧ a0 < (18446744073709551616 : Int)) ∧
                ((0 : Int) ≤ b1 ∧ b1 < (18446744073709551616 : Int)) ∧ (0 : Int) ≤ b0 ∧ b0 < (18446744073709551616 : Int)) ∧
              wN b1 b0 ≤ wN a1 a0 →
            (IntKind.u64.wrap (a1 - b1) = (wN a1 a0 - wN b1 b0) / (18446744073709551616 : Int) ∧
                IntKind.u64.wrap (a0 - b0) = (wN a1 a0 - wN b1 b0) % (18446744073709551616 : Int) ∧ True) ∧
              True ∧ True) := by
  simp only [and_true, decide_eq_true_eq, decide_eq_false_iff_not, and_self, Int.not_lt, IntKind.wrap_u64]
  rintro a1 a0 b1 b0 ⟨⟨⟨⟨ha1, ha1'⟩, ha0, ha0'⟩, ⟨hb1, hb1'⟩, hb0, hb0'⟩, hle⟩
  have e : wN a1 a0 = a1 * 18446744073709551616 + a0 := rfl
  have e' : wN b1 b0 = b1 * 18446744073709551616 + b0 := rfl
  rw [e, e'] at hle
  simp only [e, e']
  refine ⟨fun h _ => ⟨by omega, by omega⟩, fun h _ => ⟨by omega, by omega⟩⟩

def minus_C (_ : ((Int × Int) × (Int × Int))) : Cfg := { Γ := Go.Sx.look [], names := true }
theorem minus_al (x : ((Int × Int) × (Int × Int))) : Shown (minusPt.vc Try.prog (minus_C x) Try.f41 x) := ⟨@Eq.mp _ _ (by kernel_rfl) (minus_vc (x.1.1) (x.1.2) (x.2.1) (x.2.2))⟩
theorem minus_ok : SpOk Try.prog 41 minusPt.sp := @Pat.okS _ minusPt Try.prog minus_C 41 Try.f41 (fun x => cfg_nil rfl) (by kernel_rfl) Try.func41 (fun _ => rfl) minus_al
def ofPt : Pat (Int × Int) where
  view | [.cons (.int .u64 a) (.cons (.int .u64 b) .nil)], _ => some (a, b) | _, _ => none
  args x := [wT x.1 x.2]
  H _ := []
  out x := .retq (wT x.1 x.2)
theorem of_vc : ∀ (a b : Int), True → (a = a ∧ b = b ∧ True) ∧ True ∧ True := by
  simp only [eq_self, implies_true, and_self]
  try exact fun _ _ => ⟨rfl, rfl⟩

def of_C (_ : (Int × Int)) : Cfg := { Γ := Go.Sx.look [], names := true }
theorem of_al (x : (Int × Int)) : Shown (ofPt.vc Try.prog (of_C x) Try.f25 x) := ⟨@Eq.mp _ _ (by kernel_rfl) (of_vc (x.1) (x.2))⟩
theorem of_ok : SpOk Try.prog 25 ofPt.sp := @Pat.okS _ ofPt Try.prog of_C 25 Try.f25 (fun x => cfg_nil rfl) (by kernel_rfl) Try.func25 (fun _ => rfl) of_al
def rcmpPt : Pat ((Int × Int) × (Int × Int)) where
  view | [.cons (.int .u64 a) (.cons (.int .u64 b) .nil), .cons (.int .u64 c) (.cons (.int .u64 d) .nil)], _ => some ((a, b), (c, d)) | _, _ => none
  args x := [wT x.1.1 x.1.2, wT x.2.1 x.2.2]
  H _ := []
  out x := .need ((u64 x.1.1 ∧ u64 x.1.2) ∧ u64 x.2.1 ∧ u64 x.2.2) (.retq (.int .i64 (wcmp x.1.1 x.1.2 x.2.1 x.2.2)))
def rcmpFam (a1 a0 b1 b0 : Int) : Fam where
  α := Int
  I y := (-1 ≤ y ∧ y ≤ 127) ∧ wN a1 a0 / 2 ^ (y + 1).toNat = wN b1 b0 / 2 ^ (y + 1).toNat
  st y := { sl := mkSl 24 [(2, p0 0), (3, p0 1), (4, .int .i64 0), (5, .int .i64 y)], H := [newReg 43 (wT a1 a0), newReg 43 (wT b1 b0)] }
  μ y := (y + 1).toNat

def tRbit : Tab := [(37, bitP.sp)]
theorem tRbit_ok : TabOk Try.prog tRbit := (tab_cons bit_ok tab_nil)

theorem rcmp_vc : ∀ (a1 a0 b1 b0 : Int),
    ((((0 : Int) ≤ a1 ∧ a1 < (18446744073709551616 : Int)) ∧ (0 : Int) ≤ a0 ∧ a0 < (18446744073709551616 : Int)) ∧
          ((0 : Int) ≤ b1 ∧ b1 < (18446744073709551616 : Int)) ∧ (0 : Int) ≤ b0 ∧ b0 < (18446744073709551616 : Int)) ∧
        True →
      ∀ (v : Int),
        v = (0 : Int) →
          ∀ (v_1 : Int),
            v_1 = (127 : Int) →
              (∃ (y : Int),
                  (((-1 : Int) ≤ y ∧ y ≤ (127 : Int)) ∧ wN a1 a0 / (2 : Int) ^ (y + (1 : Int)).toNat = wN b1 b0 / (2 : Int) ^ (y + (1 : Int)).toNat) ∧
                    (((True ∧ True) ∧ (True ∧ True) ∧ v = (0 : Int) ∧ v_1 = y ∧ True) ∧
                        ((2 : Nat) ≤ (2 : Nat) ∧ a1 = a1 ∧ a0 = a0 ∧ True) ∧ ((2 : Nat) ≤ (2 : Nat) ∧ b1 = b1 ∧ b0 = b0 ∧ True) ∧ True) ∧
                      True) ∧
                ∀ (y : Int),
                  ((-1 : Int) ≤ y ∧ y ≤ (127 : Int)) ∧ wN a1 a0 / (2 : Int) ^ (y + (1 : Int)).toNat = wN b1 b0 / (2 : Int) ^ (y + (1 : Int)).toNat →
                    (decide (y ≥ (0 : Int)) = true →
                        (((a1 = a1 ∧ a0 = a0 ∧ True) ∧ y = y ∧ True) ∧ True) ∧
                          ((((0 : Int) ≤ a1 ∧ a1 < (18446744073709551616 : Int)) ∧ (0 : Int) ≤ a0 ∧ a0 < (18446744073709551616 : Int)) ∧ (0 : Int) ≤ y ∧ y < (128 : Int)) ∧
                            ∀ (v : Int),
                              v = wN a1 a0 / (2 : Int) ^ y.toNat % (2 : Int) →
                                (((b1 = b1 ∧ b0 = b0 ∧ True) ∧ y = y ∧ True) ∧ True) ∧
                                  ((((0 : Int) ≤ b1 ∧ b1 < (18446744073709551616 : Int)) ∧ (0 : Int) ≤ b0 ∧ b0 < (18446744073709551616 : Int)) ∧ (0 : Int) ≤ y ∧ y < (128 : Int)) ∧
                                    ∀ (v_2 : Int),
                                      v_2 = wN b1 b0 / (2 : Int) ^ y.toNat % (2 : Int) →
                                        (decide (v < v_2) = true →
                                            ∀ (v : Int),
                                              v = (-1 : Int) →
                                                (((0 : Int) ≤ a1 ∧ a1 < (18446744073709551616 : Int)) ∧ (0 : Int) ≤ a0 ∧ a0 < (18446744073709551616 : Int)) ∧
                                                    ((0 : Int) ≤ b1 ∧ b1 < (18446744073709551616 : Int)) ∧ (0 : Int) ≤ b0 ∧ b0 < (18446744073709551616 : Int) →
                                                  v = wcmp a1 a0 b1 b0 ∧ True ∧ True) ∧
                                          (decide (v < v_2) = false →
                                            (decide (v > v_2) = true →
                                                ∀ (v : Int),
                                                  v = (1 : Int) →
                                                    (((0 : Int) ≤ a1 ∧ a1 < (18446744073709551616 : Int)) ∧ (0 : Int) ≤ a0 ∧ a0 < (18446744073709551616 : Int)) ∧
                                                        ((0 : Int) ≤ b1 ∧ b1 < (18446744073709551616 : Int)) ∧ (0 : Int) ≤ b0 ∧ b0 < (18446744073709551616 : Int) →
                                                      v = wcmp a1 a0 b1 b0 ∧ True ∧ True) ∧
                                              (decide (v > v_2) = false →
                                                ∀ (v : Int),
                                                  v = IntKind.i64.wrap (y - (1 : Int)) →
                                                    ∃ (y_1 : Int),
                                                      (((-1 : Int) ≤ y_1 ∧ y_1 ≤ (127 : Int)) ∧
                                                          wN a1 a0 / (2 : Int) ^ (y_1 + (1 : Int)).toNat = wN b1 b0 / (2 : Int) ^ (y_1 + (1 : Int)).toNat) ∧
                                                        (((True ∧ True) ∧ (True ∧ True) ∧ (0 : Int) = (0 : Int) ∧ v = y_1 ∧ True) ∧
                                                            ((2 : Nat) ≤ (2 : Nat) ∧ a1 = a1 ∧ a0 = a0 ∧ True) ∧ ((2 : Nat) ≤ (2 : Nat) ∧ b1 = b1 ∧ b0 = b0 ∧ True) ∧ True) ∧
                                                          (rcmpFam a1 a0 b1 b0).μ y_1 < (rcmpFam a1 a0 b1 b0).μ y))) ∧
                      (decide (y ≥ (0 : Int)) = false →
                        ∀ (v : Int),
                          v = (0 : Int) →
                            (((0 : Int) ≤ a1 ∧ a1 < (18446744073709551616 : Int)) ∧ (0 : Int) ≤ a0 ∧ a0 < (18446744073709551616 : Int)) ∧
                                ((0 : Int) ≤ b1 ∧ b1 < (18446744073709551616 : Int)) ∧ (0 : Int) ≤ b0 ∧ b0 < (18446744073709551616 : Int) →
                              v = wcmp a1 a0 b1 b0 ∧ True ∧ True) := by
  simp only [true_and, and_true, eq_self, Nat.le_refl, decide_eq_true_eq, decide_eq_false_iff_not, and_self, Int.not_lt, Int.not_le, ge_iff_le, gt_iff_lt, IntKind.wrap_i64]
  rintro a1 a0 b1 b0 ⟨⟨⟨ha1, ha1'⟩, ha0, ha0'⟩, ⟨hb1, hb1'⟩, hb0, hb0'⟩
  have hA : 0 ≤ wN a1 a0 ∧ wN a1 a0 < two128 := by unfold wN two128; omega
  have hB : 0 ≤ wN b1 b0 ∧ wN b1 b0 < two128 := by unfold wN two128; omega
  have hM : ∀ z : Int, (rcmpFam a1 a0 b1 b0).μ z = (z + 1).toNat := fun _ => rfl
  simp only [hM]
  unfold wcmp
  generalize wN a1 a0 = A at *
  generalize wN b1 b0 = B at *
  have h128 : (2 : Int) ^ ((127 : Int) + 1).toNat = two128 := by decide
  rintro _ rfl _ rfl
  refine ⟨⟨127, ⟨⟨by decide, by decide⟩, ?_⟩, rfl, rfl⟩, fun y hy => ?_⟩
  · rw [h128, Int.ediv_eq_zero_of_lt hA.1 hA.2, Int.ediv_eq_zero_of_lt hB.1 hB.2]
  obtain ⟨⟨y1, y2⟩, hq⟩ := hy
  refine ⟨fun h0 => ⟨⟨⟨⟨ha1, ha1'⟩, ha0, ha0'⟩, h0, by omega⟩, fun v hv => ⟨⟨⟨⟨hb1, hb1'⟩, hb0, hb0'⟩, h0, by omega⟩, fun w hw => ?_⟩⟩, fun h0 => ?_⟩
  · rw [toNat_succ h0] at hq
    have eA := ediv_succ A y.toNat
    have eB := ediv_succ B y.toNat
    have mAB : B ≤ A → B / 2 ^ y.toNat ≤ A / 2 ^ y.toNat := fun h => Int.ediv_le_ediv (pow_pos' _) h
    have mBA : A ≤ B → A / 2 ^ y.toNat ≤ B / 2 ^ y.toNat := fun h => Int.ediv_le_ediv (pow_pos' _) h
    refine ⟨fun hlt v3 hv3 _ => ?_, fun _ => ⟨fun hgt v3 hv3 _ => ?_, fun heq v3 hv3 => ⟨y - 1, ⟨⟨by omega, by omega⟩, ?_⟩, by omega, by omega⟩⟩⟩
    · rw [if_pos (by omega)]; exact hv3
    · rw [if_neg (by omega), if_pos (by omega)]; exact hv3
    · rw [show y - 1 + 1 = y by omega]; omega
  · have : (y + 1).toNat = 0 := by omega
    rw [this, show (2 : Int) ^ 0 = 1 from rfl, Int.ediv_one, Int.ediv_one] at hq
    intro v hv _
    rw [if_neg (by omega), if_neg (by omega)]; exact hv

def rcmp_C (x : ((Int × Int) × (Int × Int))) : Cfg := { Γ := Go.Sx.look tRbit, names := true, loops := onlyAt 2 [rcmpFam (x.1.1) (x.1.2) (x.2.1) (x.2.2)] }
theorem rcmp_al (x : ((Int × Int) × (Int × Int))) : Shown (rcmpPt.vc Try.prog (rcmp_C x) Try.f31 x) := ⟨@Eq.mp _ _ (by kernel_rfl) (rcmp_vc (x.1.1) (x.1.2) (x.2.1) (x.2.2))⟩
theorem rcmp_ok : SpOk Try.prog 31 rcmpPt.sp := @Pat.okS _ rcmpPt Try.prog rcmp_C 31 Try.f31 (fun x => cfg_tab rfl tRbit_ok) (by kernel_rfl) Try.func31 (fun _ => rfl) rcmp_al
end Go.Proofs.Ytaaploablbkilaa
