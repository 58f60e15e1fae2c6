import Derived.Test.YtjofnajamlmllaaDoorI3
open Go Go.Sx Go.Proofs
set_option maxRecDepth 100000
namespace Go.Proofs.YtjofnajamlmllaaDoor
structure IS where
  n : Nat
  cap : Nat
  f : Nat → Int
def byteF (f : Nat → Int) (j : Nat) : Int := f (j / 4) / 2 ^ (8 * (j % 4)) % 256
def wordReg (n : Nat) (f : Nat → Int) : Reg := { own := false, pl := true, fam := 1, el := 22, tot := fun _ => 0, c := fun _ => .arr n 1 (fun j => .int .u32 (f j)) }
def bytesPt : Pat IS where
  view | [.slice r 0 [] 0 1 n c], H => some ⟨n, c, fun j => tInt (tArr (regC H r) j)⟩ | _, _ => none
  args x := [.slice 0 0 [] 0 1 x.n x.cap]
  H x := [wordReg x.n x.f]
  out x := .need (x.n ≤ 1000 ∧ ∀ j, u32 (x.f j)) (.ret (.slice 1 0 [] 0 1 (4 * x.n) (4 * x.n)) [wordReg x.n x.f, bReg (4 * x.n) (4 * x.n) (byteF x.f)])
def bytesF (f : Nat → Int) (y j : Nat) : Int := if j < 4 * y then byteF f j else 0
def bytesFam (x : IS) : Fam where
  α := Nat
  I y := y ≤ x.n
  st y := { sl := mkSl 24 [(3, .slice 1 0 [] 0 1 (4 * x.n) (4 * x.n)), (10, .slice 0 0 [] 0 1 x.n x.cap), (11, .int .i64 x.n), (12, .int .i64 y)], H := [wordReg x.n x.f, bReg (4 * x.n) (4 * x.n) (bytesF x.f y)] }
  μ y := x.n - y
def tBytes : Tab := [(37, setPt.sp)]
theorem tBytes_ok : TabOk Tryd.prog tBytes := (tab_cons set_ok tab_nil)

theorem bytes_vc : ∀ (x : IS), (x.n ≤ (1000 : Nat) ∧ ∀ (j : Nat), (0 : Int) ≤ x.f j ∧ x.f j < (4294967296 : Int)) ∧ True → ((0 : Int) ≤ IntKind.i64.wrap ((4 : Int) * (↑x.n : Int)) ∧ IntKind.i64.wrap ((4 : Int) * (↑x.n : Int)) ≤
  IntKind.i64.wrap ((4 : Int) * (↑x.n : Int)) ∧ IntKind.i64.wrap ((4 : Int) * (↑x.n : Int)) ≤ (9223372036854775807 : Int) ∧ (↑(1 : Nat) : Int) * IntKind.i64.wrap ((4 : Int) * (↑x.n : Int)) ≤ (281474976710656 : Int)) ∧ (∃
  (y : Nat), (bytesFam x).I y ∧ (((True ∧ True ∧ (0 : Nat) = (0 : Nat) ∧ (IntKind.i64.wrap ((4 : Int) * (↑x.n : Int))).toNat = (4 : Nat) * x.n ∧ (IntKind.i64.wrap ((4 : Int) * (↑x.n : Int))).toNat = (4 : Nat) * x.n) ∧
  (True ∧ True ∧ (0 : Nat) = (0 : Nat) ∧ x.n = x.n ∧ x.cap = x.cap) ∧ (↑x.n : Int) = (↑x.n : Int) ∧ (0 : Int) = (↑y : Int) ∧ True) ∧ ((0 : Nat) ≤ (0 : Nat) ∧ x.n = x.n ∧ ∀ (j : Nat), j < x.n → x.f j = x.f j) ∧ ((0 : Nat) ≤
  (IntKind.i64.wrap ((4 : Int) * (↑x.n : Int))).toNat * (1 : Nat) ∧ (4 : Nat) * x.n = (IntKind.i64.wrap ((4 : Int) * (↑x.n : Int))).toNat ∧ ∀ (j : Nat), j < (IntKind.i64.wrap ((4 : Int) * (↑x.n : Int))).toNat → (0 : Int) =
  bytesF x.f y j) ∧ True) ∧ True) ∧ ∀ (y : Nat), (bytesFam x).I y → (decide ((↑y : Int) < (↑x.n : Int)) = true → ((0 : Int) ≤ (↑y : Int) ∧ (↑y : Int) < (↑x.n : Int)) ∧ (0 : Nat) + (↑y : Int).toNat < x.n ∧ ∀ (v : Int), v =
  (↑y : Int) → ∀ (v_1 : Int), v_1 = x.f ((0 : Nat) + (↑y : Int).toNat) → (((True ∧ True ∧ (0 : Nat) = (0 : Nat) ∧ (4 : Nat) * x.n = (4 : Nat) * x.n ∧ (4 : Nat) * x.n = (4 : Nat) * x.n) ∧ IntKind.i64.wrap ((4 : Int) * v) =
  IntKind.i64.wrap ((4 : Int) * v) ∧ v_1 = v_1 ∧ True) ∧ ((0 : Nat) ≤ (0 : Nat) ∧ (4 : Nat) * x.n = (4 : Nat) * x.n ∧ ∀ (j : Nat), j < (4 : Nat) * x.n → bytesF x.f y j = bytesF x.f y j) ∧ True) ∧ ((4 : Nat) * x.n ≤
  (9223372036854775807 : Nat) ∧ ((-9223372036854775808 : Int) ≤ IntKind.i64.wrap ((4 : Int) * v) ∧ IntKind.i64.wrap ((4 : Int) * v) < (9223372036854775808 : Int)) ∧ (0 : Int) ≤ v_1 ∧ v_1 < (4294967296 : Int)) ∧ ∃ (y_1 :
  Nat), (bytesFam x).I y_1 ∧ (((True ∧ True ∧ (0 : Nat) = (0 : Nat) ∧ (4 : Nat) * x.n = (4 : Nat) * x.n ∧ (4 : Nat) * x.n = (4 : Nat) * x.n) ∧ (True ∧ True ∧ (0 : Nat) = (0 : Nat) ∧ x.n = x.n ∧ x.cap = x.cap) ∧ (↑x.n :
  Int) = (↑x.n : Int) ∧ IntKind.i64.wrap ((↑y : Int) + (1 : Int)) = (↑y_1 : Int) ∧ True) ∧ ((0 : Nat) ≤ (0 : Nat) ∧ x.n = x.n ∧ ∀ (j : Nat), j < x.n → x.f j = x.f j) ∧ ((0 : Nat) ≤ (0 : Nat) ∧ (4 : Nat) * x.n = (4 : Nat) *
  x.n ∧ ∀ (j : Nat), j < (4 : Nat) * x.n → setB (fun (j : Nat) => bytesF x.f y j) (IntKind.i64.wrap ((4 : Int) * v)).toNat v_1 (if fitsB (BS.mk false ((4 : Nat) * x.n) ((4 : Nat) * x.n) fun (j : Nat) => bytesF x.f y j)
  (IntKind.i64.wrap ((4 : Int) * v)) then (4 : Nat) else (0 : Nat)) j = bytesF x.f y_1 j) ∧ True) ∧ (bytesFam x).μ y_1 < (bytesFam x).μ y) ∧ (decide ((↑y : Int) < (↑x.n : Int)) = false → (x.n ≤ (1000 : Nat) ∧ ∀ (j : Nat),
  (0 : Int) ≤ x.f j ∧ x.f j < (4294967296 : Int)) → (True ∧ True ∧ (0 : Nat) = (0 : Nat) ∧ (4 : Nat) * x.n = (4 : Nat) * x.n ∧ (4 : Nat) * x.n = (4 : Nat) * x.n) ∧ True ∧ ((0 : Nat) ≤ (0 : Nat) ∧ x.n = x.n ∧ ∀ (j : Nat), j
  < x.n → x.f j = x.f j) ∧ ((0 : Nat) ≤ (0 : Nat) ∧ (4 : Nat) * x.n = (4 : Nat) * x.n ∧ ∀ (j : Nat), j < (4 : Nat) * x.n → bytesF x.f y j = byteF x.f j) ∧ True) := by
  simp only [true_and, and_true, eq_self, Nat.le_refl, decide_eq_true_eq, decide_eq_false_iff_not, implies_true, and_self, Int.not_lt, Nat.zero_add, Int.toNat_natCast, IntKind.wrap_i64]
  rintro x hx
  obtain ⟨hn, hf⟩ := id hx
  have hI : ∀ z : Nat, (bytesFam x).I z = (z ≤ x.n) := fun _ => rfl
  have hM : ∀ z : Nat, (bytesFam x).μ z = x.n - z := fun _ => rfl
  simp only [hI, hM]
  have e1 : (4 * (x.n : Int) + 9223372036854775808) % 18446744073709551616 - 9223372036854775808 = ((4 * x.n : Nat) : Int) := by omega
  rw [e1]
  refine ⟨by omega, ⟨0, by omega, by omega, by omega, by omega, fun j hj => ?_⟩, fun y hy => ⟨fun hlt => ⟨by omega, by omega, fun v hv v1 hv1 => ⟨⟨by omega, by omega, by rw [hv1]; exact hf y⟩, y + 1, by omega, ⟨by omega, fun j hj => ?_⟩, by omega⟩⟩, fun hge _ j hj => ?_⟩⟩
  · unfold bytesF; rw [if_neg (by omega)]
  · have e2 : (4 * v + 9223372036854775808) % 18446744073709551616 - 9223372036854775808 = ((4 * y : Nat) : Int) := by omega
    rw [e2, if_pos (by unfold fitsB; simp only; omega)]
    unfold setB bytesF
    simp only [Int.toNat_natCast]
    by_cases h1 : j < 4 * y
    · rw [if_neg (by omega), if_pos h1, if_pos (by omega)]
    · by_cases h2 : j < 4 * y + 4
      · rw [if_pos (by omega), if_pos (by omega), hv1]
        unfold byteF
        rw [show j / 4 = y by omega, show j % 4 = j - 4 * y by omega]
      · rw [if_neg (by omega), if_neg h1, if_neg (by omega)]
  · unfold bytesF
    rw [if_pos (by omega)]

def bytes_C (x : IS) : Cfg := { Γ := Go.Sx.look tBytes, names := true, loops := onlyAt 3 [bytesFam x] }
theorem bytes_al (x : IS) : Shown (bytesPt.vc Tryd.prog (bytes_C x) Tryd.f25 x) := ⟨@Eq.mp _ _ (by kernel_rfl) (bytes_vc x)⟩
theorem bytes_ok : SpOk Tryd.prog 25 bytesPt.sp := @Pat.okS _ bytesPt Tryd.prog bytes_C 25 Tryd.f25 (fun x => cfg_tab rfl tBytes_ok) (by kernel_rfl) Tryd.func25 (fun _ => rfl) bytes_al
end Go.Proofs.YtjofnajamlmllaaDoor
