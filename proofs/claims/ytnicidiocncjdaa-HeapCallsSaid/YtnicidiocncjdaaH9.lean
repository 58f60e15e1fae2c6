import Derived.Test.YtnicidiocncjdaaH8
open Go Go.Sx Go.Proofs
set_option maxRecDepth 100000
namespace Go.Proofs.Ytnicidiocncjdaa
open Go.RowKit Go.Sort

def nilReg (a : Nat → Int) : Reg := newReg 55 (meT .nils a)
def a0 : Nat → Int := fun _ => 0
def newP : Pat Unit where
  view | [], _ => some () | _, _ => none
  args _ := []
  H _ := []
  out _ := .ret (p0 0) [nilReg a0]
theorem new_vc : True → (True ∧ True) ∧ True ∧ ((65 : Nat) ≤ (65 : Nat) ∧ True ∧ ((64 : Nat) = (64 : Nat) ∧ ∀ (j : Nat), j < (64 : Nat) → (0 : Int) = a0 j) ∧ True) ∧ True := by
  simp only [true_and, and_true, eq_self, Nat.le_refl, true_implies, and_self]
  exact fun _ _ => rfl

def new_C (_ : Unit) : Cfg := { Γ := Go.Sx.look [], names := true }
theorem new_al (x : Unit) : Shown (newP.vc Try.prog (new_C x) Try.f8 x) := ⟨@Eq.mp _ _ (by kernel_rfl) (new_vc )⟩
theorem new_ok : SpOk Try.prog 8 newP.sp := @Pat.okS _ newP Try.prog new_C 8 Try.f8 (fun x => cfg_nil rfl) (by kernel_rfl) Try.func8 (fun _ => rfl) new_al
def lenP : Pat HP where
  view | [.ptr r 0 []], H => some (viewHP r H) | _, _ => none
  args _ := [p0 0]
  H h := [h.me 1, h.row]
  out h := .retq (.int .i64 (h.n : Nat))
theorem len1_vc : ∀ (h : HP), True → ∀ (v : Int), v = (0 : Int) → ∀ (v : Int), v = (↑h.n : Int) → v = (↑h.n : Int) ∧ True ∧ ((65 : Nat) ≤ (65 : Nat) ∧ (True ∧ True ∧ (0 : Nat) = (0 : Nat) ∧ h.n = h.n ∧ h.cap = h.cap) ∧ ((64 : Nat) = (64 :
  Nat) ∧ ∀ (j : Nat), j < (64 : Nat) → h.at_ j = h.at_ j) ∧ True) ∧ (h.cap * (2 : Nat) ≤ h.cap * (2 : Nat) ∧ h.n ≤ h.n ∧ ∀ (j : Nat), j < h.n → h.id j = h.id j ∧ h.key j = h.key j ∧ True) ∧ True := by
  simp only [and_true, eq_self, Nat.le_refl, implies_true, true_implies, and_self]
  exact fun h _ _ v hv => hv

def len1_C (_ : HP) : Cfg := { Γ := Go.Sx.look [], names := true }
theorem len1_al (x : HP) : Shown (lenP.vc Try.prog (len1_C x) Try.f11 x) := ⟨@Eq.mp _ _ (by kernel_rfl) (len1_vc x)⟩
theorem len1_ok : SpOk Try.prog 11 lenP.sp := @Pat.okS _ lenP Try.prog len1_C 11 Try.f11 (fun x => cfg_nil rfl) (by kernel_rfl) Try.func11 (fun _ => rfl) len1_al
def lenNP : Pat (Nat → Int) where
  view | [.ptr r 0 []], H => some (viewHP r H).at_ | _, _ => none
  args _ := [p0 0]
  H a := [nilReg a]
  out _ := .retq (.int .i64 0)
theorem lenN_vc : ∀ (a : Nat → Int), True → ∀ (v : Int), v = (0 : Int) → ∀ (v : Int), v = (0 : Int) → v = (0 : Int) ∧ True ∧ ((65 : Nat) ≤ (65 : Nat) ∧ True ∧ ((64 : Nat) = (64 : Nat) ∧ ∀ (j : Nat), j < (64 : Nat) → a j = a j) ∧ True) ∧
  True := by
  simp only [and_true, eq_self, Nat.le_refl, implies_true, true_implies, and_self]
  exact fun h _ _ v hv => hv

def lenN_C (_ : (Nat → Int)) : Cfg := { Γ := Go.Sx.look [], names := true }
theorem lenN_al (x : (Nat → Int)) : Shown (lenNP.vc Try.prog (lenN_C x) Try.f11 x) := ⟨@Eq.mp _ _ (by kernel_rfl) (lenN_vc x)⟩
theorem lenN_ok : SpOk Try.prog 11 lenNP.sp := @Pat.okS _ lenNP Try.prog lenN_C 11 Try.f11 (fun x => cfg_nil rfl) (by kernel_rfl) Try.func11 (fun _ => rfl) lenN_al
theorem lenA_ok : SpOk Try.prog 11 (altH nilMe (lenNP.sp) (lenP.sp)) := altH_ok lenN_ok len1_ok

def tup3 (i q : Int) (b : Bool) : T := .tup (.cons (.int .i64 i) (.cons (.int .u64 q) (.cons (.bool b) .nil)))
def minP : Pat HP where
  view | [.ptr r 0 []], H => some (viewHP r H) | _, _ => none
  args _ := [p0 0]
  H h := [h.me 1, h.row]
  out h := .br (h.n = 0) (.retq (tup3 (-1) 0 false)) (.retq (tup3 (h.id 0) (h.key 0) true))
theorem min1_vc : ∀ (h : HP), True → ∀ (v : Int), v = (0 : Int) → ∀ (v : Int), v = (0 : Int) → (((↑h.n : Int) == (0 : Int)) = true → ∀ (v : Int), v = (-1 : Int) → ∀ (v_1 : Int), v_1 = (0 : Int) → (h.n = (0 : Nat) → (v = (-1 : Int) ∧ v_1 =
  (0 : Int) ∧ false = false ∧ True) ∧ True ∧ ((65 : Nat) ≤ (65 : Nat) ∧ (True ∧ True ∧ (0 : Nat) = (0 : Nat) ∧ h.n = h.n ∧ h.cap = h.cap) ∧ ((64 : Nat) = (64 : Nat) ∧ ∀ (j : Nat), j < (64 : Nat) → h.at_ j = h.at_ j) ∧
  True) ∧ (h.cap * (2 : Nat) ≤ h.cap * (2 : Nat) ∧ h.n ≤ h.n ∧ ∀ (j : Nat), j < h.n → h.id j = h.id j ∧ h.key j = h.key j ∧ True) ∧ True) ∧ (¬h.n = (0 : Nat) → (v = h.id (0 : Nat) ∧ v_1 = h.key (0 : Nat) ∧ true = false ∧
  True) ∧ True ∧ ((65 : Nat) ≤ (65 : Nat) ∧ (True ∧ True ∧ (0 : Nat) = (0 : Nat) ∧ h.n = h.n ∧ h.cap = h.cap) ∧ ((64 : Nat) = (64 : Nat) ∧ ∀ (j : Nat), j < (64 : Nat) → h.at_ j = h.at_ j) ∧ True) ∧ (h.cap * (2 : Nat) ≤
  h.cap * (2 : Nat) ∧ h.n ≤ h.n ∧ ∀ (j : Nat), j < h.n → h.id j = h.id j ∧ h.key j = h.key j ∧ True) ∧ True)) ∧ (((↑h.n : Int) == (0 : Int)) = false → ((0 : Int) ≤ (0 : Int) ∧ (0 : Int) < (↑h.n : Int)) ∧ (0 : Nat) < h.n ∧
  ((0 : Int) ≤ (0 : Int) ∧ (0 : Int) < (↑h.n : Int)) ∧ (0 : Nat) < h.n ∧ ∀ (v : Int), v = h.id (0 : Nat) → ∀ (v_1 : Int), v_1 = h.key (0 : Nat) → (h.n = (0 : Nat) → (v = (-1 : Int) ∧ v_1 = (0 : Int) ∧ false = true ∧ True)
  ∧ True ∧ ((65 : Nat) ≤ (65 : Nat) ∧ (True ∧ True ∧ (0 : Nat) = (0 : Nat) ∧ h.n = h.n ∧ h.cap = h.cap) ∧ ((64 : Nat) = (64 : Nat) ∧ ∀ (j : Nat), j < (64 : Nat) → h.at_ j = h.at_ j) ∧ True) ∧ (h.cap * (2 : Nat) ≤ h.cap *
  (2 : Nat) ∧ h.n ≤ h.n ∧ ∀ (j : Nat), j < h.n → h.id j = h.id j ∧ h.key j = h.key j ∧ True) ∧ True) ∧ (¬h.n = (0 : Nat) → (v = h.id (0 : Nat) ∧ v_1 = h.key (0 : Nat) ∧ true = true ∧ True) ∧ True ∧ ((65 : Nat) ≤ (65 : Nat)
  ∧ (True ∧ True ∧ (0 : Nat) = (0 : Nat) ∧ h.n = h.n ∧ h.cap = h.cap) ∧ ((64 : Nat) = (64 : Nat) ∧ ∀ (j : Nat), j < (64 : Nat) → h.at_ j = h.at_ j) ∧ True) ∧ (h.cap * (2 : Nat) ≤ h.cap * (2 : Nat) ∧ h.n ≤ h.n ∧ ∀ (j :
  Nat), j < h.n → h.id j = h.id j ∧ h.key j = h.key j ∧ True) ∧ True)) := by
  simp only [and_true, eq_self, Nat.le_refl, beq_iff_eq, beq_eq_false_iff_ne, implies_true, true_implies, and_self, ne_eq]
  exact fun h _ _ _ _ => ⟨fun h0 v hv v1 hv1 => ⟨fun _ => ⟨hv, hv1⟩, fun hn => absurd h0 (by omega)⟩, fun h0 => ⟨by omega, by omega, by omega, by omega, fun v hv v1 hv1 => ⟨fun hn => absurd hn (by omega), fun _ => ⟨hv, hv1⟩⟩⟩⟩

def min1_C (_ : HP) : Cfg := { Γ := Go.Sx.look [], names := true }
theorem min1_al (x : HP) : Shown (minP.vc Try.prog (min1_C x) Try.f20 x) := ⟨@Eq.mp _ _ (by kernel_rfl) (min1_vc x)⟩
theorem min1_ok : SpOk Try.prog 20 minP.sp := @Pat.okS _ minP Try.prog min1_C 20 Try.f20 (fun x => cfg_nil rfl) (by kernel_rfl) Try.func20 (fun _ => rfl) min1_al
def minNP : Pat (Nat → Int) where
  view | [.ptr r 0 []], H => some (viewHP r H).at_ | _, _ => none
  args _ := [p0 0]
  H a := [nilReg a]
  out _ := .retq (tup3 (-1) 0 false)
theorem minN_vc : ∀ (a : Nat → Int), True → ∀ (v : Int), v = (0 : Int) → ∀ (v : Int), v = (0 : Int) → (((0 : Int) == (0 : Int)) = true → ∀ (v : Int), v = (-1 : Int) → ∀ (v_1 : Int), v_1 = (0 : Int) → (v = (-1 : Int) ∧ v_1 = (0 : Int) ∧
  false = false ∧ True) ∧ True ∧ ((65 : Nat) ≤ (65 : Nat) ∧ True ∧ ((64 : Nat) = (64 : Nat) ∧ ∀ (j : Nat), j < (64 : Nat) → a j = a j) ∧ True) ∧ True) ∧ (((0 : Int) == (0 : Int)) = false → False) := by
  simp only [and_true, eq_self, Nat.le_refl, beq_iff_eq, beq_eq_false_iff_ne, implies_true, true_implies, and_self, ne_eq]
  exact fun a _ _ _ _ => ⟨fun v hv v1 hv1 => ⟨hv, hv1⟩, fun h => absurd trivial h⟩

def minN_C (_ : (Nat → Int)) : Cfg := { Γ := Go.Sx.look [], names := true }
theorem minN_al (x : (Nat → Int)) : Shown (minNP.vc Try.prog (minN_C x) Try.f20 x) := ⟨@Eq.mp _ _ (by kernel_rfl) (minN_vc x)⟩
theorem minN_ok : SpOk Try.prog 20 minNP.sp := @Pat.okS _ minNP Try.prog minN_C 20 Try.f20 (fun x => cfg_nil rfl) (by kernel_rfl) Try.func20 (fun _ => rfl) minN_al
theorem minA_ok : SpOk Try.prog 20 (altH nilMe (minNP.sp) (minP.sp)) := altH_ok minN_ok min1_ok

def oVal (o : Option Int) : Int := o.getD 0
def oHas (o : Option Int) : Bool := o.isSome
def keyO (o : Option Int) : T := .tup (.cons (.int .u64 (oVal o)) (.cons (.bool (oHas o)) .nil))
def keyP : Pat (HP × Int) where
  view | [.ptr r 0 [], .int .i64 n], H => some (viewHP r H, n) | _, _ => none
  args x := [p0 0, .int .i64 x.2]
  H x := [x.1.me 1, x.1.row]
  out x := .need (x.1.Full ∧ x.1.n ≤ 100000) (.retq (keyO (x.1.M x.2)))
def tKey : Tab := [(23, altH nilMe (hasNP.sp) (hasP.sp))]
theorem tKey_ok : TabOk Try.prog tKey := (tab_cons hasA_ok tab_nil)

theorem key1_vc : ∀ (h : HP) (n : Int), (h.Full ∧ h.n ≤ (100000 : Nat)) ∧ True → ∀ (v : Int), v = (0 : Int) → (((True ∧ True) ∧ n = n ∧ True) ∧ ((65 : Nat) ≤ (65 : Nat) ∧ (True ∧ True ∧ (0 : Nat) = (0 : Nat) ∧ h.n = h.n ∧ h.cap = h.cap) ∧
  ((64 : Nat) = (64 : Nat) ∧ ∀ (j : Nat), j < (64 : Nat) → h.at_ j = h.at_ j) ∧ True) ∧ (h.cap * (2 : Nat) ≤ h.cap * (2 : Nat) ∧ h.n = h.n ∧ ∀ (j : Nat), j < h.n → h.id j = h.id j ∧ h.key j = h.key j ∧ True) ∧ True) ∧
  ((!hasB (fun (j : Nat) => h.at_ j) n) = true → ∀ (v : Int), v = (0 : Int) → h.Full ∧ h.n ≤ (100000 : Nat) → (v = oVal (h.M n) ∧ oHas (h.M n) = false ∧ True) ∧ True ∧ ((65 : Nat) ≤ (65 : Nat) ∧ (True ∧ True ∧ (0 : Nat) =
  (0 : Nat) ∧ h.n = h.n ∧ h.cap = h.cap) ∧ ((64 : Nat) = (64 : Nat) ∧ ∀ (j : Nat), j < (64 : Nat) → h.at_ j = h.at_ j) ∧ True) ∧ (h.cap * (2 : Nat) ≤ h.cap * (2 : Nat) ∧ h.n ≤ h.n ∧ ∀ (j : Nat), j < h.n → h.id j = h.id j ∧
  h.key j = h.key j ∧ True) ∧ True) ∧ ((!hasB (fun (j : Nat) => h.at_ j) n) = false → ((0 : Int) ≤ n ∧ n < (↑(64 : Nat) : Int)) ∧ n.toNat < (64 : Nat) ∧ ((0 : Int) ≤ IntKind.i64.wrap (h.at_ n.toNat - (1 : Int)) ∧
  IntKind.i64.wrap (h.at_ n.toNat - (1 : Int)) < (↑h.n : Int)) ∧ (0 : Nat) + (IntKind.i64.wrap (h.at_ n.toNat - (1 : Int))).toNat < h.n ∧ ∀ (v : Int), v = h.key ((0 : Nat) + (IntKind.i64.wrap (h.at_ n.toNat - (1 :
  Int))).toNat) → h.Full ∧ h.n ≤ (100000 : Nat) → (v = oVal (h.M n) ∧ oHas (h.M n) = true ∧ True) ∧ True ∧ ((65 : Nat) ≤ (65 : Nat) ∧ (True ∧ True ∧ (0 : Nat) = (0 : Nat) ∧ h.n = h.n ∧ h.cap = h.cap) ∧ ((64 : Nat) = (64 :
  Nat) ∧ ∀ (j : Nat), j < (64 : Nat) → h.at_ j = h.at_ j) ∧ True) ∧ (h.cap * (2 : Nat) ≤ h.cap * (2 : Nat) ∧ h.n ≤ h.n ∧ ∀ (j : Nat), j < h.n → h.id j = h.id j ∧ h.key j = h.key j ∧ True) ∧ True) := by
  simp only [true_and, and_true, eq_self, Nat.le_refl, implies_true, and_self, Nat.zero_add, IntKind.wrap_i64, Bool.not_eq_true', Bool.not_eq_false']
  rintro h n ⟨hf, hn⟩ _ _
  have hh : hasB (fun j => h.at_ j) n = (h.M n).isSome := hf.c.has n
  rw [hh]
  refine ⟨fun hno v hv _ => ?_, fun hyes => ?_⟩
  · have e : h.M n = none := by cases e : h.M n with
      | none => rfl
      | some q => rw [e] at hno; cases hno
    rw [e]
    exact ⟨hv, rfl⟩
  · obtain ⟨q, e⟩ : ∃ q, h.M n = some q := by cases e : h.M n with
      | none => rw [e] at hyes; cases hyes
      | some q => exact ⟨q, rfl⟩
    obtain ⟨r, ⟨r1, r2⟩, r3⟩ := hf.c.M_at e
    have e1 : (h.at_ n.toNat - 1 + 9223372036854775808) % 18446744073709551616 - 9223372036854775808 = h.at_ n.toNat - 1 := by omega
    rw [e1, r3]
    refine ⟨by omega, by omega, by omega, by omega, fun v hv _ => ?_⟩
    rw [e]
    exact ⟨hv, rfl⟩

def key1_C (_ : (HP × Int)) : Cfg := { Γ := Go.Sx.look tKey, names := true }
theorem key1_al (x : (HP × Int)) : Shown (keyP.vc Try.prog (key1_C x) Try.f21 x) := ⟨@Eq.mp _ _ (by kernel_rfl) (key1_vc (x.1) (x.2))⟩
theorem key1_ok : SpOk Try.prog 21 keyP.sp := @Pat.okS _ keyP Try.prog key1_C 21 Try.f21 (fun x => cfg_tab rfl tKey_ok) (by kernel_rfl) Try.func21 (fun _ => rfl) key1_al
def keyNP : Pat ((Nat → Int) × Int) where
  view | [.ptr r 0 [], .int .i64 n], H => some ((viewHP r H).at_, n) | _, _ => none
  args x := [p0 0, .int .i64 x.2]
  H x := [nilReg x.1]
  out x := .need (∀ i, i < 64 → x.1 i = 0) (.retq (keyO none))
theorem keyN_vc : ∀ (a : Nat → Int) (n : Int), (∀ (i : Nat), i < (64 : Nat) → a i = (0 : Int)) ∧ True → ∀ (v : Int), v = (0 : Int) → (((True ∧ True) ∧ n = n ∧ True) ∧ ((65 : Nat) ≤ (65 : Nat) ∧ True ∧ ((64 : Nat) = (64 : Nat) ∧ ∀ (j :
  Nat), j < (64 : Nat) → a j = a j) ∧ True) ∧ True) ∧ ((!hasB (fun (j : Nat) => a j) n) = true → ∀ (v : Int), v = (0 : Int) → (∀ (i : Nat), i < (64 : Nat) → a i = (0 : Int)) → (v = oVal none ∧ oHas none = false ∧ True) ∧
  True ∧ ((65 : Nat) ≤ (65 : Nat) ∧ True ∧ ((64 : Nat) = (64 : Nat) ∧ ∀ (j : Nat), j < (64 : Nat) → a j = a j) ∧ True) ∧ True) ∧ ((!hasB (fun (j : Nat) => a j) n) = false → ((0 : Int) ≤ n ∧ n < (↑(64 : Nat) : Int)) ∧
  n.toNat < (64 : Nat) ∧ False) := by
  simp only [true_and, and_true, eq_self, Nat.le_refl, implies_true, and_self, Bool.not_eq_true', Bool.not_eq_false']
  rintro a n ha _ _
  have hh : hasB (fun j => a j) n = false := decide_eq_false fun h => by have := ha n.toNat (by omega); dsimp only at h; omega
  rw [hh]
  exact ⟨fun _ v hv _ => ⟨hv, rfl⟩, fun h => by cases h⟩

def keyN_C (_ : ((Nat → Int) × Int)) : Cfg := { Γ := Go.Sx.look tKey, names := true }
theorem keyN_al (x : ((Nat → Int) × Int)) : Shown (keyNP.vc Try.prog (keyN_C x) Try.f21 x) := ⟨@Eq.mp _ _ (by kernel_rfl) (keyN_vc (x.1) (x.2))⟩
theorem keyN_ok : SpOk Try.prog 21 keyNP.sp := @Pat.okS _ keyNP Try.prog keyN_C 21 Try.f21 (fun x => cfg_tab rfl tKey_ok) (by kernel_rfl) Try.func21 (fun _ => rfl) keyN_al
theorem keyA_ok : SpOk Try.prog 21 (altH nilMe (keyNP.sp) (keyP.sp)) := altH_ok keyN_ok key1_ok

def HP.app (h : HP) (c : Nat) : HP := ⟨h.n + 1, c, upN h.id h.n 0, upN h.key h.n 0, h.at_⟩
theorem HP.app_set (h : HP) (c : Nat) (x : It) : (h.app c).set h.n x = h.push c x := by
  unfold HP.app HP.set HP.push
  have e : ∀ (f : Nat → Int) (a b : Int), upN (upN f h.n a) h.n b = upN f h.n b := fun f a b => by
    funext j
    unfold upN
    split <;> rfl
  simp only [e, HP.set]
def puC (h : HP) (n q : Int) : Fam where
  α := Nat
  I c := h.n + 1 ≤ c ∧ (0 ≤ n ∧ n < 64) ∧ hasB h.at_ n = false
  st c := { sl := mkSl 41 [(0, p0 0), (1, .int .i64 n), (2, .int .u64 q)], H := [(h.app c).me 2, dead, (h.app c).row] }
  μ _ := 0
def cutAt (n : Nat) (l : List Fam) : Nat → Gam := fun k => match Nat.beq k n with
  | true => .l l
  | false => .l []
def pushP : Pat (HP × Int × Int) where
  view | [.ptr r 0 [], .int .i64 n, .int .u64 q], H => some (viewHP r H, n, q) | _, _ => none
  args x := [p0 0, .int .i64 x.2.1, .int .u64 x.2.2]
  H x := [x.1.me 1, x.1.row]
  out x := .need ((x.1.Full ∧ x.1.n ≤ 10000) ∧ 0 ≤ x.2.2 ∧ x.2.2 < 18446744073709551616) (.br (¬ (0 ≤ x.2.1 ∧ x.2.1 < 64)) (.retq (.int .i64 11)) (.br (x.1.M x.2.1 ≠ none) (.retq (.int .i64 13))
    (.any (fun h : HP => h.Full ∧ h.n = x.1.n + 1 ∧ ∀ i, h.M i = if i = x.2.1 then some x.2.2 else x.1.M i) fun h => .ret (.int .i64 0) [h.me 2, dead, h.row])))
def tPush : Tab := [(22, thereP.sp), (23, altH nilMe (hasNP.sp) (hasP.sp)), (24, setP.sp), (25, upP.sp)]
theorem tPush_ok : TabOk Try.prog tPush := (tab_cons there_ok (tab_cons hasA_ok (tab_cons set_ok (tab_cons up_ok tab_nil))))

theorem push1_vc : ∀ (h : HP) (n q : Int), ((h.Full ∧ h.n ≤ (10000 : Nat)) ∧ (0 : Int) ≤ q ∧ q < (18446744073709551616 : Int)) ∧ True → ∀ (v : Int), v = (0 : Int) → ((n = n ∧ True) ∧ True) ∧ ((!decide ((0 : Int) ≤ n ∧ n < (64 : Int))) =
  true → ∀ (v : Int), v = (11 : Int) → (h.Full ∧ h.n ≤ (10000 : Nat)) ∧ (0 : Int) ≤ q ∧ q < (18446744073709551616 : Int) → (¬((0 : Int) ≤ n ∧ n < (64 : Int)) → v = (11 : Int) ∧ True ∧ ((65 : Nat) ≤ (65 : Nat) ∧ (True ∧
  True ∧ (0 : Nat) = (0 : Nat) ∧ h.n = h.n ∧ h.cap = h.cap) ∧ ((64 : Nat) = (64 : Nat) ∧ ∀ (j : Nat), j < (64 : Nat) → h.at_ j = h.at_ j) ∧ True) ∧ (h.cap * (2 : Nat) ≤ h.cap * (2 : Nat) ∧ h.n ≤ h.n ∧ ∀ (j : Nat), j < h.n
  → h.id j = h.id j ∧ h.key j = h.key j ∧ True) ∧ True) ∧ (¬¬((0 : Int) ≤ n ∧ n < (64 : Int)) → (h.M n ≠ none → v = (13 : Int) ∧ True ∧ ((65 : Nat) ≤ (65 : Nat) ∧ (True ∧ True ∧ (0 : Nat) = (0 : Nat) ∧ h.n = h.n ∧ h.cap =
  h.cap) ∧ ((64 : Nat) = (64 : Nat) ∧ ∀ (j : Nat), j < (64 : Nat) → h.at_ j = h.at_ j) ∧ True) ∧ (h.cap * (2 : Nat) ≤ h.cap * (2 : Nat) ∧ h.n ≤ h.n ∧ ∀ (j : Nat), j < h.n → h.id j = h.id j ∧ h.key j = h.key j ∧ True) ∧
  True) ∧ (¬h.M n ≠ none → ∃ (x : HP), (x.Full ∧ x.n = h.n + (1 : Nat) ∧ ∀ (i : Int), x.M i = if i = n then some q else h.M i) ∧ v = (0 : Int) ∧ True ∧ ((65 : Nat) ≤ (65 : Nat) ∧ (True ∧ True ∧ (0 : Nat) = (0 : Nat) ∧ h.n
  = x.n ∧ h.cap = x.cap) ∧ ((64 : Nat) = (64 : Nat) ∧ ∀ (j : Nat), j < (64 : Nat) → h.at_ j = x.at_ j) ∧ True) ∧ (0 : Nat) = (0 : Nat) ∧ (x.cap * (2 : Nat) ≤ h.cap * (2 : Nat) ∧ x.n ≤ h.n ∧ ∀ (j : Nat), j < x.n → h.id j =
  x.id j ∧ h.key j = x.key j ∧ True) ∧ True))) ∧ ((!decide ((0 : Int) ≤ n ∧ n < (64 : Int))) = false → (((True ∧ True) ∧ n = n ∧ True) ∧ ((65 : Nat) ≤ (65 : Nat) ∧ (True ∧ True ∧ (0 : Nat) = (0 : Nat) ∧ h.n = h.n ∧ h.cap =
  h.cap) ∧ ((64 : Nat) = (64 : Nat) ∧ ∀ (j : Nat), j < (64 : Nat) → h.at_ j = h.at_ j) ∧ True) ∧ (h.cap * (2 : Nat) ≤ h.cap * (2 : Nat) ∧ h.n = h.n ∧ ∀ (j : Nat), j < h.n → h.id j = h.id j ∧ h.key j = h.key j ∧ True) ∧
  True) ∧ (hasB (fun (j : Nat) => h.at_ j) n = true → ∀ (v : Int), v = (13 : Int) → (h.Full ∧ h.n ≤ (10000 : Nat)) ∧ (0 : Int) ≤ q ∧ q < (18446744073709551616 : Int) → (¬((0 : Int) ≤ n ∧ n < (64 : Int)) → v = (11 : Int) ∧
  True ∧ ((65 : Nat) ≤ (65 : Nat) ∧ (True ∧ True ∧ (0 : Nat) = (0 : Nat) ∧ h.n = h.n ∧ h.cap = h.cap) ∧ ((64 : Nat) = (64 : Nat) ∧ ∀ (j : Nat), j < (64 : Nat) → h.at_ j = h.at_ j) ∧ True) ∧ (h.cap * (2 : Nat) ≤ h.cap * (2
  : Nat) ∧ h.n ≤ h.n ∧ ∀ (j : Nat), j < h.n → h.id j = h.id j ∧ h.key j = h.key j ∧ True) ∧ True) ∧ (¬¬((0 : Int) ≤ n ∧ n < (64 : Int)) → (h.M n ≠ none → v = (13 : Int) ∧ True ∧ ((65 : Nat) ≤ (65 : Nat) ∧ (True ∧ True ∧ (0
  : Nat) = (0 : Nat) ∧ h.n = h.n ∧ h.cap = h.cap) ∧ ((64 : Nat) = (64 : Nat) ∧ ∀ (j : Nat), j < (64 : Nat) → h.at_ j = h.at_ j) ∧ True) ∧ (h.cap * (2 : Nat) ≤ h.cap * (2 : Nat) ∧ h.n ≤ h.n ∧ ∀ (j : Nat), j < h.n → h.id j =
  h.id j ∧ h.key j = h.key j ∧ True) ∧ True) ∧ (¬h.M n ≠ none → ∃ (x : HP), (x.Full ∧ x.n = h.n + (1 : Nat) ∧ ∀ (i : Int), x.M i = if i = n then some q else h.M i) ∧ v = (0 : Int) ∧ True ∧ ((65 : Nat) ≤ (65 : Nat) ∧ (True
  ∧ True ∧ (0 : Nat) = (0 : Nat) ∧ h.n = x.n ∧ h.cap = x.cap) ∧ ((64 : Nat) = (64 : Nat) ∧ ∀ (j : Nat), j < (64 : Nat) → h.at_ j = x.at_ j) ∧ True) ∧ (0 : Nat) = (0 : Nat) ∧ (x.cap * (2 : Nat) ≤ h.cap * (2 : Nat) ∧ x.n ≤
  h.n ∧ ∀ (j : Nat), j < x.n → h.id j = x.id j ∧ h.key j = x.key j ∧ True) ∧ True))) ∧ (hasB (fun (j : Nat) => h.at_ j) n = false → ((1 : Nat) ≤ (1 : Nat) ∧ (h.n + (1 : Nat) ≤ h.cap → (16 : Nat) ≤ (281474976710656 : Nat) ∧
  ((0 : Nat) + h.n ≤ h.n ∧ ((0 : Nat) + h.n + (1 : Nat)) * (2 : Nat) ≤ h.cap * (2 : Nat) ∧ (∀ (_ : Nat), (2 : Nat) = (2 : Nat)) ∧ ∀ (_ : Nat), (2 : Nat) = (2 : Nat)) ∧ ∃ (y : Nat), (h.n + (1 : Nat) ≤ y ∧ ((0 : Int) ≤ n ∧ n
  < (64 : Int)) ∧ hasB h.at_ n = false) ∧ (((True ∧ True) ∧ n = n ∧ q = q ∧ True) ∧ ((65 : Nat) ≤ (65 : Nat) ∧ (True ∧ True ∧ (0 : Nat) = (0 : Nat) ∧ h.n + (1 : Nat) = (h.app y).n ∧ h.cap = (h.app y).cap) ∧ ((64 : Nat) =
  (64 : Nat) ∧ ∀ (j : Nat), j < (64 : Nat) → h.at_ j = (h.app y).at_ j) ∧ True) ∧ (0 : Nat) = (0 : Nat) ∧ ((h.app y).cap * (2 : Nat) ≤ h.cap * (2 : Nat) ∧ ((h.app y).n ≤ if h.n ≤ (0 : Nat) + h.n + (1 : Nat) then (0 : Nat)
  + h.n + (1 : Nat) else h.n) ∧ ∀ (j : Nat), j < (h.app y).n → (j.blt ((0 : Nat) + h.n) = true → h.id j = (h.app y).id j ∧ h.key j = (h.app y).key j ∧ True) ∧ (j.blt ((0 : Nat) + h.n) = false → (j.blt ((0 : Nat) + h.n + (1
  : Nat)) = true → (0 : Int) = (h.app y).id j ∧ (0 : Int) = (h.app y).key j ∧ True) ∧ (j.blt ((0 : Nat) + h.n + (1 : Nat)) = false → h.id j = (h.app y).id j ∧ h.key j = (h.app y).key j ∧ True))) ∧ True) ∧ True) ∧ (h.cap <
  h.n + (1 : Nat) → ((0 : Nat) + h.n ≤ h.n ∧ (h.n + (1 : Nat)) * (16 : Nat) ≤ (140737488355328 : Nat) ∧ h.n + (1 : Nat) ≤ (9223372036854775807 : Nat) ∧ (∀ (_ : Nat), (2 : Nat) = (2 : Nat)) ∧ ∀ (_ : Nat), (2 : Nat) = (2 :
  Nat)) ∧ ∀ (cap' : Nat), h.n + (1 : Nat) ≤ cap' → ∃ (y : Nat), (h.n + (1 : Nat) ≤ y ∧ ((0 : Int) ≤ n ∧ n < (64 : Int)) ∧ hasB h.at_ n = false) ∧ (((True ∧ True) ∧ n = n ∧ q = q ∧ True) ∧ ((65 : Nat) ≤ (65 : Nat) ∧ (True ∧
  True ∧ (0 : Nat) = (0 : Nat) ∧ h.n + (1 : Nat) = (h.app y).n ∧ cap' = (h.app y).cap) ∧ ((64 : Nat) = (64 : Nat) ∧ ∀ (j : Nat), j < (64 : Nat) → h.at_ j = (h.app y).at_ j) ∧ True) ∧ (0 : Nat) = (0 : Nat) ∧ ((h.app y).cap
  * (2 : Nat) ≤ cap' * (2 : Nat) ∧ (h.app y).n ≤ h.n + (1 : Nat) ∧ ∀ (j : Nat), j < (h.app y).n → (j.blt h.n = true → h.id ((0 : Nat) + j) = (h.app y).id j ∧ h.key ((0 : Nat) + j) = (h.app y).key j ∧ True) ∧ (j.blt h.n =
  false → (0 : Int) = (h.app y).id j ∧ (0 : Int) = (h.app y).key j ∧ True)) ∧ True) ∧ True)) ∧ ∀ (y : Nat), h.n + (1 : Nat) ≤ y ∧ ((0 : Int) ≤ n ∧ n < (64 : Int)) ∧ hasB h.at_ n = false → ∀ (v : Int), v = IntKind.i64.wrap
  ((↑(h.app y).n : Int) - (1 : Int)) → (((True ∧ True) ∧ v = (↑v.toNat : Int) ∧ (n = n ∧ q = q ∧ True) ∧ True) ∧ ((65 : Nat) ≤ (65 : Nat) ∧ (True ∧ True ∧ (0 : Nat) = (0 : Nat) ∧ (h.app y).n = (h.app y).n ∧ (h.app y).cap =
  (h.app y).cap) ∧ ((64 : Nat) = (64 : Nat) ∧ ∀ (j : Nat), j < (64 : Nat) → (h.app y).at_ j = (h.app y).at_ j) ∧ True) ∧ ((h.app y).cap * (2 : Nat) ≤ (h.app y).cap * (2 : Nat) ∧ (h.app y).n = (h.app y).n ∧ ∀ (j : Nat), j <
  (h.app y).n → (h.app y).id j = (h.app y).id j ∧ (h.app y).key j = (h.app y).key j ∧ True) ∧ True) ∧ ((v.toNat < (h.app y).n ∧ (h.app y).n ≤ (100000 : Nat)) ∧ (0 : Int) ≤ n ∧ n < (64 : Int)) ∧ (((True ∧ True) ∧ v =
  (↑v.toNat : Int) ∧ True) ∧ ((65 : Nat) ≤ (65 : Nat) ∧ (True ∧ True ∧ (0 : Nat) = (0 : Nat) ∧ ((HP.mk (h.app y).n (h.app y).cap (fun (j : Nat) => (h.app y).id j) (fun (j : Nat) => (h.app y).key j) (h.app y).at_).set
  v.toNat (n, q)).n = ((HP.mk (h.app y).n (h.app y).cap (fun (j : Nat) => (h.app y).id j) (fun (j : Nat) => (h.app y).key j) (h.app y).at_).set v.toNat (n, q)).n ∧ ((HP.mk (h.app y).n (h.app y).cap (fun (j : Nat) => (h.app
  y).id j) (fun (j : Nat) => (h.app y).key j) (h.app y).at_).set v.toNat (n, q)).cap = ((HP.mk (h.app y).n (h.app y).cap (fun (j : Nat) => (h.app y).id j) (fun (j : Nat) => (h.app y).key j) (h.app y).at_).set v.toNat (n,
  q)).cap) ∧ ((64 : Nat) = (64 : Nat) ∧ ∀ (j : Nat), j < (64 : Nat) → ((HP.mk (h.app y).n (h.app y).cap (fun (j : Nat) => (h.app y).id j) (fun (j : Nat) => (h.app y).key j) (h.app y).at_).set v.toNat (n, q)).at_ j =
  ((HP.mk (h.app y).n (h.app y).cap (fun (j : Nat) => (h.app y).id j) (fun (j : Nat) => (h.app y).key j) (h.app y).at_).set v.toNat (n, q)).at_ j) ∧ True) ∧ (((HP.mk (h.app y).n (h.app y).cap (fun (j : Nat) => (h.app y).id
  j) (fun (j : Nat) => (h.app y).key j) (h.app y).at_).set v.toNat (n, q)).cap * (2 : Nat) ≤ (h.app y).cap * (2 : Nat) ∧ ((HP.mk (h.app y).n (h.app y).cap (fun (j : Nat) => (h.app y).id j) (fun (j : Nat) => (h.app y).key
  j) (h.app y).at_).set v.toNat (n, q)).n = ((HP.mk (h.app y).n (h.app y).cap (fun (j : Nat) => (h.app y).id j) (fun (j : Nat) => (h.app y).key j) (h.app y).at_).set v.toNat (n, q)).n ∧ ∀ (j : Nat), j < ((HP.mk (h.app y).n
  (h.app y).cap (fun (j : Nat) => (h.app y).id j) (fun (j : Nat) => (h.app y).key j) (h.app y).at_).set v.toNat (n, q)).n → ((HP.mk (h.app y).n (h.app y).cap (fun (j : Nat) => (h.app y).id j) (fun (j : Nat) => (h.app
  y).key j) (h.app y).at_).set v.toNat (n, q)).id j = ((HP.mk (h.app y).n (h.app y).cap (fun (j : Nat) => (h.app y).id j) (fun (j : Nat) => (h.app y).key j) (h.app y).at_).set v.toNat (n, q)).id j ∧ ((HP.mk (h.app y).n
  (h.app y).cap (fun (j : Nat) => (h.app y).id j) (fun (j : Nat) => (h.app y).key j) (h.app y).at_).set v.toNat (n, q)).key j = ((HP.mk (h.app y).n (h.app y).cap (fun (j : Nat) => (h.app y).id j) (fun (j : Nat) => (h.app
  y).key j) (h.app y).at_).set v.toNat (n, q)).key j ∧ True) ∧ True) ∧ ((HP.mk ((HP.mk (h.app y).n (h.app y).cap (fun (j : Nat) => (h.app y).id j) (fun (j : Nat) => (h.app y).key j) (h.app y).at_).set v.toNat (n, q)).n
  ((HP.mk (h.app y).n (h.app y).cap (fun (j : Nat) => (h.app y).id j) (fun (j : Nat) => (h.app y).key j) (h.app y).at_).set v.toNat (n, q)).cap (fun (j : Nat) => ((HP.mk (h.app y).n (h.app y).cap (fun (j : Nat) => (h.app
  y).id j) (fun (j : Nat) => (h.app y).key j) (h.app y).at_).set v.toNat (n, q)).id j) (fun (j : Nat) => ((HP.mk (h.app y).n (h.app y).cap (fun (j : Nat) => (h.app y).id j) (fun (j : Nat) => (h.app y).key j) (h.app
  y).at_).set v.toNat (n, q)).key j) ((HP.mk (h.app y).n (h.app y).cap (fun (j : Nat) => (h.app y).id j) (fun (j : Nat) => (h.app y).key j) (h.app y).at_).set v.toNat (n, q)).at_).Hole v.toNat ∧ v.toNat < ((HP.mk (h.app
  y).n (h.app y).cap (fun (j : Nat) => (h.app y).id j) (fun (j : Nat) => (h.app y).key j) (h.app y).at_).set v.toNat (n, q)).n ∧ ((HP.mk (h.app y).n (h.app y).cap (fun (j : Nat) => (h.app y).id j) (fun (j : Nat) => (h.app
  y).key j) (h.app y).at_).set v.toNat (n, q)).n ≤ (100000 : Nat)) ∧ ∀ (x : HP), x.Down v.toNat ∧ (HP.mk ((HP.mk (h.app y).n (h.app y).cap (fun (j : Nat) => (h.app y).id j) (fun (j : Nat) => (h.app y).key j) (h.app
  y).at_).set v.toNat (n, q)).n ((HP.mk (h.app y).n (h.app y).cap (fun (j : Nat) => (h.app y).id j) (fun (j : Nat) => (h.app y).key j) (h.app y).at_).set v.toNat (n, q)).cap (fun (j : Nat) => ((HP.mk (h.app y).n (h.app
  y).cap (fun (j : Nat) => (h.app y).id j) (fun (j : Nat) => (h.app y).key j) (h.app y).at_).set v.toNat (n, q)).id j) (fun (j : Nat) => ((HP.mk (h.app y).n (h.app y).cap (fun (j : Nat) => (h.app y).id j) (fun (j : Nat) =>
  (h.app y).key j) (h.app y).at_).set v.toNat (n, q)).key j) ((HP.mk (h.app y).n (h.app y).cap (fun (j : Nat) => (h.app y).id j) (fun (j : Nat) => (h.app y).key j) (h.app y).at_).set v.toNat (n, q)).at_).Same x → ∀ (v :
  Int), v = (0 : Int) → (h.Full ∧ h.n ≤ (10000 : Nat)) ∧ (0 : Int) ≤ q ∧ q < (18446744073709551616 : Int) → (¬((0 : Int) ≤ n ∧ n < (64 : Int)) → v = (11 : Int) ∧ True ∧ ((65 : Nat) ≤ (65 : Nat) ∧ (False ∧ True ∧ (0 : Nat)
  = (0 : Nat) ∧ x.n = h.n ∧ x.cap = h.cap) ∧ ((64 : Nat) = (64 : Nat) ∧ ∀ (j : Nat), j < (64 : Nat) → x.at_ j = h.at_ j) ∧ True) ∧ False ∧ True) ∧ (¬¬((0 : Int) ≤ n ∧ n < (64 : Int)) → (h.M n ≠ none → v = (13 : Int) ∧ True
  ∧ ((65 : Nat) ≤ (65 : Nat) ∧ (False ∧ True ∧ (0 : Nat) = (0 : Nat) ∧ x.n = h.n ∧ x.cap = h.cap) ∧ ((64 : Nat) = (64 : Nat) ∧ ∀ (j : Nat), j < (64 : Nat) → x.at_ j = h.at_ j) ∧ True) ∧ False ∧ True) ∧ (¬h.M n ≠ none → ∃
  (x_1 : HP), (x_1.Full ∧ x_1.n = h.n + (1 : Nat) ∧ ∀ (i : Int), x_1.M i = if i = n then some q else h.M i) ∧ v = (0 : Int) ∧ True ∧ ((65 : Nat) ≤ (65 : Nat) ∧ (True ∧ True ∧ (0 : Nat) = (0 : Nat) ∧ x.n = x_1.n ∧ x.cap =
  x_1.cap) ∧ ((64 : Nat) = (64 : Nat) ∧ ∀ (j : Nat), j < (64 : Nat) → x.at_ j = x_1.at_ j) ∧ True) ∧ (0 : Nat) = (0 : Nat) ∧ (x_1.cap * (2 : Nat) ≤ (h.app y).cap * (2 : Nat) ∧ x_1.n ≤ x.n ∧ ∀ (j : Nat), j < x_1.n → x.id j
  = x_1.id j ∧ x.key j = x_1.key j ∧ True) ∧ True)))) := by
  simp only [true_and, and_true, eq_self, Nat.le_refl, decide_eq_true_eq, decide_eq_false_iff_not, implies_true, and_self, ne_eq, Nat.zero_add, nblt_true, nblt_false, IntKind.wrap_i64, Bool.not_eq_true', Bool.not_eq_false']
  simp only [HP.eta]
  rintro h n q ⟨⟨hf, hn⟩, hq0, hq1⟩ _ _
  have hh : hasB (fun j => h.at_ j) n = (h.M n).isSome := hf.c.has n
  have hno' : hasB (fun j => h.at_ j) n = false → h.M n = none := fun h1 => by
    rw [hh] at h1
    cases e : h.M n with
    | none => rfl
    | some p => rw [e] at h1; cases h1
  have up0 : ∀ (f : Nat → Int) j, j < h.n → f j = upN f h.n 0 j := fun f j hj => (upN_ne f 0 (by omega)).symm
  refine ⟨fun hr v hv _ => ⟨fun _ => hv, fun h2 => absurd hr h2⟩, fun hr => ⟨fun hyes v hv _ => ⟨fun h2 => absurd hr h2, fun _ => ⟨fun _ => hv, fun h3 => ?_⟩⟩, fun hno => ⟨⟨fun hfit => ⟨by decide, by omega, h.cap, ⟨hfit, hr, hno⟩, ⟨⟨rfl, rfl⟩, fun _ _ => rfl⟩, Nat.le_refl _, Nat.le_of_eq (if_pos (Nat.le_succ _)).symm, fun j hj => ?_⟩, fun hfull => ⟨by omega, fun c hc => ⟨c, ⟨hc, hr, hno⟩, ⟨⟨rfl, rfl⟩, fun _ _ => rfl⟩, Nat.le_refl _, Nat.le_refl _, fun j hj => ?_⟩⟩⟩, fun y hy v hv => ?_⟩⟩⟩
  · exfalso
    refine h3 fun h4 => ?_
    rw [hh, h4] at hyes
    cases hyes
  · have hj : j < h.n + 1 := hj
    exact ⟨fun h1 => ⟨up0 h.id j h1, up0 h.key j h1⟩, fun h1 => ⟨fun _ => by rw [show j = h.n by omega]; exact ⟨(upN_same _ _ _).symm, (upN_same _ _ _).symm⟩, fun h2 => by omega⟩⟩
  · have hj : j < h.n + 1 := hj
    exact ⟨fun h1 => ⟨up0 h.id j h1, up0 h.key j h1⟩, fun h1 => by rw [show j = h.n by omega]; exact ⟨(upN_same _ _ _).symm, (upN_same _ _ _).symm⟩⟩
  · have hM := hno' hno
    have en : (h.app y).n = h.n + 1 := rfl
    have ev : v = ((h.n : Nat) : Int) := by rw [hv, en]; omega
    rw [ev, Int.toNat_natCast, HP.app_set]
    have hP : (h.push y (n, q)).n = h.n + 1 := rfl
    refine ⟨rfl, ⟨⟨by omega, by omega⟩, hr⟩, ⟨rfl, Nat.le_refl _⟩, ⟨hf.push hr ⟨hq0, hq1⟩ hM hy.1, by omega, by omega⟩, fun x hx v2 hv2 _ => ⟨fun h2 => absurd hr h2, fun _ => ⟨fun h3 => absurd hM h3, fun _ => ⟨x, ⟨hx.1.last (by have := hx.2.n; omega), hx.2.n, fun i => (hx.2.M i).trans (hf.c.push_M hr hM i)⟩, hv2, ⟨⟨rfl, rfl⟩, fun _ _ => rfl⟩, ?_, Nat.le_refl _, fun _ _ => ⟨rfl, rfl⟩⟩⟩⟩⟩
    rw [hx.2.cap]
    exact Nat.le_refl _

def push1_C (x : (HP × Int × Int)) : Cfg := { Γ := Go.Sx.look tPush, names := true, lows := true, cuts := cutAt 6 [puC (x.1) (x.2.1) (x.2.2)] }
theorem push1_al (x : (HP × Int × Int)) : Shown (pushP.vc Try.prog (push1_C x) Try.f9 x) := ⟨@Eq.mp _ _ (by kernel_rfl) (push1_vc (x.1) (x.2.1) (x.2.2))⟩
theorem push1_ok : SpOk Try.prog 9 pushP.sp := @Pat.okS _ pushP Try.prog push1_C 9 Try.f9 (fun x => cfg_tab rfl tPush_ok) (by kernel_rfl) Try.func9 (fun _ => rfl) push1_al
def pushNP : Pat ((Nat → Int) × Int × Int) where
  view | [.ptr r 0 [], .int .i64 n, .int .u64 q], H => some ((viewHP r H).at_, n, q) | _, _ => none
  args x := [p0 0, .int .i64 x.2.1, .int .u64 x.2.2]
  H x := [nilReg x.1]
  out x := .need ((∀ i, i < 64 → x.1 i = 0) ∧ 0 ≤ x.2.2 ∧ x.2.2 < 18446744073709551616) (.br (¬ (0 ≤ x.2.1 ∧ x.2.1 < 64)) (.retq (.int .i64 11))
    (.any (fun h : HP => h.Full ∧ h.n = 1 ∧ ∀ i, h.M i = if i = x.2.1 then some x.2.2 else none) fun h => .ret (.int .i64 0) [h.me 1, h.row]))
theorem pushN_vc : ∀ (a : Nat → Int) (n q : Int), ((∀ (i : Nat), i < (64 : Nat) → a i = (0 : Int)) ∧ (0 : Int) ≤ q ∧ q < (18446744073709551616 : Int)) ∧ True → ∀ (v : Int), v = (0 : Int) → ((n = n ∧ True) ∧ True) ∧ ((!decide ((0 : Int) ≤ n
  ∧ n < (64 : Int))) = true → ∀ (v : Int), v = (11 : Int) → (∀ (i : Nat), i < (64 : Nat) → a i = (0 : Int)) ∧ (0 : Int) ≤ q ∧ q < (18446744073709551616 : Int) → (¬((0 : Int) ≤ n ∧ n < (64 : Int)) → v = (11 : Int) ∧ True ∧
  ((65 : Nat) ≤ (65 : Nat) ∧ True ∧ ((64 : Nat) = (64 : Nat) ∧ ∀ (j : Nat), j < (64 : Nat) → a j = a j) ∧ True) ∧ True) ∧ (¬¬((0 : Int) ≤ n ∧ n < (64 : Int)) → ∃ (x : HP), (x.Full ∧ x.n = (1 : Nat) ∧ ∀ (i : Int), x.M i =
  if i = n then some q else none) ∧ v = (0 : Int) ∧ False)) ∧ ((!decide ((0 : Int) ≤ n ∧ n < (64 : Int))) = false → (((True ∧ True) ∧ n = n ∧ True) ∧ ((65 : Nat) ≤ (65 : Nat) ∧ True ∧ ((64 : Nat) = (64 : Nat) ∧ ∀ (j :
  Nat), j < (64 : Nat) → a j = a j) ∧ True) ∧ True) ∧ (hasB (fun (j : Nat) => a j) n = true → ∀ (v : Int), v = (13 : Int) → (∀ (i : Nat), i < (64 : Nat) → a i = (0 : Int)) ∧ (0 : Int) ≤ q ∧ q < (18446744073709551616 : Int)
  → (¬((0 : Int) ≤ n ∧ n < (64 : Int)) → v = (11 : Int) ∧ True ∧ ((65 : Nat) ≤ (65 : Nat) ∧ True ∧ ((64 : Nat) = (64 : Nat) ∧ ∀ (j : Nat), j < (64 : Nat) → a j = a j) ∧ True) ∧ True) ∧ (¬¬((0 : Int) ≤ n ∧ n < (64 : Int)) →
  ∃ (x : HP), (x.Full ∧ x.n = (1 : Nat) ∧ ∀ (i : Int), x.M i = if i = n then some q else none) ∧ v = (0 : Int) ∧ False)) ∧ (hasB (fun (j : Nat) => a j) n = false → (1 : Nat) ≤ (1 : Nat) ∧ ((1 : Nat) = (0 : Nat) → ∀ (v :
  Int), v = IntKind.i64.wrap ((0 : Int) - (1 : Int)) → False) ∧ ((1 : Nat) ≠ (0 : Nat) → (16 : Nat) ≤ (140737488355328 : Nat) ∧ (1 : Nat) ≤ (9223372036854775807 : Nat) ∧ ∀ (cap : Nat), (1 : Nat) ≤ cap → ∀ (v : Int), v =
  IntKind.i64.wrap ((↑(1 : Nat) : Int) - (1 : Int)) → (((True ∧ True) ∧ v = (↑v.toNat : Int) ∧ (n = n ∧ q = q ∧ True) ∧ True) ∧ ((65 : Nat) ≤ (65 : Nat) ∧ (True ∧ True ∧ (0 : Nat) = (0 : Nat) ∧ (1 : Nat) = (1 : Nat) ∧ cap
  = cap) ∧ ((64 : Nat) = (64 : Nat) ∧ ∀ (j : Nat), j < (64 : Nat) → a j = a j) ∧ True) ∧ (cap * (2 : Nat) ≤ cap * (2 : Nat) ∧ (1 : Nat) = (1 : Nat) ∧ ∀ (j : Nat), j < (1 : Nat) → (0 : Int) = (0 : Int) ∧ (0 : Int) = (0 :
  Int) ∧ True) ∧ True) ∧ ((v.toNat < (1 : Nat) ∧ (1 : Nat) ≤ (100000 : Nat)) ∧ (0 : Int) ≤ n ∧ n < (64 : Int)) ∧ (((True ∧ True) ∧ v = (↑v.toNat : Int) ∧ True) ∧ ((65 : Nat) ≤ (65 : Nat) ∧ (True ∧ True ∧ (0 : Nat) = (0 :
  Nat) ∧ ((HP.mk (1 : Nat) cap (fun (_ : Nat) => (0 : Int)) (fun (_ : Nat) => (0 : Int)) a).set v.toNat (n, q)).n = ((HP.mk (1 : Nat) cap (fun (_ : Nat) => (0 : Int)) (fun (_ : Nat) => (0 : Int)) a).set v.toNat (n, q)).n ∧
  ((HP.mk (1 : Nat) cap (fun (_ : Nat) => (0 : Int)) (fun (_ : Nat) => (0 : Int)) a).set v.toNat (n, q)).cap = ((HP.mk (1 : Nat) cap (fun (_ : Nat) => (0 : Int)) (fun (_ : Nat) => (0 : Int)) a).set v.toNat (n, q)).cap) ∧
  ((64 : Nat) = (64 : Nat) ∧ ∀ (j : Nat), j < (64 : Nat) → ((HP.mk (1 : Nat) cap (fun (_ : Nat) => (0 : Int)) (fun (_ : Nat) => (0 : Int)) a).set v.toNat (n, q)).at_ j = ((HP.mk (1 : Nat) cap (fun (_ : Nat) => (0 : Int))
  (fun (_ : Nat) => (0 : Int)) a).set v.toNat (n, q)).at_ j) ∧ True) ∧ (((HP.mk (1 : Nat) cap (fun (_ : Nat) => (0 : Int)) (fun (_ : Nat) => (0 : Int)) a).set v.toNat (n, q)).cap * (2 : Nat) ≤ cap * (2 : Nat) ∧ ((HP.mk (1
  : Nat) cap (fun (_ : Nat) => (0 : Int)) (fun (_ : Nat) => (0 : Int)) a).set v.toNat (n, q)).n = ((HP.mk (1 : Nat) cap (fun (_ : Nat) => (0 : Int)) (fun (_ : Nat) => (0 : Int)) a).set v.toNat (n, q)).n ∧ ∀ (j : Nat), j <
  ((HP.mk (1 : Nat) cap (fun (_ : Nat) => (0 : Int)) (fun (_ : Nat) => (0 : Int)) a).set v.toNat (n, q)).n → ((HP.mk (1 : Nat) cap (fun (_ : Nat) => (0 : Int)) (fun (_ : Nat) => (0 : Int)) a).set v.toNat (n, q)).id j =
  ((HP.mk (1 : Nat) cap (fun (_ : Nat) => (0 : Int)) (fun (_ : Nat) => (0 : Int)) a).set v.toNat (n, q)).id j ∧ ((HP.mk (1 : Nat) cap (fun (_ : Nat) => (0 : Int)) (fun (_ : Nat) => (0 : Int)) a).set v.toNat (n, q)).key j =
  ((HP.mk (1 : Nat) cap (fun (_ : Nat) => (0 : Int)) (fun (_ : Nat) => (0 : Int)) a).set v.toNat (n, q)).key j ∧ True) ∧ True) ∧ ((HP.mk ((HP.mk (1 : Nat) cap (fun (_ : Nat) => (0 : Int)) (fun (_ : Nat) => (0 : Int))
  a).set v.toNat (n, q)).n ((HP.mk (1 : Nat) cap (fun (_ : Nat) => (0 : Int)) (fun (_ : Nat) => (0 : Int)) a).set v.toNat (n, q)).cap (fun (j : Nat) => ((HP.mk (1 : Nat) cap (fun (_ : Nat) => (0 : Int)) (fun (_ : Nat) =>
  (0 : Int)) a).set v.toNat (n, q)).id j) (fun (j : Nat) => ((HP.mk (1 : Nat) cap (fun (_ : Nat) => (0 : Int)) (fun (_ : Nat) => (0 : Int)) a).set v.toNat (n, q)).key j) ((HP.mk (1 : Nat) cap (fun (_ : Nat) => (0 : Int))
  (fun (_ : Nat) => (0 : Int)) a).set v.toNat (n, q)).at_).Hole v.toNat ∧ v.toNat < ((HP.mk (1 : Nat) cap (fun (_ : Nat) => (0 : Int)) (fun (_ : Nat) => (0 : Int)) a).set v.toNat (n, q)).n ∧ ((HP.mk (1 : Nat) cap (fun (_ :
  Nat) => (0 : Int)) (fun (_ : Nat) => (0 : Int)) a).set v.toNat (n, q)).n ≤ (100000 : Nat)) ∧ ∀ (x : HP), x.Down v.toNat ∧ (HP.mk ((HP.mk (1 : Nat) cap (fun (_ : Nat) => (0 : Int)) (fun (_ : Nat) => (0 : Int)) a).set
  v.toNat (n, q)).n ((HP.mk (1 : Nat) cap (fun (_ : Nat) => (0 : Int)) (fun (_ : Nat) => (0 : Int)) a).set v.toNat (n, q)).cap (fun (j : Nat) => ((HP.mk (1 : Nat) cap (fun (_ : Nat) => (0 : Int)) (fun (_ : Nat) => (0 :
  Int)) a).set v.toNat (n, q)).id j) (fun (j : Nat) => ((HP.mk (1 : Nat) cap (fun (_ : Nat) => (0 : Int)) (fun (_ : Nat) => (0 : Int)) a).set v.toNat (n, q)).key j) ((HP.mk (1 : Nat) cap (fun (_ : Nat) => (0 : Int)) (fun
  (_ : Nat) => (0 : Int)) a).set v.toNat (n, q)).at_).Same x → ∀ (v : Int), v = (0 : Int) → (∀ (i : Nat), i < (64 : Nat) → a i = (0 : Int)) ∧ (0 : Int) ≤ q ∧ q < (18446744073709551616 : Int) → (¬((0 : Int) ≤ n ∧ n < (64 :
  Int)) → v = (11 : Int) ∧ True ∧ ((65 : Nat) ≤ (65 : Nat) ∧ False ∧ ((64 : Nat) = (64 : Nat) ∧ ∀ (j : Nat), j < (64 : Nat) → x.at_ j = a j) ∧ True) ∧ True) ∧ (¬¬((0 : Int) ≤ n ∧ n < (64 : Int)) → ∃ (x_1 : HP), (x_1.Full ∧
  x_1.n = (1 : Nat) ∧ ∀ (i : Int), x_1.M i = if i = n then some q else none) ∧ v = (0 : Int) ∧ True ∧ ((65 : Nat) ≤ (65 : Nat) ∧ (True ∧ True ∧ (0 : Nat) = (0 : Nat) ∧ x.n = x_1.n ∧ x.cap = x_1.cap) ∧ ((64 : Nat) = (64 :
  Nat) ∧ ∀ (j : Nat), j < (64 : Nat) → x.at_ j = x_1.at_ j) ∧ True) ∧ (x_1.cap * (2 : Nat) ≤ cap * (2 : Nat) ∧ x_1.n ≤ x.n ∧ ∀ (j : Nat), j < x_1.n → x.id j = x_1.id j ∧ x.key j = x_1.key j ∧ True) ∧ True)))) := by
  simp only [true_and, and_true, eq_self, Nat.le_refl, decide_eq_true_eq, decide_eq_false_iff_not, implies_true, and_self, ne_eq, IntKind.wrap_i64, Bool.not_eq_true', Bool.not_eq_false']
  simp only [HP.eta]
  rintro a n q ⟨ha, hq0, hq1⟩ _ _
  have hf := HP.nil_full ha
  have hh : hasB (fun j => a j) n = false := decide_eq_false fun h => by have := ha n.toNat (by omega); dsimp only at h; omega
  have hM : (HP.nil a).M n = none := hf.c.empty rfl n
  rw [hh]
  refine ⟨fun hr v hv _ => ⟨fun _ => hv, fun h2 => absurd hr h2⟩, fun hr => ⟨fun h => (nomatch h), fun _ => ⟨fun h => (nomatch h), fun _ => ⟨by decide, by decide, fun c hc v hv => ?_⟩⟩⟩⟩
  have ev : v = ((0 : Nat) : Int) := by omega
  rw [ev, Int.toNat_natCast]
  have eP : (HP.set { n := 1, cap := c, id := fun _ => 0, key := fun _ => 0, at_ := a } 0 (n, q)) = (HP.nil a).push c (n, q) := rfl
  rw [eP]
  have hP : ((HP.nil a).push c (n, q)).n = 1 := rfl
  refine ⟨rfl, ⟨by decide, hr⟩, ⟨rfl, Nat.le_refl _⟩, ⟨hf.push hr ⟨hq0, hq1⟩ hM hc, by omega, by omega⟩, fun x hx v2 hv2 _ => ⟨fun h2 => absurd hr h2, fun _ => ⟨x, ⟨hx.1.last (by have := hx.2.n; omega), hx.2.n, fun i => ?_⟩, hv2, ⟨⟨rfl, rfl⟩, fun _ _ => rfl⟩, ?_, Nat.le_refl _, fun _ _ => ⟨rfl, rfl⟩⟩⟩⟩
  · rw [hx.2.M i, hf.c.push_M hr hM i, hf.c.empty rfl i]
  · rw [hx.2.cap]
    exact Nat.le_refl _

def pushN_C (_ : ((Nat → Int) × Int × Int)) : Cfg := { Γ := Go.Sx.look tPush, names := true, lows := true }
theorem pushN_al (x : ((Nat → Int) × Int × Int)) : Shown (pushNP.vc Try.prog (pushN_C x) Try.f9 x) := ⟨@Eq.mp _ _ (by kernel_rfl) (pushN_vc (x.1) (x.2.1) (x.2.2))⟩
theorem pushN_ok : SpOk Try.prog 9 pushNP.sp := @Pat.okS _ pushNP Try.prog pushN_C 9 Try.f9 (fun x => cfg_tab rfl tPush_ok) (by kernel_rfl) Try.func9 (fun _ => rfl) pushN_al
theorem pushA_ok : SpOk Try.prog 9 (altH nilMe (pushNP.sp) (pushP.sp)) := altH_ok pushN_ok push1_ok

def remP : Pat (HP × Int) where
  view | [.ptr r 0 [], .int .i64 n], H => some (viewHP r H, n) | _, _ => none
  args x := [p0 0, .int .i64 x.2]
  H x := [x.1.me 1, x.1.row]
  out x := .need (x.1.Full ∧ x.1.n ≤ 10000) (.br (x.1.M x.2 = none) (.retq .ff)
    (.any (fun h : HP => h.Full ∧ (h.n = x.1.n - 1 ∧ h.cap = x.1.cap) ∧ ∀ i, h.M i = if i = x.2 then none else x.1.M i) fun h => .ret .tt [h.me 1, h.row]))
def remC (h : HP) (n : Int) : Fam where
  α := Bool
  I _ := h.M n ≠ none
  st _ := { sl := mkSl 51 [(0, p0 0), (1, .int .i64 n), (5, .int .i64 (((h.at_ n.toNat - 1).toNat : Nat) : Int)), (6, .int .i64 ((h.n - 1 : Nat) : Int))], H := [(h.rem n).me 1, (h.rem n).row] }
  μ _ := 0
def tRem : Tab := [(23, altH nilMe (hasNP.sp) (hasP.sp)), (27, swapP.sp), (25, upP.sp), (26, downP.sp)]
theorem tRem_ok : TabOk Try.prog tRem := (tab_cons hasA_ok (tab_cons swap_ok (tab_cons up_ok (tab_cons down_ok tab_nil))))

theorem rem1_vc : ∀ (h : HP) (n : Int), (h.Full ∧ h.n ≤ (10000 : Nat)) ∧ True → (((True ∧ True) ∧ n = n ∧ True) ∧ ((65 : Nat) ≤ (65 : Nat) ∧ (True ∧ True ∧ (0 : Nat) = (0 : Nat) ∧ h.n = h.n ∧ h.cap = h.cap) ∧ ((64 : Nat) = (64 : Nat) ∧ ∀
  (j : Nat), j < (64 : Nat) → h.at_ j = h.at_ j) ∧ True) ∧ (h.cap * (2 : Nat) ≤ h.cap * (2 : Nat) ∧ h.n = h.n ∧ ∀ (j : Nat), j < h.n → h.id j = h.id j ∧ h.key j = h.key j ∧ True) ∧ True) ∧ ((!hasB (fun (j : Nat) => h.at_
  j) n) = true → h.Full ∧ h.n ≤ (10000 : Nat) → (h.M n = none → True ∧ True ∧ ((65 : Nat) ≤ (65 : Nat) ∧ (True ∧ True ∧ (0 : Nat) = (0 : Nat) ∧ h.n = h.n ∧ h.cap = h.cap) ∧ ((64 : Nat) = (64 : Nat) ∧ ∀ (j : Nat), j < (64 :
  Nat) → h.at_ j = h.at_ j) ∧ True) ∧ (h.cap * (2 : Nat) ≤ h.cap * (2 : Nat) ∧ h.n ≤ h.n ∧ ∀ (j : Nat), j < h.n → h.id j = h.id j ∧ h.key j = h.key j ∧ True) ∧ True) ∧ (¬h.M n = none → ∃ (x : HP), (x.Full ∧ (x.n = h.n - (1
  : Nat) ∧ x.cap = h.cap) ∧ ∀ (i : Int), x.M i = if i = n then none else h.M i) ∧ False ∧ True ∧ ((65 : Nat) ≤ (65 : Nat) ∧ (True ∧ True ∧ (0 : Nat) = (0 : Nat) ∧ h.n = x.n ∧ h.cap = x.cap) ∧ ((64 : Nat) = (64 : Nat) ∧ ∀
  (j : Nat), j < (64 : Nat) → h.at_ j = x.at_ j) ∧ True) ∧ (x.cap * (2 : Nat) ≤ h.cap * (2 : Nat) ∧ x.n ≤ h.n ∧ ∀ (j : Nat), j < x.n → h.id j = x.id j ∧ h.key j = x.key j ∧ True) ∧ True)) ∧ ((!hasB (fun (j : Nat) => h.at_
  j) n) = false → ((0 : Int) ≤ n ∧ n < (↑(64 : Nat) : Int)) ∧ n.toNat < (64 : Nat) ∧ ∀ (v : Int), v = IntKind.i64.wrap (h.at_ n.toNat - (1 : Int)) → ∀ (v_1 : Int), v_1 = IntKind.i64.wrap ((↑h.n : Int) - (1 : Int)) →
  (((True ∧ True) ∧ v = (↑v.toNat : Int) ∧ v_1 = (↑v_1.toNat : Int) ∧ True) ∧ ((65 : Nat) ≤ (65 : Nat) ∧ (True ∧ True ∧ (0 : Nat) = (0 : Nat) ∧ h.n = h.n ∧ h.cap = h.cap) ∧ ((64 : Nat) = (64 : Nat) ∧ ∀ (j : Nat), j < (64 :
  Nat) → h.at_ j = h.at_ j) ∧ True) ∧ (h.cap * (2 : Nat) ≤ h.cap * (2 : Nat) ∧ h.n = h.n ∧ ∀ (j : Nat), j < h.n → h.id j = h.id j ∧ h.key j = h.key j ∧ True) ∧ True) ∧ ((v.toNat < h.n ∧ v_1.toNat < h.n ∧ h.n ≤ (100000 :
  Nat)) ∧ ((0 : Int) ≤ h.id v.toNat ∧ h.id v.toNat < (64 : Int)) ∧ (0 : Int) ≤ h.id v_1.toNat ∧ h.id v_1.toNat < (64 : Int)) ∧ ((0 : Int) ≤ v_1 ∧ v_1 ≤ (↑((HP.mk h.n h.cap (fun (j : Nat) => h.id j) (fun (j : Nat) => h.key
  j) h.at_).swap v.toNat v_1.toNat).cap : Int)) ∧ (((0 : Int) ≤ n ∧ n < (↑(64 : Nat) : Int)) ∧ n.toNat < (64 : Nat) ∧ ∃ (_ : Bool), (h.M n = none → False) ∧ (((True ∧ True) ∧ n = n ∧ v = (↑(h.at_ n.toNat - (1 : Int)).toNat
  : Int) ∧ v_1 = (↑(h.n - (1 : Nat)) : Int) ∧ True) ∧ ((65 : Nat) ≤ (65 : Nat) ∧ (True ∧ True ∧ (0 : Nat) = (0 : Nat) ∧ v_1.toNat = (h.rem n).n ∧ ((HP.mk h.n h.cap (fun (j : Nat) => h.id j) (fun (j : Nat) => h.key j)
  h.at_).swap v.toNat v_1.toNat).cap = (h.rem n).cap) ∧ ((64 : Nat) = (64 : Nat) ∧ ∀ (j : Nat), j < (64 : Nat) → (bif j.beq n.toNat then (0 : Int) else ((HP.mk h.n h.cap (fun (j : Nat) => h.id j) (fun (j : Nat) => h.key j)
  h.at_).swap v.toNat v_1.toNat).at_ j) = (h.rem n).at_ j) ∧ True) ∧ ((h.rem n).cap * (2 : Nat) ≤ h.cap * (2 : Nat) ∧ (h.rem n).n ≤ ((HP.mk h.n h.cap (fun (j : Nat) => h.id j) (fun (j : Nat) => h.key j) h.at_).swap v.toNat
  v_1.toNat).n ∧ ∀ (j : Nat), j < (h.rem n).n → ((HP.mk h.n h.cap (fun (j : Nat) => h.id j) (fun (j : Nat) => h.key j) h.at_).swap v.toNat v_1.toNat).id j = (h.rem n).id j ∧ ((HP.mk h.n h.cap (fun (j : Nat) => h.id j) (fun
  (j : Nat) => h.key j) h.at_).swap v.toNat v_1.toNat).key j = (h.rem n).key j ∧ True) ∧ True) ∧ True) ∧ ∀ (_ : Bool), (h.M n = none → False) → (decide ((↑(h.at_ n.toNat - (1 : Int)).toNat : Int) < (↑(h.n - (1 : Nat)) :
  Int)) = true → (((True ∧ True) ∧ (↑(h.at_ n.toNat - (1 : Int)).toNat : Int) = (↑(↑(h.at_ n.toNat - (1 : Int)).toNat : Int).toNat : Int) ∧ True) ∧ ((65 : Nat) ≤ (65 : Nat) ∧ (True ∧ True ∧ (0 : Nat) = (0 : Nat) ∧ (h.rem
  n).n = (h.rem n).n ∧ (h.rem n).cap = (h.rem n).cap) ∧ ((64 : Nat) = (64 : Nat) ∧ ∀ (j : Nat), j < (64 : Nat) → (h.rem n).at_ j = (h.rem n).at_ j) ∧ True) ∧ ((h.rem n).cap * (2 : Nat) ≤ (h.rem n).cap * (2 : Nat) ∧ (h.rem
  n).n = (h.rem n).n ∧ ∀ (j : Nat), j < (h.rem n).n → (h.rem n).id j = (h.rem n).id j ∧ (h.rem n).key j = (h.rem n).key j ∧ True) ∧ True) ∧ ((HP.mk (h.rem n).n (h.rem n).cap (fun (j : Nat) => (h.rem n).id j) (fun (j : Nat)
  => (h.rem n).key j) (h.rem n).at_).Hole (↑(h.at_ n.toNat - (1 : Int)).toNat : Int).toNat ∧ (↑(h.at_ n.toNat - (1 : Int)).toNat : Int).toNat < (h.rem n).n ∧ (h.rem n).n ≤ (100000 : Nat)) ∧ ∀ (x : HP), x.Down (↑(h.at_
  n.toNat - (1 : Int)).toNat : Int).toNat ∧ (HP.mk (h.rem n).n (h.rem n).cap (fun (j : Nat) => (h.rem n).id j) (fun (j : Nat) => (h.rem n).key j) (h.rem n).at_).Same x → (((True ∧ True) ∧ (↑(h.at_ n.toNat - (1 :
  Int)).toNat : Int) = (↑(↑(h.at_ n.toNat - (1 : Int)).toNat : Int).toNat : Int) ∧ True) ∧ ((65 : Nat) ≤ (65 : Nat) ∧ (True ∧ True ∧ (0 : Nat) = (0 : Nat) ∧ x.n = x.n ∧ x.cap = x.cap) ∧ ((64 : Nat) = (64 : Nat) ∧ ∀ (j :
  Nat), j < (64 : Nat) → x.at_ j = x.at_ j) ∧ True) ∧ (x.cap * (2 : Nat) ≤ (h.rem n).cap * (2 : Nat) ∧ x.n = x.n ∧ ∀ (j : Nat), j < x.n → x.id j = x.id j ∧ x.key j = x.key j ∧ True) ∧ True) ∧ ((HP.mk x.n x.cap (fun (j :
  Nat) => x.id j) (fun (j : Nat) => x.key j) x.at_).Down (↑(h.at_ n.toNat - (1 : Int)).toNat : Int).toNat ∧ (↑(h.at_ n.toNat - (1 : Int)).toNat : Int).toNat < x.n ∧ x.n ≤ (100000 : Nat)) ∧ ∀ (x_1 : HP), x_1.Full ∧ (HP.mk
  x.n x.cap (fun (j : Nat) => x.id j) (fun (j : Nat) => x.key j) x.at_).Same x_1 → h.Full ∧ h.n ≤ (10000 : Nat) → (h.M n = none → False ∧ True ∧ ((65 : Nat) ≤ (65 : Nat) ∧ (True ∧ True ∧ (0 : Nat) = (0 : Nat) ∧ x_1.n = h.n
  ∧ x_1.cap = h.cap) ∧ ((64 : Nat) = (64 : Nat) ∧ ∀ (j : Nat), j < (64 : Nat) → x_1.at_ j = h.at_ j) ∧ True) ∧ (h.cap * (2 : Nat) ≤ (h.rem n).cap * (2 : Nat) ∧ h.n ≤ x_1.n ∧ ∀ (j : Nat), j < h.n → x_1.id j = h.id j ∧
  x_1.key j = h.key j ∧ True) ∧ True) ∧ (¬h.M n = none → ∃ (x : HP), (x.Full ∧ (x.n = h.n - (1 : Nat) ∧ x.cap = h.cap) ∧ ∀ (i : Int), x.M i = if i = n then none else h.M i) ∧ True ∧ True ∧ ((65 : Nat) ≤ (65 : Nat) ∧ (True
  ∧ True ∧ (0 : Nat) = (0 : Nat) ∧ x_1.n = x.n ∧ x_1.cap = x.cap) ∧ ((64 : Nat) = (64 : Nat) ∧ ∀ (j : Nat), j < (64 : Nat) → x_1.at_ j = x.at_ j) ∧ True) ∧ (x.cap * (2 : Nat) ≤ (h.rem n).cap * (2 : Nat) ∧ x.n ≤ x_1.n ∧ ∀
  (j : Nat), j < x.n → x_1.id j = x.id j ∧ x_1.key j = x.key j ∧ True) ∧ True)) ∧ (decide ((↑(h.at_ n.toNat - (1 : Int)).toNat : Int) < (↑(h.n - (1 : Nat)) : Int)) = false → h.Full ∧ h.n ≤ (10000 : Nat) → (h.M n = none →
  False ∧ True ∧ ((65 : Nat) ≤ (65 : Nat) ∧ (True ∧ True ∧ (0 : Nat) = (0 : Nat) ∧ (h.rem n).n = h.n ∧ (h.rem n).cap = h.cap) ∧ ((64 : Nat) = (64 : Nat) ∧ ∀ (j : Nat), j < (64 : Nat) → (h.rem n).at_ j = h.at_ j) ∧ True) ∧
  (h.cap * (2 : Nat) ≤ (h.rem n).cap * (2 : Nat) ∧ h.n ≤ (h.rem n).n ∧ ∀ (j : Nat), j < h.n → (h.rem n).id j = h.id j ∧ (h.rem n).key j = h.key j ∧ True) ∧ True) ∧ (¬h.M n = none → ∃ (x : HP), (x.Full ∧ (x.n = h.n - (1 :
  Nat) ∧ x.cap = h.cap) ∧ ∀ (i : Int), x.M i = if i = n then none else h.M i) ∧ True ∧ True ∧ ((65 : Nat) ≤ (65 : Nat) ∧ (True ∧ True ∧ (0 : Nat) = (0 : Nat) ∧ (h.rem n).n = x.n ∧ (h.rem n).cap = x.cap) ∧ ((64 : Nat) = (64
  : Nat) ∧ ∀ (j : Nat), j < (64 : Nat) → (h.rem n).at_ j = x.at_ j) ∧ True) ∧ (x.cap * (2 : Nat) ≤ (h.rem n).cap * (2 : Nat) ∧ x.n ≤ (h.rem n).n ∧ ∀ (j : Nat), j < x.n → (h.rem n).id j = x.id j ∧ (h.rem n).key j = x.key j
  ∧ True) ∧ True))) := by
  simp only [true_and, and_true, eq_self, Nat.le_refl, decide_eq_true_eq, decide_eq_false_iff_not, implies_true, and_self, Int.not_lt, Int.toNat_natCast, cond_nbeq, IntKind.wrap_i64, Bool.not_eq_true', Bool.not_eq_false']
  simp only [HP.eta]
  rintro h n ⟨hf, hn⟩
  have hh : hasB (fun j => h.at_ j) n = (h.M n).isSome := hf.c.has n
  rw [hh]
  refine ⟨fun hno _ h2 => ?_, fun hyes => ?_⟩
  · exfalso
    cases e : h.M n with
    | none => exact h2 e
    | some q => rw [e] at hno; cases hno
  · obtain ⟨q, e⟩ : ∃ q, h.M n = some q := by cases e : h.M n with
      | none => rw [e] at hyes; cases hyes
      | some q => exact ⟨q, rfl⟩
    obtain ⟨r, ⟨r1, r2⟩, r3⟩ := hf.c.M_at e
    have hs : h.M n ≠ none := by rw [e]; exact nofun
    have hrr := hf.rem e
    have hM := hf.c.rem_M e
    have hrn : (h.rem n).n = h.n - 1 := rfl
    refine ⟨r, by omega, fun v hv v1 hv1 => ?_⟩
    have ev : v = (((h.at_ n.toNat - 1).toNat : Nat) : Int) := by omega
    have ev1 : v1 = ((h.n - 1 : Nat) : Int) := by omega
    have hk : (h.at_ n.toNat - 1).toNat < h.n := by omega
    have cap := hf.c.cap
    have er : h.rem n = { h.swap (h.at_ n.toNat - 1).toNat (h.n - 1) with n := h.n - 1, at_ := upN (h.swap (h.at_ n.toNat - 1).toNat (h.n - 1)).at_ n.toNat 0 } := rfl
    rw [ev, ev1, Int.toNat_natCast, Int.toNat_natCast]
    refine ⟨⟨rfl, rfl⟩, ⟨⟨hk, by omega, by omega⟩, (hf.c.el _ hk).1.1, (hf.c.el (h.n - 1) (by omega)).1.1⟩, ⟨by omega, (by show ((h.n - 1 : Nat) : Int) ≤ (h.cap : Int); omega)⟩, ⟨r, by omega, true, fun h => hs h, ⟨rfl, rfl⟩, ⟨⟨rfl, rfl⟩, fun j hj => rfl⟩, Nat.le_refl _, ?_, fun j hj => ⟨rfl, rfl⟩⟩, fun _ _ => ⟨fun hlt => ⟨⟨hrr.1, by omega, by omega⟩, fun x hx => ⟨?_, ⟨hx.1, by have := hx.2.n; omega, by have := hx.2.n; omega⟩, fun z hz _ => ⟨fun h => absurd h hs, fun _ => ⟨z, ⟨hz.1, ?_, fun i => ?_⟩, ⟨⟨rfl, rfl⟩, fun _ _ => rfl⟩, ?_, Nat.le_refl _, fun _ _ => ⟨rfl, rfl⟩⟩⟩⟩⟩, fun hge _ => ⟨fun h => absurd h hs, fun _ => ⟨h.rem n, ⟨hrr.2 (by omega), ⟨rfl, rfl⟩, hM⟩, ⟨⟨rfl, rfl⟩, fun _ _ => rfl⟩, Nat.le_refl _, Nat.le_refl _, fun _ _ => ⟨rfl, rfl⟩⟩⟩⟩⟩
    · show h.n - 1 ≤ h.n
      omega
    · rw [hx.2.cap]; exact Nat.le_refl _
    · exact ⟨by rw [hz.2.n, hx.2.n]; rfl, by rw [hz.2.cap, hx.2.cap]; rfl⟩
    · rw [hz.2.M, hx.2.M, hM]
    · rw [hz.2.cap, hx.2.cap]; exact Nat.le_refl _

def rem1_C (x : (HP × Int)) : Cfg := { Γ := Go.Sx.look tRem, names := true, cuts := cutAt 7 [remC (x.1) (x.2)] }
theorem rem1_al (x : (HP × Int)) : Shown (remP.vc Try.prog (rem1_C x) Try.f13 x) := ⟨@Eq.mp _ _ (by kernel_rfl) (rem1_vc (x.1) (x.2))⟩
theorem rem1_ok : SpOk Try.prog 13 remP.sp := @Pat.okS _ remP Try.prog rem1_C 13 Try.f13 (fun x => cfg_tab rfl tRem_ok) (by kernel_rfl) Try.func13 (fun _ => rfl) rem1_al
def remNP : Pat ((Nat → Int) × Int) where
  view | [.ptr r 0 [], .int .i64 n], H => some ((viewHP r H).at_, n) | _, _ => none
  args x := [p0 0, .int .i64 x.2]
  H x := [nilReg x.1]
  out x := .need (∀ i, i < 64 → x.1 i = 0) (.retq .ff)
theorem remN_vc : ∀ (a : Nat → Int) (n : Int), (∀ (i : Nat), i < (64 : Nat) → a i = (0 : Int)) ∧ True → (((True ∧ True) ∧ n = n ∧ True) ∧ ((65 : Nat) ≤ (65 : Nat) ∧ True ∧ ((64 : Nat) = (64 : Nat) ∧ ∀ (j : Nat), j < (64 : Nat) → a j = a
  j) ∧ True) ∧ True) ∧ ((!hasB (fun (j : Nat) => a j) n) = true → (∀ (i : Nat), i < (64 : Nat) → a i = (0 : Int)) → True ∧ True ∧ ((65 : Nat) ≤ (65 : Nat) ∧ True ∧ ((64 : Nat) = (64 : Nat) ∧ ∀ (j : Nat), j < (64 : Nat) → a
  j = a j) ∧ True) ∧ True) ∧ ((!hasB (fun (j : Nat) => a j) n) = false → ((0 : Int) ≤ n ∧ n < (↑(64 : Nat) : Int)) ∧ n.toNat < (64 : Nat) ∧ ∀ (v : Int), v = IntKind.i64.wrap (a n.toNat - (1 : Int)) → ∀ (v : Int), v =
  IntKind.i64.wrap ((0 : Int) - (1 : Int)) → False) := by
  simp only [true_and, and_true, eq_self, Nat.le_refl, implies_true, and_self, IntKind.wrap_i64, Bool.not_eq_true', Bool.not_eq_false']
  rintro a n ha h
  have hh : hasB (fun j => a j) n = false := decide_eq_false fun h => by have := ha n.toNat (by omega); dsimp only at h; omega
  rw [hh] at h
  cases h

def remN_C (_ : ((Nat → Int) × Int)) : Cfg := { Γ := Go.Sx.look tRem, names := true }
theorem remN_al (x : ((Nat → Int) × Int)) : Shown (remNP.vc Try.prog (remN_C x) Try.f13 x) := ⟨@Eq.mp _ _ (by kernel_rfl) (remN_vc (x.1) (x.2))⟩
theorem remN_ok : SpOk Try.prog 13 remNP.sp := @Pat.okS _ remNP Try.prog remN_C 13 Try.f13 (fun x => cfg_tab rfl tRem_ok) (by kernel_rfl) Try.func13 (fun _ => rfl) remN_al
theorem remA_ok : SpOk Try.prog 13 (altH nilMe (remNP.sp) (remP.sp)) := altH_ok remN_ok rem1_ok

def chgP : Pat (HP × Int × Int) where
  view | [.ptr r 0 [], .int .i64 n, .int .u64 q], H => some (viewHP r H, n, q) | _, _ => none
  args x := [p0 0, .int .i64 x.2.1, .int .u64 x.2.2]
  H x := [x.1.me 1, x.1.row]
  out x := .need ((x.1.Full ∧ x.1.n ≤ 10000) ∧ 0 ≤ x.2.2 ∧ x.2.2 < 18446744073709551616) (.br (¬ (0 ≤ x.2.1 ∧ x.2.1 < 64)) (.retq (.int .i64 11)) (.br (x.1.M x.2.1 = none) (.retq (.int .i64 12))
    (.any (fun h : HP => h.Full ∧ (h.n = x.1.n ∧ h.cap = x.1.cap) ∧ ∀ i, h.M i = if i = x.2.1 then some x.2.2 else x.1.M i) fun h => .ret (.int .i64 0) [h.me 1, h.row])))
def chgC (h : HP) (n q : Int) : Fam where
  α := Bool
  I _ := (0 ≤ n ∧ n < 64) ∧ h.M n ≠ none
  st _ := { sl := mkSl 38 [(0, p0 0), (7, .int .i64 (((h.at_ n.toNat - 1).toNat : Nat) : Int))], H := [(h.chg n q).me 1, (h.chg n q).row] }
  μ _ := 0
def tChg : Tab := [(22, thereP.sp), (23, altH nilMe (hasNP.sp) (hasP.sp)), (25, upP.sp), (26, downP.sp)]
theorem tChg_ok : TabOk Try.prog tChg := (tab_cons there_ok (tab_cons hasA_ok (tab_cons up_ok (tab_cons down_ok tab_nil))))

theorem chg1_vc : ∀ (h : HP) (n q : Int), ((h.Full ∧ h.n ≤ (10000 : Nat)) ∧ (0 : Int) ≤ q ∧ q < (18446744073709551616 : Int)) ∧ True → ∀ (v : Int), v = (0 : Int) → ((n = n ∧ True) ∧ True) ∧ ((!decide ((0 : Int) ≤ n ∧ n < (64 : Int))) =
  true → ∀ (v : Int), v = (11 : Int) → (h.Full ∧ h.n ≤ (10000 : Nat)) ∧ (0 : Int) ≤ q ∧ q < (18446744073709551616 : Int) → (¬((0 : Int) ≤ n ∧ n < (64 : Int)) → v = (11 : Int) ∧ True ∧ ((65 : Nat) ≤ (65 : Nat) ∧ (True ∧
  True ∧ (0 : Nat) = (0 : Nat) ∧ h.n = h.n ∧ h.cap = h.cap) ∧ ((64 : Nat) = (64 : Nat) ∧ ∀ (j : Nat), j < (64 : Nat) → h.at_ j = h.at_ j) ∧ True) ∧ (h.cap * (2 : Nat) ≤ h.cap * (2 : Nat) ∧ h.n ≤ h.n ∧ ∀ (j : Nat), j < h.n
  → h.id j = h.id j ∧ h.key j = h.key j ∧ True) ∧ True) ∧ (¬¬((0 : Int) ≤ n ∧ n < (64 : Int)) → (h.M n = none → v = (12 : Int) ∧ True ∧ ((65 : Nat) ≤ (65 : Nat) ∧ (True ∧ True ∧ (0 : Nat) = (0 : Nat) ∧ h.n = h.n ∧ h.cap =
  h.cap) ∧ ((64 : Nat) = (64 : Nat) ∧ ∀ (j : Nat), j < (64 : Nat) → h.at_ j = h.at_ j) ∧ True) ∧ (h.cap * (2 : Nat) ≤ h.cap * (2 : Nat) ∧ h.n ≤ h.n ∧ ∀ (j : Nat), j < h.n → h.id j = h.id j ∧ h.key j = h.key j ∧ True) ∧
  True) ∧ (¬h.M n = none → ∃ (x : HP), (x.Full ∧ (x.n = h.n ∧ x.cap = h.cap) ∧ ∀ (i : Int), x.M i = if i = n then some q else h.M i) ∧ v = (0 : Int) ∧ True ∧ ((65 : Nat) ≤ (65 : Nat) ∧ (True ∧ True ∧ (0 : Nat) = (0 : Nat)
  ∧ h.n = x.n ∧ h.cap = x.cap) ∧ ((64 : Nat) = (64 : Nat) ∧ ∀ (j : Nat), j < (64 : Nat) → h.at_ j = x.at_ j) ∧ True) ∧ (x.cap * (2 : Nat) ≤ h.cap * (2 : Nat) ∧ x.n ≤ h.n ∧ ∀ (j : Nat), j < x.n → h.id j = x.id j ∧ h.key j =
  x.key j ∧ True) ∧ True))) ∧ ((!decide ((0 : Int) ≤ n ∧ n < (64 : Int))) = false → (((True ∧ True) ∧ n = n ∧ True) ∧ ((65 : Nat) ≤ (65 : Nat) ∧ (True ∧ True ∧ (0 : Nat) = (0 : Nat) ∧ h.n = h.n ∧ h.cap = h.cap) ∧ ((64 :
  Nat) = (64 : Nat) ∧ ∀ (j : Nat), j < (64 : Nat) → h.at_ j = h.at_ j) ∧ True) ∧ (h.cap * (2 : Nat) ≤ h.cap * (2 : Nat) ∧ h.n = h.n ∧ ∀ (j : Nat), j < h.n → h.id j = h.id j ∧ h.key j = h.key j ∧ True) ∧ True) ∧ ((!hasB
  (fun (j : Nat) => h.at_ j) n) = true → ∀ (v : Int), v = (12 : Int) → (h.Full ∧ h.n ≤ (10000 : Nat)) ∧ (0 : Int) ≤ q ∧ q < (18446744073709551616 : Int) → (¬((0 : Int) ≤ n ∧ n < (64 : Int)) → v = (11 : Int) ∧ True ∧ ((65 :
  Nat) ≤ (65 : Nat) ∧ (True ∧ True ∧ (0 : Nat) = (0 : Nat) ∧ h.n = h.n ∧ h.cap = h.cap) ∧ ((64 : Nat) = (64 : Nat) ∧ ∀ (j : Nat), j < (64 : Nat) → h.at_ j = h.at_ j) ∧ True) ∧ (h.cap * (2 : Nat) ≤ h.cap * (2 : Nat) ∧ h.n ≤
  h.n ∧ ∀ (j : Nat), j < h.n → h.id j = h.id j ∧ h.key j = h.key j ∧ True) ∧ True) ∧ (¬¬((0 : Int) ≤ n ∧ n < (64 : Int)) → (h.M n = none → v = (12 : Int) ∧ True ∧ ((65 : Nat) ≤ (65 : Nat) ∧ (True ∧ True ∧ (0 : Nat) = (0 :
  Nat) ∧ h.n = h.n ∧ h.cap = h.cap) ∧ ((64 : Nat) = (64 : Nat) ∧ ∀ (j : Nat), j < (64 : Nat) → h.at_ j = h.at_ j) ∧ True) ∧ (h.cap * (2 : Nat) ≤ h.cap * (2 : Nat) ∧ h.n ≤ h.n ∧ ∀ (j : Nat), j < h.n → h.id j = h.id j ∧
  h.key j = h.key j ∧ True) ∧ True) ∧ (¬h.M n = none → ∃ (x : HP), (x.Full ∧ (x.n = h.n ∧ x.cap = h.cap) ∧ ∀ (i : Int), x.M i = if i = n then some q else h.M i) ∧ v = (0 : Int) ∧ True ∧ ((65 : Nat) ≤ (65 : Nat) ∧ (True ∧
  True ∧ (0 : Nat) = (0 : Nat) ∧ h.n = x.n ∧ h.cap = x.cap) ∧ ((64 : Nat) = (64 : Nat) ∧ ∀ (j : Nat), j < (64 : Nat) → h.at_ j = x.at_ j) ∧ True) ∧ (x.cap * (2 : Nat) ≤ h.cap * (2 : Nat) ∧ x.n ≤ h.n ∧ ∀ (j : Nat), j < x.n
  → h.id j = x.id j ∧ h.key j = x.key j ∧ True) ∧ True))) ∧ ((!hasB (fun (j : Nat) => h.at_ j) n) = false → ((0 : Int) ≤ n ∧ n < (↑(64 : Nat) : Int)) ∧ n.toNat < (64 : Nat) ∧ ∀ (v : Int), v = IntKind.i64.wrap (h.at_
  n.toNat - (1 : Int)) → (((0 : Int) ≤ v ∧ v < (↑h.n : Int)) ∧ (0 : Nat) + v.toNat < h.n ∧ ∃ (_ : Bool), (((0 : Int) ≤ n ∧ n < (64 : Int)) ∧ h.M n ≠ none) ∧ (((True ∧ True) ∧ v = (↑(h.at_ n.toNat - (1 : Int)).toNat : Int)
  ∧ True) ∧ ((65 : Nat) ≤ (65 : Nat) ∧ (True ∧ True ∧ (0 : Nat) = (0 : Nat) ∧ h.n = (h.chg n q).n ∧ h.cap = (h.chg n q).cap) ∧ ((64 : Nat) = (64 : Nat) ∧ ∀ (j : Nat), j < (64 : Nat) → h.at_ j = (h.chg n q).at_ j) ∧ True) ∧
  ((h.chg n q).cap * (2 : Nat) ≤ h.cap * (2 : Nat) ∧ (h.chg n q).n ≤ h.n ∧ ∀ (j : Nat), j < (h.chg n q).n → (bif j.beq ((0 : Nat) + v.toNat) then h.id ((0 : Nat) + v.toNat) else h.id j) = (h.chg n q).id j ∧ (bif j.beq ((0
  : Nat) + v.toNat) then q else h.key j) = (h.chg n q).key j ∧ True) ∧ True) ∧ True) ∧ ∀ (_ : Bool), ((0 : Int) ≤ n ∧ n < (64 : Int)) ∧ h.M n ≠ none → (((True ∧ True) ∧ (↑(h.at_ n.toNat - (1 : Int)).toNat : Int) =
  (↑(↑(h.at_ n.toNat - (1 : Int)).toNat : Int).toNat : Int) ∧ True) ∧ ((65 : Nat) ≤ (65 : Nat) ∧ (True ∧ True ∧ (0 : Nat) = (0 : Nat) ∧ (h.chg n q).n = (h.chg n q).n ∧ (h.chg n q).cap = (h.chg n q).cap) ∧ ((64 : Nat) = (64
  : Nat) ∧ ∀ (j : Nat), j < (64 : Nat) → (h.chg n q).at_ j = (h.chg n q).at_ j) ∧ True) ∧ ((h.chg n q).cap * (2 : Nat) ≤ (h.chg n q).cap * (2 : Nat) ∧ (h.chg n q).n = (h.chg n q).n ∧ ∀ (j : Nat), j < (h.chg n q).n → (h.chg
  n q).id j = (h.chg n q).id j ∧ (h.chg n q).key j = (h.chg n q).key j ∧ True) ∧ True) ∧ ((HP.mk (h.chg n q).n (h.chg n q).cap (fun (j : Nat) => (h.chg n q).id j) (fun (j : Nat) => (h.chg n q).key j) (h.chg n q).at_).Hole
  (↑(h.at_ n.toNat - (1 : Int)).toNat : Int).toNat ∧ (↑(h.at_ n.toNat - (1 : Int)).toNat : Int).toNat < (h.chg n q).n ∧ (h.chg n q).n ≤ (100000 : Nat)) ∧ ∀ (x : HP), x.Down (↑(h.at_ n.toNat - (1 : Int)).toNat : Int).toNat
  ∧ (HP.mk (h.chg n q).n (h.chg n q).cap (fun (j : Nat) => (h.chg n q).id j) (fun (j : Nat) => (h.chg n q).key j) (h.chg n q).at_).Same x → (((True ∧ True) ∧ (↑(h.at_ n.toNat - (1 : Int)).toNat : Int) = (↑(↑(h.at_ n.toNat
  - (1 : Int)).toNat : Int).toNat : Int) ∧ True) ∧ ((65 : Nat) ≤ (65 : Nat) ∧ (True ∧ True ∧ (0 : Nat) = (0 : Nat) ∧ x.n = x.n ∧ x.cap = x.cap) ∧ ((64 : Nat) = (64 : Nat) ∧ ∀ (j : Nat), j < (64 : Nat) → x.at_ j = x.at_ j)
  ∧ True) ∧ (x.cap * (2 : Nat) ≤ (h.chg n q).cap * (2 : Nat) ∧ x.n = x.n ∧ ∀ (j : Nat), j < x.n → x.id j = x.id j ∧ x.key j = x.key j ∧ True) ∧ True) ∧ ((HP.mk x.n x.cap (fun (j : Nat) => x.id j) (fun (j : Nat) => x.key j)
  x.at_).Down (↑(h.at_ n.toNat - (1 : Int)).toNat : Int).toNat ∧ (↑(h.at_ n.toNat - (1 : Int)).toNat : Int).toNat < x.n ∧ x.n ≤ (100000 : Nat)) ∧ ∀ (x_1 : HP), x_1.Full ∧ (HP.mk x.n x.cap (fun (j : Nat) => x.id j) (fun (j
  : Nat) => x.key j) x.at_).Same x_1 → ∀ (v : Int), v = (0 : Int) → (h.Full ∧ h.n ≤ (10000 : Nat)) ∧ (0 : Int) ≤ q ∧ q < (18446744073709551616 : Int) → (¬((0 : Int) ≤ n ∧ n < (64 : Int)) → v = (11 : Int) ∧ True ∧ ((65 :
  Nat) ≤ (65 : Nat) ∧ (True ∧ True ∧ (0 : Nat) = (0 : Nat) ∧ x_1.n = h.n ∧ x_1.cap = h.cap) ∧ ((64 : Nat) = (64 : Nat) ∧ ∀ (j : Nat), j < (64 : Nat) → x_1.at_ j = h.at_ j) ∧ True) ∧ (h.cap * (2 : Nat) ≤ (h.chg n q).cap *
  (2 : Nat) ∧ h.n ≤ x_1.n ∧ ∀ (j : Nat), j < h.n → x_1.id j = h.id j ∧ x_1.key j = h.key j ∧ True) ∧ True) ∧ (¬¬((0 : Int) ≤ n ∧ n < (64 : Int)) → (h.M n = none → v = (12 : Int) ∧ True ∧ ((65 : Nat) ≤ (65 : Nat) ∧ (True ∧
  True ∧ (0 : Nat) = (0 : Nat) ∧ x_1.n = h.n ∧ x_1.cap = h.cap) ∧ ((64 : Nat) = (64 : Nat) ∧ ∀ (j : Nat), j < (64 : Nat) → x_1.at_ j = h.at_ j) ∧ True) ∧ (h.cap * (2 : Nat) ≤ (h.chg n q).cap * (2 : Nat) ∧ h.n ≤ x_1.n ∧ ∀
  (j : Nat), j < h.n → x_1.id j = h.id j ∧ x_1.key j = h.key j ∧ True) ∧ True) ∧ (¬h.M n = none → ∃ (x : HP), (x.Full ∧ (x.n = h.n ∧ x.cap = h.cap) ∧ ∀ (i : Int), x.M i = if i = n then some q else h.M i) ∧ v = (0 : Int) ∧
  True ∧ ((65 : Nat) ≤ (65 : Nat) ∧ (True ∧ True ∧ (0 : Nat) = (0 : Nat) ∧ x_1.n = x.n ∧ x_1.cap = x.cap) ∧ ((64 : Nat) = (64 : Nat) ∧ ∀ (j : Nat), j < (64 : Nat) → x_1.at_ j = x.at_ j) ∧ True) ∧ (x.cap * (2 : Nat) ≤
  (h.chg n q).cap * (2 : Nat) ∧ x.n ≤ x_1.n ∧ ∀ (j : Nat), j < x.n → x_1.id j = x.id j ∧ x_1.key j = x.key j ∧ True) ∧ True)))) := by
  simp only [true_and, and_true, eq_self, Nat.le_refl, decide_eq_true_eq, decide_eq_false_iff_not, implies_true, and_self, ne_eq, Nat.zero_add, Int.toNat_natCast, cond_nbeq, IntKind.wrap_i64, Bool.not_eq_true', Bool.not_eq_false']
  simp only [HP.eta]
  rintro h n q ⟨⟨hf, hn⟩, hq⟩ _ _
  have hh : hasB (fun j => h.at_ j) n = (h.M n).isSome := hf.c.has n
  rw [hh]
  refine ⟨fun hr v hv _ => ⟨fun _ => hv, fun h2 => absurd hr h2⟩, fun hr => ⟨fun hno v hv _ => ⟨fun h2 => absurd hr h2, fun _ => ⟨fun _ => hv, fun h3 => ?_⟩⟩, fun hyes => ?_⟩⟩
  · exfalso
    cases e : h.M n with
    | none => exact h3 e
    | some q => rw [e] at hno; cases hno
  · obtain ⟨p, e⟩ : ∃ q, h.M n = some q := by cases e : h.M n with
      | none => rw [e] at hyes; cases hyes
      | some q => exact ⟨q, rfl⟩
    obtain ⟨r, ⟨r1, r2⟩, r3⟩ := hf.c.M_at e
    have hs : ¬ h.M n = none := by rw [e]; exact nofun
    obtain ⟨hol, hM⟩ := hf.chg e hq
    refine ⟨r, by omega, fun v hv => ?_⟩
    have ev : v = (((h.at_ n.toNat - 1).toNat : Nat) : Int) := by omega
    have hk : (h.at_ n.toNat - 1).toNat < h.n := by omega
    have cn : (h.chg n q).n = h.n := rfl
    rw [ev, Int.toNat_natCast]
    refine ⟨⟨by omega, hk, true, ⟨hr, hs⟩, rfl, ⟨⟨rfl, rfl⟩, fun _ _ => rfl⟩, Nat.le_refl _, Nat.le_refl _, fun j hj => ⟨?_, rfl⟩⟩, fun _ _ => ⟨⟨hol, by omega, by omega⟩, fun x hx => ⟨?_, ⟨hx.1, by have := hx.2.n; omega, by have := hx.2.n; omega⟩, fun z hz v2 hv2 _ => ⟨fun h => absurd hr h, fun _ => ⟨fun h => absurd h hs, fun _ => ⟨z, ⟨hz.1, ?_, fun i => ?_⟩, hv2, ⟨⟨rfl, rfl⟩, fun _ _ => rfl⟩, ?_, Nat.le_refl _, fun _ _ => ⟨rfl, rfl⟩⟩⟩⟩⟩⟩⟩
    · show (if j = _ then h.id _ else h.id j) = h.id j
      split
      · rename_i e2; rw [e2]
      · rfl
    · rw [hx.2.cap]; exact Nat.le_refl _
    · exact ⟨by rw [hz.2.n, hx.2.n]; rfl, by rw [hz.2.cap, hx.2.cap]; rfl⟩
    · rw [hz.2.M, hx.2.M, hM]
    · rw [hz.2.cap, hx.2.cap]; exact Nat.le_refl _

def chg1_C (x : (HP × Int × Int)) : Cfg := { Γ := Go.Sx.look tChg, names := true, cuts := cutAt 7 [chgC (x.1) (x.2.1) (x.2.2)] }
theorem chg1_al (x : (HP × Int × Int)) : Shown (chgP.vc Try.prog (chg1_C x) Try.f12 x) := ⟨@Eq.mp _ _ (by kernel_rfl) (chg1_vc (x.1) (x.2.1) (x.2.2))⟩
theorem chg1_ok : SpOk Try.prog 12 chgP.sp := @Pat.okS _ chgP Try.prog chg1_C 12 Try.f12 (fun x => cfg_tab rfl tChg_ok) (by kernel_rfl) Try.func12 (fun _ => rfl) chg1_al
def chgNP : Pat ((Nat → Int) × Int × Int) where
  view | [.ptr r 0 [], .int .i64 n, .int .u64 q], H => some ((viewHP r H).at_, n, q) | _, _ => none
  args x := [p0 0, .int .i64 x.2.1, .int .u64 x.2.2]
  H x := [nilReg x.1]
  out x := .need (∀ i, i < 64 → x.1 i = 0) (.br (¬ (0 ≤ x.2.1 ∧ x.2.1 < 64)) (.retq (.int .i64 11)) (.retq (.int .i64 12)))
theorem chgN_vc : ∀ (a : Nat → Int) (n _ : Int), (∀ (i : Nat), i < (64 : Nat) → a i = (0 : Int)) ∧ True → ∀ (v : Int), v = (0 : Int) → ((n = n ∧ True) ∧ True) ∧ ((!decide ((0 : Int) ≤ n ∧ n < (64 : Int))) = true → ∀ (v : Int), v = (11 :
  Int) → (∀ (i : Nat), i < (64 : Nat) → a i = (0 : Int)) → (¬((0 : Int) ≤ n ∧ n < (64 : Int)) → v = (11 : Int) ∧ True ∧ ((65 : Nat) ≤ (65 : Nat) ∧ True ∧ ((64 : Nat) = (64 : Nat) ∧ ∀ (j : Nat), j < (64 : Nat) → a j = a j)
  ∧ True) ∧ True) ∧ (¬¬((0 : Int) ≤ n ∧ n < (64 : Int)) → v = (12 : Int) ∧ True ∧ ((65 : Nat) ≤ (65 : Nat) ∧ True ∧ ((64 : Nat) = (64 : Nat) ∧ ∀ (j : Nat), j < (64 : Nat) → a j = a j) ∧ True) ∧ True)) ∧ ((!decide ((0 :
  Int) ≤ n ∧ n < (64 : Int))) = false → (((True ∧ True) ∧ n = n ∧ True) ∧ ((65 : Nat) ≤ (65 : Nat) ∧ True ∧ ((64 : Nat) = (64 : Nat) ∧ ∀ (j : Nat), j < (64 : Nat) → a j = a j) ∧ True) ∧ True) ∧ ((!hasB (fun (j : Nat) => a
  j) n) = true → ∀ (v : Int), v = (12 : Int) → (∀ (i : Nat), i < (64 : Nat) → a i = (0 : Int)) → (¬((0 : Int) ≤ n ∧ n < (64 : Int)) → v = (11 : Int) ∧ True ∧ ((65 : Nat) ≤ (65 : Nat) ∧ True ∧ ((64 : Nat) = (64 : Nat) ∧ ∀
  (j : Nat), j < (64 : Nat) → a j = a j) ∧ True) ∧ True) ∧ (¬¬((0 : Int) ≤ n ∧ n < (64 : Int)) → v = (12 : Int) ∧ True ∧ ((65 : Nat) ≤ (65 : Nat) ∧ True ∧ ((64 : Nat) = (64 : Nat) ∧ ∀ (j : Nat), j < (64 : Nat) → a j = a j)
  ∧ True) ∧ True)) ∧ ((!hasB (fun (j : Nat) => a j) n) = false → ((0 : Int) ≤ n ∧ n < (↑(64 : Nat) : Int)) ∧ n.toNat < (64 : Nat) ∧ ∀ (v : Int), v = IntKind.i64.wrap (a n.toNat - (1 : Int)) → False)) := by
  simp only [true_and, and_true, eq_self, Nat.le_refl, decide_eq_true_eq, decide_eq_false_iff_not, implies_true, and_self, IntKind.wrap_i64, Bool.not_eq_true', Bool.not_eq_false']
  rintro a n q ha _ _
  have hh : hasB (fun j => a j) n = false := decide_eq_false fun h => by have := ha n.toNat (by omega); dsimp only at h; omega
  rw [hh]
  exact ⟨fun hr v hv _ => ⟨fun _ => hv, fun h => absurd hr h⟩, fun hr => ⟨fun _ v hv _ => ⟨fun h => absurd hr h, fun _ => hv⟩, fun h => (nomatch h)⟩⟩

def chgN_C (_ : ((Nat → Int) × Int × Int)) : Cfg := { Γ := Go.Sx.look tChg, names := true }
theorem chgN_al (x : ((Nat → Int) × Int × Int)) : Shown (chgNP.vc Try.prog (chgN_C x) Try.f12 x) := ⟨@Eq.mp _ _ (by kernel_rfl) (chgN_vc (x.1) (x.2.1) (x.2.2))⟩
theorem chgN_ok : SpOk Try.prog 12 chgNP.sp := @Pat.okS _ chgNP Try.prog chgN_C 12 Try.f12 (fun x => cfg_tab rfl tChg_ok) (by kernel_rfl) Try.func12 (fun _ => rfl) chgN_al
theorem chgA_ok : SpOk Try.prog 12 (altH nilMe (chgNP.sp) (chgP.sp)) := altH_ok chgN_ok chg1_ok

def popP : Pat HP where
  view | [.ptr r 0 []], H => some (viewHP r H) | _, _ => none
  args _ := [p0 0]
  H h := [h.me 1, h.row]
  out h := .need (h.Full ∧ h.n ≤ 10000) (.br (h.n = 0) (.retq (tup3 (-1) 0 false))
    (.any (fun g : HP => g.Full ∧ (g.n = h.n - 1 ∧ g.cap = h.cap) ∧ ∀ i, g.M i = if i = h.id 0 then none else h.M i) fun g => .ret (tup3 (h.id 0) (h.key 0) true) [g.me 1, g.row]))
def tPop : Tab := [(20, altH nilMe (minNP.sp) (minP.sp)), (13, altH nilMe (remNP.sp) (remP.sp))]
theorem tPop_ok : TabOk Try.prog tPop := (tab_cons minA_ok (tab_cons remA_ok tab_nil))

theorem pop1_vc : ∀ (h : HP), (h.Full ∧ h.n ≤ (10000 : Nat)) ∧ True → ∀ (v : Int), v = (0 : Int) → ∀ (v : Int), v = (0 : Int) → (((True ∧ True) ∧ True) ∧ ((65 : Nat) ≤ (65 : Nat) ∧ (True ∧ True ∧ (0 : Nat) = (0 : Nat) ∧ h.n = h.n ∧ h.cap
  = h.cap) ∧ ((64 : Nat) = (64 : Nat) ∧ ∀ (j : Nat), j < (64 : Nat) → h.at_ j = h.at_ j) ∧ True) ∧ (h.cap * (2 : Nat) ≤ h.cap * (2 : Nat) ∧ h.n = h.n ∧ ∀ (j : Nat), j < h.n → h.id j = h.id j ∧ h.key j = h.key j ∧ True) ∧
  True) ∧ (h.n = (0 : Nat) → ∀ (v : Int), v = (-1 : Int) → ∀ (v_1 : Int), v_1 = (0 : Int) → (((True ∧ True) ∧ v = v ∧ True) ∧ ((65 : Nat) ≤ (65 : Nat) ∧ (True ∧ True ∧ (0 : Nat) = (0 : Nat) ∧ h.n = h.n ∧ h.cap = h.cap) ∧
  ((64 : Nat) = (64 : Nat) ∧ ∀ (j : Nat), j < (64 : Nat) → h.at_ j = h.at_ j) ∧ True) ∧ (h.cap * (2 : Nat) ≤ h.cap * (2 : Nat) ∧ h.n = h.n ∧ ∀ (j : Nat), j < h.n → h.id j = h.id j ∧ h.key j = h.key j ∧ True) ∧ True) ∧
  ((HP.mk h.n h.cap (fun (j : Nat) => h.id j) (fun (j : Nat) => h.key j) h.at_).Full ∧ h.n ≤ (10000 : Nat)) ∧ ((HP.mk h.n h.cap (fun (j : Nat) => h.id j) (fun (j : Nat) => h.key j) h.at_).M v = none → ∀ (v_2 : Int), v_2 =
  v → ∀ (v : Int), v = v_1 → h.Full ∧ h.n ≤ (10000 : Nat) → (h.n = (0 : Nat) → (v_2 = (-1 : Int) ∧ v = (0 : Int) ∧ false = false ∧ True) ∧ True ∧ ((65 : Nat) ≤ (65 : Nat) ∧ (True ∧ True ∧ (0 : Nat) = (0 : Nat) ∧ h.n = h.n
  ∧ h.cap = h.cap) ∧ ((64 : Nat) = (64 : Nat) ∧ ∀ (j : Nat), j < (64 : Nat) → h.at_ j = h.at_ j) ∧ True) ∧ (h.cap * (2 : Nat) ≤ h.cap * (2 : Nat) ∧ h.n ≤ h.n ∧ ∀ (j : Nat), j < h.n → h.id j = h.id j ∧ h.key j = h.key j ∧
  True) ∧ True) ∧ (¬h.n = (0 : Nat) → ∃ (x : HP), (x.Full ∧ (x.n = h.n - (1 : Nat) ∧ x.cap = h.cap) ∧ ∀ (i : Int), x.M i = if i = h.id (0 : Nat) then none else h.M i) ∧ (v_2 = h.id (0 : Nat) ∧ v = h.key (0 : Nat) ∧ false =
  true ∧ True) ∧ True ∧ ((65 : Nat) ≤ (65 : Nat) ∧ (True ∧ True ∧ (0 : Nat) = (0 : Nat) ∧ h.n = x.n ∧ h.cap = x.cap) ∧ ((64 : Nat) = (64 : Nat) ∧ ∀ (j : Nat), j < (64 : Nat) → h.at_ j = x.at_ j) ∧ True) ∧ (x.cap * (2 :
  Nat) ≤ h.cap * (2 : Nat) ∧ x.n ≤ h.n ∧ ∀ (j : Nat), j < x.n → h.id j = x.id j ∧ h.key j = x.key j ∧ True) ∧ True)) ∧ (¬(HP.mk h.n h.cap (fun (j : Nat) => h.id j) (fun (j : Nat) => h.key j) h.at_).M v = none → ∀ (x : HP),
  (x.Full ∧ (x.n = h.n - (1 : Nat) ∧ x.cap = h.cap) ∧ ∀ (i : Int), x.M i = if i = v then none else (HP.mk h.n h.cap (fun (j : Nat) => h.id j) (fun (j : Nat) => h.key j) h.at_).M i) → ∀ (v_2 : Int), v_2 = v → ∀ (v : Int), v
  = v_1 → h.Full ∧ h.n ≤ (10000 : Nat) → (h.n = (0 : Nat) → (v_2 = (-1 : Int) ∧ v = (0 : Int) ∧ false = false ∧ True) ∧ True ∧ ((65 : Nat) ≤ (65 : Nat) ∧ (True ∧ True ∧ (0 : Nat) = (0 : Nat) ∧ x.n = h.n ∧ x.cap = h.cap) ∧
  ((64 : Nat) = (64 : Nat) ∧ ∀ (j : Nat), j < (64 : Nat) → x.at_ j = h.at_ j) ∧ True) ∧ (h.cap * (2 : Nat) ≤ h.cap * (2 : Nat) ∧ h.n ≤ x.n ∧ ∀ (j : Nat), j < h.n → x.id j = h.id j ∧ x.key j = h.key j ∧ True) ∧ True) ∧
  (¬h.n = (0 : Nat) → ∃ (x_1 : HP), (x_1.Full ∧ (x_1.n = h.n - (1 : Nat) ∧ x_1.cap = h.cap) ∧ ∀ (i : Int), x_1.M i = if i = h.id (0 : Nat) then none else h.M i) ∧ (v_2 = h.id (0 : Nat) ∧ v = h.key (0 : Nat) ∧ false = true
  ∧ True) ∧ True ∧ ((65 : Nat) ≤ (65 : Nat) ∧ (True ∧ True ∧ (0 : Nat) = (0 : Nat) ∧ x.n = x_1.n ∧ x.cap = x_1.cap) ∧ ((64 : Nat) = (64 : Nat) ∧ ∀ (j : Nat), j < (64 : Nat) → x.at_ j = x_1.at_ j) ∧ True) ∧ (x_1.cap * (2 :
  Nat) ≤ h.cap * (2 : Nat) ∧ x_1.n ≤ x.n ∧ ∀ (j : Nat), j < x_1.n → x.id j = x_1.id j ∧ x.key j = x_1.key j ∧ True) ∧ True))) ∧ (¬h.n = (0 : Nat) → ∀ (v : Int), v = h.id (0 : Nat) → ∀ (v_1 : Int), v_1 = h.key (0 : Nat) →
  (((True ∧ True) ∧ v = v ∧ True) ∧ ((65 : Nat) ≤ (65 : Nat) ∧ (True ∧ True ∧ (0 : Nat) = (0 : Nat) ∧ h.n = h.n ∧ h.cap = h.cap) ∧ ((64 : Nat) = (64 : Nat) ∧ ∀ (j : Nat), j < (64 : Nat) → h.at_ j = h.at_ j) ∧ True) ∧
  (h.cap * (2 : Nat) ≤ h.cap * (2 : Nat) ∧ h.n = h.n ∧ ∀ (j : Nat), j < h.n → h.id j = h.id j ∧ h.key j = h.key j ∧ True) ∧ True) ∧ ((HP.mk h.n h.cap (fun (j : Nat) => h.id j) (fun (j : Nat) => h.key j) h.at_).Full ∧ h.n ≤
  (10000 : Nat)) ∧ ((HP.mk h.n h.cap (fun (j : Nat) => h.id j) (fun (j : Nat) => h.key j) h.at_).M v = none → ∀ (v_2 : Int), v_2 = v → ∀ (v : Int), v = v_1 → h.Full ∧ h.n ≤ (10000 : Nat) → (h.n = (0 : Nat) → (v_2 = (-1 :
  Int) ∧ v = (0 : Int) ∧ true = false ∧ True) ∧ True ∧ ((65 : Nat) ≤ (65 : Nat) ∧ (True ∧ True ∧ (0 : Nat) = (0 : Nat) ∧ h.n = h.n ∧ h.cap = h.cap) ∧ ((64 : Nat) = (64 : Nat) ∧ ∀ (j : Nat), j < (64 : Nat) → h.at_ j = h.at_
  j) ∧ True) ∧ (h.cap * (2 : Nat) ≤ h.cap * (2 : Nat) ∧ h.n ≤ h.n ∧ ∀ (j : Nat), j < h.n → h.id j = h.id j ∧ h.key j = h.key j ∧ True) ∧ True) ∧ (¬h.n = (0 : Nat) → ∃ (x : HP), (x.Full ∧ (x.n = h.n - (1 : Nat) ∧ x.cap =
  h.cap) ∧ ∀ (i : Int), x.M i = if i = h.id (0 : Nat) then none else h.M i) ∧ (v_2 = h.id (0 : Nat) ∧ v = h.key (0 : Nat) ∧ true = true ∧ True) ∧ True ∧ ((65 : Nat) ≤ (65 : Nat) ∧ (True ∧ True ∧ (0 : Nat) = (0 : Nat) ∧ h.n
  = x.n ∧ h.cap = x.cap) ∧ ((64 : Nat) = (64 : Nat) ∧ ∀ (j : Nat), j < (64 : Nat) → h.at_ j = x.at_ j) ∧ True) ∧ (x.cap * (2 : Nat) ≤ h.cap * (2 : Nat) ∧ x.n ≤ h.n ∧ ∀ (j : Nat), j < x.n → h.id j = x.id j ∧ h.key j = x.key
  j ∧ True) ∧ True)) ∧ (¬(HP.mk h.n h.cap (fun (j : Nat) => h.id j) (fun (j : Nat) => h.key j) h.at_).M v = none → ∀ (x : HP), (x.Full ∧ (x.n = h.n - (1 : Nat) ∧ x.cap = h.cap) ∧ ∀ (i : Int), x.M i = if i = v then none
  else (HP.mk h.n h.cap (fun (j : Nat) => h.id j) (fun (j : Nat) => h.key j) h.at_).M i) → ∀ (v_2 : Int), v_2 = v → ∀ (v : Int), v = v_1 → h.Full ∧ h.n ≤ (10000 : Nat) → (h.n = (0 : Nat) → (v_2 = (-1 : Int) ∧ v = (0 : Int)
  ∧ true = false ∧ True) ∧ True ∧ ((65 : Nat) ≤ (65 : Nat) ∧ (True ∧ True ∧ (0 : Nat) = (0 : Nat) ∧ x.n = h.n ∧ x.cap = h.cap) ∧ ((64 : Nat) = (64 : Nat) ∧ ∀ (j : Nat), j < (64 : Nat) → x.at_ j = h.at_ j) ∧ True) ∧ (h.cap
  * (2 : Nat) ≤ h.cap * (2 : Nat) ∧ h.n ≤ x.n ∧ ∀ (j : Nat), j < h.n → x.id j = h.id j ∧ x.key j = h.key j ∧ True) ∧ True) ∧ (¬h.n = (0 : Nat) → ∃ (x_1 : HP), (x_1.Full ∧ (x_1.n = h.n - (1 : Nat) ∧ x_1.cap = h.cap) ∧ ∀ (i
  : Int), x_1.M i = if i = h.id (0 : Nat) then none else h.M i) ∧ (v_2 = h.id (0 : Nat) ∧ v = h.key (0 : Nat) ∧ true = true ∧ True) ∧ True ∧ ((65 : Nat) ≤ (65 : Nat) ∧ (True ∧ True ∧ (0 : Nat) = (0 : Nat) ∧ x.n = x_1.n ∧
  x.cap = x_1.cap) ∧ ((64 : Nat) = (64 : Nat) ∧ ∀ (j : Nat), j < (64 : Nat) → x.at_ j = x_1.at_ j) ∧ True) ∧ (x_1.cap * (2 : Nat) ≤ h.cap * (2 : Nat) ∧ x_1.n ≤ x.n ∧ ∀ (j : Nat), j < x_1.n → x.id j = x_1.id j ∧ x.key j =
  x_1.key j ∧ True) ∧ True))) := by
  simp only [true_and, and_true, eq_self, Nat.le_refl, implies_true, and_self]
  simp only [HP.eta]
  rintro h ⟨hf, hn⟩ _ _ _ _
  have hid : ¬ h.n = 0 → h.M (h.id 0) = some (h.key 0) := fun h0 => hf.c.M_some (by omega)
  refine ⟨fun h0 v hv v1 hv1 => ⟨⟨hf, hn⟩, fun _ v2 hv2 v3 hv3 _ => ⟨fun _ => ⟨hv2.trans hv, hv3.trans hv1⟩, fun h => absurd h0 h⟩, fun hM => absurd (hf.c.empty h0 v) hM⟩, fun h0 v hv v1 hv1 => ⟨⟨hf, hn⟩, fun hM => ?_, fun hM x hx v2 hv2 v3 hv3 _ => ⟨fun h => absurd h h0, fun _ => ⟨x, ⟨hx.1, hx.2.1, ?_⟩, ⟨hv2.trans hv, hv3.trans hv1⟩, ⟨⟨rfl, rfl⟩, fun _ _ => rfl⟩, ?_, Nat.le_refl _, fun _ _ => ⟨rfl, rfl⟩⟩⟩⟩⟩
  · rw [hv, hid h0] at hM
    cases hM
  · rw [← hv]; exact hx.2.2
  · rw [hx.2.1.2]; exact Nat.le_refl _

def pop1_C (_ : HP) : Cfg := { Γ := Go.Sx.look tPop, names := true }
theorem pop1_al (x : HP) : Shown (popP.vc Try.prog (pop1_C x) Try.f10 x) := ⟨@Eq.mp _ _ (by kernel_rfl) (pop1_vc x)⟩
theorem pop1_ok : SpOk Try.prog 10 popP.sp := @Pat.okS _ popP Try.prog pop1_C 10 Try.f10 (fun x => cfg_tab rfl tPop_ok) (by kernel_rfl) Try.func10 (fun _ => rfl) pop1_al
def popNP : Pat (Nat → Int) where
  view | [.ptr r 0 []], H => some (viewHP r H).at_ | _, _ => none
  args _ := [p0 0]
  H a := [nilReg a]
  out a := .need (∀ i, i < 64 → a i = 0) (.retq (tup3 (-1) 0 false))
theorem popN_vc : ∀ (a : Nat → Int), (∀ (i : Nat), i < (64 : Nat) → a i = (0 : Int)) ∧ True → ∀ (v : Int), v = (0 : Int) → ∀ (v : Int), v = (0 : Int) → (((True ∧ True) ∧ True) ∧ ((65 : Nat) ≤ (65 : Nat) ∧ True ∧ ((64 : Nat) = (64 : Nat) ∧
  ∀ (j : Nat), j < (64 : Nat) → a j = a j) ∧ True) ∧ True) ∧ ∀ (v : Int), v = (-1 : Int) → ∀ (v_1 : Int), v_1 = (0 : Int) → (((True ∧ True) ∧ v = v ∧ True) ∧ ((65 : Nat) ≤ (65 : Nat) ∧ True ∧ ((64 : Nat) = (64 : Nat) ∧ ∀
  (j : Nat), j < (64 : Nat) → a j = a j) ∧ True) ∧ True) ∧ (∀ (i : Nat), i < (64 : Nat) → a i = (0 : Int)) ∧ ∀ (v_2 : Int), v_2 = v → ∀ (v : Int), v = v_1 → (∀ (i : Nat), i < (64 : Nat) → a i = (0 : Int)) → (v_2 = (-1 :
  Int) ∧ v = (0 : Int) ∧ false = false ∧ True) ∧ True ∧ ((65 : Nat) ≤ (65 : Nat) ∧ True ∧ ((64 : Nat) = (64 : Nat) ∧ ∀ (j : Nat), j < (64 : Nat) → a j = a j) ∧ True) ∧ True := by
  simp only [true_and, and_true, eq_self, Nat.le_refl, implies_true, and_self]
  exact fun a ha _ _ _ _ v hv v1 hv1 => ⟨ha, fun v2 hv2 v3 hv3 _ => ⟨hv2.trans hv, hv3.trans hv1⟩⟩

def popN_C (_ : (Nat → Int)) : Cfg := { Γ := Go.Sx.look tPop, names := true }
theorem popN_al (x : (Nat → Int)) : Shown (popNP.vc Try.prog (popN_C x) Try.f10 x) := ⟨@Eq.mp _ _ (by kernel_rfl) (popN_vc x)⟩
theorem popN_ok : SpOk Try.prog 10 popNP.sp := @Pat.okS _ popNP Try.prog popN_C 10 Try.f10 (fun x => cfg_tab rfl tPop_ok) (by kernel_rfl) Try.func10 (fun _ => rfl) popN_al
theorem popA_ok : SpOk Try.prog 10 (altH nilMe (popNP.sp) (popP.sp)) := altH_ok popN_ok pop1_ok

end Go.Proofs.Ytnicidiocncjdaa
