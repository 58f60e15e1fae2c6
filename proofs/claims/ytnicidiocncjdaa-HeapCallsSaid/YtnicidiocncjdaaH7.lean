import Derived.Test.YtnicidiocncjdaaH6
open Go Go.Sx Go.Proofs
set_option maxRecDepth 100000
namespace Go.Proofs.Ytnicidiocncjdaa
open Go.RowKit Go.Sort

def ordP : Pat (It × It) where
  view | [.cons (.int .i64 a) (.cons (.int .u64 b) .nil), .cons (.int .i64 c) (.cons (.int .u64 d) .nil)], _ => some ((a, b), (c, d)) | _, _ => none
  args x := [itT (x.1.1, x.1.2), itT (x.2.1, x.2.2)]
  H _ := []
  out x := .retq (.int .i64 (ordI x.1 x.2))
theorem ord_ok : SpOk Try.prog 30 ordP.sp := Pat.okH (by kernel_rfl) (fun _ => rfl) fun x K hw ρ w hk hg => by
  refine (order_calls x.1 x.2 w).mono ?_
  rintro e w' ⟨rfl, q, os', rfl⟩
  refine ⟨_, ρ, _, hw, wrel_below hk ⟨rfl, rfl, rfl, ?_, fun k hk' => ?_⟩, rfl, trivial⟩
  · simp [grow, World.drewN]
  · show (w.heap ++ os')[k]? = w.heap[k]?
    rw [Array.getElem?_append_left hk']

def thereP : Pat Int where
  view | [.int .i64 n], _ => some n | _, _ => none
  args n := [.int .i64 n]
  H _ := []
  out n := .retq (.bool (decide (0 ≤ n ∧ n < 64)))
theorem there_vc : ∀ (n : Int), True → (decide (n ≥ (0 : Int)) = true → decide (n < (64 : Int)) = decide ((0 : Int) ≤ n ∧ n < (64 : Int)) ∧ True ∧ True) ∧ (decide (n ≥ (0 : Int)) = false → decide ((0 : Int) ≤ n ∧ n < (64 : Int)) = false ∧
  True ∧ True) := by
  simp only [and_true, decide_eq_true_eq, decide_eq_false_iff_not, true_implies, and_self, Int.not_le, ge_iff_le]
  exact fun n => ⟨fun h => decide_eq_decide.2 ⟨fun h2 => ⟨h, h2⟩, fun h2 => h2.2⟩, fun h h2 => by omega⟩

def there_C (_ : Int) : Cfg := { Γ := Go.Sx.look [], names := true }
theorem there_al (x : Int) : Shown (thereP.vc Try.prog (there_C x) Try.f22 x) := ⟨@Eq.mp _ _ (by kernel_rfl) (there_vc x)⟩
theorem there_ok : SpOk Try.prog 22 thereP.sp := @Pat.okS _ thereP Try.prog there_C 22 Try.f22 (fun x => cfg_nil rfl) (by kernel_rfl) Try.func22 (fun _ => rfl) there_al
def hasB (a : Nat → Int) (i : Int) : Bool := decide ((0 ≤ i ∧ i < 64) ∧ 0 < a i.toNat)
def hasP : Pat (HP × Int) where
  view | [.ptr r 0 [], .int .i64 n], H => some (viewHP r H, n) | _, _ => none
  args x := [p0 0, .int .i64 x.2]
  H x := [x.1.me 1, x.1.row]
  out x := .retq (.bool (hasB x.1.at_ x.2))
def tHas : Tab := [(22, thereP.sp)]
theorem tHas_ok : TabOk Try.prog tHas := (tab_cons there_ok tab_nil)

theorem has1_vc : ∀ (h : HP) (n : Int), True → ((n = n ∧ True) ∧ True) ∧ (decide ((0 : Int) ≤ n ∧ n < (64 : Int)) = true → ((0 : Int) ≤ n ∧ n < (↑(64 : Nat) : Int)) ∧ n.toNat < (64 : Nat) ∧ decide (h.at_ n.toNat > (0 : Int)) = hasB h.at_
  n ∧ True ∧ ((65 : Nat) ≤ (65 : Nat) ∧ (True ∧ True ∧ (0 : Nat) = (0 : Nat) ∧ h.n = h.n ∧ h.cap = h.cap) ∧ ((64 : Nat) = (64 : Nat) ∧ ∀ (j : Nat), j < (64 : Nat) → h.at_ j = h.at_ j) ∧ True) ∧ (h.cap * (2 : Nat) ≤ h.cap *
  (2 : Nat) ∧ h.n ≤ h.n ∧ ∀ (j : Nat), j < h.n → h.id j = h.id j ∧ h.key j = h.key j ∧ True) ∧ True) ∧ (decide ((0 : Int) ≤ n ∧ n < (64 : Int)) = false → hasB h.at_ n = false ∧ True ∧ ((65 : Nat) ≤ (65 : Nat) ∧ (True ∧
  True ∧ (0 : Nat) = (0 : Nat) ∧ h.n = h.n ∧ h.cap = h.cap) ∧ ((64 : Nat) = (64 : Nat) ∧ ∀ (j : Nat), j < (64 : Nat) → h.at_ j = h.at_ j) ∧ True) ∧ (h.cap * (2 : Nat) ≤ h.cap * (2 : Nat) ∧ h.n ≤ h.n ∧ ∀ (j : Nat), j < h.n
  → h.id j = h.id j ∧ h.key j = h.key j ∧ True) ∧ True) := by
  simp only [true_and, and_true, eq_self, Nat.le_refl, decide_eq_true_eq, decide_eq_false_iff_not, implies_true, true_implies, and_self, gt_iff_lt]
  exact fun h n => ⟨fun hn => ⟨by omega, by omega, decide_eq_decide.2 ⟨fun h2 => ⟨hn, h2⟩, fun h2 => h2.2⟩⟩, fun hn => decide_eq_false fun h2 => hn h2.1⟩

def has1_C (_ : (HP × Int)) : Cfg := { Γ := Go.Sx.look tHas, names := true }
theorem has1_al (x : (HP × Int)) : Shown (hasP.vc Try.prog (has1_C x) Try.f23 x) := ⟨@Eq.mp _ _ (by kernel_rfl) (has1_vc (x.1) (x.2))⟩
theorem has1_ok : SpOk Try.prog 23 hasP.sp := @Pat.okS _ hasP Try.prog has1_C 23 Try.f23 (fun x => cfg_tab rfl tHas_ok) (by kernel_rfl) Try.func23 (fun _ => rfl) has1_al
def hasNP : Pat ((Nat → Int) × Int) where
  view | [.ptr r 0 [], .int .i64 n], H => some ((viewHP r H).at_, n) | _, _ => none
  args x := [p0 0, .int .i64 x.2]
  H x := [newReg 55 (meT .nils x.1)]
  out x := .retq (.bool (hasB x.1 x.2))
theorem hasN_vc : ∀ (a : Nat → Int) (n : Int), True → ((n = n ∧ True) ∧ True) ∧ (decide ((0 : Int) ≤ n ∧ n < (64 : Int)) = true → ((0 : Int) ≤ n ∧ n < (↑(64 : Nat) : Int)) ∧ n.toNat < (64 : Nat) ∧ decide (a n.toNat > (0 : Int)) = hasB a n
  ∧ True ∧ ((65 : Nat) ≤ (65 : Nat) ∧ True ∧ ((64 : Nat) = (64 : Nat) ∧ ∀ (j : Nat), j < (64 : Nat) → a j = a j) ∧ True) ∧ True) ∧ (decide ((0 : Int) ≤ n ∧ n < (64 : Int)) = false → hasB a n = false ∧ True ∧ ((65 : Nat) ≤
  (65 : Nat) ∧ True ∧ ((64 : Nat) = (64 : Nat) ∧ ∀ (j : Nat), j < (64 : Nat) → a j = a j) ∧ True) ∧ True) := by
  simp only [true_and, and_true, eq_self, Nat.le_refl, decide_eq_true_eq, decide_eq_false_iff_not, implies_true, true_implies, and_self, gt_iff_lt]
  exact fun a n => ⟨fun hn => ⟨by omega, by omega, decide_eq_decide.2 ⟨fun h2 => ⟨hn, h2⟩, fun h2 => h2.2⟩⟩, fun hn => decide_eq_false fun h2 => hn h2.1⟩

def hasN_C (_ : ((Nat → Int) × Int)) : Cfg := { Γ := Go.Sx.look tHas, names := true }
theorem hasN_al (x : ((Nat → Int) × Int)) : Shown (hasNP.vc Try.prog (hasN_C x) Try.f23 x) := ⟨@Eq.mp _ _ (by kernel_rfl) (hasN_vc (x.1) (x.2))⟩
theorem hasN_ok : SpOk Try.prog 23 hasNP.sp := @Pat.okS _ hasNP Try.prog hasN_C 23 Try.f23 (fun x => cfg_tab rfl tHas_ok) (by kernel_rfl) Try.func23 (fun _ => rfl) hasN_al
theorem hasA_ok : SpOk Try.prog 23 (altH nilMe (hasNP.sp) (hasP.sp)) := altH_ok hasN_ok has1_ok

def setP : Pat (HP × Nat × It) where
  view | [.ptr r 0 [], .int .i64 n, .cons (.int .i64 a) (.cons (.int .u64 b) .nil)], H => some (viewHP r H, n.toNat, (a, b)) | _, _ => none
  args x := [p0 0, .int .i64 (x.2.1 : Nat), itT (x.2.2.1, x.2.2.2)]
  H x := [x.1.me 1, x.1.row]
  out x := .need ((x.2.1 < x.1.n ∧ x.1.n ≤ 100000) ∧ 0 ≤ x.2.2.1 ∧ x.2.2.1 < 64) (.ret (.tup .nil) [(x.1.set x.2.1 x.2.2).me 1, (x.1.set x.2.1 x.2.2).row])
theorem set_vc : ∀ (h : HP) (k : Nat) (a b : Int), ((k < h.n ∧ h.n ≤ (100000 : Nat)) ∧ (0 : Int) ≤ a ∧ a < (64 : Int)) ∧ True → ((0 : Int) ≤ (↑k : Int) ∧ (↑k : Int) < (↑h.n : Int)) ∧ (0 : Nat) + (↑k : Int).toNat < h.n ∧ ((0 : Int) ≤ a ∧
  a < (↑(64 : Nat) : Int)) ∧ a.toNat < (64 : Nat) ∧ ((k < h.n ∧ h.n ≤ (100000 : Nat)) ∧ (0 : Int) ≤ a ∧ a < (64 : Int) → True ∧ True ∧ ((65 : Nat) ≤ (65 : Nat) ∧ (True ∧ True ∧ (0 : Nat) = (0 : Nat) ∧ h.n = (h.set k (a,
  b)).n ∧ h.cap = (h.set k (a, b)).cap) ∧ ((64 : Nat) = (64 : Nat) ∧ ∀ (j : Nat), j < (64 : Nat) → (bif j.beq a.toNat then IntKind.i64.wrap ((↑k : Int) + (1 : Int)) else h.at_ j) = (h.set k (a, b)).at_ j) ∧ True) ∧ ((h.set
  k (a, b)).cap * (2 : Nat) ≤ h.cap * (2 : Nat) ∧ (h.set k (a, b)).n ≤ h.n ∧ ∀ (j : Nat), j < (h.set k (a, b)).n → (bif j.beq ((0 : Nat) + (↑k : Int).toNat) then a else h.id j) = (h.set k (a, b)).id j ∧ (bif j.beq ((0 :
  Nat) + (↑k : Int).toNat) then b else h.key j) = (h.set k (a, b)).key j ∧ True) ∧ True) := by
  simp only [true_and, and_true, eq_self, Nat.le_refl, Nat.zero_add, Int.toNat_natCast, cond_nbeq, IntKind.wrap_i64]
  rintro h k a b ⟨⟨hk, hn⟩, ha⟩
  refine ⟨by omega, hk, by omega, by omega, fun _ => ⟨⟨⟨rfl, rfl⟩, fun j hj => ?_⟩, Nat.le_refl _, Nat.le_refl _, fun j hj => ⟨rfl, rfl⟩⟩⟩
  show _ = if j = a.toNat then (k : Int) + 1 else h.at_ j
  split <;> omega

def set_C (_ : (HP × Nat × It)) : Cfg := { Γ := Go.Sx.look [], names := true }
theorem set_al (x : (HP × Nat × It)) : Shown (setP.vc Try.prog (set_C x) Try.f24 x) := ⟨@Eq.mp _ _ (by kernel_rfl) (set_vc (x.1) (x.2.1) (x.2.2.1) (x.2.2.2))⟩
theorem set_ok : SpOk Try.prog 24 setP.sp := @Pat.okS _ setP Try.prog set_C 24 Try.f24 (fun x => cfg_nil rfl) (by kernel_rfl) Try.func24 (fun _ => rfl) set_al
theorem HP.eta (h : HP) : ({ n := h.n, cap := h.cap, id := fun j => h.id j, key := fun j => h.key j, at_ := h.at_ } : HP) = h := rfl
def modeAt (n : Nat) : Nat → Nat := fun k => match Nat.beq k n with
  | true => 1
  | false => 0
def lockAt (n : Nat) (l : List Nat) : Nat → List Nat := fun k => match Nat.beq k n with
  | true => l
  | false => []
def swapP : Pat (HP × Nat × Nat) where
  view | [.ptr r 0 [], .int .i64 a, .int .i64 b], H => some (viewHP r H, a.toNat, b.toNat) | _, _ => none
  args x := [p0 0, .int .i64 (x.2.1 : Nat), .int .i64 (x.2.2 : Nat)]
  H x := [x.1.me 1, x.1.row]
  out x := .need ((x.2.1 < x.1.n ∧ x.2.2 < x.1.n ∧ x.1.n ≤ 100000) ∧ (0 ≤ x.1.id x.2.1 ∧ x.1.id x.2.1 < 64) ∧ 0 ≤ x.1.id x.2.2 ∧ x.1.id x.2.2 < 64) (.ret (.tup .nil) [(x.1.swap x.2.1 x.2.2).me 1, (x.1.swap x.2.1 x.2.2).row])
def tSwap : Tab := [(24, setP.sp)]
theorem tSwap_ok : TabOk Try.prog tSwap := (tab_cons set_ok tab_nil)

theorem swap_vc : ∀ (h : HP) (a b : Nat), ((a < h.n ∧ b < h.n ∧ h.n ≤ (100000 : Nat)) ∧ ((0 : Int) ≤ h.id a ∧ h.id a < (64 : Int)) ∧ (0 : Int) ≤ h.id b ∧ h.id b < (64 : Int)) ∧ True → ((0 : Int) ≤ (↑a : Int) ∧ (↑a : Int) < (↑h.n : Int)) ∧
  (0 : Nat) + (↑a : Int).toNat < h.n ∧ ((0 : Int) ≤ (↑b : Int) ∧ (↑b : Int) < (↑h.n : Int)) ∧ (0 : Nat) + (↑b : Int).toNat < h.n ∧ ((((True ∧ True) ∧ (↑a : Int) = (↑(↑a : Int).toNat : Int) ∧ (h.id ((0 : Nat) + (↑b :
  Int).toNat) = h.id ((0 : Nat) + (↑b : Int).toNat) ∧ h.key ((0 : Nat) + (↑b : Int).toNat) = h.key ((0 : Nat) + (↑b : Int).toNat) ∧ True) ∧ True) ∧ ((65 : Nat) ≤ (65 : Nat) ∧ (True ∧ True ∧ (0 : Nat) = (0 : Nat) ∧ h.n =
  h.n ∧ h.cap = h.cap) ∧ ((64 : Nat) = (64 : Nat) ∧ ∀ (j : Nat), j < (64 : Nat) → h.at_ j = h.at_ j) ∧ True) ∧ (h.cap * (2 : Nat) ≤ h.cap * (2 : Nat) ∧ h.n = h.n ∧ ∀ (j : Nat), j < h.n → h.id j = h.id j ∧ h.key j = h.key j
  ∧ True) ∧ True) ∧ (((↑a : Int).toNat < h.n ∧ h.n ≤ (100000 : Nat)) ∧ (0 : Int) ≤ h.id ((0 : Nat) + (↑b : Int).toNat) ∧ h.id ((0 : Nat) + (↑b : Int).toNat) < (64 : Int)) ∧ (((True ∧ True) ∧ (↑b : Int) = (↑(↑b : Int).toNat
  : Int) ∧ (h.id ((0 : Nat) + (↑a : Int).toNat) = h.id ((0 : Nat) + (↑a : Int).toNat) ∧ h.key ((0 : Nat) + (↑a : Int).toNat) = h.key ((0 : Nat) + (↑a : Int).toNat) ∧ True) ∧ True) ∧ ((65 : Nat) ≤ (65 : Nat) ∧ (True ∧ True
  ∧ (0 : Nat) = (0 : Nat) ∧ ((HP.mk h.n h.cap (fun (j : Nat) => h.id j) (fun (j : Nat) => h.key j) h.at_).set (↑a : Int).toNat (h.id ((0 : Nat) + (↑b : Int).toNat), h.key ((0 : Nat) + (↑b : Int).toNat))).n = ((HP.mk h.n
  h.cap (fun (j : Nat) => h.id j) (fun (j : Nat) => h.key j) h.at_).set (↑a : Int).toNat (h.id ((0 : Nat) + (↑b : Int).toNat), h.key ((0 : Nat) + (↑b : Int).toNat))).n ∧ ((HP.mk h.n h.cap (fun (j : Nat) => h.id j) (fun (j
  : Nat) => h.key j) h.at_).set (↑a : Int).toNat (h.id ((0 : Nat) + (↑b : Int).toNat), h.key ((0 : Nat) + (↑b : Int).toNat))).cap = ((HP.mk h.n h.cap (fun (j : Nat) => h.id j) (fun (j : Nat) => h.key j) h.at_).set (↑a :
  Int).toNat (h.id ((0 : Nat) + (↑b : Int).toNat), h.key ((0 : Nat) + (↑b : Int).toNat))).cap) ∧ ((64 : Nat) = (64 : Nat) ∧ ∀ (j : Nat), j < (64 : Nat) → ((HP.mk h.n h.cap (fun (j : Nat) => h.id j) (fun (j : Nat) => h.key
  j) h.at_).set (↑a : Int).toNat (h.id ((0 : Nat) + (↑b : Int).toNat), h.key ((0 : Nat) + (↑b : Int).toNat))).at_ j = ((HP.mk h.n h.cap (fun (j : Nat) => h.id j) (fun (j : Nat) => h.key j) h.at_).set (↑a : Int).toNat (h.id
  ((0 : Nat) + (↑b : Int).toNat), h.key ((0 : Nat) + (↑b : Int).toNat))).at_ j) ∧ True) ∧ (((HP.mk h.n h.cap (fun (j : Nat) => h.id j) (fun (j : Nat) => h.key j) h.at_).set (↑a : Int).toNat (h.id ((0 : Nat) + (↑b :
  Int).toNat), h.key ((0 : Nat) + (↑b : Int).toNat))).cap * (2 : Nat) ≤ h.cap * (2 : Nat) ∧ ((HP.mk h.n h.cap (fun (j : Nat) => h.id j) (fun (j : Nat) => h.key j) h.at_).set (↑a : Int).toNat (h.id ((0 : Nat) + (↑b :
  Int).toNat), h.key ((0 : Nat) + (↑b : Int).toNat))).n = ((HP.mk h.n h.cap (fun (j : Nat) => h.id j) (fun (j : Nat) => h.key j) h.at_).set (↑a : Int).toNat (h.id ((0 : Nat) + (↑b : Int).toNat), h.key ((0 : Nat) + (↑b :
  Int).toNat))).n ∧ ∀ (j : Nat), j < ((HP.mk h.n h.cap (fun (j : Nat) => h.id j) (fun (j : Nat) => h.key j) h.at_).set (↑a : Int).toNat (h.id ((0 : Nat) + (↑b : Int).toNat), h.key ((0 : Nat) + (↑b : Int).toNat))).n →
  ((HP.mk h.n h.cap (fun (j : Nat) => h.id j) (fun (j : Nat) => h.key j) h.at_).set (↑a : Int).toNat (h.id ((0 : Nat) + (↑b : Int).toNat), h.key ((0 : Nat) + (↑b : Int).toNat))).id j = ((HP.mk h.n h.cap (fun (j : Nat) =>
  h.id j) (fun (j : Nat) => h.key j) h.at_).set (↑a : Int).toNat (h.id ((0 : Nat) + (↑b : Int).toNat), h.key ((0 : Nat) + (↑b : Int).toNat))).id j ∧ ((HP.mk h.n h.cap (fun (j : Nat) => h.id j) (fun (j : Nat) => h.key j)
  h.at_).set (↑a : Int).toNat (h.id ((0 : Nat) + (↑b : Int).toNat), h.key ((0 : Nat) + (↑b : Int).toNat))).key j = ((HP.mk h.n h.cap (fun (j : Nat) => h.id j) (fun (j : Nat) => h.key j) h.at_).set (↑a : Int).toNat (h.id
  ((0 : Nat) + (↑b : Int).toNat), h.key ((0 : Nat) + (↑b : Int).toNat))).key j ∧ True) ∧ True) ∧ (((↑b : Int).toNat < ((HP.mk h.n h.cap (fun (j : Nat) => h.id j) (fun (j : Nat) => h.key j) h.at_).set (↑a : Int).toNat (h.id
  ((0 : Nat) + (↑b : Int).toNat), h.key ((0 : Nat) + (↑b : Int).toNat))).n ∧ ((HP.mk h.n h.cap (fun (j : Nat) => h.id j) (fun (j : Nat) => h.key j) h.at_).set (↑a : Int).toNat (h.id ((0 : Nat) + (↑b : Int).toNat), h.key
  ((0 : Nat) + (↑b : Int).toNat))).n ≤ (100000 : Nat)) ∧ (0 : Int) ≤ h.id ((0 : Nat) + (↑a : Int).toNat) ∧ h.id ((0 : Nat) + (↑a : Int).toNat) < (64 : Int)) ∧ ((a < h.n ∧ b < h.n ∧ h.n ≤ (100000 : Nat)) ∧ ((0 : Int) ≤ h.id
  a ∧ h.id a < (64 : Int)) ∧ (0 : Int) ≤ h.id b ∧ h.id b < (64 : Int) → True ∧ True ∧ ((65 : Nat) ≤ (65 : Nat) ∧ (True ∧ True ∧ (0 : Nat) = (0 : Nat) ∧ ((HP.mk ((HP.mk h.n h.cap (fun (j : Nat) => h.id j) (fun (j : Nat) =>
  h.key j) h.at_).set (↑a : Int).toNat (h.id ((0 : Nat) + (↑b : Int).toNat), h.key ((0 : Nat) + (↑b : Int).toNat))).n ((HP.mk h.n h.cap (fun (j : Nat) => h.id j) (fun (j : Nat) => h.key j) h.at_).set (↑a : Int).toNat (h.id
  ((0 : Nat) + (↑b : Int).toNat), h.key ((0 : Nat) + (↑b : Int).toNat))).cap (fun (j : Nat) => ((HP.mk h.n h.cap (fun (j : Nat) => h.id j) (fun (j : Nat) => h.key j) h.at_).set (↑a : Int).toNat (h.id ((0 : Nat) + (↑b :
  Int).toNat), h.key ((0 : Nat) + (↑b : Int).toNat))).id j) (fun (j : Nat) => ((HP.mk h.n h.cap (fun (j : Nat) => h.id j) (fun (j : Nat) => h.key j) h.at_).set (↑a : Int).toNat (h.id ((0 : Nat) + (↑b : Int).toNat), h.key
  ((0 : Nat) + (↑b : Int).toNat))).key j) ((HP.mk h.n h.cap (fun (j : Nat) => h.id j) (fun (j : Nat) => h.key j) h.at_).set (↑a : Int).toNat (h.id ((0 : Nat) + (↑b : Int).toNat), h.key ((0 : Nat) + (↑b :
  Int).toNat))).at_).set (↑b : Int).toNat (h.id ((0 : Nat) + (↑a : Int).toNat), h.key ((0 : Nat) + (↑a : Int).toNat))).n = (h.swap a b).n ∧ ((HP.mk ((HP.mk h.n h.cap (fun (j : Nat) => h.id j) (fun (j : Nat) => h.key j)
  h.at_).set (↑a : Int).toNat (h.id ((0 : Nat) + (↑b : Int).toNat), h.key ((0 : Nat) + (↑b : Int).toNat))).n ((HP.mk h.n h.cap (fun (j : Nat) => h.id j) (fun (j : Nat) => h.key j) h.at_).set (↑a : Int).toNat (h.id ((0 :
  Nat) + (↑b : Int).toNat), h.key ((0 : Nat) + (↑b : Int).toNat))).cap (fun (j : Nat) => ((HP.mk h.n h.cap (fun (j : Nat) => h.id j) (fun (j : Nat) => h.key j) h.at_).set (↑a : Int).toNat (h.id ((0 : Nat) + (↑b :
  Int).toNat), h.key ((0 : Nat) + (↑b : Int).toNat))).id j) (fun (j : Nat) => ((HP.mk h.n h.cap (fun (j : Nat) => h.id j) (fun (j : Nat) => h.key j) h.at_).set (↑a : Int).toNat (h.id ((0 : Nat) + (↑b : Int).toNat), h.key
  ((0 : Nat) + (↑b : Int).toNat))).key j) ((HP.mk h.n h.cap (fun (j : Nat) => h.id j) (fun (j : Nat) => h.key j) h.at_).set (↑a : Int).toNat (h.id ((0 : Nat) + (↑b : Int).toNat), h.key ((0 : Nat) + (↑b :
  Int).toNat))).at_).set (↑b : Int).toNat (h.id ((0 : Nat) + (↑a : Int).toNat), h.key ((0 : Nat) + (↑a : Int).toNat))).cap = (h.swap a b).cap) ∧ ((64 : Nat) = (64 : Nat) ∧ ∀ (j : Nat), j < (64 : Nat) → ((HP.mk ((HP.mk h.n
  h.cap (fun (j : Nat) => h.id j) (fun (j : Nat) => h.key j) h.at_).set (↑a : Int).toNat (h.id ((0 : Nat) + (↑b : Int).toNat), h.key ((0 : Nat) + (↑b : Int).toNat))).n ((HP.mk h.n h.cap (fun (j : Nat) => h.id j) (fun (j :
  Nat) => h.key j) h.at_).set (↑a : Int).toNat (h.id ((0 : Nat) + (↑b : Int).toNat), h.key ((0 : Nat) + (↑b : Int).toNat))).cap (fun (j : Nat) => ((HP.mk h.n h.cap (fun (j : Nat) => h.id j) (fun (j : Nat) => h.key j)
  h.at_).set (↑a : Int).toNat (h.id ((0 : Nat) + (↑b : Int).toNat), h.key ((0 : Nat) + (↑b : Int).toNat))).id j) (fun (j : Nat) => ((HP.mk h.n h.cap (fun (j : Nat) => h.id j) (fun (j : Nat) => h.key j) h.at_).set (↑a :
  Int).toNat (h.id ((0 : Nat) + (↑b : Int).toNat), h.key ((0 : Nat) + (↑b : Int).toNat))).key j) ((HP.mk h.n h.cap (fun (j : Nat) => h.id j) (fun (j : Nat) => h.key j) h.at_).set (↑a : Int).toNat (h.id ((0 : Nat) + (↑b :
  Int).toNat), h.key ((0 : Nat) + (↑b : Int).toNat))).at_).set (↑b : Int).toNat (h.id ((0 : Nat) + (↑a : Int).toNat), h.key ((0 : Nat) + (↑a : Int).toNat))).at_ j = (h.swap a b).at_ j) ∧ True) ∧ ((h.swap a b).cap * (2 :
  Nat) ≤ h.cap * (2 : Nat) ∧ (h.swap a b).n ≤ ((HP.mk ((HP.mk h.n h.cap (fun (j : Nat) => h.id j) (fun (j : Nat) => h.key j) h.at_).set (↑a : Int).toNat (h.id ((0 : Nat) + (↑b : Int).toNat), h.key ((0 : Nat) + (↑b :
  Int).toNat))).n ((HP.mk h.n h.cap (fun (j : Nat) => h.id j) (fun (j : Nat) => h.key j) h.at_).set (↑a : Int).toNat (h.id ((0 : Nat) + (↑b : Int).toNat), h.key ((0 : Nat) + (↑b : Int).toNat))).cap (fun (j : Nat) =>
  ((HP.mk h.n h.cap (fun (j : Nat) => h.id j) (fun (j : Nat) => h.key j) h.at_).set (↑a : Int).toNat (h.id ((0 : Nat) + (↑b : Int).toNat), h.key ((0 : Nat) + (↑b : Int).toNat))).id j) (fun (j : Nat) => ((HP.mk h.n h.cap
  (fun (j : Nat) => h.id j) (fun (j : Nat) => h.key j) h.at_).set (↑a : Int).toNat (h.id ((0 : Nat) + (↑b : Int).toNat), h.key ((0 : Nat) + (↑b : Int).toNat))).key j) ((HP.mk h.n h.cap (fun (j : Nat) => h.id j) (fun (j :
  Nat) => h.key j) h.at_).set (↑a : Int).toNat (h.id ((0 : Nat) + (↑b : Int).toNat), h.key ((0 : Nat) + (↑b : Int).toNat))).at_).set (↑b : Int).toNat (h.id ((0 : Nat) + (↑a : Int).toNat), h.key ((0 : Nat) + (↑a :
  Int).toNat))).n ∧ ∀ (j : Nat), j < (h.swap a b).n → ((HP.mk ((HP.mk h.n h.cap (fun (j : Nat) => h.id j) (fun (j : Nat) => h.key j) h.at_).set (↑a : Int).toNat (h.id ((0 : Nat) + (↑b : Int).toNat), h.key ((0 : Nat) + (↑b
  : Int).toNat))).n ((HP.mk h.n h.cap (fun (j : Nat) => h.id j) (fun (j : Nat) => h.key j) h.at_).set (↑a : Int).toNat (h.id ((0 : Nat) + (↑b : Int).toNat), h.key ((0 : Nat) + (↑b : Int).toNat))).cap (fun (j : Nat) =>
  ((HP.mk h.n h.cap (fun (j : Nat) => h.id j) (fun (j : Nat) => h.key j) h.at_).set (↑a : Int).toNat (h.id ((0 : Nat) + (↑b : Int).toNat), h.key ((0 : Nat) + (↑b : Int).toNat))).id j) (fun (j : Nat) => ((HP.mk h.n h.cap
  (fun (j : Nat) => h.id j) (fun (j : Nat) => h.key j) h.at_).set (↑a : Int).toNat (h.id ((0 : Nat) + (↑b : Int).toNat), h.key ((0 : Nat) + (↑b : Int).toNat))).key j) ((HP.mk h.n h.cap (fun (j : Nat) => h.id j) (fun (j :
  Nat) => h.key j) h.at_).set (↑a : Int).toNat (h.id ((0 : Nat) + (↑b : Int).toNat), h.key ((0 : Nat) + (↑b : Int).toNat))).at_).set (↑b : Int).toNat (h.id ((0 : Nat) + (↑a : Int).toNat), h.key ((0 : Nat) + (↑a :
  Int).toNat))).id j = (h.swap a b).id j ∧ ((HP.mk ((HP.mk h.n h.cap (fun (j : Nat) => h.id j) (fun (j : Nat) => h.key j) h.at_).set (↑a : Int).toNat (h.id ((0 : Nat) + (↑b : Int).toNat), h.key ((0 : Nat) + (↑b :
  Int).toNat))).n ((HP.mk h.n h.cap (fun (j : Nat) => h.id j) (fun (j : Nat) => h.key j) h.at_).set (↑a : Int).toNat (h.id ((0 : Nat) + (↑b : Int).toNat), h.key ((0 : Nat) + (↑b : Int).toNat))).cap (fun (j : Nat) =>
  ((HP.mk h.n h.cap (fun (j : Nat) => h.id j) (fun (j : Nat) => h.key j) h.at_).set (↑a : Int).toNat (h.id ((0 : Nat) + (↑b : Int).toNat), h.key ((0 : Nat) + (↑b : Int).toNat))).id j) (fun (j : Nat) => ((HP.mk h.n h.cap
  (fun (j : Nat) => h.id j) (fun (j : Nat) => h.key j) h.at_).set (↑a : Int).toNat (h.id ((0 : Nat) + (↑b : Int).toNat), h.key ((0 : Nat) + (↑b : Int).toNat))).key j) ((HP.mk h.n h.cap (fun (j : Nat) => h.id j) (fun (j :
  Nat) => h.key j) h.at_).set (↑a : Int).toNat (h.id ((0 : Nat) + (↑b : Int).toNat), h.key ((0 : Nat) + (↑b : Int).toNat))).at_).set (↑b : Int).toNat (h.id ((0 : Nat) + (↑a : Int).toNat), h.key ((0 : Nat) + (↑a :
  Int).toNat))).key j = (h.swap a b).key j ∧ True) ∧ True)) ∧ (((True ∧ True) ∧ (↑a : Int) = (↑(↑a : Int).toNat : Int) ∧ (h.id ((0 : Nat) + (↑b : Int).toNat) = h.id ((0 : Nat) + (↑b : Int).toNat) ∧ h.key ((0 : Nat) + (↑b :
  Int).toNat) = h.key ((0 : Nat) + (↑b : Int).toNat) ∧ True) ∧ True) ∧ ((65 : Nat) ≤ (65 : Nat) ∧ (True ∧ True ∧ (0 : Nat) = (0 : Nat) ∧ h.n = h.n ∧ h.cap = h.cap) ∧ ((64 : Nat) = (64 : Nat) ∧ ∀ (j : Nat), j < (64 : Nat) →
  h.at_ j = h.at_ j) ∧ True) ∧ (h.cap * (2 : Nat) ≤ h.cap * (2 : Nat) ∧ h.n = h.n ∧ ∀ (j : Nat), j < h.n → h.id j = h.id j ∧ h.key j = h.key j ∧ True) ∧ True) ∧ (((↑a : Int).toNat < h.n ∧ h.n ≤ (100000 : Nat)) ∧ (0 : Int)
  ≤ h.id ((0 : Nat) + (↑b : Int).toNat) ∧ h.id ((0 : Nat) + (↑b : Int).toNat) < (64 : Int)) ∧ (((True ∧ True) ∧ (↑b : Int) = (↑(↑b : Int).toNat : Int) ∧ (h.id ((0 : Nat) + (↑a : Int).toNat) = h.id ((0 : Nat) + (↑a :
  Int).toNat) ∧ h.key ((0 : Nat) + (↑a : Int).toNat) = h.key ((0 : Nat) + (↑a : Int).toNat) ∧ True) ∧ True) ∧ ((65 : Nat) ≤ (65 : Nat) ∧ (True ∧ True ∧ (0 : Nat) = (0 : Nat) ∧ ((HP.mk h.n h.cap (fun (j : Nat) => h.id j)
  (fun (j : Nat) => h.key j) h.at_).set (↑a : Int).toNat (h.id ((0 : Nat) + (↑b : Int).toNat), h.key ((0 : Nat) + (↑b : Int).toNat))).n = ((HP.mk h.n h.cap (fun (j : Nat) => h.id j) (fun (j : Nat) => h.key j) h.at_).set
  (↑a : Int).toNat (h.id ((0 : Nat) + (↑b : Int).toNat), h.key ((0 : Nat) + (↑b : Int).toNat))).n ∧ ((HP.mk h.n h.cap (fun (j : Nat) => h.id j) (fun (j : Nat) => h.key j) h.at_).set (↑a : Int).toNat (h.id ((0 : Nat) + (↑b
  : Int).toNat), h.key ((0 : Nat) + (↑b : Int).toNat))).cap = ((HP.mk h.n h.cap (fun (j : Nat) => h.id j) (fun (j : Nat) => h.key j) h.at_).set (↑a : Int).toNat (h.id ((0 : Nat) + (↑b : Int).toNat), h.key ((0 : Nat) + (↑b
  : Int).toNat))).cap) ∧ ((64 : Nat) = (64 : Nat) ∧ ∀ (j : Nat), j < (64 : Nat) → ((HP.mk h.n h.cap (fun (j : Nat) => h.id j) (fun (j : Nat) => h.key j) h.at_).set (↑a : Int).toNat (h.id ((0 : Nat) + (↑b : Int).toNat),
  h.key ((0 : Nat) + (↑b : Int).toNat))).at_ j = ((HP.mk h.n h.cap (fun (j : Nat) => h.id j) (fun (j : Nat) => h.key j) h.at_).set (↑a : Int).toNat (h.id ((0 : Nat) + (↑b : Int).toNat), h.key ((0 : Nat) + (↑b :
  Int).toNat))).at_ j) ∧ True) ∧ (((HP.mk h.n h.cap (fun (j : Nat) => h.id j) (fun (j : Nat) => h.key j) h.at_).set (↑a : Int).toNat (h.id ((0 : Nat) + (↑b : Int).toNat), h.key ((0 : Nat) + (↑b : Int).toNat))).cap * (2 :
  Nat) ≤ h.cap * (2 : Nat) ∧ ((HP.mk h.n h.cap (fun (j : Nat) => h.id j) (fun (j : Nat) => h.key j) h.at_).set (↑a : Int).toNat (h.id ((0 : Nat) + (↑b : Int).toNat), h.key ((0 : Nat) + (↑b : Int).toNat))).n = ((HP.mk h.n
  h.cap (fun (j : Nat) => h.id j) (fun (j : Nat) => h.key j) h.at_).set (↑a : Int).toNat (h.id ((0 : Nat) + (↑b : Int).toNat), h.key ((0 : Nat) + (↑b : Int).toNat))).n ∧ ∀ (j : Nat), j < ((HP.mk h.n h.cap (fun (j : Nat) =>
  h.id j) (fun (j : Nat) => h.key j) h.at_).set (↑a : Int).toNat (h.id ((0 : Nat) + (↑b : Int).toNat), h.key ((0 : Nat) + (↑b : Int).toNat))).n → ((HP.mk h.n h.cap (fun (j : Nat) => h.id j) (fun (j : Nat) => h.key j)
  h.at_).set (↑a : Int).toNat (h.id ((0 : Nat) + (↑b : Int).toNat), h.key ((0 : Nat) + (↑b : Int).toNat))).id j = ((HP.mk h.n h.cap (fun (j : Nat) => h.id j) (fun (j : Nat) => h.key j) h.at_).set (↑a : Int).toNat (h.id ((0
  : Nat) + (↑b : Int).toNat), h.key ((0 : Nat) + (↑b : Int).toNat))).id j ∧ ((HP.mk h.n h.cap (fun (j : Nat) => h.id j) (fun (j : Nat) => h.key j) h.at_).set (↑a : Int).toNat (h.id ((0 : Nat) + (↑b : Int).toNat), h.key ((0
  : Nat) + (↑b : Int).toNat))).key j = ((HP.mk h.n h.cap (fun (j : Nat) => h.id j) (fun (j : Nat) => h.key j) h.at_).set (↑a : Int).toNat (h.id ((0 : Nat) + (↑b : Int).toNat), h.key ((0 : Nat) + (↑b : Int).toNat))).key j ∧
  True) ∧ True) ∧ (((↑b : Int).toNat < ((HP.mk h.n h.cap (fun (j : Nat) => h.id j) (fun (j : Nat) => h.key j) h.at_).set (↑a : Int).toNat (h.id ((0 : Nat) + (↑b : Int).toNat), h.key ((0 : Nat) + (↑b : Int).toNat))).n ∧
  ((HP.mk h.n h.cap (fun (j : Nat) => h.id j) (fun (j : Nat) => h.key j) h.at_).set (↑a : Int).toNat (h.id ((0 : Nat) + (↑b : Int).toNat), h.key ((0 : Nat) + (↑b : Int).toNat))).n ≤ (100000 : Nat)) ∧ (0 : Int) ≤ h.id ((0 :
  Nat) + (↑a : Int).toNat) ∧ h.id ((0 : Nat) + (↑a : Int).toNat) < (64 : Int)) ∧ ((a < h.n ∧ b < h.n ∧ h.n ≤ (100000 : Nat)) ∧ ((0 : Int) ≤ h.id a ∧ h.id a < (64 : Int)) ∧ (0 : Int) ≤ h.id b ∧ h.id b < (64 : Int) → True ∧
  True ∧ ((65 : Nat) ≤ (65 : Nat) ∧ (True ∧ True ∧ (0 : Nat) = (0 : Nat) ∧ ((HP.mk ((HP.mk h.n h.cap (fun (j : Nat) => h.id j) (fun (j : Nat) => h.key j) h.at_).set (↑a : Int).toNat (h.id ((0 : Nat) + (↑b : Int).toNat),
  h.key ((0 : Nat) + (↑b : Int).toNat))).n ((HP.mk h.n h.cap (fun (j : Nat) => h.id j) (fun (j : Nat) => h.key j) h.at_).set (↑a : Int).toNat (h.id ((0 : Nat) + (↑b : Int).toNat), h.key ((0 : Nat) + (↑b : Int).toNat))).cap
  (fun (j : Nat) => ((HP.mk h.n h.cap (fun (j : Nat) => h.id j) (fun (j : Nat) => h.key j) h.at_).set (↑a : Int).toNat (h.id ((0 : Nat) + (↑b : Int).toNat), h.key ((0 : Nat) + (↑b : Int).toNat))).id j) (fun (j : Nat) =>
  ((HP.mk h.n h.cap (fun (j : Nat) => h.id j) (fun (j : Nat) => h.key j) h.at_).set (↑a : Int).toNat (h.id ((0 : Nat) + (↑b : Int).toNat), h.key ((0 : Nat) + (↑b : Int).toNat))).key j) ((HP.mk h.n h.cap (fun (j : Nat) =>
  h.id j) (fun (j : Nat) => h.key j) h.at_).set (↑a : Int).toNat (h.id ((0 : Nat) + (↑b : Int).toNat), h.key ((0 : Nat) + (↑b : Int).toNat))).at_).set (↑b : Int).toNat (h.id ((0 : Nat) + (↑a : Int).toNat), h.key ((0 : Nat)
  + (↑a : Int).toNat))).n = (h.swap a b).n ∧ ((HP.mk ((HP.mk h.n h.cap (fun (j : Nat) => h.id j) (fun (j : Nat) => h.key j) h.at_).set (↑a : Int).toNat (h.id ((0 : Nat) + (↑b : Int).toNat), h.key ((0 : Nat) + (↑b :
  Int).toNat))).n ((HP.mk h.n h.cap (fun (j : Nat) => h.id j) (fun (j : Nat) => h.key j) h.at_).set (↑a : Int).toNat (h.id ((0 : Nat) + (↑b : Int).toNat), h.key ((0 : Nat) + (↑b : Int).toNat))).cap (fun (j : Nat) =>
  ((HP.mk h.n h.cap (fun (j : Nat) => h.id j) (fun (j : Nat) => h.key j) h.at_).set (↑a : Int).toNat (h.id ((0 : Nat) + (↑b : Int).toNat), h.key ((0 : Nat) + (↑b : Int).toNat))).id j) (fun (j : Nat) => ((HP.mk h.n h.cap
  (fun (j : Nat) => h.id j) (fun (j : Nat) => h.key j) h.at_).set (↑a : Int).toNat (h.id ((0 : Nat) + (↑b : Int).toNat), h.key ((0 : Nat) + (↑b : Int).toNat))).key j) ((HP.mk h.n h.cap (fun (j : Nat) => h.id j) (fun (j :
  Nat) => h.key j) h.at_).set (↑a : Int).toNat (h.id ((0 : Nat) + (↑b : Int).toNat), h.key ((0 : Nat) + (↑b : Int).toNat))).at_).set (↑b : Int).toNat (h.id ((0 : Nat) + (↑a : Int).toNat), h.key ((0 : Nat) + (↑a :
  Int).toNat))).cap = (h.swap a b).cap) ∧ ((64 : Nat) = (64 : Nat) ∧ ∀ (j : Nat), j < (64 : Nat) → ((HP.mk ((HP.mk h.n h.cap (fun (j : Nat) => h.id j) (fun (j : Nat) => h.key j) h.at_).set (↑a : Int).toNat (h.id ((0 : Nat)
  + (↑b : Int).toNat), h.key ((0 : Nat) + (↑b : Int).toNat))).n ((HP.mk h.n h.cap (fun (j : Nat) => h.id j) (fun (j : Nat) => h.key j) h.at_).set (↑a : Int).toNat (h.id ((0 : Nat) + (↑b : Int).toNat), h.key ((0 : Nat) +
  (↑b : Int).toNat))).cap (fun (j : Nat) => ((HP.mk h.n h.cap (fun (j : Nat) => h.id j) (fun (j : Nat) => h.key j) h.at_).set (↑a : Int).toNat (h.id ((0 : Nat) + (↑b : Int).toNat), h.key ((0 : Nat) + (↑b : Int).toNat))).id
  j) (fun (j : Nat) => ((HP.mk h.n h.cap (fun (j : Nat) => h.id j) (fun (j : Nat) => h.key j) h.at_).set (↑a : Int).toNat (h.id ((0 : Nat) + (↑b : Int).toNat), h.key ((0 : Nat) + (↑b : Int).toNat))).key j) ((HP.mk h.n
  h.cap (fun (j : Nat) => h.id j) (fun (j : Nat) => h.key j) h.at_).set (↑a : Int).toNat (h.id ((0 : Nat) + (↑b : Int).toNat), h.key ((0 : Nat) + (↑b : Int).toNat))).at_).set (↑b : Int).toNat (h.id ((0 : Nat) + (↑a :
  Int).toNat), h.key ((0 : Nat) + (↑a : Int).toNat))).at_ j = (h.swap a b).at_ j) ∧ True) ∧ ((h.swap a b).cap * (2 : Nat) ≤ h.cap * (2 : Nat) ∧ (h.swap a b).n ≤ ((HP.mk ((HP.mk h.n h.cap (fun (j : Nat) => h.id j) (fun (j :
  Nat) => h.key j) h.at_).set (↑a : Int).toNat (h.id ((0 : Nat) + (↑b : Int).toNat), h.key ((0 : Nat) + (↑b : Int).toNat))).n ((HP.mk h.n h.cap (fun (j : Nat) => h.id j) (fun (j : Nat) => h.key j) h.at_).set (↑a :
  Int).toNat (h.id ((0 : Nat) + (↑b : Int).toNat), h.key ((0 : Nat) + (↑b : Int).toNat))).cap (fun (j : Nat) => ((HP.mk h.n h.cap (fun (j : Nat) => h.id j) (fun (j : Nat) => h.key j) h.at_).set (↑a : Int).toNat (h.id ((0 :
  Nat) + (↑b : Int).toNat), h.key ((0 : Nat) + (↑b : Int).toNat))).id j) (fun (j : Nat) => ((HP.mk h.n h.cap (fun (j : Nat) => h.id j) (fun (j : Nat) => h.key j) h.at_).set (↑a : Int).toNat (h.id ((0 : Nat) + (↑b :
  Int).toNat), h.key ((0 : Nat) + (↑b : Int).toNat))).key j) ((HP.mk h.n h.cap (fun (j : Nat) => h.id j) (fun (j : Nat) => h.key j) h.at_).set (↑a : Int).toNat (h.id ((0 : Nat) + (↑b : Int).toNat), h.key ((0 : Nat) + (↑b :
  Int).toNat))).at_).set (↑b : Int).toNat (h.id ((0 : Nat) + (↑a : Int).toNat), h.key ((0 : Nat) + (↑a : Int).toNat))).n ∧ ∀ (j : Nat), j < (h.swap a b).n → ((HP.mk ((HP.mk h.n h.cap (fun (j : Nat) => h.id j) (fun (j :
  Nat) => h.key j) h.at_).set (↑a : Int).toNat (h.id ((0 : Nat) + (↑b : Int).toNat), h.key ((0 : Nat) + (↑b : Int).toNat))).n ((HP.mk h.n h.cap (fun (j : Nat) => h.id j) (fun (j : Nat) => h.key j) h.at_).set (↑a :
  Int).toNat (h.id ((0 : Nat) + (↑b : Int).toNat), h.key ((0 : Nat) + (↑b : Int).toNat))).cap (fun (j : Nat) => ((HP.mk h.n h.cap (fun (j : Nat) => h.id j) (fun (j : Nat) => h.key j) h.at_).set (↑a : Int).toNat (h.id ((0 :
  Nat) + (↑b : Int).toNat), h.key ((0 : Nat) + (↑b : Int).toNat))).id j) (fun (j : Nat) => ((HP.mk h.n h.cap (fun (j : Nat) => h.id j) (fun (j : Nat) => h.key j) h.at_).set (↑a : Int).toNat (h.id ((0 : Nat) + (↑b :
  Int).toNat), h.key ((0 : Nat) + (↑b : Int).toNat))).key j) ((HP.mk h.n h.cap (fun (j : Nat) => h.id j) (fun (j : Nat) => h.key j) h.at_).set (↑a : Int).toNat (h.id ((0 : Nat) + (↑b : Int).toNat), h.key ((0 : Nat) + (↑b :
  Int).toNat))).at_).set (↑b : Int).toNat (h.id ((0 : Nat) + (↑a : Int).toNat), h.key ((0 : Nat) + (↑a : Int).toNat))).id j = (h.swap a b).id j ∧ ((HP.mk ((HP.mk h.n h.cap (fun (j : Nat) => h.id j) (fun (j : Nat) => h.key
  j) h.at_).set (↑a : Int).toNat (h.id ((0 : Nat) + (↑b : Int).toNat), h.key ((0 : Nat) + (↑b : Int).toNat))).n ((HP.mk h.n h.cap (fun (j : Nat) => h.id j) (fun (j : Nat) => h.key j) h.at_).set (↑a : Int).toNat (h.id ((0 :
  Nat) + (↑b : Int).toNat), h.key ((0 : Nat) + (↑b : Int).toNat))).cap (fun (j : Nat) => ((HP.mk h.n h.cap (fun (j : Nat) => h.id j) (fun (j : Nat) => h.key j) h.at_).set (↑a : Int).toNat (h.id ((0 : Nat) + (↑b :
  Int).toNat), h.key ((0 : Nat) + (↑b : Int).toNat))).id j) (fun (j : Nat) => ((HP.mk h.n h.cap (fun (j : Nat) => h.id j) (fun (j : Nat) => h.key j) h.at_).set (↑a : Int).toNat (h.id ((0 : Nat) + (↑b : Int).toNat), h.key
  ((0 : Nat) + (↑b : Int).toNat))).key j) ((HP.mk h.n h.cap (fun (j : Nat) => h.id j) (fun (j : Nat) => h.key j) h.at_).set (↑a : Int).toNat (h.id ((0 : Nat) + (↑b : Int).toNat), h.key ((0 : Nat) + (↑b :
  Int).toNat))).at_).set (↑b : Int).toNat (h.id ((0 : Nat) + (↑a : Int).toNat), h.key ((0 : Nat) + (↑a : Int).toNat))).key j = (h.swap a b).key j ∧ True) ∧ True) := by
  simp only [true_and, and_true, eq_self, Nat.le_refl, implies_true, and_self, Nat.zero_add, Int.toNat_natCast]
  simp only [HP.eta]
  rintro h a b ⟨⟨ha, hb, hn⟩, ra, rb⟩
  exact ⟨by omega, ha, by omega, hb, ⟨⟨ha, hn⟩, rb⟩, Nat.le_refl _, ⟨⟨hb, hn⟩, ra⟩, fun _ => ⟨⟨⟨rfl, rfl⟩, fun _ _ => rfl⟩, Nat.le_refl _, Nat.le_refl _, fun _ _ => ⟨rfl, rfl⟩⟩⟩

def swap_C (_ : (HP × Nat × Nat)) : Cfg := { Γ := Go.Sx.look tSwap, names := true, mode := modeAt 0, locks := lockAt 0 [0, 1] }
theorem swap_al (x : (HP × Nat × Nat)) : Shown (swapP.vc Try.prog (swap_C x) Try.f27 x) := ⟨@Eq.mp _ _ (by kernel_rfl) (swap_vc (x.1) (x.2.1) (x.2.2))⟩
theorem swap_ok : SpOk Try.prog 27 swapP.sp := @Pat.okS _ swapP Try.prog swap_C 27 Try.f27 (fun x => cfg_tab rfl tSwap_ok) (by kernel_rfl) Try.func27 (fun _ => rfl) swap_al
theorem ordI_le (x y : It) : ordI x y ≤ 0 ↔ ¬ ltI y x := by
  unfold ordI orI cmpI ltI
  split <;> split <;> (try split) <;> (try split) <;> (try split) <;> omega
theorem ordI_gt (x y : It) : 0 < ordI x y ↔ ltI y x :=
  ⟨fun h => Decidable.byContradiction fun h2 => absurd ((ordI_le x y).2 h2) (by omega), fun h => by have := mt (ordI_le x y).1 (fun h2 => h2 h); omega⟩
theorem ordI_ge (x y : It) : 0 ≤ ordI x y ↔ ¬ ltI x y :=
  ⟨fun h h2 => by have := (ordI_lt x y).2 h2; omega, fun h => by have := mt (ordI_lt x y).1 h; omega⟩
def upP : Pat (HP × Nat) where
  view | [.ptr r 0 [], .int .i64 a], H => some (viewHP r H, a.toNat) | _, _ => none
  args x := [p0 0, .int .i64 (x.2 : Nat)]
  H x := [x.1.me 1, x.1.row]
  out x := .need (x.1.Hole x.2 ∧ x.2 < x.1.n ∧ x.1.n ≤ 100000) (.any (fun h : HP => h.Down x.2 ∧ x.1.Same h) fun h => .ret (.tup .nil) [h.me 1, h.row])
structure HK where
  h : HP
  k : Nat
def upF (h : HP) (k : Nat) : Fam where
  α := HK
  I z := z.k < h.n ∧ h.Same z.h ∧ ((z.k = k ∧ z.h.Hole k) ∨ z.h.UpI z.k)
  st z := { sl := mkSl 31 [(0, p0 0), (1, .int .i64 (z.k : Nat))], H := [z.h.me 1, z.h.row] }
  μ z := z.k
def tUp : Tab := [(30, ordP.sp), (27, swapP.sp)]
theorem tUp_ok : TabOk Try.prog tUp := (tab_cons ord_ok (tab_cons swap_ok tab_nil))

theorem up_vc : ∀ (h : HP) (k : Nat), (h.Hole k ∧ k < h.n ∧ h.n ≤ (100000 : Nat)) ∧ True → (∃ (y : HK), (y.k < h.n ∧ h.Same y.h ∧ (y.k = k ∧ y.h.Hole k ∨ y.h.UpI y.k)) ∧ (((True ∧ True) ∧ (↑k : Int) = (↑y.k : Int) ∧ True) ∧ ((65 : Nat)
  ≤ (65 : Nat) ∧ (True ∧ True ∧ (0 : Nat) = (0 : Nat) ∧ h.n = y.h.n ∧ h.cap = y.h.cap) ∧ ((64 : Nat) = (64 : Nat) ∧ ∀ (j : Nat), j < (64 : Nat) → h.at_ j = y.h.at_ j) ∧ True) ∧ (y.h.cap * (2 : Nat) ≤ h.cap * (2 : Nat) ∧
  y.h.n ≤ h.n ∧ ∀ (j : Nat), j < y.h.n → h.id j = y.h.id j ∧ h.key j = y.h.key j ∧ True) ∧ True) ∧ True) ∧ ∀ (y : HK), y.k < h.n ∧ h.Same y.h ∧ (y.k = k ∧ y.h.Hole k ∨ y.h.UpI y.k) → (decide ((↑y.k : Int) > (0 : Int)) =
  true → (2 : Int) ≠ (0 : Int) ∧ ∀ (v : Int), v = IntKind.i64.wrap ((IntKind.i64.wrap ((↑y.k : Int) - (1 : Int))).tdiv (2 : Int)) → ((0 : Int) ≤ v ∧ v < (↑y.h.n : Int)) ∧ (0 : Nat) + v.toNat < y.h.n ∧ ((0 : Int) ≤ (↑y.k :
  Int) ∧ (↑y.k : Int) < (↑y.h.n : Int)) ∧ (0 : Nat) + (↑y.k : Int).toNat < y.h.n ∧ (((y.h.id ((0 : Nat) + v.toNat) = y.h.id ((0 : Nat) + v.toNat) ∧ y.h.key ((0 : Nat) + v.toNat) = y.h.key ((0 : Nat) + v.toNat) ∧ True) ∧
  (y.h.id ((0 : Nat) + (↑y.k : Int).toNat) = y.h.id ((0 : Nat) + (↑y.k : Int).toNat) ∧ y.h.key ((0 : Nat) + (↑y.k : Int).toNat) = y.h.key ((0 : Nat) + (↑y.k : Int).toNat) ∧ True) ∧ True) ∧ True) ∧ (decide (ordI (y.h.id ((0
  : Nat) + v.toNat), y.h.key ((0 : Nat) + v.toNat)) (y.h.id ((0 : Nat) + (↑y.k : Int).toNat), y.h.key ((0 : Nat) + (↑y.k : Int).toNat)) ≤ (0 : Int)) = true → h.Hole k ∧ k < h.n ∧ h.n ≤ (100000 : Nat) → ∃ (x : HP), (x.Down
  k ∧ h.Same x) ∧ True ∧ True ∧ ((65 : Nat) ≤ (65 : Nat) ∧ (True ∧ True ∧ (0 : Nat) = (0 : Nat) ∧ y.h.n = x.n ∧ y.h.cap = x.cap) ∧ ((64 : Nat) = (64 : Nat) ∧ ∀ (j : Nat), j < (64 : Nat) → y.h.at_ j = x.at_ j) ∧ True) ∧
  (x.cap * (2 : Nat) ≤ y.h.cap * (2 : Nat) ∧ x.n ≤ y.h.n ∧ ∀ (j : Nat), j < x.n → y.h.id j = x.id j ∧ y.h.key j = x.key j ∧ True) ∧ True) ∧ (decide (ordI (y.h.id ((0 : Nat) + v.toNat), y.h.key ((0 : Nat) + v.toNat))
  (y.h.id ((0 : Nat) + (↑y.k : Int).toNat), y.h.key ((0 : Nat) + (↑y.k : Int).toNat)) ≤ (0 : Int)) = false → (((True ∧ True) ∧ v = (↑v.toNat : Int) ∧ (↑y.k : Int) = (↑(↑y.k : Int).toNat : Int) ∧ True) ∧ ((65 : Nat) ≤ (65 :
  Nat) ∧ (True ∧ True ∧ (0 : Nat) = (0 : Nat) ∧ y.h.n = y.h.n ∧ y.h.cap = y.h.cap) ∧ ((64 : Nat) = (64 : Nat) ∧ ∀ (j : Nat), j < (64 : Nat) → y.h.at_ j = y.h.at_ j) ∧ True) ∧ (y.h.cap * (2 : Nat) ≤ y.h.cap * (2 : Nat) ∧
  y.h.n = y.h.n ∧ ∀ (j : Nat), j < y.h.n → y.h.id j = y.h.id j ∧ y.h.key j = y.h.key j ∧ True) ∧ True) ∧ ((v.toNat < y.h.n ∧ (↑y.k : Int).toNat < y.h.n ∧ y.h.n ≤ (100000 : Nat)) ∧ ((0 : Int) ≤ y.h.id v.toNat ∧ y.h.id
  v.toNat < (64 : Int)) ∧ (0 : Int) ≤ y.h.id (↑y.k : Int).toNat ∧ y.h.id (↑y.k : Int).toNat < (64 : Int)) ∧ ∀ (v_1 : Int), v_1 = v → ∃ (y_1 : HK), (y_1.k < h.n ∧ h.Same y_1.h ∧ (y_1.k = k ∧ y_1.h.Hole k ∨ y_1.h.UpI y_1.k))
  ∧ (((True ∧ True) ∧ v_1 = (↑y_1.k : Int) ∧ True) ∧ ((65 : Nat) ≤ (65 : Nat) ∧ (True ∧ True ∧ (0 : Nat) = (0 : Nat) ∧ ((HP.mk y.h.n y.h.cap (fun (j : Nat) => y.h.id j) (fun (j : Nat) => y.h.key j) y.h.at_).swap v.toNat
  (↑y.k : Int).toNat).n = y_1.h.n ∧ ((HP.mk y.h.n y.h.cap (fun (j : Nat) => y.h.id j) (fun (j : Nat) => y.h.key j) y.h.at_).swap v.toNat (↑y.k : Int).toNat).cap = y_1.h.cap) ∧ ((64 : Nat) = (64 : Nat) ∧ ∀ (j : Nat), j <
  (64 : Nat) → ((HP.mk y.h.n y.h.cap (fun (j : Nat) => y.h.id j) (fun (j : Nat) => y.h.key j) y.h.at_).swap v.toNat (↑y.k : Int).toNat).at_ j = y_1.h.at_ j) ∧ True) ∧ (y_1.h.cap * (2 : Nat) ≤ y.h.cap * (2 : Nat) ∧ y_1.h.n
  ≤ ((HP.mk y.h.n y.h.cap (fun (j : Nat) => y.h.id j) (fun (j : Nat) => y.h.key j) y.h.at_).swap v.toNat (↑y.k : Int).toNat).n ∧ ∀ (j : Nat), j < y_1.h.n → ((HP.mk y.h.n y.h.cap (fun (j : Nat) => y.h.id j) (fun (j : Nat)
  => y.h.key j) y.h.at_).swap v.toNat (↑y.k : Int).toNat).id j = y_1.h.id j ∧ ((HP.mk y.h.n y.h.cap (fun (j : Nat) => y.h.id j) (fun (j : Nat) => y.h.key j) y.h.at_).swap v.toNat (↑y.k : Int).toNat).key j = y_1.h.key j ∧
  True) ∧ True) ∧ (upF h k).μ y_1 < (upF h k).μ y)) ∧ (decide ((↑y.k : Int) > (0 : Int)) = false → h.Hole k ∧ k < h.n ∧ h.n ≤ (100000 : Nat) → ∃ (x : HP), (x.Down k ∧ h.Same x) ∧ True ∧ True ∧ ((65 : Nat) ≤ (65 : Nat) ∧
  (True ∧ True ∧ (0 : Nat) = (0 : Nat) ∧ y.h.n = x.n ∧ y.h.cap = x.cap) ∧ ((64 : Nat) = (64 : Nat) ∧ ∀ (j : Nat), j < (64 : Nat) → y.h.at_ j = x.at_ j) ∧ True) ∧ (x.cap * (2 : Nat) ≤ y.h.cap * (2 : Nat) ∧ x.n ≤ y.h.n ∧ ∀
  (j : Nat), j < x.n → y.h.id j = x.id j ∧ y.h.key j = x.key j ∧ True) ∧ True) := by
  simp only [true_and, and_true, eq_self, Nat.le_refl, decide_eq_true_eq, decide_eq_false_iff_not, implies_true, and_self, Int.not_lt, Int.not_le, gt_iff_lt, ne_eq, Nat.zero_add, Int.toNat_natCast, IntKind.wrap_i64]
  simp only [HP.eta]
  rintro h k ⟨hh, hk, hn⟩
  refine ⟨⟨⟨h, k⟩, ⟨hk, HP.Same.refl h, .inl ⟨rfl, hh⟩⟩, rfl, ⟨⟨⟨rfl, rfl⟩, fun _ _ => rfl⟩, Nat.le_refl _, Nat.le_refl _, fun _ _ => ⟨rfl, rfl⟩⟩⟩, fun y hy => ?_⟩
  obtain ⟨g, i⟩ := y
  obtain ⟨y1, y2, y3⟩ := hy
  dsimp only at y1 y2 y3 ⊢
  have gn : g.n = h.n := y2.n
  have hc : g.Cons := y3.elim (fun u => u.2.c) (fun u => u.c)
  have ho : g.Hole i := y3.elim (fun u => by rw [u.1]; exact u.2) (fun u => u.hole)
  have fin : (i = 0 ∨ g.le ((i - 1) / 2) i) → g.Down k := fun hle => by
    rcases y3 with ⟨rfl, ho⟩ | hu
    · exact ho.down hle
    · exact (hu.full hle).down k
  refine ⟨fun hpos => ⟨by decide, fun v hv => ?_⟩, fun h0 _ => ⟨g, ⟨fin (.inl (by omega)), y2⟩, ⟨⟨⟨rfl, rfl⟩, fun _ _ => rfl⟩, Nat.le_refl _, Nat.le_refl _, fun _ _ => ⟨rfl, rfl⟩⟩⟩⟩
  have ev : v = (((i - 1) / 2 : Nat) : Int) := by
    rw [hv, show ((i : Int) - 1 + 9223372036854775808) % 18446744073709551616 - 9223372036854775808 = (i : Int) - 1 by omega, Int.tdiv_eq_ediv_of_nonneg (by omega)]
    omega
  have hvn : v.toNat = (i - 1) / 2 := by omega
  rw [hvn]
  have hp : (i - 1) / 2 < i := by omega
  have el1 := (hc.el ((i - 1) / 2) (by omega)).1.1
  have el2 := (hc.el i (by omega)).1.1
  exact ⟨by omega, by omega, by omega, by omega, fun hle _ => ⟨g, ⟨fin (.inr ((ordI_le _ _).1 hle)), y2⟩, ⟨⟨⟨rfl, rfl⟩, fun _ _ => rfl⟩, Nat.le_refl _, Nat.le_refl _, fun _ _ => ⟨rfl, rfl⟩⟩⟩, fun hgt => ⟨ev, ⟨⟨by omega, by omega, by omega⟩, el1, el2⟩, fun v1 hv1 => ⟨⟨g.swap ((i - 1) / 2) i, (i - 1) / 2⟩, ⟨(by show (i - 1) / 2 < h.n; omega), y2.trans ⟨rfl, rfl, hc.swap_M (by omega) (by omega)⟩, .inr (ho.step (by omega) (by omega) ((ordI_gt _ _).1 hgt))⟩, ⟨hv1.trans ev, ⟨⟨⟨rfl, rfl⟩, fun _ _ => rfl⟩, Nat.le_refl _, Nat.le_refl _, fun _ _ => ⟨rfl, rfl⟩⟩⟩, hp⟩⟩⟩

def up_C (x : (HP × Nat)) : Cfg := { Γ := Go.Sx.look tUp, names := true, loops := onlyAt 0 [upF (x.1) (x.2)], mode := modeAt 2, locks := lockAt 2 [0, 1] }
theorem up_al (x : (HP × Nat)) : Shown (upP.vc Try.prog (up_C x) Try.f25 x) := ⟨@Eq.mp _ _ (by kernel_rfl) (up_vc (x.1) (x.2))⟩
theorem up_ok : SpOk Try.prog 25 upP.sp := @Pat.okS _ upP Try.prog up_C 25 Try.f25 (fun x => cfg_tab rfl tUp_ok) (by kernel_rfl) Try.func25 (fun _ => rfl) up_al
def downP : Pat (HP × Nat) where
  view | [.ptr r 0 [], .int .i64 a], H => some (viewHP r H, a.toNat) | _, _ => none
  args x := [p0 0, .int .i64 (x.2 : Nat)]
  H x := [x.1.me 1, x.1.row]
  out x := .need (x.1.Down x.2 ∧ x.2 < x.1.n ∧ x.1.n ≤ 100000) (.any (fun h : HP => h.Full ∧ x.1.Same h) fun h => .ret (.tup .nil) [h.me 1, h.row])
def downF (h : HP) (_ : Nat) : Fam where
  α := HK
  I z := z.k < h.n ∧ h.Same z.h ∧ z.h.Down z.k
  st z := { sl := mkSl 65 [(0, p0 0), (1, .int .i64 (z.k : Nat))], H := [z.h.me 1, z.h.row] }
  μ z := h.n - z.k
structure HC where
  h : HP
  k : Nat
  c : Nat
def downC (h : HP) (_ : Nat) (u : HK) : Fam where
  α := HC
  I z := z.h = u.h ∧ z.k = u.k ∧ (z.c - 1) / 2 = z.k ∧ 0 < z.c ∧ z.c < h.n ∧ ∀ j, 0 < j → j < h.n → (j - 1) / 2 = z.k → z.h.le z.c j
  st z := { sl := mkSl 65 [(0, p0 0), (1, .int .i64 (z.k : Nat)), (4, .int .i64 (z.c : Nat))], H := [z.h.me 1, z.h.row] }
  μ _ := 0
def downCu (h : HP) (k : Nat) : Nat → Gam
  | 4 => .g fun u => [downC h k u]
  | _ => .l []
def downM : Nat → Nat
  | 2 => 1
  | 4 => 1
  | _ => 0
def downL : Nat → List Nat
  | 2 => [0, 1]
  | 4 => [0, 1]
  | _ => []
theorem down_vc : ∀ (h : HP) (k : Nat), (h.Down k ∧ k < h.n ∧ h.n ≤ (100000 : Nat)) ∧ True → (∃ (y : HK), (y.k < h.n ∧ h.Same y.h ∧ y.h.Down y.k) ∧ (((True ∧ True) ∧ (↑k : Int) = (↑y.k : Int) ∧ True) ∧ ((65 : Nat) ≤ (65 : Nat) ∧ (True ∧
  True ∧ (0 : Nat) = (0 : Nat) ∧ h.n = y.h.n ∧ h.cap = y.h.cap) ∧ ((64 : Nat) = (64 : Nat) ∧ ∀ (j : Nat), j < (64 : Nat) → h.at_ j = y.h.at_ j) ∧ True) ∧ (y.h.cap * (2 : Nat) ≤ h.cap * (2 : Nat) ∧ y.h.n ≤ h.n ∧ ∀ (j :
  Nat), j < y.h.n → h.id j = y.h.id j ∧ h.key j = y.h.key j ∧ True) ∧ True) ∧ True) ∧ ∀ (y : HK), y.k < h.n ∧ h.Same y.h ∧ y.h.Down y.k → ∀ (v : Int), v = IntKind.i64.wrap (IntKind.i64.wrap ((2 : Int) * (↑y.k : Int)) + (1
  : Int)) → (decide (v ≥ (↑y.h.n : Int)) = true → h.Down k ∧ k < h.n ∧ h.n ≤ (100000 : Nat) → ∃ (x : HP), (x.Full ∧ h.Same x) ∧ True ∧ True ∧ ((65 : Nat) ≤ (65 : Nat) ∧ (True ∧ True ∧ (0 : Nat) = (0 : Nat) ∧ y.h.n = x.n ∧
  y.h.cap = x.cap) ∧ ((64 : Nat) = (64 : Nat) ∧ ∀ (j : Nat), j < (64 : Nat) → y.h.at_ j = x.at_ j) ∧ True) ∧ (x.cap * (2 : Nat) ≤ y.h.cap * (2 : Nat) ∧ x.n ≤ y.h.n ∧ ∀ (j : Nat), j < x.n → y.h.id j = x.id j ∧ y.h.key j =
  x.key j ∧ True) ∧ True) ∧ (decide (v ≥ (↑y.h.n : Int)) = false → ∃ (g : HK), ((decide (IntKind.i64.wrap (v + (1 : Int)) < (↑y.h.n : Int)) = true → ((0 : Int) ≤ IntKind.i64.wrap (v + (1 : Int)) ∧ IntKind.i64.wrap (v + (1
  : Int)) < (↑y.h.n : Int)) ∧ (0 : Nat) + (IntKind.i64.wrap (v + (1 : Int))).toNat < y.h.n ∧ ((0 : Int) ≤ v ∧ v < (↑y.h.n : Int)) ∧ (0 : Nat) + v.toNat < y.h.n ∧ (((y.h.id ((0 : Nat) + (IntKind.i64.wrap (v + (1 :
  Int))).toNat) = y.h.id ((0 : Nat) + (IntKind.i64.wrap (v + (1 : Int))).toNat) ∧ y.h.key ((0 : Nat) + (IntKind.i64.wrap (v + (1 : Int))).toNat) = y.h.key ((0 : Nat) + (IntKind.i64.wrap (v + (1 : Int))).toNat) ∧ True) ∧
  (y.h.id ((0 : Nat) + v.toNat) = y.h.id ((0 : Nat) + v.toNat) ∧ y.h.key ((0 : Nat) + v.toNat) = y.h.key ((0 : Nat) + v.toNat) ∧ True) ∧ True) ∧ True) ∧ (decide (ordI (y.h.id ((0 : Nat) + (IntKind.i64.wrap (v + (1 :
  Int))).toNat), y.h.key ((0 : Nat) + (IntKind.i64.wrap (v + (1 : Int))).toNat)) (y.h.id ((0 : Nat) + v.toNat), y.h.key ((0 : Nat) + v.toNat)) < (0 : Int)) = true → ∀ (v_1 : Int), v_1 = IntKind.i64.wrap (v + (1 : Int)) → ∃
  (y_1 : HC), (y_1.h = g.h ∧ y_1.k = g.k ∧ (y_1.c - (1 : Nat)) / (2 : Nat) = y_1.k ∧ (0 : Nat) < y_1.c ∧ y_1.c < h.n ∧ ∀ (j : Nat), (0 : Nat) < j → j < h.n → (j - (1 : Nat)) / (2 : Nat) = y_1.k → y_1.h.le y_1.c j) ∧
  (((True ∧ True) ∧ (↑y.k : Int) = (↑y_1.k : Int) ∧ v_1 = (↑y_1.c : Int) ∧ True) ∧ ((65 : Nat) ≤ (65 : Nat) ∧ (True ∧ True ∧ (0 : Nat) = (0 : Nat) ∧ y.h.n = y_1.h.n ∧ y.h.cap = y_1.h.cap) ∧ ((64 : Nat) = (64 : Nat) ∧ ∀ (j
  : Nat), j < (64 : Nat) → y.h.at_ j = y_1.h.at_ j) ∧ True) ∧ (y_1.h.cap * (2 : Nat) ≤ y.h.cap * (2 : Nat) ∧ y_1.h.n ≤ y.h.n ∧ ∀ (j : Nat), j < y_1.h.n → y.h.id j = y_1.h.id j ∧ y.h.key j = y_1.h.key j ∧ True) ∧ True) ∧
  True) ∧ (decide (ordI (y.h.id ((0 : Nat) + (IntKind.i64.wrap (v + (1 : Int))).toNat), y.h.key ((0 : Nat) + (IntKind.i64.wrap (v + (1 : Int))).toNat)) (y.h.id ((0 : Nat) + v.toNat), y.h.key ((0 : Nat) + v.toNat)) < (0 :
  Int)) = false → ∃ (y_1 : HC), (y_1.h = g.h ∧ y_1.k = g.k ∧ (y_1.c - (1 : Nat)) / (2 : Nat) = y_1.k ∧ (0 : Nat) < y_1.c ∧ y_1.c < h.n ∧ ∀ (j : Nat), (0 : Nat) < j → j < h.n → (j - (1 : Nat)) / (2 : Nat) = y_1.k → y_1.h.le
  y_1.c j) ∧ (((True ∧ True) ∧ (↑y.k : Int) = (↑y_1.k : Int) ∧ v = (↑y_1.c : Int) ∧ True) ∧ ((65 : Nat) ≤ (65 : Nat) ∧ (True ∧ True ∧ (0 : Nat) = (0 : Nat) ∧ y.h.n = y_1.h.n ∧ y.h.cap = y_1.h.cap) ∧ ((64 : Nat) = (64 :
  Nat) ∧ ∀ (j : Nat), j < (64 : Nat) → y.h.at_ j = y_1.h.at_ j) ∧ True) ∧ (y_1.h.cap * (2 : Nat) ≤ y.h.cap * (2 : Nat) ∧ y_1.h.n ≤ y.h.n ∧ ∀ (j : Nat), j < y_1.h.n → y.h.id j = y_1.h.id j ∧ y.h.key j = y_1.h.key j ∧ True)
  ∧ True) ∧ True)) ∧ (decide (IntKind.i64.wrap (v + (1 : Int)) < (↑y.h.n : Int)) = false → ∃ (y_1 : HC), (y_1.h = g.h ∧ y_1.k = g.k ∧ (y_1.c - (1 : Nat)) / (2 : Nat) = y_1.k ∧ (0 : Nat) < y_1.c ∧ y_1.c < h.n ∧ ∀ (j : Nat),
  (0 : Nat) < j → j < h.n → (j - (1 : Nat)) / (2 : Nat) = y_1.k → y_1.h.le y_1.c j) ∧ (((True ∧ True) ∧ (↑y.k : Int) = (↑y_1.k : Int) ∧ v = (↑y_1.c : Int) ∧ True) ∧ ((65 : Nat) ≤ (65 : Nat) ∧ (True ∧ True ∧ (0 : Nat) = (0
  : Nat) ∧ y.h.n = y_1.h.n ∧ y.h.cap = y_1.h.cap) ∧ ((64 : Nat) = (64 : Nat) ∧ ∀ (j : Nat), j < (64 : Nat) → y.h.at_ j = y_1.h.at_ j) ∧ True) ∧ (y_1.h.cap * (2 : Nat) ≤ y.h.cap * (2 : Nat) ∧ y_1.h.n ≤ y.h.n ∧ ∀ (j : Nat),
  j < y_1.h.n → y.h.id j = y_1.h.id j ∧ y.h.key j = y_1.h.key j ∧ True) ∧ True) ∧ True)) ∧ ∀ (y_1 : HC), (y_1.h = g.h ∧ y_1.k = g.k ∧ (y_1.c - (1 : Nat)) / (2 : Nat) = y_1.k ∧ (0 : Nat) < y_1.c ∧ y_1.c < h.n ∧ ∀ (j : Nat),
  (0 : Nat) < j → j < h.n → (j - (1 : Nat)) / (2 : Nat) = y_1.k → y_1.h.le y_1.c j) → ((0 : Int) ≤ (↑y_1.k : Int) ∧ (↑y_1.k : Int) < (↑y_1.h.n : Int)) ∧ (0 : Nat) + (↑y_1.k : Int).toNat < y_1.h.n ∧ ((0 : Int) ≤ (↑y_1.c :
  Int) ∧ (↑y_1.c : Int) < (↑y_1.h.n : Int)) ∧ (0 : Nat) + (↑y_1.c : Int).toNat < y_1.h.n ∧ (((y_1.h.id ((0 : Nat) + (↑y_1.k : Int).toNat) = y_1.h.id ((0 : Nat) + (↑y_1.k : Int).toNat) ∧ y_1.h.key ((0 : Nat) + (↑y_1.k :
  Int).toNat) = y_1.h.key ((0 : Nat) + (↑y_1.k : Int).toNat) ∧ True) ∧ (y_1.h.id ((0 : Nat) + (↑y_1.c : Int).toNat) = y_1.h.id ((0 : Nat) + (↑y_1.c : Int).toNat) ∧ y_1.h.key ((0 : Nat) + (↑y_1.c : Int).toNat) = y_1.h.key
  ((0 : Nat) + (↑y_1.c : Int).toNat) ∧ True) ∧ True) ∧ True) ∧ (decide (ordI (y_1.h.id ((0 : Nat) + (↑y_1.k : Int).toNat), y_1.h.key ((0 : Nat) + (↑y_1.k : Int).toNat)) (y_1.h.id ((0 : Nat) + (↑y_1.c : Int).toNat),
  y_1.h.key ((0 : Nat) + (↑y_1.c : Int).toNat)) ≤ (0 : Int)) = true → h.Down k ∧ k < h.n ∧ h.n ≤ (100000 : Nat) → ∃ (x : HP), (x.Full ∧ h.Same x) ∧ True ∧ True ∧ ((65 : Nat) ≤ (65 : Nat) ∧ (True ∧ True ∧ (0 : Nat) = (0 :
  Nat) ∧ y_1.h.n = x.n ∧ y_1.h.cap = x.cap) ∧ ((64 : Nat) = (64 : Nat) ∧ ∀ (j : Nat), j < (64 : Nat) → y_1.h.at_ j = x.at_ j) ∧ True) ∧ (x.cap * (2 : Nat) ≤ y_1.h.cap * (2 : Nat) ∧ x.n ≤ y_1.h.n ∧ ∀ (j : Nat), j < x.n →
  y_1.h.id j = x.id j ∧ y_1.h.key j = x.key j ∧ True) ∧ True) ∧ (decide (ordI (y_1.h.id ((0 : Nat) + (↑y_1.k : Int).toNat), y_1.h.key ((0 : Nat) + (↑y_1.k : Int).toNat)) (y_1.h.id ((0 : Nat) + (↑y_1.c : Int).toNat),
  y_1.h.key ((0 : Nat) + (↑y_1.c : Int).toNat)) ≤ (0 : Int)) = false → (((True ∧ True) ∧ (↑y_1.k : Int) = (↑(↑y_1.k : Int).toNat : Int) ∧ (↑y_1.c : Int) = (↑(↑y_1.c : Int).toNat : Int) ∧ True) ∧ ((65 : Nat) ≤ (65 : Nat) ∧
  (True ∧ True ∧ (0 : Nat) = (0 : Nat) ∧ y_1.h.n = y_1.h.n ∧ y_1.h.cap = y_1.h.cap) ∧ ((64 : Nat) = (64 : Nat) ∧ ∀ (j : Nat), j < (64 : Nat) → y_1.h.at_ j = y_1.h.at_ j) ∧ True) ∧ (y_1.h.cap * (2 : Nat) ≤ y_1.h.cap * (2 :
  Nat) ∧ y_1.h.n = y_1.h.n ∧ ∀ (j : Nat), j < y_1.h.n → y_1.h.id j = y_1.h.id j ∧ y_1.h.key j = y_1.h.key j ∧ True) ∧ True) ∧ (((↑y_1.k : Int).toNat < y_1.h.n ∧ (↑y_1.c : Int).toNat < y_1.h.n ∧ y_1.h.n ≤ (100000 : Nat)) ∧
  ((0 : Int) ≤ y_1.h.id (↑y_1.k : Int).toNat ∧ y_1.h.id (↑y_1.k : Int).toNat < (64 : Int)) ∧ (0 : Int) ≤ y_1.h.id (↑y_1.c : Int).toNat ∧ y_1.h.id (↑y_1.c : Int).toNat < (64 : Int)) ∧ ∀ (v : Int), v = (↑y_1.c : Int) → ∃
  (y_2 : HK), (y_2.k < h.n ∧ h.Same y_2.h ∧ y_2.h.Down y_2.k) ∧ (((True ∧ True) ∧ v = (↑y_2.k : Int) ∧ True) ∧ ((65 : Nat) ≤ (65 : Nat) ∧ (True ∧ True ∧ (0 : Nat) = (0 : Nat) ∧ ((HP.mk y_1.h.n y_1.h.cap (fun (j : Nat) =>
  y_1.h.id j) (fun (j : Nat) => y_1.h.key j) y_1.h.at_).swap (↑y_1.k : Int).toNat (↑y_1.c : Int).toNat).n = y_2.h.n ∧ ((HP.mk y_1.h.n y_1.h.cap (fun (j : Nat) => y_1.h.id j) (fun (j : Nat) => y_1.h.key j) y_1.h.at_).swap
  (↑y_1.k : Int).toNat (↑y_1.c : Int).toNat).cap = y_2.h.cap) ∧ ((64 : Nat) = (64 : Nat) ∧ ∀ (j : Nat), j < (64 : Nat) → ((HP.mk y_1.h.n y_1.h.cap (fun (j : Nat) => y_1.h.id j) (fun (j : Nat) => y_1.h.key j)
  y_1.h.at_).swap (↑y_1.k : Int).toNat (↑y_1.c : Int).toNat).at_ j = y_2.h.at_ j) ∧ True) ∧ (y_2.h.cap * (2 : Nat) ≤ y_1.h.cap * (2 : Nat) ∧ y_2.h.n ≤ ((HP.mk y_1.h.n y_1.h.cap (fun (j : Nat) => y_1.h.id j) (fun (j : Nat)
  => y_1.h.key j) y_1.h.at_).swap (↑y_1.k : Int).toNat (↑y_1.c : Int).toNat).n ∧ ∀ (j : Nat), j < y_2.h.n → ((HP.mk y_1.h.n y_1.h.cap (fun (j : Nat) => y_1.h.id j) (fun (j : Nat) => y_1.h.key j) y_1.h.at_).swap (↑y_1.k :
  Int).toNat (↑y_1.c : Int).toNat).id j = y_2.h.id j ∧ ((HP.mk y_1.h.n y_1.h.cap (fun (j : Nat) => y_1.h.id j) (fun (j : Nat) => y_1.h.key j) y_1.h.at_).swap (↑y_1.k : Int).toNat (↑y_1.c : Int).toNat).key j = y_2.h.key j ∧
  True) ∧ True) ∧ (downF h k).μ y_2 < (downF h k).μ y)) := by
  simp only [true_and, and_true, eq_self, Nat.le_refl, decide_eq_true_eq, decide_eq_false_iff_not, implies_true, and_self, Int.not_lt, Int.not_le, ge_iff_le, Nat.zero_add, Int.toNat_natCast, IntKind.wrap_i64]
  simp only [HP.eta]
  rintro h k ⟨hh, hk, hn⟩
  refine ⟨⟨⟨h, k⟩, ⟨hk, HP.Same.refl h, hh⟩, rfl, ⟨⟨⟨rfl, rfl⟩, fun _ _ => rfl⟩, Nat.le_refl _, Nat.le_refl _, fun _ _ => ⟨rfl, rfl⟩⟩⟩, fun y hy v hv => ?_⟩
  obtain ⟨g, i⟩ := y
  obtain ⟨y1, y2, y3⟩ := hy
  dsimp only at y1 y2 y3 hv ⊢
  have gn : g.n = h.n := y2.n
  have hc : g.Cons := y3.c
  have ev : v = ((2 * i + 1 : Nat) : Int) := by omega
  clear hv
  subst ev
  rw [show (((2 * i + 1 : Nat) : Int) + 1 + 9223372036854775808) % 18446744073709551616 - 9223372036854775808 = ((2 * i + 2 : Nat) : Int) by omega, Int.toNat_natCast, Int.toNat_natCast]
  have ch : ∀ j, 0 < j → (j - 1) / 2 = i → j = 2 * i + 1 ∨ j = 2 * i + 2 := fun j h1 h2 => by omega
  refine ⟨fun hge _ => ⟨g, ⟨y3.full fun j h1 h2 h3 => by have := ch j h1 h3; omega, y2⟩, ⟨⟨⟨rfl, rfl⟩, fun _ _ => rfl⟩, Nat.le_refl _, Nat.le_refl _, fun _ _ => ⟨rfl, rfl⟩⟩⟩, fun hlt => ⟨⟨g, i⟩, ⟨fun h2 => ⟨by omega, by omega, by omega, by omega, fun hl v1 hv1 => ⟨⟨g, i, 2 * i + 2⟩, ⟨rfl, rfl, (by show (2 * i + 2 - 1) / 2 = i; omega), (by show 0 < 2 * i + 2; omega), (by show 2 * i + 2 < h.n; omega), fun j h3 h4 h5 => ?_⟩, ⟨rfl, hv1⟩, ⟨⟨⟨rfl, rfl⟩, fun _ _ => rfl⟩, Nat.le_refl _, Nat.le_refl _, fun _ _ => ⟨rfl, rfl⟩⟩⟩, fun hl => ⟨⟨g, i, 2 * i + 1⟩, ⟨rfl, rfl, (by show (2 * i + 1 - 1) / 2 = i; omega), (by show 0 < 2 * i + 1; omega), (by show 2 * i + 1 < h.n; omega), fun j h3 h4 h5 => ?_⟩, ⟨rfl, rfl⟩, ⟨⟨⟨rfl, rfl⟩, fun _ _ => rfl⟩, Nat.le_refl _, Nat.le_refl _, fun _ _ => ⟨rfl, rfl⟩⟩⟩⟩, fun h2 => ⟨⟨g, i, 2 * i + 1⟩, ⟨rfl, rfl, (by show (2 * i + 1 - 1) / 2 = i; omega), (by show 0 < 2 * i + 1; omega), (by show 2 * i + 1 < h.n; omega), fun j h3 h4 h5 => ?_⟩, ⟨rfl, rfl⟩, ⟨⟨⟨rfl, rfl⟩, fun _ _ => rfl⟩, Nat.le_refl _, Nat.le_refl _, fun _ _ => ⟨rfl, rfl⟩⟩⟩⟩, ?_⟩⟩
  · have hl := (ordI_lt _ _).1 hl
    rcases ch j h3 h5 with e | e
    · rw [e]; exact ltI_asymm hl
    · rw [e]; exact fun h => ltI_asymm h h
  · have hl := (ordI_ge _ _).1 hl
    rcases ch j h3 h5 with e | e
    · rw [e]; exact fun h => ltI_asymm h h
    · rw [e]; exact hl
  · rcases ch j h3 h5 with e | e
    · rw [e]; exact fun h => ltI_asymm h h
    · exfalso; omega
  · rintro ⟨g', i', c⟩ ⟨e1, e2, z1, z2, z3, z4⟩
    dsimp only at e1 e2 z1 z2 z3 z4 ⊢
    subst e1 e2
    have el1 := (hc.el i' (by omega)).1.1
    have el2 := (hc.el c (by omega)).1.1
    refine ⟨by omega, by omega, by omega, by omega, fun hle _ => ⟨g', ⟨y3.full fun j h1 h2 h3 => ?_, y2⟩, ⟨⟨⟨rfl, rfl⟩, fun _ _ => rfl⟩, Nat.le_refl _, Nat.le_refl _, fun _ _ => ⟨rfl, rfl⟩⟩⟩, fun hgt => ⟨⟨⟨by omega, by omega, by omega⟩, el1, el2⟩, fun v1 hv1 => ⟨⟨g'.swap i' c, c⟩, ⟨z3, y2.trans ⟨rfl, rfl, hc.swap_M (by omega) (by omega)⟩, y3.step z1 z2 (by omega) ((ordI_gt _ _).1 hgt) fun j h1 h2 h3 => z4 j h1 (by omega) h3⟩, ⟨hv1, ⟨⟨⟨rfl, rfl⟩, fun _ _ => rfl⟩, Nat.le_refl _, Nat.le_refl _, fun _ _ => ⟨rfl, rfl⟩⟩⟩, (by show h.n - c < h.n - i'; omega)⟩⟩⟩
    have hle := (ordI_le _ _).1 hle
    exact not_ltI_trans hle (z4 j h1 (by omega) h3)

def down_C (x : (HP × Nat)) : Cfg := { Γ := Go.Sx.look tUp, names := true, loops := onlyAt 0 [downF (x.1) (x.2)], cuts := downCu (x.1) (x.2), mode := downM, locks := downL }
theorem down_al (x : (HP × Nat)) : Shown (downP.vc Try.prog (down_C x) Try.f26 x) := ⟨@Eq.mp _ _ (by kernel_rfl) (down_vc (x.1) (x.2))⟩
theorem down_ok : SpOk Try.prog 26 downP.sp := @Pat.okS _ downP Try.prog down_C 26 Try.f26 (fun x => cfg_tab rfl tUp_ok) (by kernel_rfl) Try.func26 (fun _ => rfl) down_al
end Go.Proofs.Ytnicidiocncjdaa
