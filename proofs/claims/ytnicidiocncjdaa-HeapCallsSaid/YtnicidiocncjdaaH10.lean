import Derived.Test.YtnicidiocncjdaaH9
open Go Go.Sx Go.Proofs
set_option maxRecDepth 100000
namespace Go.Proofs.Ytnicidiocncjdaa
open Go.RowKit Go.Sort

theorem ltI_total {x y : It} (h : ¬ ltI x y) (h2 : ¬ ltI y x) : x = y := by
  unfold ltI at *
  exact Prod.ext (by omega) (by omega)
theorem mem_upto {α : Type} {f : Nat → α} {n : Nat} {x : α} : x ∈ upto f n ↔ ∃ j, j < n ∧ f j = x := by
  simp [upto]
/-- What a sorted list of a heap's items says. -/
theorem srt_spec {h : HP} (hc : h.Cons) {g : Nat → It} (hs : Srt h.n h.f g) : (∀ j, j < h.n → h.M (g j).1 = some (g j).2) ∧ (∀ i j, i < j → j < h.n → ltI (g i) (g j)) ∧ ∀ i q, h.M i = some q → ∃ j, j < h.n ∧ g j = (i, q) := by
  obtain ⟨hp, ho⟩ := hs
  have hnd : (upto g h.n).Nodup := hp.nodup_iff.2 (by
    unfold upto List.Nodup
    rw [List.pairwise_map]
    exact List.Pairwise.imp_of_mem (fun ha hb hne e => hne (hc.inj (List.mem_range.1 ha) (List.mem_range.1 hb) (congrArg Prod.fst e))) List.nodup_range)
  refine ⟨fun j hj => ?_, fun i j hij hj => ?_, fun i q hm => ?_⟩
  · obtain ⟨k, hk, e⟩ := mem_upto.1 (hp.mem_iff.1 (mem_upto.2 ⟨j, hj, rfl⟩))
    rw [← e]
    exact hc.M_some hk
  · refine Decidable.byContradiction fun hn => ?_
    have e := ltI_total hn (ho i j hij hj)
    have h1 := upto_at g (show i < h.n by omega)
    have h2 := upto_at g hj
    have := (List.getElem?_inj (by rw [upto_length]; omega) hnd).1 (h1.trans ((congrArg some e).trans h2.symm))
    omega
  · obtain ⟨k, hk, e1, e2⟩ := hc.M_ex hm
    obtain ⟨j, hj, e⟩ := mem_upto.1 (hp.mem_iff.2 (mem_upto.2 ⟨k, hk, rfl⟩))
    exact ⟨j, hj, e.trans (by rw [← e1, ← e2]; rfl)⟩
/-- Rows of numbers. -/
structure IR where
  n : Nat
  cap : Nat
  f : Nat → Int
def IR.v (x : IR) (r : Nat) : T := .slice r 0 [] 0 1 x.n x.cap
def IR.row (x : IR) : Reg := rowReg 3 x.n 1 x.cap (fun j => .int .i64 (x.f j))
def viewIR (t : T) (H : List Reg) : IR := ⟨tLen t, tCap t, fun j => tInt (tArr (regC H (tRef t)) j)⟩
def sameB (n : Nat) (f g : Nat → Int) : Bool := decide (∀ j, j < n → f j = g j)
def sameP : Pat (IR × IR) where
  view | [s, t], H => some (viewIR s H, viewIR t H) | _, _ => none
  args x := [x.1.v 0, x.2.v 1]
  H x := [x.1.row, x.2.row]
  out x := .need (x.1.n ≤ 1000000) (.br (x.1.n = x.2.n) (.retq (.bool (sameB x.1.n x.1.f x.2.f))) (.retq .ff))
def sameF (x y : IR) : Fam where
  α := Nat
  I i := i ≤ x.n ∧ x.n = y.n ∧ ∀ j, j < i → x.f j = y.f j
  st i := { sl := mkSl 26 [(0, x.v 0), (1, y.v 1), (5, .int .i64 (i : Nat))], H := [x.row, y.row] }
  μ i := x.n - i
theorem same1_vc : ∀ (x y : IR), x.n ≤ (1000000 : Nat) ∧ True → (((↑x.n : Int) != (↑y.n : Int)) = true → x.n ≤ (1000000 : Nat) → (x.n = y.n → sameB x.n x.f y.f = false ∧ True ∧ (x.cap * (1 : Nat) ≤ x.cap * (1 : Nat) ∧ x.n = x.n ∧ ∀ (j :
  Nat), j < x.n → x.f j = x.f j) ∧ (y.cap * (1 : Nat) ≤ y.cap * (1 : Nat) ∧ y.n = y.n ∧ ∀ (j : Nat), j < y.n → y.f j = y.f j) ∧ True) ∧ (¬x.n = y.n → True ∧ True ∧ (x.cap * (1 : Nat) ≤ x.cap * (1 : Nat) ∧ x.n = x.n ∧ ∀ (j
  : Nat), j < x.n → x.f j = x.f j) ∧ (y.cap * (1 : Nat) ≤ y.cap * (1 : Nat) ∧ y.n = y.n ∧ ∀ (j : Nat), j < y.n → y.f j = y.f j) ∧ True)) ∧ (((↑x.n : Int) != (↑y.n : Int)) = false → ∀ (v : Int), v = (0 : Int) → (∃ (y_1 :
  Nat), (y_1 ≤ x.n ∧ x.n = y.n ∧ ∀ (j : Nat), j < y_1 → x.f j = y.f j) ∧ (((True ∧ True ∧ (0 : Nat) = (0 : Nat) ∧ x.n = x.n ∧ x.cap = x.cap) ∧ (True ∧ True ∧ (0 : Nat) = (0 : Nat) ∧ y.n = y.n ∧ y.cap = y.cap) ∧ v = (↑y_1 :
  Int) ∧ True) ∧ (x.cap * (1 : Nat) ≤ x.cap * (1 : Nat) ∧ x.n = x.n ∧ ∀ (j : Nat), j < x.n → x.f j = x.f j) ∧ (y.cap * (1 : Nat) ≤ y.cap * (1 : Nat) ∧ y.n = y.n ∧ ∀ (j : Nat), j < y.n → y.f j = y.f j) ∧ True) ∧ True) ∧ ∀
  (y_1 : Nat), (y_1 ≤ x.n ∧ x.n = y.n ∧ ∀ (j : Nat), j < y_1 → x.f j = y.f j) → (decide ((↑y_1 : Int) < (↑x.n : Int)) = true → ((0 : Int) ≤ (↑y_1 : Int) ∧ (↑y_1 : Int) < (↑x.n : Int)) ∧ (0 : Nat) + (↑y_1 : Int).toNat < x.n
  ∧ ((0 : Int) ≤ (↑y_1 : Int) ∧ (↑y_1 : Int) < (↑y.n : Int)) ∧ (0 : Nat) + (↑y_1 : Int).toNat < y.n ∧ ((x.f ((0 : Nat) + (↑y_1 : Int).toNat) != y.f ((0 : Nat) + (↑y_1 : Int).toNat)) = true → x.n ≤ (1000000 : Nat) → (x.n =
  y.n → sameB x.n x.f y.f = false ∧ True ∧ (x.cap * (1 : Nat) ≤ x.cap * (1 : Nat) ∧ x.n = x.n ∧ ∀ (j : Nat), j < x.n → x.f j = x.f j) ∧ (y.cap * (1 : Nat) ≤ y.cap * (1 : Nat) ∧ y.n = y.n ∧ ∀ (j : Nat), j < y.n → y.f j =
  y.f j) ∧ True) ∧ (¬x.n = y.n → True ∧ True ∧ (x.cap * (1 : Nat) ≤ x.cap * (1 : Nat) ∧ x.n = x.n ∧ ∀ (j : Nat), j < x.n → x.f j = x.f j) ∧ (y.cap * (1 : Nat) ≤ y.cap * (1 : Nat) ∧ y.n = y.n ∧ ∀ (j : Nat), j < y.n → y.f j
  = y.f j) ∧ True)) ∧ ((x.f ((0 : Nat) + (↑y_1 : Int).toNat) != y.f ((0 : Nat) + (↑y_1 : Int).toNat)) = false → ∀ (v : Int), v = IntKind.i64.wrap ((↑y_1 : Int) + (1 : Int)) → ∃ (y_2 : Nat), (y_2 ≤ x.n ∧ x.n = y.n ∧ ∀ (j :
  Nat), j < y_2 → x.f j = y.f j) ∧ (((True ∧ True ∧ (0 : Nat) = (0 : Nat) ∧ x.n = x.n ∧ x.cap = x.cap) ∧ (True ∧ True ∧ (0 : Nat) = (0 : Nat) ∧ y.n = y.n ∧ y.cap = y.cap) ∧ v = (↑y_2 : Int) ∧ True) ∧ (x.cap * (1 : Nat) ≤
  x.cap * (1 : Nat) ∧ x.n = x.n ∧ ∀ (j : Nat), j < x.n → x.f j = x.f j) ∧ (y.cap * (1 : Nat) ≤ y.cap * (1 : Nat) ∧ y.n = y.n ∧ ∀ (j : Nat), j < y.n → y.f j = y.f j) ∧ True) ∧ (sameF x y).μ y_2 < (sameF x y).μ y_1)) ∧
  (decide ((↑y_1 : Int) < (↑x.n : Int)) = false → x.n ≤ (1000000 : Nat) → (x.n = y.n → sameB x.n x.f y.f = true ∧ True ∧ (x.cap * (1 : Nat) ≤ x.cap * (1 : Nat) ∧ x.n = x.n ∧ ∀ (j : Nat), j < x.n → x.f j = x.f j) ∧ (y.cap *
  (1 : Nat) ≤ y.cap * (1 : Nat) ∧ y.n = y.n ∧ ∀ (j : Nat), j < y.n → y.f j = y.f j) ∧ True) ∧ (¬x.n = y.n → False ∧ True ∧ (x.cap * (1 : Nat) ≤ x.cap * (1 : Nat) ∧ x.n = x.n ∧ ∀ (j : Nat), j < x.n → x.f j = x.f j) ∧ (y.cap
  * (1 : Nat) ≤ y.cap * (1 : Nat) ∧ y.n = y.n ∧ ∀ (j : Nat), j < y.n → y.f j = y.f j) ∧ True))) := by
  simp only [true_and, and_true, eq_self, Nat.le_refl, decide_eq_true_eq, decide_eq_false_iff_not, implies_true, and_self, bne_iff_ne, Int.not_lt, ne_eq, Nat.zero_add, Int.toNat_natCast, IntKind.wrap_i64, bne_eq_false_iff_eq]
  intro x y hx
  refine ⟨fun hne _ h => by omega, fun he v hv => ⟨⟨0, ⟨Nat.zero_le _, by omega, fun j hj => absurd hj (Nat.not_lt_zero j)⟩, hv⟩, fun i hi => ?_⟩⟩
  obtain ⟨i1, i2, i3⟩ := hi
  refine ⟨fun hlt => ⟨by omega, by omega, by omega, by omega, fun hne _ _ => decide_eq_false fun h => hne (h i (by omega)), fun heq v hv => ⟨i + 1, ⟨by omega, i2, fun j hj => ?_⟩, by omega, (by show x.n - (i + 1) < x.n - i; omega)⟩⟩, fun hge _ => ⟨fun _ => decide_eq_true fun j hj => i3 j (by omega), fun h => h i2⟩⟩
  by_cases e : j = i
  · rw [e]; exact heq
  · exact i3 j (by omega)

def same1_C (x : (IR × IR)) : Cfg := { Γ := Go.Sx.look [], names := true, loops := onlyAt 4 [sameF (x.1) (x.2)] }
theorem same1_al (x : (IR × IR)) : Shown (sameP.vc Try.prog (same1_C x) Try.f14 x) := ⟨@Eq.mp _ _ (by kernel_rfl) (same1_vc (x.1) (x.2))⟩
theorem same1_ok : SpOk Try.prog 14 sameP.sp := @Pat.okS _ sameP Try.prog same1_C 14 Try.f14 (fun x => cfg_nil rfl) (by kernel_rfl) Try.func14 (fun _ => rfl) same1_al
def sameSNP : Pat IR where
  view | [s, .nils], H => some (viewIR s H) | _, _ => none
  args x := [x.v 0, .nils]
  H x := [x.row]
  out x := .br (x.n = 0) (.retq .tt) (.retq .ff)
def sameFS (x : IR) : Fam where
  α := Bool
  I _ := x.n = 0
  st _ := { sl := mkSl 26 [(0, x.v 0), (5, .int .i64 0)], H := [x.row] }
  μ _ := 0
theorem sameSN_vc : ∀ (x : IR), True → (((↑x.n : Int) != (0 : Int)) = true → (x.n = (0 : Nat) → False ∧ True ∧ (x.cap * (1 : Nat) ≤ x.cap * (1 : Nat) ∧ x.n = x.n ∧ ∀ (j : Nat), j < x.n → x.f j = x.f j) ∧ True) ∧ (¬x.n = (0 : Nat) → True ∧
  True ∧ (x.cap * (1 : Nat) ≤ x.cap * (1 : Nat) ∧ x.n = x.n ∧ ∀ (j : Nat), j < x.n → x.f j = x.f j) ∧ True)) ∧ (((↑x.n : Int) != (0 : Int)) = false → ∀ (v : Int), v = (0 : Int) → (∃ (_ : Bool), x.n = (0 : Nat) ∧ (((True ∧
  True ∧ (0 : Nat) = (0 : Nat) ∧ x.n = x.n ∧ x.cap = x.cap) ∧ v = (0 : Int) ∧ True) ∧ (x.cap * (1 : Nat) ≤ x.cap * (1 : Nat) ∧ x.n = x.n ∧ ∀ (j : Nat), j < x.n → x.f j = x.f j) ∧ True) ∧ True) ∧ ∀ (_ : Bool), x.n = (0 :
  Nat) → (decide ((0 : Int) < (↑x.n : Int)) = true → ((0 : Int) ≤ (0 : Int) ∧ (0 : Int) < (↑x.n : Int)) ∧ (0 : Nat) < x.n ∧ False) ∧ (decide ((0 : Int) < (↑x.n : Int)) = false → (x.n = (0 : Nat) → True ∧ True ∧ (x.cap * (1
  : Nat) ≤ x.cap * (1 : Nat) ∧ x.n = x.n ∧ ∀ (j : Nat), j < x.n → x.f j = x.f j) ∧ True) ∧ (¬x.n = (0 : Nat) → False ∧ True ∧ (x.cap * (1 : Nat) ≤ x.cap * (1 : Nat) ∧ x.n = x.n ∧ ∀ (j : Nat), j < x.n → x.f j = x.f j) ∧
  True))) := by
  simp only [true_and, and_true, eq_self, Nat.le_refl, decide_eq_true_eq, decide_eq_false_iff_not, implies_true, true_implies, and_self, bne_iff_ne, Int.not_lt, ne_eq, bne_eq_false_iff_eq]
  exact fun x => ⟨fun h h2 => h (by omega), fun h v hv => ⟨⟨true, by omega, hv⟩, fun _ h0 => ⟨fun h => by omega, fun _ h => h h0⟩⟩⟩

def sameSN_C (x : IR) : Cfg := { Γ := Go.Sx.look [], names := true, loops := onlyAt 4 [sameFS x] }
theorem sameSN_al (x : IR) : Shown (sameSNP.vc Try.prog (sameSN_C x) Try.f14 x) := ⟨@Eq.mp _ _ (by kernel_rfl) (sameSN_vc x)⟩
theorem sameSN_ok : SpOk Try.prog 14 sameSNP.sp := @Pat.okS _ sameSNP Try.prog sameSN_C 14 Try.f14 (fun x => cfg_nil rfl) (by kernel_rfl) Try.func14 (fun _ => rfl) sameSN_al
def sameNSP : Pat IR where
  view | [.nils, s], H => some (viewIR s H) | _, _ => none
  args x := [.nils, x.v 0]
  H x := [x.row]
  out x := .br (x.n = 0) (.retq .tt) (.retq .ff)
def sameFN (x : IR) : Fam where
  α := Bool
  I _ := x.n = 0
  st _ := { sl := mkSl 26 [(0, .nils), (5, .int .i64 0)], H := [x.row] }
  μ _ := 0
theorem sameNS_vc : ∀ (x : IR), True → (((0 : Int) != (↑x.n : Int)) = true → (x.n = (0 : Nat) → False ∧ True ∧ (x.cap * (1 : Nat) ≤ x.cap * (1 : Nat) ∧ x.n = x.n ∧ ∀ (j : Nat), j < x.n → x.f j = x.f j) ∧ True) ∧ (¬x.n = (0 : Nat) → True ∧
  True ∧ (x.cap * (1 : Nat) ≤ x.cap * (1 : Nat) ∧ x.n = x.n ∧ ∀ (j : Nat), j < x.n → x.f j = x.f j) ∧ True)) ∧ (((0 : Int) != (↑x.n : Int)) = false → ∀ (v : Int), v = (0 : Int) → (∃ (_ : Bool), x.n = (0 : Nat) ∧ ((True ∧ v
  = (0 : Int) ∧ True) ∧ (x.cap * (1 : Nat) ≤ x.cap * (1 : Nat) ∧ x.n = x.n ∧ ∀ (j : Nat), j < x.n → x.f j = x.f j) ∧ True) ∧ True) ∧ ∀ (_ : Bool), x.n = (0 : Nat) → (decide ((0 : Int) < (0 : Int)) = true → False) ∧ (decide
  ((0 : Int) < (0 : Int)) = false → (x.n = (0 : Nat) → True ∧ True ∧ (x.cap * (1 : Nat) ≤ x.cap * (1 : Nat) ∧ x.n = x.n ∧ ∀ (j : Nat), j < x.n → x.f j = x.f j) ∧ True) ∧ (¬x.n = (0 : Nat) → False ∧ True ∧ (x.cap * (1 :
  Nat) ≤ x.cap * (1 : Nat) ∧ x.n = x.n ∧ ∀ (j : Nat), j < x.n → x.f j = x.f j) ∧ True))) := by
  simp only [true_and, and_true, eq_self, Nat.le_refl, decide_eq_true_eq, decide_eq_false_iff_not, implies_true, true_implies, and_self, bne_iff_ne, Int.not_lt, ne_eq, bne_eq_false_iff_eq]
  exact fun x => ⟨fun h h2 => h (by omega), fun h v hv => ⟨⟨true, by omega, hv⟩, fun _ h0 => ⟨fun h => by omega, fun _ h => h h0⟩⟩⟩

def sameNS_C (x : IR) : Cfg := { Γ := Go.Sx.look [], names := true, loops := onlyAt 4 [sameFN x] }
theorem sameNS_al (x : IR) : Shown (sameNSP.vc Try.prog (sameNS_C x) Try.f14 x) := ⟨@Eq.mp _ _ (by kernel_rfl) (sameNS_vc x)⟩
theorem sameNS_ok : SpOk Try.prog 14 sameNSP.sp := @Pat.okS _ sameNSP Try.prog sameNS_C 14 Try.f14 (fun x => cfg_nil rfl) (by kernel_rfl) Try.func14 (fun _ => rfl) sameNS_al
def sameNNP : Pat Unit where
  view | [.nils, .nils], _ => some () | _, _ => none
  args _ := [.nils, .nils]
  H _ := []
  out _ := .retq .tt
def sameFNN : Fam where
  α := Bool
  I _ := True
  st _ := { sl := mkSl 26 [(0, .nils), (5, .int .i64 0)], H := [] }
  μ _ := 0
theorem sameNN_vc : True → (((0 : Int) != (0 : Int)) = true → False ∧ True ∧ True) ∧ (((0 : Int) != (0 : Int)) = false → ∀ (v : Int), v = (0 : Int) → (∃ (_ : Bool), True ∧ ((True ∧ v = (0 : Int) ∧ True) ∧ True) ∧ True) ∧ ∀ (_ : Bool), True
  → (decide ((0 : Int) < (0 : Int)) = true → False) ∧ (decide ((0 : Int) < (0 : Int)) = false → True ∧ True ∧ True)) := by
  simp only [true_and, and_true, eq_self, decide_eq_true_eq, decide_eq_false_iff_not, implies_true, true_implies, and_self, bne_iff_ne, Int.not_lt, ne_eq, bne_eq_false_iff_eq]
  exact ⟨fun h => h trivial, fun v hv => ⟨⟨true, hv⟩, fun _ h => by omega⟩⟩

def sameNN_C (_ : Unit) : Cfg := { Γ := Go.Sx.look [], names := true, loops := onlyAt 4 [sameFNN] }
theorem sameNN_al (x : Unit) : Shown (sameNNP.vc Try.prog (sameNN_C x) Try.f14 x) := ⟨@Eq.mp _ _ (by kernel_rfl) (sameNN_vc )⟩
theorem sameNN_ok : SpOk Try.prog 14 sameNNP.sp := @Pat.okS _ sameNNP Try.prog sameNN_C 14 Try.f14 (fun x => cfg_nil rfl) (by kernel_rfl) Try.func14 (fun _ => rfl) sameNN_al
theorem sameXN_ok : SpOk Try.prog 14 (altSp 0 (sameNNP.sp) (sameSNP.sp)) := altSp_ok sameNN_ok sameSN_ok

theorem sameXS_ok : SpOk Try.prog 14 (altSp 0 (sameNSP.sp) (sameP.sp)) := altSp_ok sameNS_ok same1_ok

theorem sameA_ok : SpOk Try.prog 14 (altSp 1 (altSp 0 (sameNNP.sp) (sameSNP.sp)) (altSp 0 (sameNSP.sp) (sameP.sp))) := altSp_ok sameXN_ok sameXS_ok

def aHas (i : Int) : Option Int := if i = 1 then some 9 else none
def aHas2 (i : Int) : Option Int := if i = 2 then some 3 else aHas i
def aHas3 (i : Int) : Option Int := if i = 1 then some 2 else aHas2 i
def aHas4 (i : Int) : Option Int := if i = 1 then none else aHas3 i
theorem aHas3_is {i q : Int} (h : aHas3 i = some q) : (i = 1 ∧ q = 2) ∨ (i = 2 ∧ q = 3) := by
  unfold aHas3 aHas2 aHas at h
  split at h
  · exact .inl ⟨by assumption, (Option.some.inj h).symm⟩
  · split at h
    · exact .inr ⟨by assumption, (Option.some.inj h).symm⟩
    · cases h
theorem HP.M_zero (h : HP) (hf : h.Full) (h0 : 0 < h.n) : h.M (h.id 0) = some (h.key 0) := hf.c.M_some h0
def alC (k : Nat) (m : Int → Option Int) (l : List (Nat × T)) : Fam where
  α := HP
  I h := h.Full ∧ h.n = k ∧ ∀ i, h.M i = m i
  st h := { sl := mkSl 80 ((1, p0 0) :: l), H := [h.me 1, h.row] }
  μ _ := 0
structure AL where
  h : HP
  d : Nat
def alL (k : Nat) (m : Int → Option Int) (l : List (Nat × T)) : Fam where
  α := AL
  I z := z.h.Full ∧ z.h.n = k ∧ ∀ i, z.h.M i = m i
  st z := { sl := mkSl 80 ((1, p0 0) :: (6, .slice 2 0 [] 0 1 2 z.d) :: l), H := [z.h.me 1, z.h.row, rowReg 3 2 1 z.d (fun j => .int .i64 ((j + 1 : Nat) : Int))] }
  μ _ := 0
def i0 (k : Nat) : Nat × T := (k, .int .i64 0)
def alK : Nat → Gam
  | 5 => .l [alC 1 aHas [i0 2]]
  | 6 => .l [alC 2 aHas2 [i0 2, i0 3]]
  | 7 => .l [alC 2 aHas3 [i0 2, i0 3, i0 4]]
  | 8 => .l [alC 2 aHas3 [i0 2, i0 3, i0 4, (5, .int .i64 13)]]
  | 9 => .l [alL 2 aHas3 [i0 2, i0 3, i0 4, (5, .int .i64 13)]]
  | 10 => .l [alL 1 aHas4 [i0 2, i0 3, i0 4, (5, .int .i64 13), (7, .int .i64 1), (8, .int .u64 2), (9, .tt)]]
  | 11 => .l [alL 1 aHas4 [i0 2, i0 3, i0 4, (5, .int .i64 13), (7, .int .i64 1), (8, .int .u64 2), (9, .tt), (10, .int .i64 12)]]
  | _ => .l []
def aliveP : Pat Unit where
  view | [], _ => some () | _, _ => none
  args _ := []
  H _ := []
  out _ := .retq .tt
def tAlive : Tab := [(8, newP.sp), (9, altH nilMe (pushNP.sp) (pushP.sp)), (12, altH nilMe (chgNP.sp) (chgP.sp)), (15, altH nilMe (listNP.sp) (listP.sp)), (10, altH nilMe (popNP.sp) (popP.sp)), (13, altH nilMe (remNP.sp) (remP.sp)), (11, altH nilMe (lenNP.sp) (lenP.sp)), (14, altSp 1 (altSp 0 (sameNNP.sp) (sameSNP.sp)) (altSp 0 (sameNSP.sp) (sameP.sp)))]
theorem tAlive_ok : TabOk Try.prog tAlive := (tab_cons new_ok (tab_cons pushA_ok (tab_cons chgA_ok (tab_cons listA_ok (tab_cons popA_ok (tab_cons remA_ok (tab_cons lenA_ok (tab_cons sameA_ok tab_nil))))))))

theorem alive_vc : True → (True ∧ True) ∧ ((((True ∧ True) ∧ (1 : Int) = (1 : Int) ∧ (9 : Int) = (9 : Int) ∧ True) ∧ ((65 : Nat) ≤ (65 : Nat) ∧ True ∧ ((64 : Nat) = (64 : Nat) ∧ ∀ (j : Nat), j < (64 : Nat) → a0 j = a0 j) ∧ True) ∧ True) ∧
  ((∀ (i : Nat), i < (64 : Nat) → a0 i = (0 : Int)) ∧ (0 : Int) ≤ (9 : Int) ∧ (9 : Int) < (18446744073709551616 : Int)) ∧ (¬((0 : Int) ≤ (1 : Int) ∧ (1 : Int) < (64 : Int)) → ∀ (v : Int), v = (11 : Int) → ∃ (y : HP),
  (y.Full ∧ y.n = (1 : Nat) ∧ ∀ (i : Int), y.M i = aHas i) ∧ False ∧ True) ∧ (¬¬((0 : Int) ≤ (1 : Int) ∧ (1 : Int) < (64 : Int)) → ∀ (x : HP), (x.Full ∧ x.n = (1 : Nat) ∧ ∀ (i : Int), x.M i = if i = (1 : Int) then some (9
  : Int) else none) → ∀ (v : Int), v = (0 : Int) → ∃ (y : HP), (y.Full ∧ y.n = (1 : Nat) ∧ ∀ (i : Int), y.M i = aHas i) ∧ (((True ∧ True) ∧ v = (0 : Int) ∧ True) ∧ ((65 : Nat) ≤ (65 : Nat) ∧ (True ∧ True ∧ (0 : Nat) = (0 :
  Nat) ∧ x.n = y.n ∧ x.cap = y.cap) ∧ ((64 : Nat) = (64 : Nat) ∧ ∀ (j : Nat), j < (64 : Nat) → x.at_ j = y.at_ j) ∧ True) ∧ (y.cap * (2 : Nat) ≤ x.cap * (2 : Nat) ∧ y.n ≤ x.n ∧ ∀ (j : Nat), j < y.n → x.id j = y.id j ∧
  x.key j = y.key j ∧ True) ∧ True) ∧ True)) ∧ ∀ (y : HP), (y.Full ∧ y.n = (1 : Nat) ∧ ∀ (i : Int), y.M i = aHas i) → ((((True ∧ True) ∧ (2 : Int) = (2 : Int) ∧ (3 : Int) = (3 : Int) ∧ True) ∧ ((65 : Nat) ≤ (65 : Nat) ∧
  (True ∧ True ∧ (0 : Nat) = (0 : Nat) ∧ y.n = y.n ∧ y.cap = y.cap) ∧ ((64 : Nat) = (64 : Nat) ∧ ∀ (j : Nat), j < (64 : Nat) → y.at_ j = y.at_ j) ∧ True) ∧ (y.cap * (2 : Nat) ≤ y.cap * (2 : Nat) ∧ y.n = y.n ∧ ∀ (j : Nat),
  j < y.n → y.id j = y.id j ∧ y.key j = y.key j ∧ True) ∧ True) ∧ (((HP.mk y.n y.cap (fun (j : Nat) => y.id j) (fun (j : Nat) => y.key j) y.at_).Full ∧ y.n ≤ (10000 : Nat)) ∧ (0 : Int) ≤ (3 : Int) ∧ (3 : Int) <
  (18446744073709551616 : Int)) ∧ (¬((0 : Int) ≤ (2 : Int) ∧ (2 : Int) < (64 : Int)) → ∀ (v : Int), v = (11 : Int) → ∃ (y_1 : HP), (y_1.Full ∧ y_1.n = (2 : Nat) ∧ ∀ (i : Int), y_1.M i = aHas2 i) ∧ (((True ∧ True) ∧ (0 :
  Int) = (0 : Int) ∧ v = (0 : Int) ∧ True) ∧ ((65 : Nat) ≤ (65 : Nat) ∧ (True ∧ True ∧ (0 : Nat) = (0 : Nat) ∧ y.n = y_1.n ∧ y.cap = y_1.cap) ∧ ((64 : Nat) = (64 : Nat) ∧ ∀ (j : Nat), j < (64 : Nat) → y.at_ j = y_1.at_ j)
  ∧ True) ∧ (y_1.cap * (2 : Nat) ≤ y.cap * (2 : Nat) ∧ y_1.n ≤ y.n ∧ ∀ (j : Nat), j < y_1.n → y.id j = y_1.id j ∧ y.key j = y_1.key j ∧ True) ∧ True) ∧ True) ∧ (¬¬((0 : Int) ≤ (2 : Int) ∧ (2 : Int) < (64 : Int)) → ((HP.mk
  y.n y.cap (fun (j : Nat) => y.id j) (fun (j : Nat) => y.key j) y.at_).M (2 : Int) ≠ none → ∀ (v : Int), v = (13 : Int) → ∃ (y_1 : HP), (y_1.Full ∧ y_1.n = (2 : Nat) ∧ ∀ (i : Int), y_1.M i = aHas2 i) ∧ (((True ∧ True) ∧
  (0 : Int) = (0 : Int) ∧ v = (0 : Int) ∧ True) ∧ ((65 : Nat) ≤ (65 : Nat) ∧ (True ∧ True ∧ (0 : Nat) = (0 : Nat) ∧ y.n = y_1.n ∧ y.cap = y_1.cap) ∧ ((64 : Nat) = (64 : Nat) ∧ ∀ (j : Nat), j < (64 : Nat) → y.at_ j =
  y_1.at_ j) ∧ True) ∧ (y_1.cap * (2 : Nat) ≤ y.cap * (2 : Nat) ∧ y_1.n ≤ y.n ∧ ∀ (j : Nat), j < y_1.n → y.id j = y_1.id j ∧ y.key j = y_1.key j ∧ True) ∧ True) ∧ True) ∧ (¬(HP.mk y.n y.cap (fun (j : Nat) => y.id j) (fun
  (j : Nat) => y.key j) y.at_).M (2 : Int) ≠ none → ∀ (x : HP), (x.Full ∧ x.n = y.n + (1 : Nat) ∧ ∀ (i : Int), x.M i = if i = (2 : Int) then some (3 : Int) else (HP.mk y.n y.cap (fun (j : Nat) => y.id j) (fun (j : Nat) =>
  y.key j) y.at_).M i) → ∀ (v : Int), v = (0 : Int) → ∃ (y : HP), (y.Full ∧ y.n = (2 : Nat) ∧ ∀ (i : Int), y.M i = aHas2 i) ∧ (((True ∧ True) ∧ (0 : Int) = (0 : Int) ∧ v = (0 : Int) ∧ True) ∧ ((65 : Nat) ≤ (65 : Nat) ∧
  (True ∧ True ∧ (0 : Nat) = (0 : Nat) ∧ x.n = y.n ∧ x.cap = y.cap) ∧ ((64 : Nat) = (64 : Nat) ∧ ∀ (j : Nat), j < (64 : Nat) → x.at_ j = y.at_ j) ∧ True) ∧ (y.cap * (2 : Nat) ≤ x.cap * (2 : Nat) ∧ y.n ≤ x.n ∧ ∀ (j : Nat),
  j < y.n → x.id j = y.id j ∧ x.key j = y.key j ∧ True) ∧ True) ∧ True))) ∧ ∀ (y : HP), (y.Full ∧ y.n = (2 : Nat) ∧ ∀ (i : Int), y.M i = aHas2 i) → ((((True ∧ True) ∧ (1 : Int) = (1 : Int) ∧ (2 : Int) = (2 : Int) ∧ True) ∧
  ((65 : Nat) ≤ (65 : Nat) ∧ (True ∧ True ∧ (0 : Nat) = (0 : Nat) ∧ y.n = y.n ∧ y.cap = y.cap) ∧ ((64 : Nat) = (64 : Nat) ∧ ∀ (j : Nat), j < (64 : Nat) → y.at_ j = y.at_ j) ∧ True) ∧ (y.cap * (2 : Nat) ≤ y.cap * (2 : Nat)
  ∧ y.n = y.n ∧ ∀ (j : Nat), j < y.n → y.id j = y.id j ∧ y.key j = y.key j ∧ True) ∧ True) ∧ (((HP.mk y.n y.cap (fun (j : Nat) => y.id j) (fun (j : Nat) => y.key j) y.at_).Full ∧ y.n ≤ (10000 : Nat)) ∧ (0 : Int) ≤ (2 :
  Int) ∧ (2 : Int) < (18446744073709551616 : Int)) ∧ (¬((0 : Int) ≤ (1 : Int) ∧ (1 : Int) < (64 : Int)) → ∀ (v : Int), v = (11 : Int) → ∃ (y_1 : HP), (y_1.Full ∧ y_1.n = (2 : Nat) ∧ ∀ (i : Int), y_1.M i = aHas3 i) ∧
  (((True ∧ True) ∧ (0 : Int) = (0 : Int) ∧ (0 : Int) = (0 : Int) ∧ v = (0 : Int) ∧ True) ∧ ((65 : Nat) ≤ (65 : Nat) ∧ (True ∧ True ∧ (0 : Nat) = (0 : Nat) ∧ y.n = y_1.n ∧ y.cap = y_1.cap) ∧ ((64 : Nat) = (64 : Nat) ∧ ∀ (j
  : Nat), j < (64 : Nat) → y.at_ j = y_1.at_ j) ∧ True) ∧ (y_1.cap * (2 : Nat) ≤ y.cap * (2 : Nat) ∧ y_1.n ≤ y.n ∧ ∀ (j : Nat), j < y_1.n → y.id j = y_1.id j ∧ y.key j = y_1.key j ∧ True) ∧ True) ∧ True) ∧ (¬¬((0 : Int) ≤
  (1 : Int) ∧ (1 : Int) < (64 : Int)) → ((HP.mk y.n y.cap (fun (j : Nat) => y.id j) (fun (j : Nat) => y.key j) y.at_).M (1 : Int) = none → ∀ (v : Int), v = (12 : Int) → ∃ (y_1 : HP), (y_1.Full ∧ y_1.n = (2 : Nat) ∧ ∀ (i :
  Int), y_1.M i = aHas3 i) ∧ (((True ∧ True) ∧ (0 : Int) = (0 : Int) ∧ (0 : Int) = (0 : Int) ∧ v = (0 : Int) ∧ True) ∧ ((65 : Nat) ≤ (65 : Nat) ∧ (True ∧ True ∧ (0 : Nat) = (0 : Nat) ∧ y.n = y_1.n ∧ y.cap = y_1.cap) ∧ ((64
  : Nat) = (64 : Nat) ∧ ∀ (j : Nat), j < (64 : Nat) → y.at_ j = y_1.at_ j) ∧ True) ∧ (y_1.cap * (2 : Nat) ≤ y.cap * (2 : Nat) ∧ y_1.n ≤ y.n ∧ ∀ (j : Nat), j < y_1.n → y.id j = y_1.id j ∧ y.key j = y_1.key j ∧ True) ∧ True)
  ∧ True) ∧ (¬(HP.mk y.n y.cap (fun (j : Nat) => y.id j) (fun (j : Nat) => y.key j) y.at_).M (1 : Int) = none → ∀ (x : HP), (x.Full ∧ (x.n = y.n ∧ x.cap = y.cap) ∧ ∀ (i : Int), x.M i = if i = (1 : Int) then some (2 : Int)
  else (HP.mk y.n y.cap (fun (j : Nat) => y.id j) (fun (j : Nat) => y.key j) y.at_).M i) → ∀ (v : Int), v = (0 : Int) → ∃ (y_1 : HP), (y_1.Full ∧ y_1.n = (2 : Nat) ∧ ∀ (i : Int), y_1.M i = aHas3 i) ∧ (((True ∧ True) ∧ (0 :
  Int) = (0 : Int) ∧ (0 : Int) = (0 : Int) ∧ v = (0 : Int) ∧ True) ∧ ((65 : Nat) ≤ (65 : Nat) ∧ (True ∧ True ∧ (0 : Nat) = (0 : Nat) ∧ x.n = y_1.n ∧ x.cap = y_1.cap) ∧ ((64 : Nat) = (64 : Nat) ∧ ∀ (j : Nat), j < (64 : Nat)
  → x.at_ j = y_1.at_ j) ∧ True) ∧ (y_1.cap * (2 : Nat) ≤ y.cap * (2 : Nat) ∧ y_1.n ≤ x.n ∧ ∀ (j : Nat), j < y_1.n → x.id j = y_1.id j ∧ x.key j = y_1.key j ∧ True) ∧ True) ∧ True))) ∧ ∀ (y : HP), (y.Full ∧ y.n = (2 : Nat)
  ∧ ∀ (i : Int), y.M i = aHas3 i) → ((((True ∧ True) ∧ (1 : Int) = (1 : Int) ∧ (1 : Int) = (1 : Int) ∧ True) ∧ ((65 : Nat) ≤ (65 : Nat) ∧ (True ∧ True ∧ (0 : Nat) = (0 : Nat) ∧ y.n = y.n ∧ y.cap = y.cap) ∧ ((64 : Nat) =
  (64 : Nat) ∧ ∀ (j : Nat), j < (64 : Nat) → y.at_ j = y.at_ j) ∧ True) ∧ (y.cap * (2 : Nat) ≤ y.cap * (2 : Nat) ∧ y.n = y.n ∧ ∀ (j : Nat), j < y.n → y.id j = y.id j ∧ y.key j = y.key j ∧ True) ∧ True) ∧ (((HP.mk y.n y.cap
  (fun (j : Nat) => y.id j) (fun (j : Nat) => y.key j) y.at_).Full ∧ y.n ≤ (10000 : Nat)) ∧ (0 : Int) ≤ (1 : Int) ∧ (1 : Int) < (18446744073709551616 : Int)) ∧ (¬((0 : Int) ≤ (1 : Int) ∧ (1 : Int) < (64 : Int)) → ∀ (v :
  Int), v = (11 : Int) → ∃ (y_1 : HP), (y_1.Full ∧ y_1.n = (2 : Nat) ∧ ∀ (i : Int), y_1.M i = aHas3 i) ∧ (((True ∧ True) ∧ (0 : Int) = (0 : Int) ∧ (0 : Int) = (0 : Int) ∧ (0 : Int) = (0 : Int) ∧ v = (13 : Int) ∧ True) ∧
  ((65 : Nat) ≤ (65 : Nat) ∧ (True ∧ True ∧ (0 : Nat) = (0 : Nat) ∧ y.n = y_1.n ∧ y.cap = y_1.cap) ∧ ((64 : Nat) = (64 : Nat) ∧ ∀ (j : Nat), j < (64 : Nat) → y.at_ j = y_1.at_ j) ∧ True) ∧ (y_1.cap * (2 : Nat) ≤ y.cap * (2
  : Nat) ∧ y_1.n ≤ y.n ∧ ∀ (j : Nat), j < y_1.n → y.id j = y_1.id j ∧ y.key j = y_1.key j ∧ True) ∧ True) ∧ True) ∧ (¬¬((0 : Int) ≤ (1 : Int) ∧ (1 : Int) < (64 : Int)) → ((HP.mk y.n y.cap (fun (j : Nat) => y.id j) (fun (j
  : Nat) => y.key j) y.at_).M (1 : Int) ≠ none → ∀ (v : Int), v = (13 : Int) → ∃ (y_1 : HP), (y_1.Full ∧ y_1.n = (2 : Nat) ∧ ∀ (i : Int), y_1.M i = aHas3 i) ∧ (((True ∧ True) ∧ (0 : Int) = (0 : Int) ∧ (0 : Int) = (0 : Int)
  ∧ (0 : Int) = (0 : Int) ∧ v = (13 : Int) ∧ True) ∧ ((65 : Nat) ≤ (65 : Nat) ∧ (True ∧ True ∧ (0 : Nat) = (0 : Nat) ∧ y.n = y_1.n ∧ y.cap = y_1.cap) ∧ ((64 : Nat) = (64 : Nat) ∧ ∀ (j : Nat), j < (64 : Nat) → y.at_ j =
  y_1.at_ j) ∧ True) ∧ (y_1.cap * (2 : Nat) ≤ y.cap * (2 : Nat) ∧ y_1.n ≤ y.n ∧ ∀ (j : Nat), j < y_1.n → y.id j = y_1.id j ∧ y.key j = y_1.key j ∧ True) ∧ True) ∧ True) ∧ (¬(HP.mk y.n y.cap (fun (j : Nat) => y.id j) (fun
  (j : Nat) => y.key j) y.at_).M (1 : Int) ≠ none → ∀ (x : HP), (x.Full ∧ x.n = y.n + (1 : Nat) ∧ ∀ (i : Int), x.M i = if i = (1 : Int) then some (1 : Int) else (HP.mk y.n y.cap (fun (j : Nat) => y.id j) (fun (j : Nat) =>
  y.key j) y.at_).M i) → ∀ (v : Int), v = (0 : Int) → ∃ (y : HP), (y.Full ∧ y.n = (2 : Nat) ∧ ∀ (i : Int), y.M i = aHas3 i) ∧ (((True ∧ True) ∧ (0 : Int) = (0 : Int) ∧ (0 : Int) = (0 : Int) ∧ (0 : Int) = (0 : Int) ∧ v =
  (13 : Int) ∧ True) ∧ ((65 : Nat) ≤ (65 : Nat) ∧ (True ∧ True ∧ (0 : Nat) = (0 : Nat) ∧ x.n = y.n ∧ x.cap = y.cap) ∧ ((64 : Nat) = (64 : Nat) ∧ ∀ (j : Nat), j < (64 : Nat) → x.at_ j = y.at_ j) ∧ True) ∧ (y.cap * (2 : Nat)
  ≤ x.cap * (2 : Nat) ∧ y.n ≤ x.n ∧ ∀ (j : Nat), j < y.n → x.id j = y.id j ∧ x.key j = y.key j ∧ True) ∧ True) ∧ True))) ∧ ∀ (y : HP), (y.Full ∧ y.n = (2 : Nat) ∧ ∀ (i : Int), y.M i = aHas3 i) → ((((True ∧ True) ∧ True) ∧
  ((65 : Nat) ≤ (65 : Nat) ∧ (True ∧ True ∧ (0 : Nat) = (0 : Nat) ∧ y.n = y.n ∧ y.cap = y.cap) ∧ ((64 : Nat) = (64 : Nat) ∧ ∀ (j : Nat), j < (64 : Nat) → y.at_ j = y.at_ j) ∧ True) ∧ (y.cap * (2 : Nat) ≤ y.cap * (2 : Nat)
  ∧ y.n = y.n ∧ ∀ (j : Nat), j < y.n → y.id j = y.id j ∧ y.key j = y.key j ∧ True) ∧ True) ∧ y.n ≤ (1000 : Nat) ∧ (y.n = (0 : Nat) → ∃ (y : AL), (y.h.Full ∧ y.h.n = (2 : Nat) ∧ ∀ (i : Int), y.h.M i = aHas3 i) ∧ False ∧
  True) ∧ (¬y.n = (0 : Nat) → ∀ (x : (Nat → It) × Nat), Srt y.n (HP.mk y.n y.cap (fun (j : Nat) => y.id j) (fun (j : Nat) => y.key j) y.at_).f x.fst ∧ y.n ≤ x.snd → ∃ (y_1 : AL), (y_1.h.Full ∧ y_1.h.n = (2 : Nat) ∧ ∀ (i :
  Int), y_1.h.M i = aHas3 i) ∧ (((True ∧ True) ∧ (0 : Int) = (0 : Int) ∧ (0 : Int) = (0 : Int) ∧ (0 : Int) = (0 : Int) ∧ (13 : Int) = (13 : Int) ∧ (True ∧ True ∧ (0 : Nat) = (0 : Nat) ∧ y.n = (2 : Nat) ∧ x.snd = y_1.d) ∧
  True) ∧ ((65 : Nat) ≤ (65 : Nat) ∧ (True ∧ True ∧ (0 : Nat) = (0 : Nat) ∧ y.n = y_1.h.n ∧ y.cap = y_1.h.cap) ∧ ((64 : Nat) = (64 : Nat) ∧ ∀ (j : Nat), j < (64 : Nat) → y.at_ j = y_1.h.at_ j) ∧ True) ∧ (y_1.h.cap * (2 :
  Nat) ≤ y.cap * (2 : Nat) ∧ y_1.h.n ≤ y.n ∧ ∀ (j : Nat), j < y_1.h.n → y.id j = y_1.h.id j ∧ y.key j = y_1.h.key j ∧ True) ∧ (y_1.d * (1 : Nat) ≤ x.snd * (1 : Nat) ∧ (2 : Nat) = y.n ∧ ∀ (j : Nat), j < y.n → (x.fst j).fst
  = (↑(j + (1 : Nat)) : Int)) ∧ True) ∧ True)) ∧ ∀ (y : AL), (y.h.Full ∧ y.h.n = (2 : Nat) ∧ ∀ (i : Int), y.h.M i = aHas3 i) → ((((True ∧ True) ∧ True) ∧ ((65 : Nat) ≤ (65 : Nat) ∧ (True ∧ True ∧ (0 : Nat) = (0 : Nat) ∧
  y.h.n = y.h.n ∧ y.h.cap = y.h.cap) ∧ ((64 : Nat) = (64 : Nat) ∧ ∀ (j : Nat), j < (64 : Nat) → y.h.at_ j = y.h.at_ j) ∧ True) ∧ (y.h.cap * (2 : Nat) ≤ y.h.cap * (2 : Nat) ∧ y.h.n = y.h.n ∧ ∀ (j : Nat), j < y.h.n → y.h.id
  j = y.h.id j ∧ y.h.key j = y.h.key j ∧ True) ∧ True) ∧ ((HP.mk y.h.n y.h.cap (fun (j : Nat) => y.h.id j) (fun (j : Nat) => y.h.key j) y.h.at_).Full ∧ y.h.n ≤ (10000 : Nat)) ∧ (y.h.n = (0 : Nat) → ∀ (v : Int), v = (-1 :
  Int) → ∀ (v_1 : Int), v_1 = (0 : Int) → ∃ (y_1 : AL), (y_1.h.Full ∧ y_1.h.n = (1 : Nat) ∧ ∀ (i : Int), y_1.h.M i = aHas4 i) ∧ (((True ∧ True) ∧ (0 : Int) = (0 : Int) ∧ (0 : Int) = (0 : Int) ∧ (0 : Int) = (0 : Int) ∧ (13
  : Int) = (13 : Int) ∧ (True ∧ True ∧ (0 : Nat) = (0 : Nat) ∧ (2 : Nat) = (2 : Nat) ∧ y.d = y_1.d) ∧ v = (1 : Int) ∧ v_1 = (2 : Int) ∧ false = true ∧ True) ∧ ((65 : Nat) ≤ (65 : Nat) ∧ (True ∧ True ∧ (0 : Nat) = (0 : Nat)
  ∧ y.h.n = y_1.h.n ∧ y.h.cap = y_1.h.cap) ∧ ((64 : Nat) = (64 : Nat) ∧ ∀ (j : Nat), j < (64 : Nat) → y.h.at_ j = y_1.h.at_ j) ∧ True) ∧ (y_1.h.cap * (2 : Nat) ≤ y.h.cap * (2 : Nat) ∧ y_1.h.n ≤ y.h.n ∧ ∀ (j : Nat), j <
  y_1.h.n → y.h.id j = y_1.h.id j ∧ y.h.key j = y_1.h.key j ∧ True) ∧ (y_1.d * (1 : Nat) ≤ y.d * (1 : Nat) ∧ (2 : Nat) = (2 : Nat) ∧ ∀ (j : Nat), j < (2 : Nat) → (↑(j + (1 : Nat)) : Int) = (↑(j + (1 : Nat)) : Int)) ∧ True)
  ∧ True) ∧ (¬y.h.n = (0 : Nat) → ∀ (x : HP), (x.Full ∧ (x.n = y.h.n - (1 : Nat) ∧ x.cap = y.h.cap) ∧ ∀ (i : Int), x.M i = if i = y.h.id (0 : Nat) then none else (HP.mk y.h.n y.h.cap (fun (j : Nat) => y.h.id j) (fun (j :
  Nat) => y.h.key j) y.h.at_).M i) → ∀ (v : Int), v = y.h.id (0 : Nat) → ∀ (v_1 : Int), v_1 = y.h.key (0 : Nat) → ∃ (y_1 : AL), (y_1.h.Full ∧ y_1.h.n = (1 : Nat) ∧ ∀ (i : Int), y_1.h.M i = aHas4 i) ∧ (((True ∧ True) ∧ (0 :
  Int) = (0 : Int) ∧ (0 : Int) = (0 : Int) ∧ (0 : Int) = (0 : Int) ∧ (13 : Int) = (13 : Int) ∧ (True ∧ True ∧ (0 : Nat) = (0 : Nat) ∧ (2 : Nat) = (2 : Nat) ∧ y.d = y_1.d) ∧ v = (1 : Int) ∧ v_1 = (2 : Int) ∧ true = true ∧
  True) ∧ ((65 : Nat) ≤ (65 : Nat) ∧ (True ∧ True ∧ (0 : Nat) = (0 : Nat) ∧ x.n = y_1.h.n ∧ x.cap = y_1.h.cap) ∧ ((64 : Nat) = (64 : Nat) ∧ ∀ (j : Nat), j < (64 : Nat) → x.at_ j = y_1.h.at_ j) ∧ True) ∧ (y_1.h.cap * (2 :
  Nat) ≤ y.h.cap * (2 : Nat) ∧ y_1.h.n ≤ x.n ∧ ∀ (j : Nat), j < y_1.h.n → x.id j = y_1.h.id j ∧ x.key j = y_1.h.key j ∧ True) ∧ (y_1.d * (1 : Nat) ≤ y.d * (1 : Nat) ∧ (2 : Nat) = (2 : Nat) ∧ ∀ (j : Nat), j < (2 : Nat) →
  (↑(j + (1 : Nat)) : Int) = (↑(j + (1 : Nat)) : Int)) ∧ True) ∧ True)) ∧ ∀ (y : AL), (y.h.Full ∧ y.h.n = (1 : Nat) ∧ ∀ (i : Int), y.h.M i = aHas4 i) → ((((True ∧ True) ∧ (1 : Int) = (1 : Int) ∧ (2 : Int) = (2 : Int) ∧
  True) ∧ ((65 : Nat) ≤ (65 : Nat) ∧ (True ∧ True ∧ (0 : Nat) = (0 : Nat) ∧ y.h.n = y.h.n ∧ y.h.cap = y.h.cap) ∧ ((64 : Nat) = (64 : Nat) ∧ ∀ (j : Nat), j < (64 : Nat) → y.h.at_ j = y.h.at_ j) ∧ True) ∧ (y.h.cap * (2 :
  Nat) ≤ y.h.cap * (2 : Nat) ∧ y.h.n = y.h.n ∧ ∀ (j : Nat), j < y.h.n → y.h.id j = y.h.id j ∧ y.h.key j = y.h.key j ∧ True) ∧ True) ∧ (((HP.mk y.h.n y.h.cap (fun (j : Nat) => y.h.id j) (fun (j : Nat) => y.h.key j)
  y.h.at_).Full ∧ y.h.n ≤ (10000 : Nat)) ∧ (0 : Int) ≤ (2 : Int) ∧ (2 : Int) < (18446744073709551616 : Int)) ∧ (¬((0 : Int) ≤ (1 : Int) ∧ (1 : Int) < (64 : Int)) → ∀ (v : Int), v = (11 : Int) → ∃ (y_1 : AL), (y_1.h.Full ∧
  y_1.h.n = (1 : Nat) ∧ ∀ (i : Int), y_1.h.M i = aHas4 i) ∧ (((True ∧ True) ∧ (0 : Int) = (0 : Int) ∧ (0 : Int) = (0 : Int) ∧ (0 : Int) = (0 : Int) ∧ (13 : Int) = (13 : Int) ∧ (True ∧ True ∧ (0 : Nat) = (0 : Nat) ∧ (2 :
  Nat) = (2 : Nat) ∧ y.d = y_1.d) ∧ (1 : Int) = (1 : Int) ∧ (2 : Int) = (2 : Int) ∧ True ∧ v = (12 : Int) ∧ True) ∧ ((65 : Nat) ≤ (65 : Nat) ∧ (True ∧ True ∧ (0 : Nat) = (0 : Nat) ∧ y.h.n = y_1.h.n ∧ y.h.cap = y_1.h.cap) ∧
  ((64 : Nat) = (64 : Nat) ∧ ∀ (j : Nat), j < (64 : Nat) → y.h.at_ j = y_1.h.at_ j) ∧ True) ∧ (y_1.h.cap * (2 : Nat) ≤ y.h.cap * (2 : Nat) ∧ y_1.h.n ≤ y.h.n ∧ ∀ (j : Nat), j < y_1.h.n → y.h.id j = y_1.h.id j ∧ y.h.key j =
  y_1.h.key j ∧ True) ∧ (y_1.d * (1 : Nat) ≤ y.d * (1 : Nat) ∧ (2 : Nat) = (2 : Nat) ∧ ∀ (j : Nat), j < (2 : Nat) → (↑(j + (1 : Nat)) : Int) = (↑(j + (1 : Nat)) : Int)) ∧ True) ∧ True) ∧ (¬¬((0 : Int) ≤ (1 : Int) ∧ (1 :
  Int) < (64 : Int)) → ((HP.mk y.h.n y.h.cap (fun (j : Nat) => y.h.id j) (fun (j : Nat) => y.h.key j) y.h.at_).M (1 : Int) = none → ∀ (v : Int), v = (12 : Int) → ∃ (y_1 : AL), (y_1.h.Full ∧ y_1.h.n = (1 : Nat) ∧ ∀ (i :
  Int), y_1.h.M i = aHas4 i) ∧ (((True ∧ True) ∧ (0 : Int) = (0 : Int) ∧ (0 : Int) = (0 : Int) ∧ (0 : Int) = (0 : Int) ∧ (13 : Int) = (13 : Int) ∧ (True ∧ True ∧ (0 : Nat) = (0 : Nat) ∧ (2 : Nat) = (2 : Nat) ∧ y.d = y_1.d)
  ∧ (1 : Int) = (1 : Int) ∧ (2 : Int) = (2 : Int) ∧ True ∧ v = (12 : Int) ∧ True) ∧ ((65 : Nat) ≤ (65 : Nat) ∧ (True ∧ True ∧ (0 : Nat) = (0 : Nat) ∧ y.h.n = y_1.h.n ∧ y.h.cap = y_1.h.cap) ∧ ((64 : Nat) = (64 : Nat) ∧ ∀ (j
  : Nat), j < (64 : Nat) → y.h.at_ j = y_1.h.at_ j) ∧ True) ∧ (y_1.h.cap * (2 : Nat) ≤ y.h.cap * (2 : Nat) ∧ y_1.h.n ≤ y.h.n ∧ ∀ (j : Nat), j < y_1.h.n → y.h.id j = y_1.h.id j ∧ y.h.key j = y_1.h.key j ∧ True) ∧ (y_1.d *
  (1 : Nat) ≤ y.d * (1 : Nat) ∧ (2 : Nat) = (2 : Nat) ∧ ∀ (j : Nat), j < (2 : Nat) → (↑(j + (1 : Nat)) : Int) = (↑(j + (1 : Nat)) : Int)) ∧ True) ∧ True) ∧ (¬(HP.mk y.h.n y.h.cap (fun (j : Nat) => y.h.id j) (fun (j : Nat)
  => y.h.key j) y.h.at_).M (1 : Int) = none → ∀ (x : HP), (x.Full ∧ (x.n = y.h.n ∧ x.cap = y.h.cap) ∧ ∀ (i : Int), x.M i = if i = (1 : Int) then some (2 : Int) else (HP.mk y.h.n y.h.cap (fun (j : Nat) => y.h.id j) (fun (j
  : Nat) => y.h.key j) y.h.at_).M i) → ∀ (v : Int), v = (0 : Int) → ∃ (y_1 : AL), (y_1.h.Full ∧ y_1.h.n = (1 : Nat) ∧ ∀ (i : Int), y_1.h.M i = aHas4 i) ∧ (((True ∧ True) ∧ (0 : Int) = (0 : Int) ∧ (0 : Int) = (0 : Int) ∧ (0
  : Int) = (0 : Int) ∧ (13 : Int) = (13 : Int) ∧ (True ∧ True ∧ (0 : Nat) = (0 : Nat) ∧ (2 : Nat) = (2 : Nat) ∧ y.d = y_1.d) ∧ (1 : Int) = (1 : Int) ∧ (2 : Int) = (2 : Int) ∧ True ∧ v = (12 : Int) ∧ True) ∧ ((65 : Nat) ≤
  (65 : Nat) ∧ (True ∧ True ∧ (0 : Nat) = (0 : Nat) ∧ x.n = y_1.h.n ∧ x.cap = y_1.h.cap) ∧ ((64 : Nat) = (64 : Nat) ∧ ∀ (j : Nat), j < (64 : Nat) → x.at_ j = y_1.h.at_ j) ∧ True) ∧ (y_1.h.cap * (2 : Nat) ≤ y.h.cap * (2 :
  Nat) ∧ y_1.h.n ≤ x.n ∧ ∀ (j : Nat), j < y_1.h.n → x.id j = y_1.h.id j ∧ x.key j = y_1.h.key j ∧ True) ∧ (y_1.d * (1 : Nat) ≤ y.d * (1 : Nat) ∧ (2 : Nat) = (2 : Nat) ∧ ∀ (j : Nat), j < (2 : Nat) → (↑(j + (1 : Nat)) : Int)
  = (↑(j + (1 : Nat)) : Int)) ∧ True) ∧ True))) ∧ ∀ (y : AL), (y.h.Full ∧ y.h.n = (1 : Nat) ∧ ∀ (i : Int), y.h.M i = aHas4 i) → (((0 : Int) == (0 : Int)) = true → (((0 : Int) == (0 : Int)) = true → (((0 : Int) == (0 :
  Int)) = true → (((13 : Int) == (13 : Int)) = true → (((1 : Int) == (1 : Int)) = true → (((2 : Int) == (2 : Int)) = true → (((12 : Int) == (12 : Int)) = true → (((True ∧ True ∧ (0 : Nat) = (0 : Nat) ∧ (2 : Nat) = (2 :
  Nat) ∧ y.d = y.d) ∧ (True ∧ True ∧ (0 : Nat) = (0 : Nat) ∧ (2 : Nat) = (2 : Nat) ∧ (2 : Nat) = (2 : Nat)) ∧ True) ∧ (y.d * (1 : Nat) ≤ y.d * (1 : Nat) ∧ (2 : Nat) = (2 : Nat) ∧ ∀ (j : Nat), j < (2 : Nat) → (↑(j + (1 :
  Nat)) : Int) = (↑(j + (1 : Nat)) : Int)) ∧ ((2 : Nat) ≤ (2 : Nat) ∧ (2 : Nat) = (2 : Nat) ∧ ∀ (j : Nat), j < (2 : Nat) → (bif j.beq (0 : Nat) then (1 : Int) else (2 : Int)) = bif j.beq (0 : Nat) then (1 : Int) else (2 :
  Int)) ∧ True) ∧ (2 : Nat) ≤ (1000000 : Nat) ∧ ((2 : Nat) = (2 : Nat) → ((sameB (2 : Nat) (fun (j : Nat) => (↑(j + (1 : Nat)) : Int)) fun (j : Nat) => bif j.beq (0 : Nat) then (1 : Int) else (2 : Int)) = true → (((True ∧
  True) ∧ True) ∧ ((65 : Nat) ≤ (65 : Nat) ∧ (True ∧ True ∧ (0 : Nat) = (0 : Nat) ∧ y.h.n = y.h.n ∧ y.h.cap = y.h.cap) ∧ ((64 : Nat) = (64 : Nat) ∧ ∀ (j : Nat), j < (64 : Nat) → y.h.at_ j = y.h.at_ j) ∧ True) ∧ (y.h.cap *
  (2 : Nat) ≤ y.h.cap * (2 : Nat) ∧ y.h.n = y.h.n ∧ ∀ (j : Nat), j < y.h.n → y.h.id j = y.h.id j ∧ y.h.key j = y.h.key j ∧ True) ∧ True) ∧ (((↑y.h.n : Int) == (1 : Int)) = true → (((True ∧ True) ∧ (2 : Int) = (2 : Int) ∧
  True) ∧ ((65 : Nat) ≤ (65 : Nat) ∧ (True ∧ True ∧ (0 : Nat) = (0 : Nat) ∧ y.h.n = y.h.n ∧ y.h.cap = y.h.cap) ∧ ((64 : Nat) = (64 : Nat) ∧ ∀ (j : Nat), j < (64 : Nat) → y.h.at_ j = y.h.at_ j) ∧ True) ∧ (y.h.cap * (2 :
  Nat) ≤ y.h.cap * (2 : Nat) ∧ y.h.n = y.h.n ∧ ∀ (j : Nat), j < y.h.n → y.h.id j = y.h.id j ∧ y.h.key j = y.h.key j ∧ True) ∧ True) ∧ ((HP.mk y.h.n y.h.cap (fun (j : Nat) => y.h.id j) (fun (j : Nat) => y.h.key j)
  y.h.at_).Full ∧ y.h.n ≤ (10000 : Nat)) ∧ ((HP.mk y.h.n y.h.cap (fun (j : Nat) => y.h.id j) (fun (j : Nat) => y.h.key j) y.h.at_).M (2 : Int) = none → False ∧ True ∧ True) ∧ (¬(HP.mk y.h.n y.h.cap (fun (j : Nat) => y.h.id
  j) (fun (j : Nat) => y.h.key j) y.h.at_).M (2 : Int) = none → ∀ (x : HP), (x.Full ∧ (x.n = y.h.n - (1 : Nat) ∧ x.cap = y.h.cap) ∧ ∀ (i : Int), x.M i = if i = (2 : Int) then none else (HP.mk y.h.n y.h.cap (fun (j : Nat)
  => y.h.id j) (fun (j : Nat) => y.h.key j) y.h.at_).M i) → (((True ∧ True) ∧ (2 : Int) = (2 : Int) ∧ True) ∧ ((65 : Nat) ≤ (65 : Nat) ∧ (True ∧ True ∧ (0 : Nat) = (0 : Nat) ∧ x.n = x.n ∧ x.cap = x.cap) ∧ ((64 : Nat) = (64
  : Nat) ∧ ∀ (j : Nat), j < (64 : Nat) → x.at_ j = x.at_ j) ∧ True) ∧ (x.cap * (2 : Nat) ≤ y.h.cap * (2 : Nat) ∧ x.n = x.n ∧ ∀ (j : Nat), j < x.n → x.id j = x.id j ∧ x.key j = x.key j ∧ True) ∧ True) ∧ ((HP.mk x.n x.cap
  (fun (j : Nat) => x.id j) (fun (j : Nat) => x.key j) x.at_).Full ∧ x.n ≤ (10000 : Nat)) ∧ ((HP.mk x.n x.cap (fun (j : Nat) => x.id j) (fun (j : Nat) => x.key j) x.at_).M (2 : Int) = none → True ∧ True ∧ True) ∧ (¬(HP.mk
  x.n x.cap (fun (j : Nat) => x.id j) (fun (j : Nat) => x.key j) x.at_).M (2 : Int) = none → ∀ (x_1 : HP), (x_1.Full ∧ (x_1.n = x.n - (1 : Nat) ∧ x_1.cap = x.cap) ∧ ∀ (i : Int), x_1.M i = if i = (2 : Int) then none else
  (HP.mk x.n x.cap (fun (j : Nat) => x.id j) (fun (j : Nat) => x.key j) x.at_).M i) → False ∧ True ∧ True))) ∧ (((↑y.h.n : Int) == (1 : Int)) = false → False ∧ True ∧ True)) ∧ ((sameB (2 : Nat) (fun (j : Nat) => (↑(j + (1
  : Nat)) : Int)) fun (j : Nat) => bif j.beq (0 : Nat) then (1 : Int) else (2 : Int)) = false → False ∧ True ∧ True)) ∧ (¬(2 : Nat) = (2 : Nat) → False ∧ True ∧ True)) ∧ (((12 : Int) == (12 : Int)) = false → False ∧ True ∧
  True)) ∧ (((2 : Int) == (2 : Int)) = false → False ∧ True ∧ True)) ∧ (((1 : Int) == (1 : Int)) = false → False ∧ True ∧ True)) ∧ (((13 : Int) == (13 : Int)) = false → False ∧ True ∧ True)) ∧ (((0 : Int) == (0 : Int)) =
  false → False ∧ True ∧ True)) ∧ (((0 : Int) == (0 : Int)) = false → False ∧ True ∧ True)) ∧ (((0 : Int) == (0 : Int)) = false → False ∧ True ∧ True) := by
  simp only [true_and, and_true, eq_self, Nat.le_refl, beq_iff_eq, beq_eq_false_iff_ne, implies_true, true_implies, and_self, ne_eq, cond_nbeq]
  simp only [HP.eta]
  refine ⟨?_, fun h1 H1 => ⟨?_, fun h2 H2 => ⟨?_, fun h3 H3 => ⟨?_, fun h4 H4 => ⟨?_, fun h5 H5 => ⟨?_, fun h6 H6 => ⟨?_, fun h7 H7 => ?_⟩⟩⟩⟩⟩⟩⟩
  · exact ⟨⟨fun _ _ => rfl, by decide, by decide⟩, fun h => absurd (by decide) h, fun _ x hx v hv => ⟨x, hx, hv, ⟨⟨⟨rfl, rfl⟩, fun _ _ => rfl⟩, Nat.le_refl _, Nat.le_refl _, fun _ _ => ⟨rfl, rfl⟩⟩⟩⟩
  · exact ⟨⟨⟨H1.1, by omega⟩, by decide, by decide⟩, fun h => absurd (by decide) h, fun _ => ⟨fun h => absurd ((H1.2.2 2).trans (show aHas 2 = none by decide)) h, fun _ x hx v hv => ⟨x, ⟨hx.1, by omega, fun i => by rw [hx.2.2, H1.2.2]; rfl⟩, hv, ⟨⟨⟨rfl, rfl⟩, fun _ _ => rfl⟩, Nat.le_refl _, Nat.le_refl _, fun _ _ => ⟨rfl, rfl⟩⟩⟩⟩⟩
  · exact ⟨⟨⟨H2.1, by omega⟩, by decide, by decide⟩, fun h => absurd (by decide) h, fun _ => ⟨fun h => absurd (h.symm.trans (H2.2.2 1)) (by decide), fun _ x hx v hv => ⟨x, ⟨hx.1, by omega, fun i => by rw [hx.2.2, H2.2.2]; rfl⟩, hv, ⟨⟨⟨rfl, rfl⟩, fun _ _ => rfl⟩, by rw [hx.2.1.2]; exact Nat.le_refl _, Nat.le_refl _, fun _ _ => ⟨rfl, rfl⟩⟩⟩⟩⟩
  · exact ⟨⟨⟨H3.1, by omega⟩, by decide, by decide⟩, fun h => absurd (by decide) h, fun _ => ⟨fun _ v hv => ⟨h3, H3, hv, ⟨⟨⟨rfl, rfl⟩, fun _ _ => rfl⟩, Nat.le_refl _, Nat.le_refl _, fun _ _ => ⟨rfl, rfl⟩⟩⟩, fun h => absurd (fun h2 => absurd (h2.symm.trans (H3.2.2 1)) (by decide)) h⟩⟩
  · refine ⟨by omega, fun h => by omega, fun _ x hx => ⟨⟨h4, x.2⟩, H4, ⟨H4.2.1, rfl⟩, ⟨⟨rfl, rfl⟩, fun _ _ => rfl⟩, ⟨Nat.le_refl _, Nat.le_refl _, fun _ _ => ⟨rfl, rfl⟩⟩, Nat.le_refl _, H4.2.1.symm, fun j hj => ?_⟩⟩
    obtain ⟨s1, s2, s3⟩ := srt_spec H4.1.c hx.1
    have a := s1 0 (by omega)
    have b := s1 1 (by omega)
    have c := s2 0 1 (by omega) (by omega)
    rw [H4.2.2] at a b
    have a := aHas3_is a
    have b := aHas3_is b
    unfold ltI at c
    have hj2 : j = 0 ∨ j = 1 := by omega
    rcases hj2 with rfl | rfl
    · show (x.1 0).1 = 1
      omega
    · show (x.1 1).1 = 2
      omega
  · have f0 : h5.h.id 0 = 1 ∧ h5.h.key 0 = 2 := by
      have a := h5.h.M_zero H5.1 (by omega)
      rw [H5.2.2] at a
      have a := aHas3_is a
      obtain ⟨k, k1, k2, k3⟩ := H5.1.c.M_ex ((H5.2.2 1).trans (show aHas3 1 = some 2 by decide))
      have b := H5.1.first k k1
      unfold HP.le HP.f ltI at b
      dsimp only at a b
      omega
    refine ⟨⟨H5.1, by omega⟩, fun h => by omega, fun _ x hx v hv v1 hv1 => ⟨⟨x, h5.d⟩, ⟨hx.1, (by show x.n = 1; omega), fun i => ?_⟩, ⟨rfl, hv.trans f0.1, hv1.trans f0.2⟩, ⟨⟨rfl, rfl⟩, fun _ _ => rfl⟩, ⟨by rw [hx.2.1.2]; exact Nat.le_refl _, Nat.le_refl _, fun _ _ => ⟨rfl, rfl⟩⟩, Nat.le_refl _⟩⟩
    show x.M i = _
    rw [hx.2.2, f0.1, H5.2.2]
    rfl
  · exact ⟨⟨⟨H6.1, by omega⟩, by decide, by decide⟩, fun h => absurd (by decide) h, fun _ => ⟨fun _ v hv => ⟨h6, H6, ⟨rfl, hv⟩, ⟨⟨⟨rfl, rfl⟩, fun _ _ => rfl⟩, ⟨Nat.le_refl _, Nat.le_refl _, fun _ _ => ⟨rfl, rfl⟩⟩, Nat.le_refl _⟩⟩, fun h => absurd ((H6.2.2 1).trans (show aHas4 1 = none by decide)) h⟩⟩
  · have hs : sameB 2 (fun j => ((j + 1 : Nat) : Int)) (fun j => if j = 0 then 1 else 2) = true := decide_eq_true fun j hj => by
      have hj2 : j = 0 ∨ j = 1 := by omega
      rcases hj2 with rfl | rfl <;> rfl
    have t0 : ∀ {p : Prop}, ¬ True → p := fun h => absurd trivial h
    refine ⟨⟨⟨⟨⟨⟨⟨⟨by decide, ⟨fun _ => ⟨fun _ => ⟨⟨H7.1, by omega⟩, fun h => absurd (h.symm.trans (H7.2.2 2)) (by decide), fun _ x hx => ⟨by rw [hx.2.1.2]; exact Nat.le_refl _, ⟨hx.1, by omega⟩, fun hne => absurd ((hx.2.2 2).trans (if_pos rfl)) hne⟩⟩, fun h => by omega⟩, fun h => ?_⟩, t0⟩, t0⟩, t0⟩, t0⟩, t0⟩, t0⟩, t0⟩, t0⟩
    rw [hs] at h
    cases h

def alive_C (_ : Unit) : Cfg := { Γ := Go.Sx.look tAlive, names := true, cuts := alK }
theorem alive_al (x : Unit) : Shown (aliveP.vc Try.prog (alive_C x) Try.f7 x) := ⟨@Eq.mp _ _ (by kernel_rfl) (alive_vc )⟩
theorem alive_ok : SpOk Try.prog 7 aliveP.sp := @Pat.okS _ aliveP Try.prog alive_C 7 Try.f7 (fun x => cfg_tab rfl tAlive_ok) (by kernel_rfl) Try.func7 (fun _ => rfl) alive_al
end Go.Proofs.Ytnicidiocncjdaa
