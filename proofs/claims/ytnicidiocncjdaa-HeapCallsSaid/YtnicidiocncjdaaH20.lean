import Derived.Test.YtnicidiocncjdaaH17
open Go Go.Sx Go.Proofs
set_option maxRecDepth 100000
namespace Go.Proofs.Ytnicidiocncjdaa
open Go.RowKit Go.Sort

def dpshP : Pat (DP × Int × Int) where
  view | [.ptr r 0 [], .int .i64 n, .int .u64 q], H => some (viewDP r H, n, q) | _, _ => none
  args x := [p0 0, .int .i64 x.2.1, .int .u64 x.2.2]
  H x := [x.1.me 1, x.1.row]
  out x := .need (x.1.Ok ∧ x.1.n ≤ 10000) (.br (¬ (0 ≤ x.2.1 ∧ x.2.1 < 64)) (.retq (.int .i64 11)) (.br (x.1.M x.2.1 ≠ none) (.retq (.int .i64 13))
    (.any (fun g : DP => g.Ok ∧ g.n = x.1.n + 1 ∧ ∀ i, g.M i = if i = x.2.1 then some x.2.2 else x.1.M i) fun g => .ret (.int .i64 0) [g.me 2, dead, g.row])))
def tDpsh : Tab := [(31, altH nilMe (ixNP.sp) (ixP.sp)), (32, altH nilMe (putNP.sp) (putP.sp))]
theorem tDpsh_ok : TabOk Try.prog tDpsh := (tab_cons ixA_ok (tab_cons putA_ok tab_nil))

theorem dpsh1_vc : ∀ (h : DP) (n q : Int), (h.Ok ∧ h.n ≤ (10000 : Nat)) ∧ True → ∀ (v : Int), v = (0 : Int) → (decide (n < (0 : Int)) = true → ∀ (v : Int), v = (11 : Int) → h.Ok ∧ h.n ≤ (10000 : Nat) → (¬((0 : Int) ≤ n ∧ n < (64 : Int)) →
  v = (11 : Int) ∧ True ∧ ((1 : Nat) ≤ (1 : Nat) ∧ (True ∧ True ∧ (0 : Nat) = (0 : Nat) ∧ h.n = h.n ∧ h.cap = h.cap) ∧ True) ∧ (h.cap * (2 : Nat) ≤ h.cap * (2 : Nat) ∧ h.n ≤ h.n ∧ ∀ (j : Nat), j < h.n → (h.f j).fst = (h.f
  j).fst ∧ (h.f j).snd = (h.f j).snd ∧ True) ∧ True) ∧ (¬¬((0 : Int) ≤ n ∧ n < (64 : Int)) → (h.M n ≠ none → v = (13 : Int) ∧ True ∧ ((1 : Nat) ≤ (1 : Nat) ∧ (True ∧ True ∧ (0 : Nat) = (0 : Nat) ∧ h.n = h.n ∧ h.cap =
  h.cap) ∧ True) ∧ (h.cap * (2 : Nat) ≤ h.cap * (2 : Nat) ∧ h.n ≤ h.n ∧ ∀ (j : Nat), j < h.n → (h.f j).fst = (h.f j).fst ∧ (h.f j).snd = (h.f j).snd ∧ True) ∧ True) ∧ (¬h.M n ≠ none → ∃ (x : DP), (x.Ok ∧ x.n = h.n + (1 :
  Nat) ∧ ∀ (i : Int), x.M i = if i = n then some q else h.M i) ∧ v = (0 : Int) ∧ True ∧ ((1 : Nat) ≤ (1 : Nat) ∧ (True ∧ True ∧ (0 : Nat) = (0 : Nat) ∧ h.n = x.n ∧ h.cap = x.cap) ∧ True) ∧ (0 : Nat) = (0 : Nat) ∧ (x.cap *
  (2 : Nat) ≤ h.cap * (2 : Nat) ∧ x.n ≤ h.n ∧ ∀ (j : Nat), j < x.n → (h.f j).fst = (x.f j).fst ∧ (h.f j).snd = (x.f j).snd ∧ True) ∧ True))) ∧ (decide (n < (0 : Int)) = false → (decide (n > (63 : Int)) = true → ∀ (v :
  Int), v = (11 : Int) → h.Ok ∧ h.n ≤ (10000 : Nat) → (¬((0 : Int) ≤ n ∧ n < (64 : Int)) → v = (11 : Int) ∧ True ∧ ((1 : Nat) ≤ (1 : Nat) ∧ (True ∧ True ∧ (0 : Nat) = (0 : Nat) ∧ h.n = h.n ∧ h.cap = h.cap) ∧ True) ∧ (h.cap
  * (2 : Nat) ≤ h.cap * (2 : Nat) ∧ h.n ≤ h.n ∧ ∀ (j : Nat), j < h.n → (h.f j).fst = (h.f j).fst ∧ (h.f j).snd = (h.f j).snd ∧ True) ∧ True) ∧ (¬¬((0 : Int) ≤ n ∧ n < (64 : Int)) → (h.M n ≠ none → v = (13 : Int) ∧ True ∧
  ((1 : Nat) ≤ (1 : Nat) ∧ (True ∧ True ∧ (0 : Nat) = (0 : Nat) ∧ h.n = h.n ∧ h.cap = h.cap) ∧ True) ∧ (h.cap * (2 : Nat) ≤ h.cap * (2 : Nat) ∧ h.n ≤ h.n ∧ ∀ (j : Nat), j < h.n → (h.f j).fst = (h.f j).fst ∧ (h.f j).snd =
  (h.f j).snd ∧ True) ∧ True) ∧ (¬h.M n ≠ none → ∃ (x : DP), (x.Ok ∧ x.n = h.n + (1 : Nat) ∧ ∀ (i : Int), x.M i = if i = n then some q else h.M i) ∧ v = (0 : Int) ∧ True ∧ ((1 : Nat) ≤ (1 : Nat) ∧ (True ∧ True ∧ (0 : Nat)
  = (0 : Nat) ∧ h.n = x.n ∧ h.cap = x.cap) ∧ True) ∧ (0 : Nat) = (0 : Nat) ∧ (x.cap * (2 : Nat) ≤ h.cap * (2 : Nat) ∧ x.n ≤ h.n ∧ ∀ (j : Nat), j < x.n → (h.f j).fst = (x.f j).fst ∧ (h.f j).snd = (x.f j).snd ∧ True) ∧
  True))) ∧ (decide (n > (63 : Int)) = false → (((True ∧ True) ∧ n = n ∧ True) ∧ ((1 : Nat) ≤ (1 : Nat) ∧ (True ∧ True ∧ (0 : Nat) = (0 : Nat) ∧ h.n = h.n ∧ h.cap = h.cap) ∧ True) ∧ (h.cap * (2 : Nat) ≤ h.cap * (2 : Nat) ∧
  h.n = h.n ∧ ∀ (j : Nat), j < h.n → (h.f j).fst = (h.f j).fst ∧ (h.f j).snd = (h.f j).snd ∧ True) ∧ True) ∧ h.n ≤ (10000 : Nat) ∧ (decide ((DP.mk h.n h.cap fun (j : Nat) => ((h.f j).fst, (h.f j).snd)).ix n ≥ (0 : Int)) =
  true → ∀ (v : Int), v = (13 : Int) → h.Ok ∧ h.n ≤ (10000 : Nat) → (¬((0 : Int) ≤ n ∧ n < (64 : Int)) → v = (11 : Int) ∧ True ∧ ((1 : Nat) ≤ (1 : Nat) ∧ (True ∧ True ∧ (0 : Nat) = (0 : Nat) ∧ h.n = h.n ∧ h.cap = h.cap) ∧
  True) ∧ (h.cap * (2 : Nat) ≤ h.cap * (2 : Nat) ∧ h.n ≤ h.n ∧ ∀ (j : Nat), j < h.n → (h.f j).fst = (h.f j).fst ∧ (h.f j).snd = (h.f j).snd ∧ True) ∧ True) ∧ (¬¬((0 : Int) ≤ n ∧ n < (64 : Int)) → (h.M n ≠ none → v = (13 :
  Int) ∧ True ∧ ((1 : Nat) ≤ (1 : Nat) ∧ (True ∧ True ∧ (0 : Nat) = (0 : Nat) ∧ h.n = h.n ∧ h.cap = h.cap) ∧ True) ∧ (h.cap * (2 : Nat) ≤ h.cap * (2 : Nat) ∧ h.n ≤ h.n ∧ ∀ (j : Nat), j < h.n → (h.f j).fst = (h.f j).fst ∧
  (h.f j).snd = (h.f j).snd ∧ True) ∧ True) ∧ (¬h.M n ≠ none → ∃ (x : DP), (x.Ok ∧ x.n = h.n + (1 : Nat) ∧ ∀ (i : Int), x.M i = if i = n then some q else h.M i) ∧ v = (0 : Int) ∧ True ∧ ((1 : Nat) ≤ (1 : Nat) ∧ (True ∧
  True ∧ (0 : Nat) = (0 : Nat) ∧ h.n = x.n ∧ h.cap = x.cap) ∧ True) ∧ (0 : Nat) = (0 : Nat) ∧ (x.cap * (2 : Nat) ≤ h.cap * (2 : Nat) ∧ x.n ≤ h.n ∧ ∀ (j : Nat), j < x.n → (h.f j).fst = (x.f j).fst ∧ (h.f j).snd = (x.f
  j).snd ∧ True) ∧ True))) ∧ (decide ((DP.mk h.n h.cap fun (j : Nat) => ((h.f j).fst, (h.f j).snd)).ix n ≥ (0 : Int)) = false → (((True ∧ True) ∧ n = n ∧ q = q ∧ True) ∧ ((1 : Nat) ≤ (1 : Nat) ∧ (True ∧ True ∧ (0 : Nat) =
  (0 : Nat) ∧ h.n = h.n ∧ h.cap = h.cap) ∧ True) ∧ (h.cap * (2 : Nat) ≤ h.cap * (2 : Nat) ∧ h.n = h.n ∧ ∀ (j : Nat), j < h.n → (h.f j).fst = (h.f j).fst ∧ (h.f j).snd = (h.f j).snd ∧ True) ∧ True) ∧ (((DP.mk h.n h.cap fun
  (j : Nat) => ((h.f j).fst, (h.f j).snd)).Ok ∧ h.n ≤ (10000 : Nat)) ∧ (DP.mk h.n h.cap fun (j : Nat) => ((h.f j).fst, (h.f j).snd)).M n = none) ∧ ∀ (x : DP), (x.Ok ∧ x.n = h.n + (1 : Nat) ∧ ∀ (i : Int), x.M i = if i = n
  then some q else (DP.mk h.n h.cap fun (j : Nat) => ((h.f j).fst, (h.f j).snd)).M i) → ∀ (v : Int), v = (0 : Int) → h.Ok ∧ h.n ≤ (10000 : Nat) → (¬((0 : Int) ≤ n ∧ n < (64 : Int)) → v = (11 : Int) ∧ True ∧ ((1 : Nat) ≤ (1
  : Nat) ∧ (False ∧ True ∧ (0 : Nat) = (0 : Nat) ∧ x.n = h.n ∧ x.cap = h.cap) ∧ True) ∧ False ∧ True) ∧ (¬¬((0 : Int) ≤ n ∧ n < (64 : Int)) → (h.M n ≠ none → v = (13 : Int) ∧ True ∧ ((1 : Nat) ≤ (1 : Nat) ∧ (False ∧ True ∧
  (0 : Nat) = (0 : Nat) ∧ x.n = h.n ∧ x.cap = h.cap) ∧ True) ∧ False ∧ True) ∧ (¬h.M n ≠ none → ∃ (x_1 : DP), (x_1.Ok ∧ x_1.n = h.n + (1 : Nat) ∧ ∀ (i : Int), x_1.M i = if i = n then some q else h.M i) ∧ v = (0 : Int) ∧
  True ∧ ((1 : Nat) ≤ (1 : Nat) ∧ (True ∧ True ∧ (0 : Nat) = (0 : Nat) ∧ x.n = x_1.n ∧ x.cap = x_1.cap) ∧ True) ∧ (0 : Nat) = (0 : Nat) ∧ (x_1.cap * (2 : Nat) ≤ x.cap * (2 : Nat) ∧ x_1.n ≤ x.n ∧ ∀ (j : Nat), j < x_1.n →
  (x.f j).fst = (x_1.f j).fst ∧ (x.f j).snd = (x_1.f j).snd ∧ True) ∧ True))))) := by
  simp only [true_and, and_true, eq_self, Nat.le_refl, decide_eq_true_eq, decide_eq_false_iff_not, implies_true, and_self, Int.not_lt, Int.not_le, ge_iff_le, gt_iff_lt, ne_eq]
  intro h n q hh v _
  simp only [DP.eta, hh, true_and, true_implies, forall_eq, Decidable.not_not, implies_true]
  have hm := h.M_none (i := n)
  exact ⟨fun a b => by omega, fun a => ⟨fun b c => by omega, fun b => ⟨fun c => ⟨fun d => by omega, fun _ d => by have := hm.1 d; omega⟩, fun c => ⟨hm.2 c, fun g hg => ⟨fun d => by omega, fun _ => ⟨fun d => absurd (hm.2 c) d, fun _ => ⟨g, hg, eqD g⟩⟩⟩⟩⟩⟩⟩

def dpsh1_C (_ : (DP × Int × Int)) : Cfg := { Γ := Go.Sx.look tDpsh, names := true }
theorem dpsh1_al (x : (DP × Int × Int)) : Shown (dpshP.vc Try.prog (dpsh1_C x) Try.f16 x) := ⟨@Eq.mp _ _ (by kernel_rfl) (dpsh1_vc (x.1) (x.2.1) (x.2.2))⟩
theorem dpsh1_ok : SpOk Try.prog 16 dpshP.sp := @Pat.okS _ dpshP Try.prog dpsh1_C 16 Try.f16 (fun x => cfg_tab rfl tDpsh_ok) (by kernel_rfl) Try.func16 (fun _ => rfl) dpsh1_al
def dpshNP : Pat (Int × Int) where
  view | [.ptr _ 0 [], .int .i64 n, .int .u64 q], _ => some (n, q) | _, _ => none
  args x := [p0 0, .int .i64 x.1, .int .u64 x.2]
  H _ := [dnil]
  out x := .br (¬ (0 ≤ x.1 ∧ x.1 < 64)) (.retq (.int .i64 11))
    (.any (fun g : DP => g.Ok ∧ g.n = 1 ∧ ∀ i, g.M i = if i = x.1 then some x.2 else none) fun g => .ret (.int .i64 0) [g.me 1, g.row])
theorem dpshN_vc : ∀ (n q : Int), True → ∀ (v : Int), v = (0 : Int) → (decide (n < (0 : Int)) = true → ∀ (v : Int), v = (11 : Int) → (¬((0 : Int) ≤ n ∧ n < (64 : Int)) → v = (11 : Int) ∧ True ∧ ((1 : Nat) ≤ (1 : Nat) ∧ True ∧ True) ∧ True)
  ∧ (¬¬((0 : Int) ≤ n ∧ n < (64 : Int)) → ∃ (x : DP), (x.Ok ∧ x.n = (1 : Nat) ∧ ∀ (i : Int), x.M i = if i = n then some q else none) ∧ v = (0 : Int) ∧ False)) ∧ (decide (n < (0 : Int)) = false → (decide (n > (63 : Int)) =
  true → ∀ (v : Int), v = (11 : Int) → (¬((0 : Int) ≤ n ∧ n < (64 : Int)) → v = (11 : Int) ∧ True ∧ ((1 : Nat) ≤ (1 : Nat) ∧ True ∧ True) ∧ True) ∧ (¬¬((0 : Int) ≤ n ∧ n < (64 : Int)) → ∃ (x : DP), (x.Ok ∧ x.n = (1 : Nat)
  ∧ ∀ (i : Int), x.M i = if i = n then some q else none) ∧ v = (0 : Int) ∧ False)) ∧ (decide (n > (63 : Int)) = false → (((True ∧ True) ∧ n = n ∧ True) ∧ ((1 : Nat) ≤ (1 : Nat) ∧ True ∧ True) ∧ True) ∧ (decide ((-1 : Int)
  ≥ (0 : Int)) = true → ∀ (v : Int), v = (13 : Int) → (¬((0 : Int) ≤ n ∧ n < (64 : Int)) → v = (11 : Int) ∧ True ∧ ((1 : Nat) ≤ (1 : Nat) ∧ True ∧ True) ∧ True) ∧ (¬¬((0 : Int) ≤ n ∧ n < (64 : Int)) → ∃ (x : DP), (x.Ok ∧
  x.n = (1 : Nat) ∧ ∀ (i : Int), x.M i = if i = n then some q else none) ∧ v = (0 : Int) ∧ False)) ∧ (decide ((-1 : Int) ≥ (0 : Int)) = false → (((True ∧ True) ∧ n = n ∧ q = q ∧ True) ∧ ((1 : Nat) ≤ (1 : Nat) ∧ True ∧
  True) ∧ True) ∧ ∀ (x : DP), (x.Ok ∧ x.n = (1 : Nat) ∧ ∀ (i : Int), x.M i = if i = n then some q else none) → ∀ (v : Int), v = (0 : Int) → (¬((0 : Int) ≤ n ∧ n < (64 : Int)) → v = (11 : Int) ∧ True ∧ ((1 : Nat) ≤ (1 :
  Nat) ∧ False ∧ True) ∧ True) ∧ (¬¬((0 : Int) ≤ n ∧ n < (64 : Int)) → ∃ (x_1 : DP), (x_1.Ok ∧ x_1.n = (1 : Nat) ∧ ∀ (i : Int), x_1.M i = if i = n then some q else none) ∧ v = (0 : Int) ∧ True ∧ ((1 : Nat) ≤ (1 : Nat) ∧
  (True ∧ True ∧ (0 : Nat) = (0 : Nat) ∧ x.n = x_1.n ∧ x.cap = x_1.cap) ∧ True) ∧ (x_1.cap * (2 : Nat) ≤ x.cap * (2 : Nat) ∧ x_1.n ≤ x.n ∧ ∀ (j : Nat), j < x_1.n → (x.f j).fst = (x_1.f j).fst ∧ (x.f j).snd = (x_1.f j).snd
  ∧ True) ∧ True)))) := by
  simp only [true_and, and_true, eq_self, Nat.le_refl, decide_eq_true_eq, decide_eq_false_iff_not, true_implies, and_self, Int.not_lt, Int.not_le, ge_iff_le, gt_iff_lt]
  intro n q v _
  simp only [forall_eq, Decidable.not_not, implies_true, true_and]
  exact ⟨fun a b => by omega, fun a => ⟨fun b c => by omega, fun b => ⟨fun c => by omega, fun _ g hg => ⟨fun d => by omega, fun _ => ⟨g, hg, eqD g⟩⟩⟩⟩⟩

def dpshN_C (_ : (Int × Int)) : Cfg := { Γ := Go.Sx.look tDpsh, names := true }
theorem dpshN_al (x : (Int × Int)) : Shown (dpshNP.vc Try.prog (dpshN_C x) Try.f16 x) := ⟨@Eq.mp _ _ (by kernel_rfl) (dpshN_vc (x.1) (x.2))⟩
theorem dpshN_ok : SpOk Try.prog 16 dpshNP.sp := @Pat.okS _ dpshNP Try.prog dpshN_C 16 Try.f16 (fun x => cfg_tab rfl tDpsh_ok) (by kernel_rfl) Try.func16 (fun _ => rfl) dpshN_al
theorem dpshA_ok : SpOk Try.prog 16 (altH nilMe (dpshNP.sp) (dpshP.sp)) := altH_ok dpshN_ok dpsh1_ok

def dchgP : Pat (DP × Int × Int) where
  view | [.ptr r 0 [], .int .i64 n, .int .u64 q], H => some (viewDP r H, n, q) | _, _ => none
  args x := [p0 0, .int .i64 x.2.1, .int .u64 x.2.2]
  H x := [x.1.me 1, x.1.row]
  out x := .need (x.1.Ok ∧ x.1.n ≤ 10000) (.br (¬ (0 ≤ x.2.1 ∧ x.2.1 < 64)) (.retq (.int .i64 11)) (.br (x.1.M x.2.1 = none) (.retq (.int .i64 12))
    (.any (fun g : DP => g.Ok ∧ g.n = x.1.n ∧ ∀ i, g.M i = if i = x.2.1 then some x.2.2 else x.1.M i) fun g => .ret (.int .i64 0) [g.me 2, dead, g.row])))
def tDchg : Tab := [(17, altH nilMe (drmNP.sp) (drmP.sp)), (32, altH nilMe (putNP.sp) (putP.sp))]
theorem tDchg_ok : TabOk Try.prog tDchg := (tab_cons drmA_ok (tab_cons putA_ok tab_nil))

theorem dchg1_vc : ∀ (h : DP) (n q : Int), (h.Ok ∧ h.n ≤ (10000 : Nat)) ∧ True → ∀ (v : Int), v = (0 : Int) → (decide (n < (0 : Int)) = true → ∀ (v : Int), v = (11 : Int) → h.Ok ∧ h.n ≤ (10000 : Nat) → (¬((0 : Int) ≤ n ∧ n < (64 : Int)) →
  v = (11 : Int) ∧ True ∧ ((1 : Nat) ≤ (1 : Nat) ∧ (True ∧ True ∧ (0 : Nat) = (0 : Nat) ∧ h.n = h.n ∧ h.cap = h.cap) ∧ True) ∧ (h.cap * (2 : Nat) ≤ h.cap * (2 : Nat) ∧ h.n ≤ h.n ∧ ∀ (j : Nat), j < h.n → (h.f j).fst = (h.f
  j).fst ∧ (h.f j).snd = (h.f j).snd ∧ True) ∧ True) ∧ (¬¬((0 : Int) ≤ n ∧ n < (64 : Int)) → (h.M n = none → v = (12 : Int) ∧ True ∧ ((1 : Nat) ≤ (1 : Nat) ∧ (True ∧ True ∧ (0 : Nat) = (0 : Nat) ∧ h.n = h.n ∧ h.cap =
  h.cap) ∧ True) ∧ (h.cap * (2 : Nat) ≤ h.cap * (2 : Nat) ∧ h.n ≤ h.n ∧ ∀ (j : Nat), j < h.n → (h.f j).fst = (h.f j).fst ∧ (h.f j).snd = (h.f j).snd ∧ True) ∧ True) ∧ (¬h.M n = none → ∃ (x : DP), (x.Ok ∧ x.n = h.n ∧ ∀ (i :
  Int), x.M i = if i = n then some q else h.M i) ∧ v = (0 : Int) ∧ True ∧ ((1 : Nat) ≤ (1 : Nat) ∧ (True ∧ True ∧ (0 : Nat) = (0 : Nat) ∧ h.n = x.n ∧ h.cap = x.cap) ∧ True) ∧ (0 : Nat) = (0 : Nat) ∧ (x.cap * (2 : Nat) ≤
  h.cap * (2 : Nat) ∧ x.n ≤ h.n ∧ ∀ (j : Nat), j < x.n → (h.f j).fst = (x.f j).fst ∧ (h.f j).snd = (x.f j).snd ∧ True) ∧ True))) ∧ (decide (n < (0 : Int)) = false → (decide (n > (63 : Int)) = true → ∀ (v : Int), v = (11 :
  Int) → h.Ok ∧ h.n ≤ (10000 : Nat) → (¬((0 : Int) ≤ n ∧ n < (64 : Int)) → v = (11 : Int) ∧ True ∧ ((1 : Nat) ≤ (1 : Nat) ∧ (True ∧ True ∧ (0 : Nat) = (0 : Nat) ∧ h.n = h.n ∧ h.cap = h.cap) ∧ True) ∧ (h.cap * (2 : Nat) ≤
  h.cap * (2 : Nat) ∧ h.n ≤ h.n ∧ ∀ (j : Nat), j < h.n → (h.f j).fst = (h.f j).fst ∧ (h.f j).snd = (h.f j).snd ∧ True) ∧ True) ∧ (¬¬((0 : Int) ≤ n ∧ n < (64 : Int)) → (h.M n = none → v = (12 : Int) ∧ True ∧ ((1 : Nat) ≤ (1
  : Nat) ∧ (True ∧ True ∧ (0 : Nat) = (0 : Nat) ∧ h.n = h.n ∧ h.cap = h.cap) ∧ True) ∧ (h.cap * (2 : Nat) ≤ h.cap * (2 : Nat) ∧ h.n ≤ h.n ∧ ∀ (j : Nat), j < h.n → (h.f j).fst = (h.f j).fst ∧ (h.f j).snd = (h.f j).snd ∧
  True) ∧ True) ∧ (¬h.M n = none → ∃ (x : DP), (x.Ok ∧ x.n = h.n ∧ ∀ (i : Int), x.M i = if i = n then some q else h.M i) ∧ v = (0 : Int) ∧ True ∧ ((1 : Nat) ≤ (1 : Nat) ∧ (True ∧ True ∧ (0 : Nat) = (0 : Nat) ∧ h.n = x.n ∧
  h.cap = x.cap) ∧ True) ∧ (0 : Nat) = (0 : Nat) ∧ (x.cap * (2 : Nat) ≤ h.cap * (2 : Nat) ∧ x.n ≤ h.n ∧ ∀ (j : Nat), j < x.n → (h.f j).fst = (x.f j).fst ∧ (h.f j).snd = (x.f j).snd ∧ True) ∧ True))) ∧ (decide (n > (63 :
  Int)) = false → (((True ∧ True) ∧ n = n ∧ True) ∧ ((1 : Nat) ≤ (1 : Nat) ∧ (True ∧ True ∧ (0 : Nat) = (0 : Nat) ∧ h.n = h.n ∧ h.cap = h.cap) ∧ True) ∧ (h.cap * (2 : Nat) ≤ h.cap * (2 : Nat) ∧ h.n = h.n ∧ ∀ (j : Nat), j <
  h.n → (h.f j).fst = (h.f j).fst ∧ (h.f j).snd = (h.f j).snd ∧ True) ∧ True) ∧ ((DP.mk h.n h.cap fun (j : Nat) => ((h.f j).fst, (h.f j).snd)).Ok ∧ h.n ≤ (10000 : Nat)) ∧ ((DP.mk h.n h.cap fun (j : Nat) => ((h.f j).fst,
  (h.f j).snd)).ix n < (0 : Int) → ∀ (v : Int), v = (12 : Int) → h.Ok ∧ h.n ≤ (10000 : Nat) → (¬((0 : Int) ≤ n ∧ n < (64 : Int)) → v = (11 : Int) ∧ True ∧ ((1 : Nat) ≤ (1 : Nat) ∧ (True ∧ True ∧ (0 : Nat) = (0 : Nat) ∧ h.n
  = h.n ∧ h.cap = h.cap) ∧ True) ∧ (h.cap * (2 : Nat) ≤ h.cap * (2 : Nat) ∧ h.n ≤ h.n ∧ ∀ (j : Nat), j < h.n → (h.f j).fst = (h.f j).fst ∧ (h.f j).snd = (h.f j).snd ∧ True) ∧ True) ∧ (¬¬((0 : Int) ≤ n ∧ n < (64 : Int)) →
  (h.M n = none → v = (12 : Int) ∧ True ∧ ((1 : Nat) ≤ (1 : Nat) ∧ (True ∧ True ∧ (0 : Nat) = (0 : Nat) ∧ h.n = h.n ∧ h.cap = h.cap) ∧ True) ∧ (h.cap * (2 : Nat) ≤ h.cap * (2 : Nat) ∧ h.n ≤ h.n ∧ ∀ (j : Nat), j < h.n →
  (h.f j).fst = (h.f j).fst ∧ (h.f j).snd = (h.f j).snd ∧ True) ∧ True) ∧ (¬h.M n = none → ∃ (x : DP), (x.Ok ∧ x.n = h.n ∧ ∀ (i : Int), x.M i = if i = n then some q else h.M i) ∧ v = (0 : Int) ∧ True ∧ ((1 : Nat) ≤ (1 :
  Nat) ∧ (True ∧ True ∧ (0 : Nat) = (0 : Nat) ∧ h.n = x.n ∧ h.cap = x.cap) ∧ True) ∧ (0 : Nat) = (0 : Nat) ∧ (x.cap * (2 : Nat) ≤ h.cap * (2 : Nat) ∧ x.n ≤ h.n ∧ ∀ (j : Nat), j < x.n → (h.f j).fst = (x.f j).fst ∧ (h.f
  j).snd = (x.f j).snd ∧ True) ∧ True))) ∧ (¬(DP.mk h.n h.cap fun (j : Nat) => ((h.f j).fst, (h.f j).snd)).ix n < (0 : Int) → ∀ (x : DP), (x.Ok ∧ (x.n = h.n - (1 : Nat) ∧ x.cap = h.cap) ∧ ∀ (i : Int), x.M i = if i = n then
  none else (DP.mk h.n h.cap fun (j : Nat) => ((h.f j).fst, (h.f j).snd)).M i) → (((True ∧ True) ∧ n = n ∧ q = q ∧ True) ∧ ((1 : Nat) ≤ (1 : Nat) ∧ (True ∧ True ∧ (0 : Nat) = (0 : Nat) ∧ x.n = x.n ∧ x.cap = x.cap) ∧ True)
  ∧ (x.cap * (2 : Nat) ≤ h.cap * (2 : Nat) ∧ x.n = x.n ∧ ∀ (j : Nat), j < x.n → (x.f j).fst = (x.f j).fst ∧ (x.f j).snd = (x.f j).snd ∧ True) ∧ True) ∧ (((DP.mk x.n x.cap fun (j : Nat) => ((x.f j).fst, (x.f j).snd)).Ok ∧
  x.n ≤ (10000 : Nat)) ∧ (DP.mk x.n x.cap fun (j : Nat) => ((x.f j).fst, (x.f j).snd)).M n = none) ∧ ∀ (x_1 : DP), (x_1.Ok ∧ x_1.n = x.n + (1 : Nat) ∧ ∀ (i : Int), x_1.M i = if i = n then some q else (DP.mk x.n x.cap fun
  (j : Nat) => ((x.f j).fst, (x.f j).snd)).M i) → ∀ (v : Int), v = (0 : Int) → h.Ok ∧ h.n ≤ (10000 : Nat) → (¬((0 : Int) ≤ n ∧ n < (64 : Int)) → v = (11 : Int) ∧ True ∧ ((1 : Nat) ≤ (1 : Nat) ∧ (False ∧ True ∧ (0 : Nat) =
  (0 : Nat) ∧ x_1.n = h.n ∧ x_1.cap = h.cap) ∧ True) ∧ False ∧ True) ∧ (¬¬((0 : Int) ≤ n ∧ n < (64 : Int)) → (h.M n = none → v = (12 : Int) ∧ True ∧ ((1 : Nat) ≤ (1 : Nat) ∧ (False ∧ True ∧ (0 : Nat) = (0 : Nat) ∧ x_1.n =
  h.n ∧ x_1.cap = h.cap) ∧ True) ∧ False ∧ True) ∧ (¬h.M n = none → ∃ (x : DP), (x.Ok ∧ x.n = h.n ∧ ∀ (i : Int), x.M i = if i = n then some q else h.M i) ∧ v = (0 : Int) ∧ True ∧ ((1 : Nat) ≤ (1 : Nat) ∧ (True ∧ True ∧ (0
  : Nat) = (0 : Nat) ∧ x_1.n = x.n ∧ x_1.cap = x.cap) ∧ True) ∧ (0 : Nat) = (0 : Nat) ∧ (x.cap * (2 : Nat) ≤ x_1.cap * (2 : Nat) ∧ x.n ≤ x_1.n ∧ ∀ (j : Nat), j < x.n → (x_1.f j).fst = (x.f j).fst ∧ (x_1.f j).snd = (x.f
  j).snd ∧ True) ∧ True))))) := by
  simp only [true_and, and_true, eq_self, Nat.le_refl, decide_eq_true_eq, decide_eq_false_iff_not, implies_true, and_self, Int.not_lt, gt_iff_lt]
  intro h n q hh v _
  simp only [DP.eta, hh, true_and, true_implies, forall_eq, Decidable.not_not, implies_true]
  have hm := h.M_none (i := n)
  refine ⟨fun a b => by omega, fun a => ⟨fun b c => by omega, fun b => ⟨fun c => ⟨fun d => by omega, fun _ d => absurd (hm.2 c) d⟩, fun c g hg => ⟨by rw [hg.2.1.2]; exact Nat.le_refl _, ⟨⟨hg.1, by omega⟩, (hg.2.2 n).trans (if_pos rfl)⟩, fun g2 hg2 => ⟨fun d => by omega, fun _ => ⟨fun d => by have := hm.1 d; omega, fun d => ⟨g2, ⟨hg2.1, ?_, fun i => ?_⟩, eqD g2⟩⟩⟩⟩⟩⟩⟩
  · obtain ⟨k, k1, _⟩ := DP.M_ix d
    omega
  · rw [hg2.2.2, hg.2.2]
    by_cases e : i = n
    · rw [if_pos e, if_pos e]
    · rw [if_neg e, if_neg e, if_neg e]

def dchg1_C (_ : (DP × Int × Int)) : Cfg := { Γ := Go.Sx.look tDchg, names := true }
theorem dchg1_al (x : (DP × Int × Int)) : Shown (dchgP.vc Try.prog (dchg1_C x) Try.f18 x) := ⟨@Eq.mp _ _ (by kernel_rfl) (dchg1_vc (x.1) (x.2.1) (x.2.2))⟩
theorem dchg1_ok : SpOk Try.prog 18 dchgP.sp := @Pat.okS _ dchgP Try.prog dchg1_C 18 Try.f18 (fun x => cfg_tab rfl tDchg_ok) (by kernel_rfl) Try.func18 (fun _ => rfl) dchg1_al
def dchgNP : Pat (Int × Int) where
  view | [.ptr _ 0 [], .int .i64 n, .int .u64 q], _ => some (n, q) | _, _ => none
  args x := [p0 0, .int .i64 x.1, .int .u64 x.2]
  H _ := [dnil]
  out x := .br (¬ (0 ≤ x.1 ∧ x.1 < 64)) (.retq (.int .i64 11)) (.retq (.int .i64 12))
theorem dchgN_vc : ∀ (n _ : Int), True → ∀ (v : Int), v = (0 : Int) → (decide (n < (0 : Int)) = true → ∀ (v : Int), v = (11 : Int) → (¬((0 : Int) ≤ n ∧ n < (64 : Int)) → v = (11 : Int) ∧ True ∧ ((1 : Nat) ≤ (1 : Nat) ∧ True ∧ True) ∧ True)
  ∧ (¬¬((0 : Int) ≤ n ∧ n < (64 : Int)) → v = (12 : Int) ∧ True ∧ ((1 : Nat) ≤ (1 : Nat) ∧ True ∧ True) ∧ True)) ∧ (decide (n < (0 : Int)) = false → (decide (n > (63 : Int)) = true → ∀ (v : Int), v = (11 : Int) → (¬((0 :
  Int) ≤ n ∧ n < (64 : Int)) → v = (11 : Int) ∧ True ∧ ((1 : Nat) ≤ (1 : Nat) ∧ True ∧ True) ∧ True) ∧ (¬¬((0 : Int) ≤ n ∧ n < (64 : Int)) → v = (12 : Int) ∧ True ∧ ((1 : Nat) ≤ (1 : Nat) ∧ True ∧ True) ∧ True)) ∧ (decide
  (n > (63 : Int)) = false → (((True ∧ True) ∧ n = n ∧ True) ∧ ((1 : Nat) ≤ (1 : Nat) ∧ True ∧ True) ∧ True) ∧ ∀ (v : Int), v = (12 : Int) → (¬((0 : Int) ≤ n ∧ n < (64 : Int)) → v = (11 : Int) ∧ True ∧ ((1 : Nat) ≤ (1 :
  Nat) ∧ True ∧ True) ∧ True) ∧ (¬¬((0 : Int) ≤ n ∧ n < (64 : Int)) → v = (12 : Int) ∧ True ∧ ((1 : Nat) ≤ (1 : Nat) ∧ True ∧ True) ∧ True))) := by
  simp only [true_and, and_true, eq_self, Nat.le_refl, decide_eq_true_eq, decide_eq_false_iff_not, true_implies, and_self, Int.not_lt, gt_iff_lt]
  intro n q v _
  simp only [forall_eq, Decidable.not_not, implies_true, true_and, and_true]
  exact ⟨fun a b => by omega, fun a => ⟨fun b c => by omega, fun b c => by omega⟩⟩

def dchgN_C (_ : (Int × Int)) : Cfg := { Γ := Go.Sx.look tDchg, names := true }
theorem dchgN_al (x : (Int × Int)) : Shown (dchgNP.vc Try.prog (dchgN_C x) Try.f18 x) := ⟨@Eq.mp _ _ (by kernel_rfl) (dchgN_vc (x.1) (x.2))⟩
theorem dchgN_ok : SpOk Try.prog 18 dchgNP.sp := @Pat.okS _ dchgNP Try.prog dchgN_C 18 Try.f18 (fun x => cfg_tab rfl tDchg_ok) (by kernel_rfl) Try.func18 (fun _ => rfl) dchgN_al
theorem dchgA_ok : SpOk Try.prog 18 (altH nilMe (dchgNP.sp) (dchgP.sp)) := altH_ok dchgN_ok dchg1_ok

end Go.Proofs.Ytnicidiocncjdaa
