import Derived.Test.YtnicidiocncjdaaH17t
open Go Go.Sx Go.Proofs
set_option maxRecDepth 100000
namespace Go.Proofs.Ytnicidiocncjdaa
open Go.RowKit Go.Sort

def dmeT (items : T) : T := .cons items .nil
def DP.me (h : DP) (r : Nat) : Reg := newReg 43 (dmeT (.slice r 0 [] 0 2 h.n h.cap))
def DP.row (h : DP) : Reg := rowP 47 h.n 2 h.cap (fun j => itT ((h.f j).1, (h.f j).2))
def dnil : Reg := newReg 43 (dmeT .nils)
def viewDP (r : Nat) (H : List Reg) : DP :=
  let t := regC H r
  let a := regC H (tRef (tAt t 0))
  ⟨tLen (tAt t 0), tCap (tAt t 0), fun j => (tInt (tAt (tArr a j) 0), tInt (tAt (tArr a j) 1))⟩
def ixP : Pat (DP × Int) where
  view | [.ptr r 0 [], .int .i64 n], H => some (viewDP r H, n) | _, _ => none
  args x := [p0 0, .int .i64 x.2]
  H x := [x.1.me 1, x.1.row]
  out x := .need (x.1.n ≤ 10000) (.retq (.int .i64 (x.1.ix x.2)))
def ixFam (h : DP) (n : Int) : Fam where
  α := Nat
  I i := i ≤ h.n ∧ h.ix n = ixF h.f n i (h.n - i)
  st i := { sl := mkSl 26 [(0, p0 0), (1, .int .i64 n), (5, .int .i64 (i : Nat))], H := [h.me 1, h.row] }
  μ i := h.n - i
theorem ix1_vc : ∀ (h : DP) (n : Int), h.n ≤ (10000 : Nat) ∧ True → ∀ (v : Int), v = (0 : Int) → ∀ (v : Int), v = (0 : Int) → (∃ (y : Nat), (y ≤ h.n ∧ h.ix n = ixF h.f n y (h.n - y)) ∧ (((True ∧ True) ∧ n = n ∧ v = (↑y : Int) ∧ True) ∧
  ((1 : Nat) ≤ (1 : Nat) ∧ (True ∧ True ∧ (0 : Nat) = (0 : Nat) ∧ h.n = h.n ∧ h.cap = h.cap) ∧ True) ∧ (h.cap * (2 : Nat) ≤ h.cap * (2 : Nat) ∧ h.n ≤ h.n ∧ ∀ (j : Nat), j < h.n → (h.f j).fst = (h.f j).fst ∧ (h.f j).snd =
  (h.f j).snd ∧ True) ∧ True) ∧ True) ∧ ∀ (y : Nat), y ≤ h.n ∧ h.ix n = ixF h.f n y (h.n - y) → (decide ((↑y : Int) < (↑h.n : Int)) = true → ((0 : Int) ≤ (↑y : Int) ∧ (↑y : Int) < (↑h.n : Int)) ∧ (0 : Nat) + (↑y :
  Int).toNat < h.n ∧ (((h.f ((0 : Nat) + (↑y : Int).toNat)).fst == n) = true → ∀ (v : Int), v = (↑y : Int) → h.n ≤ (10000 : Nat) → v = h.ix n ∧ True ∧ ((1 : Nat) ≤ (1 : Nat) ∧ (True ∧ True ∧ (0 : Nat) = (0 : Nat) ∧ h.n =
  h.n ∧ h.cap = h.cap) ∧ True) ∧ (h.cap * (2 : Nat) ≤ h.cap * (2 : Nat) ∧ h.n ≤ h.n ∧ ∀ (j : Nat), j < h.n → (h.f j).fst = (h.f j).fst ∧ (h.f j).snd = (h.f j).snd ∧ True) ∧ True) ∧ (((h.f ((0 : Nat) + (↑y :
  Int).toNat)).fst == n) = false → ∀ (v : Int), v = IntKind.i64.wrap ((↑y : Int) + (1 : Int)) → ∃ (y_1 : Nat), (y_1 ≤ h.n ∧ h.ix n = ixF h.f n y_1 (h.n - y_1)) ∧ (((True ∧ True) ∧ n = n ∧ v = (↑y_1 : Int) ∧ True) ∧ ((1 :
  Nat) ≤ (1 : Nat) ∧ (True ∧ True ∧ (0 : Nat) = (0 : Nat) ∧ h.n = h.n ∧ h.cap = h.cap) ∧ True) ∧ (h.cap * (2 : Nat) ≤ h.cap * (2 : Nat) ∧ h.n ≤ h.n ∧ ∀ (j : Nat), j < h.n → (h.f j).fst = (h.f j).fst ∧ (h.f j).snd = (h.f
  j).snd ∧ True) ∧ True) ∧ (ixFam h n).μ y_1 < (ixFam h n).μ y)) ∧ (decide ((↑y : Int) < (↑h.n : Int)) = false → ∀ (v : Int), v = (-1 : Int) → h.n ≤ (10000 : Nat) → v = h.ix n ∧ True ∧ ((1 : Nat) ≤ (1 : Nat) ∧ (True ∧ True
  ∧ (0 : Nat) = (0 : Nat) ∧ h.n = h.n ∧ h.cap = h.cap) ∧ True) ∧ (h.cap * (2 : Nat) ≤ h.cap * (2 : Nat) ∧ h.n ≤ h.n ∧ ∀ (j : Nat), j < h.n → (h.f j).fst = (h.f j).fst ∧ (h.f j).snd = (h.f j).snd ∧ True) ∧ True) := by
  simp only [true_and, and_true, eq_self, Nat.le_refl, decide_eq_true_eq, decide_eq_false_iff_not, beq_iff_eq, beq_eq_false_iff_ne, implies_true, and_self, Int.not_lt, ne_eq, Nat.zero_add, Int.toNat_natCast, IntKind.wrap_i64]
  intro h n hn
  have hM : ∀ i : Nat, (ixFam h n).μ i = h.n - i := fun _ => rfl
  simp only [hM, forall_eq]
  refine ⟨⟨0, ⟨Nat.zero_le _, rfl⟩, rfl⟩, fun i hi => ⟨fun hlt => ⟨by omega, by omega, fun e _ => ?_, fun e => ⟨i + 1, ⟨by omega, ?_⟩, by omega, by omega⟩⟩, fun hge _ => ?_⟩⟩
  · rw [hi.2, show h.n - i = (h.n - i - 1) + 1 by omega]
    exact (if_pos e).symm
  · rw [hi.2, show h.n - i = (h.n - (i + 1)) + 1 by omega]
    exact if_neg e
  · rw [hi.2, show h.n - i = 0 by omega]
    rfl

def ix1_C (x : (DP × Int)) : Cfg := { Γ := Go.Sx.look [], names := true, loops := onlyAt 2 [ixFam (x.1) (x.2)] }
theorem ix1_al (x : (DP × Int)) : Shown (ixP.vc Try.prog (ix1_C x) Try.f31 x) := ⟨@Eq.mp _ _ (by kernel_rfl) (ix1_vc (x.1) (x.2))⟩
theorem ix1_ok : SpOk Try.prog 31 ixP.sp := @Pat.okS _ ixP Try.prog ix1_C 31 Try.f31 (fun x => cfg_nil rfl) (by kernel_rfl) Try.func31 (fun _ => rfl) ix1_al
def ixNP : Pat Int where
  view | [.ptr _ 0 [], .int .i64 n], _ => some n | _, _ => none
  args n := [p0 0, .int .i64 n]
  H _ := [dnil]
  out _ := .retq (.int .i64 (-1))
def ixNFam : Fam where
  α := Bool
  I _ := True
  st _ := { sl := mkSl 26 [(0, p0 0), (5, .int .i64 0)], H := [dnil] }
  μ _ := 0
theorem ixN_vc : ∀ (_ : Int), True → ∀ (v : Int), v = (0 : Int) → ∀ (v : Int), v = (0 : Int) → (∃ (_ : Bool), True ∧ (((True ∧ True) ∧ v = (0 : Int) ∧ True) ∧ ((1 : Nat) ≤ (1 : Nat) ∧ True ∧ True) ∧ True) ∧ True) ∧ ∀ (_ : Bool), True →
  (decide ((0 : Int) < (0 : Int)) = true → False) ∧ (decide ((0 : Int) < (0 : Int)) = false → ∀ (v : Int), v = (-1 : Int) → v = (-1 : Int) ∧ True ∧ ((1 : Nat) ≤ (1 : Nat) ∧ True ∧ True) ∧ True) := by
  simp only [true_and, and_true, Nat.le_refl, decide_eq_true_eq, decide_eq_false_iff_not, true_implies, and_self, Int.not_lt]
  exact fun _ v hv _ _ => ⟨⟨true, by omega⟩, fun _ => ⟨fun h => by omega, fun _ _ h => h⟩⟩

def ixN_C (_ : Int) : Cfg := { Γ := Go.Sx.look [], names := true, loops := onlyAt 2 [ixNFam] }
theorem ixN_al (x : Int) : Shown (ixNP.vc Try.prog (ixN_C x) Try.f31 x) := ⟨@Eq.mp _ _ (by kernel_rfl) (ixN_vc x)⟩
theorem ixN_ok : SpOk Try.prog 31 ixNP.sp := @Pat.okS _ ixNP Try.prog ixN_C 31 Try.f31 (fun x => cfg_nil rfl) (by kernel_rfl) Try.func31 (fun _ => rfl) ixN_al
theorem ixA_ok : SpOk Try.prog 31 (altH nilMe (ixNP.sp) (ixP.sp)) := altH_ok ixN_ok ix1_ok

def drmP : Pat (DP × Int) where
  view | [.ptr r 0 [], .int .i64 n], H => some (viewDP r H, n) | _, _ => none
  args x := [p0 0, .int .i64 x.2]
  H x := [x.1.me 1, x.1.row]
  out x := .need (x.1.Ok ∧ x.1.n ≤ 10000) (.br (x.1.ix x.2 < 0) (.retq .ff)
    (.any (fun g : DP => g.Ok ∧ (g.n = x.1.n - 1 ∧ g.cap = x.1.cap) ∧ ∀ i, g.M i = if i = x.2 then none else x.1.M i) fun g => .ret .tt [g.me 1, g.row]))
def tDrm : Tab := [(31, altH nilMe (ixNP.sp) (ixP.sp))]
theorem tDrm_ok : TabOk Try.prog tDrm := (tab_cons ixA_ok tab_nil)

theorem drm1_vc : ∀ (h : DP) (n : Int), (h.Ok ∧ h.n ≤ (10000 : Nat)) ∧ True → (((True ∧ True) ∧ n = n ∧ True) ∧ ((1 : Nat) ≤ (1 : Nat) ∧ (True ∧ True ∧ (0 : Nat) = (0 : Nat) ∧ h.n = h.n ∧ h.cap = h.cap) ∧ True) ∧ (h.cap * (2 : Nat) ≤
  h.cap * (2 : Nat) ∧ h.n = h.n ∧ ∀ (j : Nat), j < h.n → (h.f j).fst = (h.f j).fst ∧ (h.f j).snd = (h.f j).snd ∧ True) ∧ True) ∧ h.n ≤ (10000 : Nat) ∧ ∀ (v : Int), v = (DP.mk h.n h.cap fun (j : Nat) => ((h.f j).fst, (h.f
  j).snd)).ix n → (decide (v < (0 : Int)) = true → h.Ok ∧ h.n ≤ (10000 : Nat) → (h.ix n < (0 : Int) → True ∧ True ∧ ((1 : Nat) ≤ (1 : Nat) ∧ (True ∧ True ∧ (0 : Nat) = (0 : Nat) ∧ h.n = h.n ∧ h.cap = h.cap) ∧ True) ∧
  (h.cap * (2 : Nat) ≤ h.cap * (2 : Nat) ∧ h.n ≤ h.n ∧ ∀ (j : Nat), j < h.n → (h.f j).fst = (h.f j).fst ∧ (h.f j).snd = (h.f j).snd ∧ True) ∧ True) ∧ (¬h.ix n < (0 : Int) → ∃ (x : DP), (x.Ok ∧ (x.n = h.n - (1 : Nat) ∧
  x.cap = h.cap) ∧ ∀ (i : Int), x.M i = if i = n then none else h.M i) ∧ False ∧ True ∧ ((1 : Nat) ≤ (1 : Nat) ∧ (True ∧ True ∧ (0 : Nat) = (0 : Nat) ∧ h.n = x.n ∧ h.cap = x.cap) ∧ True) ∧ (x.cap * (2 : Nat) ≤ h.cap * (2 :
  Nat) ∧ x.n ≤ h.n ∧ ∀ (j : Nat), j < x.n → (h.f j).fst = (x.f j).fst ∧ (h.f j).snd = (x.f j).snd ∧ True) ∧ True)) ∧ (decide (v < (0 : Int)) = false → (((0 : Int) ≤ v ∧ v ≤ (↑h.cap : Int)) ∧ ((0 : Int) ≤ IntKind.i64.wrap
  (v + (1 : Int)) ∧ IntKind.i64.wrap (v + (1 : Int)) ≤ (↑h.n : Int)) ∧ (if h.cap = (IntKind.i64.wrap (v + (1 : Int))).toNat then (0 : Nat) else (0 : Nat) + (IntKind.i64.wrap (v + (1 : Int))).toNat) + (h.n -
  (IntKind.i64.wrap (v + (1 : Int))).toNat) ≤ h.n ∧ (v.toNat + (h.n - (IntKind.i64.wrap (v + (1 : Int))).toNat) ≤ h.cap → (h.n - (IntKind.i64.wrap (v + (1 : Int))).toNat) * (16 : Nat) ≤ (281474976710656 : Nat) ∧ ((0 : Nat)
  + v.toNat ≤ h.n ∧ ((0 : Nat) + v.toNat + (h.n - (IntKind.i64.wrap (v + (1 : Int))).toNat)) * (2 : Nat) ≤ h.cap * (2 : Nat) ∧ (∀ (_ : Nat), (2 : Nat) = (2 : Nat)) ∧ ∀ (_ : Nat), (2 : Nat) = (2 : Nat)) ∧ (h.Ok ∧ h.n ≤
  (10000 : Nat) → (h.ix n < (0 : Int) → False ∧ True ∧ ((1 : Nat) ≤ (1 : Nat) ∧ (True ∧ True ∧ (0 : Nat) = (0 : Nat) ∧ v.toNat + (h.n - (IntKind.i64.wrap (v + (1 : Int))).toNat) = h.n ∧ h.cap = h.cap) ∧ True) ∧ (h.cap * (2
  : Nat) ≤ h.cap * (2 : Nat) ∧ (h.n ≤ if h.n ≤ (0 : Nat) + v.toNat + (h.n - (IntKind.i64.wrap (v + (1 : Int))).toNat) then (0 : Nat) + v.toNat + (h.n - (IntKind.i64.wrap (v + (1 : Int))).toNat) else h.n) ∧ ∀ (j : Nat), j <
  h.n → (j.blt ((0 : Nat) + v.toNat) = true → (h.f j).fst = (h.f j).fst ∧ (h.f j).snd = (h.f j).snd ∧ True) ∧ (j.blt ((0 : Nat) + v.toNat) = false → (j.blt ((0 : Nat) + v.toNat + (h.n - (IntKind.i64.wrap (v + (1 :
  Int))).toNat)) = true → (h.f ((if h.cap = (IntKind.i64.wrap (v + (1 : Int))).toNat then (0 : Nat) else (0 : Nat) + (IntKind.i64.wrap (v + (1 : Int))).toNat) + (j - ((0 : Nat) + v.toNat)))).fst = (h.f j).fst ∧ (h.f ((if
  h.cap = (IntKind.i64.wrap (v + (1 : Int))).toNat then (0 : Nat) else (0 : Nat) + (IntKind.i64.wrap (v + (1 : Int))).toNat) + (j - ((0 : Nat) + v.toNat)))).snd = (h.f j).snd ∧ True) ∧ (j.blt ((0 : Nat) + v.toNat + (h.n -
  (IntKind.i64.wrap (v + (1 : Int))).toNat)) = false → (h.f j).fst = (h.f j).fst ∧ (h.f j).snd = (h.f j).snd ∧ True))) ∧ True) ∧ (¬h.ix n < (0 : Int) → ∃ (x : DP), (x.Ok ∧ (x.n = h.n - (1 : Nat) ∧ x.cap = h.cap) ∧ ∀ (i :
  Int), x.M i = if i = n then none else h.M i) ∧ True ∧ True ∧ ((1 : Nat) ≤ (1 : Nat) ∧ (True ∧ True ∧ (0 : Nat) = (0 : Nat) ∧ v.toNat + (h.n - (IntKind.i64.wrap (v + (1 : Int))).toNat) = x.n ∧ h.cap = x.cap) ∧ True) ∧
  (x.cap * (2 : Nat) ≤ h.cap * (2 : Nat) ∧ (x.n ≤ if h.n ≤ (0 : Nat) + v.toNat + (h.n - (IntKind.i64.wrap (v + (1 : Int))).toNat) then (0 : Nat) + v.toNat + (h.n - (IntKind.i64.wrap (v + (1 : Int))).toNat) else h.n) ∧ ∀ (j
  : Nat), j < x.n → (j.blt ((0 : Nat) + v.toNat) = true → (h.f j).fst = (x.f j).fst ∧ (h.f j).snd = (x.f j).snd ∧ True) ∧ (j.blt ((0 : Nat) + v.toNat) = false → (j.blt ((0 : Nat) + v.toNat + (h.n - (IntKind.i64.wrap (v +
  (1 : Int))).toNat)) = true → (h.f ((if h.cap = (IntKind.i64.wrap (v + (1 : Int))).toNat then (0 : Nat) else (0 : Nat) + (IntKind.i64.wrap (v + (1 : Int))).toNat) + (j - ((0 : Nat) + v.toNat)))).fst = (x.f j).fst ∧ (h.f
  ((if h.cap = (IntKind.i64.wrap (v + (1 : Int))).toNat then (0 : Nat) else (0 : Nat) + (IntKind.i64.wrap (v + (1 : Int))).toNat) + (j - ((0 : Nat) + v.toNat)))).snd = (x.f j).snd ∧ True) ∧ (j.blt ((0 : Nat) + v.toNat +
  (h.n - (IntKind.i64.wrap (v + (1 : Int))).toNat)) = false → (h.f j).fst = (x.f j).fst ∧ (h.f j).snd = (x.f j).snd ∧ True))) ∧ True))) ∧ (h.cap < v.toNat + (h.n - (IntKind.i64.wrap (v + (1 : Int))).toNat) → ((0 : Nat) +
  v.toNat ≤ h.n ∧ (v.toNat + (h.n - (IntKind.i64.wrap (v + (1 : Int))).toNat)) * (16 : Nat) ≤ (140737488355328 : Nat) ∧ v.toNat + (h.n - (IntKind.i64.wrap (v + (1 : Int))).toNat) ≤ (9223372036854775807 : Nat) ∧ (∀ (_ :
  Nat), (2 : Nat) = (2 : Nat)) ∧ ∀ (_ : Nat), (2 : Nat) = (2 : Nat)) ∧ ∀ (cap' : Nat), v.toNat + (h.n - (IntKind.i64.wrap (v + (1 : Int))).toNat) ≤ cap' → h.Ok ∧ h.n ≤ (10000 : Nat) → (h.ix n < (0 : Int) → False ∧ True ∧
  ((1 : Nat) ≤ (1 : Nat) ∧ (False ∧ True ∧ (0 : Nat) = (0 : Nat) ∧ v.toNat + (h.n - (IntKind.i64.wrap (v + (1 : Int))).toNat) = h.n ∧ cap' = h.cap) ∧ True) ∧ (h.cap * (2 : Nat) ≤ h.cap * (2 : Nat) ∧ h.n ≤ h.n ∧ ∀ (j :
  Nat), j < h.n → (h.f j).fst = (h.f j).fst ∧ (h.f j).snd = (h.f j).snd ∧ True) ∧ True) ∧ (¬h.ix n < (0 : Int) → ∃ (x : DP), (x.Ok ∧ (x.n = h.n - (1 : Nat) ∧ x.cap = h.cap) ∧ ∀ (i : Int), x.M i = if i = n then none else
  h.M i) ∧ True ∧ True ∧ ((1 : Nat) ≤ (1 : Nat) ∧ (False ∧ True ∧ (0 : Nat) = (0 : Nat) ∧ v.toNat + (h.n - (IntKind.i64.wrap (v + (1 : Int))).toNat) = x.n ∧ cap' = x.cap) ∧ True) ∧ (x.cap * (2 : Nat) ≤ h.cap * (2 : Nat) ∧
  x.n ≤ h.n ∧ ∀ (j : Nat), j < x.n → (h.f j).fst = (x.f j).fst ∧ (h.f j).snd = (x.f j).snd ∧ True) ∧ True))) ∧ ((0 : Int) ≤ IntKind.i64.wrap (v + (1 : Int)) ∧ IntKind.i64.wrap (v + (1 : Int)) ≤ (↑h.n : Int)) ∧ ((0 : Int) ≤
  v ∧ v ≤ (↑h.cap : Int)) ∧ (if h.cap = (IntKind.i64.wrap (v + (1 : Int))).toNat then (0 : Nat) else (0 : Nat) + (IntKind.i64.wrap (v + (1 : Int))).toNat) + (h.n - (IntKind.i64.wrap (v + (1 : Int))).toNat) ≤ h.n ∧ (v.toNat
  + (h.n - (IntKind.i64.wrap (v + (1 : Int))).toNat) ≤ h.cap → (h.n - (IntKind.i64.wrap (v + (1 : Int))).toNat) * (16 : Nat) ≤ (281474976710656 : Nat) ∧ ((0 : Nat) + v.toNat ≤ h.n ∧ ((0 : Nat) + v.toNat + (h.n -
  (IntKind.i64.wrap (v + (1 : Int))).toNat)) * (2 : Nat) ≤ h.cap * (2 : Nat) ∧ (∀ (_ : Nat), (2 : Nat) = (2 : Nat)) ∧ ∀ (_ : Nat), (2 : Nat) = (2 : Nat)) ∧ (h.Ok ∧ h.n ≤ (10000 : Nat) → (h.ix n < (0 : Int) → False ∧ True ∧
  ((1 : Nat) ≤ (1 : Nat) ∧ (True ∧ True ∧ (0 : Nat) = (0 : Nat) ∧ v.toNat + (h.n - (IntKind.i64.wrap (v + (1 : Int))).toNat) = h.n ∧ h.cap = h.cap) ∧ True) ∧ (h.cap * (2 : Nat) ≤ h.cap * (2 : Nat) ∧ (h.n ≤ if h.n ≤ (0 :
  Nat) + v.toNat + (h.n - (IntKind.i64.wrap (v + (1 : Int))).toNat) then (0 : Nat) + v.toNat + (h.n - (IntKind.i64.wrap (v + (1 : Int))).toNat) else h.n) ∧ ∀ (j : Nat), j < h.n → (j.blt ((0 : Nat) + v.toNat) = true → (h.f
  j).fst = (h.f j).fst ∧ (h.f j).snd = (h.f j).snd ∧ True) ∧ (j.blt ((0 : Nat) + v.toNat) = false → (j.blt ((0 : Nat) + v.toNat + (h.n - (IntKind.i64.wrap (v + (1 : Int))).toNat)) = true → (h.f ((if h.cap =
  (IntKind.i64.wrap (v + (1 : Int))).toNat then (0 : Nat) else (0 : Nat) + (IntKind.i64.wrap (v + (1 : Int))).toNat) + (j - ((0 : Nat) + v.toNat)))).fst = (h.f j).fst ∧ (h.f ((if h.cap = (IntKind.i64.wrap (v + (1 :
  Int))).toNat then (0 : Nat) else (0 : Nat) + (IntKind.i64.wrap (v + (1 : Int))).toNat) + (j - ((0 : Nat) + v.toNat)))).snd = (h.f j).snd ∧ True) ∧ (j.blt ((0 : Nat) + v.toNat + (h.n - (IntKind.i64.wrap (v + (1 :
  Int))).toNat)) = false → (h.f j).fst = (h.f j).fst ∧ (h.f j).snd = (h.f j).snd ∧ True))) ∧ True) ∧ (¬h.ix n < (0 : Int) → ∃ (x : DP), (x.Ok ∧ (x.n = h.n - (1 : Nat) ∧ x.cap = h.cap) ∧ ∀ (i : Int), x.M i = if i = n then
  none else h.M i) ∧ True ∧ True ∧ ((1 : Nat) ≤ (1 : Nat) ∧ (True ∧ True ∧ (0 : Nat) = (0 : Nat) ∧ v.toNat + (h.n - (IntKind.i64.wrap (v + (1 : Int))).toNat) = x.n ∧ h.cap = x.cap) ∧ True) ∧ (x.cap * (2 : Nat) ≤ h.cap * (2
  : Nat) ∧ (x.n ≤ if h.n ≤ (0 : Nat) + v.toNat + (h.n - (IntKind.i64.wrap (v + (1 : Int))).toNat) then (0 : Nat) + v.toNat + (h.n - (IntKind.i64.wrap (v + (1 : Int))).toNat) else h.n) ∧ ∀ (j : Nat), j < x.n → (j.blt ((0 :
  Nat) + v.toNat) = true → (h.f j).fst = (x.f j).fst ∧ (h.f j).snd = (x.f j).snd ∧ True) ∧ (j.blt ((0 : Nat) + v.toNat) = false → (j.blt ((0 : Nat) + v.toNat + (h.n - (IntKind.i64.wrap (v + (1 : Int))).toNat)) = true →
  (h.f ((if h.cap = (IntKind.i64.wrap (v + (1 : Int))).toNat then (0 : Nat) else (0 : Nat) + (IntKind.i64.wrap (v + (1 : Int))).toNat) + (j - ((0 : Nat) + v.toNat)))).fst = (x.f j).fst ∧ (h.f ((if h.cap = (IntKind.i64.wrap
  (v + (1 : Int))).toNat then (0 : Nat) else (0 : Nat) + (IntKind.i64.wrap (v + (1 : Int))).toNat) + (j - ((0 : Nat) + v.toNat)))).snd = (x.f j).snd ∧ True) ∧ (j.blt ((0 : Nat) + v.toNat + (h.n - (IntKind.i64.wrap (v + (1
  : Int))).toNat)) = false → (h.f j).fst = (x.f j).fst ∧ (h.f j).snd = (x.f j).snd ∧ True))) ∧ True))) ∧ (h.cap < v.toNat + (h.n - (IntKind.i64.wrap (v + (1 : Int))).toNat) → ((0 : Nat) + v.toNat ≤ h.n ∧ (v.toNat + (h.n -
  (IntKind.i64.wrap (v + (1 : Int))).toNat)) * (16 : Nat) ≤ (140737488355328 : Nat) ∧ v.toNat + (h.n - (IntKind.i64.wrap (v + (1 : Int))).toNat) ≤ (9223372036854775807 : Nat) ∧ (∀ (_ : Nat), (2 : Nat) = (2 : Nat)) ∧ ∀ (_ :
  Nat), (2 : Nat) = (2 : Nat)) ∧ ∀ (cap' : Nat), v.toNat + (h.n - (IntKind.i64.wrap (v + (1 : Int))).toNat) ≤ cap' → h.Ok ∧ h.n ≤ (10000 : Nat) → (h.ix n < (0 : Int) → False ∧ True ∧ ((1 : Nat) ≤ (1 : Nat) ∧ (False ∧ True
  ∧ (0 : Nat) = (0 : Nat) ∧ v.toNat + (h.n - (IntKind.i64.wrap (v + (1 : Int))).toNat) = h.n ∧ cap' = h.cap) ∧ True) ∧ (h.cap * (2 : Nat) ≤ h.cap * (2 : Nat) ∧ h.n ≤ h.n ∧ ∀ (j : Nat), j < h.n → (h.f j).fst = (h.f j).fst ∧
  (h.f j).snd = (h.f j).snd ∧ True) ∧ True) ∧ (¬h.ix n < (0 : Int) → ∃ (x : DP), (x.Ok ∧ (x.n = h.n - (1 : Nat) ∧ x.cap = h.cap) ∧ ∀ (i : Int), x.M i = if i = n then none else h.M i) ∧ True ∧ True ∧ ((1 : Nat) ≤ (1 : Nat)
  ∧ (False ∧ True ∧ (0 : Nat) = (0 : Nat) ∧ v.toNat + (h.n - (IntKind.i64.wrap (v + (1 : Int))).toNat) = x.n ∧ cap' = x.cap) ∧ True) ∧ (x.cap * (2 : Nat) ≤ h.cap * (2 : Nat) ∧ x.n ≤ h.n ∧ ∀ (j : Nat), j < x.n → (h.f j).fst
  = (x.f j).fst ∧ (h.f j).snd = (x.f j).snd ∧ True) ∧ True))) := by
  simp only [true_and, and_true, eq_self, Nat.le_refl, decide_eq_true_eq, decide_eq_false_iff_not, implies_true, and_self, Int.not_lt, Nat.zero_add, nblt_true, nblt_false, IntKind.wrap_i64]
  intro h n hn
  refine ⟨hn.2, fun v hv => ?_⟩
  have hv : v = h.ix n := hv
  have hc := hn.1.1
  rcases h.ix_spec n with ⟨h1, h2⟩ | ⟨k, h1, h2, h3⟩
  · exact ⟨fun _ _ h0 => by omega, fun h0 => by omega⟩
  · rw [h2] at hv
    subst hv
    have X : ((k : Int) + 1 + 9223372036854775808) % 18446744073709551616 - 9223372036854775808 = ((k + 1 : Nat) : Int) := by omega
    rw [X]
    simp only [Int.toNat_natCast, h2]
    have Y : ((if h.cap = k + 1 then 0 else k + 1) + (h.n - (k + 1)) ≤ h.n) := by split <;> omega
    have ok : (h.rem k).Is (fun i => if i = n then none else h.M i) := by
      have := DP.rem_is hn.1.2 h1
      rw [h3] at this
      exact this
    refine ⟨fun h0 => by omega, fun _ => ?_⟩
    have Z : (0 ≤ (k : Int) ∧ (k : Int) ≤ h.cap) := by omega
    have Z2 : (0 ≤ ((k + 1 : Nat) : Int) ∧ ((k + 1 : Nat) : Int) ≤ h.n) := by omega
    simp only [Y, Z, Z2, and_self, true_and]
    refine ⟨fun _ => ⟨by omega, by omega, fun _ => ⟨fun h0 => by omega, fun _ => ⟨h.rem k, ⟨ok.ok (show h.n - 1 ≤ h.cap by omega), ⟨rfl, rfl⟩, ok.M⟩, ⟨(by show _ = h.n - 1; omega), rfl⟩, Nat.le_refl _, (by show h.n - 1 ≤ _; split <;> omega), fun j hj => ?_⟩⟩⟩, fun h0 => by omega⟩
    have hj : j < h.n - 1 := hj
    refine ⟨fun a => ?_, fun a => ⟨fun b => ?_, fun b => by omega⟩⟩
    · rw [show (h.rem k).f j = h.f j from if_pos a]
      exact ⟨rfl, rfl⟩
    · rw [show (h.rem k).f j = h.f (j + 1) from if_neg (by omega), show (if h.cap = k + 1 then 0 else k + 1) + (j - k) = j + 1 by (rw [if_neg (by omega)]; omega)]
      exact ⟨rfl, rfl⟩

def drm1_C (_ : (DP × Int)) : Cfg := { Γ := Go.Sx.look tDrm, names := true, lows := true, mode := modeAt 4, louds := lockAt 4 [4, 10] }
theorem drm1_al (x : (DP × Int)) : Shown (drmP.vc Try.prog (drm1_C x) Try.f17 x) := ⟨@Eq.mp _ _ (by kernel_rfl) (drm1_vc (x.1) (x.2))⟩
theorem drm1_ok : SpOk Try.prog 17 drmP.sp := @Pat.okS _ drmP Try.prog drm1_C 17 Try.f17 (fun x => cfg_tab rfl tDrm_ok) (by kernel_rfl) Try.func17 (fun _ => rfl) drm1_al
def drmNP : Pat Int where
  view | [.ptr _ 0 [], .int .i64 n], _ => some n | _, _ => none
  args n := [p0 0, .int .i64 n]
  H _ := [dnil]
  out _ := .retq .ff
theorem drmN_vc : ∀ (n : Int), True → (((True ∧ True) ∧ n = n ∧ True) ∧ ((1 : Nat) ≤ (1 : Nat) ∧ True ∧ True) ∧ True) ∧ ∀ (v : Int), v = (-1 : Int) → (decide (v < (0 : Int)) = true → True ∧ True ∧ ((1 : Nat) ≤ (1 : Nat) ∧ True ∧ True) ∧
  True) ∧ (decide (v < (0 : Int)) = false → (v = (0 : Int) ∧ IntKind.i64.wrap (v + (1 : Int)) = (0 : Int) ∧ ((0 : Nat) = (0 : Nat) → False ∧ True ∧ ((1 : Nat) ≤ (1 : Nat) ∧ True ∧ True) ∧ True) ∧ ((0 : Nat) ≠ (0 : Nat) →
  (0 : Nat) ≤ (140737488355328 : Nat) ∧ (0 : Nat) ≤ (9223372036854775807 : Nat) ∧ ∀ (cap : Nat), (0 : Nat) ≤ cap → False ∧ True ∧ ((1 : Nat) ≤ (1 : Nat) ∧ False ∧ True) ∧ True)) ∧ IntKind.i64.wrap (v + (1 : Int)) = (0 :
  Int) ∧ v = (0 : Int) ∧ ((0 : Nat) = (0 : Nat) → False ∧ True ∧ ((1 : Nat) ≤ (1 : Nat) ∧ True ∧ True) ∧ True) ∧ ((0 : Nat) ≠ (0 : Nat) → (0 : Nat) ≤ (140737488355328 : Nat) ∧ (0 : Nat) ≤ (9223372036854775807 : Nat) ∧ ∀
  (cap : Nat), (0 : Nat) ≤ cap → False ∧ True ∧ ((1 : Nat) ≤ (1 : Nat) ∧ False ∧ True) ∧ True)) := by
  simp only [true_and, and_true, eq_self, Nat.le_refl, decide_eq_true_eq, decide_eq_false_iff_not, implies_true, true_implies, and_self, Int.not_lt, ne_eq, IntKind.wrap_i64]
  exact fun n v hv h0 => by omega

def drmN_C (_ : Int) : Cfg := { Γ := Go.Sx.look tDrm, names := true, lows := true, mode := modeAt 4, louds := lockAt 4 [4, 10] }
theorem drmN_al (x : Int) : Shown (drmNP.vc Try.prog (drmN_C x) Try.f17 x) := ⟨@Eq.mp _ _ (by kernel_rfl) (drmN_vc x)⟩
theorem drmN_ok : SpOk Try.prog 17 drmNP.sp := @Pat.okS _ drmNP Try.prog drmN_C 17 Try.f17 (fun x => cfg_tab rfl tDrm_ok) (by kernel_rfl) Try.func17 (fun _ => rfl) drmN_al
theorem drmA_ok : SpOk Try.prog 17 (altH nilMe (drmNP.sp) (drmP.sp)) := altH_ok drmN_ok drm1_ok

def putP : Pat (DP × Int × Int) where
  view | [.ptr r 0 [], .int .i64 n, .int .u64 q], H => some (viewDP r H, n, q) | _, _ => none
  args x := [p0 0, .int .i64 x.2.1, .int .u64 x.2.2]
  H x := [x.1.me 1, x.1.row]
  out x := .need ((x.1.Ok ∧ x.1.n ≤ 10000) ∧ x.1.M x.2.1 = none)
    (.any (fun g : DP => g.Ok ∧ g.n = x.1.n + 1 ∧ ∀ i, g.M i = if i = x.2.1 then some x.2.2 else x.1.M i) fun g => .ret (.tup .nil) [g.me 2, dead, g.row])
def ptF (h : DP) (n q : Int) : Fam where
  α := Nat
  I i := i ≤ h.n ∧ ∀ j, j < i → ltI (h.f j) (n, q)
  st i := { sl := mkSl 77 [(0, p0 0), (1, .int .i64 n), (2, .int .u64 q), (6, .int .i64 (i : Nat))], H := [h.me 1, h.row] }
  μ i := h.n - i
def ptK (h : DP) (n q : Int) : Fam where
  α := Nat
  I i := (i ≤ h.n ∧ ∀ j, j < i → ltI (h.f j) (n, q)) ∧ (i < h.n → ¬ ltI (h.f i) (n, q))
  st i := { sl := mkSl 77 [(0, p0 0), (1, .int .i64 n), (2, .int .u64 q), (6, .int .i64 (i : Nat))], H := [h.me 1, h.row] }
  μ _ := 0
theorem put1_vc : ∀ (h : DP) (n q : Int), ((h.Ok ∧ h.n ≤ (10000 : Nat)) ∧ h.M n = none) ∧ True → ∀ (v : Int), v = (0 : Int) → ((∃ (y : Nat), (y ≤ h.n ∧ ∀ (j : Nat), j < y → ltI (h.f j) (n, q)) ∧ (((True ∧ True) ∧ n = n ∧ q = q ∧ v = (↑y :
  Int) ∧ True) ∧ ((1 : Nat) ≤ (1 : Nat) ∧ (True ∧ True ∧ (0 : Nat) = (0 : Nat) ∧ h.n = h.n ∧ h.cap = h.cap) ∧ True) ∧ (h.cap * (2 : Nat) ≤ h.cap * (2 : Nat) ∧ h.n ≤ h.n ∧ ∀ (j : Nat), j < h.n → (h.f j).fst = (h.f j).fst ∧
  (h.f j).snd = (h.f j).snd ∧ True) ∧ True) ∧ True) ∧ ∀ (y : Nat), (y ≤ h.n ∧ ∀ (j : Nat), j < y → ltI (h.f j) (n, q)) → (decide ((↑y : Int) < (↑h.n : Int)) = true → ((0 : Int) ≤ (↑y : Int) ∧ (↑y : Int) < (↑h.n : Int)) ∧
  (0 : Nat) + (↑y : Int).toNat < h.n ∧ (decide ((h.f ((0 : Nat) + (↑y : Int).toNat)).snd < q) = true → ∀ (v : Int), v = IntKind.i64.wrap ((↑y : Int) + (1 : Int)) → ∃ (y_1 : Nat), (y_1 ≤ h.n ∧ ∀ (j : Nat), j < y_1 → ltI
  (h.f j) (n, q)) ∧ (((True ∧ True) ∧ n = n ∧ q = q ∧ v = (↑y_1 : Int) ∧ True) ∧ ((1 : Nat) ≤ (1 : Nat) ∧ (True ∧ True ∧ (0 : Nat) = (0 : Nat) ∧ h.n = h.n ∧ h.cap = h.cap) ∧ True) ∧ (h.cap * (2 : Nat) ≤ h.cap * (2 : Nat) ∧
  h.n ≤ h.n ∧ ∀ (j : Nat), j < h.n → (h.f j).fst = (h.f j).fst ∧ (h.f j).snd = (h.f j).snd ∧ True) ∧ True) ∧ (ptF h n q).μ y_1 < (ptF h n q).μ y) ∧ (decide ((h.f ((0 : Nat) + (↑y : Int).toNat)).snd < q) = false → ((0 :
  Int) ≤ (↑y : Int) ∧ (↑y : Int) < (↑h.n : Int)) ∧ (0 : Nat) + (↑y : Int).toNat < h.n ∧ (((h.f ((0 : Nat) + (↑y : Int).toNat)).snd == q) = true → ((0 : Int) ≤ (↑y : Int) ∧ (↑y : Int) < (↑h.n : Int)) ∧ (0 : Nat) + (↑y :
  Int).toNat < h.n ∧ (decide ((h.f ((0 : Nat) + (↑y : Int).toNat)).fst < n) = true → ∀ (v : Int), v = IntKind.i64.wrap ((↑y : Int) + (1 : Int)) → ∃ (y_1 : Nat), (y_1 ≤ h.n ∧ ∀ (j : Nat), j < y_1 → ltI (h.f j) (n, q)) ∧
  (((True ∧ True) ∧ n = n ∧ q = q ∧ v = (↑y_1 : Int) ∧ True) ∧ ((1 : Nat) ≤ (1 : Nat) ∧ (True ∧ True ∧ (0 : Nat) = (0 : Nat) ∧ h.n = h.n ∧ h.cap = h.cap) ∧ True) ∧ (h.cap * (2 : Nat) ≤ h.cap * (2 : Nat) ∧ h.n ≤ h.n ∧ ∀ (j
  : Nat), j < h.n → (h.f j).fst = (h.f j).fst ∧ (h.f j).snd = (h.f j).snd ∧ True) ∧ True) ∧ (ptF h n q).μ y_1 < (ptF h n q).μ y) ∧ (decide ((h.f ((0 : Nat) + (↑y : Int).toNat)).fst < n) = false → ∃ (y_1 : Nat), ((y_1 ≤ h.n
  ∧ ∀ (j : Nat), j < y_1 → ltI (h.f j) (n, q)) ∧ (y_1 < h.n → ¬ltI (h.f y_1) (n, q))) ∧ (((True ∧ True) ∧ n = n ∧ q = q ∧ (↑y : Int) = (↑y_1 : Int) ∧ True) ∧ ((1 : Nat) ≤ (1 : Nat) ∧ (True ∧ True ∧ (0 : Nat) = (0 : Nat) ∧
  h.n = h.n ∧ h.cap = h.cap) ∧ True) ∧ (h.cap * (2 : Nat) ≤ h.cap * (2 : Nat) ∧ h.n ≤ h.n ∧ ∀ (j : Nat), j < h.n → (h.f j).fst = (h.f j).fst ∧ (h.f j).snd = (h.f j).snd ∧ True) ∧ True) ∧ True)) ∧ (((h.f ((0 : Nat) + (↑y :
  Int).toNat)).snd == q) = false → ∃ (y_1 : Nat), ((y_1 ≤ h.n ∧ ∀ (j : Nat), j < y_1 → ltI (h.f j) (n, q)) ∧ (y_1 < h.n → ¬ltI (h.f y_1) (n, q))) ∧ (((True ∧ True) ∧ n = n ∧ q = q ∧ (↑y : Int) = (↑y_1 : Int) ∧ True) ∧ ((1
  : Nat) ≤ (1 : Nat) ∧ (True ∧ True ∧ (0 : Nat) = (0 : Nat) ∧ h.n = h.n ∧ h.cap = h.cap) ∧ True) ∧ (h.cap * (2 : Nat) ≤ h.cap * (2 : Nat) ∧ h.n ≤ h.n ∧ ∀ (j : Nat), j < h.n → (h.f j).fst = (h.f j).fst ∧ (h.f j).snd = (h.f
  j).snd ∧ True) ∧ True) ∧ True))) ∧ (decide ((↑y : Int) < (↑h.n : Int)) = false → ∃ (y_1 : Nat), ((y_1 ≤ h.n ∧ ∀ (j : Nat), j < y_1 → ltI (h.f j) (n, q)) ∧ (y_1 < h.n → ¬ltI (h.f y_1) (n, q))) ∧ (((True ∧ True) ∧ n = n ∧
  q = q ∧ (↑y : Int) = (↑y_1 : Int) ∧ True) ∧ ((1 : Nat) ≤ (1 : Nat) ∧ (True ∧ True ∧ (0 : Nat) = (0 : Nat) ∧ h.n = h.n ∧ h.cap = h.cap) ∧ True) ∧ (h.cap * (2 : Nat) ≤ h.cap * (2 : Nat) ∧ h.n ≤ h.n ∧ ∀ (j : Nat), j < h.n →
  (h.f j).fst = (h.f j).fst ∧ (h.f j).snd = (h.f j).snd ∧ True) ∧ True) ∧ True)) ∧ ∀ (y : Nat), (y ≤ h.n ∧ ∀ (j : Nat), j < y → ltI (h.f j) (n, q)) ∧ (y < h.n → ¬ltI (h.f y) (n, q)) → ((0 : Int) ≤ (↑y : Int) ∧ (↑y : Int) ≤
  (↑h.n : Int)) ∧ (if h.cap = (↑y : Int).toNat then (0 : Nat) else (0 : Nat) + (↑y : Int).toNat) + (h.n - (↑y : Int).toNat) ≤ h.n ∧ ((0 : Nat) + (h.n - (↑y : Int).toNat) ≤ (0 : Nat) → (h.n - (↑y : Int).toNat) * (16 : Nat)
  ≤ (281474976710656 : Nat) ∧ ((0 : Nat) ≤ (0 : Nat) ∧ ((0 : Nat) + (h.n - (↑y : Int).toNat)) * (2 : Nat) ≤ (0 : Nat) ∧ (∀ (_ : Nat), (2 : Nat) = (2 : Nat)) ∧ ∀ (_ : Nat), (2 : Nat) = (2 : Nat)) ∧ ((0 : Int) ≤ (↑y : Int) ∧
  (↑y : Int) ≤ (↑h.cap : Int)) ∧ (1 : Nat) ≤ (1 : Nat) ∧ ((↑y : Int).toNat + (1 : Nat) ≤ h.cap → (16 : Nat) ≤ (281474976710656 : Nat) ∧ ((0 : Nat) + (↑y : Int).toNat ≤ h.n ∧ ((0 : Nat) + (↑y : Int).toNat + (1 : Nat)) * (2
  : Nat) ≤ h.cap * (2 : Nat) ∧ (∀ (_ : Nat), (2 : Nat) = (2 : Nat)) ∧ ∀ (_ : Nat), (2 : Nat) = (2 : Nat)) ∧ ((0 : Nat) + ((0 : Nat) + (h.n - (↑y : Int).toNat)) ≤ if (0 : Nat) ≤ (0 : Nat) + (h.n - (↑y : Int).toNat) then (0
  : Nat) + (h.n - (↑y : Int).toNat) else (0 : Nat)) ∧ ((↑y : Int).toNat + (1 : Nat) + ((0 : Nat) + (h.n - (↑y : Int).toNat)) ≤ h.cap → ((0 : Nat) + (h.n - (↑y : Int).toNat)) * (16 : Nat) ≤ (281474976710656 : Nat) ∧ (((0 :
  Nat) + ((↑y : Int).toNat + (1 : Nat)) ≤ if h.n ≤ (0 : Nat) + (↑y : Int).toNat + (1 : Nat) then (0 : Nat) + (↑y : Int).toNat + (1 : Nat) else h.n) ∧ ((0 : Nat) + ((↑y : Int).toNat + (1 : Nat)) + ((0 : Nat) + (h.n - (↑y :
  Int).toNat))) * (2 : Nat) ≤ h.cap * (2 : Nat) ∧ (∀ (_ : Nat), (2 : Nat) = (2 : Nat)) ∧ ∀ (_ : Nat), (2 : Nat) = (2 : Nat)) ∧ ((h.Ok ∧ h.n ≤ (10000 : Nat)) ∧ h.M n = none → ∃ (x : DP), (x.Ok ∧ x.n = h.n + (1 : Nat) ∧ ∀ (i
  : Int), x.M i = if i = n then some q else h.M i) ∧ True ∧ True ∧ ((1 : Nat) ≤ (1 : Nat) ∧ (True ∧ True ∧ (0 : Nat) = (0 : Nat) ∧ (↑y : Int).toNat + (1 : Nat) + ((0 : Nat) + (h.n - (↑y : Int).toNat)) = x.n ∧ h.cap =
  x.cap) ∧ True) ∧ (0 : Nat) = (0 : Nat) ∧ (x.cap * (2 : Nat) ≤ h.cap * (2 : Nat) ∧ (x.n ≤ if (if h.n ≤ (0 : Nat) + (↑y : Int).toNat + (1 : Nat) then (0 : Nat) + (↑y : Int).toNat + (1 : Nat) else h.n) ≤ (0 : Nat) + ((↑y :
  Int).toNat + (1 : Nat)) + ((0 : Nat) + (h.n - (↑y : Int).toNat)) then (0 : Nat) + ((↑y : Int).toNat + (1 : Nat)) + ((0 : Nat) + (h.n - (↑y : Int).toNat)) else if h.n ≤ (0 : Nat) + (↑y : Int).toNat + (1 : Nat) then (0 :
  Nat) + (↑y : Int).toNat + (1 : Nat) else h.n) ∧ ∀ (j : Nat), j < x.n → (j.blt ((0 : Nat) + ((↑y : Int).toNat + (1 : Nat))) = true → (j.blt ((0 : Nat) + (↑y : Int).toNat) = true → (h.f j).fst = (x.f j).fst ∧ (h.f j).snd =
  (x.f j).snd ∧ True) ∧ (j.blt ((0 : Nat) + (↑y : Int).toNat) = false → (j.blt ((0 : Nat) + (↑y : Int).toNat + (1 : Nat)) = true → n = (x.f j).fst ∧ q = (x.f j).snd ∧ True) ∧ (j.blt ((0 : Nat) + (↑y : Int).toNat + (1 :
  Nat)) = false → (h.f j).fst = (x.f j).fst ∧ (h.f j).snd = (x.f j).snd ∧ True))) ∧ (j.blt ((0 : Nat) + ((↑y : Int).toNat + (1 : Nat))) = false → (j.blt ((0 : Nat) + ((↑y : Int).toNat + (1 : Nat)) + ((0 : Nat) + (h.n - (↑y
  : Int).toNat))) = true → (((0 : Nat) + (j - ((0 : Nat) + ((↑y : Int).toNat + (1 : Nat))))).blt (0 : Nat) = true → (0 : Int) = (x.f j).fst ∧ (0 : Int) = (x.f j).snd ∧ True) ∧ (((0 : Nat) + (j - ((0 : Nat) + ((↑y :
  Int).toNat + (1 : Nat))))).blt (0 : Nat) = false → (((0 : Nat) + (j - ((0 : Nat) + ((↑y : Int).toNat + (1 : Nat))))).blt ((0 : Nat) + (h.n - (↑y : Int).toNat)) = true → (h.f ((if h.cap = (↑y : Int).toNat then (0 : Nat)
  else (0 : Nat) + (↑y : Int).toNat) + ((0 : Nat) + (j - ((0 : Nat) + ((↑y : Int).toNat + (1 : Nat)))) - (0 : Nat)))).fst = (x.f j).fst ∧ (h.f ((if h.cap = (↑y : Int).toNat then (0 : Nat) else (0 : Nat) + (↑y : Int).toNat)
  + ((0 : Nat) + (j - ((0 : Nat) + ((↑y : Int).toNat + (1 : Nat)))) - (0 : Nat)))).snd = (x.f j).snd ∧ True) ∧ (((0 : Nat) + (j - ((0 : Nat) + ((↑y : Int).toNat + (1 : Nat))))).blt ((0 : Nat) + (h.n - (↑y : Int).toNat)) =
  false → (0 : Int) = (x.f j).fst ∧ (0 : Int) = (x.f j).snd ∧ True))) ∧ (j.blt ((0 : Nat) + ((↑y : Int).toNat + (1 : Nat)) + ((0 : Nat) + (h.n - (↑y : Int).toNat))) = false → (j.blt ((0 : Nat) + (↑y : Int).toNat) = true →
  (h.f j).fst = (x.f j).fst ∧ (h.f j).snd = (x.f j).snd ∧ True) ∧ (j.blt ((0 : Nat) + (↑y : Int).toNat) = false → (j.blt ((0 : Nat) + (↑y : Int).toNat + (1 : Nat)) = true → n = (x.f j).fst ∧ q = (x.f j).snd ∧ True) ∧
  (j.blt ((0 : Nat) + (↑y : Int).toNat + (1 : Nat)) = false → (h.f j).fst = (x.f j).fst ∧ (h.f j).snd = (x.f j).snd ∧ True))))) ∧ True)) ∧ (h.cap < (↑y : Int).toNat + (1 : Nat) + ((0 : Nat) + (h.n - (↑y : Int).toNat)) →
  (((0 : Nat) + ((↑y : Int).toNat + (1 : Nat)) ≤ if h.n ≤ (0 : Nat) + (↑y : Int).toNat + (1 : Nat) then (0 : Nat) + (↑y : Int).toNat + (1 : Nat) else h.n) ∧ ((↑y : Int).toNat + (1 : Nat) + ((0 : Nat) + (h.n - (↑y :
  Int).toNat))) * (16 : Nat) ≤ (140737488355328 : Nat) ∧ (↑y : Int).toNat + (1 : Nat) + ((0 : Nat) + (h.n - (↑y : Int).toNat)) ≤ (9223372036854775807 : Nat) ∧ (∀ (_ : Nat), (2 : Nat) = (2 : Nat)) ∧ ∀ (_ : Nat), (2 : Nat) =
  (2 : Nat)) ∧ ∀ (cap' : Nat), (↑y : Int).toNat + (1 : Nat) + ((0 : Nat) + (h.n - (↑y : Int).toNat)) ≤ cap' → (h.Ok ∧ h.n ≤ (10000 : Nat)) ∧ h.M n = none → ∃ (x : DP), (x.Ok ∧ x.n = h.n + (1 : Nat) ∧ ∀ (i : Int), x.M i =
  if i = n then some q else h.M i) ∧ True ∧ True ∧ ((1 : Nat) ≤ (1 : Nat) ∧ (True ∧ True ∧ (0 : Nat) = (0 : Nat) ∧ (↑y : Int).toNat + (1 : Nat) + ((0 : Nat) + (h.n - (↑y : Int).toNat)) = x.n ∧ cap' = x.cap) ∧ True) ∧ (0 :
  Nat) = (0 : Nat) ∧ (x.cap * (2 : Nat) ≤ cap' * (2 : Nat) ∧ x.n ≤ (↑y : Int).toNat + (1 : Nat) + ((0 : Nat) + (h.n - (↑y : Int).toNat)) ∧ ∀ (j : Nat), j < x.n → (j.blt ((↑y : Int).toNat + (1 : Nat)) = true → (((0 : Nat) +
  j).blt ((0 : Nat) + (↑y : Int).toNat) = true → (h.f ((0 : Nat) + j)).fst = (x.f j).fst ∧ (h.f ((0 : Nat) + j)).snd = (x.f j).snd ∧ True) ∧ (((0 : Nat) + j).blt ((0 : Nat) + (↑y : Int).toNat) = false → (((0 : Nat) +
  j).blt ((0 : Nat) + (↑y : Int).toNat + (1 : Nat)) = true → n = (x.f j).fst ∧ q = (x.f j).snd ∧ True) ∧ (((0 : Nat) + j).blt ((0 : Nat) + (↑y : Int).toNat + (1 : Nat)) = false → (h.f ((0 : Nat) + j)).fst = (x.f j).fst ∧
  (h.f ((0 : Nat) + j)).snd = (x.f j).snd ∧ True))) ∧ (j.blt ((↑y : Int).toNat + (1 : Nat)) = false → (((0 : Nat) + (j - ((↑y : Int).toNat + (1 : Nat)))).blt (0 : Nat) = true → (0 : Int) = (x.f j).fst ∧ (0 : Int) = (x.f
  j).snd ∧ True) ∧ (((0 : Nat) + (j - ((↑y : Int).toNat + (1 : Nat)))).blt (0 : Nat) = false → (((0 : Nat) + (j - ((↑y : Int).toNat + (1 : Nat)))).blt ((0 : Nat) + (h.n - (↑y : Int).toNat)) = true → (h.f ((if h.cap = (↑y :
  Int).toNat then (0 : Nat) else (0 : Nat) + (↑y : Int).toNat) + ((0 : Nat) + (j - ((↑y : Int).toNat + (1 : Nat))) - (0 : Nat)))).fst = (x.f j).fst ∧ (h.f ((if h.cap = (↑y : Int).toNat then (0 : Nat) else (0 : Nat) + (↑y :
  Int).toNat) + ((0 : Nat) + (j - ((↑y : Int).toNat + (1 : Nat))) - (0 : Nat)))).snd = (x.f j).snd ∧ True) ∧ (((0 : Nat) + (j - ((↑y : Int).toNat + (1 : Nat)))).blt ((0 : Nat) + (h.n - (↑y : Int).toNat)) = false → (0 :
  Int) = (x.f j).fst ∧ (0 : Int) = (x.f j).snd ∧ True)))) ∧ True)) ∧ (h.cap < (↑y : Int).toNat + (1 : Nat) → ((0 : Nat) + (↑y : Int).toNat ≤ h.n ∧ ((↑y : Int).toNat + (1 : Nat)) * (16 : Nat) ≤ (140737488355328 : Nat) ∧ (↑y
  : Int).toNat + (1 : Nat) ≤ (9223372036854775807 : Nat) ∧ (∀ (_ : Nat), (2 : Nat) = (2 : Nat)) ∧ ∀ (_ : Nat), (2 : Nat) = (2 : Nat)) ∧ ∀ (cap' : Nat), (↑y : Int).toNat + (1 : Nat) ≤ cap' → ((0 : Nat) + ((0 : Nat) + (h.n -
  (↑y : Int).toNat)) ≤ if (0 : Nat) ≤ (0 : Nat) + (h.n - (↑y : Int).toNat) then (0 : Nat) + (h.n - (↑y : Int).toNat) else (0 : Nat)) ∧ ((↑y : Int).toNat + (1 : Nat) + ((0 : Nat) + (h.n - (↑y : Int).toNat)) ≤ cap' → ((0 :
  Nat) + (h.n - (↑y : Int).toNat)) * (16 : Nat) ≤ (281474976710656 : Nat) ∧ ((0 : Nat) + ((↑y : Int).toNat + (1 : Nat)) ≤ (↑y : Int).toNat + (1 : Nat) ∧ ((0 : Nat) + ((↑y : Int).toNat + (1 : Nat)) + ((0 : Nat) + (h.n - (↑y
  : Int).toNat))) * (2 : Nat) ≤ cap' * (2 : Nat) ∧ (∀ (_ : Nat), (2 : Nat) = (2 : Nat)) ∧ ∀ (_ : Nat), (2 : Nat) = (2 : Nat)) ∧ ((h.Ok ∧ h.n ≤ (10000 : Nat)) ∧ h.M n = none → ∃ (x : DP), (x.Ok ∧ x.n = h.n + (1 : Nat) ∧ ∀
  (i : Int), x.M i = if i = n then some q else h.M i) ∧ True ∧ True ∧ ((1 : Nat) ≤ (1 : Nat) ∧ (True ∧ True ∧ (0 : Nat) = (0 : Nat) ∧ (↑y : Int).toNat + (1 : Nat) + ((0 : Nat) + (h.n - (↑y : Int).toNat)) = x.n ∧ cap' =
  x.cap) ∧ True) ∧ (0 : Nat) = (0 : Nat) ∧ (x.cap * (2 : Nat) ≤ cap' * (2 : Nat) ∧ (x.n ≤ if (↑y : Int).toNat + (1 : Nat) ≤ (0 : Nat) + ((↑y : Int).toNat + (1 : Nat)) + ((0 : Nat) + (h.n - (↑y : Int).toNat)) then (0 : Nat)
  + ((↑y : Int).toNat + (1 : Nat)) + ((0 : Nat) + (h.n - (↑y : Int).toNat)) else (↑y : Int).toNat + (1 : Nat)) ∧ ∀ (j : Nat), j < x.n → (j.blt ((0 : Nat) + ((↑y : Int).toNat + (1 : Nat))) = true → (j.blt (↑y : Int).toNat =
  true → (h.f ((0 : Nat) + j)).fst = (x.f j).fst ∧ (h.f ((0 : Nat) + j)).snd = (x.f j).snd ∧ True) ∧ (j.blt (↑y : Int).toNat = false → n = (x.f j).fst ∧ q = (x.f j).snd ∧ True)) ∧ (j.blt ((0 : Nat) + ((↑y : Int).toNat + (1
  : Nat))) = false → (j.blt ((0 : Nat) + ((↑y : Int).toNat + (1 : Nat)) + ((0 : Nat) + (h.n - (↑y : Int).toNat))) = true → (((0 : Nat) + (j - ((0 : Nat) + ((↑y : Int).toNat + (1 : Nat))))).blt (0 : Nat) = true → (0 : Int)
  = (x.f j).fst ∧ (0 : Int) = (x.f j).snd ∧ True) ∧ (((0 : Nat) + (j - ((0 : Nat) + ((↑y : Int).toNat + (1 : Nat))))).blt (0 : Nat) = false → (((0 : Nat) + (j - ((0 : Nat) + ((↑y : Int).toNat + (1 : Nat))))).blt ((0 : Nat)
  + (h.n - (↑y : Int).toNat)) = true → (h.f ((if h.cap = (↑y : Int).toNat then (0 : Nat) else (0 : Nat) + (↑y : Int).toNat) + ((0 : Nat) + (j - ((0 : Nat) + ((↑y : Int).toNat + (1 : Nat)))) - (0 : Nat)))).fst = (x.f j).fst
  ∧ (h.f ((if h.cap = (↑y : Int).toNat then (0 : Nat) else (0 : Nat) + (↑y : Int).toNat) + ((0 : Nat) + (j - ((0 : Nat) + ((↑y : Int).toNat + (1 : Nat)))) - (0 : Nat)))).snd = (x.f j).snd ∧ True) ∧ (((0 : Nat) + (j - ((0 :
  Nat) + ((↑y : Int).toNat + (1 : Nat))))).blt ((0 : Nat) + (h.n - (↑y : Int).toNat)) = false → (0 : Int) = (x.f j).fst ∧ (0 : Int) = (x.f j).snd ∧ True))) ∧ (j.blt ((0 : Nat) + ((↑y : Int).toNat + (1 : Nat)) + ((0 : Nat)
  + (h.n - (↑y : Int).toNat))) = false → (j.blt (↑y : Int).toNat = true → (h.f ((0 : Nat) + j)).fst = (x.f j).fst ∧ (h.f ((0 : Nat) + j)).snd = (x.f j).snd ∧ True) ∧ (j.blt (↑y : Int).toNat = false → n = (x.f j).fst ∧ q =
  (x.f j).snd ∧ True)))) ∧ True)) ∧ (cap' < (↑y : Int).toNat + (1 : Nat) + ((0 : Nat) + (h.n - (↑y : Int).toNat)) → ((0 : Nat) + ((↑y : Int).toNat + (1 : Nat)) ≤ (↑y : Int).toNat + (1 : Nat) ∧ ((↑y : Int).toNat + (1 : Nat)
  + ((0 : Nat) + (h.n - (↑y : Int).toNat))) * (16 : Nat) ≤ (140737488355328 : Nat) ∧ (↑y : Int).toNat + (1 : Nat) + ((0 : Nat) + (h.n - (↑y : Int).toNat)) ≤ (9223372036854775807 : Nat) ∧ (∀ (_ : Nat), (2 : Nat) = (2 :
  Nat)) ∧ ∀ (_ : Nat), (2 : Nat) = (2 : Nat)) ∧ ∀ (cap' : Nat), (↑y : Int).toNat + (1 : Nat) + ((0 : Nat) + (h.n - (↑y : Int).toNat)) ≤ cap' → (h.Ok ∧ h.n ≤ (10000 : Nat)) ∧ h.M n = none → ∃ (x : DP), (x.Ok ∧ x.n = h.n +
  (1 : Nat) ∧ ∀ (i : Int), x.M i = if i = n then some q else h.M i) ∧ True ∧ True ∧ ((1 : Nat) ≤ (1 : Nat) ∧ (True ∧ True ∧ (0 : Nat) = (0 : Nat) ∧ (↑y : Int).toNat + (1 : Nat) + ((0 : Nat) + (h.n - (↑y : Int).toNat)) =
  x.n ∧ cap' = x.cap) ∧ True) ∧ (0 : Nat) = (0 : Nat) ∧ (x.cap * (2 : Nat) ≤ cap' * (2 : Nat) ∧ x.n ≤ (↑y : Int).toNat + (1 : Nat) + ((0 : Nat) + (h.n - (↑y : Int).toNat)) ∧ ∀ (j : Nat), j < x.n → (j.blt ((↑y : Int).toNat
  + (1 : Nat)) = true → (((0 : Nat) + j).blt (↑y : Int).toNat = true → (h.f ((0 : Nat) + ((0 : Nat) + j))).fst = (x.f j).fst ∧ (h.f ((0 : Nat) + ((0 : Nat) + j))).snd = (x.f j).snd ∧ True) ∧ (((0 : Nat) + j).blt (↑y :
  Int).toNat = false → n = (x.f j).fst ∧ q = (x.f j).snd ∧ True)) ∧ (j.blt ((↑y : Int).toNat + (1 : Nat)) = false → (((0 : Nat) + (j - ((↑y : Int).toNat + (1 : Nat)))).blt (0 : Nat) = true → (0 : Int) = (x.f j).fst ∧ (0 :
  Int) = (x.f j).snd ∧ True) ∧ (((0 : Nat) + (j - ((↑y : Int).toNat + (1 : Nat)))).blt (0 : Nat) = false → (((0 : Nat) + (j - ((↑y : Int).toNat + (1 : Nat)))).blt ((0 : Nat) + (h.n - (↑y : Int).toNat)) = true → (h.f ((if
  h.cap = (↑y : Int).toNat then (0 : Nat) else (0 : Nat) + (↑y : Int).toNat) + ((0 : Nat) + (j - ((↑y : Int).toNat + (1 : Nat))) - (0 : Nat)))).fst = (x.f j).fst ∧ (h.f ((if h.cap = (↑y : Int).toNat then (0 : Nat) else (0
  : Nat) + (↑y : Int).toNat) + ((0 : Nat) + (j - ((↑y : Int).toNat + (1 : Nat))) - (0 : Nat)))).snd = (x.f j).snd ∧ True) ∧ (((0 : Nat) + (j - ((↑y : Int).toNat + (1 : Nat)))).blt ((0 : Nat) + (h.n - (↑y : Int).toNat)) =
  false → (0 : Int) = (x.f j).fst ∧ (0 : Int) = (x.f j).snd ∧ True)))) ∧ True))) ∧ ((0 : Nat) < (0 : Nat) + (h.n - (↑y : Int).toNat) → ((0 : Nat) ≤ (0 : Nat) ∧ ((0 : Nat) + (h.n - (↑y : Int).toNat)) * (16 : Nat) ≤
  (140737488355328 : Nat) ∧ (0 : Nat) + (h.n - (↑y : Int).toNat) ≤ (9223372036854775807 : Nat) ∧ (∀ (_ : Nat), (2 : Nat) = (2 : Nat)) ∧ ∀ (_ : Nat), (2 : Nat) = (2 : Nat)) ∧ ∀ (cap' : Nat), (0 : Nat) + (h.n - (↑y :
  Int).toNat) ≤ cap' → ((0 : Int) ≤ (↑y : Int) ∧ (↑y : Int) ≤ (↑h.cap : Int)) ∧ (1 : Nat) ≤ (1 : Nat) ∧ ((↑y : Int).toNat + (1 : Nat) ≤ h.cap → (16 : Nat) ≤ (281474976710656 : Nat) ∧ ((0 : Nat) + (↑y : Int).toNat ≤ h.n ∧
  ((0 : Nat) + (↑y : Int).toNat + (1 : Nat)) * (2 : Nat) ≤ h.cap * (2 : Nat) ∧ (∀ (_ : Nat), (2 : Nat) = (2 : Nat)) ∧ ∀ (_ : Nat), (2 : Nat) = (2 : Nat)) ∧ (0 : Nat) + ((0 : Nat) + (h.n - (↑y : Int).toNat)) ≤ (0 : Nat) +
  (h.n - (↑y : Int).toNat) ∧ ((↑y : Int).toNat + (1 : Nat) + ((0 : Nat) + (h.n - (↑y : Int).toNat)) ≤ h.cap → ((0 : Nat) + (h.n - (↑y : Int).toNat)) * (16 : Nat) ≤ (281474976710656 : Nat) ∧ (((0 : Nat) + ((↑y : Int).toNat
  + (1 : Nat)) ≤ if h.n ≤ (0 : Nat) + (↑y : Int).toNat + (1 : Nat) then (0 : Nat) + (↑y : Int).toNat + (1 : Nat) else h.n) ∧ ((0 : Nat) + ((↑y : Int).toNat + (1 : Nat)) + ((0 : Nat) + (h.n - (↑y : Int).toNat))) * (2 : Nat)
  ≤ h.cap * (2 : Nat) ∧ (∀ (_ : Nat), (2 : Nat) = (2 : Nat)) ∧ ∀ (_ : Nat), (2 : Nat) = (2 : Nat)) ∧ ((h.Ok ∧ h.n ≤ (10000 : Nat)) ∧ h.M n = none → ∃ (x : DP), (x.Ok ∧ x.n = h.n + (1 : Nat) ∧ ∀ (i : Int), x.M i = if i = n
  then some q else h.M i) ∧ True ∧ True ∧ ((1 : Nat) ≤ (1 : Nat) ∧ (True ∧ True ∧ (0 : Nat) = (0 : Nat) ∧ (↑y : Int).toNat + (1 : Nat) + ((0 : Nat) + (h.n - (↑y : Int).toNat)) = x.n ∧ h.cap = x.cap) ∧ True) ∧ (0 : Nat) =
  (0 : Nat) ∧ (x.cap * (2 : Nat) ≤ h.cap * (2 : Nat) ∧ (x.n ≤ if (if h.n ≤ (0 : Nat) + (↑y : Int).toNat + (1 : Nat) then (0 : Nat) + (↑y : Int).toNat + (1 : Nat) else h.n) ≤ (0 : Nat) + ((↑y : Int).toNat + (1 : Nat)) + ((0
  : Nat) + (h.n - (↑y : Int).toNat)) then (0 : Nat) + ((↑y : Int).toNat + (1 : Nat)) + ((0 : Nat) + (h.n - (↑y : Int).toNat)) else if h.n ≤ (0 : Nat) + (↑y : Int).toNat + (1 : Nat) then (0 : Nat) + (↑y : Int).toNat + (1 :
  Nat) else h.n) ∧ ∀ (j : Nat), j < x.n → (j.blt ((0 : Nat) + ((↑y : Int).toNat + (1 : Nat))) = true → (j.blt ((0 : Nat) + (↑y : Int).toNat) = true → (h.f j).fst = (x.f j).fst ∧ (h.f j).snd = (x.f j).snd ∧ True) ∧ (j.blt
  ((0 : Nat) + (↑y : Int).toNat) = false → (j.blt ((0 : Nat) + (↑y : Int).toNat + (1 : Nat)) = true → n = (x.f j).fst ∧ q = (x.f j).snd ∧ True) ∧ (j.blt ((0 : Nat) + (↑y : Int).toNat + (1 : Nat)) = false → (h.f j).fst =
  (x.f j).fst ∧ (h.f j).snd = (x.f j).snd ∧ True))) ∧ (j.blt ((0 : Nat) + ((↑y : Int).toNat + (1 : Nat))) = false → (j.blt ((0 : Nat) + ((↑y : Int).toNat + (1 : Nat)) + ((0 : Nat) + (h.n - (↑y : Int).toNat))) = true → (((0
  : Nat) + (j - ((0 : Nat) + ((↑y : Int).toNat + (1 : Nat))))).blt (0 : Nat) = true → (0 : Int) = (x.f j).fst ∧ (0 : Int) = (x.f j).snd ∧ True) ∧ (((0 : Nat) + (j - ((0 : Nat) + ((↑y : Int).toNat + (1 : Nat))))).blt (0 :
  Nat) = false → (h.f ((if h.cap = (↑y : Int).toNat then (0 : Nat) else (0 : Nat) + (↑y : Int).toNat) + ((0 : Nat) + (j - ((0 : Nat) + ((↑y : Int).toNat + (1 : Nat)))) - (0 : Nat)))).fst = (x.f j).fst ∧ (h.f ((if h.cap =
  (↑y : Int).toNat then (0 : Nat) else (0 : Nat) + (↑y : Int).toNat) + ((0 : Nat) + (j - ((0 : Nat) + ((↑y : Int).toNat + (1 : Nat)))) - (0 : Nat)))).snd = (x.f j).snd ∧ True)) ∧ (j.blt ((0 : Nat) + ((↑y : Int).toNat + (1
  : Nat)) + ((0 : Nat) + (h.n - (↑y : Int).toNat))) = false → (j.blt ((0 : Nat) + (↑y : Int).toNat) = true → (h.f j).fst = (x.f j).fst ∧ (h.f j).snd = (x.f j).snd ∧ True) ∧ (j.blt ((0 : Nat) + (↑y : Int).toNat) = false →
  (j.blt ((0 : Nat) + (↑y : Int).toNat + (1 : Nat)) = true → n = (x.f j).fst ∧ q = (x.f j).snd ∧ True) ∧ (j.blt ((0 : Nat) + (↑y : Int).toNat + (1 : Nat)) = false → (h.f j).fst = (x.f j).fst ∧ (h.f j).snd = (x.f j).snd ∧
  True))))) ∧ True)) ∧ (h.cap < (↑y : Int).toNat + (1 : Nat) + ((0 : Nat) + (h.n - (↑y : Int).toNat)) → (((0 : Nat) + ((↑y : Int).toNat + (1 : Nat)) ≤ if h.n ≤ (0 : Nat) + (↑y : Int).toNat + (1 : Nat) then (0 : Nat) + (↑y
  : Int).toNat + (1 : Nat) else h.n) ∧ ((↑y : Int).toNat + (1 : Nat) + ((0 : Nat) + (h.n - (↑y : Int).toNat))) * (16 : Nat) ≤ (140737488355328 : Nat) ∧ (↑y : Int).toNat + (1 : Nat) + ((0 : Nat) + (h.n - (↑y : Int).toNat))
  ≤ (9223372036854775807 : Nat) ∧ (∀ (_ : Nat), (2 : Nat) = (2 : Nat)) ∧ ∀ (_ : Nat), (2 : Nat) = (2 : Nat)) ∧ ∀ (cap' : Nat), (↑y : Int).toNat + (1 : Nat) + ((0 : Nat) + (h.n - (↑y : Int).toNat)) ≤ cap' → (h.Ok ∧ h.n ≤
  (10000 : Nat)) ∧ h.M n = none → ∃ (x : DP), (x.Ok ∧ x.n = h.n + (1 : Nat) ∧ ∀ (i : Int), x.M i = if i = n then some q else h.M i) ∧ True ∧ True ∧ ((1 : Nat) ≤ (1 : Nat) ∧ (True ∧ True ∧ (0 : Nat) = (0 : Nat) ∧ (↑y :
  Int).toNat + (1 : Nat) + ((0 : Nat) + (h.n - (↑y : Int).toNat)) = x.n ∧ cap' = x.cap) ∧ True) ∧ (0 : Nat) = (0 : Nat) ∧ (x.cap * (2 : Nat) ≤ cap' * (2 : Nat) ∧ x.n ≤ (↑y : Int).toNat + (1 : Nat) + ((0 : Nat) + (h.n - (↑y
  : Int).toNat)) ∧ ∀ (j : Nat), j < x.n → (j.blt ((↑y : Int).toNat + (1 : Nat)) = true → (((0 : Nat) + j).blt ((0 : Nat) + (↑y : Int).toNat) = true → (h.f ((0 : Nat) + j)).fst = (x.f j).fst ∧ (h.f ((0 : Nat) + j)).snd =
  (x.f j).snd ∧ True) ∧ (((0 : Nat) + j).blt ((0 : Nat) + (↑y : Int).toNat) = false → (((0 : Nat) + j).blt ((0 : Nat) + (↑y : Int).toNat + (1 : Nat)) = true → n = (x.f j).fst ∧ q = (x.f j).snd ∧ True) ∧ (((0 : Nat) +
  j).blt ((0 : Nat) + (↑y : Int).toNat + (1 : Nat)) = false → (h.f ((0 : Nat) + j)).fst = (x.f j).fst ∧ (h.f ((0 : Nat) + j)).snd = (x.f j).snd ∧ True))) ∧ (j.blt ((↑y : Int).toNat + (1 : Nat)) = false → (((0 : Nat) + (j -
  ((↑y : Int).toNat + (1 : Nat)))).blt (0 : Nat) = true → (0 : Int) = (x.f j).fst ∧ (0 : Int) = (x.f j).snd ∧ True) ∧ (((0 : Nat) + (j - ((↑y : Int).toNat + (1 : Nat)))).blt (0 : Nat) = false → (h.f ((if h.cap = (↑y :
  Int).toNat then (0 : Nat) else (0 : Nat) + (↑y : Int).toNat) + ((0 : Nat) + (j - ((↑y : Int).toNat + (1 : Nat))) - (0 : Nat)))).fst = (x.f j).fst ∧ (h.f ((if h.cap = (↑y : Int).toNat then (0 : Nat) else (0 : Nat) + (↑y :
  Int).toNat) + ((0 : Nat) + (j - ((↑y : Int).toNat + (1 : Nat))) - (0 : Nat)))).snd = (x.f j).snd ∧ True))) ∧ True)) ∧ (h.cap < (↑y : Int).toNat + (1 : Nat) → ((0 : Nat) + (↑y : Int).toNat ≤ h.n ∧ ((↑y : Int).toNat + (1 :
  Nat)) * (16 : Nat) ≤ (140737488355328 : Nat) ∧ (↑y : Int).toNat + (1 : Nat) ≤ (9223372036854775807 : Nat) ∧ (∀ (_ : Nat), (2 : Nat) = (2 : Nat)) ∧ ∀ (_ : Nat), (2 : Nat) = (2 : Nat)) ∧ ∀ (cap' : Nat), (↑y : Int).toNat +
  (1 : Nat) ≤ cap' → (0 : Nat) + ((0 : Nat) + (h.n - (↑y : Int).toNat)) ≤ (0 : Nat) + (h.n - (↑y : Int).toNat) ∧ ((↑y : Int).toNat + (1 : Nat) + ((0 : Nat) + (h.n - (↑y : Int).toNat)) ≤ cap' → ((0 : Nat) + (h.n - (↑y :
  Int).toNat)) * (16 : Nat) ≤ (281474976710656 : Nat) ∧ ((0 : Nat) + ((↑y : Int).toNat + (1 : Nat)) ≤ (↑y : Int).toNat + (1 : Nat) ∧ ((0 : Nat) + ((↑y : Int).toNat + (1 : Nat)) + ((0 : Nat) + (h.n - (↑y : Int).toNat))) *
  (2 : Nat) ≤ cap' * (2 : Nat) ∧ (∀ (_ : Nat), (2 : Nat) = (2 : Nat)) ∧ ∀ (_ : Nat), (2 : Nat) = (2 : Nat)) ∧ ((h.Ok ∧ h.n ≤ (10000 : Nat)) ∧ h.M n = none → ∃ (x : DP), (x.Ok ∧ x.n = h.n + (1 : Nat) ∧ ∀ (i : Int), x.M i =
  if i = n then some q else h.M i) ∧ True ∧ True ∧ ((1 : Nat) ≤ (1 : Nat) ∧ (True ∧ True ∧ (0 : Nat) = (0 : Nat) ∧ (↑y : Int).toNat + (1 : Nat) + ((0 : Nat) + (h.n - (↑y : Int).toNat)) = x.n ∧ cap' = x.cap) ∧ True) ∧ (0 :
  Nat) = (0 : Nat) ∧ (x.cap * (2 : Nat) ≤ cap' * (2 : Nat) ∧ (x.n ≤ if (↑y : Int).toNat + (1 : Nat) ≤ (0 : Nat) + ((↑y : Int).toNat + (1 : Nat)) + ((0 : Nat) + (h.n - (↑y : Int).toNat)) then (0 : Nat) + ((↑y : Int).toNat +
  (1 : Nat)) + ((0 : Nat) + (h.n - (↑y : Int).toNat)) else (↑y : Int).toNat + (1 : Nat)) ∧ ∀ (j : Nat), j < x.n → (j.blt ((0 : Nat) + ((↑y : Int).toNat + (1 : Nat))) = true → (j.blt (↑y : Int).toNat = true → (h.f ((0 :
  Nat) + j)).fst = (x.f j).fst ∧ (h.f ((0 : Nat) + j)).snd = (x.f j).snd ∧ True) ∧ (j.blt (↑y : Int).toNat = false → n = (x.f j).fst ∧ q = (x.f j).snd ∧ True)) ∧ (j.blt ((0 : Nat) + ((↑y : Int).toNat + (1 : Nat))) = false
  → (j.blt ((0 : Nat) + ((↑y : Int).toNat + (1 : Nat)) + ((0 : Nat) + (h.n - (↑y : Int).toNat))) = true → (((0 : Nat) + (j - ((0 : Nat) + ((↑y : Int).toNat + (1 : Nat))))).blt (0 : Nat) = true → (0 : Int) = (x.f j).fst ∧
  (0 : Int) = (x.f j).snd ∧ True) ∧ (((0 : Nat) + (j - ((0 : Nat) + ((↑y : Int).toNat + (1 : Nat))))).blt (0 : Nat) = false → (h.f ((if h.cap = (↑y : Int).toNat then (0 : Nat) else (0 : Nat) + (↑y : Int).toNat) + ((0 :
  Nat) + (j - ((0 : Nat) + ((↑y : Int).toNat + (1 : Nat)))) - (0 : Nat)))).fst = (x.f j).fst ∧ (h.f ((if h.cap = (↑y : Int).toNat then (0 : Nat) else (0 : Nat) + (↑y : Int).toNat) + ((0 : Nat) + (j - ((0 : Nat) + ((↑y :
  Int).toNat + (1 : Nat)))) - (0 : Nat)))).snd = (x.f j).snd ∧ True)) ∧ (j.blt ((0 : Nat) + ((↑y : Int).toNat + (1 : Nat)) + ((0 : Nat) + (h.n - (↑y : Int).toNat))) = false → (j.blt (↑y : Int).toNat = true → (h.f ((0 :
  Nat) + j)).fst = (x.f j).fst ∧ (h.f ((0 : Nat) + j)).snd = (x.f j).snd ∧ True) ∧ (j.blt (↑y : Int).toNat = false → n = (x.f j).fst ∧ q = (x.f j).snd ∧ True)))) ∧ True)) ∧ (cap' < (↑y : Int).toNat + (1 : Nat) + ((0 : Nat)
  + (h.n - (↑y : Int).toNat)) → ((0 : Nat) + ((↑y : Int).toNat + (1 : Nat)) ≤ (↑y : Int).toNat + (1 : Nat) ∧ ((↑y : Int).toNat + (1 : Nat) + ((0 : Nat) + (h.n - (↑y : Int).toNat))) * (16 : Nat) ≤ (140737488355328 : Nat) ∧
  (↑y : Int).toNat + (1 : Nat) + ((0 : Nat) + (h.n - (↑y : Int).toNat)) ≤ (9223372036854775807 : Nat) ∧ (∀ (_ : Nat), (2 : Nat) = (2 : Nat)) ∧ ∀ (_ : Nat), (2 : Nat) = (2 : Nat)) ∧ ∀ (cap' : Nat), (↑y : Int).toNat + (1 :
  Nat) + ((0 : Nat) + (h.n - (↑y : Int).toNat)) ≤ cap' → (h.Ok ∧ h.n ≤ (10000 : Nat)) ∧ h.M n = none → ∃ (x : DP), (x.Ok ∧ x.n = h.n + (1 : Nat) ∧ ∀ (i : Int), x.M i = if i = n then some q else h.M i) ∧ True ∧ True ∧ ((1 :
  Nat) ≤ (1 : Nat) ∧ (True ∧ True ∧ (0 : Nat) = (0 : Nat) ∧ (↑y : Int).toNat + (1 : Nat) + ((0 : Nat) + (h.n - (↑y : Int).toNat)) = x.n ∧ cap' = x.cap) ∧ True) ∧ (0 : Nat) = (0 : Nat) ∧ (x.cap * (2 : Nat) ≤ cap' * (2 :
  Nat) ∧ x.n ≤ (↑y : Int).toNat + (1 : Nat) + ((0 : Nat) + (h.n - (↑y : Int).toNat)) ∧ ∀ (j : Nat), j < x.n → (j.blt ((↑y : Int).toNat + (1 : Nat)) = true → (((0 : Nat) + j).blt (↑y : Int).toNat = true → (h.f ((0 : Nat) +
  ((0 : Nat) + j))).fst = (x.f j).fst ∧ (h.f ((0 : Nat) + ((0 : Nat) + j))).snd = (x.f j).snd ∧ True) ∧ (((0 : Nat) + j).blt (↑y : Int).toNat = false → n = (x.f j).fst ∧ q = (x.f j).snd ∧ True)) ∧ (j.blt ((↑y : Int).toNat
  + (1 : Nat)) = false → (((0 : Nat) + (j - ((↑y : Int).toNat + (1 : Nat)))).blt (0 : Nat) = true → (0 : Int) = (x.f j).fst ∧ (0 : Int) = (x.f j).snd ∧ True) ∧ (((0 : Nat) + (j - ((↑y : Int).toNat + (1 : Nat)))).blt (0 :
  Nat) = false → (h.f ((if h.cap = (↑y : Int).toNat then (0 : Nat) else (0 : Nat) + (↑y : Int).toNat) + ((0 : Nat) + (j - ((↑y : Int).toNat + (1 : Nat))) - (0 : Nat)))).fst = (x.f j).fst ∧ (h.f ((if h.cap = (↑y :
  Int).toNat then (0 : Nat) else (0 : Nat) + (↑y : Int).toNat) + ((0 : Nat) + (j - ((↑y : Int).toNat + (1 : Nat))) - (0 : Nat)))).snd = (x.f j).snd ∧ True))) ∧ True))) := by
  simp only [true_and, and_true, eq_self, Nat.le_refl, decide_eq_true_eq, decide_eq_false_iff_not, beq_iff_eq, beq_eq_false_iff_ne, implies_true, and_self, Int.not_lt, ne_eq, Nat.zero_add, Int.toNat_natCast, nblt_true, nblt_false, IntKind.wrap_i64]
  rintro h n q ⟨⟨hok, hn⟩, hm⟩ v rfl
  have hM : ∀ i : Nat, (ptF h n q).μ i = h.n - i := fun _ => rfl
  have hc := hok.1
  have e0 : ∀ m y : Nat, m - y ≤ if 0 ≤ m - y then m - y else 0 := fun m y => by rw [if_pos (Nat.zero_le _)]; exact Nat.le_refl _
  simp only [hM, hok, hn, hm, and_self, true_implies, forall_eq, e0, true_and]
  refine ⟨⟨⟨0, ⟨Nat.zero_le _, fun j hj => absurd hj (Nat.not_lt_zero j)⟩, rfl⟩, fun y hy => ⟨fun hlt => ⟨by omega, by omega, fun a => ⟨y + 1, ⟨by omega, fun j hj => ?_⟩, by omega, by omega⟩, fun a => ⟨by omega, by omega, fun b => ⟨by omega, by omega, fun c => ⟨y + 1, ⟨by omega, fun j hj => ?_⟩, by omega, by omega⟩, fun c => ⟨y, ⟨hy, fun _ => ?_⟩, rfl⟩⟩, fun b => ⟨y, ⟨hy, fun _ => ?_⟩, rfl⟩⟩⟩, fun hge => ⟨y, ⟨hy, fun h0 => by omega⟩, rfl⟩⟩⟩, fun y hy => ?_⟩
  · by_cases e : j = y
    · rw [e]; exact .inl a
    · exact hy.2 j (by omega)
  · by_cases e : j = y
    · rw [e]; exact .inr ⟨b, c⟩
    · exact hy.2 j (by omega)
  · unfold ltI; dsimp only; omega
  · unfold ltI; dsimp only; omega
  · obtain ⟨⟨y1, y2⟩, y3⟩ := hy
    have is : ∀ c, (h.ins y (n, q) c).Is (fun i => if i = n then some q else h.M i) := fun c => DP.ins_is hok.2 y1 hm y2 y3
    have ok : ∀ c, h.n + 1 ≤ c → (h.ins y (n, q) c).Ok ∧ (h.ins y (n, q) c).n = h.n + 1 ∧ ∀ i, (h.ins y (n, q) c).M i = if i = n then some q else h.M i := fun c hc => ⟨(is c).ok hc, rfl, (is c).M⟩
    have w1 : ∀ c j, j < y → (h.ins y (n, q) c).f j = h.f j := fun c j hj => if_pos hj
    have w2 : ∀ c j, y ≤ j → j < y + 1 → (h.ins y (n, q) c).f j = (n, q) := fun c j h1 h2 => (if_neg (by omega)).trans (if_pos (by omega))
    have w3 : ∀ c j, y + 1 ≤ j → y < h.n → (h.ins y (n, q) c).f j = h.f ((if h.cap = y then 0 else y) + (j - (y + 1) - 0)) := fun c j h1 h2 => (if_neg (by omega)).trans ((if_neg (by omega)).trans (by rw [if_neg (by omega)]; congr 1; omega))
    have w4 : ∀ c, (h.ins y (n, q) c).n = h.n + 1 := fun _ => rfl
    have w5 : ∀ c, (h.ins y (n, q) c).cap = c := fun _ => rfl
    refine ⟨by omega, by split <;> omega, fun a1 => ⟨by omega, by omega, by omega, fun a2 => ⟨by omega, by omega, fun a3 => ⟨by omega, by split <;> omega, ⟨h.ins y (n, q) h.cap, ok _ (by omega), ⟨by rw [w4]; omega, rfl⟩, Nat.le_refl _, by rw [w4]; split <;> (try split) <;> omega, fun j hj => ?_⟩⟩, fun a3 => ⟨by split <;> omega, fun cap hcap => ⟨h.ins y (n, q) cap, ok _ (by omega), ⟨by rw [w4]; omega, rfl⟩, Nat.le_refl _, by rw [w4]; omega, fun j hj => ?_⟩⟩⟩, fun a2 => ⟨by omega, fun cap hcap => ⟨fun a3 => ⟨by omega, by omega, ⟨h.ins y (n, q) cap, ok _ (by omega), ⟨by rw [w4]; omega, rfl⟩, Nat.le_refl _, by rw [w4]; split <;> omega, fun j hj => ?_⟩⟩, fun a3 => ⟨by omega, fun cap2 hcap2 => ⟨h.ins y (n, q) cap2, ok _ (by omega), ⟨by rw [w4]; omega, rfl⟩, Nat.le_refl _, by rw [w4]; omega, fun j hj => ?_⟩⟩⟩⟩⟩,
      fun a1 => ⟨by omega, fun c0 hc0 => ⟨by omega, fun a2 => ⟨by omega, by omega, fun a3 => ⟨by omega, by split <;> omega, ⟨h.ins y (n, q) h.cap, ok _ (by omega), ⟨by rw [w4]; omega, rfl⟩, Nat.le_refl _, by rw [w4]; split <;> (try split) <;> omega, fun j hj => ?_⟩⟩, fun a3 => ⟨by split <;> omega, fun cap hcap => ⟨h.ins y (n, q) cap, ok _ (by omega), ⟨by rw [w4]; omega, rfl⟩, Nat.le_refl _, by rw [w4]; omega, fun j hj => ?_⟩⟩⟩, fun a2 => ⟨by omega, fun cap hcap => ⟨fun a3 => ⟨by omega, by omega, ⟨h.ins y (n, q) cap, ok _ (by omega), ⟨by rw [w4]; omega, rfl⟩, Nat.le_refl _, by rw [w4]; split <;> omega, fun j hj => ?_⟩⟩, fun a3 => ⟨by omega, fun cap2 hcap2 => ⟨h.ins y (n, q) cap2, ok _ (by omega), ⟨by rw [w4]; omega, rfl⟩, Nat.le_refl _, by rw [w4]; omega, fun j hj => ?_⟩⟩⟩⟩⟩⟩⟩
    all_goals
      rw [w4] at hj
      repeat' first
        | (exfalso; omega)
        | (refine ⟨?_, ?_⟩)
        | (intro _)
        | (rw [w1 _ j (by omega)])
        | (rw [w2 _ j (by omega) (by omega)])
        | (rw [w3 _ j (by omega) (by omega)])
        | rfl

def put1_C (x : (DP × Int × Int)) : Cfg := { Γ := Go.Sx.look [], names := true, lows := true, loops := onlyAt 1 [ptF (x.1) (x.2.1) (x.2.2)], cuts := onlyAt 3 [ptK (x.1) (x.2.1) (x.2.2)] }
theorem put1_al (x : (DP × Int × Int)) : Shown (putP.vc Try.prog (put1_C x) Try.f32 x) := ⟨@Eq.mp _ _ (by kernel_rfl) (put1_vc (x.1) (x.2.1) (x.2.2))⟩
theorem put1_ok : SpOk Try.prog 32 putP.sp := @Pat.okS _ putP Try.prog put1_C 32 Try.f32 (fun x => cfg_nil rfl) (by kernel_rfl) Try.func32 (fun _ => rfl) put1_al
def putNP : Pat (Int × Int) where
  view | [.ptr _ 0 [], .int .i64 n, .int .u64 q], _ => some (n, q) | _, _ => none
  args x := [p0 0, .int .i64 x.1, .int .u64 x.2]
  H _ := [dnil]
  out x := .any (fun g : DP => g.Ok ∧ g.n = 1 ∧ ∀ i, g.M i = if i = x.1 then some x.2 else none) fun g => .ret (.tup .nil) [g.me 1, g.row]
def ptNF (n q : Int) : Fam where
  α := Bool
  I _ := True
  st _ := { sl := mkSl 77 [(0, p0 0), (1, .int .i64 n), (2, .int .u64 q), (6, .int .i64 0)], H := [dnil] }
  μ _ := 0
theorem putN_vc : ∀ (n q : Int), True → ∀ (v : Int), v = (0 : Int) → (∃ (_ : Bool), True ∧ (((True ∧ True) ∧ n = n ∧ q = q ∧ v = (0 : Int) ∧ True) ∧ ((1 : Nat) ≤ (1 : Nat) ∧ True ∧ True) ∧ True) ∧ True) ∧ ∀ (_ : Bool), True → (decide ((0
  : Int) < (0 : Int)) = true → False) ∧ (decide ((0 : Int) < (0 : Int)) = false → (0 : Int) = (0 : Int) ∧ ((0 : Nat) ≤ (0 : Nat) → (0 : Nat) ≤ (281474976710656 : Nat) ∧ ((0 : Nat) ≤ (0 : Nat) ∧ (0 : Nat) ≤ (0 : Nat) ∧ (∀
  (_ : Nat), (2 : Nat) = (2 : Nat)) ∧ ∀ (_ : Nat), (2 : Nat) = (2 : Nat)) ∧ (0 : Int) = (0 : Int) ∧ (1 : Nat) ≤ (1 : Nat) ∧ ((1 : Nat) = (0 : Nat) → ((0 : Nat) ≤ if (0 : Nat) ≤ (0 : Nat) then (0 : Nat) else (0 : Nat)) ∧
  ((0 : Nat) = (0 : Nat) → ∃ (x : DP), (x.Ok ∧ x.n = (1 : Nat) ∧ ∀ (i : Int), x.M i = if i = n then some q else none) ∧ True ∧ False) ∧ ((0 : Nat) ≠ (0 : Nat) → (0 : Nat) ≤ (140737488355328 : Nat) ∧ (0 : Nat) ≤
  (9223372036854775807 : Nat) ∧ ∀ (cap : Nat), (0 : Nat) ≤ cap → ∃ (x : DP), (x.Ok ∧ x.n = (1 : Nat) ∧ ∀ (i : Int), x.M i = if i = n then some q else none) ∧ True ∧ True ∧ ((1 : Nat) ≤ (1 : Nat) ∧ (True ∧ True ∧ (0 : Nat)
  = (0 : Nat) ∧ (0 : Nat) = x.n ∧ cap = x.cap) ∧ True) ∧ (x.cap * (2 : Nat) ≤ cap * (2 : Nat) ∧ x.n ≤ (0 : Nat) ∧ ∀ (j : Nat), j < x.n → (((0 : Nat) + j).blt (0 : Nat) = true → (0 : Int) = (x.f j).fst ∧ (0 : Int) = (x.f
  j).snd ∧ True) ∧ (((0 : Nat) + j).blt (0 : Nat) = false → (((0 : Nat) + j).blt (0 : Nat) = true → False) ∧ (((0 : Nat) + j).blt (0 : Nat) = false → (0 : Int) = (x.f j).fst ∧ (0 : Int) = (x.f j).snd ∧ True))) ∧ True)) ∧
  ((1 : Nat) ≠ (0 : Nat) → (16 : Nat) ≤ (140737488355328 : Nat) ∧ (1 : Nat) ≤ (9223372036854775807 : Nat) ∧ ∀ (cap : Nat), (1 : Nat) ≤ cap → ((0 : Nat) ≤ if (0 : Nat) ≤ (0 : Nat) then (0 : Nat) else (0 : Nat)) ∧ ((1 : Nat)
  ≤ cap → (0 : Nat) ≤ (281474976710656 : Nat) ∧ ((1 : Nat) ≤ (1 : Nat) ∧ (2 : Nat) ≤ cap * (2 : Nat) ∧ (∀ (_ : Nat), (2 : Nat) = (2 : Nat)) ∧ ∀ (_ : Nat), (2 : Nat) = (2 : Nat)) ∧ ∃ (x : DP), (x.Ok ∧ x.n = (1 : Nat) ∧ ∀ (i
  : Int), x.M i = if i = n then some q else none) ∧ True ∧ True ∧ ((1 : Nat) ≤ (1 : Nat) ∧ (True ∧ True ∧ (0 : Nat) = (0 : Nat) ∧ (1 : Nat) = x.n ∧ cap = x.cap) ∧ True) ∧ (x.cap * (2 : Nat) ≤ cap * (2 : Nat) ∧ (x.n ≤ if (1
  : Nat) ≤ (1 : Nat) then (1 : Nat) else (1 : Nat)) ∧ ∀ (j : Nat), j < x.n → (j.blt (1 : Nat) = true → n = (x.f j).fst ∧ q = (x.f j).snd ∧ True) ∧ (j.blt (1 : Nat) = false → (j.blt (1 : Nat) = true → (((0 : Nat) + (j - (1
  : Nat))).blt (0 : Nat) = true → (0 : Int) = (x.f j).fst ∧ (0 : Int) = (x.f j).snd ∧ True) ∧ (((0 : Nat) + (j - (1 : Nat))).blt (0 : Nat) = false → (((0 : Nat) + (j - (1 : Nat))).blt (0 : Nat) = true → False) ∧ (((0 :
  Nat) + (j - (1 : Nat))).blt (0 : Nat) = false → (0 : Int) = (x.f j).fst ∧ (0 : Int) = (x.f j).snd ∧ True))) ∧ (j.blt (1 : Nat) = false → n = (x.f j).fst ∧ q = (x.f j).snd ∧ True))) ∧ True) ∧ (cap < (1 : Nat) → ((1 : Nat)
  ≤ (1 : Nat) ∧ (16 : Nat) ≤ (140737488355328 : Nat) ∧ (1 : Nat) ≤ (9223372036854775807 : Nat) ∧ (∀ (_ : Nat), (2 : Nat) = (2 : Nat)) ∧ ∀ (_ : Nat), (2 : Nat) = (2 : Nat)) ∧ ∀ (cap' : Nat), (1 : Nat) ≤ cap' → ∃ (x : DP),
  (x.Ok ∧ x.n = (1 : Nat) ∧ ∀ (i : Int), x.M i = if i = n then some q else none) ∧ True ∧ True ∧ ((1 : Nat) ≤ (1 : Nat) ∧ (True ∧ True ∧ (0 : Nat) = (0 : Nat) ∧ (1 : Nat) = x.n ∧ cap' = x.cap) ∧ True) ∧ (x.cap * (2 : Nat)
  ≤ cap' * (2 : Nat) ∧ x.n ≤ (1 : Nat) ∧ ∀ (j : Nat), j < x.n → (j.blt (1 : Nat) = true → n = (x.f j).fst ∧ q = (x.f j).snd ∧ True) ∧ (j.blt (1 : Nat) = false → (((0 : Nat) + (j - (1 : Nat))).blt (0 : Nat) = true → (0 :
  Int) = (x.f j).fst ∧ (0 : Int) = (x.f j).snd ∧ True) ∧ (((0 : Nat) + (j - (1 : Nat))).blt (0 : Nat) = false → (((0 : Nat) + (j - (1 : Nat))).blt (0 : Nat) = true → False) ∧ (((0 : Nat) + (j - (1 : Nat))).blt (0 : Nat) =
  false → (0 : Int) = (x.f j).fst ∧ (0 : Int) = (x.f j).snd ∧ True)))) ∧ True))) ∧ ((0 : Nat) < (0 : Nat) → ((0 : Nat) ≤ (0 : Nat) ∧ (0 : Nat) ≤ (140737488355328 : Nat) ∧ (0 : Nat) ≤ (9223372036854775807 : Nat) ∧ (∀ (_ :
  Nat), (2 : Nat) = (2 : Nat)) ∧ ∀ (_ : Nat), (2 : Nat) = (2 : Nat)) ∧ ∀ (cap' : Nat), (0 : Nat) ≤ cap' → (0 : Int) = (0 : Int) ∧ (1 : Nat) ≤ (1 : Nat) ∧ ((1 : Nat) = (0 : Nat) → (0 : Nat) ≤ (0 : Nat) ∧ ((0 : Nat) = (0 :
  Nat) → ∃ (x : DP), (x.Ok ∧ x.n = (1 : Nat) ∧ ∀ (i : Int), x.M i = if i = n then some q else none) ∧ True ∧ False) ∧ ((0 : Nat) ≠ (0 : Nat) → (0 : Nat) ≤ (140737488355328 : Nat) ∧ (0 : Nat) ≤ (9223372036854775807 : Nat) ∧
  ∀ (cap : Nat), (0 : Nat) ≤ cap → ∃ (x : DP), (x.Ok ∧ x.n = (1 : Nat) ∧ ∀ (i : Int), x.M i = if i = n then some q else none) ∧ True ∧ True ∧ ((1 : Nat) ≤ (1 : Nat) ∧ (True ∧ True ∧ (0 : Nat) = (0 : Nat) ∧ (0 : Nat) = x.n
  ∧ cap = x.cap) ∧ True) ∧ (x.cap * (2 : Nat) ≤ cap * (2 : Nat) ∧ x.n ≤ (0 : Nat) ∧ ∀ (j : Nat), j < x.n → (((0 : Nat) + j).blt (0 : Nat) = true → (0 : Int) = (x.f j).fst ∧ (0 : Int) = (x.f j).snd ∧ True) ∧ (((0 : Nat) +
  j).blt (0 : Nat) = false → False)) ∧ True)) ∧ ((1 : Nat) ≠ (0 : Nat) → (16 : Nat) ≤ (140737488355328 : Nat) ∧ (1 : Nat) ≤ (9223372036854775807 : Nat) ∧ ∀ (cap : Nat), (1 : Nat) ≤ cap → (0 : Nat) ≤ (0 : Nat) ∧ ((1 : Nat)
  ≤ cap → (0 : Nat) ≤ (281474976710656 : Nat) ∧ ((1 : Nat) ≤ (1 : Nat) ∧ (2 : Nat) ≤ cap * (2 : Nat) ∧ (∀ (_ : Nat), (2 : Nat) = (2 : Nat)) ∧ ∀ (_ : Nat), (2 : Nat) = (2 : Nat)) ∧ ∃ (x : DP), (x.Ok ∧ x.n = (1 : Nat) ∧ ∀ (i
  : Int), x.M i = if i = n then some q else none) ∧ True ∧ True ∧ ((1 : Nat) ≤ (1 : Nat) ∧ (True ∧ True ∧ (0 : Nat) = (0 : Nat) ∧ (1 : Nat) = x.n ∧ cap = x.cap) ∧ True) ∧ (x.cap * (2 : Nat) ≤ cap * (2 : Nat) ∧ (x.n ≤ if (1
  : Nat) ≤ (1 : Nat) then (1 : Nat) else (1 : Nat)) ∧ ∀ (j : Nat), j < x.n → (j.blt (1 : Nat) = true → n = (x.f j).fst ∧ q = (x.f j).snd ∧ True) ∧ (j.blt (1 : Nat) = false → (j.blt (1 : Nat) = true → (((0 : Nat) + (j - (1
  : Nat))).blt (0 : Nat) = true → (0 : Int) = (x.f j).fst ∧ (0 : Int) = (x.f j).snd ∧ True) ∧ (((0 : Nat) + (j - (1 : Nat))).blt (0 : Nat) = false → False)) ∧ (j.blt (1 : Nat) = false → n = (x.f j).fst ∧ q = (x.f j).snd ∧
  True))) ∧ True) ∧ (cap < (1 : Nat) → ((1 : Nat) ≤ (1 : Nat) ∧ (16 : Nat) ≤ (140737488355328 : Nat) ∧ (1 : Nat) ≤ (9223372036854775807 : Nat) ∧ (∀ (_ : Nat), (2 : Nat) = (2 : Nat)) ∧ ∀ (_ : Nat), (2 : Nat) = (2 : Nat)) ∧
  ∀ (cap' : Nat), (1 : Nat) ≤ cap' → ∃ (x : DP), (x.Ok ∧ x.n = (1 : Nat) ∧ ∀ (i : Int), x.M i = if i = n then some q else none) ∧ True ∧ True ∧ ((1 : Nat) ≤ (1 : Nat) ∧ (True ∧ True ∧ (0 : Nat) = (0 : Nat) ∧ (1 : Nat) =
  x.n ∧ cap' = x.cap) ∧ True) ∧ (x.cap * (2 : Nat) ≤ cap' * (2 : Nat) ∧ x.n ≤ (1 : Nat) ∧ ∀ (j : Nat), j < x.n → (j.blt (1 : Nat) = true → n = (x.f j).fst ∧ q = (x.f j).snd ∧ True) ∧ (j.blt (1 : Nat) = false → (((0 : Nat)
  + (j - (1 : Nat))).blt (0 : Nat) = true → (0 : Int) = (x.f j).fst ∧ (0 : Int) = (x.f j).snd ∧ True) ∧ (((0 : Nat) + (j - (1 : Nat))).blt (0 : Nat) = false → False))) ∧ True)))) := by
  simp only [true_and, and_true, eq_self, Nat.le_refl, decide_eq_true_eq, decide_eq_false_iff_not, implies_true, true_implies, and_self, Int.not_lt, ne_eq, Nat.zero_add, nblt_true, nblt_false, if_true]
  exact fun n q v hv => ⟨⟨true, hv⟩, fun _ => ⟨fun h => by omega, fun _ => ⟨⟨by omega, fun h => by omega, fun _ => ⟨by omega, by omega, fun cap hc => ⟨fun _ => ⟨by omega, by omega, DP.one n q cap, ⟨(DP.one_is n q cap).ok hc, rfl, (DP.one_is n q cap).M⟩, ⟨rfl, rfl⟩, Nat.le_refl _, Nat.le_refl _, fun j hj => ⟨fun _ => ⟨rfl, rfl⟩, fun h => absurd h (Nat.not_le_of_lt hj)⟩⟩, fun h => by omega⟩⟩⟩, fun h => by omega⟩⟩⟩

def putN_C (x : (Int × Int)) : Cfg := { Γ := Go.Sx.look [], names := true, lows := true, loops := onlyAt 1 [ptNF (x.1) (x.2)] }
theorem putN_al (x : (Int × Int)) : Shown (putNP.vc Try.prog (putN_C x) Try.f32 x) := ⟨@Eq.mp _ _ (by kernel_rfl) (putN_vc (x.1) (x.2))⟩
theorem putN_ok : SpOk Try.prog 32 putNP.sp := @Pat.okS _ putNP Try.prog putN_C 32 Try.f32 (fun x => cfg_nil rfl) (by kernel_rfl) Try.func32 (fun _ => rfl) putN_al
theorem putA_ok : SpOk Try.prog 32 (altH nilMe (putNP.sp) (putP.sp)) := altH_ok putN_ok put1_ok

end Go.Proofs.Ytnicidiocncjdaa
