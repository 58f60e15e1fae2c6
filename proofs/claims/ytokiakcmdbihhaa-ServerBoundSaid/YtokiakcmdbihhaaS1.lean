import Derived.Test.YtokiakcmdbihhaaSxOver
import Derived.Test.YtokiakcmdbihhaaMNum
import Derived.Test.YtokiakcmdbihhaaProg
open Go Go.Sx Go.Proofs
set_option maxRecDepth 100000
namespace Go.Proofs.Ytokiakcmdbihhaa

abbrev Chs := List (Int × Int)
def chT (a b : Int) : T := .cons (.int .u64 a) (.cons (.int .u64 b) .nil)
/-- A row of chunks, as it lies in memory. -/
structure CR where
  lo : Nat
  len : Nat
  cap : Nat
  N : Nat
  a : Nat → Int
  b : Nat → Int
def CR.reg (x : CR) : Reg := rowReg 40 x.N 2 (x.lo + x.cap) (fun j => chT (x.a j) (x.b j))
def CR.ro (x : CR) : Reg := { own := false, pl := true, fam := 1, el := 40, tot := fun _ => 0, c := fun _ => .arr x.N 2 (fun j => chT (x.a j) (x.b j)) }
def CR.v (x : CR) (r : Nat) : T := .slice r 0 [] x.lo 2 x.len x.cap
def CR.Ok (x : CR) : Prop := x.lo + x.len ≤ x.N ∧ x.len ≤ x.cap
def CR.L (x : CR) : Chs := (List.range x.len).map fun j => (x.a (x.lo + j), x.b (x.lo + j))
def viewC (t : T) (H : List Reg) : CR :=
  let g := regC H (tRef t)
  ⟨tLo t, tLen t, tCap t, tLen g, fun j => tInt (tAt (tArr g j) 0), fun j => tInt (tAt (tArr g j) 1)⟩
theorem CR.L_len (x : CR) : x.L.length = x.len := by simp [CR.L]
theorem CR.L_get (x : CR) (j : Nat) : x.L[j]? = if j < x.len then some (x.a (x.lo + j), x.b (x.lo + j)) else none := by
  unfold CR.L
  rw [List.getElem?_map]
  by_cases h : j < x.len
  · simp [h]
  · rw [if_neg h, List.getElem?_eq_none (by simp; omega)]; rfl
theorem CR.L_eq {x : CR} {l : Chs} (h : x.len = l.length) (hg : ∀ j, j < x.len → l[j]? = some (x.a (x.lo + j), x.b (x.lo + j))) : x.L = l := by
  apply List.ext_getElem?
  intro j
  rw [x.L_get]
  by_cases hj : j < x.len
  · rw [if_pos hj, hg j hj]
  · rw [if_neg hj, List.getElem?_eq_none (by omega)]

/-! the order of a chunk and a time -/
def cmpI (a b : Int) : Int := if a < b then -1 else if b < a then 1 else 0
def cmpP : Pat (Int × Int × Int) where
  view | [.cons (.int .u64 a) (.cons (.int .u64 b) .nil), .int .u64 t], _ => some (a, b, t) | _, _ => none
  args x := [chT x.1 x.2.1, .int .u64 x.2.2]
  H _ := []
  out x := .retq (.int .i64 (cmpI x.1 x.2.2))
theorem cmp_vc : ∀ (a _ t : Int),
    True →
      ∀ (v : Int),
        v = (0 : Int) →
          (decide (a < t) = true → ∀ (v : Int), v = (-1 : Int) → v = cmpI a t ∧ True ∧ True) ∧
            (decide (a < t) = false →
              (decide (a > t) = true → ∀ (v : Int), v = (1 : Int) → v = cmpI a t ∧ True ∧ True) ∧ (decide (a > t) = false → ∀ (v : Int), v = (0 : Int) → v = cmpI a t ∧ True ∧ True)) := by
  simp only [and_true, decide_eq_true_eq, decide_eq_false_iff_not, true_implies, and_self, Int.not_lt, gt_iff_lt]
  intro a b t
  unfold cmpI
  try dsimp only
  repeat' (with_reducible first | assumption | apply And.intro | intro _)
  all_goals (try simp only [cond_dec, decide_eq_decide] at *)
  all_goals (first | omega | ((repeat' (first | omega | split)) <;> (try dsimp only) <;> (try (first | omega | contradiction | (subst_vars; first | rfl | omega) | (simp_all; done) | (simp_all; omega)))))

def cmp_C (_ : (Int × Int × Int)) : Cfg := { Γ := Go.Sx.look [], names := true }
theorem cmp_al (x : (Int × Int × Int)) : Shown (cmpP.vc Try.prog (cmp_C x) Try.f47 x) := ⟨@Eq.mp _ _ (by kernel_rfl) (cmp_vc (x.1) (x.2.1) (x.2.2))⟩
theorem cmp_ok : SpOk Try.prog 47 cmpP.sp := @Pat.okS _ cmpP Try.prog cmp_C 47 Try.f47 (fun x => cfg_nil rfl) (by kernel_rfl) Try.func47 (fun _ => rfl) cmp_al
def tCmp : Tab := [(47, cmpP.sp)]
theorem tCmp_ok : TabOk Try.prog tCmp := (tab_cons cmp_ok tab_nil)

/-- How many are below a bound (of those that are told, which rise). -/
def lbF (a : Nat → Int) (t : Int) : Nat → Nat
  | 0 => 0
  | m + 1 => if a m < t then m + 1 else lbF a t m
theorem lbF_le (a : Nat → Int) (t : Int) : ∀ n, lbF a t n ≤ n
  | 0 => Nat.le_refl _
  | n + 1 => by
    have := lbF_le a t n
    simp only [lbF]; split <;> omega
theorem lbF_low {a : Nat → Int} {t : Int} : ∀ {n : Nat}, (∀ i j, i < j → j < n → a i < a j) → ∀ j, j < lbF a t n → a j < t
  | 0, _, j, h => by simp [lbF] at h
  | n + 1, hs, j, h => by
    simp only [lbF] at h
    split at h
    · rename_i h1
      by_cases e : j = n
      · rw [e]; exact h1
      · have := hs j n (by omega) (by omega); omega
    · exact lbF_low (fun i j h1 h2 => hs i j h1 (by omega)) j h
theorem lbF_high {a : Nat → Int} {t : Int} : ∀ {n : Nat} (j : Nat), lbF a t n ≤ j → j < n → t ≤ a j
  | 0, j, _, h => by omega
  | n + 1, j, h, hj => by
    simp only [lbF] at h
    split at h
    · omega
    · by_cases e : j = n
      · rw [e]; omega
      · exact lbF_high j h (by omega)
def riseF (a : Nat → Int) (n : Nat) : Prop := ∀ i j, i < j → j < n → a i < a j
theorem lbF_of {a : Nat → Int} {t : Int} {n i : Nat} (hs : riseF a n) (h1 : i ≤ n) (h2 : ∀ j, j < i → a j < t) (h3 : ∀ j, i ≤ j → j < n → t ≤ a j) : lbF a t n = i := by
  have hl := lbF_le a t n
  rcases Nat.lt_trichotomy (lbF a t n) i with h | h | h
  · have a1 := h2 _ h
    have a2 := lbF_high (t := t) (lbF a t n) (Nat.le_refl _) (by omega)
    omega
  · exact h
  · have a1 := lbF_low hs i h
    have a2 := h3 i (Nat.le_refl _) (by omega)
    omega
def CR.at_ (x : CR) (j : Nat) : Int := x.a (x.lo + j)
def bsP : Pat (CR × Int) where
  view | [t, .int .u64 k, .fn 47 .nil], H => some (viewC t H, k) | _, _ => none
  args x := [x.1.v 0, .int .u64 x.2, .fn 47 .nil]
  H x := [x.1.ro]
  out x := .need (x.1.lo + x.1.len ≤ x.1.N ∧ x.1.len ≤ 1000 ∧ riseF x.1.at_ x.1.len) (.retq (.tup (.cons (.int .i64 (lbF x.1.at_ x.2 x.1.len)) (.cons (.bool (decide (lbF x.1.at_ x.2 x.1.len < x.1.len ∧ x.1.at_ (lbF x.1.at_ x.2 x.1.len) = x.2)) ) .nil))))
def bsF (x : CR) (k : Int) : Fam where
  α := Nat × Nat
  I y := y.1 ≤ y.2 ∧ y.2 ≤ x.len ∧ (∀ j, j < y.1 → x.at_ j < k) ∧ (∀ j, y.2 ≤ j → j < x.len → k ≤ x.at_ j)
  st y := { sl := mkSl 49 [(0, x.v 0), (1, .int .u64 k), (2, .fn 47 .nil), (8, .int .i64 x.len), (9, .int .i64 y.1), (10, .int .i64 y.2)], H := [x.ro] }
  μ y := y.2 - y.1
theorem bs_vc : ∀ (x : CR) (k : Int),
    (x.lo + x.len ≤ x.N ∧ x.len ≤ (1000 : Nat) ∧ riseF x.at_ x.len) ∧ True →
      ∀ (v : Int),
        v = (0 : Int) →
          ∀ (v : Int),
            v = (↑x.len : Int) →
              ∀ (v_1 : Int),
                v_1 = (0 : Int) →
                  ∀ (v_2 : Int),
                    v_2 = v →
                      (∃ (y : Nat × Nat),
                          (y.fst ≤ y.snd ∧ y.snd ≤ x.len ∧ (∀ (j : Nat), j < y.fst → x.at_ j < k) ∧ ∀ (j : Nat), y.snd ≤ j → j < x.len → k ≤ x.at_ j) ∧
                            (((True ∧ True ∧ x.lo = x.lo ∧ x.len = x.len ∧ x.cap = x.cap) ∧ k = k ∧ True ∧ v = (↑x.len : Int) ∧ v_1 = (↑y.fst : Int) ∧ v_2 = (↑y.snd : Int) ∧ True) ∧
                                ((0 : Nat) ≤ (0 : Nat) ∧ x.N = x.N ∧ ∀ (j : Nat), j < x.N → x.a j = x.a j ∧ x.b j = x.b j ∧ True) ∧ True) ∧
                              True) ∧
                        ∀ (y : Nat × Nat),
                          (y.fst ≤ y.snd ∧ y.snd ≤ x.len ∧ (∀ (j : Nat), j < y.fst → x.at_ j < k) ∧ ∀ (j : Nat), y.snd ≤ j → j < x.len → k ≤ x.at_ j) →
                            (decide ((↑y.fst : Int) < (↑y.snd : Int)) = true →
                                (0 : Int) ≤ (1 : Int) ∧
                                  ∀ (v : Int),
                                    v =
                                        IntKind.i64.wrap
                                          ((IntKind.u64.wrap (IntKind.i64.wrap ((↑y.fst : Int) + (↑y.snd : Int)))).fdiv ((2 : Int) ^ min (Int.toNat (1 : Int)) IntKind.u64.bits)) →
                                      ((0 : Int) ≤ v ∧ v < (↑x.len : Int)) ∧
                                        x.lo + v.toNat < x.N ∧
                                          (((x.a (x.lo + v.toNat) = x.a (x.lo + v.toNat) ∧ x.b (x.lo + v.toNat) = x.b (x.lo + v.toNat) ∧ True) ∧ k = k ∧ True) ∧ True) ∧
                                            (decide (cmpI (x.a (x.lo + v.toNat)) k < (0 : Int)) = true →
                                                ∀ (v_3 : Int),
                                                  v_3 = IntKind.i64.wrap (v + (1 : Int)) →
                                                    ∃ (y_1 : Nat × Nat),
                                                      (y_1.fst ≤ y_1.snd ∧
                                                          y_1.snd ≤ x.len ∧ (∀ (j : Nat), j < y_1.fst → x.at_ j < k) ∧ ∀ (j : Nat), y_1.snd ≤ j → j < x.len → k ≤ x.at_ j) ∧
                                                        (((True ∧ True ∧ x.lo = x.lo ∧ x.len = x.len ∧ x.cap = x.cap) ∧
                                                              k = k ∧ True ∧ (↑x.len : Int) = (↑x.len : Int) ∧ v_3 = (↑y_1.fst : Int) ∧ (↑y.snd : Int) = (↑y_1.snd : Int) ∧ True) ∧
                                                            ((0 : Nat) ≤ (0 : Nat) ∧ x.N = x.N ∧ ∀ (j : Nat), j < x.N → x.a j = x.a j ∧ x.b j = x.b j ∧ True) ∧ True) ∧
                                                          (bsF x k).μ y_1 < (bsF x k).μ y) ∧
                                              (decide (cmpI (x.a (x.lo + v.toNat)) k < (0 : Int)) = false →
                                                ∀ (v_3 : Int),
                                                  v_3 = v →
                                                    ∃ (y_1 : Nat × Nat),
                                                      (y_1.fst ≤ y_1.snd ∧
                                                          y_1.snd ≤ x.len ∧ (∀ (j : Nat), j < y_1.fst → x.at_ j < k) ∧ ∀ (j : Nat), y_1.snd ≤ j → j < x.len → k ≤ x.at_ j) ∧
                                                        (((True ∧ True ∧ x.lo = x.lo ∧ x.len = x.len ∧ x.cap = x.cap) ∧
                                                              k = k ∧ True ∧ (↑x.len : Int) = (↑x.len : Int) ∧ (↑y.fst : Int) = (↑y_1.fst : Int) ∧ v_3 = (↑y_1.snd : Int) ∧ True) ∧
                                                            ((0 : Nat) ≤ (0 : Nat) ∧ x.N = x.N ∧ ∀ (j : Nat), j < x.N → x.a j = x.a j ∧ x.b j = x.b j ∧ True) ∧ True) ∧
                                                          (bsF x k).μ y_1 < (bsF x k).μ y)) ∧
                              (decide ((↑y.fst : Int) < (↑y.snd : Int)) = false →
                                (decide ((↑y.fst : Int) < (↑x.len : Int)) = true →
                                    ((0 : Int) ≤ (↑y.fst : Int) ∧ (↑y.fst : Int) < (↑x.len : Int)) ∧
                                      x.lo + (↑y.fst : Int).toNat < x.N ∧
                                        (((x.a (x.lo + (↑y.fst : Int).toNat) = x.a (x.lo + (↑y.fst : Int).toNat) ∧
                                                x.b (x.lo + (↑y.fst : Int).toNat) = x.b (x.lo + (↑y.fst : Int).toNat) ∧ True) ∧
                                              k = k ∧ True) ∧
                                            True) ∧
                                          ∀ (v : Int),
                                            v = (↑y.fst : Int) →
                                              x.lo + x.len ≤ x.N ∧ x.len ≤ (1000 : Nat) ∧ riseF x.at_ x.len →
                                                (v = (↑(lbF x.at_ k x.len) : Int) ∧
                                                    (cmpI (x.a (x.lo + (↑y.fst : Int).toNat)) k == (0 : Int)) = decide (lbF x.at_ k x.len < x.len ∧ x.at_ (lbF x.at_ k x.len) = k) ∧
                                                      True) ∧
                                                  True ∧ ((0 : Nat) ≤ (0 : Nat) ∧ x.N = x.N ∧ ∀ (j : Nat), j < x.N → x.a j = x.a j ∧ x.b j = x.b j ∧ True) ∧ True) ∧
                                  (decide ((↑y.fst : Int) < (↑x.len : Int)) = false →
                                    ∀ (v : Int),
                                      v = (↑y.fst : Int) →
                                        x.lo + x.len ≤ x.N ∧ x.len ≤ (1000 : Nat) ∧ riseF x.at_ x.len →
                                          (v = (↑(lbF x.at_ k x.len) : Int) ∧ decide (lbF x.at_ k x.len < x.len ∧ x.at_ (lbF x.at_ k x.len) = k) = false ∧ True) ∧
                                            True ∧ ((0 : Nat) ≤ (0 : Nat) ∧ x.N = x.N ∧ ∀ (j : Nat), j < x.N → x.a j = x.a j ∧ x.b j = x.b j ∧ True) ∧ True)) := by
  simp only [true_and, and_true, eq_self, Nat.le_refl, decide_eq_true_eq, decide_eq_false_iff_not, implies_true, and_self, Int.not_lt, Int.toNat_natCast, IntKind.wrap_u64, IntKind.wrap_i64]
  rintro x k ⟨hN, hlen, hs⟩ _ rfl _ rfl _ rfl _ rfl
  have hM : ∀ z : Nat × Nat, (bsF x k).μ z = z.2 - z.1 := fun _ => rfl
  have hat : ∀ j, x.a (x.lo + j) = x.at_ j := fun _ => rfl
  simp only [hM]
  refine ⟨⟨(0, x.len), ⟨Nat.zero_le _, Nat.le_refl _, fun j hj => absurd hj (Nat.not_lt_zero j), fun j h1 h2 => by dsimp only at h1; omega⟩, by first | trivial | exact ⟨rfl, rfl, rfl⟩⟩, fun y hy => ?_⟩
  obtain ⟨i, j⟩ := y
  obtain ⟨y1, y2, y3, y4⟩ := hy
  dsimp only at y1 y2 y3 y4 ⊢
  refine ⟨fun hlt => ⟨by decide, fun v hv => ?_⟩, fun hge => ?_⟩
  · have ev : v = ((i + j) / 2 : Nat) := by
      have e1 : ((((i : Int) + j + 9223372036854775808) % 18446744073709551616 - 9223372036854775808) % 18446744073709551616) = ((i + j : Nat) : Int) := by omega
      have e2 : ((i + j : Nat) : Int) / 2 = (((i + j) / 2 : Nat) : Int) := by omega
      rw [hv, show min (Int.toNat (1 : Int)) IntKind.u64.bits = 1 from rfl, fdiv_pow, show (2 : Int) ^ 1 = 2 from rfl, e1, e2]
      generalize (i + j) / 2 = m at *
      omega
    clear hv
    generalize hm : (i + j) / 2 = m at ev
    subst ev
    simp only [Int.toNat_natCast, hat]
    refine ⟨by omega, by omega, fun h v2 hv2 => ⟨(m + 1, j), ⟨by dsimp only; omega, y2, fun j' hj' => ?_, y4⟩, ⟨by dsimp only; omega, rfl⟩, by dsimp only; omega⟩,
      fun h v2 hv2 => ⟨(i, m), ⟨by dsimp only; omega, by dsimp only; omega, y3, fun j' h1 h2 => ?_⟩, ⟨rfl, by dsimp only; omega⟩, by dsimp only; omega⟩⟩
    · have hk : x.at_ m < k := by unfold cmpI at h; split at h <;> first | assumption | (split at h <;> omega)
      dsimp only at hj'
      by_cases e : j' = m
      · rw [e]; exact hk
      · have := hs j' m (by omega) (by omega); omega
    · have hk : k ≤ x.at_ m := by unfold cmpI at h; split at h <;> omega
      dsimp only at h1
      by_cases e : j' = m
      · rw [e]; exact hk
      · have := hs m j' (by omega) h2; omega
  · have e : i = j := by omega
    subst e
    have hl : lbF x.at_ k x.len = i := lbF_of hs y2 y3 y4
    rw [hl]
    refine ⟨fun h => ⟨by omega, by omega, fun v hv _ => ⟨hv, ?_⟩⟩, fun h v hv _ => ⟨hv, fun q => by omega⟩⟩
    rw [hat]
    unfold cmpI
    by_cases h1 : x.at_ i < k
    · rw [if_pos h1, decide_eq_false (by omega)]; rfl
    · rw [if_neg h1]
      by_cases h2 : k < x.at_ i
      · rw [if_pos h2, decide_eq_false (by omega)]; rfl
      · rw [if_neg h2, decide_eq_true (by omega)]; rfl

def bs_C (x : (CR × Int)) : Cfg := { Γ := Go.Sx.look tCmp, names := true, loops := onlyAt 3 [bsF (x.1) (x.2)] }
theorem bs_al (x : (CR × Int)) : Shown (bsP.vc Try.prog (bs_C x) Try.f46 x) := ⟨@Eq.mp _ _ (by kernel_rfl) (bs_vc (x.1) (x.2))⟩
theorem bs_ok : SpOk Try.prog 46 bsP.sp := @Pat.okS _ bsP Try.prog bs_C 46 Try.f46 (fun x => cfg_tab rfl tCmp_ok) (by kernel_rfl) Try.func46 (fun _ => rfl) bs_al

theorem ovl_ok : SpOk Try.prog 49 ovSp :=
  ov_ok (t := 37) (tR := 4) (e := 40) (sz := 2) (fun args w => run_callFunc_extern Try.func49 (by kernel_rfl) (by kernel_rfl) (by kernel_rfl) (e := Extern.SlicesOverlaps.overlaps #[37, 37] #[4]) (by kernel_rfl) args w)
    (by kernel_rfl) (fun w => by
      obtain ⟨i, hi, h⟩ : ∃ i, Try.prog.info? 40 = some i ∧ i.size = 2 := by
        cases e : Try.prog.info? 40 with
        | none => exact absurd (show (Try.prog.info? 40).isSome = true from by kernel_rfl) (by rw [e]; decide)
        | some i => exact ⟨i, rfl, by have h : ((Try.prog.info? 40).map (·.size)) = some 2 := by kernel_rfl
                                      rw [e] at h; simpa using h⟩
      rw [run_sizeOf w hi]
      simp only [Program.cellsOf, hi]
      first | rw [h] | simp [h])
end Go.Proofs.Ytokiakcmdbihhaa
