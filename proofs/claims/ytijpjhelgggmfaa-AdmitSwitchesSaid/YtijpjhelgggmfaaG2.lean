import Derived.Test.YtijpjhelgggmfaaG1
open Go Go.Sx Go.Proofs
set_option maxRecDepth 100000
namespace Go.Proofs.Ytijpjhelgggmfaa

def LL.fst (e : LL) : Int := e.t (e.am (e.n - 1))
def LL.sq (b : LL) : Nat → Int
  | 0 => 0
  | j + 1 => b.sq j + b.q j
def swL (b e : LL) : Int := (b.cat e).W - (b.cat e).U
def swH (b e : LL) : Int × Int := lestO (swL b e) ((b.cat e).W * b.sq b.n)
def swFine (b e : LL) (h : Int) : Prop := ∀ t : Nat, t < (max e.fst h).toNat + 1 → e.fst ≤ t → swd b e t ≤ t
instance (b e : LL) (h : Int) : Decidable (swFine b e h) := by unfold swFine; infer_instance
def swO (b e : LL) : Bool × Int := if ¬ (b.cat e).right then (false, 11) else if e.n = 0 then (true, 0) else if (b.cat e).W ≤ (b.cat e).U then (false, 0) else if ¬ (swH b e).2 = 0 then (false, (swH b e).2) else (decide (swFine b e (swH b e).1), 0)
theorem LL.cat_right {b e : LL} (h : (b.cat e).right) : b.right ∧ e.right := by
  obtain ⟨h1, h2⟩ := h
  have h1 : b.n + e.n ≤ 8 := h1
  refine ⟨⟨by omega, fun j hj => ?_⟩, ⟨by omega, fun j hj => ?_⟩⟩
  · have := h2 j (by show j < b.n + e.n; omega)
    obtain ⟨a1, a2, a3⟩ := LL.cat_lo (b := b) (e := e) (j := j) hj
    rw [a1, a2, a3] at this
    exact this
  · have := h2 (b.n + j) (by show b.n + j < b.n + e.n; omega)
    obtain ⟨a1, a2, a3⟩ := LL.cat_hi (b := b) (e := e) (j := b.n + j) (by omega)
    rw [a1, a2, a3, Nat.add_sub_cancel_left] at this
    exact this
theorem LL.sq_bd {b : LL} (h : b.right) : ∀ m, m ≤ b.n → 0 ≤ b.sq m ∧ b.sq m ≤ m * 8192
  | 0, _ => ⟨Int.le_refl _, by simp [LL.sq]⟩
  | m + 1, hm => by
    have := LL.sq_bd h m (by omega)
    have hr := h.2 m (by omega)
    unfold rightE at hr
    simp only [LL.sq]
    omega
theorem LL.step {l : LL} (h : l.right) {t : Int} (hd : ∀ j, j < l.n → ¬ l.t j ∣ t) : ∀ m, m ≤ l.n → l.bas t m = l.bas (t - 1) m ∧ l.exs t m = l.exs (t - 1) m
  | 0, _ => ⟨rfl, rfl⟩
  | m + 1, hm => by
    obtain ⟨i1, i2⟩ := LL.step h hd m (by omega)
    have hr := h.2 m (by omega)
    unfold rightE at hr
    have := ediv_step (a := t) (b := l.t m) (by omega) (hd m (by omega))
    simp only [LL.bas, LL.exs, i1, i2, this, and_self]
theorem swd_step {b e : LL} (h : (b.cat e).right) {t : Int} (hd : ∀ j, j < b.n + e.n → ¬ (b.cat e).t j ∣ t) : swd b e t = swd b e (t - 1) := by
  obtain ⟨hb, he⟩ := LL.cat_right h
  unfold swd
  have h1 : ∀ j, j < b.n → ¬ b.t j ∣ t := fun j hj => by
    have := hd j (by omega)
    rwa [(LL.cat_lo (b := b) (e := e) (j := j) hj).2.2] at this
  have h2 : ∀ j, j < e.n → ¬ e.t j ∣ t := fun j hj => by
    have := hd (b.n + j) (by omega)
    rwa [(LL.cat_hi (b := b) (e := e) (j := b.n + j) (by omega)).2.2, Nat.add_sub_cancel_left] at this
  rw [(LL.step hb h1 b.n (Nat.le_refl _)).1, (LL.step he h2 e.n (Nat.le_refl _)).2]
theorem LL.fst_bd {e : LL} (h : e.right) (hn : e.n ≠ 0) : 1 ≤ e.fst ∧ e.fst ≤ 8192 := by
  have := h.2 (e.am (e.n - 1)) (by have := e.am_le (e.n - 1); omega)
  unfold rightE at this
  unfold LL.fst
  omega
theorem swFine_iff {b e : LL} (h : (b.cat e).right) (hn : e.n ≠ 0) (H : Int) : swFine b e H ↔ swd b e e.fst ≤ e.fst ∧ ∀ j, j < b.n + e.n → ∀ c : Int, e.fst ≤ (b.cat e).t j * c → (b.cat e).t j * c ≤ H → swd b e ((b.cat e).t j * c) ≤ (b.cat e).t j * c := by
  have hF := LL.fst_bd (LL.cat_right h).2 hn
  unfold swFine
  generalize e.fst = F at *
  constructor
  · intro hf
    refine ⟨?_, fun j hj c h1 h2 => ?_⟩
    · have := hf F.toNat (by omega) (by omega)
      rwa [show ((F.toNat : Nat) : Int) = F by omega] at this
    · have := hf ((b.cat e).t j * c).toNat (by omega) (by omega)
      rwa [show ((((b.cat e).t j * c).toNat : Nat) : Int) = (b.cat e).t j * c by omega] at this
  · rintro ⟨h1, h2⟩ t
    induction t with
    | zero => intro _ h; omega
    | succ t ih =>
      intro h3 h4
      by_cases e0 : ((t + 1 : Nat) : Int) = F
      · rw [e0]; exact h1
      · by_cases hd : ∀ j, j < b.n + e.n → ¬ (b.cat e).t j ∣ ((t + 1 : Nat) : Int)
        · rw [swd_step h hd, show ((t + 1 : Nat) : Int) - 1 = t by omega]
          have := ih (by omega) (by omega)
          omega
        · simp only [Classical.not_forall, Decidable.not_not] at hd
          obtain ⟨j, hj, c, hc⟩ := hd
          have := h2 j hj c (by omega) (by omega)
          rw [← hc] at this
          exact this
def rowLS (l : LL) (c : Nat) : LS := ⟨false, 0, l.n, c, l.n, l.k, l.q, l.t⟩
theorem rowLS_l (l : LL) (c : Nat) : (rowLS l c).l = l := by
  show LL.mk l.n (fun j => l.k (0 + j)) (fun j => l.q (0 + j)) (fun j => l.t (0 + j)) = l
  simp only [Nat.zero_add]
theorem rowLS_ok (l : LL) (c : Nat) : (rowLS l c).Ok := ⟨fun h => (nomatch h), by show 0 + l.n ≤ l.n; omega⟩
def swP : Pat (LS × LS) where
  view | [a, b], H => some (viewL a H, viewL b H) | _, _ => none
  args x := [x.1.v 0, x.2.v 1]
  H x := [x.1.reg, x.2.reg]
  out x := .need ((x.1.Ok ∧ x.2.Ok) ∧ x.1.len ≤ 100 ∧ x.2.len ≤ 100) (.retq (.tup (.cons (.bool (swO x.1.l x.2.l).1) (.cons (.int .i64 (swO x.1.l x.2.l).2) .nil))))
def allT (x y : LS) (c : Nat) : T := .slice 2 0 [] 0 3 (x.len + y.len) c
def swC1 (x y : LS) : Fam where
  α := Nat
  I _ := (x.l.cat y.l).right ∧ y.len ≠ 0
  st c := { sl := mkSl 99 [(0, x.v 0), (1, y.v 1), (6, allT x y c)], H := [x.reg, y.reg, (x.l.cat y.l).row c] }
  μ _ := 0
structure SWI where
  i : Nat
  c : Nat
def swPt (x y : LS) : Reg := newReg 59 (partsT (x.l.cat y.l).W (x.l.cat y.l).U (x.l.cat y.l).S)
def swF1 (x y : LS) : Fam where
  α := SWI
  I z := z.i ≤ x.len ∧ (x.l.cat y.l).right ∧ y.len ≠ 0 ∧ (x.l.cat y.l).U < (x.l.cat y.l).W
  st z := { sl := mkSl 99 [(0, x.v 0), (1, y.v 1), (6, allT x y z.c), (7, p0 3), (8, .int .u64 (x.l.sq z.i)), (32, x.v 0), (33, .int .i64 x.len), (34, .int .i64 z.i)], H := [x.reg, y.reg, (x.l.cat y.l).row z.c, swPt x y] }
  μ z := x.len - z.i
def swG (x y : LS) : Prop := (x.l.cat y.l).right ∧ y.len ≠ 0 ∧ (x.l.cat y.l).U < (x.l.cat y.l).W ∧ (swH x.l y.l).2 = 0 ∧ swd x.l y.l y.l.fst ≤ y.l.fst
def swF2 (x y : LS) : Fam where
  α := SWI
  I z := z.i ≤ x.len + y.len ∧ swG x y ∧ ∀ j, j < z.i → ∀ c : Int, y.l.fst ≤ (x.l.cat y.l).t j * c → (x.l.cat y.l).t j * c ≤ (swH x.l y.l).1 → swd x.l y.l ((x.l.cat y.l).t j * c) ≤ (x.l.cat y.l).t j * c
  st z := { sl := mkSl 99 [(0, x.v 0), (1, y.v 1), (11, .int .u64 (swH x.l y.l).1), (13, .int .u64 y.l.fst), (68, allT x y z.c), (69, .int .i64 ((x.len + y.len : Nat) : Int)), (70, .int .i64 z.i)], H := [x.reg, y.reg, (x.l.cat y.l).row z.c] }
  μ z := x.len + y.len - z.i
structure SWJ where
  m : Nat
  c : Nat
/-- The first multiple of a period that is not ahead of the first one. -/
def swB (x y : LS) (j : Nat) : Int := (y.l.fst + (x.l.cat y.l).t j - 1) / (x.l.cat y.l).t j
def swF3 (x y : LS) (u : Nat) : Fam where
  α := SWJ
  I z := (x.l.cat y.l).t u * (swB x y u + z.m) ≤ (swH x.l y.l).1 + 16384 ∧ ∀ k : Nat, k < z.m → swd x.l y.l ((x.l.cat y.l).t u * (swB x y u + k)) ≤ (x.l.cat y.l).t u * (swB x y u + k)
  st z := { sl := mkSl 99 [(0, x.v 0), (1, y.v 1), (11, .int .u64 (swH x.l y.l).1), (13, .int .u64 y.l.fst), (15, p0 3), (16, .int .u64 ((x.l.cat y.l).t u * (swB x y u + z.m))), (68, allT x y z.c), (69, .int .i64 ((x.len + y.len : Nat) : Int)), (70, .int .i64 (u : Nat))], H := [x.reg, y.reg, (x.l.cat y.l).row z.c, newReg 40 (ldT ((x.l.cat y.l).k u) ((x.l.cat y.l).q u) ((x.l.cat y.l).t u))] }
  μ z := ((swH x.l y.l).1 + 16385 - (x.l.cat y.l).t u * (swB x y u + z.m)).toNat
def swLo (x y : LS) : Nat → Gam
  | 11 => .l [swF1 x y]
  | 22 => .l [swF2 x y]
  | 25 => .g fun u => [swF3 x y u]
  | _ => .l []
def swCu (x y : LS) : Nat → Gam
  | 6 => .l [swC1 x y]
  | _ => .l []
def tSw : Tab := [(46, catP.sp), (12, altSp 0 (RightNP.sp) (RightP.sp)), (32, sumP.sp), (34, fullP.sp), (36, wminP.sp), (47, timesP.sp), (35, leastP.sp), (48, minP.sp), (50, swdP.sp)]
theorem tSw_ok : TabOk Try.prog tSw := (tab_cons cat_ok (tab_cons RightA_ok (tab_cons sum_ok (tab_cons full_ok (tab_cons wmin_ok (tab_cons times_ok (tab_cons least_ok (tab_cons mini_ok (tab_cons swd_ok tab_nil)))))))))

theorem sw_vc : ∀ (x y : LS), ((x.Ok ∧ y.Ok) ∧ x.len ≤ (100 : Nat) ∧ y.len ≤ (100 : Nat)) ∧ True → ∀ (v : Int), v = (0 : Int) → (((True ∧ True ∧ (0 : Nat) = (0 : Nat) ∧ (2 : Nat) = (2 : Nat) ∧ (2 : Nat) = (2 : Nat)) ∧ True) ∧ ((0 : Nat)
  ≤ (0 : Nat) ∧ x.n = x.n ∧ ∀ (j : Nat), j < x.n → x.k j = x.k j ∧ x.q j = x.q j ∧ x.t j = x.t j ∧ True) ∧ ((0 : Nat) ≤ (0 : Nat) ∧ y.n = y.n ∧ ∀ (j : Nat), j < y.n → y.k j = y.k j ∧ y.q j = y.q j ∧ y.t j = y.t j ∧ True) ∧
  ((0 : Nat) ≤ (2 : Nat) ∧ (2 : Nat) = (2 : Nat) ∧ ∀ (j : Nat), j < (2 : Nat) → j.beq (0 : Nat) = j.beq (0 : Nat) ∧ (j.beq (0 : Nat) = true → (x.nil = true → x.nil = true) ∧ (x.nil = false → x.nil = false ∧ True ∧ True ∧
  x.lo = x.lo ∧ x.len = x.len ∧ x.cap = x.cap)) ∧ (j.beq (0 : Nat) = false → (y.nil = true → y.nil = true) ∧ (y.nil = false → y.nil = false ∧ True ∧ True ∧ y.lo = y.lo ∧ y.len = y.len ∧ y.cap = y.cap))) ∧ True) ∧ ((x.Ok ∧
  y.Ok) ∧ x.len ≤ (100 : Nat) ∧ y.len ≤ (100 : Nat)) ∧ (x.len + y.len = (0 : Nat) → ((True ∧ True) ∧ True) ∧ ((y.nil = true → y.len = (0 : Nat)) ∧ (((↑y.len : Int) == (0 : Int)) = true → ∀ (v : Int), v = (0 : Int) → (x.Ok
  ∧ y.Ok) ∧ x.len ≤ (100 : Nat) ∧ y.len ≤ (100 : Nat) → ((swO x.l y.l).fst = true ∧ v = (swO x.l y.l).snd ∧ True) ∧ True ∧ ((0 : Nat) ≤ (0 : Nat) ∧ x.n = x.n ∧ ∀ (j : Nat), j < x.n → x.k j = x.k j ∧ x.q j = x.q j ∧ x.t j =
  x.t j ∧ True) ∧ ((0 : Nat) ≤ (0 : Nat) ∧ y.n = y.n ∧ ∀ (j : Nat), j < y.n → y.k j = y.k j ∧ y.q j = y.q j ∧ y.t j = y.t j ∧ True) ∧ True) ∧ (((↑y.len : Int) == (0 : Int)) = false → ∃ (_ : Nat), ((x.l.cat y.l).right ∧
  y.len ≠ (0 : Nat)) ∧ False ∧ True)) ∧ ∀ (y_1 : Nat), (x.l.cat y.l).right ∧ y.len ≠ (0 : Nat) → (((false = false ∧ True ∧ True ∧ (0 : Nat) = (0 : Nat) ∧ x.len + y.len = x.len + y.len ∧ y_1 = y_1) ∧ True) ∧ ((0 : Nat) ≤
  y_1 * (3 : Nat) ∧ (x.l.cat y.l).n = (x.l.cat y.l).n ∧ ∀ (j : Nat), j < (x.l.cat y.l).n → (x.l.cat y.l).k j = (x.l.cat y.l).k j ∧ (x.l.cat y.l).q j = (x.l.cat y.l).q j ∧ (x.l.cat y.l).t j = (x.l.cat y.l).t j ∧ True) ∧
  True) ∧ ((LS.mk false (0 : Nat) (x.len + y.len) y_1 (x.l.cat y.l).n (x.l.cat y.l).k (x.l.cat y.l).q (x.l.cat y.l).t).Ok ∧ (LS.mk false (0 : Nat) (x.len + y.len) y_1 (x.l.cat y.l).n (x.l.cat y.l).k (x.l.cat y.l).q
  (x.l.cat y.l).t).l.right) ∧ (((((LS.mk false (0 : Nat) (x.len + y.len) y_1 (x.l.cat y.l).n (x.l.cat y.l).k (x.l.cat y.l).q (x.l.cat y.l).t).l.prod (x.len + y.len) / (18446744073709551616 : Int) = (LS.mk false (0 : Nat)
  (x.len + y.len) y_1 (x.l.cat y.l).n (x.l.cat y.l).k (x.l.cat y.l).q (x.l.cat y.l).t).l.prod (x.len + y.len) / (18446744073709551616 : Int) ∧ (LS.mk false (0 : Nat) (x.len + y.len) y_1 (x.l.cat y.l).n (x.l.cat y.l).k
  (x.l.cat y.l).q (x.l.cat y.l).t).l.prod (x.len + y.len) % (18446744073709551616 : Int) = (LS.mk false (0 : Nat) (x.len + y.len) y_1 (x.l.cat y.l).n (x.l.cat y.l).k (x.l.cat y.l).q (x.l.cat y.l).t).l.prod (x.len + y.len)
  % (18446744073709551616 : Int) ∧ True) ∧ ((LS.mk false (0 : Nat) (x.len + y.len) y_1 (x.l.cat y.l).n (x.l.cat y.l).k (x.l.cat y.l).q (x.l.cat y.l).t).l.use ((LS.mk false (0 : Nat) (x.len + y.len) y_1 (x.l.cat y.l).n
  (x.l.cat y.l).k (x.l.cat y.l).q (x.l.cat y.l).t).l.prod (x.len + y.len)) (x.len + y.len) / (18446744073709551616 : Int) = (LS.mk false (0 : Nat) (x.len + y.len) y_1 (x.l.cat y.l).n (x.l.cat y.l).k (x.l.cat y.l).q
  (x.l.cat y.l).t).l.use ((LS.mk false (0 : Nat) (x.len + y.len) y_1 (x.l.cat y.l).n (x.l.cat y.l).k (x.l.cat y.l).q (x.l.cat y.l).t).l.prod (x.len + y.len)) (x.len + y.len) / (18446744073709551616 : Int) ∧ (LS.mk false (0
  : Nat) (x.len + y.len) y_1 (x.l.cat y.l).n (x.l.cat y.l).k (x.l.cat y.l).q (x.l.cat y.l).t).l.use ((LS.mk false (0 : Nat) (x.len + y.len) y_1 (x.l.cat y.l).n (x.l.cat y.l).k (x.l.cat y.l).q (x.l.cat y.l).t).l.prod (x.len
  + y.len)) (x.len + y.len) % (18446744073709551616 : Int) = (LS.mk false (0 : Nat) (x.len + y.len) y_1 (x.l.cat y.l).n (x.l.cat y.l).k (x.l.cat y.l).q (x.l.cat y.l).t).l.use ((LS.mk false (0 : Nat) (x.len + y.len) y_1
  (x.l.cat y.l).n (x.l.cat y.l).k (x.l.cat y.l).q (x.l.cat y.l).t).l.prod (x.len + y.len)) (x.len + y.len) % (18446744073709551616 : Int) ∧ True) ∧ ((LS.mk false (0 : Nat) (x.len + y.len) y_1 (x.l.cat y.l).n (x.l.cat
  y.l).k (x.l.cat y.l).q (x.l.cat y.l).t).l.slk ((LS.mk false (0 : Nat) (x.len + y.len) y_1 (x.l.cat y.l).n (x.l.cat y.l).k (x.l.cat y.l).q (x.l.cat y.l).t).l.prod (x.len + y.len)) (x.len + y.len) / (18446744073709551616 :
  Int) = (LS.mk false (0 : Nat) (x.len + y.len) y_1 (x.l.cat y.l).n (x.l.cat y.l).k (x.l.cat y.l).q (x.l.cat y.l).t).l.slk ((LS.mk false (0 : Nat) (x.len + y.len) y_1 (x.l.cat y.l).n (x.l.cat y.l).k (x.l.cat y.l).q
  (x.l.cat y.l).t).l.prod (x.len + y.len)) (x.len + y.len) / (18446744073709551616 : Int) ∧ (LS.mk false (0 : Nat) (x.len + y.len) y_1 (x.l.cat y.l).n (x.l.cat y.l).k (x.l.cat y.l).q (x.l.cat y.l).t).l.slk ((LS.mk false (0
  : Nat) (x.len + y.len) y_1 (x.l.cat y.l).n (x.l.cat y.l).k (x.l.cat y.l).q (x.l.cat y.l).t).l.prod (x.len + y.len)) (x.len + y.len) % (18446744073709551616 : Int) = (LS.mk false (0 : Nat) (x.len + y.len) y_1 (x.l.cat
  y.l).n (x.l.cat y.l).k (x.l.cat y.l).q (x.l.cat y.l).t).l.slk ((LS.mk false (0 : Nat) (x.len + y.len) y_1 (x.l.cat y.l).n (x.l.cat y.l).k (x.l.cat y.l).q (x.l.cat y.l).t).l.prod (x.len + y.len)) (x.len + y.len) %
  (18446744073709551616 : Int) ∧ True) ∧ True) ∧ True) ∧ True) ∧ ((((0 : Int) ≤ (LS.mk false (0 : Nat) (x.len + y.len) y_1 (x.l.cat y.l).n (x.l.cat y.l).k (x.l.cat y.l).q (x.l.cat y.l).t).l.prod (x.len + y.len) /
  (18446744073709551616 : Int) ∧ (LS.mk false (0 : Nat) (x.len + y.len) y_1 (x.l.cat y.l).n (x.l.cat y.l).k (x.l.cat y.l).q (x.l.cat y.l).t).l.prod (x.len + y.len) / (18446744073709551616 : Int) < (18446744073709551616 :
  Int)) ∧ (0 : Int) ≤ (LS.mk false (0 : Nat) (x.len + y.len) y_1 (x.l.cat y.l).n (x.l.cat y.l).k (x.l.cat y.l).q (x.l.cat y.l).t).l.prod (x.len + y.len) % (18446744073709551616 : Int) ∧ (LS.mk false (0 : Nat) (x.len +
  y.len) y_1 (x.l.cat y.l).n (x.l.cat y.l).k (x.l.cat y.l).q (x.l.cat y.l).t).l.prod (x.len + y.len) % (18446744073709551616 : Int) < (18446744073709551616 : Int)) ∧ ((0 : Int) ≤ (LS.mk false (0 : Nat) (x.len + y.len) y_1
  (x.l.cat y.l).n (x.l.cat y.l).k (x.l.cat y.l).q (x.l.cat y.l).t).l.use ((LS.mk false (0 : Nat) (x.len + y.len) y_1 (x.l.cat y.l).n (x.l.cat y.l).k (x.l.cat y.l).q (x.l.cat y.l).t).l.prod (x.len + y.len)) (x.len + y.len)
  / (18446744073709551616 : Int) ∧ (LS.mk false (0 : Nat) (x.len + y.len) y_1 (x.l.cat y.l).n (x.l.cat y.l).k (x.l.cat y.l).q (x.l.cat y.l).t).l.use ((LS.mk false (0 : Nat) (x.len + y.len) y_1 (x.l.cat y.l).n (x.l.cat
  y.l).k (x.l.cat y.l).q (x.l.cat y.l).t).l.prod (x.len + y.len)) (x.len + y.len) / (18446744073709551616 : Int) < (18446744073709551616 : Int)) ∧ (0 : Int) ≤ (LS.mk false (0 : Nat) (x.len + y.len) y_1 (x.l.cat y.l).n
  (x.l.cat y.l).k (x.l.cat y.l).q (x.l.cat y.l).t).l.use ((LS.mk false (0 : Nat) (x.len + y.len) y_1 (x.l.cat y.l).n (x.l.cat y.l).k (x.l.cat y.l).q (x.l.cat y.l).t).l.prod (x.len + y.len)) (x.len + y.len) %
  (18446744073709551616 : Int) ∧ (LS.mk false (0 : Nat) (x.len + y.len) y_1 (x.l.cat y.l).n (x.l.cat y.l).k (x.l.cat y.l).q (x.l.cat y.l).t).l.use ((LS.mk false (0 : Nat) (x.len + y.len) y_1 (x.l.cat y.l).n (x.l.cat y.l).k
  (x.l.cat y.l).q (x.l.cat y.l).t).l.prod (x.len + y.len)) (x.len + y.len) % (18446744073709551616 : Int) < (18446744073709551616 : Int)) ∧ (decide (wcmp ((LS.mk false (0 : Nat) (x.len + y.len) y_1 (x.l.cat y.l).n (x.l.cat
  y.l).k (x.l.cat y.l).q (x.l.cat y.l).t).l.use ((LS.mk false (0 : Nat) (x.len + y.len) y_1 (x.l.cat y.l).n (x.l.cat y.l).k (x.l.cat y.l).q (x.l.cat y.l).t).l.prod (x.len + y.len)) (x.len + y.len) / (18446744073709551616 :
  Int)) ((LS.mk false (0 : Nat) (x.len + y.len) y_1 (x.l.cat y.l).n (x.l.cat y.l).k (x.l.cat y.l).q (x.l.cat y.l).t).l.use ((LS.mk false (0 : Nat) (x.len + y.len) y_1 (x.l.cat y.l).n (x.l.cat y.l).k (x.l.cat y.l).q
  (x.l.cat y.l).t).l.prod (x.len + y.len)) (x.len + y.len) % (18446744073709551616 : Int)) ((LS.mk false (0 : Nat) (x.len + y.len) y_1 (x.l.cat y.l).n (x.l.cat y.l).k (x.l.cat y.l).q (x.l.cat y.l).t).l.prod (x.len + y.len)
  / (18446744073709551616 : Int)) ((LS.mk false (0 : Nat) (x.len + y.len) y_1 (x.l.cat y.l).n (x.l.cat y.l).k (x.l.cat y.l).q (x.l.cat y.l).t).l.prod (x.len + y.len) % (18446744073709551616 : Int)) ≥ (0 : Int)) = true → ∀
  (v : Int), v = (0 : Int) → (x.Ok ∧ y.Ok) ∧ x.len ≤ (100 : Nat) ∧ y.len ≤ (100 : Nat) → ((swO x.l y.l).fst = false ∧ v = (swO x.l y.l).snd ∧ True) ∧ True ∧ ((0 : Nat) ≤ (0 : Nat) ∧ x.n = x.n ∧ ∀ (j : Nat), j < x.n → x.k j
  = x.k j ∧ x.q j = x.q j ∧ x.t j = x.t j ∧ True) ∧ ((0 : Nat) ≤ (0 : Nat) ∧ y.n = y.n ∧ ∀ (j : Nat), j < y.n → y.k j = y.k j ∧ y.q j = y.q j ∧ y.t j = y.t j ∧ True) ∧ True) ∧ (decide (wcmp ((LS.mk false (0 : Nat) (x.len +
  y.len) y_1 (x.l.cat y.l).n (x.l.cat y.l).k (x.l.cat y.l).q (x.l.cat y.l).t).l.use ((LS.mk false (0 : Nat) (x.len + y.len) y_1 (x.l.cat y.l).n (x.l.cat y.l).k (x.l.cat y.l).q (x.l.cat y.l).t).l.prod (x.len + y.len))
  (x.len + y.len) / (18446744073709551616 : Int)) ((LS.mk false (0 : Nat) (x.len + y.len) y_1 (x.l.cat y.l).n (x.l.cat y.l).k (x.l.cat y.l).q (x.l.cat y.l).t).l.use ((LS.mk false (0 : Nat) (x.len + y.len) y_1 (x.l.cat
  y.l).n (x.l.cat y.l).k (x.l.cat y.l).q (x.l.cat y.l).t).l.prod (x.len + y.len)) (x.len + y.len) % (18446744073709551616 : Int)) ((LS.mk false (0 : Nat) (x.len + y.len) y_1 (x.l.cat y.l).n (x.l.cat y.l).k (x.l.cat y.l).q
  (x.l.cat y.l).t).l.prod (x.len + y.len) / (18446744073709551616 : Int)) ((LS.mk false (0 : Nat) (x.len + y.len) y_1 (x.l.cat y.l).n (x.l.cat y.l).k (x.l.cat y.l).q (x.l.cat y.l).t).l.prod (x.len + y.len) %
  (18446744073709551616 : Int)) ≥ (0 : Int)) = false → ∀ (v : Int), v = (0 : Int) → (x.nil = true → x.len = (0 : Nat)) ∧ (∃ (y_2 : SWI), (y_2.i ≤ x.len ∧ (x.l.cat y.l).right ∧ y.len ≠ (0 : Nat) ∧ (x.l.cat y.l).U < (x.l.cat
  y.l).W) ∧ ((((x.nil = true → x.nil = true) ∧ (x.nil = false → x.nil = false ∧ True ∧ True ∧ x.lo = x.lo ∧ x.len = x.len ∧ x.cap = x.cap)) ∧ ((y.nil = true → y.nil = true) ∧ (y.nil = false → y.nil = false ∧ True ∧ True ∧
  y.lo = y.lo ∧ y.len = y.len ∧ y.cap = y.cap)) ∧ (True ∧ True ∧ (0 : Nat) = (0 : Nat) ∧ x.len + y.len = x.len + y.len ∧ y_1 = y_2.c) ∧ (True ∧ True) ∧ v = x.l.sq y_2.i ∧ ((x.nil = true → x.nil = true) ∧ (x.nil = false →
  x.nil = false ∧ True ∧ True ∧ x.lo = x.lo ∧ x.len = x.len ∧ x.cap = x.cap)) ∧ (↑x.len : Int) = (↑x.len : Int) ∧ (0 : Int) = (↑y_2.i : Int) ∧ True) ∧ ((0 : Nat) ≤ (0 : Nat) ∧ x.n = x.n ∧ ∀ (j : Nat), j < x.n → x.k j = x.k
  j ∧ x.q j = x.q j ∧ x.t j = x.t j ∧ True) ∧ ((0 : Nat) ≤ (0 : Nat) ∧ y.n = y.n ∧ ∀ (j : Nat), j < y.n → y.k j = y.k j ∧ y.q j = y.q j ∧ y.t j = y.t j ∧ True) ∧ (y_2.c * (3 : Nat) ≤ y_1 * (3 : Nat) ∧ (x.l.cat y.l).n =
  (x.l.cat y.l).n ∧ ∀ (j : Nat), j < (x.l.cat y.l).n → (x.l.cat y.l).k j = (x.l.cat y.l).k j ∧ (x.l.cat y.l).q j = (x.l.cat y.l).q j ∧ (x.l.cat y.l).t j = (x.l.cat y.l).t j ∧ True) ∧ ((6 : Nat) ≤ (6 : Nat) ∧ ((LS.mk false
  (0 : Nat) (x.len + y.len) y_1 (x.l.cat y.l).n (x.l.cat y.l).k (x.l.cat y.l).q (x.l.cat y.l).t).l.prod (x.len + y.len) / (18446744073709551616 : Int) = (x.l.cat y.l).W / (18446744073709551616 : Int) ∧ (LS.mk false (0 :
  Nat) (x.len + y.len) y_1 (x.l.cat y.l).n (x.l.cat y.l).k (x.l.cat y.l).q (x.l.cat y.l).t).l.prod (x.len + y.len) % (18446744073709551616 : Int) = (x.l.cat y.l).W % (18446744073709551616 : Int) ∧ True) ∧ ((LS.mk false (0
  : Nat) (x.len + y.len) y_1 (x.l.cat y.l).n (x.l.cat y.l).k (x.l.cat y.l).q (x.l.cat y.l).t).l.use ((LS.mk false (0 : Nat) (x.len + y.len) y_1 (x.l.cat y.l).n (x.l.cat y.l).k (x.l.cat y.l).q (x.l.cat y.l).t).l.prod (x.len
  + y.len)) (x.len + y.len) / (18446744073709551616 : Int) = (x.l.cat y.l).U / (18446744073709551616 : Int) ∧ (LS.mk false (0 : Nat) (x.len + y.len) y_1 (x.l.cat y.l).n (x.l.cat y.l).k (x.l.cat y.l).q (x.l.cat
  y.l).t).l.use ((LS.mk false (0 : Nat) (x.len + y.len) y_1 (x.l.cat y.l).n (x.l.cat y.l).k (x.l.cat y.l).q (x.l.cat y.l).t).l.prod (x.len + y.len)) (x.len + y.len) % (18446744073709551616 : Int) = (x.l.cat y.l).U %
  (18446744073709551616 : Int) ∧ True) ∧ ((LS.mk false (0 : Nat) (x.len + y.len) y_1 (x.l.cat y.l).n (x.l.cat y.l).k (x.l.cat y.l).q (x.l.cat y.l).t).l.slk ((LS.mk false (0 : Nat) (x.len + y.len) y_1 (x.l.cat y.l).n
  (x.l.cat y.l).k (x.l.cat y.l).q (x.l.cat y.l).t).l.prod (x.len + y.len)) (x.len + y.len) / (18446744073709551616 : Int) = (x.l.cat y.l).S / (18446744073709551616 : Int) ∧ (LS.mk false (0 : Nat) (x.len + y.len) y_1
  (x.l.cat y.l).n (x.l.cat y.l).k (x.l.cat y.l).q (x.l.cat y.l).t).l.slk ((LS.mk false (0 : Nat) (x.len + y.len) y_1 (x.l.cat y.l).n (x.l.cat y.l).k (x.l.cat y.l).q (x.l.cat y.l).t).l.prod (x.len + y.len)) (x.len + y.len)
  % (18446744073709551616 : Int) = (x.l.cat y.l).S % (18446744073709551616 : Int) ∧ True) ∧ True) ∧ True) ∧ True) ∧ ∀ (y_2 : SWI), y_2.i ≤ x.len ∧ (x.l.cat y.l).right ∧ y.len ≠ (0 : Nat) ∧ (x.l.cat y.l).U < (x.l.cat y.l).W
  → (decide ((↑y_2.i : Int) < (↑x.len : Int)) = true → (x.nil = true → x.len = (0 : Nat)) ∧ ((0 : Int) ≤ (↑y_2.i : Int) ∧ (↑y_2.i : Int) < (↑x.len : Int)) ∧ x.lo + (↑y_2.i : Int).toNat < x.n ∧ ∀ (v : Int), v =
  IntKind.u64.wrap (x.l.sq y_2.i + x.q (x.lo + (↑y_2.i : Int).toNat)) → ∃ (y_3 : SWI), (y_3.i ≤ x.len ∧ (x.l.cat y.l).right ∧ y.len ≠ (0 : Nat) ∧ (x.l.cat y.l).U < (x.l.cat y.l).W) ∧ ((((x.nil = true → x.nil = true) ∧
  (x.nil = false → x.nil = false ∧ True ∧ True ∧ x.lo = x.lo ∧ x.len = x.len ∧ x.cap = x.cap)) ∧ ((y.nil = true → y.nil = true) ∧ (y.nil = false → y.nil = false ∧ True ∧ True ∧ y.lo = y.lo ∧ y.len = y.len ∧ y.cap = y.cap))
  ∧ (True ∧ True ∧ (0 : Nat) = (0 : Nat) ∧ x.len + y.len = x.len + y.len ∧ y_2.c = y_3.c) ∧ (True ∧ True) ∧ v = x.l.sq y_3.i ∧ ((x.nil = true → x.nil = true) ∧ (x.nil = false → x.nil = false ∧ True ∧ True ∧ x.lo = x.lo ∧
  x.len = x.len ∧ x.cap = x.cap)) ∧ (↑x.len : Int) = (↑x.len : Int) ∧ IntKind.i64.wrap ((↑y_2.i : Int) + (1 : Int)) = (↑y_3.i : Int) ∧ True) ∧ ((0 : Nat) ≤ (0 : Nat) ∧ x.n = x.n ∧ ∀ (j : Nat), j < x.n → x.k j = x.k j ∧ x.q
  j = x.q j ∧ x.t j = x.t j ∧ True) ∧ ((0 : Nat) ≤ (0 : Nat) ∧ y.n = y.n ∧ ∀ (j : Nat), j < y.n → y.k j = y.k j ∧ y.q j = y.q j ∧ y.t j = y.t j ∧ True) ∧ (y_3.c * (3 : Nat) ≤ y_2.c * (3 : Nat) ∧ (x.l.cat y.l).n = (x.l.cat
  y.l).n ∧ ∀ (j : Nat), j < (x.l.cat y.l).n → (x.l.cat y.l).k j = (x.l.cat y.l).k j ∧ (x.l.cat y.l).q j = (x.l.cat y.l).q j ∧ (x.l.cat y.l).t j = (x.l.cat y.l).t j ∧ True) ∧ ((6 : Nat) ≤ (6 : Nat) ∧ ((x.l.cat y.l).W /
  (18446744073709551616 : Int) = (x.l.cat y.l).W / (18446744073709551616 : Int) ∧ (x.l.cat y.l).W % (18446744073709551616 : Int) = (x.l.cat y.l).W % (18446744073709551616 : Int) ∧ True) ∧ ((x.l.cat y.l).U /
  (18446744073709551616 : Int) = (x.l.cat y.l).U / (18446744073709551616 : Int) ∧ (x.l.cat y.l).U % (18446744073709551616 : Int) = (x.l.cat y.l).U % (18446744073709551616 : Int) ∧ True) ∧ ((x.l.cat y.l).S /
  (18446744073709551616 : Int) = (x.l.cat y.l).S / (18446744073709551616 : Int) ∧ (x.l.cat y.l).S % (18446744073709551616 : Int) = (x.l.cat y.l).S % (18446744073709551616 : Int) ∧ True) ∧ True) ∧ True) ∧ (swF1 x y).μ y_3 <
  (swF1 x y).μ y_2) ∧ (decide ((↑y_2.i : Int) < (↑x.len : Int)) = false → ((((x.l.cat y.l).W / (18446744073709551616 : Int) = (x.l.cat y.l).W / (18446744073709551616 : Int) ∧ (x.l.cat y.l).W % (18446744073709551616 : Int)
  = (x.l.cat y.l).W % (18446744073709551616 : Int) ∧ True) ∧ ((x.l.cat y.l).U / (18446744073709551616 : Int) = (x.l.cat y.l).U / (18446744073709551616 : Int) ∧ (x.l.cat y.l).U % (18446744073709551616 : Int) = (x.l.cat
  y.l).U % (18446744073709551616 : Int) ∧ True) ∧ True) ∧ True) ∧ (((((0 : Int) ≤ (x.l.cat y.l).W / (18446744073709551616 : Int) ∧ (x.l.cat y.l).W / (18446744073709551616 : Int) < (18446744073709551616 : Int)) ∧ (0 : Int)
  ≤ (x.l.cat y.l).W % (18446744073709551616 : Int) ∧ (x.l.cat y.l).W % (18446744073709551616 : Int) < (18446744073709551616 : Int)) ∧ ((0 : Int) ≤ (x.l.cat y.l).U / (18446744073709551616 : Int) ∧ (x.l.cat y.l).U /
  (18446744073709551616 : Int) < (18446744073709551616 : Int)) ∧ (0 : Int) ≤ (x.l.cat y.l).U % (18446744073709551616 : Int) ∧ (x.l.cat y.l).U % (18446744073709551616 : Int) < (18446744073709551616 : Int)) ∧ wN ((x.l.cat
  y.l).U / (18446744073709551616 : Int)) ((x.l.cat y.l).U % (18446744073709551616 : Int)) ≤ wN ((x.l.cat y.l).W / (18446744073709551616 : Int)) ((x.l.cat y.l).W % (18446744073709551616 : Int))) ∧ ((((x.l.cat y.l).W /
  (18446744073709551616 : Int) = (x.l.cat y.l).W / (18446744073709551616 : Int) ∧ (x.l.cat y.l).W % (18446744073709551616 : Int) = (x.l.cat y.l).W % (18446744073709551616 : Int) ∧ True) ∧ x.l.sq y_2.i = x.l.sq y_2.i ∧
  True) ∧ True) ∧ ((((0 : Int) ≤ (x.l.cat y.l).W / (18446744073709551616 : Int) ∧ (x.l.cat y.l).W / (18446744073709551616 : Int) < (18446744073709551616 : Int)) ∧ (0 : Int) ≤ (x.l.cat y.l).W % (18446744073709551616 : Int)
  ∧ (x.l.cat y.l).W % (18446744073709551616 : Int) < (18446744073709551616 : Int)) ∧ ((0 : Int) ≤ x.l.sq y_2.i ∧ x.l.sq y_2.i < (18446744073709551616 : Int)) ∧ wN ((x.l.cat y.l).W / (18446744073709551616 : Int)) ((x.l.cat
  y.l).W % (18446744073709551616 : Int)) * x.l.sq y_2.i < two128) ∧ ((((wN ((x.l.cat y.l).W / (18446744073709551616 : Int)) ((x.l.cat y.l).W % (18446744073709551616 : Int)) - wN ((x.l.cat y.l).U / (18446744073709551616 :
  Int)) ((x.l.cat y.l).U % (18446744073709551616 : Int))) / (18446744073709551616 : Int) = (wN ((x.l.cat y.l).W / (18446744073709551616 : Int)) ((x.l.cat y.l).W % (18446744073709551616 : Int)) - wN ((x.l.cat y.l).U /
  (18446744073709551616 : Int)) ((x.l.cat y.l).U % (18446744073709551616 : Int))) / (18446744073709551616 : Int) ∧ (wN ((x.l.cat y.l).W / (18446744073709551616 : Int)) ((x.l.cat y.l).W % (18446744073709551616 : Int)) - wN
  ((x.l.cat y.l).U / (18446744073709551616 : Int)) ((x.l.cat y.l).U % (18446744073709551616 : Int))) % (18446744073709551616 : Int) = (wN ((x.l.cat y.l).W / (18446744073709551616 : Int)) ((x.l.cat y.l).W %
  (18446744073709551616 : Int)) - wN ((x.l.cat y.l).U / (18446744073709551616 : Int)) ((x.l.cat y.l).U % (18446744073709551616 : Int))) % (18446744073709551616 : Int) ∧ True) ∧ (wN ((x.l.cat y.l).W / (18446744073709551616
  : Int)) ((x.l.cat y.l).W % (18446744073709551616 : Int)) * x.l.sq y_2.i / (18446744073709551616 : Int) = wN ((x.l.cat y.l).W / (18446744073709551616 : Int)) ((x.l.cat y.l).W % (18446744073709551616 : Int)) * x.l.sq y_2.i
  / (18446744073709551616 : Int) ∧ wN ((x.l.cat y.l).W / (18446744073709551616 : Int)) ((x.l.cat y.l).W % (18446744073709551616 : Int)) * x.l.sq y_2.i % (18446744073709551616 : Int) = wN ((x.l.cat y.l).W /
  (18446744073709551616 : Int)) ((x.l.cat y.l).W % (18446744073709551616 : Int)) * x.l.sq y_2.i % (18446744073709551616 : Int) ∧ True) ∧ True) ∧ True) ∧ (((((0 : Int) ≤ (wN ((x.l.cat y.l).W / (18446744073709551616 : Int))
  ((x.l.cat y.l).W % (18446744073709551616 : Int)) - wN ((x.l.cat y.l).U / (18446744073709551616 : Int)) ((x.l.cat y.l).U % (18446744073709551616 : Int))) / (18446744073709551616 : Int) ∧ (wN ((x.l.cat y.l).W /
  (18446744073709551616 : Int)) ((x.l.cat y.l).W % (18446744073709551616 : Int)) - wN ((x.l.cat y.l).U / (18446744073709551616 : Int)) ((x.l.cat y.l).U % (18446744073709551616 : Int))) / (18446744073709551616 : Int) <
  (18446744073709551616 : Int)) ∧ (0 : Int) ≤ (wN ((x.l.cat y.l).W / (18446744073709551616 : Int)) ((x.l.cat y.l).W % (18446744073709551616 : Int)) - wN ((x.l.cat y.l).U / (18446744073709551616 : Int)) ((x.l.cat y.l).U %
  (18446744073709551616 : Int))) % (18446744073709551616 : Int) ∧ (wN ((x.l.cat y.l).W / (18446744073709551616 : Int)) ((x.l.cat y.l).W % (18446744073709551616 : Int)) - wN ((x.l.cat y.l).U / (18446744073709551616 : Int))
  ((x.l.cat y.l).U % (18446744073709551616 : Int))) % (18446744073709551616 : Int) < (18446744073709551616 : Int)) ∧ ((0 : Int) ≤ wN ((x.l.cat y.l).W / (18446744073709551616 : Int)) ((x.l.cat y.l).W % (18446744073709551616
  : Int)) * x.l.sq y_2.i / (18446744073709551616 : Int) ∧ wN ((x.l.cat y.l).W / (18446744073709551616 : Int)) ((x.l.cat y.l).W % (18446744073709551616 : Int)) * x.l.sq y_2.i / (18446744073709551616 : Int) <
  (18446744073709551616 : Int)) ∧ (0 : Int) ≤ wN ((x.l.cat y.l).W / (18446744073709551616 : Int)) ((x.l.cat y.l).W % (18446744073709551616 : Int)) * x.l.sq y_2.i % (18446744073709551616 : Int) ∧ wN ((x.l.cat y.l).W /
  (18446744073709551616 : Int)) ((x.l.cat y.l).W % (18446744073709551616 : Int)) * x.l.sq y_2.i % (18446744073709551616 : Int) < (18446744073709551616 : Int)) ∧ wN ((wN ((x.l.cat y.l).W / (18446744073709551616 : Int))
  ((x.l.cat y.l).W % (18446744073709551616 : Int)) - wN ((x.l.cat y.l).U / (18446744073709551616 : Int)) ((x.l.cat y.l).U % (18446744073709551616 : Int))) / (18446744073709551616 : Int)) ((wN ((x.l.cat y.l).W /
  (18446744073709551616 : Int)) ((x.l.cat y.l).W % (18446744073709551616 : Int)) - wN ((x.l.cat y.l).U / (18446744073709551616 : Int)) ((x.l.cat y.l).U % (18446744073709551616 : Int))) % (18446744073709551616 : Int)) ≤
  (20282409603651670423947251286016 : Int)) ∧ ∀ (v : Int), v = (lestO (wN ((wN ((x.l.cat y.l).W / (18446744073709551616 : Int)) ((x.l.cat y.l).W % (18446744073709551616 : Int)) - wN ((x.l.cat y.l).U / (18446744073709551616
  : Int)) ((x.l.cat y.l).U % (18446744073709551616 : Int))) / (18446744073709551616 : Int)) ((wN ((x.l.cat y.l).W / (18446744073709551616 : Int)) ((x.l.cat y.l).W % (18446744073709551616 : Int)) - wN ((x.l.cat y.l).U /
  (18446744073709551616 : Int)) ((x.l.cat y.l).U % (18446744073709551616 : Int))) % (18446744073709551616 : Int))) (wN (wN ((x.l.cat y.l).W / (18446744073709551616 : Int)) ((x.l.cat y.l).W % (18446744073709551616 : Int)) *
  x.l.sq y_2.i / (18446744073709551616 : Int)) (wN ((x.l.cat y.l).W / (18446744073709551616 : Int)) ((x.l.cat y.l).W % (18446744073709551616 : Int)) * x.l.sq y_2.i % (18446744073709551616 : Int)))).fst → ∀ (v_1 : Int), v_1
  = (lestO (wN ((wN ((x.l.cat y.l).W / (18446744073709551616 : Int)) ((x.l.cat y.l).W % (18446744073709551616 : Int)) - wN ((x.l.cat y.l).U / (18446744073709551616 : Int)) ((x.l.cat y.l).U % (18446744073709551616 : Int)))
  / (18446744073709551616 : Int)) ((wN ((x.l.cat y.l).W / (18446744073709551616 : Int)) ((x.l.cat y.l).W % (18446744073709551616 : Int)) - wN ((x.l.cat y.l).U / (18446744073709551616 : Int)) ((x.l.cat y.l).U %
  (18446744073709551616 : Int))) % (18446744073709551616 : Int))) (wN (wN ((x.l.cat y.l).W / (18446744073709551616 : Int)) ((x.l.cat y.l).W % (18446744073709551616 : Int)) * x.l.sq y_2.i / (18446744073709551616 : Int)) (wN
  ((x.l.cat y.l).W / (18446744073709551616 : Int)) ((x.l.cat y.l).W % (18446744073709551616 : Int)) * x.l.sq y_2.i % (18446744073709551616 : Int)))).snd → ((v_1 != (0 : Int)) = true → ∀ (v : Int), v = v_1 → (x.Ok ∧ y.Ok) ∧
  x.len ≤ (100 : Nat) ∧ y.len ≤ (100 : Nat) → ((swO x.l y.l).fst = false ∧ v = (swO x.l y.l).snd ∧ True) ∧ True ∧ ((0 : Nat) ≤ (0 : Nat) ∧ x.n = x.n ∧ ∀ (j : Nat), j < x.n → x.k j = x.k j ∧ x.q j = x.q j ∧ x.t j = x.t j ∧
  True) ∧ ((0 : Nat) ≤ (0 : Nat) ∧ y.n = y.n ∧ ∀ (j : Nat), j < y.n → y.k j = y.k j ∧ y.q j = y.q j ∧ y.t j = y.t j ∧ True) ∧ True) ∧ ((v_1 != (0 : Int)) = false → ((((y.nil = true → y.nil = true) ∧ (y.nil = false → y.nil
  = false ∧ True ∧ True ∧ y.lo = y.lo ∧ y.len = y.len ∧ y.cap = y.cap)) ∧ True ∧ True) ∧ ((0 : Nat) ≤ (0 : Nat) ∧ y.n = y.n ∧ ∀ (j : Nat), j < y.n → y.k j = y.k j ∧ y.q j = y.q j ∧ y.t j = y.t j ∧ True) ∧ True) ∧ (y.Ok ∧
  ((1 : Nat) ≤ y.len ∧ y.len ≤ (8 : Nat)) ∧ y.l.all) ∧ ∀ (v_2 : Int), v_2 = y.l.t (y.l.am (y.len - (1 : Nat))) → ((((x.nil = true → x.nil = true) ∧ (x.nil = false → x.nil = false ∧ True ∧ True ∧ x.lo = x.lo ∧ x.len = x.len
  ∧ x.cap = x.cap)) ∧ ((y.nil = true → y.nil = true) ∧ (y.nil = false → y.nil = false ∧ True ∧ True ∧ y.lo = y.lo ∧ y.len = y.len ∧ y.cap = y.cap)) ∧ v_2 = v_2 ∧ True) ∧ ((0 : Nat) ≤ (0 : Nat) ∧ x.n = x.n ∧ ∀ (j : Nat), j
  < x.n → x.k j = x.k j ∧ x.q j = x.q j ∧ x.t j = x.t j ∧ True) ∧ ((0 : Nat) ≤ (0 : Nat) ∧ y.n = y.n ∧ ∀ (j : Nat), j < y.n → y.k j = y.k j ∧ y.q j = y.q j ∧ y.t j = y.t j ∧ True) ∧ True) ∧ ((x.Ok ∧ y.Ok) ∧ (x.l.right ∧
  y.l.right) ∧ (0 : Int) ≤ v_2 ∧ v_2 ≤ (1048576 : Int)) ∧ (decide (swd x.l y.l v_2 > v_2) = true → ∀ (v : Int), v = (0 : Int) → (x.Ok ∧ y.Ok) ∧ x.len ≤ (100 : Nat) ∧ y.len ≤ (100 : Nat) → ((swO x.l y.l).fst = false ∧ v =
  (swO x.l y.l).snd ∧ True) ∧ True ∧ ((0 : Nat) ≤ (0 : Nat) ∧ x.n = x.n ∧ ∀ (j : Nat), j < x.n → x.k j = x.k j ∧ x.q j = x.q j ∧ x.t j = x.t j ∧ True) ∧ ((0 : Nat) ≤ (0 : Nat) ∧ y.n = y.n ∧ ∀ (j : Nat), j < y.n → y.k j =
  y.k j ∧ y.q j = y.q j ∧ y.t j = y.t j ∧ True) ∧ True) ∧ (decide (swd x.l y.l v_2 > v_2) = false → (∃ (y_3 : SWI), (y_3.i ≤ x.len + y.len ∧ swG x y ∧ ∀ (j : Nat), j < y_3.i → ∀ (c : Int), y.l.fst ≤ (x.l.cat y.l).t j * c →
  (x.l.cat y.l).t j * c ≤ (swH x.l y.l).fst → swd x.l y.l ((x.l.cat y.l).t j * c) ≤ (x.l.cat y.l).t j * c) ∧ ((((x.nil = true → x.nil = true) ∧ (x.nil = false → x.nil = false ∧ True ∧ True ∧ x.lo = x.lo ∧ x.len = x.len ∧
  x.cap = x.cap)) ∧ ((y.nil = true → y.nil = true) ∧ (y.nil = false → y.nil = false ∧ True ∧ True ∧ y.lo = y.lo ∧ y.len = y.len ∧ y.cap = y.cap)) ∧ v = (swH x.l y.l).fst ∧ v_2 = y.l.fst ∧ (True ∧ True ∧ (0 : Nat) = (0 :
  Nat) ∧ x.len + y.len = x.len + y.len ∧ y_2.c = y_3.c) ∧ (↑(x.len + y.len) : Int) = (↑(x.len + y.len) : Int) ∧ (0 : Int) = (↑y_3.i : Int) ∧ True) ∧ ((0 : Nat) ≤ (0 : Nat) ∧ x.n = x.n ∧ ∀ (j : Nat), j < x.n → x.k j = x.k j
  ∧ x.q j = x.q j ∧ x.t j = x.t j ∧ True) ∧ ((0 : Nat) ≤ (0 : Nat) ∧ y.n = y.n ∧ ∀ (j : Nat), j < y.n → y.k j = y.k j ∧ y.q j = y.q j ∧ y.t j = y.t j ∧ True) ∧ (y_3.c * (3 : Nat) ≤ y_2.c * (3 : Nat) ∧ (x.l.cat y.l).n =
  (x.l.cat y.l).n ∧ ∀ (j : Nat), j < (x.l.cat y.l).n → (x.l.cat y.l).k j = (x.l.cat y.l).k j ∧ (x.l.cat y.l).q j = (x.l.cat y.l).q j ∧ (x.l.cat y.l).t j = (x.l.cat y.l).t j ∧ True) ∧ True) ∧ True) ∧ ∀ (y_3 : SWI), (y_3.i ≤
  x.len + y.len ∧ swG x y ∧ ∀ (j : Nat), j < y_3.i → ∀ (c : Int), y.l.fst ≤ (x.l.cat y.l).t j * c → (x.l.cat y.l).t j * c ≤ (swH x.l y.l).fst → swd x.l y.l ((x.l.cat y.l).t j * c) ≤ (x.l.cat y.l).t j * c) → (decide
  ((↑y_3.i : Int) < (↑(x.len + y.len) : Int)) = true → ((0 : Int) ≤ (↑y_3.i : Int) ∧ (↑y_3.i : Int) < (↑(x.len + y.len) : Int)) ∧ (0 : Nat) + (↑y_3.i : Int).toNat < (x.l.cat y.l).n ∧ (x.l.cat y.l).t ((0 : Nat) + (↑y_3.i :
  Int).toNat) ≠ (0 : Int) ∧ ∀ (v : Int), v = IntKind.u64.wrap ((x.l.cat y.l).t ((0 : Nat) + (↑y_3.i : Int).toNat) * IntKind.u64.wrap ((IntKind.u64.wrap (IntKind.u64.wrap (y.l.fst + (x.l.cat y.l).t ((0 : Nat) + (↑y_3.i :
  Int).toNat)) - (1 : Int))).tdiv ((x.l.cat y.l).t ((0 : Nat) + (↑y_3.i : Int).toNat)))) → ∃ (g : Nat), (∃ (y_4 : SWJ), ((x.l.cat y.l).t g * (swB x y g + (↑y_4.m : Int)) ≤ (swH x.l y.l).fst + (16384 : Int) ∧ ∀ (k : Nat), k
  < y_4.m → swd x.l y.l ((x.l.cat y.l).t g * (swB x y g + (↑k : Int))) ≤ (x.l.cat y.l).t g * (swB x y g + (↑k : Int))) ∧ ((((x.nil = true → x.nil = true) ∧ (x.nil = false → x.nil = false ∧ True ∧ True ∧ x.lo = x.lo ∧ x.len
  = x.len ∧ x.cap = x.cap)) ∧ ((y.nil = true → y.nil = true) ∧ (y.nil = false → y.nil = false ∧ True ∧ True ∧ y.lo = y.lo ∧ y.len = y.len ∧ y.cap = y.cap)) ∧ (swH x.l y.l).fst = (swH x.l y.l).fst ∧ y.l.fst = y.l.fst ∧
  (True ∧ True) ∧ v = (x.l.cat y.l).t g * (swB x y g + (↑y_4.m : Int)) ∧ (True ∧ True ∧ (0 : Nat) = (0 : Nat) ∧ x.len + y.len = x.len + y.len ∧ y_3.c = y_4.c) ∧ (↑(x.len + y.len) : Int) = (↑(x.len + y.len) : Int) ∧ (↑y_3.i
  : Int) = (↑g : Int) ∧ True) ∧ ((0 : Nat) ≤ (0 : Nat) ∧ x.n = x.n ∧ ∀ (j : Nat), j < x.n → x.k j = x.k j ∧ x.q j = x.q j ∧ x.t j = x.t j ∧ True) ∧ ((0 : Nat) ≤ (0 : Nat) ∧ y.n = y.n ∧ ∀ (j : Nat), j < y.n → y.k j = y.k j
  ∧ y.q j = y.q j ∧ y.t j = y.t j ∧ True) ∧ (y_4.c * (3 : Nat) ≤ y_3.c * (3 : Nat) ∧ (x.l.cat y.l).n = (x.l.cat y.l).n ∧ ∀ (j : Nat), j < (x.l.cat y.l).n → (x.l.cat y.l).k j = (x.l.cat y.l).k j ∧ (x.l.cat y.l).q j =
  (x.l.cat y.l).q j ∧ (x.l.cat y.l).t j = (x.l.cat y.l).t j ∧ True) ∧ ((3 : Nat) ≤ (3 : Nat) ∧ (x.l.cat y.l).k ((0 : Nat) + (↑y_3.i : Int).toNat) = (x.l.cat y.l).k g ∧ (x.l.cat y.l).q ((0 : Nat) + (↑y_3.i : Int).toNat) =
  (x.l.cat y.l).q g ∧ (x.l.cat y.l).t ((0 : Nat) + (↑y_3.i : Int).toNat) = (x.l.cat y.l).t g ∧ True) ∧ True) ∧ True) ∧ ∀ (y_4 : SWJ), ((x.l.cat y.l).t g * (swB x y g + (↑y_4.m : Int)) ≤ (swH x.l y.l).fst + (16384 : Int) ∧
  ∀ (k : Nat), k < y_4.m → swd x.l y.l ((x.l.cat y.l).t g * (swB x y g + (↑k : Int))) ≤ (x.l.cat y.l).t g * (swB x y g + (↑k : Int))) → (decide ((x.l.cat y.l).t g * (swB x y g + (↑y_4.m : Int)) ≤ (swH x.l y.l).fst) = true
  → ((((x.nil = true → x.nil = true) ∧ (x.nil = false → x.nil = false ∧ True ∧ True ∧ x.lo = x.lo ∧ x.len = x.len ∧ x.cap = x.cap)) ∧ ((y.nil = true → y.nil = true) ∧ (y.nil = false → y.nil = false ∧ True ∧ True ∧ y.lo =
  y.lo ∧ y.len = y.len ∧ y.cap = y.cap)) ∧ (x.l.cat y.l).t g * (swB x y g + (↑y_4.m : Int)) = (x.l.cat y.l).t g * (swB x y g + (↑y_4.m : Int)) ∧ True) ∧ ((0 : Nat) ≤ (0 : Nat) ∧ x.n = x.n ∧ ∀ (j : Nat), j < x.n → x.k j =
  x.k j ∧ x.q j = x.q j ∧ x.t j = x.t j ∧ True) ∧ ((0 : Nat) ≤ (0 : Nat) ∧ y.n = y.n ∧ ∀ (j : Nat), j < y.n → y.k j = y.k j ∧ y.q j = y.q j ∧ y.t j = y.t j ∧ True) ∧ True) ∧ ((x.Ok ∧ y.Ok) ∧ (x.l.right ∧ y.l.right) ∧ (0 :
  Int) ≤ (x.l.cat y.l).t g * (swB x y g + (↑y_4.m : Int)) ∧ (x.l.cat y.l).t g * (swB x y g + (↑y_4.m : Int)) ≤ (1048576 : Int)) ∧ (decide (swd x.l y.l ((x.l.cat y.l).t g * (swB x y g + (↑y_4.m : Int))) > (x.l.cat y.l).t g
  * (swB x y g + (↑y_4.m : Int))) = true → ∀ (v : Int), v = (0 : Int) → (x.Ok ∧ y.Ok) ∧ x.len ≤ (100 : Nat) ∧ y.len ≤ (100 : Nat) → ((swO x.l y.l).fst = false ∧ v = (swO x.l y.l).snd ∧ True) ∧ True ∧ ((0 : Nat) ≤ (0 : Nat)
  ∧ x.n = x.n ∧ ∀ (j : Nat), j < x.n → x.k j = x.k j ∧ x.q j = x.q j ∧ x.t j = x.t j ∧ True) ∧ ((0 : Nat) ≤ (0 : Nat) ∧ y.n = y.n ∧ ∀ (j : Nat), j < y.n → y.k j = y.k j ∧ y.q j = y.q j ∧ y.t j = y.t j ∧ True) ∧ True) ∧
  (decide (swd x.l y.l ((x.l.cat y.l).t g * (swB x y g + (↑y_4.m : Int))) > (x.l.cat y.l).t g * (swB x y g + (↑y_4.m : Int))) = false → ∀ (v : Int), v = IntKind.u64.wrap ((x.l.cat y.l).t g * (swB x y g + (↑y_4.m : Int)) +
  (x.l.cat y.l).t g) → ∃ (y_5 : SWJ), ((x.l.cat y.l).t g * (swB x y g + (↑y_5.m : Int)) ≤ (swH x.l y.l).fst + (16384 : Int) ∧ ∀ (k : Nat), k < y_5.m → swd x.l y.l ((x.l.cat y.l).t g * (swB x y g + (↑k : Int))) ≤ (x.l.cat
  y.l).t g * (swB x y g + (↑k : Int))) ∧ ((((x.nil = true → x.nil = true) ∧ (x.nil = false → x.nil = false ∧ True ∧ True ∧ x.lo = x.lo ∧ x.len = x.len ∧ x.cap = x.cap)) ∧ ((y.nil = true → y.nil = true) ∧ (y.nil = false →
  y.nil = false ∧ True ∧ True ∧ y.lo = y.lo ∧ y.len = y.len ∧ y.cap = y.cap)) ∧ (swH x.l y.l).fst = (swH x.l y.l).fst ∧ y.l.fst = y.l.fst ∧ (True ∧ True) ∧ v = (x.l.cat y.l).t g * (swB x y g + (↑y_5.m : Int)) ∧ (True ∧
  True ∧ (0 : Nat) = (0 : Nat) ∧ x.len + y.len = x.len + y.len ∧ y_4.c = y_5.c) ∧ (↑(x.len + y.len) : Int) = (↑(x.len + y.len) : Int) ∧ (↑g : Int) = (↑g : Int) ∧ True) ∧ ((0 : Nat) ≤ (0 : Nat) ∧ x.n = x.n ∧ ∀ (j : Nat), j
  < x.n → x.k j = x.k j ∧ x.q j = x.q j ∧ x.t j = x.t j ∧ True) ∧ ((0 : Nat) ≤ (0 : Nat) ∧ y.n = y.n ∧ ∀ (j : Nat), j < y.n → y.k j = y.k j ∧ y.q j = y.q j ∧ y.t j = y.t j ∧ True) ∧ (y_5.c * (3 : Nat) ≤ y_4.c * (3 : Nat) ∧
  (x.l.cat y.l).n = (x.l.cat y.l).n ∧ ∀ (j : Nat), j < (x.l.cat y.l).n → (x.l.cat y.l).k j = (x.l.cat y.l).k j ∧ (x.l.cat y.l).q j = (x.l.cat y.l).q j ∧ (x.l.cat y.l).t j = (x.l.cat y.l).t j ∧ True) ∧ ((3 : Nat) ≤ (3 :
  Nat) ∧ (x.l.cat y.l).k g = (x.l.cat y.l).k g ∧ (x.l.cat y.l).q g = (x.l.cat y.l).q g ∧ (x.l.cat y.l).t g = (x.l.cat y.l).t g ∧ True) ∧ True) ∧ (swF3 x y g).μ y_5 < (swF3 x y g).μ y_4)) ∧ (decide ((x.l.cat y.l).t g * (swB
  x y g + (↑y_4.m : Int)) ≤ (swH x.l y.l).fst) = false → ∃ (y_5 : SWI), (y_5.i ≤ x.len + y.len ∧ swG x y ∧ ∀ (j : Nat), j < y_5.i → ∀ (c : Int), y.l.fst ≤ (x.l.cat y.l).t j * c → (x.l.cat y.l).t j * c ≤ (swH x.l y.l).fst →
  swd x.l y.l ((x.l.cat y.l).t j * c) ≤ (x.l.cat y.l).t j * c) ∧ ((((x.nil = true → x.nil = true) ∧ (x.nil = false → x.nil = false ∧ True ∧ True ∧ x.lo = x.lo ∧ x.len = x.len ∧ x.cap = x.cap)) ∧ ((y.nil = true → y.nil =
  true) ∧ (y.nil = false → y.nil = false ∧ True ∧ True ∧ y.lo = y.lo ∧ y.len = y.len ∧ y.cap = y.cap)) ∧ (swH x.l y.l).fst = (swH x.l y.l).fst ∧ y.l.fst = y.l.fst ∧ (True ∧ True ∧ (0 : Nat) = (0 : Nat) ∧ x.len + y.len =
  x.len + y.len ∧ y_4.c = y_5.c) ∧ (↑(x.len + y.len) : Int) = (↑(x.len + y.len) : Int) ∧ IntKind.i64.wrap ((↑g : Int) + (1 : Int)) = (↑y_5.i : Int) ∧ True) ∧ ((0 : Nat) ≤ (0 : Nat) ∧ x.n = x.n ∧ ∀ (j : Nat), j < x.n → x.k
  j = x.k j ∧ x.q j = x.q j ∧ x.t j = x.t j ∧ True) ∧ ((0 : Nat) ≤ (0 : Nat) ∧ y.n = y.n ∧ ∀ (j : Nat), j < y.n → y.k j = y.k j ∧ y.q j = y.q j ∧ y.t j = y.t j ∧ True) ∧ (y_5.c * (3 : Nat) ≤ y_4.c * (3 : Nat) ∧ (x.l.cat
  y.l).n = (x.l.cat y.l).n ∧ ∀ (j : Nat), j < (x.l.cat y.l).n → (x.l.cat y.l).k j = (x.l.cat y.l).k j ∧ (x.l.cat y.l).q j = (x.l.cat y.l).q j ∧ (x.l.cat y.l).t j = (x.l.cat y.l).t j ∧ True) ∧ True) ∧ (swF2 x y).μ y_5 <
  (swF2 x y).μ y_3)) ∧ (decide ((↑y_3.i : Int) < (↑(x.len + y.len) : Int)) = false → ∀ (v : Int), v = (0 : Int) → (x.Ok ∧ y.Ok) ∧ x.len ≤ (100 : Nat) ∧ y.len ≤ (100 : Nat) → ((swO x.l y.l).fst = true ∧ v = (swO x.l
  y.l).snd ∧ True) ∧ True ∧ ((0 : Nat) ≤ (0 : Nat) ∧ x.n = x.n ∧ ∀ (j : Nat), j < x.n → x.k j = x.k j ∧ x.q j = x.q j ∧ x.t j = x.t j ∧ True) ∧ ((0 : Nat) ≤ (0 : Nat) ∧ y.n = y.n ∧ ∀ (j : Nat), j < y.n → y.k j = y.k j ∧
  y.q j = y.q j ∧ y.t j = y.t j ∧ True) ∧ True)))))) ∧ (¬x.len + y.len = (0 : Nat) → ∀ (x_1 : Nat), x.len + y.len ≤ x_1 → (((false = false ∧ True ∧ True ∧ (0 : Nat) = (0 : Nat) ∧ x.len + y.len = x.len + y.len ∧ x_1 = x_1)
  ∧ True) ∧ ((0 : Nat) ≤ x_1 * (3 : Nat) ∧ (x.l.cat y.l).n = (x.l.cat y.l).n ∧ ∀ (j : Nat), j < (x.l.cat y.l).n → (x.l.cat y.l).k j = (x.l.cat y.l).k j ∧ (x.l.cat y.l).q j = (x.l.cat y.l).q j ∧ (x.l.cat y.l).t j = (x.l.cat
  y.l).t j ∧ True) ∧ True) ∧ (LS.mk false (0 : Nat) (x.len + y.len) x_1 (x.l.cat y.l).n (x.l.cat y.l).k (x.l.cat y.l).q (x.l.cat y.l).t).Ok ∧ ((!decide (LS.mk false (0 : Nat) (x.len + y.len) x_1 (x.l.cat y.l).n (x.l.cat
  y.l).k (x.l.cat y.l).q (x.l.cat y.l).t).l.right) = true → ∀ (v : Int), v = (11 : Int) → (x.Ok ∧ y.Ok) ∧ x.len ≤ (100 : Nat) ∧ y.len ≤ (100 : Nat) → ((swO x.l y.l).fst = false ∧ v = (swO x.l y.l).snd ∧ True) ∧ True ∧ ((0
  : Nat) ≤ (0 : Nat) ∧ x.n = x.n ∧ ∀ (j : Nat), j < x.n → x.k j = x.k j ∧ x.q j = x.q j ∧ x.t j = x.t j ∧ True) ∧ ((0 : Nat) ≤ (0 : Nat) ∧ y.n = y.n ∧ ∀ (j : Nat), j < y.n → y.k j = y.k j ∧ y.q j = y.q j ∧ y.t j = y.t j ∧
  True) ∧ True) ∧ ((!decide (LS.mk false (0 : Nat) (x.len + y.len) x_1 (x.l.cat y.l).n (x.l.cat y.l).k (x.l.cat y.l).q (x.l.cat y.l).t).l.right) = false → ((y.nil = true → y.len = (0 : Nat)) ∧ (((↑y.len : Int) == (0 :
  Int)) = true → ∀ (v : Int), v = (0 : Int) → (x.Ok ∧ y.Ok) ∧ x.len ≤ (100 : Nat) ∧ y.len ≤ (100 : Nat) → ((swO x.l y.l).fst = true ∧ v = (swO x.l y.l).snd ∧ True) ∧ True ∧ ((0 : Nat) ≤ (0 : Nat) ∧ x.n = x.n ∧ ∀ (j : Nat),
  j < x.n → x.k j = x.k j ∧ x.q j = x.q j ∧ x.t j = x.t j ∧ True) ∧ ((0 : Nat) ≤ (0 : Nat) ∧ y.n = y.n ∧ ∀ (j : Nat), j < y.n → y.k j = y.k j ∧ y.q j = y.q j ∧ y.t j = y.t j ∧ True) ∧ True) ∧ (((↑y.len : Int) == (0 : Int))
  = false → ∃ (y_1 : Nat), ((x.l.cat y.l).right ∧ y.len ≠ (0 : Nat)) ∧ ((((x.nil = true → x.nil = true) ∧ (x.nil = false → x.nil = false ∧ True ∧ True ∧ x.lo = x.lo ∧ x.len = x.len ∧ x.cap = x.cap)) ∧ ((y.nil = true →
  y.nil = true) ∧ (y.nil = false → y.nil = false ∧ True ∧ True ∧ y.lo = y.lo ∧ y.len = y.len ∧ y.cap = y.cap)) ∧ (True ∧ True ∧ (0 : Nat) = (0 : Nat) ∧ x.len + y.len = x.len + y.len ∧ x_1 = y_1) ∧ True) ∧ ((0 : Nat) ≤ (0 :
  Nat) ∧ x.n = x.n ∧ ∀ (j : Nat), j < x.n → x.k j = x.k j ∧ x.q j = x.q j ∧ x.t j = x.t j ∧ True) ∧ ((0 : Nat) ≤ (0 : Nat) ∧ y.n = y.n ∧ ∀ (j : Nat), j < y.n → y.k j = y.k j ∧ y.q j = y.q j ∧ y.t j = y.t j ∧ True) ∧ (y_1 *
  (3 : Nat) ≤ x_1 * (3 : Nat) ∧ (x.l.cat y.l).n = (x.l.cat y.l).n ∧ ∀ (j : Nat), j < (x.l.cat y.l).n → (x.l.cat y.l).k j = (x.l.cat y.l).k j ∧ (x.l.cat y.l).q j = (x.l.cat y.l).q j ∧ (x.l.cat y.l).t j = (x.l.cat y.l).t j ∧
  True) ∧ True) ∧ True)) ∧ ∀ (y_1 : Nat), (x.l.cat y.l).right ∧ y.len ≠ (0 : Nat) → (((false = false ∧ True ∧ True ∧ (0 : Nat) = (0 : Nat) ∧ x.len + y.len = x.len + y.len ∧ y_1 = y_1) ∧ True) ∧ ((0 : Nat) ≤ y_1 * (3 : Nat)
  ∧ (x.l.cat y.l).n = (x.l.cat y.l).n ∧ ∀ (j : Nat), j < (x.l.cat y.l).n → (x.l.cat y.l).k j = (x.l.cat y.l).k j ∧ (x.l.cat y.l).q j = (x.l.cat y.l).q j ∧ (x.l.cat y.l).t j = (x.l.cat y.l).t j ∧ True) ∧ True) ∧ ((LS.mk
  false (0 : Nat) (x.len + y.len) y_1 (x.l.cat y.l).n (x.l.cat y.l).k (x.l.cat y.l).q (x.l.cat y.l).t).Ok ∧ (LS.mk false (0 : Nat) (x.len + y.len) y_1 (x.l.cat y.l).n (x.l.cat y.l).k (x.l.cat y.l).q (x.l.cat
  y.l).t).l.right) ∧ (((((LS.mk false (0 : Nat) (x.len + y.len) y_1 (x.l.cat y.l).n (x.l.cat y.l).k (x.l.cat y.l).q (x.l.cat y.l).t).l.prod (x.len + y.len) / (18446744073709551616 : Int) = (LS.mk false (0 : Nat) (x.len +
  y.len) y_1 (x.l.cat y.l).n (x.l.cat y.l).k (x.l.cat y.l).q (x.l.cat y.l).t).l.prod (x.len + y.len) / (18446744073709551616 : Int) ∧ (LS.mk false (0 : Nat) (x.len + y.len) y_1 (x.l.cat y.l).n (x.l.cat y.l).k (x.l.cat
  y.l).q (x.l.cat y.l).t).l.prod (x.len + y.len) % (18446744073709551616 : Int) = (LS.mk false (0 : Nat) (x.len + y.len) y_1 (x.l.cat y.l).n (x.l.cat y.l).k (x.l.cat y.l).q (x.l.cat y.l).t).l.prod (x.len + y.len) %
  (18446744073709551616 : Int) ∧ True) ∧ ((LS.mk false (0 : Nat) (x.len + y.len) y_1 (x.l.cat y.l).n (x.l.cat y.l).k (x.l.cat y.l).q (x.l.cat y.l).t).l.use ((LS.mk false (0 : Nat) (x.len + y.len) y_1 (x.l.cat y.l).n
  (x.l.cat y.l).k (x.l.cat y.l).q (x.l.cat y.l).t).l.prod (x.len + y.len)) (x.len + y.len) / (18446744073709551616 : Int) = (LS.mk false (0 : Nat) (x.len + y.len) y_1 (x.l.cat y.l).n (x.l.cat y.l).k (x.l.cat y.l).q
  (x.l.cat y.l).t).l.use ((LS.mk false (0 : Nat) (x.len + y.len) y_1 (x.l.cat y.l).n (x.l.cat y.l).k (x.l.cat y.l).q (x.l.cat y.l).t).l.prod (x.len + y.len)) (x.len + y.len) / (18446744073709551616 : Int) ∧ (LS.mk false (0
  : Nat) (x.len + y.len) y_1 (x.l.cat y.l).n (x.l.cat y.l).k (x.l.cat y.l).q (x.l.cat y.l).t).l.use ((LS.mk false (0 : Nat) (x.len + y.len) y_1 (x.l.cat y.l).n (x.l.cat y.l).k (x.l.cat y.l).q (x.l.cat y.l).t).l.prod (x.len
  + y.len)) (x.len + y.len) % (18446744073709551616 : Int) = (LS.mk false (0 : Nat) (x.len + y.len) y_1 (x.l.cat y.l).n (x.l.cat y.l).k (x.l.cat y.l).q (x.l.cat y.l).t).l.use ((LS.mk false (0 : Nat) (x.len + y.len) y_1
  (x.l.cat y.l).n (x.l.cat y.l).k (x.l.cat y.l).q (x.l.cat y.l).t).l.prod (x.len + y.len)) (x.len + y.len) % (18446744073709551616 : Int) ∧ True) ∧ ((LS.mk false (0 : Nat) (x.len + y.len) y_1 (x.l.cat y.l).n (x.l.cat
  y.l).k (x.l.cat y.l).q (x.l.cat y.l).t).l.slk ((LS.mk false (0 : Nat) (x.len + y.len) y_1 (x.l.cat y.l).n (x.l.cat y.l).k (x.l.cat y.l).q (x.l.cat y.l).t).l.prod (x.len + y.len)) (x.len + y.len) / (18446744073709551616 :
  Int) = (LS.mk false (0 : Nat) (x.len + y.len) y_1 (x.l.cat y.l).n (x.l.cat y.l).k (x.l.cat y.l).q (x.l.cat y.l).t).l.slk ((LS.mk false (0 : Nat) (x.len + y.len) y_1 (x.l.cat y.l).n (x.l.cat y.l).k (x.l.cat y.l).q
  (x.l.cat y.l).t).l.prod (x.len + y.len)) (x.len + y.len) / (18446744073709551616 : Int) ∧ (LS.mk false (0 : Nat) (x.len + y.len) y_1 (x.l.cat y.l).n (x.l.cat y.l).k (x.l.cat y.l).q (x.l.cat y.l).t).l.slk ((LS.mk false (0
  : Nat) (x.len + y.len) y_1 (x.l.cat y.l).n (x.l.cat y.l).k (x.l.cat y.l).q (x.l.cat y.l).t).l.prod (x.len + y.len)) (x.len + y.len) % (18446744073709551616 : Int) = (LS.mk false (0 : Nat) (x.len + y.len) y_1 (x.l.cat
  y.l).n (x.l.cat y.l).k (x.l.cat y.l).q (x.l.cat y.l).t).l.slk ((LS.mk false (0 : Nat) (x.len + y.len) y_1 (x.l.cat y.l).n (x.l.cat y.l).k (x.l.cat y.l).q (x.l.cat y.l).t).l.prod (x.len + y.len)) (x.len + y.len) %
  (18446744073709551616 : Int) ∧ True) ∧ True) ∧ True) ∧ True) ∧ ((((0 : Int) ≤ (LS.mk false (0 : Nat) (x.len + y.len) y_1 (x.l.cat y.l).n (x.l.cat y.l).k (x.l.cat y.l).q (x.l.cat y.l).t).l.prod (x.len + y.len) /
  (18446744073709551616 : Int) ∧ (LS.mk false (0 : Nat) (x.len + y.len) y_1 (x.l.cat y.l).n (x.l.cat y.l).k (x.l.cat y.l).q (x.l.cat y.l).t).l.prod (x.len + y.len) / (18446744073709551616 : Int) < (18446744073709551616 :
  Int)) ∧ (0 : Int) ≤ (LS.mk false (0 : Nat) (x.len + y.len) y_1 (x.l.cat y.l).n (x.l.cat y.l).k (x.l.cat y.l).q (x.l.cat y.l).t).l.prod (x.len + y.len) % (18446744073709551616 : Int) ∧ (LS.mk false (0 : Nat) (x.len +
  y.len) y_1 (x.l.cat y.l).n (x.l.cat y.l).k (x.l.cat y.l).q (x.l.cat y.l).t).l.prod (x.len + y.len) % (18446744073709551616 : Int) < (18446744073709551616 : Int)) ∧ ((0 : Int) ≤ (LS.mk false (0 : Nat) (x.len + y.len) y_1
  (x.l.cat y.l).n (x.l.cat y.l).k (x.l.cat y.l).q (x.l.cat y.l).t).l.use ((LS.mk false (0 : Nat) (x.len + y.len) y_1 (x.l.cat y.l).n (x.l.cat y.l).k (x.l.cat y.l).q (x.l.cat y.l).t).l.prod (x.len + y.len)) (x.len + y.len)
  / (18446744073709551616 : Int) ∧ (LS.mk false (0 : Nat) (x.len + y.len) y_1 (x.l.cat y.l).n (x.l.cat y.l).k (x.l.cat y.l).q (x.l.cat y.l).t).l.use ((LS.mk false (0 : Nat) (x.len + y.len) y_1 (x.l.cat y.l).n (x.l.cat
  y.l).k (x.l.cat y.l).q (x.l.cat y.l).t).l.prod (x.len + y.len)) (x.len + y.len) / (18446744073709551616 : Int) < (18446744073709551616 : Int)) ∧ (0 : Int) ≤ (LS.mk false (0 : Nat) (x.len + y.len) y_1 (x.l.cat y.l).n
  (x.l.cat y.l).k (x.l.cat y.l).q (x.l.cat y.l).t).l.use ((LS.mk false (0 : Nat) (x.len + y.len) y_1 (x.l.cat y.l).n (x.l.cat y.l).k (x.l.cat y.l).q (x.l.cat y.l).t).l.prod (x.len + y.len)) (x.len + y.len) %
  (18446744073709551616 : Int) ∧ (LS.mk false (0 : Nat) (x.len + y.len) y_1 (x.l.cat y.l).n (x.l.cat y.l).k (x.l.cat y.l).q (x.l.cat y.l).t).l.use ((LS.mk false (0 : Nat) (x.len + y.len) y_1 (x.l.cat y.l).n (x.l.cat y.l).k
  (x.l.cat y.l).q (x.l.cat y.l).t).l.prod (x.len + y.len)) (x.len + y.len) % (18446744073709551616 : Int) < (18446744073709551616 : Int)) ∧ (decide (wcmp ((LS.mk false (0 : Nat) (x.len + y.len) y_1 (x.l.cat y.l).n (x.l.cat
  y.l).k (x.l.cat y.l).q (x.l.cat y.l).t).l.use ((LS.mk false (0 : Nat) (x.len + y.len) y_1 (x.l.cat y.l).n (x.l.cat y.l).k (x.l.cat y.l).q (x.l.cat y.l).t).l.prod (x.len + y.len)) (x.len + y.len) / (18446744073709551616 :
  Int)) ((LS.mk false (0 : Nat) (x.len + y.len) y_1 (x.l.cat y.l).n (x.l.cat y.l).k (x.l.cat y.l).q (x.l.cat y.l).t).l.use ((LS.mk false (0 : Nat) (x.len + y.len) y_1 (x.l.cat y.l).n (x.l.cat y.l).k (x.l.cat y.l).q
  (x.l.cat y.l).t).l.prod (x.len + y.len)) (x.len + y.len) % (18446744073709551616 : Int)) ((LS.mk false (0 : Nat) (x.len + y.len) y_1 (x.l.cat y.l).n (x.l.cat y.l).k (x.l.cat y.l).q (x.l.cat y.l).t).l.prod (x.len + y.len)
  / (18446744073709551616 : Int)) ((LS.mk false (0 : Nat) (x.len + y.len) y_1 (x.l.cat y.l).n (x.l.cat y.l).k (x.l.cat y.l).q (x.l.cat y.l).t).l.prod (x.len + y.len) % (18446744073709551616 : Int)) ≥ (0 : Int)) = true → ∀
  (v : Int), v = (0 : Int) → (x.Ok ∧ y.Ok) ∧ x.len ≤ (100 : Nat) ∧ y.len ≤ (100 : Nat) → ((swO x.l y.l).fst = false ∧ v = (swO x.l y.l).snd ∧ True) ∧ True ∧ ((0 : Nat) ≤ (0 : Nat) ∧ x.n = x.n ∧ ∀ (j : Nat), j < x.n → x.k j
  = x.k j ∧ x.q j = x.q j ∧ x.t j = x.t j ∧ True) ∧ ((0 : Nat) ≤ (0 : Nat) ∧ y.n = y.n ∧ ∀ (j : Nat), j < y.n → y.k j = y.k j ∧ y.q j = y.q j ∧ y.t j = y.t j ∧ True) ∧ True) ∧ (decide (wcmp ((LS.mk false (0 : Nat) (x.len +
  y.len) y_1 (x.l.cat y.l).n (x.l.cat y.l).k (x.l.cat y.l).q (x.l.cat y.l).t).l.use ((LS.mk false (0 : Nat) (x.len + y.len) y_1 (x.l.cat y.l).n (x.l.cat y.l).k (x.l.cat y.l).q (x.l.cat y.l).t).l.prod (x.len + y.len))
  (x.len + y.len) / (18446744073709551616 : Int)) ((LS.mk false (0 : Nat) (x.len + y.len) y_1 (x.l.cat y.l).n (x.l.cat y.l).k (x.l.cat y.l).q (x.l.cat y.l).t).l.use ((LS.mk false (0 : Nat) (x.len + y.len) y_1 (x.l.cat
  y.l).n (x.l.cat y.l).k (x.l.cat y.l).q (x.l.cat y.l).t).l.prod (x.len + y.len)) (x.len + y.len) % (18446744073709551616 : Int)) ((LS.mk false (0 : Nat) (x.len + y.len) y_1 (x.l.cat y.l).n (x.l.cat y.l).k (x.l.cat y.l).q
  (x.l.cat y.l).t).l.prod (x.len + y.len) / (18446744073709551616 : Int)) ((LS.mk false (0 : Nat) (x.len + y.len) y_1 (x.l.cat y.l).n (x.l.cat y.l).k (x.l.cat y.l).q (x.l.cat y.l).t).l.prod (x.len + y.len) %
  (18446744073709551616 : Int)) ≥ (0 : Int)) = false → ∀ (v : Int), v = (0 : Int) → (x.nil = true → x.len = (0 : Nat)) ∧ (∃ (y_2 : SWI), (y_2.i ≤ x.len ∧ (x.l.cat y.l).right ∧ y.len ≠ (0 : Nat) ∧ (x.l.cat y.l).U < (x.l.cat
  y.l).W) ∧ ((((x.nil = true → x.nil = true) ∧ (x.nil = false → x.nil = false ∧ True ∧ True ∧ x.lo = x.lo ∧ x.len = x.len ∧ x.cap = x.cap)) ∧ ((y.nil = true → y.nil = true) ∧ (y.nil = false → y.nil = false ∧ True ∧ True ∧
  y.lo = y.lo ∧ y.len = y.len ∧ y.cap = y.cap)) ∧ (True ∧ True ∧ (0 : Nat) = (0 : Nat) ∧ x.len + y.len = x.len + y.len ∧ y_1 = y_2.c) ∧ (True ∧ True) ∧ v = x.l.sq y_2.i ∧ ((x.nil = true → x.nil = true) ∧ (x.nil = false →
  x.nil = false ∧ True ∧ True ∧ x.lo = x.lo ∧ x.len = x.len ∧ x.cap = x.cap)) ∧ (↑x.len : Int) = (↑x.len : Int) ∧ (0 : Int) = (↑y_2.i : Int) ∧ True) ∧ ((0 : Nat) ≤ (0 : Nat) ∧ x.n = x.n ∧ ∀ (j : Nat), j < x.n → x.k j = x.k
  j ∧ x.q j = x.q j ∧ x.t j = x.t j ∧ True) ∧ ((0 : Nat) ≤ (0 : Nat) ∧ y.n = y.n ∧ ∀ (j : Nat), j < y.n → y.k j = y.k j ∧ y.q j = y.q j ∧ y.t j = y.t j ∧ True) ∧ (y_2.c * (3 : Nat) ≤ y_1 * (3 : Nat) ∧ (x.l.cat y.l).n =
  (x.l.cat y.l).n ∧ ∀ (j : Nat), j < (x.l.cat y.l).n → (x.l.cat y.l).k j = (x.l.cat y.l).k j ∧ (x.l.cat y.l).q j = (x.l.cat y.l).q j ∧ (x.l.cat y.l).t j = (x.l.cat y.l).t j ∧ True) ∧ ((6 : Nat) ≤ (6 : Nat) ∧ ((LS.mk false
  (0 : Nat) (x.len + y.len) y_1 (x.l.cat y.l).n (x.l.cat y.l).k (x.l.cat y.l).q (x.l.cat y.l).t).l.prod (x.len + y.len) / (18446744073709551616 : Int) = (x.l.cat y.l).W / (18446744073709551616 : Int) ∧ (LS.mk false (0 :
  Nat) (x.len + y.len) y_1 (x.l.cat y.l).n (x.l.cat y.l).k (x.l.cat y.l).q (x.l.cat y.l).t).l.prod (x.len + y.len) % (18446744073709551616 : Int) = (x.l.cat y.l).W % (18446744073709551616 : Int) ∧ True) ∧ ((LS.mk false (0
  : Nat) (x.len + y.len) y_1 (x.l.cat y.l).n (x.l.cat y.l).k (x.l.cat y.l).q (x.l.cat y.l).t).l.use ((LS.mk false (0 : Nat) (x.len + y.len) y_1 (x.l.cat y.l).n (x.l.cat y.l).k (x.l.cat y.l).q (x.l.cat y.l).t).l.prod (x.len
  + y.len)) (x.len + y.len) / (18446744073709551616 : Int) = (x.l.cat y.l).U / (18446744073709551616 : Int) ∧ (LS.mk false (0 : Nat) (x.len + y.len) y_1 (x.l.cat y.l).n (x.l.cat y.l).k (x.l.cat y.l).q (x.l.cat
  y.l).t).l.use ((LS.mk false (0 : Nat) (x.len + y.len) y_1 (x.l.cat y.l).n (x.l.cat y.l).k (x.l.cat y.l).q (x.l.cat y.l).t).l.prod (x.len + y.len)) (x.len + y.len) % (18446744073709551616 : Int) = (x.l.cat y.l).U %
  (18446744073709551616 : Int) ∧ True) ∧ ((LS.mk false (0 : Nat) (x.len + y.len) y_1 (x.l.cat y.l).n (x.l.cat y.l).k (x.l.cat y.l).q (x.l.cat y.l).t).l.slk ((LS.mk false (0 : Nat) (x.len + y.len) y_1 (x.l.cat y.l).n
  (x.l.cat y.l).k (x.l.cat y.l).q (x.l.cat y.l).t).l.prod (x.len + y.len)) (x.len + y.len) / (18446744073709551616 : Int) = (x.l.cat y.l).S / (18446744073709551616 : Int) ∧ (LS.mk false (0 : Nat) (x.len + y.len) y_1
  (x.l.cat y.l).n (x.l.cat y.l).k (x.l.cat y.l).q (x.l.cat y.l).t).l.slk ((LS.mk false (0 : Nat) (x.len + y.len) y_1 (x.l.cat y.l).n (x.l.cat y.l).k (x.l.cat y.l).q (x.l.cat y.l).t).l.prod (x.len + y.len)) (x.len + y.len)
  % (18446744073709551616 : Int) = (x.l.cat y.l).S % (18446744073709551616 : Int) ∧ True) ∧ True) ∧ True) ∧ True) ∧ ∀ (y_2 : SWI), y_2.i ≤ x.len ∧ (x.l.cat y.l).right ∧ y.len ≠ (0 : Nat) ∧ (x.l.cat y.l).U < (x.l.cat y.l).W
  → (decide ((↑y_2.i : Int) < (↑x.len : Int)) = true → (x.nil = true → x.len = (0 : Nat)) ∧ ((0 : Int) ≤ (↑y_2.i : Int) ∧ (↑y_2.i : Int) < (↑x.len : Int)) ∧ x.lo + (↑y_2.i : Int).toNat < x.n ∧ ∀ (v : Int), v =
  IntKind.u64.wrap (x.l.sq y_2.i + x.q (x.lo + (↑y_2.i : Int).toNat)) → ∃ (y_3 : SWI), (y_3.i ≤ x.len ∧ (x.l.cat y.l).right ∧ y.len ≠ (0 : Nat) ∧ (x.l.cat y.l).U < (x.l.cat y.l).W) ∧ ((((x.nil = true → x.nil = true) ∧
  (x.nil = false → x.nil = false ∧ True ∧ True ∧ x.lo = x.lo ∧ x.len = x.len ∧ x.cap = x.cap)) ∧ ((y.nil = true → y.nil = true) ∧ (y.nil = false → y.nil = false ∧ True ∧ True ∧ y.lo = y.lo ∧ y.len = y.len ∧ y.cap = y.cap))
  ∧ (True ∧ True ∧ (0 : Nat) = (0 : Nat) ∧ x.len + y.len = x.len + y.len ∧ y_2.c = y_3.c) ∧ (True ∧ True) ∧ v = x.l.sq y_3.i ∧ ((x.nil = true → x.nil = true) ∧ (x.nil = false → x.nil = false ∧ True ∧ True ∧ x.lo = x.lo ∧
  x.len = x.len ∧ x.cap = x.cap)) ∧ (↑x.len : Int) = (↑x.len : Int) ∧ IntKind.i64.wrap ((↑y_2.i : Int) + (1 : Int)) = (↑y_3.i : Int) ∧ True) ∧ ((0 : Nat) ≤ (0 : Nat) ∧ x.n = x.n ∧ ∀ (j : Nat), j < x.n → x.k j = x.k j ∧ x.q
  j = x.q j ∧ x.t j = x.t j ∧ True) ∧ ((0 : Nat) ≤ (0 : Nat) ∧ y.n = y.n ∧ ∀ (j : Nat), j < y.n → y.k j = y.k j ∧ y.q j = y.q j ∧ y.t j = y.t j ∧ True) ∧ (y_3.c * (3 : Nat) ≤ y_2.c * (3 : Nat) ∧ (x.l.cat y.l).n = (x.l.cat
  y.l).n ∧ ∀ (j : Nat), j < (x.l.cat y.l).n → (x.l.cat y.l).k j = (x.l.cat y.l).k j ∧ (x.l.cat y.l).q j = (x.l.cat y.l).q j ∧ (x.l.cat y.l).t j = (x.l.cat y.l).t j ∧ True) ∧ ((6 : Nat) ≤ (6 : Nat) ∧ ((x.l.cat y.l).W /
  (18446744073709551616 : Int) = (x.l.cat y.l).W / (18446744073709551616 : Int) ∧ (x.l.cat y.l).W % (18446744073709551616 : Int) = (x.l.cat y.l).W % (18446744073709551616 : Int) ∧ True) ∧ ((x.l.cat y.l).U /
  (18446744073709551616 : Int) = (x.l.cat y.l).U / (18446744073709551616 : Int) ∧ (x.l.cat y.l).U % (18446744073709551616 : Int) = (x.l.cat y.l).U % (18446744073709551616 : Int) ∧ True) ∧ ((x.l.cat y.l).S /
  (18446744073709551616 : Int) = (x.l.cat y.l).S / (18446744073709551616 : Int) ∧ (x.l.cat y.l).S % (18446744073709551616 : Int) = (x.l.cat y.l).S % (18446744073709551616 : Int) ∧ True) ∧ True) ∧ True) ∧ (swF1 x y).μ y_3 <
  (swF1 x y).μ y_2) ∧ (decide ((↑y_2.i : Int) < (↑x.len : Int)) = false → ((((x.l.cat y.l).W / (18446744073709551616 : Int) = (x.l.cat y.l).W / (18446744073709551616 : Int) ∧ (x.l.cat y.l).W % (18446744073709551616 : Int)
  = (x.l.cat y.l).W % (18446744073709551616 : Int) ∧ True) ∧ ((x.l.cat y.l).U / (18446744073709551616 : Int) = (x.l.cat y.l).U / (18446744073709551616 : Int) ∧ (x.l.cat y.l).U % (18446744073709551616 : Int) = (x.l.cat
  y.l).U % (18446744073709551616 : Int) ∧ True) ∧ True) ∧ True) ∧ (((((0 : Int) ≤ (x.l.cat y.l).W / (18446744073709551616 : Int) ∧ (x.l.cat y.l).W / (18446744073709551616 : Int) < (18446744073709551616 : Int)) ∧ (0 : Int)
  ≤ (x.l.cat y.l).W % (18446744073709551616 : Int) ∧ (x.l.cat y.l).W % (18446744073709551616 : Int) < (18446744073709551616 : Int)) ∧ ((0 : Int) ≤ (x.l.cat y.l).U / (18446744073709551616 : Int) ∧ (x.l.cat y.l).U /
  (18446744073709551616 : Int) < (18446744073709551616 : Int)) ∧ (0 : Int) ≤ (x.l.cat y.l).U % (18446744073709551616 : Int) ∧ (x.l.cat y.l).U % (18446744073709551616 : Int) < (18446744073709551616 : Int)) ∧ wN ((x.l.cat
  y.l).U / (18446744073709551616 : Int)) ((x.l.cat y.l).U % (18446744073709551616 : Int)) ≤ wN ((x.l.cat y.l).W / (18446744073709551616 : Int)) ((x.l.cat y.l).W % (18446744073709551616 : Int))) ∧ ((((x.l.cat y.l).W /
  (18446744073709551616 : Int) = (x.l.cat y.l).W / (18446744073709551616 : Int) ∧ (x.l.cat y.l).W % (18446744073709551616 : Int) = (x.l.cat y.l).W % (18446744073709551616 : Int) ∧ True) ∧ x.l.sq y_2.i = x.l.sq y_2.i ∧
  True) ∧ True) ∧ ((((0 : Int) ≤ (x.l.cat y.l).W / (18446744073709551616 : Int) ∧ (x.l.cat y.l).W / (18446744073709551616 : Int) < (18446744073709551616 : Int)) ∧ (0 : Int) ≤ (x.l.cat y.l).W % (18446744073709551616 : Int)
  ∧ (x.l.cat y.l).W % (18446744073709551616 : Int) < (18446744073709551616 : Int)) ∧ ((0 : Int) ≤ x.l.sq y_2.i ∧ x.l.sq y_2.i < (18446744073709551616 : Int)) ∧ wN ((x.l.cat y.l).W / (18446744073709551616 : Int)) ((x.l.cat
  y.l).W % (18446744073709551616 : Int)) * x.l.sq y_2.i < two128) ∧ ((((wN ((x.l.cat y.l).W / (18446744073709551616 : Int)) ((x.l.cat y.l).W % (18446744073709551616 : Int)) - wN ((x.l.cat y.l).U / (18446744073709551616 :
  Int)) ((x.l.cat y.l).U % (18446744073709551616 : Int))) / (18446744073709551616 : Int) = (wN ((x.l.cat y.l).W / (18446744073709551616 : Int)) ((x.l.cat y.l).W % (18446744073709551616 : Int)) - wN ((x.l.cat y.l).U /
  (18446744073709551616 : Int)) ((x.l.cat y.l).U % (18446744073709551616 : Int))) / (18446744073709551616 : Int) ∧ (wN ((x.l.cat y.l).W / (18446744073709551616 : Int)) ((x.l.cat y.l).W % (18446744073709551616 : Int)) - wN
  ((x.l.cat y.l).U / (18446744073709551616 : Int)) ((x.l.cat y.l).U % (18446744073709551616 : Int))) % (18446744073709551616 : Int) = (wN ((x.l.cat y.l).W / (18446744073709551616 : Int)) ((x.l.cat y.l).W %
  (18446744073709551616 : Int)) - wN ((x.l.cat y.l).U / (18446744073709551616 : Int)) ((x.l.cat y.l).U % (18446744073709551616 : Int))) % (18446744073709551616 : Int) ∧ True) ∧ (wN ((x.l.cat y.l).W / (18446744073709551616
  : Int)) ((x.l.cat y.l).W % (18446744073709551616 : Int)) * x.l.sq y_2.i / (18446744073709551616 : Int) = wN ((x.l.cat y.l).W / (18446744073709551616 : Int)) ((x.l.cat y.l).W % (18446744073709551616 : Int)) * x.l.sq y_2.i
  / (18446744073709551616 : Int) ∧ wN ((x.l.cat y.l).W / (18446744073709551616 : Int)) ((x.l.cat y.l).W % (18446744073709551616 : Int)) * x.l.sq y_2.i % (18446744073709551616 : Int) = wN ((x.l.cat y.l).W /
  (18446744073709551616 : Int)) ((x.l.cat y.l).W % (18446744073709551616 : Int)) * x.l.sq y_2.i % (18446744073709551616 : Int) ∧ True) ∧ True) ∧ True) ∧ (((((0 : Int) ≤ (wN ((x.l.cat y.l).W / (18446744073709551616 : Int))
  ((x.l.cat y.l).W % (18446744073709551616 : Int)) - wN ((x.l.cat y.l).U / (18446744073709551616 : Int)) ((x.l.cat y.l).U % (18446744073709551616 : Int))) / (18446744073709551616 : Int) ∧ (wN ((x.l.cat y.l).W /
  (18446744073709551616 : Int)) ((x.l.cat y.l).W % (18446744073709551616 : Int)) - wN ((x.l.cat y.l).U / (18446744073709551616 : Int)) ((x.l.cat y.l).U % (18446744073709551616 : Int))) / (18446744073709551616 : Int) <
  (18446744073709551616 : Int)) ∧ (0 : Int) ≤ (wN ((x.l.cat y.l).W / (18446744073709551616 : Int)) ((x.l.cat y.l).W % (18446744073709551616 : Int)) - wN ((x.l.cat y.l).U / (18446744073709551616 : Int)) ((x.l.cat y.l).U %
  (18446744073709551616 : Int))) % (18446744073709551616 : Int) ∧ (wN ((x.l.cat y.l).W / (18446744073709551616 : Int)) ((x.l.cat y.l).W % (18446744073709551616 : Int)) - wN ((x.l.cat y.l).U / (18446744073709551616 : Int))
  ((x.l.cat y.l).U % (18446744073709551616 : Int))) % (18446744073709551616 : Int) < (18446744073709551616 : Int)) ∧ ((0 : Int) ≤ wN ((x.l.cat y.l).W / (18446744073709551616 : Int)) ((x.l.cat y.l).W % (18446744073709551616
  : Int)) * x.l.sq y_2.i / (18446744073709551616 : Int) ∧ wN ((x.l.cat y.l).W / (18446744073709551616 : Int)) ((x.l.cat y.l).W % (18446744073709551616 : Int)) * x.l.sq y_2.i / (18446744073709551616 : Int) <
  (18446744073709551616 : Int)) ∧ (0 : Int) ≤ wN ((x.l.cat y.l).W / (18446744073709551616 : Int)) ((x.l.cat y.l).W % (18446744073709551616 : Int)) * x.l.sq y_2.i % (18446744073709551616 : Int) ∧ wN ((x.l.cat y.l).W /
  (18446744073709551616 : Int)) ((x.l.cat y.l).W % (18446744073709551616 : Int)) * x.l.sq y_2.i % (18446744073709551616 : Int) < (18446744073709551616 : Int)) ∧ wN ((wN ((x.l.cat y.l).W / (18446744073709551616 : Int))
  ((x.l.cat y.l).W % (18446744073709551616 : Int)) - wN ((x.l.cat y.l).U / (18446744073709551616 : Int)) ((x.l.cat y.l).U % (18446744073709551616 : Int))) / (18446744073709551616 : Int)) ((wN ((x.l.cat y.l).W /
  (18446744073709551616 : Int)) ((x.l.cat y.l).W % (18446744073709551616 : Int)) - wN ((x.l.cat y.l).U / (18446744073709551616 : Int)) ((x.l.cat y.l).U % (18446744073709551616 : Int))) % (18446744073709551616 : Int)) ≤
  (20282409603651670423947251286016 : Int)) ∧ ∀ (v : Int), v = (lestO (wN ((wN ((x.l.cat y.l).W / (18446744073709551616 : Int)) ((x.l.cat y.l).W % (18446744073709551616 : Int)) - wN ((x.l.cat y.l).U / (18446744073709551616
  : Int)) ((x.l.cat y.l).U % (18446744073709551616 : Int))) / (18446744073709551616 : Int)) ((wN ((x.l.cat y.l).W / (18446744073709551616 : Int)) ((x.l.cat y.l).W % (18446744073709551616 : Int)) - wN ((x.l.cat y.l).U /
  (18446744073709551616 : Int)) ((x.l.cat y.l).U % (18446744073709551616 : Int))) % (18446744073709551616 : Int))) (wN (wN ((x.l.cat y.l).W / (18446744073709551616 : Int)) ((x.l.cat y.l).W % (18446744073709551616 : Int)) *
  x.l.sq y_2.i / (18446744073709551616 : Int)) (wN ((x.l.cat y.l).W / (18446744073709551616 : Int)) ((x.l.cat y.l).W % (18446744073709551616 : Int)) * x.l.sq y_2.i % (18446744073709551616 : Int)))).fst → ∀ (v_1 : Int), v_1
  = (lestO (wN ((wN ((x.l.cat y.l).W / (18446744073709551616 : Int)) ((x.l.cat y.l).W % (18446744073709551616 : Int)) - wN ((x.l.cat y.l).U / (18446744073709551616 : Int)) ((x.l.cat y.l).U % (18446744073709551616 : Int)))
  / (18446744073709551616 : Int)) ((wN ((x.l.cat y.l).W / (18446744073709551616 : Int)) ((x.l.cat y.l).W % (18446744073709551616 : Int)) - wN ((x.l.cat y.l).U / (18446744073709551616 : Int)) ((x.l.cat y.l).U %
  (18446744073709551616 : Int))) % (18446744073709551616 : Int))) (wN (wN ((x.l.cat y.l).W / (18446744073709551616 : Int)) ((x.l.cat y.l).W % (18446744073709551616 : Int)) * x.l.sq y_2.i / (18446744073709551616 : Int)) (wN
  ((x.l.cat y.l).W / (18446744073709551616 : Int)) ((x.l.cat y.l).W % (18446744073709551616 : Int)) * x.l.sq y_2.i % (18446744073709551616 : Int)))).snd → ((v_1 != (0 : Int)) = true → ∀ (v : Int), v = v_1 → (x.Ok ∧ y.Ok) ∧
  x.len ≤ (100 : Nat) ∧ y.len ≤ (100 : Nat) → ((swO x.l y.l).fst = false ∧ v = (swO x.l y.l).snd ∧ True) ∧ True ∧ ((0 : Nat) ≤ (0 : Nat) ∧ x.n = x.n ∧ ∀ (j : Nat), j < x.n → x.k j = x.k j ∧ x.q j = x.q j ∧ x.t j = x.t j ∧
  True) ∧ ((0 : Nat) ≤ (0 : Nat) ∧ y.n = y.n ∧ ∀ (j : Nat), j < y.n → y.k j = y.k j ∧ y.q j = y.q j ∧ y.t j = y.t j ∧ True) ∧ True) ∧ ((v_1 != (0 : Int)) = false → ((((y.nil = true → y.nil = true) ∧ (y.nil = false → y.nil
  = false ∧ True ∧ True ∧ y.lo = y.lo ∧ y.len = y.len ∧ y.cap = y.cap)) ∧ True ∧ True) ∧ ((0 : Nat) ≤ (0 : Nat) ∧ y.n = y.n ∧ ∀ (j : Nat), j < y.n → y.k j = y.k j ∧ y.q j = y.q j ∧ y.t j = y.t j ∧ True) ∧ True) ∧ (y.Ok ∧
  ((1 : Nat) ≤ y.len ∧ y.len ≤ (8 : Nat)) ∧ y.l.all) ∧ ∀ (v_2 : Int), v_2 = y.l.t (y.l.am (y.len - (1 : Nat))) → ((((x.nil = true → x.nil = true) ∧ (x.nil = false → x.nil = false ∧ True ∧ True ∧ x.lo = x.lo ∧ x.len = x.len
  ∧ x.cap = x.cap)) ∧ ((y.nil = true → y.nil = true) ∧ (y.nil = false → y.nil = false ∧ True ∧ True ∧ y.lo = y.lo ∧ y.len = y.len ∧ y.cap = y.cap)) ∧ v_2 = v_2 ∧ True) ∧ ((0 : Nat) ≤ (0 : Nat) ∧ x.n = x.n ∧ ∀ (j : Nat), j
  < x.n → x.k j = x.k j ∧ x.q j = x.q j ∧ x.t j = x.t j ∧ True) ∧ ((0 : Nat) ≤ (0 : Nat) ∧ y.n = y.n ∧ ∀ (j : Nat), j < y.n → y.k j = y.k j ∧ y.q j = y.q j ∧ y.t j = y.t j ∧ True) ∧ True) ∧ ((x.Ok ∧ y.Ok) ∧ (x.l.right ∧
  y.l.right) ∧ (0 : Int) ≤ v_2 ∧ v_2 ≤ (1048576 : Int)) ∧ (decide (swd x.l y.l v_2 > v_2) = true → ∀ (v : Int), v = (0 : Int) → (x.Ok ∧ y.Ok) ∧ x.len ≤ (100 : Nat) ∧ y.len ≤ (100 : Nat) → ((swO x.l y.l).fst = false ∧ v =
  (swO x.l y.l).snd ∧ True) ∧ True ∧ ((0 : Nat) ≤ (0 : Nat) ∧ x.n = x.n ∧ ∀ (j : Nat), j < x.n → x.k j = x.k j ∧ x.q j = x.q j ∧ x.t j = x.t j ∧ True) ∧ ((0 : Nat) ≤ (0 : Nat) ∧ y.n = y.n ∧ ∀ (j : Nat), j < y.n → y.k j =
  y.k j ∧ y.q j = y.q j ∧ y.t j = y.t j ∧ True) ∧ True) ∧ (decide (swd x.l y.l v_2 > v_2) = false → (∃ (y_3 : SWI), (y_3.i ≤ x.len + y.len ∧ swG x y ∧ ∀ (j : Nat), j < y_3.i → ∀ (c : Int), y.l.fst ≤ (x.l.cat y.l).t j * c →
  (x.l.cat y.l).t j * c ≤ (swH x.l y.l).fst → swd x.l y.l ((x.l.cat y.l).t j * c) ≤ (x.l.cat y.l).t j * c) ∧ ((((x.nil = true → x.nil = true) ∧ (x.nil = false → x.nil = false ∧ True ∧ True ∧ x.lo = x.lo ∧ x.len = x.len ∧
  x.cap = x.cap)) ∧ ((y.nil = true → y.nil = true) ∧ (y.nil = false → y.nil = false ∧ True ∧ True ∧ y.lo = y.lo ∧ y.len = y.len ∧ y.cap = y.cap)) ∧ v = (swH x.l y.l).fst ∧ v_2 = y.l.fst ∧ (True ∧ True ∧ (0 : Nat) = (0 :
  Nat) ∧ x.len + y.len = x.len + y.len ∧ y_2.c = y_3.c) ∧ (↑(x.len + y.len) : Int) = (↑(x.len + y.len) : Int) ∧ (0 : Int) = (↑y_3.i : Int) ∧ True) ∧ ((0 : Nat) ≤ (0 : Nat) ∧ x.n = x.n ∧ ∀ (j : Nat), j < x.n → x.k j = x.k j
  ∧ x.q j = x.q j ∧ x.t j = x.t j ∧ True) ∧ ((0 : Nat) ≤ (0 : Nat) ∧ y.n = y.n ∧ ∀ (j : Nat), j < y.n → y.k j = y.k j ∧ y.q j = y.q j ∧ y.t j = y.t j ∧ True) ∧ (y_3.c * (3 : Nat) ≤ y_2.c * (3 : Nat) ∧ (x.l.cat y.l).n =
  (x.l.cat y.l).n ∧ ∀ (j : Nat), j < (x.l.cat y.l).n → (x.l.cat y.l).k j = (x.l.cat y.l).k j ∧ (x.l.cat y.l).q j = (x.l.cat y.l).q j ∧ (x.l.cat y.l).t j = (x.l.cat y.l).t j ∧ True) ∧ True) ∧ True) ∧ ∀ (y_3 : SWI), (y_3.i ≤
  x.len + y.len ∧ swG x y ∧ ∀ (j : Nat), j < y_3.i → ∀ (c : Int), y.l.fst ≤ (x.l.cat y.l).t j * c → (x.l.cat y.l).t j * c ≤ (swH x.l y.l).fst → swd x.l y.l ((x.l.cat y.l).t j * c) ≤ (x.l.cat y.l).t j * c) → (decide
  ((↑y_3.i : Int) < (↑(x.len + y.len) : Int)) = true → ((0 : Int) ≤ (↑y_3.i : Int) ∧ (↑y_3.i : Int) < (↑(x.len + y.len) : Int)) ∧ (0 : Nat) + (↑y_3.i : Int).toNat < (x.l.cat y.l).n ∧ (x.l.cat y.l).t ((0 : Nat) + (↑y_3.i :
  Int).toNat) ≠ (0 : Int) ∧ ∀ (v : Int), v = IntKind.u64.wrap ((x.l.cat y.l).t ((0 : Nat) + (↑y_3.i : Int).toNat) * IntKind.u64.wrap ((IntKind.u64.wrap (IntKind.u64.wrap (y.l.fst + (x.l.cat y.l).t ((0 : Nat) + (↑y_3.i :
  Int).toNat)) - (1 : Int))).tdiv ((x.l.cat y.l).t ((0 : Nat) + (↑y_3.i : Int).toNat)))) → ∃ (g : Nat), (∃ (y_4 : SWJ), ((x.l.cat y.l).t g * (swB x y g + (↑y_4.m : Int)) ≤ (swH x.l y.l).fst + (16384 : Int) ∧ ∀ (k : Nat), k
  < y_4.m → swd x.l y.l ((x.l.cat y.l).t g * (swB x y g + (↑k : Int))) ≤ (x.l.cat y.l).t g * (swB x y g + (↑k : Int))) ∧ ((((x.nil = true → x.nil = true) ∧ (x.nil = false → x.nil = false ∧ True ∧ True ∧ x.lo = x.lo ∧ x.len
  = x.len ∧ x.cap = x.cap)) ∧ ((y.nil = true → y.nil = true) ∧ (y.nil = false → y.nil = false ∧ True ∧ True ∧ y.lo = y.lo ∧ y.len = y.len ∧ y.cap = y.cap)) ∧ (swH x.l y.l).fst = (swH x.l y.l).fst ∧ y.l.fst = y.l.fst ∧
  (True ∧ True) ∧ v = (x.l.cat y.l).t g * (swB x y g + (↑y_4.m : Int)) ∧ (True ∧ True ∧ (0 : Nat) = (0 : Nat) ∧ x.len + y.len = x.len + y.len ∧ y_3.c = y_4.c) ∧ (↑(x.len + y.len) : Int) = (↑(x.len + y.len) : Int) ∧ (↑y_3.i
  : Int) = (↑g : Int) ∧ True) ∧ ((0 : Nat) ≤ (0 : Nat) ∧ x.n = x.n ∧ ∀ (j : Nat), j < x.n → x.k j = x.k j ∧ x.q j = x.q j ∧ x.t j = x.t j ∧ True) ∧ ((0 : Nat) ≤ (0 : Nat) ∧ y.n = y.n ∧ ∀ (j : Nat), j < y.n → y.k j = y.k j
  ∧ y.q j = y.q j ∧ y.t j = y.t j ∧ True) ∧ (y_4.c * (3 : Nat) ≤ y_3.c * (3 : Nat) ∧ (x.l.cat y.l).n = (x.l.cat y.l).n ∧ ∀ (j : Nat), j < (x.l.cat y.l).n → (x.l.cat y.l).k j = (x.l.cat y.l).k j ∧ (x.l.cat y.l).q j =
  (x.l.cat y.l).q j ∧ (x.l.cat y.l).t j = (x.l.cat y.l).t j ∧ True) ∧ ((3 : Nat) ≤ (3 : Nat) ∧ (x.l.cat y.l).k ((0 : Nat) + (↑y_3.i : Int).toNat) = (x.l.cat y.l).k g ∧ (x.l.cat y.l).q ((0 : Nat) + (↑y_3.i : Int).toNat) =
  (x.l.cat y.l).q g ∧ (x.l.cat y.l).t ((0 : Nat) + (↑y_3.i : Int).toNat) = (x.l.cat y.l).t g ∧ True) ∧ True) ∧ True) ∧ ∀ (y_4 : SWJ), ((x.l.cat y.l).t g * (swB x y g + (↑y_4.m : Int)) ≤ (swH x.l y.l).fst + (16384 : Int) ∧
  ∀ (k : Nat), k < y_4.m → swd x.l y.l ((x.l.cat y.l).t g * (swB x y g + (↑k : Int))) ≤ (x.l.cat y.l).t g * (swB x y g + (↑k : Int))) → (decide ((x.l.cat y.l).t g * (swB x y g + (↑y_4.m : Int)) ≤ (swH x.l y.l).fst) = true
  → ((((x.nil = true → x.nil = true) ∧ (x.nil = false → x.nil = false ∧ True ∧ True ∧ x.lo = x.lo ∧ x.len = x.len ∧ x.cap = x.cap)) ∧ ((y.nil = true → y.nil = true) ∧ (y.nil = false → y.nil = false ∧ True ∧ True ∧ y.lo =
  y.lo ∧ y.len = y.len ∧ y.cap = y.cap)) ∧ (x.l.cat y.l).t g * (swB x y g + (↑y_4.m : Int)) = (x.l.cat y.l).t g * (swB x y g + (↑y_4.m : Int)) ∧ True) ∧ ((0 : Nat) ≤ (0 : Nat) ∧ x.n = x.n ∧ ∀ (j : Nat), j < x.n → x.k j =
  x.k j ∧ x.q j = x.q j ∧ x.t j = x.t j ∧ True) ∧ ((0 : Nat) ≤ (0 : Nat) ∧ y.n = y.n ∧ ∀ (j : Nat), j < y.n → y.k j = y.k j ∧ y.q j = y.q j ∧ y.t j = y.t j ∧ True) ∧ True) ∧ ((x.Ok ∧ y.Ok) ∧ (x.l.right ∧ y.l.right) ∧ (0 :
  Int) ≤ (x.l.cat y.l).t g * (swB x y g + (↑y_4.m : Int)) ∧ (x.l.cat y.l).t g * (swB x y g + (↑y_4.m : Int)) ≤ (1048576 : Int)) ∧ (decide (swd x.l y.l ((x.l.cat y.l).t g * (swB x y g + (↑y_4.m : Int))) > (x.l.cat y.l).t g
  * (swB x y g + (↑y_4.m : Int))) = true → ∀ (v : Int), v = (0 : Int) → (x.Ok ∧ y.Ok) ∧ x.len ≤ (100 : Nat) ∧ y.len ≤ (100 : Nat) → ((swO x.l y.l).fst = false ∧ v = (swO x.l y.l).snd ∧ True) ∧ True ∧ ((0 : Nat) ≤ (0 : Nat)
  ∧ x.n = x.n ∧ ∀ (j : Nat), j < x.n → x.k j = x.k j ∧ x.q j = x.q j ∧ x.t j = x.t j ∧ True) ∧ ((0 : Nat) ≤ (0 : Nat) ∧ y.n = y.n ∧ ∀ (j : Nat), j < y.n → y.k j = y.k j ∧ y.q j = y.q j ∧ y.t j = y.t j ∧ True) ∧ True) ∧
  (decide (swd x.l y.l ((x.l.cat y.l).t g * (swB x y g + (↑y_4.m : Int))) > (x.l.cat y.l).t g * (swB x y g + (↑y_4.m : Int))) = false → ∀ (v : Int), v = IntKind.u64.wrap ((x.l.cat y.l).t g * (swB x y g + (↑y_4.m : Int)) +
  (x.l.cat y.l).t g) → ∃ (y_5 : SWJ), ((x.l.cat y.l).t g * (swB x y g + (↑y_5.m : Int)) ≤ (swH x.l y.l).fst + (16384 : Int) ∧ ∀ (k : Nat), k < y_5.m → swd x.l y.l ((x.l.cat y.l).t g * (swB x y g + (↑k : Int))) ≤ (x.l.cat
  y.l).t g * (swB x y g + (↑k : Int))) ∧ ((((x.nil = true → x.nil = true) ∧ (x.nil = false → x.nil = false ∧ True ∧ True ∧ x.lo = x.lo ∧ x.len = x.len ∧ x.cap = x.cap)) ∧ ((y.nil = true → y.nil = true) ∧ (y.nil = false →
  y.nil = false ∧ True ∧ True ∧ y.lo = y.lo ∧ y.len = y.len ∧ y.cap = y.cap)) ∧ (swH x.l y.l).fst = (swH x.l y.l).fst ∧ y.l.fst = y.l.fst ∧ (True ∧ True) ∧ v = (x.l.cat y.l).t g * (swB x y g + (↑y_5.m : Int)) ∧ (True ∧
  True ∧ (0 : Nat) = (0 : Nat) ∧ x.len + y.len = x.len + y.len ∧ y_4.c = y_5.c) ∧ (↑(x.len + y.len) : Int) = (↑(x.len + y.len) : Int) ∧ (↑g : Int) = (↑g : Int) ∧ True) ∧ ((0 : Nat) ≤ (0 : Nat) ∧ x.n = x.n ∧ ∀ (j : Nat), j
  < x.n → x.k j = x.k j ∧ x.q j = x.q j ∧ x.t j = x.t j ∧ True) ∧ ((0 : Nat) ≤ (0 : Nat) ∧ y.n = y.n ∧ ∀ (j : Nat), j < y.n → y.k j = y.k j ∧ y.q j = y.q j ∧ y.t j = y.t j ∧ True) ∧ (y_5.c * (3 : Nat) ≤ y_4.c * (3 : Nat) ∧
  (x.l.cat y.l).n = (x.l.cat y.l).n ∧ ∀ (j : Nat), j < (x.l.cat y.l).n → (x.l.cat y.l).k j = (x.l.cat y.l).k j ∧ (x.l.cat y.l).q j = (x.l.cat y.l).q j ∧ (x.l.cat y.l).t j = (x.l.cat y.l).t j ∧ True) ∧ ((3 : Nat) ≤ (3 :
  Nat) ∧ (x.l.cat y.l).k g = (x.l.cat y.l).k g ∧ (x.l.cat y.l).q g = (x.l.cat y.l).q g ∧ (x.l.cat y.l).t g = (x.l.cat y.l).t g ∧ True) ∧ True) ∧ (swF3 x y g).μ y_5 < (swF3 x y g).μ y_4)) ∧ (decide ((x.l.cat y.l).t g * (swB
  x y g + (↑y_4.m : Int)) ≤ (swH x.l y.l).fst) = false → ∃ (y_5 : SWI), (y_5.i ≤ x.len + y.len ∧ swG x y ∧ ∀ (j : Nat), j < y_5.i → ∀ (c : Int), y.l.fst ≤ (x.l.cat y.l).t j * c → (x.l.cat y.l).t j * c ≤ (swH x.l y.l).fst →
  swd x.l y.l ((x.l.cat y.l).t j * c) ≤ (x.l.cat y.l).t j * c) ∧ ((((x.nil = true → x.nil = true) ∧ (x.nil = false → x.nil = false ∧ True ∧ True ∧ x.lo = x.lo ∧ x.len = x.len ∧ x.cap = x.cap)) ∧ ((y.nil = true → y.nil =
  true) ∧ (y.nil = false → y.nil = false ∧ True ∧ True ∧ y.lo = y.lo ∧ y.len = y.len ∧ y.cap = y.cap)) ∧ (swH x.l y.l).fst = (swH x.l y.l).fst ∧ y.l.fst = y.l.fst ∧ (True ∧ True ∧ (0 : Nat) = (0 : Nat) ∧ x.len + y.len =
  x.len + y.len ∧ y_4.c = y_5.c) ∧ (↑(x.len + y.len) : Int) = (↑(x.len + y.len) : Int) ∧ IntKind.i64.wrap ((↑g : Int) + (1 : Int)) = (↑y_5.i : Int) ∧ True) ∧ ((0 : Nat) ≤ (0 : Nat) ∧ x.n = x.n ∧ ∀ (j : Nat), j < x.n → x.k
  j = x.k j ∧ x.q j = x.q j ∧ x.t j = x.t j ∧ True) ∧ ((0 : Nat) ≤ (0 : Nat) ∧ y.n = y.n ∧ ∀ (j : Nat), j < y.n → y.k j = y.k j ∧ y.q j = y.q j ∧ y.t j = y.t j ∧ True) ∧ (y_5.c * (3 : Nat) ≤ y_4.c * (3 : Nat) ∧ (x.l.cat
  y.l).n = (x.l.cat y.l).n ∧ ∀ (j : Nat), j < (x.l.cat y.l).n → (x.l.cat y.l).k j = (x.l.cat y.l).k j ∧ (x.l.cat y.l).q j = (x.l.cat y.l).q j ∧ (x.l.cat y.l).t j = (x.l.cat y.l).t j ∧ True) ∧ True) ∧ (swF2 x y).μ y_5 <
  (swF2 x y).μ y_3)) ∧ (decide ((↑y_3.i : Int) < (↑(x.len + y.len) : Int)) = false → ∀ (v : Int), v = (0 : Int) → (x.Ok ∧ y.Ok) ∧ x.len ≤ (100 : Nat) ∧ y.len ≤ (100 : Nat) → ((swO x.l y.l).fst = true ∧ v = (swO x.l
  y.l).snd ∧ True) ∧ True ∧ ((0 : Nat) ≤ (0 : Nat) ∧ x.n = x.n ∧ ∀ (j : Nat), j < x.n → x.k j = x.k j ∧ x.q j = x.q j ∧ x.t j = x.t j ∧ True) ∧ ((0 : Nat) ≤ (0 : Nat) ∧ y.n = y.n ∧ ∀ (j : Nat), j < y.n → y.k j = y.k j ∧
  y.q j = y.q j ∧ y.t j = y.t j ∧ True) ∧ True))))))) := by
  simp only [true_and, and_true, eq_self, Nat.le_refl, decide_eq_true_eq, decide_eq_false_iff_not, beq_iff_eq, beq_eq_false_iff_ne, implies_true, and_self, bne_iff_ne, Int.not_lt, Int.not_le, ge_iff_le, gt_iff_lt, ne_eq, Nat.zero_add, Int.toNat_natCast, IntKind.wrap_u64, IntKind.wrap_i64, bne_eq_false_iff_eq, Bool.not_eq_true', Bool.not_eq_false']
  intro x y hxy v0 hv0
  have eL : ∀ c : Nat, ({ nil := false, lo := 0, len := x.len + y.len, cap := c, n := (x.l.cat y.l).n, k := (x.l.cat y.l).k, q := (x.l.cat y.l).q, t := (x.l.cat y.l).t } : LS).l = x.l.cat y.l := fun c => rowLS_l (x.l.cat y.l) c
  have ok : ∀ c : Nat, LS.Ok { nil := false, lo := 0, len := x.len + y.len, cap := c, n := (x.l.cat y.l).n, k := (x.l.cat y.l).k, q := (x.l.cat y.l).q, t := (x.l.cat y.l).t } := fun c => rowLS_ok (x.l.cat y.l) c
  have eW : (x.l.cat y.l).prod (x.len + y.len) = (x.l.cat y.l).W := rfl
  have eU : (x.l.cat y.l).use (x.l.cat y.l).W (x.len + y.len) = (x.l.cat y.l).U := rfl
  have eS : (x.l.cat y.l).slk (x.l.cat y.l).W (x.len + y.len) = (x.l.cat y.l).S := rfl
  have hI3 : ∀ (u : Nat) (z : SWJ), (swF3 x y u).I z = ((x.l.cat y.l).t u * (swB x y u + z.m) ≤ (swH x.l y.l).1 + 16384 ∧ ∀ k : Nat, k < z.m → swd x.l y.l ((x.l.cat y.l).t u * (swB x y u + k)) ≤ (x.l.cat y.l).t u * (swB x y u + k)) := fun _ _ => rfl
  have hM3 : ∀ (u : Nat) (z : SWJ), (swF3 x y u).μ z = ((swH x.l y.l).1 + 16385 - (x.l.cat y.l).t u * (swB x y u + z.m)).toNat := fun _ _ => rfl
  have hM1 : ∀ z : SWI, (swF1 x y).μ z = x.len - z.i := fun _ => rfl
  have hM2 : ∀ z : SWI, (swF2 x y).μ z = x.len + y.len - z.i := fun _ => rfl
  simp only [eL, eW, eU, eS, ok, wNdm, wcmpdm, hM1, hM2, hM3, imp_self, implies_true, and_self, and_true, true_and, and_false, exists_false]
  clear eL eW eU eS hI3 hM1 hM2 hM3
  have eH : lestO ((x.l.cat y.l).W - (x.l.cat y.l).U) ((x.l.cat y.l).W * x.l.sq x.len) = swH x.l y.l := rfl
  have hG : swG x y = ((x.l.cat y.l).right ∧ y.len ≠ 0 ∧ (x.l.cat y.l).U < (x.l.cat y.l).W ∧ (swH x.l y.l).2 = 0 ∧ swd x.l y.l y.l.fst ≤ y.l.fst) := rfl
  have hB : ∀ j, swB x y j = (y.l.fst + (x.l.cat y.l).t j - 1) / (x.l.cat y.l).t j := fun _ => rfl
  have hO1 : ¬ (x.l.cat y.l).right → swO x.l y.l = (false, 11) := fun h => if_pos h
  have hO2 : (x.l.cat y.l).right → y.len = 0 → swO x.l y.l = (true, 0) := fun h h2 => by unfold swO; rw [if_neg (fun h3 => h3 h), if_pos (show y.l.n = 0 from h2)]
  have hO3 : (x.l.cat y.l).right → y.len ≠ 0 → (x.l.cat y.l).W ≤ (x.l.cat y.l).U → swO x.l y.l = (false, 0) := fun h h2 h3 => by unfold swO; rw [if_neg (fun h3 => h3 h), if_neg (show ¬ y.l.n = 0 from h2), if_pos h3]
  have hO4 : (x.l.cat y.l).right → y.len ≠ 0 → (x.l.cat y.l).U < (x.l.cat y.l).W → (swH x.l y.l).2 ≠ 0 → swO x.l y.l = (false, (swH x.l y.l).2) := fun h h2 h3 h4 => by unfold swO; rw [if_neg (fun h3 => h3 h), if_neg (show ¬ y.l.n = 0 from h2), if_neg (by omega), if_pos h4]
  have hO5 : (x.l.cat y.l).right → y.len ≠ 0 → (x.l.cat y.l).U < (x.l.cat y.l).W → (swH x.l y.l).2 = 0 → swO x.l y.l = (decide (swFine x.l y.l (swH x.l y.l).1), 0) := fun h h2 h3 h4 => by unfold swO; rw [if_neg (fun h3 => h3 h), if_neg (show ¬ y.l.n = 0 from h2), if_neg (by omega), if_neg (fun h5 => h5 h4)]
  have hfi : (x.l.cat y.l).right → y.len ≠ 0 → ∀ H : Int, swFine x.l y.l H ↔ swd x.l y.l y.l.fst ≤ y.l.fst ∧ ∀ j, j < x.len + y.len → ∀ c : Int, y.l.fst ≤ (x.l.cat y.l).t j * c → (x.l.cat y.l).t j * c ≤ H → swd x.l y.l ((x.l.cat y.l).t j * c) ≤ (x.l.cat y.l).t j * c := fun h h2 H => swFine_iff h h2 H
  have hrr : (x.l.cat y.l).right → x.l.right ∧ y.l.right := LL.cat_right
  have eA : (x.l.cat y.l).n = x.len + y.len := rfl
  generalize x.l.cat y.l = A at *
  have hall := hxy
  obtain ⟨⟨⟨hx1, hx2⟩, hy1, hy2⟩, hxl, hyl⟩ := hxy
  have g1 : x.len + y.len = 0 → swO x.l y.l = (true, 0) := fun h0 => hO2 ⟨by omega, fun j hj => by omega⟩ (by omega)
  have g3 : A.right → (y.len : Int) = 0 → swO x.l y.l = (true, 0) := fun hr h => hO2 hr (by omega)
  refine (fun body => ⟨by decide, hall, fun h0 => ⟨⟨hy1, fun h v hv _ => (by rw [g1 h0]; exact ⟨rfl, hv⟩), fun h => (by omega)⟩, body⟩, fun hne c hc => ⟨Nat.zero_le _, fun hr v hv _ => (by rw [hO1 hr]; exact ⟨rfl, hv⟩), fun hr => ⟨⟨hy1, fun h v hv _ => (by rw [g3 hr h]; exact ⟨rfl, hv⟩), fun h => ⟨c, ⟨hr, by omega⟩, rfl, Nat.le_refl _⟩⟩, body⟩⟩⟩) ?_
  rintro c ⟨hr, hn⟩
  obtain ⟨hrx, hry⟩ := hrr hr
  have h8 := hr.1
  have hW : 1 ≤ A.W ∧ A.W ≤ 20282409603651670423947251286016 := LL.prod_le hr (Nat.le_refl _)
  have hu := LL.use_bd hr (show 0 ≤ A.W by omega) A.n (Nat.le_refl _)
  have hu : (0 ≤ A.U ∧ A.U ≤ A.n * A.W) ∧ 0 ≤ A.S ∧ A.S ≤ A.n * (A.W * 8191) := hu
  have m1 : (A.n : Int) * A.W ≤ 8 * A.W := Int.mul_le_mul_of_nonneg_right (by omega) (by omega)
  have hb : ∀ n : Int, 0 ≤ n → n < 340282366920938463463374607431768211456 → (0 ≤ n / 18446744073709551616 ∧ n / 18446744073709551616 < 18446744073709551616) ∧ 0 ≤ n % 18446744073709551616 ∧ n % 18446744073709551616 < 18446744073709551616 := fun n h1 h2 => by omega
  have bW := hb A.W (by omega) (by omega)
  have bU := hb A.U (by omega) (by omega)
  refine ⟨Nat.zero_le _, hr, ⟨bW, bU⟩, fun h v hv _ => ?_, fun h v hv => ?_⟩
  · rw [hO3 hr hn (by split at h <;> omega)]
    exact ⟨rfl, hv⟩
  have hUW : A.U < A.W := by
    by_cases h1 : A.U < A.W
    · exact h1
    · rw [if_neg h1] at h
      split at h <;> omega
  refine ⟨hx1, ⟨⟨0, c⟩, ⟨Nat.zero_le _, hr, hn, hUW⟩, ⟨rfl, hv, rfl⟩, Nat.le_refl _⟩, fun z hz => ?_⟩
  obtain ⟨i, c1⟩ := z
  obtain ⟨hi, -, -, -⟩ := hz
  dsimp only at hi ⊢
  refine ⟨fun hlt => ⟨hx1, ⟨by omega, hlt⟩, by omega, fun v1 hv1 => ⟨⟨i + 1, c1⟩, ⟨(by show i + 1 ≤ x.len; omega), hr, hn, hUW⟩, ⟨⟨rfl, ?_, (by dsimp only; omega)⟩, Nat.le_refl _⟩, (by dsimp only; omega)⟩⟩, fun hge => ?_⟩
  · have q0 := LL.sq_bd hrx (i + 1) (by show i + 1 ≤ x.len; omega)
    have hr1 := hrx.2 i (by show i < x.len; omega)
    unfold rightE at hr1
    have hn8 := hrx.1
    have e : x.l.sq (i + 1) = x.l.sq i + x.q (x.lo + i) := rfl
    have : x.len ≤ 8 := hn8
    show v1 = x.l.sq (i + 1)
    omega
  have e : i = x.len := by omega
  subst e
  have hn8 : x.len ≤ 8 := hrx.1
  have hq : 0 ≤ x.l.sq x.len ∧ x.l.sq x.len ≤ x.len * 8192 := LL.sq_bd hrx x.len (Nat.le_refl _)
  have p1 : 0 ≤ A.W * x.l.sq x.len := Int.mul_nonneg (by omega) hq.1
  have p2 : A.W * x.l.sq x.len ≤ 20282409603651670423947251286016 * 65536 := Int.mul_le_mul hW.2 (by omega) hq.1 (by decide)
  have bL := hb (A.W - A.U) (by omega) (by omega)
  have bP := hb (A.W * x.l.sq x.len) p1 (by omega)
  have hHb : 0 ≤ (swH x.l y.l).1 ∧ (swH x.l y.l).1 ≤ 65536 := by
    rw [← eH]
    unfold lestO
    generalize lst _ 0 65537 = N
    split
    · exact ⟨Int.le_refl 0, by show (0 : Int) ≤ 65536; decide⟩
    · exact ⟨by show (0 : Int) ≤ (N : Int); omega, by show (N : Int) ≤ 65536; omega⟩
  rw [eH]
  refine ⟨⟨⟨bW, bU⟩, by omega⟩, ⟨bW, ⟨by omega, by omega⟩, by unfold two128; omega⟩, ⟨⟨bL, bP⟩, by omega⟩, fun v1 hv1 v2 hv2 => ⟨fun h v3 hv3 _ => ?_, fun h => ?_⟩⟩
  · rw [hO4 hr hn hUW (by omega)]
    exact ⟨rfl, by omega⟩
  have h0 : (swH x.l y.l).2 = 0 := by omega
  have h8y : y.len ≤ 8 := hry.1
  refine ⟨⟨⟨hy1, hy2⟩, ⟨by omega, h8y⟩, hry.2⟩, fun f hf => ?_⟩
  have hf : f = y.l.fst := hf
  subst hf
  have hF := LL.fst_bd hry hn
  have hO5 := hO5 hr hn hUW h0
  have hfi := hfi hr hn (swH x.l y.l).1
  refine ⟨⟨⟨⟨hx1, hx2⟩, hy1, hy2⟩, ⟨hrx, hry⟩, by omega, by omega⟩, fun hbad v3 hv3 _ => ?_, fun hgood => ⟨⟨⟨0, c1⟩, ⟨Nat.zero_le _, (by rw [hG]; exact ⟨hr, hn, hUW, h0, hgood⟩), fun j hj => absurd hj (Nat.not_lt_zero j)⟩, ⟨hv1, rfl, rfl, rfl⟩, Nat.le_refl _⟩, fun z hz => ?_⟩⟩
  · rw [hO5, decide_eq_false (fun h => by have := (hfi.1 h).1; omega)]
    exact ⟨rfl, hv3⟩
  obtain ⟨i, c2⟩ := z
  obtain ⟨hi, -, hz⟩ := hz
  dsimp only at hi hz ⊢
  refine ⟨fun hlt => ?_, fun hge v3 hv3 _ => ?_⟩
  · have hT := hr.2 i (by omega)
    unfold rightE at hT
    have hB := hB i
    have hG' : swG x y := by rw [hG]; exact ⟨hr, hn, hUW, h0, hgood⟩
    clear hO1 hO2 hO3 hO4 eH hG g1 g3 m1 hb bW bU bL bP p1 p2 hv ok
    have hdm := Int.mul_ediv_add_emod (y.l.fst + A.t i - 1) (A.t i)
    have hm1 := Int.emod_nonneg (y.l.fst + A.t i - 1) (show A.t i ≠ 0 by omega)
    have hm2 := Int.emod_lt_of_pos (y.l.fst + A.t i - 1) (show 0 < A.t i by omega)
    rw [← hB] at hdm
    generalize (y.l.fst + A.t i - 1) % A.t i = r at hdm hm1 hm2
    have hz0 : A.t i * (swB x y i + ((0 : Nat) : Int)) = A.t i * swB x y i := by rw [show ((0 : Nat) : Int) = 0 from rfl, Int.add_zero]
    have hs0 : ∀ m : Nat, A.t i * (swB x y i + ((m + 1 : Nat) : Int)) = A.t i * (swB x y i + (m : Int)) + A.t i := fun m => by
      rw [show swB x y i + ((m + 1 : Nat) : Int) = swB x y i + (m : Int) + 1 by omega, Int.mul_add, Int.mul_one]
    have hge0 : ∀ m : Nat, A.t i * swB x y i ≤ A.t i * (swB x y i + (m : Int)) := fun m => Int.mul_le_mul_of_nonneg_left (by omega) (by omega)
    refine ⟨⟨by omega, hlt⟩, by omega, by omega, fun v hv => ⟨i, ⟨⟨0, c2⟩, ⟨(by show A.t i * (swB x y i + ((0 : Nat) : Int)) ≤ _; omega), fun k hk => absurd hk (Nat.not_lt_zero k)⟩, ⟨?_, rfl, rfl⟩, Nat.le_refl _, rfl, rfl, rfl⟩, fun z hz' => ?_⟩⟩
    · show v = A.t i * (swB x y i + ((0 : Nat) : Int))
      rw [hz0]
      have e1 : ((y.l.fst + A.t i) % 18446744073709551616 - 1) % 18446744073709551616 = y.l.fst + A.t i - 1 := by omega
      rw [e1, Int.tdiv_eq_ediv_of_nonneg (by omega), ← hB] at hv
      have b1 : 0 ≤ swB x y i := by rw [hB]; exact Int.ediv_nonneg (by omega) (by omega)
      have b2 : swB x y i ≤ y.l.fst + A.t i - 1 := by rw [hB]; exact Int.ediv_le_self _ (by omega)
      have e2 : swB x y i % 18446744073709551616 = swB x y i := by omega
      rw [e2] at hv
      omega
    obtain ⟨m, c3⟩ := z
    obtain ⟨z1, z2⟩ := hz'
    dsimp only at z1 z2 ⊢
    have hg0 := hge0 m
    have hs := hs0 m
    refine ⟨fun hle => ⟨⟨⟨⟨hx1, hx2⟩, hy1, hy2⟩, ⟨hrx, hry⟩, by omega, by omega⟩, fun hbad v3 hv3 _ => ?_, fun hg v3 hv3 => ⟨⟨m + 1, c3⟩, ⟨(by show A.t i * (swB x y i + ((m + 1 : Nat) : Int)) ≤ _; omega), fun k hk => ?_⟩, ⟨⟨(by show v3 = A.t i * (swB x y i + ((m + 1 : Nat) : Int)); omega), rfl⟩, Nat.le_refl _⟩, (by dsimp only; omega)⟩⟩, fun hgt => ⟨⟨i + 1, c3⟩, ⟨(by show i + 1 ≤ x.len + y.len; omega), hG', fun j hj c hc1 hc2 => ?_⟩, ⟨⟨rfl, (by dsimp only; omega)⟩, Nat.le_refl _⟩, (by dsimp only; omega)⟩⟩
    · rw [hO5, decide_eq_false (fun h => by have := (hfi.1 h).2 i (by omega) (swB x y i + (m : Int)) (by omega) hle; omega)]
      exact ⟨rfl, hv3⟩
    · have hk : k < m + 1 := hk
      by_cases e : k = m
      · rw [e]; exact hg
      · exact z2 k (by omega)
    · have hj : j < i + 1 := hj
      by_cases e : j = i
      · subst e
        have hcB : swB x y j ≤ c := by
          by_cases h : swB x y j ≤ c
          · exact h
          · have h1 : A.t j * (c + 1) ≤ A.t j * swB x y j := Int.mul_le_mul_of_nonneg_left (by omega) (by omega)
            rw [Int.mul_add, Int.mul_one] at h1
            omega
        have ek : c = swB x y j + (((c - swB x y j).toNat : Nat) : Int) := by omega
        by_cases hk : (c - swB x y j).toNat < m
        · have := z2 _ hk
          rw [← ek] at this
          exact this
        · have h1 : A.t j * (swB x y j + (m : Int)) ≤ A.t j * c := Int.mul_le_mul_of_nonneg_left (by omega) (by omega)
          omega
      · exact hz j (by omega) c hc1 hc2
  · have e : i = x.len + y.len := by omega
    subst e
    rw [hO5, decide_eq_true (hfi.2 ⟨hgood, hz⟩)]
    exact ⟨rfl, hv3⟩

def sw_C (x : (LS × LS)) : Cfg := { Γ := Go.Sx.look tSw, names := true, loops := swLo (x.1) (x.2), cuts := swCu (x.1) (x.2) }
theorem sw_al (x : (LS × LS)) : Shown (swP.vc Try.prog (sw_C x) Try.f21 x) := ⟨@Eq.mp _ _ (by kernel_rfl) (sw_vc (x.1) (x.2))⟩
theorem sw_ok : SpOk Try.prog 21 swP.sp := @Pat.okS _ swP Try.prog sw_C 21 Try.f21 (fun x => cfg_tab rfl tSw_ok) (by kernel_rfl) Try.func21 (fun _ => rfl) sw_al
end Go.Proofs.Ytijpjhelgggmfaa
