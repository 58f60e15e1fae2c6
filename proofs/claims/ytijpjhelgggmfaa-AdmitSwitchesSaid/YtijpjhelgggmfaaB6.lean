import Derived.Test.YtijpjhelgggmfaaB5
open Go Go.Sx Go.Proofs
set_option maxRecDepth 100000
namespace Go.Proofs.Ytijpjhelgggmfaa

/-- One load more. -/
def LL.ext (l : LL) (q t : Int) : LL := ⟨l.n + 1, fun j => if j = l.n then 1 else l.k j, fun j => if j = l.n then q else l.q j, fun j => if j = l.n then t else l.t j⟩
def LL.row (l : LL) (cap : Nat) : Reg := rowReg 40 l.n 3 cap (fun j => ldT (l.k j) (l.q j) (l.t j))
theorem LL.ext_low (l : LL) (q t : Int) (w : Int) : ∀ m, m ≤ l.n → (l.ext q t).prod m = l.prod m ∧ (l.ext q t).use w m = l.use w m ∧ (l.ext q t).slk w m = l.slk w m ∧ ∀ u, (l.ext q t).dem u m = l.dem u m
  | 0, _ => ⟨rfl, rfl, rfl, fun _ => rfl⟩
  | m + 1, h => by
    obtain ⟨h1, h2, h3, h4⟩ := LL.ext_low l q t w m (by omega)
    have hm : ¬ m = l.n := by omega
    have e1 : (l.ext q t).t m = l.t m := if_neg hm
    have e2 : (l.ext q t).q m = l.q m := if_neg hm
    have e3 : (l.ext q t).k m = l.k m := if_neg hm
    have e4 : (l.ext q t).sl m = l.sl m := by unfold LL.sl; rw [e1, e2, e3]
    simp only [LL.prod, LL.use, LL.slk, LL.dem, h1, h2, h3, h4, e1, e2, e4, and_self, implies_true]
theorem LL.ext_right {l : LL} {q t : Int} : (l.ext q t).right ↔ l.right ∧ l.n < 8 ∧ rightE 1 q t := by
  unfold LL.right
  have e : (l.ext q t).n = l.n + 1 := rfl
  rw [e]
  constructor
  · rintro ⟨h1, h2⟩
    refine ⟨⟨by omega, fun j hj => ?_⟩, by omega, ?_⟩
    · have := h2 j (by omega)
      have hm : ¬ j = l.n := by omega
      simpa only [LL.ext, if_neg hm] using this
    · have := h2 l.n (by omega)
      simpa only [LL.ext, if_pos] using this
  · rintro ⟨⟨h1, h2⟩, h3, h4⟩
    refine ⟨by omega, fun j hj => ?_⟩
    by_cases hm : j = l.n
    · simpa only [LL.ext, if_pos hm] using h4
    · simpa only [LL.ext, if_neg hm] using h2 j (by omega)
theorem LL.ext_vals (l : LL) (q t : Int) : (l.ext q t).W = l.W * t ∧ (l.ext q t).U = l.use (l.W * t) l.n + l.W * t / t * q ∧ (l.ext q t).S = l.slk (l.W * t) l.n ∧ ∀ u, (l.ext q t).dem u (l.n + 1) = l.dem u l.n + u / t * q := by
  have e1 : (l.ext q t).t l.n = t := if_pos rfl
  have e2 : (l.ext q t).q l.n = q := if_pos rfl
  have e3 : (l.ext q t).k l.n = 1 := if_pos rfl
  have e4 : (l.ext q t).sl l.n = 0 := by unfold LL.sl; rw [e3]; rfl
  have eW : (l.ext q t).W = l.W * t := by
    show (l.ext q t).prod (l.n + 1) = _
    simp only [LL.prod, e1, (l.ext_low q t 0 l.n (Nat.le_refl _)).1]; rfl
  obtain ⟨-, h2, h3, h4⟩ := l.ext_low q t (l.W * t) l.n (Nat.le_refl _)
  refine ⟨eW, ?_, ?_, fun u => ?_⟩
  · show (l.ext q t).use (l.ext q t).W (l.n + 1) = _
    rw [eW]; simp only [LL.use, h2, e1, e2]
  · show (l.ext q t).slk (l.ext q t).W (l.n + 1) = _
    rw [eW]; simp only [LL.slk, h3, e1, e2, e4, Int.mul_zero, Int.add_zero]
  · simp only [LL.dem, h4, e1, e2, e4, Int.add_zero]
theorem LL.ext_mono {l : LL} {q q' t : Int} (h : (l.ext q t).Ok) (h1 : 1 ≤ q') (h2 : q' ≤ q) : (l.ext q' t).Ok := by
  obtain ⟨r1, r2, r3⟩ := LL.ext_right.1 h.r
  unfold rightE at r3
  obtain ⟨a1, a2, a3, a4⟩ := l.ext_vals q t
  obtain ⟨b1, b2, b3, b4⟩ := l.ext_vals q' t
  have hW : 0 ≤ l.W * t := by rw [← a1]; have := (LL.US_bd h.r).1; omega
  refine h.mono (LL.ext_right.2 ⟨r1, r2, by unfold rightE; omega⟩) ?_ ?_ fun u hu => ?_
  · rw [a1, a2, b1, b2]
    refine Int.mul_le_mul_of_nonneg_right ?_ hW
    have := Int.mul_le_mul_of_nonneg_left h2 (Int.ediv_nonneg hW (show 0 ≤ t by omega))
    omega
  · rw [a1, a3, b1, b3]; exact Int.le_refl _
  · show (l.ext q' t).dem u (l.n + 1) ≤ (l.ext q t).dem u (l.n + 1)
    rw [a4, b4]
    have := Int.mul_le_mul_of_nonneg_left h2 (Int.ediv_nonneg hu (show 0 ≤ t by omega))
    omega
def refu (l : LL) (t : Int) (k : Nat) : Bool := !(l.ext (k + 1) t).borne.1
theorem refu_mono {l : LL} {t : Int} {i j : Nat} (h : i ≤ j) (hi : refu l t i = true) : refu l t j = true := by
  unfold refu at *
  simp only [Bool.not_eq_true'] at *
  cases hj : (l.ext (j + 1) t).borne.1 with
  | false => rfl
  | true =>
    have := (LL.ext_mono (LL.ok_of_borne hj) (show 1 ≤ (i : Int) + 1 by omega) (by omega)).borne
    rw [this] at hi; cases hi
def cloneP : Pat LS where
  view | [t], H => some (viewL t H) | _, _ => none
  args x := [x.v 0]
  H x := [x.reg]
  out x := .need (x.Ok ∧ x.len ≤ 1000) (.br (x.nil = true) (.retq .nils) (.any (fun c : Nat => x.len ≤ c) fun c => .ret (.slice 1 0 [] 0 3 x.len c) [x.reg, x.l.row c]))
theorem clone_vc : ∀ (x : LS), (x.Ok ∧ x.len ≤ (1000 : Nat)) ∧ True → (x.nil = true → x.Ok ∧ x.len ≤ (1000 : Nat) → (x.nil = true → True ∧ True ∧ ((0 : Nat) ≤ (0 : Nat) ∧ x.n = x.n ∧ ∀ (j : Nat), j < x.n → x.k j = x.k j ∧ x.q j = x.q j ∧
  x.t j = x.t j ∧ True) ∧ True) ∧ (¬x.nil = true → ∃ (x_1 : Nat), x.len ≤ x_1 ∧ False ∧ False)) ∧ (x.nil = false → (x.nil = true → x.len = (0 : Nat)) ∧ x.lo + x.len ≤ x.n ∧ ((0 : Nat) = (0 : Nat) ∧ (0 : Nat) ≤ (0 : Nat) ∧
  (0 : Nat) ≤ (0 : Nat) ∧ (0 : Nat) ≤ (0 : Nat) ∧ ((0 : Nat) + x.len) * (24 : Nat) ≤ (140737488355328 : Nat) ∧ (0 : Nat) + x.len ≤ (9223372036854775807 : Nat) ∧ (∀ (_ : Nat), (3 : Nat) = (3 : Nat)) ∧ ∀ (_ : Nat), (3 : Nat)
  = (3 : Nat)) ∧ ∀ (cap' : Nat), (0 : Nat) + x.len ≤ cap' → x.Ok ∧ x.len ≤ (1000 : Nat) → (x.nil = true → False ∧ True ∧ ((0 : Nat) ≤ (0 : Nat) ∧ x.n = x.n ∧ ∀ (j : Nat), j < x.n → x.k j = x.k j ∧ x.q j = x.q j ∧ x.t j =
  x.t j ∧ True) ∧ True) ∧ (¬x.nil = true → ∃ (x_1 : Nat), x.len ≤ x_1 ∧ (True ∧ True ∧ (0 : Nat) = (0 : Nat) ∧ (0 : Nat) + x.len = x.len ∧ cap' = x_1) ∧ True ∧ ((0 : Nat) ≤ (0 : Nat) ∧ x.n = x.n ∧ ∀ (j : Nat), j < x.n →
  x.k j = x.k j ∧ x.q j = x.q j ∧ x.t j = x.t j ∧ True) ∧ (x_1 * (3 : Nat) ≤ cap' * (3 : Nat) ∧ x.l.n = (0 : Nat) + x.len ∧ ∀ (j : Nat), j < (0 : Nat) + x.len → (j.blt (0 : Nat) = true → (0 : Int) = x.l.k j ∧ (0 : Int) =
  x.l.q j ∧ (0 : Int) = x.l.t j ∧ True) ∧ (j.blt (0 : Nat) = false → x.k (x.lo + (j - (0 : Nat))) = x.l.k j ∧ x.q (x.lo + (j - (0 : Nat))) = x.l.q j ∧ x.t (x.lo + (j - (0 : Nat))) = x.l.t j ∧ True)) ∧ True)) := by
  simp only [true_and, and_true, eq_self, Nat.le_refl, implies_true, and_self, Nat.zero_add, nblt_true, nblt_false, Bool.not_eq_true]
  rintro x ⟨⟨hnil, hlo⟩, hlen⟩
  refine ⟨fun h _ h2 => (by rw [h] at h2; cases h2), fun hn => ⟨hnil, hlo, ⟨by omega, by omega⟩, fun c hc _ => ⟨fun h => (by rw [hn] at h; cases h), fun _ => ⟨c, hc, rfl, Nat.le_refl _, rfl, fun j hj => ⟨fun h => absurd h (Nat.not_lt_zero j), fun _ => ⟨rfl, rfl, rfl⟩⟩⟩⟩⟩⟩

def clone_C (_ : LS) : Cfg := { Γ := Go.Sx.look [], names := true }
theorem clone_al (x : LS) : Shown (cloneP.vc Try.prog (clone_C x) Try.f43 x) := ⟨@Eq.mp _ _ (by kernel_rfl) (clone_vc x)⟩
theorem clone_ok : SpOk Try.prog 43 cloneP.sp := @Pat.okS _ cloneP Try.prog clone_C 43 Try.f43 (fun x => cfg_nil rfl) (by kernel_rfl) Try.func43 (fun _ => rfl) clone_al
/-- What 'Spare' looks at. -/
structure SP where
  x : LS
  q : Int
  t : Int
  cap : Nat
def SP.H (p : SP) : List Reg := [p.x.reg, newReg 22 (p.x.v 0), newReg 22 (.slice 3 0 [] 0 3 (p.x.len + 1) p.cap), (p.x.l.ext p.q p.t).row p.cap]
def viewSP (a b : Nat) (H : List Reg) : SP :=
  let x := viewL (regC H b) H
  let r := regC H (tRef (regC H a))
  ⟨x, tInt (tAt (tArr r x.len) 1), tInt (tAt (tArr r x.len) 2), tCap (regC H a)⟩
def SP.Ok (p : SP) : Prop := p.x.Ok ∧ p.x.l.right ∧ p.x.len < 8 ∧ 1 ≤ p.t ∧ p.t ≤ 8192
def spcP : Pat (Nat × SP) where
  view | [.int .i64 k, .ptr a 0 [], .ptr b 0 []], H => some (k.toNat, viewSP a b H) | _, _ => none
  args x := [.int .i64 x.1, p0 2, p0 1]
  H x := x.2.H
  out x := .need (x.2.Ok ∧ x.1 < x.2.t.toNat) (.ret (.bool (refu x.2.x.l x.2.t x.1)) ({ x.2 with q := x.1 + 1 } : SP).H)
def tSpc : Tab := [(18, borneP.sp)]
theorem tSpc_ok : TabOk Try.prog tSpc := (tab_cons borne_ok tab_nil)

theorem spc_vc : ∀ (k : Nat) (p : SP), (p.Ok ∧ k < p.t.toNat) ∧ True → (p.x.nil = true → p.x.len = (0 : Nat)) ∧ ((0 : Int) ≤ (↑p.x.len : Int) ∧ (↑p.x.len : Int) < (↑(p.x.len + (1 : Nat)) : Int)) ∧ (0 : Nat) + (↑p.x.len : Int).toNat <
  (p.x.l.ext p.q p.t).n ∧ (((false = false ∧ True ∧ True ∧ (0 : Nat) = (0 : Nat) ∧ p.x.len + (1 : Nat) = p.x.len + (1 : Nat) ∧ p.cap = p.cap) ∧ True) ∧ ((0 : Nat) ≤ p.cap * (3 : Nat) ∧ (p.x.l.ext p.q p.t).n = (p.x.l.ext
  p.q p.t).n ∧ ∀ (j : Nat), j < (p.x.l.ext p.q p.t).n → ((bif j.beq ((0 : Nat) + (↑p.x.len : Int).toNat) then (p.x.l.ext p.q p.t).k ((0 : Nat) + (↑p.x.len : Int).toNat) else (p.x.l.ext p.q p.t).k j) = bif j.beq ((0 : Nat)
  + (↑p.x.len : Int).toNat) then (p.x.l.ext p.q p.t).k ((0 : Nat) + (↑p.x.len : Int).toNat) else (p.x.l.ext p.q p.t).k j) ∧ ((bif j.beq ((0 : Nat) + (↑p.x.len : Int).toNat) then IntKind.u64.wrap (IntKind.u64.wrap (↑k :
  Int) + (1 : Int)) else (p.x.l.ext p.q p.t).q j) = bif j.beq ((0 : Nat) + (↑p.x.len : Int).toNat) then IntKind.u64.wrap (IntKind.u64.wrap (↑k : Int) + (1 : Int)) else (p.x.l.ext p.q p.t).q j) ∧ ((bif j.beq ((0 : Nat) +
  (↑p.x.len : Int).toNat) then (p.x.l.ext p.q p.t).t ((0 : Nat) + (↑p.x.len : Int).toNat) else (p.x.l.ext p.q p.t).t j) = bif j.beq ((0 : Nat) + (↑p.x.len : Int).toNat) then (p.x.l.ext p.q p.t).t ((0 : Nat) + (↑p.x.len :
  Int).toNat) else (p.x.l.ext p.q p.t).t j) ∧ True) ∧ True) ∧ (LS.mk false (0 : Nat) (p.x.len + (1 : Nat)) p.cap (p.x.l.ext p.q p.t).n (fun (j : Nat) => bif j.beq ((0 : Nat) + (↑p.x.len : Int).toNat) then (p.x.l.ext p.q
  p.t).k ((0 : Nat) + (↑p.x.len : Int).toNat) else (p.x.l.ext p.q p.t).k j) (fun (j : Nat) => bif j.beq ((0 : Nat) + (↑p.x.len : Int).toNat) then IntKind.u64.wrap (IntKind.u64.wrap (↑k : Int) + (1 : Int)) else (p.x.l.ext
  p.q p.t).q j) fun (j : Nat) => bif j.beq ((0 : Nat) + (↑p.x.len : Int).toNat) then (p.x.l.ext p.q p.t).t ((0 : Nat) + (↑p.x.len : Int).toNat) else (p.x.l.ext p.q p.t).t j).Ok ∧ ∀ (v : Int), v = (LS.mk false (0 : Nat)
  (p.x.len + (1 : Nat)) p.cap (p.x.l.ext p.q p.t).n (fun (j : Nat) => bif j.beq ((0 : Nat) + (↑p.x.len : Int).toNat) then (p.x.l.ext p.q p.t).k ((0 : Nat) + (↑p.x.len : Int).toNat) else (p.x.l.ext p.q p.t).k j) (fun (j :
  Nat) => bif j.beq ((0 : Nat) + (↑p.x.len : Int).toNat) then IntKind.u64.wrap (IntKind.u64.wrap (↑k : Int) + (1 : Int)) else (p.x.l.ext p.q p.t).q j) fun (j : Nat) => bif j.beq ((0 : Nat) + (↑p.x.len : Int).toNat) then
  (p.x.l.ext p.q p.t).t ((0 : Nat) + (↑p.x.len : Int).toNat) else (p.x.l.ext p.q p.t).t j).l.borne.snd → p.Ok ∧ k < p.t.toNat → (!(LS.mk false (0 : Nat) (p.x.len + (1 : Nat)) p.cap (p.x.l.ext p.q p.t).n (fun (j : Nat) =>
  bif j.beq ((0 : Nat) + (↑p.x.len : Int).toNat) then (p.x.l.ext p.q p.t).k ((0 : Nat) + (↑p.x.len : Int).toNat) else (p.x.l.ext p.q p.t).k j) (fun (j : Nat) => bif j.beq ((0 : Nat) + (↑p.x.len : Int).toNat) then
  IntKind.u64.wrap (IntKind.u64.wrap (↑k : Int) + (1 : Int)) else (p.x.l.ext p.q p.t).q j) fun (j : Nat) => bif j.beq ((0 : Nat) + (↑p.x.len : Int).toNat) then (p.x.l.ext p.q p.t).t ((0 : Nat) + (↑p.x.len : Int).toNat)
  else (p.x.l.ext p.q p.t).t j).l.borne.fst) = refu p.x.l p.t k ∧ True ∧ ((0 : Nat) ≤ (0 : Nat) ∧ p.x.n = p.x.n ∧ ∀ (j : Nat), j < p.x.n → p.x.k j = p.x.k j ∧ p.x.q j = p.x.q j ∧ p.x.t j = p.x.t j ∧ True) ∧ ((1 : Nat) ≤ (1
  : Nat) ∧ (p.x.nil = true → p.x.nil = true) ∧ (p.x.nil = false → p.x.nil = false ∧ True ∧ True ∧ p.x.lo = p.x.lo ∧ p.x.len = p.x.len ∧ p.x.cap = p.x.cap)) ∧ ((1 : Nat) ≤ (1 : Nat) ∧ True ∧ True ∧ (0 : Nat) = (0 : Nat) ∧
  p.x.len + (1 : Nat) = p.x.len + (1 : Nat) ∧ p.cap = p.cap) ∧ (p.cap * (3 : Nat) ≤ p.cap * (3 : Nat) ∧ (p.x.l.ext ((↑k : Int) + (1 : Int)) p.t).n = (p.x.l.ext p.q p.t).n ∧ ∀ (j : Nat), j < (p.x.l.ext p.q p.t).n → (bif
  j.beq ((0 : Nat) + (↑p.x.len : Int).toNat) then (p.x.l.ext p.q p.t).k ((0 : Nat) + (↑p.x.len : Int).toNat) else (p.x.l.ext p.q p.t).k j) = (p.x.l.ext ((↑k : Int) + (1 : Int)) p.t).k j ∧ (bif j.beq ((0 : Nat) + (↑p.x.len
  : Int).toNat) then IntKind.u64.wrap (IntKind.u64.wrap (↑k : Int) + (1 : Int)) else (p.x.l.ext p.q p.t).q j) = (p.x.l.ext ((↑k : Int) + (1 : Int)) p.t).q j ∧ (bif j.beq ((0 : Nat) + (↑p.x.len : Int).toNat) then (p.x.l.ext
  p.q p.t).t ((0 : Nat) + (↑p.x.len : Int).toNat) else (p.x.l.ext p.q p.t).t j) = (p.x.l.ext ((↑k : Int) + (1 : Int)) p.t).t j ∧ True) ∧ True := by
  simp only [true_and, and_true, eq_self, Nat.le_refl, implies_true, and_self, Nat.zero_add, Int.toNat_natCast, cond_nbeq, IntKind.wrap_u64]
  rintro k p ⟨⟨hx, hr, h8, ht, ht'⟩, hk⟩
  have ek : ((k : Int) % 18446744073709551616 + 1) % 18446744073709551616 = k + 1 := by omega
  rw [ek]
  have en : (p.x.l.ext p.q p.t).n = p.x.len + 1 := rfl
  have hK : ∀ j, (if j = p.x.len then (p.x.l.ext p.q p.t).k p.x.len else (p.x.l.ext p.q p.t).k j) = (p.x.l.ext (k + 1) p.t).k j := fun j => by
    by_cases h : j = p.x.len
    · rw [if_pos h, h]; rfl
    · rw [if_neg h]; rfl
  have hT : ∀ j, (if j = p.x.len then (p.x.l.ext p.q p.t).t p.x.len else (p.x.l.ext p.q p.t).t j) = (p.x.l.ext (k + 1) p.t).t j := fun j => by
    by_cases h : j = p.x.len
    · rw [if_pos h, h]; rfl
    · rw [if_neg h]; rfl
  have hQ : ∀ j, (if j = p.x.len then (k : Int) + 1 else (p.x.l.ext p.q p.t).q j) = (p.x.l.ext (k + 1) p.t).q j := fun j => by
    show _ = if j = p.x.len then (k : Int) + 1 else p.x.l.q j
    by_cases h : j = p.x.len
    · rw [if_pos h, if_pos h]
    · rw [if_neg h, if_neg h]; exact if_neg h
  simp only [hK, hT, hQ]
  have eL : ({ nil := false, lo := 0, len := p.x.len + 1, cap := p.cap, n := (p.x.l.ext p.q p.t).n, k := fun j => (p.x.l.ext (k + 1) p.t).k j, q := fun j => (p.x.l.ext (k + 1) p.t).q j, t := fun j => (p.x.l.ext (k + 1) p.t).t j } : LS).l = p.x.l.ext (k + 1) p.t := by
    unfold LS.l
    simp only [Nat.zero_add]
    rfl
  rw [eL]
  exact ⟨hx.1, by omega, by omega, by omega, ⟨fun h => (nomatch h), by show 0 + (p.x.len + 1) ≤ p.x.len + 1; omega⟩, fun v _ _ => ⟨rfl, ⟨id, id⟩, (by first | rfl | trivial), fun j _ => (by first | trivial | exact ⟨rfl, rfl, rfl⟩ | exact ⟨trivial, trivial, trivial⟩)⟩⟩

def spc_C (_ : (Nat × SP)) : Cfg := { Γ := Go.Sx.look tSpc, names := true }
theorem spc_al (x : (Nat × SP)) : Shown (spcP.vc Try.prog (spc_C x) Try.f44 x) := ⟨@Eq.mp _ _ (by kernel_rfl) (spc_vc (x.1) (x.2))⟩
theorem spc_ok : SpOk Try.prog 44 spcP.sp := @Pat.okS _ spcP Try.prog spc_C 44 Try.f44 (fun x => cfg_tab rfl tSpc_ok) (by kernel_rfl) Try.func44 (fun _ => rfl) spc_al
end Go.Proofs.Ytijpjhelgggmfaa
