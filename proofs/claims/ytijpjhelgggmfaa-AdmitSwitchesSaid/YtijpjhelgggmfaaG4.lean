import Derived.Test.YtijpjhelgggmfaaG3
open Go Go.Sx Go.Proofs
set_option maxRecDepth 100000
namespace Go.Proofs.Ytijpjhelgggmfaa

theorem sw_step {W t p q : Int} (hp : 1 ≤ p) (hq : 0 ≤ q) (hW : 0 ≤ W) (hd : p ∣ W) : W * (t / p * q) ≤ t * (W / p * q) := by
  obtain ⟨c, rfl⟩ := hd
  have e : p * c / p = c := Int.mul_ediv_cancel_left c (by omega)
  rw [e]
  have hc : 0 ≤ c := by
    by_cases h : 0 ≤ c
    · exact h
    · have := Int.mul_le_mul_of_nonneg_left (show c ≤ -1 by omega) (show 0 ≤ p by omega)
      omega
  have h1 : t / p * p ≤ t := Int.ediv_mul_le _ (by omega)
  have h2 := Int.mul_le_mul_of_nonneg_right h1 (Int.mul_nonneg hc hq)
  have e1 : p * c * (t / p * q) = t / p * p * (c * q) := by simp only [Int.mul_comm, Int.mul_left_comm]
  rw [e1]
  exact h2
theorem LL.exs_use {l : LL} (h : l.right) {W t : Int} (hW : 0 ≤ W) (hd : ∀ j, j < l.n → l.t j ∣ W) : ∀ m, m ≤ l.n → W * l.exs t m ≤ t * l.use W m
  | 0, _ => by simp [LL.exs, LL.use]
  | m + 1, hm => by
    have i := LL.exs_use h hW hd (t := t) m (by omega)
    have hr := h.2 m (by omega)
    unfold rightE at hr
    have := sw_step (t := t) (show 1 ≤ l.t m by omega) (show 0 ≤ l.q m by omega) hW (hd m (by omega))
    simp only [LL.exs, LL.use, Int.mul_add]
    omega
theorem LL.bas_use {l : LL} (h : l.right) {W t : Int} (hW : 0 ≤ W) (hd : ∀ j, j < l.n → l.t j ∣ W) : ∀ m, m ≤ l.n → W * l.bas t m ≤ t * l.use W m + W * l.sq m
  | 0, _ => by simp [LL.bas, LL.use, LL.sq]
  | m + 1, hm => by
    have i := LL.bas_use h hW hd (t := t) m (by omega)
    have hr := h.2 m (by omega)
    unfold rightE at hr
    have := sw_step (t := t) (show 1 ≤ l.t m by omega) (show 0 ≤ l.q m by omega) hW (hd m (by omega))
    simp only [LL.bas, LL.use, LL.sq, Int.mul_add, Int.add_mul, Int.one_mul]
    omega
theorem LL.cat_prod_lo (b e : LL) : ∀ m, m ≤ b.n → (b.cat e).prod m = b.prod m
  | 0, _ => rfl
  | m + 1, h => by
    simp only [LL.prod]
    rw [LL.cat_prod_lo b e m (by omega), (LL.cat_lo (b := b) (e := e) (j := m) (by omega)).2.2]
theorem LL.cat_prod_hi (b e : LL) : ∀ m, (b.cat e).prod (b.n + m) = b.prod b.n * e.prod m
  | 0 => by rw [Nat.add_zero, LL.cat_prod_lo b e b.n (Nat.le_refl _)]; simp [LL.prod]
  | m + 1 => by
    rw [← Nat.add_assoc]
    simp only [LL.prod]
    rw [LL.cat_prod_hi b e m, (LL.cat_hi (b := b) (e := e) (j := b.n + m) (by omega)).2.2, Nat.add_sub_cancel_left, Int.mul_assoc]
theorem LL.cat_use_lo (b e : LL) (w : Int) : ∀ m, m ≤ b.n → (b.cat e).use w m = b.use w m
  | 0, _ => rfl
  | m + 1, h => by
    simp only [LL.use]
    rw [LL.cat_use_lo b e w m (by omega), (LL.cat_lo (b := b) (e := e) (j := m) (by omega)).2.2, (LL.cat_lo (b := b) (e := e) (j := m) (by omega)).2.1]
theorem LL.cat_use_hi (b e : LL) (w : Int) : ∀ m, (b.cat e).use w (b.n + m) = b.use w b.n + e.use w m
  | 0 => by rw [Nat.add_zero, LL.cat_use_lo b e w b.n (Nat.le_refl _)]; simp [LL.use]
  | m + 1 => by
    rw [← Nat.add_assoc]
    simp only [LL.use]
    rw [LL.cat_use_hi b e w m, (LL.cat_hi (b := b) (e := e) (j := b.n + m) (by omega)).2.2, (LL.cat_hi (b := b) (e := e) (j := b.n + m) (by omega)).2.1, Nat.add_sub_cancel_left, Int.add_assoc]
theorem LL.cat_W (b e : LL) : (b.cat e).W = b.prod b.n * e.prod e.n := LL.cat_prod_hi b e e.n
theorem LL.cat_U (b e : LL) : (b.cat e).U = b.use (b.cat e).W b.n + e.use (b.cat e).W e.n := LL.cat_use_hi b e (b.cat e).W e.n
def LL.tl (e : LL) : LL := ⟨e.n - 1, fun j => e.k (j + 1), fun j => e.q (j + 1), fun j => e.t (j + 1)⟩
theorem LL.tl_prod (e : LL) : ∀ m, e.prod (m + 1) = e.t 0 * e.tl.prod m
  | 0 => by simp [LL.prod]
  | m + 1 => by
    show e.prod (m + 1) * e.t (m + 1) = e.t 0 * (e.tl.prod m * e.t (m + 1))
    rw [LL.tl_prod e m, Int.mul_assoc]
theorem LL.tl_use (e : LL) (w : Int) : ∀ m, e.use w (m + 1) = w / e.t 0 * e.q 0 + e.tl.use w m
  | 0 => by simp [LL.use]
  | m + 1 => by
    show e.use w (m + 1) + w / e.t (m + 1) * e.q (m + 1) = w / e.t 0 * e.q 0 + (e.tl.use w m + w / e.t (m + 1) * e.q (m + 1))
    rw [LL.tl_use e w m, Int.add_assoc]
theorem LL.tl_exs (e : LL) (t : Int) : ∀ m, e.exs t (m + 1) = t / e.t 0 * e.q 0 + e.tl.exs t m
  | 0 => by simp [LL.exs]
  | m + 1 => by
    show e.exs t (m + 1) + t / e.t (m + 1) * e.q (m + 1) = t / e.t 0 * e.q 0 + (e.tl.exs t m + t / e.t (m + 1) * e.q (m + 1))
    rw [LL.tl_exs e t m, Int.add_assoc]
theorem LL.use_mul (l : LL) (c w : Int) : ∀ m, (∀ j, j < m → l.t j ∣ w) → l.use (c * w) m = c * l.use w m
  | 0, _ => by simp [LL.use]
  | m + 1, h => by
    simp only [LL.use]
    rw [LL.use_mul l c w m (fun j hj => h j (by omega)), Int.mul_ediv_assoc _ (h m (by omega)), Int.mul_add, Int.mul_assoc]
theorem lestO_h {L S : Int} (h : (lestO L S).2 = 0) : S ≤ L * (lestO L S).1 := by
  have hs := lst_spec (leN L S) 65537 0
  unfold lestO at *
  generalize lst (leN L S) 0 65537 = N at *
  by_cases hN : 65536 < N
  · rw [if_pos hN] at h; exact absurd h (by decide)
  · rw [if_neg hN]
    rcases hs.2 with h2 | h2
    · omega
    · unfold leN at h2
      exact of_decide_eq_true h2
theorem lestO_bd (L S : Int) : 0 ≤ (lestO L S).1 ∧ (lestO L S).1 ≤ 65536 := by
  unfold lestO
  generalize lst (leN L S) 0 65537 = N
  split
  · exact ⟨Int.le_refl 0, by show (0 : Int) ≤ 65536; decide⟩
  · exact ⟨by show (0 : Int) ≤ (N : Int); omega, by show (N : Int) ≤ 65536; omega⟩
theorem lestO_0 {L S : Int} (hL : 0 ≤ L) : (lestO L S).2 = 0 ↔ S ≤ L * 65536 := by
  constructor
  · intro h
    have h1 := lestO_h h
    have := Int.mul_le_mul_of_nonneg_left (lestO_bd L S).2 hL
    omega
  · intro h
    have hs := lst_spec (leN L S) 65537 0
    unfold lestO
    generalize lst (leN L S) 0 65537 = N at *
    rw [if_neg]
    intro hN
    have h2 := hs.1 65536 (Nat.zero_le _) hN
    unfold leN at h2
    exact absurd h (of_decide_eq_false h2)
structure SwOk (b e : LL) : Prop where
  r : (b.cat e).right
  ne : e.n ≠ 0
  lt : (b.cat e).U < (b.cat e).W
  h0 : (swH b e).2 = 0
  f : swFine b e (swH b e).1
theorem swOk_of {b e : LL} (h : (swO b e).1 = true) (hn : e.n ≠ 0) : SwOk b e := by
  unfold swO at h
  by_cases h1 : (b.cat e).right
  · rw [if_neg (fun h => h h1), if_neg hn] at h
    by_cases h2 : (b.cat e).W ≤ (b.cat e).U
    · rw [if_pos h2] at h; cases h
    · rw [if_neg h2] at h
      by_cases h3 : (swH b e).2 = 0
      · rw [if_neg (fun h => h h3)] at h
        exact ⟨h1, hn, by omega, h3, of_decide_eq_true h⟩
      · rw [if_pos h3] at h; cases h
  · rw [if_pos h1] at h; cases h
theorem SwOk.o {b e : LL} (h : SwOk b e) : swO b e = (true, 0) := by
  unfold swO
  have := h.lt
  rw [if_neg (fun h2 => h2 h.r), if_neg h.ne, if_neg (by omega), if_neg (fun h2 => h2 h.h0), decide_eq_true h.f]
theorem SwOk.all {b e : LL} (h : SwOk b e) (t : Int) (ht : e.fst ≤ t) : swd b e t ≤ t := by
  obtain ⟨hb, he⟩ := LL.cat_right h.r
  have hF := LL.fst_bd he h.ne
  by_cases hc : t ≤ max e.fst (swH b e).1
  · have := h.f t.toNat (by omega) (by omega)
    rwa [show ((t.toNat : Nat) : Int) = t by omega] at this
  · have hW : 1 ≤ (b.cat e).W := (LL.prod_le h.r (Nat.le_refl _)).1
    have h1 := lestO_h (L := swL b e) (S := (b.cat e).W * b.sq b.n) h.h0
    have hL : 0 ≤ swL b e := by unfold swL; have := h.lt; omega
    have h2 : swL b e * (swH b e).1 ≤ swL b e * t := Int.mul_le_mul_of_nonneg_left (by omega) hL
    have h3 : (b.cat e).W * b.sq b.n ≤ swL b e * t := Int.le_trans h1 h2
    have d1 : ∀ j, j < b.n → b.t j ∣ (b.cat e).W := fun j hj => by
      have := (b.cat e).dvd (b.cat e).n j (by show j < b.n + e.n; omega)
      rwa [(LL.cat_lo (b := b) (e := e) (j := j) hj).2.2] at this
    have d2 : ∀ j, j < e.n → e.t j ∣ (b.cat e).W := fun j hj => by
      have := (b.cat e).dvd (b.cat e).n (b.n + j) (by show b.n + j < b.n + e.n; omega)
      rwa [(LL.cat_hi (b := b) (e := e) (j := b.n + j) (by omega)).2.2, Nat.add_sub_cancel_left] at this
    have u1 := LL.bas_use hb (show 0 ≤ (b.cat e).W by omega) d1 (t := t) b.n (Nat.le_refl _)
    have u2 := LL.exs_use he (show 0 ≤ (b.cat e).W by omega) d2 (t := t) e.n (Nat.le_refl _)
    have hU := LL.cat_U b e
    have hle : (b.cat e).W * swd b e t ≤ (b.cat e).W * t := by
      unfold swd
      rw [Int.mul_add]
      have e1 : swL b e * t = (b.cat e).W * t - (b.cat e).U * t := by unfold swL; rw [Int.sub_mul]
      have e2 : (b.cat e).U * t = t * b.use (b.cat e).W b.n + t * e.use (b.cat e).W e.n := by rw [hU, Int.add_mul, Int.mul_comm t, Int.mul_comm t]
      omega
    exact Int.le_of_mul_le_mul_left hle (by omega)
theorem LL.tl_fst {e : LL} (hn : 2 ≤ e.n) : e.fst ≤ e.tl.fst := by
  have h1 := e.tl.am_le (e.tl.n - 1)
  have h2 : e.tl.n = e.n - 1 := rfl
  exact e.am_min (e.n - 1) (e.tl.am (e.tl.n - 1) + 1) (by omega)
theorem LL.cat_tl_right {b e : LL} (h : (b.cat e).right) (hn : 2 ≤ e.n) : (b.cat e.tl).right := by
  have h8 : b.n + e.n ≤ 8 := h.1
  have h2 : e.tl.n = e.n - 1 := rfl
  obtain ⟨hb, he⟩ := LL.cat_right h
  refine ⟨by show b.n + e.tl.n ≤ 8; omega, fun j hj => ?_⟩
  have hj : j < b.n + e.tl.n := hj
  by_cases hlt : j < b.n
  · obtain ⟨a1, a2, a3⟩ := LL.cat_lo (b := b) (e := e.tl) (j := j) hlt
    rw [a1, a2, a3]
    exact hb.2 j hlt
  · obtain ⟨a1, a2, a3⟩ := LL.cat_hi (b := b) (e := e.tl) (j := j) (by omega)
    rw [a1, a2, a3]
    exact he.2 (j - b.n + 1) (by omega)
theorem SwOk.tl {b e : LL} (h : SwOk b e) (hn : 2 ≤ e.n) : SwOk b e.tl := by
  obtain ⟨hb, he⟩ := LL.cat_right h.r
  have hr := LL.cat_tl_right h.r hn
  obtain ⟨-, het⟩ := LL.cat_right hr
  have h2 : e.tl.n = e.n - 1 := rfl
  have ht0 := he.2 0 (by omega)
  unfold rightE at ht0
  have hW' : 1 ≤ (b.cat e.tl).W := (LL.prod_le hr (Nat.le_refl _)).1
  have hm : ∃ m, e.n = m + 1 := ⟨e.n - 1, by omega⟩
  obtain ⟨m, em⟩ := hm
  have em2 : e.tl.n = m := by omega
  have eW : (b.cat e).W = e.t 0 * (b.cat e.tl).W := by
    rw [LL.cat_W, LL.cat_W, em, em2, LL.tl_prod]
    simp only [Int.mul_left_comm]
  have eU : (b.cat e).U = e.t 0 * (b.cat e.tl).U + (b.cat e.tl).W * e.q 0 := by
    have e1 : (b.cat e.tl).use (e.t 0 * (b.cat e.tl).W) (b.n + m) = e.t 0 * (b.cat e.tl).use (b.cat e.tl).W (b.n + m) :=
      LL.use_mul _ _ _ _ fun j hj => (b.cat e.tl).dvd (b.cat e.tl).n j (by show j < b.n + e.tl.n; omega)
    have e2 : (b.cat e.tl).U = (b.cat e.tl).use (b.cat e.tl).W (b.n + m) := by
      unfold LL.U
      rw [show (b.cat e.tl).n = b.n + m by show b.n + e.tl.n = b.n + m; omega]
    rw [e2, ← e1, LL.cat_U, em, LL.tl_use, LL.cat_use_hi, eW, Int.mul_ediv_cancel_left _ (show e.t 0 ≠ 0 by omega)]
    omega
  have hlt := h.lt
  have p1 : 0 ≤ (b.cat e.tl).W * e.q 0 := Int.mul_nonneg (by omega) (by omega)
  have hUW : (b.cat e.tl).U < (b.cat e.tl).W := by
    by_cases hc : (b.cat e.tl).U < (b.cat e.tl).W
    · exact hc
    · have := Int.mul_le_mul_of_nonneg_left (show (b.cat e.tl).W ≤ (b.cat e.tl).U by omega) (show 0 ≤ e.t 0 by omega)
      omega
  have hL0 : 0 ≤ swL b e := by unfold swL; omega
  have hL1 : 0 ≤ swL b e.tl := by unfold swL; omega
  have hfst := LL.tl_fst hn
  refine ⟨hr, by omega, hUW, (lestO_0 hL1).2 ?_, fun t _ ht => ?_⟩
  · have h65 := (lestO_0 hL0).1 h.h0
    have e1 : swL b e = e.t 0 * swL b e.tl - (b.cat e.tl).W * e.q 0 := by unfold swL; rw [eW, eU, Int.mul_sub]; omega
    have e2 : (b.cat e).W * b.sq b.n = e.t 0 * ((b.cat e.tl).W * b.sq b.n) := by rw [eW, Int.mul_assoc]
    have e3 : swL b e * 65536 ≤ e.t 0 * (swL b e.tl * 65536) := by rw [← Int.mul_assoc]; omega
    exact Int.le_of_mul_le_mul_left (a := e.t 0) (by omega) (by omega)
  · have h1 := h.all t (by omega)
    unfold swd at h1 ⊢
    rw [em, LL.tl_exs] at h1
    rw [em2]
    have p2 : 0 ≤ (t : Int) / e.t 0 * e.q 0 := Int.mul_nonneg (Int.ediv_nonneg (by omega) (by omega)) (by omega)
    omega
end Go.Proofs.Ytijpjhelgggmfaa
