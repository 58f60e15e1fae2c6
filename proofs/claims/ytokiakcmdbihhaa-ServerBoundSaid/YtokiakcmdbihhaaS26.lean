import Derived.Test.YtokiakcmdbihhaaS23
open Go Go.Sx Go.Proofs
set_option maxRecDepth 100000
namespace Go.Proofs.Ytokiakcmdbihhaa

theorem Rt_nonneg {t s a : Int} (ht : 1 ≤ t) : 0 ≤ Rt t s a := by
  unfold Rt
  split
  · exact Int.le_refl _
  · have := Int.ediv_nonneg (show 0 ≤ a - s - 1 by omega) (show 0 ≤ t by omega)
    omega
theorem Rt_mono {t s a a' : Int} (ht : 1 ≤ t) (h : a ≤ a') : Rt t s a ≤ Rt t s a' := by
  by_cases h1 : a ≤ s
  · have := Rt_nonneg (s := s) (a := a') ht
    unfold Rt at this ⊢
    rw [if_pos h1]
    exact this
  · unfold Rt
    rw [if_neg h1, if_neg (by omega)]
    have : (a - s - 1) / t ≤ (a' - s - 1) / t := Int.ediv_le_ediv (by omega) (by omega)
    omega
theorem Rt_step {t s a n : Int} (ht : 1 ≤ t) (hs : s ≤ n) (h : n < a + t) : Rt t s a + 1 ≤ Rt t s (a + t) := by
  unfold Rt
  by_cases h1 : a ≤ s
  · rw [if_pos h1, if_neg (by omega)]
    have := Int.ediv_nonneg (show 0 ≤ a + t - s - 1 by omega) (show 0 ≤ t by omega)
    omega
  · rw [if_neg h1, if_neg (by omega)]
    have e : a + t - s - 1 = (a - s - 1) + 1 * t := by omega
    rw [e, Int.add_mul_ediv_right _ _ (show t ≠ 0 by omega)]
    omega
theorem Ph_nonneg {t s : Int} (ht : 1 ≤ t) : ∀ {l : Chs}, posL l → 0 ≤ Ph t s l
  | [], _ => Int.le_refl _
  | (a, b) :: l, h => by
    have h1 := Ph_nonneg (s := s) ht (l := l) (fun p hp => h p (List.mem_cons_of_mem _ hp))
    have h2 := h (a, b) List.mem_cons_self
    have h3 := Int.mul_nonneg (show 0 ≤ b by dsimp only at h2; omega) (Rt_nonneg (s := s) (a := a) ht)
    simp only [Ph]; omega
theorem Ph_app (t s : Int) : ∀ k l : Chs, Ph t s (k ++ l) = Ph t s k + Ph t s l
  | [], l => by simp [Ph]
  | (a, b) :: k, l => by
    have := Ph_app t s k l
    simp only [List.cons_append, Ph, this]; omega
theorem Ph_ins (t s u c : Int) : ∀ l : Chs, Ph t s (insL u c l) = Ph t s l + c * Rt t s u
  | [] => by simp [insL, Ph]
  | (a, b) :: l => by
    have ih := Ph_ins t s u c l
    simp only [insL]
    split
    · simp only [Ph, ih]; omega
    · split
      · rename_i h
        subst h
        simp only [Ph, Int.add_mul]; omega
      · simp only [Ph]; omega
theorem Ph_trim {t s : Int} (ht : 1 ≤ t) {l : Chs} (h : InL l) : Ph t s l ≤ Ph t s (trimL l) := by
  unfold trimL
  split
  · obtain ⟨p, x, y, rfl⟩ := split2 (l := l) (by omega)
    rw [merge2_app, Ph_app, Ph_app]
    obtain ⟨r1, r2, r3⟩ := rise_app.1 h.rise
    have hx := h.pos x (by simp)
    have hxy : x.1 < y.1 := r2.1 y (by simp)
    have hm := Int.mul_le_mul_of_nonneg_left (Rt_mono (s := s) ht (Int.le_of_lt hxy)) (show 0 ≤ x.2 by omega)
    obtain ⟨x1, x2⟩ := x
    obtain ⟨y1, y2⟩ := y
    simp only [Ph, Int.add_mul]
    dsimp only at hm
    omega
  · exact Int.le_refl _
theorem Ph_lay {t s u c : Int} (ht : 1 ≤ t) (hc : 1 ≤ c) {l : Chs} (h : InL l) : Ph t s l + c * Rt t s u ≤ Ph t s (layL u c l) := by
  rw [← Ph_ins]
  exact Ph_trim ht ⟨insL_rise h.rise, insL_pos hc h.pos⟩
theorem Ph_wakeN {t s n : Int} (ht : 1 ≤ t) : ∀ {l : Chs}, posL l → Ph t s l ≤ sumN (wakeN n l) l * Rt t s n + Ph t s (l.drop (wakeN n l))
  | [], _ => by simp [wakeN, sumN, Ph]
  | (a, b) :: l, h => by
    have ih := Ph_wakeN (s := s) (n := n) ht (l := l) (fun p hp => h p (List.mem_cons_of_mem _ hp))
    have hb := h (a, b) List.mem_cons_self
    simp only [wakeN]
    split
    · rename_i ha
      have hm := Int.mul_le_mul_of_nonneg_left (Rt_mono (s := s) ht ha) (show 0 ≤ b by dsimp only at hb; omega)
      simp only [sumN, List.drop_succ_cons, Ph, Int.add_mul]
      omega
    · simp only [sumN, List.drop_zero, Int.zero_mul]
      omega
theorem Ph_wake {t s n : Int} (ht : 1 ≤ t) {l : Chs} (h : posL l) : Ph t s l ≤ Ph t s (wakeL n l) := by
  unfold wakeL
  split
  · exact Int.le_refl _
  · exact Ph_wakeN ht h
theorem Ph_bound {t s e : Int} (ht : 1 ≤ t) (hs : s ≤ e) : ∀ {l : Chs}, posL l → (∀ p ∈ l, p.1 ≤ e + t) → Ph t s l ≤ ((e - s) / t + 2) * totL l
  | [], _, _ => by simp [Ph, totL]
  | (a, b) :: l, h, hab => by
    have ih := Ph_bound ht hs (l := l) (fun p hp => h p (List.mem_cons_of_mem _ hp)) (fun p hp => hab p (List.mem_cons_of_mem _ hp))
    have hb := h (a, b) List.mem_cons_self
    have ha := hab (a, b) List.mem_cons_self
    have h1 : Rt t s a ≤ (e - s) / t + 2 := by
      have h2 := Rt_mono (s := s) ht (show a ≤ e + t from ha)
      have h3 : Rt t s (e + t) ≤ (e - s) / t + 2 := by
        unfold Rt
        rw [if_neg (by omega)]
        have e1 : e + t - s - 1 = (e - s - 1) + 1 * t := by omega
        rw [e1, Int.add_mul_ediv_right _ _ (show t ≠ 0 by omega)]
        have : (e - s - 1) / t ≤ (e - s) / t := Int.ediv_le_ediv (by omega) (by omega)
        omega
      omega
    have hm := Int.mul_le_mul_of_nonneg_left h1 (show 0 ≤ b by dsimp only at hb; omega)
    rw [Int.mul_comm b ((e - s) / t + 2)] at hm
    simp only [Ph, totL, Int.mul_add]
    omega
theorem L1_posAB {t n m : Int} {l : Chs} (hmn : m ≤ n) (ht : 1 ≤ t) (hab : ∀ p ∈ l, p.1 ≤ m + t) : (∀ p ∈ wakeL n l, p.1 ≤ n + t) ∧ (∀ p ∈ L1 t n l, p.1 ≤ n + t) := by
  have hw : ∀ p ∈ wakeL n l, p.1 ≤ n + t := fun p hp => by
    unfold wakeL at hp
    split at hp
    · have := hab p hp; omega
    · rcases List.mem_cons.1 hp with rfl | hp
      · dsimp only; omega
      · have := hab p (List.mem_of_mem_drop hp); omega
  refine ⟨hw, fun p hp => ?_⟩
  unfold L1 at hp
  split at hp
  · exact hw p hp
  · have := hab p hp; omega
/-- A charge of what is usable. -/
theorem charge_us {q t n c : Int} {l : Chs} (h : QL q l) (hq : 1 ≤ q) (ht : 1 ≤ t) (_ : 0 ≤ n) (hnt : n + t ≤ 4611686018427387904) (hc : 0 < c) (hu : c ≤ usL n l) :
    cI q c = c ∧ ∃ a b r, L1 t n l = (a, b) :: r ∧ a ≤ n ∧ n < a + t ∧ c ≤ b ∧ chargeL q t n c l = layL (a + t) c (if c < b then (a, b - c) :: r else r) := by
  cases l with
  | nil => have := h.one hq; simp at this
  | cons x l =>
    obtain ⟨a0, b0⟩ := x
    have hu : c ≤ (if n < a0 then 0 else b0) := hu
    have ha0 : a0 ≤ n := by split at hu <;> omega
    have hb0 : c ≤ b0 := by split at hu <;> omega
    have hA := h.ia (a0, b0) List.mem_cons_self
    dsimp only at hA
    have htot := h.tot
    have hpos := (sumN_bd (l := l) (fun p hp => h.inl.pos p (List.mem_cons_of_mem _ hp)) 0).2
    simp only [totL, sumN] at htot hpos
    have hcI : cI q c = c := by unfold cI; rw [if_neg (by omega)]
    have hd : dueL t ((a0, b0) :: l) = a0 + t := cutI_id (show a0 + t ≤ 4611686018427387904 by omega)
    have step : ∀ a b r, L1 t n ((a0, b0) :: l) = (a, b) :: r → a ≤ n → n < a + t → c ≤ b → chargeL q t n c ((a0, b0) :: l) = layL (a + t) c (if c < b then (a, b - c) :: r else r) := fun a b r e1 e2 e3 e4 => by
      rw [charge_def, hcI, e1]
      simp only [takeL]
      rw [if_neg (by omega)]
      by_cases hlt : c < b
      · rw [if_pos hlt, if_pos hlt, cutI_id (by omega)]
        rfl
      · have : c = b := by omega
        subst this
        rw [if_neg hlt, if_neg hlt, Int.sub_self, take0, cutI_id (by omega)]
        rfl
    refine ⟨hcI, ?_⟩
    by_cases hdn : a0 + t ≤ n
    · have e : wakeN n ((a0, b0) :: l) = wakeN n l + 1 := by simp only [wakeN]; rw [if_pos ha0]
      have hs := (sumN_bd (l := l) (fun p hp => h.inl.pos p (List.mem_cons_of_mem _ hp)) (wakeN n l)).1
      have e1 : L1 t n ((a0, b0) :: l) = (n, b0 + sumN (wakeN n l) l) :: l.drop (wakeN n l) := by
        unfold L1
        rw [hd, if_pos hdn]
        unfold wakeL
        rw [e, if_neg (by omega)]
        rfl
      exact ⟨n, _, _, e1, Int.le_refl _, by omega, by omega, step _ _ _ e1 (Int.le_refl _) (by omega) (by omega)⟩
    · have e1 : L1 t n ((a0, b0) :: l) = (a0, b0) :: l := by
        unfold L1
        rw [hd, if_neg hdn]
      exact ⟨a0, b0, l, e1, ha0, by omega, hb0, step _ _ _ e1 ha0 (by omega) hb0⟩
theorem charge_zero {q t n : Int} {l : Chs} (hq : 1 ≤ q) : cI q 0 = 0 ∧ chargeL q t n 0 l = L1 t n l := by
  have e : cI q 0 = 0 := by unfold cI; rw [if_neg (by omega)]
  refine ⟨e, ?_⟩
  rw [charge_def, e, take0]
  rfl
theorem lay_AB {u c e : Int} (hu : u ≤ e) {l : Chs} (h : ∀ p ∈ l, p.1 ≤ e) : ∀ p ∈ layL u c l, p.1 ≤ e := by
  have hi : ∀ p ∈ insL u c l, p.1 ≤ e := fun p hp => by
    rcases insL_mem hp with e1 | ⟨r, hr, e1⟩
    · omega
    · rw [← e1]; exact h r hr
  intro p hp
  unfold layL trimL at hp
  split at hp
  · obtain ⟨k, x, y, e1⟩ := split2 (l := insL u c l) (by omega)
    rw [e1] at hi hp
    rw [merge2_app] at hp
    rcases List.mem_append.1 hp with hp | hp
    · exact hi p (by simp [hp])
    · simp only [List.mem_singleton] at hp
      rw [hp]
      exact hi y (by simp)
  · exact hi p hp
theorem L1_Ph {t s n : Int} (ht : 1 ≤ t) {l : Chs} (h : posL l) : Ph t s l ≤ Ph t s (L1 t n l) := by
  unfold L1
  split
  · exact Ph_wake ht h
  · exact Int.le_refl _
theorem Ph_charge {q t n c : Int} {l : Chs} {m : Int} (h : QL q l) (hq : 1 ≤ q) (ht : 1 ≤ t) (hn : 0 ≤ n) (hnt : n + t ≤ 4611686018427387904) (hc : 0 ≤ c) (hu : c ≤ usL n l) (hm : m ≤ n) (hab : ∀ p ∈ l, p.1 ≤ m + t) :
    cI q c = c ∧ (∀ p ∈ chargeL q t n c l, p.1 ≤ n + t) ∧ ∀ s, s ≤ n → Ph t s l + c ≤ Ph t s (chargeL q t n c l) := by
  obtain ⟨w1, w2⟩ := L1_posAB hm ht hab
  by_cases h0 : c = 0
  · subst h0
    obtain ⟨z1, z2⟩ := charge_zero (t := t) (n := n) (l := l) hq
    rw [z2]
    exact ⟨z1, w2, fun s _ => by have := L1_Ph (t := t) (s := s) (n := n) ht h.inl.pos; omega⟩
  · obtain ⟨z1, a, b, r, e1, e2, e3, e4, e5⟩ := charge_us h hq ht hn hnt (by omega) hu
    have hL1 : QL q (L1 t n l) := by
      unfold L1; split
      · exact h.wake hq hn (by omega)
      · exact h
    rw [e1] at hL1 w2
    have hin := hL1.inl
    have hir : InL r := ⟨hin.rise.2, fun p hp => hin.pos p (List.mem_cons_of_mem _ hp)⟩
    have hI2 : InL (if c < b then (a, b - c) :: r else r) := by
      split
      · refine ⟨⟨hin.rise.1, hir.rise⟩, fun p hp => ?_⟩
        rcases List.mem_cons.1 hp with rfl | hp
        · dsimp only; omega
        · exact hir.pos p hp
      · exact hir
    rw [e5]
    refine ⟨z1, lay_AB (by omega) fun p hp => ?_, fun s hs => ?_⟩
    · split at hp
      · rcases List.mem_cons.1 hp with rfl | hp
        · dsimp only; omega
        · exact w2 p (List.mem_cons_of_mem _ hp)
      · exact w2 p (List.mem_cons_of_mem _ hp)
    · have p1 := L1_Ph (t := t) (s := s) (n := n) ht h.inl.pos
      rw [e1] at p1
      have p2 := Ph_lay (t := t) (s := s) (u := a + t) (c := c) ht (by omega) hI2
      have p3 := Int.mul_le_mul_of_nonneg_left (Rt_step (s := s) ht hs e3) hc
      rw [Int.mul_add, Int.mul_one] at p3
      have p4 : Ph t s (if c < b then (a, b - c) :: r else r) + c * Rt t s a = Ph t s ((a, b) :: r) := by
        by_cases hlt : c < b
        · rw [if_pos hlt]; simp only [Ph, Int.sub_mul]; omega
        · have : c = b := by omega
          subst this
          rw [if_neg hlt]; simp only [Ph]; omega
      omega
end Go.Proofs.Ytokiakcmdbihhaa
