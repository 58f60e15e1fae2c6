import Derived.Test.YtijpjhelgggmfaaB4
open Go Go.Sx Go.Proofs
set_option maxRecDepth 100000
namespace Go.Proofs.Ytijpjhelgggmfaa

theorem LL.dvd (l : LL) : ∀ m j, j < m → l.t j ∣ l.prod m
  | 0, j, h => absurd h (Nat.not_lt_zero j)
  | m + 1, j, h => by
    simp only [LL.prod]
    by_cases e : j = m
    · rw [e]; exact Int.dvd_mul_left _ _
    · exact Int.dvd_trans (l.dvd m j (by omega)) (Int.dvd_mul_right _ _)
theorem LL.dem_use {l : LL} (h : l.right) {w t : Int} (hw : 0 ≤ w) (ht : 0 ≤ t) : ∀ m, m ≤ l.n → (∀ j, j < m → l.t j ∣ w) → w * l.dem t m ≤ t * l.use w m + l.slk w m
  | 0, _, _ => by simp [LL.dem, LL.use, LL.slk]
  | m + 1, hm, hd => by
    have ih := LL.dem_use h hw ht m (by omega) fun j hj => hd j (by omega)
    have hr := h.2 m (by omega)
    unfold rightE at hr
    have e1 : w = l.t m * (w / l.t m) := (Int.mul_ediv_cancel' (hd m (by omega))).symm
    have h1 : 0 ≤ w / l.t m := Int.ediv_nonneg hw (by omega)
    simp only [LL.dem, LL.use, LL.slk]
    generalize w / l.t m = o at *
    have h2 : (t + l.sl m) / l.t m * l.t m ≤ t + l.sl m := Int.ediv_mul_le _ (by omega)
    generalize (t + l.sl m) / l.t m = f at *
    have e2 : w * (f * l.q m) = o * l.q m * (f * l.t m) := by
      rw [e1]
      simp only [Int.mul_assoc, Int.mul_comm, Int.mul_left_comm]
    have h3 : o * l.q m * (f * l.t m) ≤ o * l.q m * (t + l.sl m) := Int.mul_le_mul_of_nonneg_left h2 (Int.mul_nonneg h1 (by omega))
    rw [Int.mul_add, e2]
    rw [Int.mul_add] at h3
    rw [Int.mul_add, Int.mul_comm t (o * l.q m)]
    omega
theorem LL.dem_US {l : LL} (h : l.right) {t : Int} (ht : 0 ≤ t) : l.W * l.dem t l.n ≤ t * l.U + l.S :=
  LL.dem_use h (by have := LL.prod_le h (Nat.le_refl _); unfold LL.W; omega) ht l.n (Nat.le_refl _) fun j hj => l.dvd l.n j hj
theorem ediv_step {a b : Int} (hb : 0 < b) (hd : ¬ b ∣ a) : a / b = (a - 1) / b := by
  have h1 := Int.mul_ediv_add_emod a b
  have h2 := Int.emod_nonneg a (show b ≠ 0 by omega)
  have h3 := Int.emod_lt_of_pos a hb
  have h4 : a % b ≠ 0 := fun h => hd (Int.dvd_of_emod_eq_zero h)
  have := (Int.ediv_emod_unique (a := a - 1) (b := b) (q := a / b) (r := a % b - 1) hb).2 ⟨by omega, by omega, by omega⟩
  exact this.1.symm
theorem LL.dem_step {l : LL} (h : l.right) {t : Int} (ht : 1 ≤ t) (hp : ∀ j, j < l.n → ∀ m, l.pt j m ≠ t) : ∀ m, m ≤ l.n → l.dem t m = l.dem (t - 1) m
  | 0, _ => rfl
  | m + 1, hm => by
    have ih := LL.dem_step h ht hp m (by omega)
    have hr := h.2 m (by omega)
    unfold rightE at hr
    simp only [LL.dem]
    have hs : 0 ≤ l.sl m ∧ l.sl m < l.t m := by unfold LL.sl; split <;> omega
    have : (t + l.sl m) / l.t m = (t + l.sl m - 1) / l.t m := by
      refine ediv_step (by omega) fun ⟨c, hc⟩ => ?_
      have hc1 : 1 ≤ c := by
        by_cases h0 : 1 ≤ c
        · exact h0
        · have : l.t m * c ≤ 0 := Int.mul_nonpos_of_nonneg_of_nonpos (by omega) (by omega)
          omega
      refine hp m (by omega) (c - 1).toNat ?_
      unfold LL.pt
      have e : ((c - 1).toNat : Int) = c - 1 := by omega
      rw [e, Int.sub_mul, Int.one_mul, Int.mul_comm c]
      omega
    rw [ih, this, show t - 1 + l.sl m = t + l.sl m - 1 by omega]
theorem LL.dem_zero {l : LL} (h : l.right) : ∀ m, m ≤ l.n → l.dem 0 m = 0
  | 0, _ => rfl
  | m + 1, hm => by
    have ih := LL.dem_zero h m (by omega)
    have hr := h.2 m (by omega)
    unfold rightE at hr
    have hs : 0 ≤ l.sl m ∧ l.sl m < l.t m := by unfold LL.sl; split <;> omega
    simp only [LL.dem]
    rw [ih, Int.zero_add, Int.zero_add, Int.ediv_eq_zero_of_lt hs.1 hs.2, Int.zero_mul]
theorem lestO_spec {L S : Int} (_ : 0 ≤ L) : ((lestO L S).2 = 0 → S ≤ L * (lestO L S).1 ∧ ∀ h : Nat, S ≤ L * h → (lestO L S).1 ≤ h) ∧ ((∃ h : Nat, h ≤ 65536 ∧ S ≤ L * h) → (lestO L S).2 = 0) := by
  have h1 := lst_spec (leN L S) 65537 0
  have h2 := lst_bd (leN L S) 65537 0
  unfold lestO
  generalize hN : lst (leN L S) 0 65537 = N at *
  obtain ⟨h1a, h1b⟩ := h1
  refine ⟨fun h => ?_, fun ⟨k, hk1, hk2⟩ => ?_⟩
  · by_cases hc : 65536 < N
    · rw [if_pos hc] at h; exact absurd h (by decide)
    · rw [if_neg hc]
      dsimp only
      refine ⟨?_, fun k hk => ?_⟩
      · rcases h1b with h3 | h3
        · omega
        · unfold leN at h3; simpa using h3
      · by_cases hkN : N ≤ k
        · omega
        · have := h1a k (Nat.zero_le _) (by omega)
          unfold leN at this
          simp only [decide_eq_false_iff_not] at this
          exact absurd hk this
  · by_cases hc : 65536 < N
    · have := h1a k (Nat.zero_le _) (by omega)
      unfold leN at this
      simp only [decide_eq_false_iff_not] at this
      exact absurd hk2 this
    · rw [if_neg hc]
/-- What 'borne' says. -/
structure LL.Ok (l : LL) : Prop where
  r : l.right
  u : l.U ≤ l.W
  s : l.U = l.W → l.S = 0
  h : ¬ l.S = 0 → ∃ h : Nat, h ≤ 65536 ∧ l.S ≤ (l.W - l.U) * h
  d : ∀ t, 0 ≤ t → l.dem t l.n ≤ t
theorem LL.US_bd {l : LL} (h : l.right) : 1 ≤ l.W ∧ 0 ≤ l.U ∧ 0 ≤ l.S := by
  have hW := LL.prod_le h (Nat.le_refl _)
  have hu := LL.use_bd h (show 0 ≤ l.prod l.n by omega) l.n (Nat.le_refl _)
  exact ⟨hW.1, hu.1.1, hu.2.1⟩
theorem LL.ok_of_borne {l : LL} (h : l.borne.1 = true) : l.Ok := by
  unfold LL.borne at h
  split at h
  · cases h
  rename_i hr
  have hr : l.right := Decidable.not_not.1 hr
  split at h
  · cases h
  rename_i hU
  split at h
  · cases h
  rename_i hh
  have hh : l.hor.2 = 0 := Decidable.not_not.1 hh
  have hf := (LL.fine_iff hr _).1 (of_decide_eq_true h)
  obtain ⟨b1, b2, b3⟩ := LL.US_bd hr
  have hu : l.U ≤ l.W := Int.not_lt.1 fun h => hU (.inl h)
  have hs : l.U = l.W → l.S = 0 := fun h => Decidable.not_not.1 fun h2 => hU (.inr ⟨h, h2⟩)
  have hhor : ¬ l.S = 0 → l.S ≤ (l.W - l.U) * l.hor.1 := fun h0 => by
    have hne : ¬ (l.S = 0 ∨ l.W ≤ l.U) := fun h => h.elim h0 fun h => h0 (hs (by omega))
    have e : l.hor = lestO (l.W - l.U) l.S := by unfold LL.hor; rw [if_neg (fun h => h hr), if_neg hne]
    rw [e] at hh ⊢
    exact ((lestO_spec (by omega)).1 hh).1
  have hb := l.hor_bd
  refine ⟨hr, hu, hs, fun h0 => ⟨l.hor.1.toNat, by omega, ?_⟩, ?_⟩
  · have := hhor h0
    rw [show ((l.hor.1.toNat : Nat) : Int) = l.hor.1 by omega]
    exact this
  · have big : ∀ t, 0 ≤ t → l.hor.1 ≤ t → l.dem t l.n ≤ t := fun t ht hle => by
      have h1 := LL.dem_US hr ht
      have h2 : t * l.U + l.S ≤ l.W * t := by
        by_cases h0 : l.S = 0
        · rw [h0, Int.add_zero, Int.mul_comm]
          exact Int.mul_le_mul_of_nonneg_right hu ht
        · have h3 := hhor h0
          have h4 : (l.W - l.U) * l.hor.1 ≤ (l.W - l.U) * t := Int.mul_le_mul_of_nonneg_left hle (by omega)
          rw [Int.sub_mul] at h4
          rw [Int.sub_mul] at h3
          rw [Int.sub_mul] at h4
          rw [Int.mul_comm t]
          omega
      exact Int.le_of_mul_le_mul_left (Int.le_trans h1 h2) (by omega)
    have nat : ∀ n : Nat, l.dem n l.n ≤ n := fun n => by
      induction n with
      | zero => rw [show ((0 : Nat) : Int) = 0 from rfl, LL.dem_zero hr _ (Nat.le_refl _)]; exact Int.le_refl _
      | succ n ih =>
        by_cases hle : l.hor.1 ≤ ((n + 1 : Nat) : Int)
        · exact big _ (by omega) hle
        · by_cases hp : ∀ j, j < l.n → ∀ m, l.pt j m ≠ ((n + 1 : Nat) : Int)
          · rw [LL.dem_step hr (by omega) hp _ (Nat.le_refl _), show ((n + 1 : Nat) : Int) - 1 = n by omega]
            omega
          · simp only [Classical.not_forall, Decidable.not_not, ne_eq] at hp
            obtain ⟨j, hj, m, e⟩ := hp
            have := hf j hj m (by omega)
            rw [e] at this
            exact this
    intro t ht
    have := nat t.toNat
    rwa [show ((t.toNat : Nat) : Int) = t by omega] at this
theorem LL.Ok.borne {l : LL} (h : l.Ok) : l.borne = (true, 0) := by
  obtain ⟨b1, b2, b3⟩ := LL.US_bd h.r
  have hu := h.u
  have hU : ¬ (l.W < l.U ∨ (l.U = l.W ∧ ¬ l.S = 0)) := fun h2 => h2.elim (fun h3 => by omega) fun h3 => h3.2 (h.s h3.1)
  have hh : l.hor.2 = 0 := by
    unfold LL.hor
    rw [if_neg (fun h2 => h2 h.r)]
    split
    · rfl
    · rename_i hne
      exact (lestO_spec (by omega)).2 (h.h fun h0 => hne (.inl h0))
  unfold LL.borne
  rw [if_neg (fun h2 => h2 h.r), if_neg hU, if_neg (fun h2 => h2 hh)]
  rw [decide_eq_true ((LL.fine_iff h.r _).2 fun j hj m _ => h.d _ (by have := LL.pt_bd h.r hj m; omega))]
theorem LL.borne_iff (l : LL) : l.borne.1 = true ↔ l.Ok := ⟨LL.ok_of_borne, fun h => by rw [h.borne]⟩
theorem LL.Ok.mono {l l' : LL} (h : l.Ok) (hr : l'.right) (hU : l'.U * l.W ≤ l.U * l'.W) (hS : l'.S * l.W ≤ l.S * l'.W) (hd : ∀ t, 0 ≤ t → l'.dem t l'.n ≤ l.dem t l.n) : l'.Ok := by
  obtain ⟨b1, b2, b3⟩ := LL.US_bd h.r
  obtain ⟨c1, c2, c3⟩ := LL.US_bd hr
  have hu := h.u
  have h1 : l.U * l'.W ≤ l.W * l'.W := Int.mul_le_mul_of_nonneg_right hu (by omega)
  have hu' : l'.U ≤ l'.W := Int.le_of_mul_le_mul_right (a := l.W) (by rw [Int.mul_comm l'.W]; omega) (by omega)
  have hs0 : l.S = 0 → l'.S = 0 := fun h0 => by
    rw [h0, Int.zero_mul] at hS
    have : l'.S * l.W ≥ l'.S * 1 := Int.mul_le_mul_of_nonneg_left b1 c3
    omega
  refine ⟨hr, hu', fun he => ?_, fun h0 => ?_, fun t ht => Int.le_trans (hd t ht) (h.d t ht)⟩
  · rw [he, Int.mul_comm] at hU
    have : l.W ≤ l.U := Int.le_of_mul_le_mul_right (a := l'.W) hU (by omega)
    exact hs0 (h.s (by omega))
  · obtain ⟨k, hk1, hk2⟩ := h.h fun h2 => h0 (hs0 h2)
    refine ⟨k, hk1, Int.le_of_mul_le_mul_right (a := l.W) ?_ (by omega)⟩
    -- S' W ≤ S W' ≤ (W - U) k W' ≤ (W' - U') k W
    have h3 : l.S * l'.W ≤ (l.W - l.U) * k * l'.W := Int.mul_le_mul_of_nonneg_right hk2 (by omega)
    have h4 : (l.W - l.U) * l'.W ≤ (l'.W - l'.U) * l.W := by
      rw [Int.sub_mul, Int.sub_mul, Int.mul_comm l'.W]; omega
    have h5 := Int.mul_le_mul_of_nonneg_right h4 (show 0 ≤ (k : Int) by omega)
    have e1 : (l.W - l.U) * k * l'.W = (l.W - l.U) * l'.W * k := Int.mul_right_comm _ _ _
    have e2 : (l'.W - l'.U) * k * l.W = (l'.W - l'.U) * l.W * k := Int.mul_right_comm _ _ _
    rw [e2]
    rw [e1] at h3
    omega
end Go.Proofs.Ytijpjhelgggmfaa
