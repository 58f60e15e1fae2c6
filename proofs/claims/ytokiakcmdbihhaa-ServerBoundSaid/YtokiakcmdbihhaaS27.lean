import Derived.Test.YtokiakcmdbihhaaS26
open Go Go.Sx Go.Proofs
set_option maxRecDepth 100000
namespace Go.Proofs.Ytokiakcmdbihhaa

def snoc (f : Nat → Int) (l : Nat) (v : Int) : Nat → Int := fun j => if j < l then f j else v
theorem psm_snoc (f : Nat → Int) (l : Nat) (v : Int) : ∀ i, i ≤ l → psm (snoc f l v) i = psm f i
  | 0, _ => rfl
  | i + 1, h => by
    simp only [psm, psm_snoc f l v i (by omega)]
    unfold snoc
    rw [if_pos (by omega)]
theorem psm_snoc1 (f : Nat → Int) (l : Nat) (v : Int) : psm (snoc f l v) (l + 1) = psm f l + v := by
  simp only [psm, psm_snoc f l v l (Nat.le_refl _)]
  unfold snoc
  rw [if_neg (by omega)]
theorem psm_mono {K : Nat → Int} {l : Nat} (h : ∀ i, i < l → 0 ≤ K i) {a : Nat} : ∀ k, a ≤ k → k ≤ l → psm K a ≤ psm K k
  | 0, h1, _ => by have : a = 0 := by omega
                   subst this; exact Int.le_refl _
  | k + 1, h1, h2 => by
    by_cases e : a = k + 1
    · subst e; exact Int.le_refl _
    · have := psm_mono (l := l) (a := a) h k (by omega) (by omega)
      have := h k (by omega)
      simp only [psm]; omega
theorem BP.room {q t : Int} {T K : Nat → Int} {l : Nat} (h : BP q t T K l) (hq : 1 ≤ q) (hqt : q ≤ t) (hq2 : q ≤ 1073741824) {a k : Nat} (h1 : a ≤ k) (h2 : k < l) :
    0 ≤ psm K (k + 1) - psm K a ∧ psm K (k + 1) - psm K a ≤ ((T k - T a) / t + 2) * q ∧ 0 ≤ ((T k - T a) / t + 2) * q ∧ ((T k - T a) / t + 2) * q ≤ 4611686020574871552 ∧ 0 ≤ T k - T a ∧ T k - T a ≤ 4611686018427387904 ∧ 0 ≤ (T k - T a) / t ∧ (T k - T a) / t ≤ 4611686018427387904 := by
  have m1 := psm_mono (l := l) (fun i hi => (h.kr i hi).1) (k + 1) (show a ≤ k + 1 by omega) (by omega)
  have m2 := h.bd a k h1 h2
  have m3 := h.mono a k h1 h2
  have m4 := h.tr k h2
  have m5 := h.tr a (by omega)
  have d0 : 0 ≤ (T k - T a) / t := Int.ediv_nonneg (by omega) (by omega)
  have d1 : (T k - T a) / t ≤ T k - T a := Int.ediv_le_self _ (by omega)
  have d2 : (T k - T a) / t * q ≤ (T k - T a) / t * t := Int.mul_le_mul_of_nonneg_left hqt d0
  have d3 : (T k - T a) / t * t ≤ T k - T a := Int.ediv_mul_le _ (by omega)
  have d4 := Int.mul_nonneg d0 (show 0 ≤ q by omega)
  rw [Int.add_mul] at m2 ⊢
  refine ⟨by omega, m2, by omega, by omega, by omega, by omega, d0, by omega⟩
theorem per_mono2 {t n m m' : Int} (ht : 1 ≤ t) (h : m ≤ m') : (m - n) / t ≤ (m' - n) / t := Int.ediv_le_ediv (by omega) (by omega)
theorem BS.wake {q t n m m' : Int} {l : Chs} {T K : Nat → Int} {c : Nat} (h : BS q t n l m T K c) (hl : QL q l) (ht : 1 ≤ t) (hm : m ≤ m') : BS q t n (wakeL m' l) m' T K c :=
  ⟨h.bp, fun i hi => ⟨(h.ti i hi).1, by have := (h.ti i hi).2; omega⟩, (L1_posAB hm ht h.ab).1, fun i hi => Int.le_trans (h.ph i hi) (Ph_wake ht hl.inl.pos)⟩
theorem BS.add {q t n m m' c0 : Int} {l : Chs} {T K : Nat → Int} {c : Nat} (h : BS q t n l m T K c) (hl : QL q l) (hq : 1 ≤ q) (ht : 1 ≤ t) (hn : 0 ≤ n) (hnm : n ≤ m') (hm : m ≤ m') (hmt : m' + t ≤ 4611686018427387904) (hc : 0 ≤ c0) (hcq : c0 ≤ q) (hu : c0 ≤ usL m' l) (h60 : c < 60) :
    cI q c0 = c0 ∧ BS q t n (chargeL q t m' c0 l) m' (snoc T c m') (snoc K c c0) (c + 1) := by
  obtain ⟨z1, z2, z3⟩ := Ph_charge hl hq ht (show 0 ≤ m' by omega) hmt hc hu hm h.ab
  have hL := hl.charge hq (show 0 ≤ t by omega) hc (show 0 ≤ m' by omega) (show m' ≤ 4611686018427387904 by omega) (t := t)
  have sT : ∀ i, i < c → snoc T c m' i = T i := fun i hi => if_pos hi
  have sT1 : snoc T c m' c = m' := if_neg (by omega)
  have sK : ∀ i, i < c → snoc K c c0 i = K i := fun i hi => if_pos hi
  have sK1 : snoc K c c0 c = c0 := if_neg (by omega)
  have hph : ∀ i, i < c + 1 → psm (snoc K c c0) (c + 1) - psm (snoc K c c0) i ≤ Ph t (snoc T c m' i) (chargeL q t m' c0 l) := fun i hi => by
    rw [psm_snoc1, psm_snoc K c c0 i (by omega)]
    by_cases e : i = c
    · subst e
      rw [sT1]
      have := z3 m' (Int.le_refl _)
      have := Ph_nonneg (t := t) (s := m') ht hl.inl.pos
      omega
    · rw [sT i (by omega)]
      have := z3 (T i) (by have := (h.ti i (by omega)).2; omega)
      have := h.ph i (by omega)
      omega
  have hti : ∀ i, i < c + 1 → n ≤ snoc T c m' i ∧ snoc T c m' i ≤ m' := fun i hi => by
    by_cases e : i = c
    · subst e; rw [sT1]; omega
    · rw [sT i (by omega)]; have := h.ti i (by omega); omega
  refine ⟨z1, ⟨by omega, fun i k h1 h2 => ?_, fun i hi => by have := hti i hi; omega, fun i hi => ?_, fun i k h1 h2 => ?_⟩, hti, z2, hph⟩
  · by_cases e : k = c
    · subst e; rw [sT1]; exact (hti i (by omega)).2
    · rw [sT i (by omega), sT k (by omega)]; exact h.bp.mono i k h1 (by omega)
  · by_cases e : i = c
    · subst e; rw [sK1]; exact ⟨hc, hcq⟩
    · rw [sK i (by omega)]; exact h.bp.kr i (by omega)
  · by_cases e : k = c
    · subst e
      have b1 := hph i (by omega)
      have b2 := Ph_bound ht (hti i (by omega)).2 hL.inl.pos z2
      rw [hL.tot] at b2
      rw [sT1]
      omega
    · rw [sT i (by omega), sT k (by omega), psm_snoc K c c0 (k + 1) (by omega), psm_snoc K c c0 i (by omega)]
      exact h.bp.bd i k h1 (by omega)
theorem BP.nil (q t : Int) (T K : Nat → Int) : BP q t T K 0 := ⟨by omega, fun i k _ h => by omega, fun i h => by omega, fun i h => by omega, fun i k _ h => by omega⟩
theorem BD.stay {q t n p g m m' : Int} {T K : Nat → Int} {c : Nat} (h : BD q t n p g m T K c) (ht : 1 ≤ t) (hm : m ≤ m') : BD q t n p g m' T K c :=
  ⟨h.bp, fun i hi => ⟨(h.ti i hi).1, by have := (h.ti i hi).2; omega⟩, Int.le_trans h.pm (per_mono2 ht hm), h.pi, h.ph⟩
theorem BD.add {q t n p g m m' c0 : Int} {T K : Nat → Int} {c : Nat} (h : BD q t n p g m T K c) (hd : (⟨q, t, n, p, g⟩ : DS).Ok) (hn : 0 ≤ n) (hnm : n ≤ m') (hm : m ≤ m') (hmt : m' ≤ 4611686018427387904) (hc : 0 ≤ c0) (hu : c0 ≤ (⟨q, t, n, p, g⟩ : DS).us m') (h60 : c < 60) :
    (⟨q, t, n, p, g⟩ : DS).chg m' c0 = c0 ∧ BD q t n ((m' - n) / t) ((⟨q, t, n, p, g⟩ : DS).gon m' + c0) m' (snoc T c m') (snoc K c c0) (c + 1) := by
  have q0 : 1 ≤ q := hd.q0
  have qt : q ≤ t := hd.qt
  have g0 : 0 ≤ g := hd.g0
  have g1 : g ≤ q := hd.g1
  obtain ⟨gb0, gb1⟩ := DS.gon_bd hd m'
  have hus : (⟨q, t, n, p, g⟩ : DS).us m' = q - (⟨q, t, n, p, g⟩ : DS).gon m' := rfl
  rw [hus] at hu
  have gb1 : (⟨q, t, n, p, g⟩ : DS).gon m' ≤ q := gb1
  have sT : ∀ i, i < c → snoc T c m' i = T i := fun i hi => if_pos hi
  have sT1 : snoc T c m' c = m' := if_neg (by omega)
  have sK : ∀ i, i < c → snoc K c c0 i = K i := fun i hi => if_pos hi
  have sK1 : snoc K c c0 c = c0 := if_neg (by omega)
  have hpm : p ≤ (m' - n) / t := Int.le_trans h.pm (per_mono2 (by omega) hm)
  have hgon : (⟨q, t, n, p, g⟩ : DS).gon m' = if (m' - n) / t = p then g else 0 := rfl
  have hph : ∀ i, i < c + 1 → psm (snoc K c c0) (c + 1) - psm (snoc K c c0) i ≤ ((m' - n) / t - (snoc T c m' i - n) / t) * q + ((⟨q, t, n, p, g⟩ : DS).gon m' + c0) := fun i hi => by
    rw [psm_snoc1, psm_snoc K c c0 i (by omega)]
    by_cases e : i = c
    · subst e
      rw [sT1, Int.sub_self, Int.zero_mul]
      omega
    · rw [sT i (by omega)]
      have b1 := h.ph i (by omega)
      rw [Int.sub_mul] at b1 ⊢
      rw [hgon]
      split
      · rename_i e2; rw [e2]; omega
      · rename_i e2
        have : p + 1 ≤ (m' - n) / t := by omega
        have b2 := Int.mul_le_mul_of_nonneg_right this (show 0 ≤ q by omega)
        rw [Int.add_mul, Int.one_mul] at b2
        omega
  have hti : ∀ i, i < c + 1 → n ≤ snoc T c m' i ∧ snoc T c m' i ≤ m' := fun i hi => by
    by_cases e : i = c
    · subst e; rw [sT1]; omega
    · rw [sT i (by omega)]; have := h.ti i (by omega); omega
  refine ⟨?_, ⟨by omega, fun i k h1 h2 => ?_, fun i hi => by have := hti i hi; omega, fun i hi => ?_, fun i k h1 h2 => ?_⟩, hti, Int.le_refl _, fun i hi => per_mono2 (by omega) (hti i hi).2, hph⟩
  · show (if q - (⟨q, t, n, p, g⟩ : DS).gon m' < c0 then q - (⟨q, t, n, p, g⟩ : DS).gon m' else c0) = c0
    rw [if_neg (by omega)]
  · by_cases e : k = c
    · subst e; rw [sT1]; exact (hti i (by omega)).2
    · rw [sT i (by omega), sT k (by omega)]; exact h.bp.mono i k h1 (by omega)
  · by_cases e : i = c
    · subst e; rw [sK1]; omega
    · rw [sK i (by omega)]; exact h.bp.kr i (by omega)
  · by_cases e : k = c
    · subst e
      have b1 := hph i (by omega)
      rw [sT1]
      have hi := hti i (by omega)
      generalize snoc T k m' i = s at b1 hi ⊢
      have b3 : (m' - n) / t - (s - n) / t ≤ (m' - s) / t + 1 := by
        have t0 : t ≠ 0 := by omega
        have e1 := Int.mul_ediv_add_emod (m' - n) t
        have e2 := Int.mul_ediv_add_emod (s - n) t
        have e3 := Int.mul_ediv_add_emod (m' - s) t
        have r1 := Int.emod_nonneg (m' - n) t0
        have r2 := Int.emod_lt_of_pos (s - n) (show 0 < t by omega)
        have r3 := Int.emod_lt_of_pos (m' - s) (show 0 < t by omega)
        have r4 := Int.emod_nonneg (s - n) t0
        have hlt : t * ((m' - n) / t - (s - n) / t) < t * ((m' - s) / t + 2) := by
          rw [Int.mul_sub, Int.mul_add]
          omega
        have := Int.lt_of_mul_lt_mul_left hlt (show 0 ≤ t by omega)
        omega
      have b4 := Int.mul_le_mul_of_nonneg_right b3 (show 0 ≤ q by omega)
      rw [Int.add_mul, Int.one_mul] at b4
      rw [Int.add_mul ((m' - s) / t) 2 q]
      omega
    · rw [sT i (by omega), sT k (by omega), psm_snoc K c c0 (k + 1) (by omega), psm_snoc K c c0 i (by omega)]
      exact h.bp.bd i k h1 (by omega)
end Go.Proofs.Ytokiakcmdbihhaa
