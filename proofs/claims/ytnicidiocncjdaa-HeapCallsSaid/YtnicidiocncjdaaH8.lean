import Derived.Test.YtnicidiocncjdaaH7
open Go Go.Sx Go.Proofs
set_option maxRecDepth 100000
namespace Go.Proofs.Ytnicidiocncjdaa

theorem HP.Cons.M_some {h : HP} (hc : h.Cons) {k : Nat} (hk : k < h.n) : h.M (h.id k) = some (h.key k) := by
  obtain ⟨⟨r, _⟩, a⟩ := hc.el k hk
  unfold HP.M
  rw [a, if_pos ⟨r, by omega⟩, show ((k : Int) + 1 - 1).toNat = k by omega]
theorem HP.Cons.M_at {h : HP} (hc : h.Cons) {i q : Int} (hm : h.M i = some q) : (0 ≤ i ∧ i < 64) ∧ ((1 ≤ h.at_ i.toNat ∧ h.at_ i.toNat ≤ (h.n : Int)) ∧ h.id (h.at_ i.toNat - 1).toNat = i) ∧ h.key (h.at_ i.toNat - 1).toNat = q := by
  unfold HP.M at hm
  by_cases hr : (0 ≤ i ∧ i < 64) ∧ h.at_ i.toNat ≠ 0
  · rw [if_pos hr] at hm
    obtain ⟨hr1, hr2⟩ := hr
    rcases hc.at_ i.toNat (by omega) with h0 | ⟨h1, h2⟩
    · exact absurd h0 hr2
    · exact ⟨hr1, ⟨h1, by rw [h2]; omega⟩, Option.some.inj hm⟩
  · rw [if_neg hr] at hm
    cases hm
theorem HP.Cons.M_ex {h : HP} (hc : h.Cons) {i q : Int} (hm : h.M i = some q) : ∃ k, k < h.n ∧ h.id k = i ∧ h.key k = q := by
  obtain ⟨_, ⟨h1, h2⟩, h3⟩ := hc.M_at hm
  exact ⟨_, by omega, h2, h3⟩
theorem HP.Cons.has {h : HP} (hc : h.Cons) (i : Int) : hasB h.at_ i = (h.M i).isSome := by
  unfold hasB HP.M
  by_cases hr : 0 ≤ i ∧ i < 64
  · rcases hc.at_ i.toNat (by omega) with h0 | ⟨h1, h2⟩
    · rw [if_neg (fun h => h.2 h0), decide_eq_false (fun h => by omega)]; rfl
    · rw [if_pos ⟨hr, by omega⟩, decide_eq_true ⟨hr, by omega⟩]; rfl
  · rw [if_neg (fun h => hr h.1), decide_eq_false (fun h => hr h.1)]; rfl
theorem HP.set_f (h : HP) (k : Nat) (x : It) (j : Nat) : (h.set k x).f j = if j = k then x else h.f j := by
  unfold HP.f HP.set upN
  by_cases e : j = k <;> simp [e]
/-! ## one more -/
def HP.push (h : HP) (c : Nat) (x : It) : HP := HP.set { h with n := h.n + 1, cap := c } h.n x
theorem HP.push_f (h : HP) (c : Nat) (x : It) (j : Nat) : (h.push c x).f j = if j = h.n then x else h.f j := HP.set_f _ _ _ _
theorem HP.push_at (h : HP) (c : Nat) (x : It) (i : Nat) : (h.push c x).at_ i = if i = x.1.toNat then (h.n : Int) + 1 else h.at_ i := rfl
theorem HP.Cons.M_none {h : HP} (_ : h.Cons) {i : Int} (hr : 0 ≤ i ∧ i < 64) (hm : h.M i = none) : h.at_ i.toNat = 0 := by
  unfold HP.M at hm
  by_cases e : h.at_ i.toNat = 0
  · exact e
  · rw [if_pos ⟨hr, e⟩] at hm
    cases hm
theorem HP.Cons.push {h : HP} (hc : h.Cons) {x : It} {c : Nat} (hr : 0 ≤ x.1 ∧ x.1 < 64) (hq : 0 ≤ x.2 ∧ x.2 < 18446744073709551616) (hm : h.M x.1 = none) (hcap : h.n + 1 ≤ c) : (h.push c x).Cons := by
  have h0 := hc.M_none hr hm
  refine ⟨hcap, fun k hk => ?_, fun i hi => ?_⟩
  · have hk : k < h.n + 1 := hk
    rw [HP.push_at, HP.id_f, HP.key_f, h.push_f]
    by_cases e : k = h.n
    · rw [if_pos e]
      refine ⟨⟨hr, hq⟩, ?_⟩
      rw [if_pos rfl, e]
    · rw [if_neg e]
      obtain ⟨r, a⟩ := hc.el k (by omega)
      refine ⟨r, ?_⟩
      show (if (h.id k).toNat = x.1.toNat then _ else h.at_ (h.id k).toNat) = _
      rw [if_neg (fun e2 => by rw [e2, h0] at a; omega), a]
  · rw [HP.push_at]
    by_cases e : i = x.1.toNat
    · rw [if_pos e]
      refine .inr ⟨by show _ ∧ _ ≤ ((h.n + 1 : Nat) : Int); omega, ?_⟩
      rw [show ((h.n : Int) + 1 - 1).toNat = h.n by omega, HP.id_f, h.push_f, if_pos rfl]
      omega
    · rw [if_neg e]
      rcases hc.at_ i hi with h1 | ⟨h1, h2⟩
      · exact .inl h1
      · refine .inr ⟨by show _ ∧ _ ≤ ((h.n + 1 : Nat) : Int); omega, ?_⟩
        rw [HP.id_f, h.push_f, if_neg (by omega)]
        exact h2
theorem HP.Cons.push_M {h : HP} (hc : h.Cons) {x : It} {c : Nat} (hr : 0 ≤ x.1 ∧ x.1 < 64) (_ : h.M x.1 = none) (i : Int) : (h.push c x).M i = if i = x.1 then some x.2 else h.M i := by
  unfold HP.M
  rw [HP.push_at]
  by_cases e : i = x.1
  · rw [if_pos e, e, if_pos rfl, if_pos ⟨hr, by omega⟩, show ((h.n : Int) + 1 - 1).toNat = h.n by omega, HP.key_f, h.push_f, if_pos rfl]
  · rw [if_neg e]
    by_cases hi : 0 ≤ i ∧ i < 64
    · rw [if_neg (show ¬ i.toNat = x.1.toNat by omega)]
      rcases hc.at_ i.toNat (by omega) with h1 | ⟨h1, h2⟩
      · rw [if_neg (fun h => h.2 h1), if_neg (fun h => h.2 h1)]
      · have hk : (h.push c x).key (h.at_ i.toNat - 1).toNat = h.key (h.at_ i.toNat - 1).toNat := by
          rw [HP.key_f, h.push_f, if_neg (show ¬ (h.at_ i.toNat - 1).toNat = h.n by omega)]
          rfl
        rw [hk]
    · rw [if_neg (fun h => hi h.1), if_neg (fun h => hi h.1)]
theorem HP.Full.push {h : HP} (hf : h.Full) {x : It} {c : Nat} (hr : 0 ≤ x.1 ∧ x.1 < 64) (hq : 0 ≤ x.2 ∧ x.2 < 18446744073709551616) (hm : h.M x.1 = none) (hcap : h.n + 1 ≤ c) : (h.push c x).Hole h.n := by
  refine ⟨hf.c.push hr hq hm hcap, fun j h1 h2 h3 h4 => ?_, fun j h1 h2 h3 h4 => ?_⟩
  · have h2 : j < h.n + 1 := h2
    unfold HP.le
    rw [h.push_f, h.push_f, if_neg h3, if_neg h4]
    exact hf.o j h1 (by omega)
  · have h2 : j < h.n + 1 := h2
    omega
theorem HP.Down.last {h : HP} {k : Nat} (d : h.Down k) (hk : h.n ≤ 2 * k + 1) : h.Full := d.full fun j h1 h2 h3 => by omega
/-- The heap ahead of its first item. -/
def HP.nil (a : Nat → Int) : HP := ⟨0, 0, fun _ => 0, fun _ => 0, a⟩
theorem HP.nil_full {a : Nat → Int} (ha : ∀ i, i < 64 → a i = 0) : (HP.nil a).Full := ⟨⟨Nat.le_refl _, fun k hk => absurd hk (Nat.not_lt_zero k), fun i hi => .inl (ha i hi)⟩, fun j _ h => absurd h (Nat.not_lt_zero j)⟩
theorem HP.Cons.empty {h : HP} (hc : h.Cons) (h0 : h.n = 0) (i : Int) : h.M i = none := by
  cases e : h.M i with
  | none => rfl
  | some q =>
    obtain ⟨k, hk, _⟩ := hc.M_ex e
    omega
/-! ## one less -/
def HP.rem (h : HP) (i : Int) : HP :=
  let g := h.swap (h.at_ i.toNat - 1).toNat (h.n - 1)
  { g with n := h.n - 1, at_ := upN g.at_ i.toNat 0 }
theorem HP.rem_f (h : HP) (i : Int) (j : Nat) : (h.rem i).f j = (h.swap (h.at_ i.toNat - 1).toNat (h.n - 1)).f j := rfl
theorem HP.rem_at (h : HP) (i : Int) (j : Nat) : (h.rem i).at_ j = if j = i.toNat then 0 else (h.swap (h.at_ i.toNat - 1).toNat (h.n - 1)).at_ j := rfl
theorem HP.Cons.rem {h : HP} (hc : h.Cons) {i q : Int} (hm : h.M i = some q) : (h.rem i).Cons := by
  obtain ⟨hi, ⟨h1, h2⟩, h3⟩ := hc.M_at hm
  obtain ⟨k, hk⟩ : ∃ k, (h.at_ i.toNat - 1).toNat = k := ⟨_, rfl⟩
  have hkn : k < h.n := by omega
  have hg := hc.swap (a := k) (b := h.n - 1) hkn (by omega)
  have hidl : (h.swap k (h.n - 1)).id (h.n - 1) = i := by
    rw [HP.id_f, h.swap_f, if_pos rfl]
    show h.id k = i
    rw [← hk]; exact h2
  refine ⟨?_, fun j hj => ?_, fun j hj => ?_⟩
  · have := hc.cap
    show h.n - 1 ≤ h.cap
    omega
  · have hj : j < h.n - 1 := hj
    rw [HP.rem_at, HP.id_f, HP.key_f, HP.rem_f, hk]
    obtain ⟨r, a⟩ := hg.el j (by show j < h.n; omega)
    refine ⟨r, ?_⟩
    show (if ((h.swap k (h.n - 1)).id j).toNat = i.toNat then (0 : Int) else _) = _
    rw [if_neg]
    · exact a
    · intro e
      have r1 := r.1
      have e : (h.swap k (h.n - 1)).id j = (h.swap k (h.n - 1)).id (h.n - 1) := by
        rw [hidl]
        show ((h.swap k (h.n - 1)).f j).1 = i
        have : ((h.swap k (h.n - 1)).f j).1 = (h.swap k (h.n - 1)).id j := rfl
        omega
      have := hg.inj (show j < h.n by omega) (show h.n - 1 < h.n by omega) e
      omega
  · rw [HP.rem_at, hk]
    by_cases e : j = i.toNat
    · rw [if_pos e]; exact .inl rfl
    · rw [if_neg e]
      rcases hg.at_ j hj with h0 | ⟨g1, g2⟩
      · exact .inl h0
      · have g1 : 1 ≤ (h.swap k (h.n - 1)).at_ j ∧ (h.swap k (h.n - 1)).at_ j ≤ (h.n : Int) := g1
        have hne : ((h.swap k (h.n - 1)).at_ j - 1).toNat ≠ h.n - 1 := fun e2 => by rw [e2, hidl] at g2; omega
        refine .inr ⟨by show _ ∧ _ ≤ ((h.n - 1 : Nat) : Int); omega, ?_⟩
        rw [HP.id_f, HP.rem_f, hk]
        exact g2
theorem HP.Cons.rem_M {h : HP} (hc : h.Cons) {i q : Int} (hm : h.M i = some q) (j : Int) : (h.rem i).M j = if j = i then none else h.M j := by
  obtain ⟨hi, ⟨h1, h2⟩, h3⟩ := hc.M_at hm
  obtain ⟨k, hk⟩ : ∃ k, (h.at_ i.toNat - 1).toNat = k := ⟨_, rfl⟩
  have hkn : k < h.n := by omega
  have hs := hc.swap_M (a := k) (b := h.n - 1) hkn (by omega) j
  by_cases e : j = i
  · rw [if_pos e]
    unfold HP.M
    rw [HP.rem_at, e, if_pos rfl, if_neg (fun h => h.2 rfl)]
  · rw [if_neg e, ← hs]
    unfold HP.M
    by_cases hj : 0 ≤ j ∧ j < 64
    · rw [HP.rem_at, if_neg (show ¬ j.toNat = i.toNat by omega), hk]
      have : ∀ m, (h.rem i).key m = (h.swap k (h.n - 1)).key m := fun m => by rw [HP.key_f, HP.rem_f, hk]; rfl
      rw [this]
    · rw [if_neg (fun h => hj h.1), if_neg (fun h => hj h.1)]
theorem HP.Full.rem {h : HP} (hf : h.Full) {i q : Int} (hm : h.M i = some q) : (h.rem i).Hole (h.at_ i.toNat - 1).toNat ∧ (h.n - 1 ≤ (h.at_ i.toNat - 1).toNat → (h.rem i).Full) := by
  obtain ⟨hi, ⟨h1, h2⟩, h3⟩ := hf.c.M_at hm
  have hcr := hf.c.rem hm
  have hrf := h.rem_f i
  have hrn : (h.rem i).n = h.n - 1 := rfl
  generalize hk : (h.at_ i.toNat - 1).toNat = k at *
  have hkn : k < h.n := by omega
  have hfj : ∀ j, j < h.n - 1 → j ≠ k → (h.rem i).f j = h.f j := fun j h4 h5 => by rw [hrf, h.swap_f, if_neg (by omega), if_neg h5]
  have lo : ∀ j, 0 < j → j < h.n - 1 → j ≠ k → (j - 1) / 2 ≠ k → (h.rem i).le ((j - 1) / 2) j := fun j h4 h5 h6 h7 => by
    unfold HP.le
    rw [hfj j h5 h6, hfj _ (by omega) h7]
    exact hf.o j h4 (by omega)
  refine ⟨⟨hcr, fun j h4 h5 h6 h7 => lo j h4 (by omega) h6 h7, fun j h4 h5 h6 h7 => ?_⟩, fun hl => ⟨hcr, fun j h4 h5 => lo j h4 (by omega) (by omega) (by omega)⟩⟩
  rw [hrn] at h5
  unfold HP.le
  rw [hfj j h5 (by omega), hfj _ (by omega) (by omega)]
  have a := hf.o j h4 (by omega)
  have b := hf.o k h7 hkn
  rw [h6] at a
  exact not_ltI_trans b a
/-! ## another key -/
def HP.chg (h : HP) (i q : Int) : HP := { h with key := upN h.key (h.at_ i.toNat - 1).toNat q }
theorem HP.Full.chg {h : HP} (hf : h.Full) {i q p : Int} (hm : h.M i = some p) (hq : 0 ≤ q ∧ q < 18446744073709551616) : (h.chg i q).Hole (h.at_ i.toNat - 1).toNat ∧ ∀ j, (h.chg i q).M j = if j = i then some q else h.M j := by
  obtain ⟨hi, ⟨h1, h2⟩, h3⟩ := hf.c.M_at hm
  unfold HP.chg
  generalize hk : (h.at_ i.toNat - 1).toNat = k at *
  have hkn : k < h.n := by omega
  have hne : ∀ j, j ≠ k → ({ h with key := upN h.key k q } : HP).f j = h.f j := fun j e => by
    show (h.id j, upN h.key k q j) = (h.id j, h.key j)
    rw [upN_ne _ _ e]
  have hc : ({ h with key := upN h.key k q } : HP).Cons := ⟨hf.c.cap, fun j hj => by
    obtain ⟨⟨a, b⟩, c⟩ := hf.c.el j hj
    refine ⟨⟨a, ?_⟩, c⟩
    show 0 ≤ upN h.key k q j ∧ upN h.key k q j < _
    by_cases e : j = k
    · rw [e, upN_same]; exact hq
    · rw [upN_ne _ _ e]; exact b, hf.c.at_⟩
  refine ⟨⟨hc, fun j h4 h5 h6 h7 => ?_, fun j h4 h5 h6 h7 => ?_⟩, fun j => ?_⟩
  · unfold HP.le
    rw [hne j h6, hne _ h7]
    exact hf.o j h4 h5
  · unfold HP.le
    have h5 : j < h.n := h5
    rw [hne j (by omega), hne _ (by omega)]
    have a := hf.o j h4 h5
    have b := hf.o k h7 hkn
    rw [h6] at a
    exact not_ltI_trans b a
  · unfold HP.M
    by_cases e : j = i
    · rw [if_pos e, e, if_pos ⟨hi, by show h.at_ i.toNat ≠ 0; omega⟩]
      show some (upN h.key k q (h.at_ i.toNat - 1).toNat) = _
      rw [hk, upN_same]
    · rw [if_neg e]
      by_cases hj : 0 ≤ j ∧ j < 64
      · show (if _ ∧ h.at_ j.toNat ≠ 0 then some (upN h.key k q (h.at_ j.toNat - 1).toNat) else none) = _
        rcases hf.c.at_ j.toNat (by omega) with h0 | ⟨g1, g2⟩
        · rw [if_neg (fun h => h.2 h0), if_neg (fun h => h.2 h0)]
        · rw [upN_ne]
          intro e2
          rw [e2] at g2
          rw [h2] at g2
          omega
      · rw [if_neg (fun h => hj h.1), if_neg (fun h => hj h.1)]
/-! ## the first -/
theorem HP.Full.first {h : HP} (hf : h.Full) : ∀ j, j < h.n → h.le 0 j := fun j => by
  induction j using Nat.strongRecOn with
  | ind j ih =>
    intro hj
    by_cases h0 : j = 0
    · subst h0; exact fun h => ltI_asymm h h
    · exact not_ltI_trans (ih ((j - 1) / 2) (by omega) (by omega)) (hf.o j (by omega) hj)
end Go.Proofs.Ytnicidiocncjdaa
