import Derived.Test.YtnicidiocncjdaaH5
open Go Go.Sx Go.Proofs
set_option maxRecDepth 100000
namespace Go.Proofs.Ytnicidiocncjdaa

def upN (f : Nat → Int) (k : Nat) (v : Int) : Nat → Int := fun j => if j = k then v else f j
theorem upN_same (f : Nat → Int) (k : Nat) (v : Int) : upN f k v k = v := if_pos rfl
theorem upN_ne (f : Nat → Int) {k j : Nat} (v : Int) (h : j ≠ k) : upN f k v j = f j := if_neg h
def HP.set (h : HP) (k : Nat) (x : It) : HP := { h with id := upN h.id k x.1, key := upN h.key k x.2, at_ := upN h.at_ x.1.toNat ((k : Int) + 1) }
def HP.swap (h : HP) (a b : Nat) : HP := (h.set a (h.f b)).set b (h.f a)
structure HP.Cons (h : HP) : Prop where
  cap : h.n ≤ h.cap
  el : ∀ k, k < h.n → ((0 ≤ h.id k ∧ h.id k < 64) ∧ 0 ≤ h.key k ∧ h.key k < 18446744073709551616) ∧ h.at_ (h.id k).toNat = (k : Int) + 1
  at_ : ∀ i, i < 64 → h.at_ i = 0 ∨ ((1 ≤ h.at_ i ∧ h.at_ i ≤ (h.n : Int)) ∧ h.id (h.at_ i - 1).toNat = (i : Int))
def HP.M (h : HP) (i : Int) : Option Int := if (0 ≤ i ∧ i < 64) ∧ h.at_ i.toNat ≠ 0 then some (h.key (h.at_ i.toNat - 1).toNat) else none
theorem HP.swap_f (h : HP) (a b j : Nat) : (h.swap a b).f j = if j = b then h.f a else if j = a then h.f b else h.f j := by
  unfold HP.f HP.swap HP.set upN
  by_cases e : j = b
  · simp [e, HP.f]
  · by_cases e2 : j = a
    · by_cases e3 : a = b
      · exact absurd (e2.trans e3) e
      · simp [e2, e3, HP.f]
    · simp [e, e2]
theorem HP.swap_at (h : HP) (a b i : Nat) : (h.swap a b).at_ i = if i = (h.id a).toNat then (b : Int) + 1 else if i = (h.id b).toNat then (a : Int) + 1 else h.at_ i := rfl
theorem HP.swap_n (h : HP) (a b : Nat) : (h.swap a b).n = h.n ∧ (h.swap a b).cap = h.cap := ⟨rfl, rfl⟩
theorem HP.Cons.inj {h : HP} (hc : h.Cons) {a b : Nat} (ha : a < h.n) (hb : b < h.n) (e : h.id a = h.id b) : a = b := by
  have h1 := (hc.el a ha).2
  have h2 := (hc.el b hb).2
  rw [e, h2] at h1
  omega
theorem HP.id_f (h : HP) (j : Nat) : h.id j = (h.f j).1 := rfl
theorem HP.key_f (h : HP) (j : Nat) : h.key j = (h.f j).2 := rfl
theorem HP.Cons.swap {h : HP} (hc : h.Cons) {a b : Nat} (ha : a < h.n) (hb : b < h.n) : (h.swap a b).Cons := by
  obtain ⟨⟨ra, ka⟩, aa⟩ := hc.el a ha
  obtain ⟨⟨rb, kb⟩, ab⟩ := hc.el b hb
  refine ⟨hc.cap, fun k hk => ?_, fun i hi => ?_⟩
  · have hk : k < h.n := hk
    obtain ⟨⟨rk, kk⟩, ak⟩ := hc.el k hk
    have hf := h.swap_f a b k
    rw [HP.swap_at, HP.id_f, HP.key_f, hf]
    by_cases e1 : k = b
    · rw [if_pos e1]
      refine ⟨⟨ra, ka⟩, ?_⟩
      show (if (h.id a).toNat = (h.id a).toNat then (b : Int) + 1 else if (h.id a).toNat = (h.id b).toNat then (a : Int) + 1 else h.at_ (h.id a).toNat) = (k : Int) + 1
      rw [if_pos rfl, e1]
    · rw [if_neg e1]
      by_cases e2 : k = a
      · rw [if_pos e2]
        refine ⟨⟨rb, kb⟩, ?_⟩
        have hne : ¬ (h.id b).toNat = (h.id a).toNat := fun e => e1 (e2.trans (hc.inj ha hb (by omega)))
        show (if (h.id b).toNat = (h.id a).toNat then (b : Int) + 1 else if (h.id b).toNat = (h.id b).toNat then (a : Int) + 1 else h.at_ (h.id b).toNat) = (k : Int) + 1
        rw [if_neg hne, if_pos rfl, e2]
      · rw [if_neg e2]
        refine ⟨⟨rk, kk⟩, ?_⟩
        have n1 : ¬ (h.id k).toNat = (h.id a).toNat := fun e => e2 (hc.inj hk ha (by omega))
        have n2 : ¬ (h.id k).toNat = (h.id b).toNat := fun e => e1 (hc.inj hk hb (by omega))
        show (if (h.id k).toNat = (h.id a).toNat then (b : Int) + 1 else if (h.id k).toNat = (h.id b).toNat then (a : Int) + 1 else h.at_ (h.id k).toNat) = (k : Int) + 1
        rw [if_neg n1, if_neg n2, ak]
  · rw [HP.swap_at]
    by_cases e1 : i = (h.id a).toNat
    · rw [if_pos e1]
      refine .inr ⟨by show _ ∧ _ ≤ (h.n : Int); omega, ?_⟩
      rw [show ((b : Int) + 1 - 1).toNat = b by omega, HP.id_f, h.swap_f, if_pos rfl]
      show h.id a = _
      omega
    · rw [if_neg e1]
      by_cases e2 : i = (h.id b).toNat
      · rw [if_pos e2]
        refine .inr ⟨by show _ ∧ _ ≤ (h.n : Int); omega, ?_⟩
        have hne : ¬ a = b := fun e => e1 (by rw [e2, e])
        rw [show ((a : Int) + 1 - 1).toNat = a by omega, HP.id_f, h.swap_f, if_neg hne, if_pos rfl]
        show h.id b = _
        omega
      · rw [if_neg e2]
        rcases hc.at_ i hi with h0 | ⟨h1, h2⟩
        · exact .inl h0
        · refine .inr ⟨h1, ?_⟩
          have n1 : ¬ (h.at_ i - 1).toNat = a := fun e => e1 (by rw [e] at h2; omega)
          have n2 : ¬ (h.at_ i - 1).toNat = b := fun e => e2 (by rw [e] at h2; omega)
          rw [HP.id_f, h.swap_f, if_neg n2, if_neg n1]
          exact h2
theorem HP.Cons.swap_M {h : HP} (hc : h.Cons) {a b : Nat} (ha : a < h.n) (hb : b < h.n) (i : Int) : (h.swap a b).M i = h.M i := by
  obtain ⟨⟨ra, ka⟩, aa⟩ := hc.el a ha
  obtain ⟨⟨rb, kb⟩, ab⟩ := hc.el b hb
  unfold HP.M
  rw [HP.swap_at]
  by_cases hr : 0 ≤ i ∧ i < 64
  · by_cases e1 : i.toNat = (h.id a).toNat
    · rw [if_pos e1, e1, aa, if_pos ⟨hr, by omega⟩, if_pos ⟨hr, by omega⟩, show ((b : Int) + 1 - 1).toNat = b by omega, show ((a : Int) + 1 - 1).toNat = a by omega, HP.key_f, h.swap_f, if_pos rfl]
      rfl
    · rw [if_neg e1]
      by_cases e2 : i.toNat = (h.id b).toNat
      · have hne : ¬ a = b := fun e => e1 (by rw [e2, e])
        rw [if_pos e2, e2, ab, if_pos ⟨hr, by omega⟩, if_pos ⟨hr, by omega⟩, show ((b : Int) + 1 - 1).toNat = b by omega, show ((a : Int) + 1 - 1).toNat = a by omega, HP.key_f, h.swap_f, if_neg hne, if_pos rfl]
        rfl
      · rw [if_neg e2]
        rcases hc.at_ i.toNat (by omega) with h0 | ⟨h1, h2⟩
        · rw [if_neg (fun h => h.2 h0), if_neg (fun h => h.2 h0)]
        · have n1 : ¬ (h.at_ i.toNat - 1).toNat = a := fun e => e1 (by rw [e] at h2; omega)
          have n2 : ¬ (h.at_ i.toNat - 1).toNat = b := fun e => e2 (by rw [e] at h2; omega)
          rw [HP.key_f (h.swap a b), h.swap_f, if_neg n2, if_neg n1]
          rfl
  · rw [if_neg (fun h => hr h.1), if_neg (fun h => hr h.1)]

/-! ## the order -/
def HP.le (h : HP) (a b : Nat) : Prop := ¬ ltI (h.f b) (h.f a)
theorem not_ltI_trans {x y z : It} (h1 : ¬ ltI y x) (h2 : ¬ ltI z y) : ¬ ltI z x := by
  unfold ltI at *
  omega
theorem ltI_asymm {x y : It} (h : ltI x y) : ¬ ltI y x := by
  unfold ltI at *
  omega
structure HP.Same (h h' : HP) : Prop where
  n : h'.n = h.n
  cap : h'.cap = h.cap
  M : ∀ i, h'.M i = h.M i
theorem HP.Same.refl (h : HP) : h.Same h := ⟨rfl, rfl, fun _ => rfl⟩
theorem HP.Same.trans {a b c : HP} (h : a.Same b) (k : b.Same c) : a.Same c := ⟨k.n.trans h.n, k.cap.trans h.cap, fun i => (k.M i).trans (h.M i)⟩
/-- No child of k is ahead of k's parent. -/
def HP.Grand (h : HP) (k : Nat) : Prop := ∀ j, 0 < j → j < h.n → (j - 1) / 2 = k → 0 < k → h.le ((k - 1) / 2) j
structure HP.Hole (h : HP) (k : Nat) : Prop where
  c : h.Cons
  o : ∀ j, 0 < j → j < h.n → j ≠ k → (j - 1) / 2 ≠ k → h.le ((j - 1) / 2) j
  g : h.Grand k
structure HP.UpI (h : HP) (k : Nat) : Prop where
  c : h.Cons
  o : ∀ j, 0 < j → j < h.n → j ≠ k → h.le ((j - 1) / 2) j
  g : h.Grand k
structure HP.Down (h : HP) (k : Nat) : Prop where
  c : h.Cons
  o : ∀ j, 0 < j → j < h.n → (j - 1) / 2 ≠ k → h.le ((j - 1) / 2) j
  g : h.Grand k
structure HP.Full (h : HP) : Prop where
  c : h.Cons
  o : ∀ j, 0 < j → j < h.n → h.le ((j - 1) / 2) j
theorem HP.Full.down {h : HP} (f : h.Full) (k : Nat) : h.Down k := ⟨f.c, fun j h1 h2 _ => f.o j h1 h2, fun j h1 h2 e hk => by
  have a := f.o j h1 h2
  have b := f.o k hk (by omega)
  rw [e] at a
  exact not_ltI_trans b a⟩
theorem HP.UpI.full {h : HP} {k : Nat} (u : h.UpI k) (hk : k = 0 ∨ h.le ((k - 1) / 2) k) : h.Full := ⟨u.c, fun j h1 h2 => by
  by_cases e : j = k
  · subst e
    rcases hk with h0 | h0
    · omega
    · exact h0
  · exact u.o j h1 h2 e⟩
theorem HP.Hole.down {h : HP} {k : Nat} (u : h.Hole k) (hk : k = 0 ∨ h.le ((k - 1) / 2) k) : h.Down k := ⟨u.c, fun j h1 h2 h3 => by
  by_cases e : j = k
  · subst e
    rcases hk with h0 | h0
    · omega
    · exact h0
  · exact u.o j h1 h2 e h3, u.g⟩
theorem HP.Down.full {h : HP} {k : Nat} (u : h.Down k) (hk : ∀ j, 0 < j → j < h.n → (j - 1) / 2 = k → h.le k j) : h.Full := ⟨u.c, fun j h1 h2 => by
  by_cases e : (j - 1) / 2 = k
  · rw [e]; exact hk j h1 h2 e
  · exact u.o j h1 h2 e⟩
/-- One step up. -/
theorem HP.Hole.step {h : HP} {k : Nat} (u : h.Hole k) (hk : 0 < k) (hn : k < h.n) (hlt : ltI (h.f k) (h.f ((k - 1) / 2))) : (h.swap ((k - 1) / 2) k).UpI ((k - 1) / 2) := by
  have hp : (k - 1) / 2 < k := by omega
  generalize hpe : (k - 1) / 2 = p at *
  refine ⟨u.c.swap (by omega) hn, fun j h1 h2 h3 => ?_, fun j h1 h2 h3 h4 => ?_⟩
  · have h2 : j < h.n := h2
    unfold HP.le
    rw [h.swap_f, h.swap_f]
    by_cases e1 : j = k
    · rw [e1, hpe, if_pos rfl, if_neg (show ¬ p = k by omega), if_pos rfl]
      exact ltI_asymm hlt
    · by_cases e2 : (j - 1) / 2 = k
      · rw [e2, if_neg e1, if_pos rfl, if_neg h3]
        have := u.g j h1 h2 e2 hk
        rw [hpe] at this
        exact this
      · by_cases e3 : (j - 1) / 2 = p
        · rw [e3, if_neg e1, if_neg h3, if_neg (show ¬ p = k by omega), if_pos rfl]
          have := u.o j h1 h2 e1 e2
          rw [e3] at this
          exact not_ltI_trans (ltI_asymm hlt) this
        · rw [if_neg e1, if_neg h3, if_neg e2, if_neg e3]
          exact u.o j h1 h2 e1 e2
  · have h2 : j < h.n := h2
    have hpp : (p - 1) / 2 < p := by omega
    have hop := u.o p h4 (by omega) (by omega) (by omega)
    unfold HP.le
    rw [h.swap_f, h.swap_f, if_neg (show ¬ (p - 1) / 2 = k by omega), if_neg (show ¬ (p - 1) / 2 = p by omega)]
    by_cases e1 : j = k
    · rw [if_pos e1]
      exact hop
    · rw [if_neg e1, if_neg (show ¬ j = p by omega)]
      have := u.o j h1 h2 e1 (by omega)
      rw [h3] at this
      exact not_ltI_trans hop this
theorem HP.UpI.hole {h : HP} {k : Nat} (u : h.UpI k) : h.Hole k := ⟨u.c, fun j h1 h2 h3 _ => u.o j h1 h2 h3, u.g⟩
/-- One step down: c is the lesser child. -/
theorem HP.Down.step {h : HP} {k c : Nat} (u : h.Down k) (hc : (c - 1) / 2 = k) (h0 : 0 < c) (hn : c < h.n) (hlt : ltI (h.f c) (h.f k)) (hmin : ∀ j, 0 < j → j < h.n → (j - 1) / 2 = k → h.le c j) : (h.swap k c).Down c := by
  have hkc : k < c := by omega
  refine ⟨u.c.swap (by omega) hn, fun j h1 h2 h3 => ?_, fun j h1 h2 h3 h4 => ?_⟩
  · have h2 : j < h.n := h2
    unfold HP.le
    rw [h.swap_f, h.swap_f, if_neg h3]
    by_cases e1 : j = c
    · rw [e1, hc, if_pos rfl, if_pos rfl]
      exact ltI_asymm hlt
    · rw [if_neg e1]
      by_cases e2 : j = k
      · rw [if_pos e2, e2, if_neg (show ¬ (k - 1) / 2 = k by omega)]
        exact u.g c h0 hn hc (by omega)
      · rw [if_neg e2]
        by_cases e3 : (j - 1) / 2 = k
        · rw [if_pos e3]
          exact hmin j h1 h2 e3
        · rw [if_neg e3]
          exact u.o j h1 h2 e3
  · have h2 : j < h.n := h2
    unfold HP.le
    rw [h.swap_f, h.swap_f, hc, if_neg (show ¬ k = c by omega), if_pos rfl, if_neg (show ¬ j = c by omega), if_neg (show ¬ j = k by omega)]
    have := u.o j h1 h2 (by omega)
    rw [h3] at this
    exact this
end Go.Proofs.Ytnicidiocncjdaa
