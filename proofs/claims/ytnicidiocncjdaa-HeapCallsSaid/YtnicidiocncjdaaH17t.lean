import Derived.Test.YtnicidiocncjdaaH10
open Go Go.Sx Go.Proofs
set_option maxRecDepth 100000
namespace Go.Proofs.Ytnicidiocncjdaa
open Go.RowKit Go.Sort

theorem ltI_trans {x y z : It} (h : ltI x y) (h2 : ltI y z) : ltI x z := by
  unfold ltI at *
  omega
/-- The document's heap, where it has a row. -/
structure DP where
  n : Nat
  cap : Nat
  f : Nat → It
def ixF (f : Nat → It) (id : Int) : Nat → Nat → Int
  | _, 0 => -1
  | i, m + 1 => if (f i).1 = id then i else ixF f id (i + 1) m
theorem ixF_spec (f : Nat → It) (id : Int) : ∀ m i, (ixF f id i m = -1 ∧ ∀ j, i ≤ j → j < i + m → (f j).1 ≠ id) ∨ ∃ k : Nat, i ≤ k ∧ k < i + m ∧ ixF f id i m = k ∧ (f k).1 = id
  | 0, i => .inl ⟨rfl, fun j h1 h2 => by omega⟩
  | m + 1, i => by
    by_cases e : (f i).1 = id
    · exact .inr ⟨i, Nat.le_refl _, by omega, if_pos e, e⟩
    · have e2 : ixF f id i (m + 1) = ixF f id (i + 1) m := if_neg e
      rw [e2]
      rcases ixF_spec f id m (i + 1) with ⟨h1, h2⟩ | ⟨k, h1, h2, h3, h4⟩
      · refine .inl ⟨h1, fun j a b => ?_⟩
        by_cases e3 : j = i
        · rw [e3]; exact e
        · exact h2 j (by omega) (by omega)
      · exact .inr ⟨k, by omega, by omega, h3, h4⟩
def DP.ix (d : DP) (i : Int) : Int := ixF d.f i 0 d.n
def DP.M (d : DP) (i : Int) : Option Int := if d.ix i < 0 then none else some (d.f (d.ix i).toNat).2
def DP.Is (d : DP) (m : Int → Option Int) : Prop := (∀ j k, j < k → k < d.n → ltI (d.f j) (d.f k)) ∧ ∀ i q, m i = some q ↔ ∃ k, k < d.n ∧ d.f k = (i, q)
def DP.Ok (d : DP) : Prop := d.n ≤ d.cap ∧ d.Is d.M
theorem DP.Is.eq {d : DP} {m m' : Int → Option Int} (h : d.Is m) (e : ∀ i, m' i = m i) : d.Is m' := ⟨h.1, fun i q => by rw [e]; exact h.2 i q⟩
theorem DP.ix_spec (d : DP) (i : Int) : (d.ix i = -1 ∧ ∀ j, j < d.n → (d.f j).1 ≠ i) ∨ ∃ k : Nat, k < d.n ∧ d.ix i = k ∧ (d.f k).1 = i := by
  rcases ixF_spec d.f i d.n 0 with ⟨h1, h2⟩ | ⟨k, h1, h2, h3, h4⟩
  · exact .inl ⟨h1, fun j hj => h2 j (Nat.zero_le _) (by omega)⟩
  · exact .inr ⟨k, by omega, h3, h4⟩
theorem DP.Is.M {d : DP} {m : Int → Option Int} (h : d.Is m) (i : Int) : d.M i = m i := by
  rcases d.ix_spec i with ⟨h1, h2⟩ | ⟨k, h1, h2, h3⟩
  · have e : d.M i = none := if_pos (by omega)
    rw [e]
    cases e2 : m i with
    | none => rfl
    | some q =>
      obtain ⟨k, k1, k2⟩ := (h.2 i q).1 e2
      exact absurd (congrArg Prod.fst k2) (h2 k k1)
  · have e : d.M i = some (d.f (d.ix i).toNat).2 := if_neg (by omega)
    rw [e, h2, Int.toNat_natCast]
    exact ((h.2 i _).2 ⟨k, h1, Prod.ext h3 rfl⟩).symm
theorem DP.Is.ok {d : DP} {m : Int → Option Int} (h : d.Is m) (hc : d.n ≤ d.cap) : d.Ok := ⟨hc, h.eq h.M⟩
theorem DP.M_none {d : DP} {i : Int} : d.M i = none ↔ d.ix i < 0 := by
  unfold DP.M
  by_cases h : d.ix i < 0
  · rw [if_pos h]; exact ⟨fun _ => h, fun _ => rfl⟩
  · rw [if_neg h]; exact ⟨nofun, fun h2 => absurd h2 h⟩
theorem DP.M_no {d : DP} {i : Int} (h : d.M i = none) (j : Nat) (hj : j < d.n) : (d.f j).1 ≠ i := by
  rcases d.ix_spec i with ⟨h1, h2⟩ | ⟨k, h1, h2, h3⟩
  · exact h2 j hj
  · have := DP.M_none.1 h; omega
theorem DP.M_ix {d : DP} {i : Int} (h : ¬ d.M i = none) : ∃ k : Nat, k < d.n ∧ d.ix i = k ∧ (d.f k).1 = i := by
  rcases d.ix_spec i with ⟨h1, h2⟩ | h
  · exact absurd (DP.M_none.2 (by omega)) h
  · exact h
theorem DP.Is.inj {d : DP} {m : Int → Option Int} (h : d.Is m) {j k : Nat} (hj : j < d.n) (hk : k < d.n) (e : (d.f j).1 = (d.f k).1) : j = k := by
  have h1 := (h.2 (d.f j).1 (d.f j).2).2 ⟨j, hj, rfl⟩
  have h2 := (h.2 (d.f k).1 (d.f k).2).2 ⟨k, hk, rfl⟩
  rw [e, h2] at h1
  have e2 : d.f j = d.f k := Prod.ext e (Option.some.inj h1).symm
  rcases Nat.lt_trichotomy j k with h3 | h3 | h3
  · have := h.1 j k h3 hk
    rw [e2] at this
    exact absurd this (fun h => ltI_asymm h h)
  · exact h3
  · have := h.1 k j h3 hj
    rw [e2] at this
    exact absurd this (fun h => ltI_asymm h h)
def DP.rem (h : DP) (k : Nat) : DP := ⟨h.n - 1, h.cap, fun j => if j < k then h.f j else h.f (j + 1)⟩
theorem DP.rem_is {d : DP} {m : Int → Option Int} (h : d.Is m) {k : Nat} (hk : k < d.n) : (d.rem k).Is (fun i => if i = (d.f k).1 then none else m i) := by
  refine ⟨fun j l hjl hl => ?_, fun i q => ?_⟩
  · have hl : l < d.n - 1 := hl
    show ltI (if j < k then d.f j else d.f (j + 1)) (if l < k then d.f l else d.f (l + 1))
    split <;> split
    · exact h.1 _ _ hjl (by omega)
    · exact h.1 _ _ (by omega) (by omega)
    · omega
    · exact h.1 _ _ (by omega) (by omega)
  · dsimp only
    by_cases e : i = (d.f k).1
    · rw [if_pos e]
      refine ⟨nofun, ?_⟩
      rintro ⟨l, hl, el⟩
      have hl : l < d.n - 1 := hl
      have el : (if l < k then d.f l else d.f (l + 1)) = (i, q) := el
      split at el
      · have := h.inj (show l < d.n by omega) hk ((congrArg Prod.fst el).trans e)
        omega
      · have := h.inj (show l + 1 < d.n by omega) hk ((congrArg Prod.fst el).trans e)
        omega
    · rw [if_neg e, h.2]
      constructor
      · rintro ⟨l, hl, el⟩
        by_cases e2 : l < k
        · exact ⟨l, (show l < d.n - 1 by omega), (show (if l < k then d.f l else d.f (l + 1)) = _ by rw [if_pos e2]; exact el)⟩
        · by_cases e3 : l = k
          · rw [e3] at el; exact absurd (congrArg Prod.fst el).symm e
          · exact ⟨l - 1, (show l - 1 < d.n - 1 by omega), (show (if l - 1 < k then d.f (l - 1) else d.f (l - 1 + 1)) = _ by rw [if_neg (by omega), show l - 1 + 1 = l by omega]; exact el)⟩
      · rintro ⟨l, hl, el⟩
        have hl : l < d.n - 1 := hl
        have el : (if l < k then d.f l else d.f (l + 1)) = (i, q) := el
        split at el
        · exact ⟨l, by omega, el⟩
        · exact ⟨l + 1, by omega, el⟩
def DP.ins (h : DP) (k : Nat) (x : It) (c : Nat) : DP := ⟨h.n + 1, c, fun j => if j < k then h.f j else if j = k then x else h.f (j - 1)⟩
theorem DP.ins_is {d : DP} {m : Int → Option Int} (h : d.Is m) {k c : Nat} {x : It} (hk : k ≤ d.n) (hx : m x.1 = none) (h1 : ∀ j, j < k → ltI (d.f j) x) (h2 : k < d.n → ¬ ltI (d.f k) x) :
    (d.ins k x c).Is (fun i => if i = x.1 then some x.2 else m i) := by
  have hne : ∀ j, j < d.n → (d.f j).1 ≠ x.1 := fun j hj e => by
    have := (h.2 (d.f j).1 (d.f j).2).2 ⟨j, hj, rfl⟩
    rw [e, hx] at this
    cases this
  have h3 : ∀ j, k ≤ j → j < d.n → ltI x (d.f j) := fun j hj hn => by
    have a : ltI x (d.f k) := Decidable.byContradiction fun hh => hne k (by omega) (congrArg Prod.fst (ltI_total (h2 (by omega)) hh))
    by_cases e : j = k
    · rw [e]; exact a
    · exact ltI_trans a (h.1 k j (by omega) hn)
  refine ⟨fun j l hjl hl => ?_, fun i q => ?_⟩
  · have hl : l < d.n + 1 := hl
    show ltI (if j < k then d.f j else if j = k then x else d.f (j - 1)) (if l < k then d.f l else if l = k then x else d.f (l - 1))
    by_cases a : j < k
    · rw [if_pos a]
      by_cases b : l < k
      · rw [if_pos b]; exact h.1 _ _ hjl (by omega)
      · rw [if_neg b]
        by_cases b2 : l = k
        · rw [if_pos b2]; exact h1 _ a
        · rw [if_neg b2]; exact h.1 _ _ (by omega) (by omega)
    · rw [if_neg a, if_neg (by omega : ¬ l < k), if_neg (by omega : ¬ l = k)]
      by_cases b : j = k
      · rw [if_pos b]; exact h3 _ (by omega) (by omega)
      · rw [if_neg b]; exact h.1 _ _ (by omega) (by omega)
  · dsimp only
    have key : ∀ l, (if l < k then d.f l else if l = k then x else d.f (l - 1)) = (i, q) → l < d.n + 1 → (l = k ∧ x = (i, q)) ∨ ∃ l', l' < d.n ∧ d.f l' = (i, q) := fun l el hl => by
      by_cases a : l < k
      · rw [if_pos a] at el; exact .inr ⟨l, by omega, el⟩
      · rw [if_neg a] at el
        by_cases b : l = k
        · rw [if_pos b] at el; exact .inl ⟨b, el⟩
        · rw [if_neg b] at el; exact .inr ⟨l - 1, by omega, el⟩
    by_cases e : i = x.1
    · rw [if_pos e]
      constructor
      · intro hq
        refine ⟨k, (show k < d.n + 1 by omega), ?_⟩
        show (if k < k then d.f k else if k = k then x else d.f (k - 1)) = _
        rw [if_neg (by omega), if_pos rfl]
        exact Prod.ext e.symm (Option.some.inj hq)
      · rintro ⟨l, hl, el⟩
        rcases key l el hl with ⟨_, e2⟩ | ⟨l', h4, h5⟩
        · rw [e2]
        · exact absurd ((congrArg Prod.fst h5).trans e) (hne l' h4)
    · rw [if_neg e, h.2]
      constructor
      · rintro ⟨l, hl, el⟩
        by_cases a : l < k
        · exact ⟨l, (show l < d.n + 1 by omega), (show (if l < k then d.f l else if l = k then x else d.f (l - 1)) = _ by rw [if_pos a]; exact el)⟩
        · exact ⟨l + 1, (show l + 1 < d.n + 1 by omega), (show (if l + 1 < k then d.f (l + 1) else if l + 1 = k then x else d.f (l + 1 - 1)) = _ by rw [if_neg (by omega), if_neg (by omega), Nat.add_sub_cancel]; exact el)⟩
      · rintro ⟨l, hl, el⟩
        rcases key l el hl with ⟨_, e2⟩ | h4
        · exact absurd (congrArg Prod.fst e2).symm e
        · exact h4
def DP.one (n q : Int) (c : Nat) : DP := ⟨1, c, fun _ => (n, q)⟩
theorem DP.one_is (n q : Int) (c : Nat) : (DP.one n q c).Is (fun i => if i = n then some q else none) := by
  refine ⟨fun j k h1 h2 => by (have h2 : k < 1 := h2); omega, fun i r => ?_⟩
  dsimp only
  by_cases e : i = n
  · rw [if_pos e]
    exact ⟨fun h => ⟨0, Nat.zero_lt_one, Prod.ext e.symm (Option.some.inj h)⟩, fun ⟨k, _, h⟩ => congrArg some (congrArg Prod.snd h)⟩
  · rw [if_neg e]
    exact ⟨nofun, fun ⟨k, _, h⟩ => absurd (congrArg Prod.fst h).symm e⟩
theorem DP.eta (d : DP) : (⟨d.n, d.cap, fun j => ((d.f j).1, (d.f j).2)⟩ : DP) = d := rfl
theorem eqD (g : DP) : (g.n = g.n ∧ g.cap = g.cap) ∧ g.cap * 2 ≤ g.cap * 2 ∧ g.n ≤ g.n ∧ ∀ j, j < g.n → (g.f j).1 = (g.f j).1 ∧ (g.f j).2 = (g.f j).2 := ⟨⟨rfl, rfl⟩, Nat.le_refl _, Nat.le_refl _, fun _ _ => ⟨rfl, rfl⟩⟩
theorem eqD' {g d : DP} (e : g.cap = d.cap) : (g.n = g.n ∧ g.cap = g.cap) ∧ g.cap * 2 ≤ d.cap * 2 ∧ g.n ≤ g.n ∧ ∀ j, j < g.n → (g.f j).1 = (g.f j).1 ∧ (g.f j).2 = (g.f j).2 := ⟨⟨rfl, rfl⟩, by rw [e]; exact Nat.le_refl _, Nat.le_refl _, fun _ _ => ⟨rfl, rfl⟩⟩
theorem eqM (h : HP) : (h.n = h.n ∧ h.cap = h.cap) ∧ ∀ j, j < 64 → h.at_ j = h.at_ j := ⟨⟨rfl, rfl⟩, fun _ _ => rfl⟩
theorem eqR (h : HP) : h.cap * 2 ≤ h.cap * 2 ∧ h.n ≤ h.n ∧ ∀ j, j < h.n → h.id j = h.id j ∧ h.key j = h.key j := ⟨Nat.le_refl _, Nat.le_refl _, fun _ _ => ⟨rfl, rfl⟩⟩
theorem eqR' {h g : HP} (e : h.cap = g.cap) : h.cap * 2 ≤ g.cap * 2 ∧ h.n ≤ h.n ∧ ∀ j, j < h.n → h.id j = h.id j ∧ h.key j = h.key j := ⟨by rw [e]; exact Nat.le_refl _, Nat.le_refl _, fun _ _ => ⟨rfl, rfl⟩⟩
/-- Two sorted rows of one table are one. -/
theorem sorted_uniq {n : Nat} {g g' : Nat → It} {m : Int → Option Int} (a1 : ∀ j, j < n → m (g j).1 = some (g j).2) (a2 : ∀ i j, i < j → j < n → ltI (g i) (g j)) (a3 : ∀ i q, m i = some q → ∃ j, j < n ∧ g j = (i, q))
    (b1 : ∀ j, j < n → m (g' j).1 = some (g' j).2) (b2 : ∀ i j, i < j → j < n → ltI (g' i) (g' j)) (b3 : ∀ i q, m i = some q → ∃ j, j < n ∧ g' j = (i, q)) : ∀ j, j < n → g j = g' j := by
  intro j
  induction j using Nat.strongRecOn with
  | ind j ih =>
    intro hj
    obtain ⟨k, hk, ek⟩ := b3 (g j).1 (g j).2 (a1 j hj)
    obtain ⟨l, hl, el⟩ := a3 (g' j).1 (g' j).2 (b1 j (by omega))
    have ek : g' k = g j := ek
    have el : g l = g' j := el
    have kj : ¬ k < j := fun h => by
      have := ih k h (by omega)
      have h2 := a2 k j h hj
      rw [this, ek] at h2
      exact ltI_asymm h2 h2
    have lj : ¬ l < j := fun h => by
      have := ih l h (by omega)
      have h2 := b2 l j h (by omega)
      rw [← this, el] at h2
      exact ltI_asymm h2 h2
    by_cases e : k = j
    · rw [← ek, e]
    · exfalso
      have h1 := b2 j k (by omega) (by omega)
      rw [ek, ← el] at h1
      by_cases e2 : l = j
      · rw [e2] at h1; exact ltI_asymm h1 h1
      · exact ltI_asymm h1 (a2 j l (by omega) hl)
/-- The heap and the document's are one table. -/
def Both (h : HP) (d : DP) : Prop := h.Full ∧ d.Ok ∧ h.n = d.n ∧ ∀ j, h.M j = d.M j
theorem DP.Is.at {d : DP} {m : Int → Option Int} (h : d.Is m) {j : Nat} (hj : j < d.n) : m (d.f j).1 = some (d.f j).2 := (h.2 _ _).2 ⟨j, hj, rfl⟩
theorem Both.list {h : HP} {d : DP} (b : Both h d) {s : Nat → It} (hs : Srt h.n h.f s) : ∀ j, j < d.n → s j = d.f j := by
  obtain ⟨a1, a2, a3⟩ := srt_spec b.1.c hs
  have hn := b.2.2.1
  have hI : d.Is h.M := b.2.1.2.eq b.2.2.2
  rw [hn] at a1 a2 a3
  exact sorted_uniq a1 a2 a3 (fun j hj => hI.at hj) hI.1 (fun i q hq => (hI.2 i q).1 hq)
theorem Both.first {h : HP} {d : DP} (b : Both h d) (h0 : ¬ h.n = 0) : d.f 0 = (h.id 0, h.key 0) := by
  have hI : d.Is h.M := b.2.1.2.eq b.2.2.2
  have hn := b.2.2.1
  obtain ⟨k, k1, k2⟩ := (hI.2 _ _).1 (b.1.c.M_some (k := 0) (by omega))
  by_cases e : k = 0
  · rw [e] at k2; exact k2
  · exfalso
    have h1 := hI.1 0 k (by omega) k1
    rw [k2] at h1
    obtain ⟨l, l1, l2, l3⟩ := b.1.c.M_ex (hI.at (show 0 < d.n by omega))
    have h2 := b.1.first l l1
    unfold HP.le HP.f at h2
    rw [l2, l3] at h2
    exact h2 h1
end Go.Proofs.Ytnicidiocncjdaa
