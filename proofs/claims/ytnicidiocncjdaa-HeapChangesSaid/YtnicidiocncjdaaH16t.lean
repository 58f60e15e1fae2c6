import Derived.Test.YtnicidiocncjdaaH15
open Go Go.Sx Go.Proofs
set_option maxRecDepth 100000
namespace Go.Proofs.Ytnicidiocncjdaa
open Go.RowKit Go.Sort

def HP.Is (h : HP) (n : Nat) (m : Int → Option Int) : Prop := h.Full ∧ h.n = n ∧ ∀ j, h.M j = m j
def tA (x : KS) (i : Nat) (j : Int) : Option Int := if 0 ≤ j ∧ j < (i : Nat) then some (x.f j.toNat) else none
def tB (x : KS) (a : Nat) (q : Int) (i : Nat) (j : Int) : Option Int := if j = (a : Nat) ∧ a < i then some q else tA x i j
def tC (x : KS) (a : Nat) (i : Nat) (j : Int) : Option Int := if j = (a : Nat) then none else tA x i j
def cN (a i : Nat) : Nat := if a < i then i - 1 else i
theorem tA_none (x : KS) (u : Nat) : tA x u (u : Nat) = none := if_neg (by omega)
theorem tA_succ (x : KS) (u : Nat) (j : Int) : tA x (u + 1) j = if j = (u : Nat) then some (x.f u) else tA x u j := by
  unfold tA
  by_cases e : j = (u : Nat)
  · rw [if_pos e, if_pos (by omega), e, Int.toNat_natCast]
  · rw [if_neg e]
    by_cases h : 0 ≤ j ∧ j < (u : Nat)
    · rw [if_pos h, if_pos (by omega)]
    · rw [if_neg h, if_neg (by omega)]
theorem tB_none (x : KS) (a : Nat) (q : Int) (u : Nat) : tB x a q u (u : Nat) = none := by
  unfold tB
  rw [if_neg (by omega)]
  exact tA_none x u
theorem tB_succ (x : KS) (a : Nat) (q : Int) (u : Nat) (j : Int) : tB x a q (u + 1) j = if j = (u : Nat) then some (if u = a then q else x.f u) else tB x a q u j := by
  unfold tB
  by_cases e : j = (u : Nat)
  · rw [if_pos e]
    by_cases e2 : u = a
    · rw [if_pos (by omega), if_pos e2]
    · rw [if_neg (by omega), if_neg e2, tA_succ, if_pos e]
  · rw [if_neg e, tA_succ, if_neg e]
    by_cases h : j = (a : Nat) ∧ a < u
    · rw [if_pos h, if_pos (by omega)]
    · rw [if_neg h, if_neg (by omega)]
theorem tC_none (x : KS) (a u : Nat) : tC x a u (u : Nat) = none := by
  unfold tC
  split
  · rfl
  · exact tA_none x u
theorem tC_succ (x : KS) {a u : Nat} (h : u ≠ a) (j : Int) : tC x a (u + 1) j = if j = (u : Nat) then some (x.f u) else tC x a u j := by
  unfold tC
  rw [tA_succ]
  by_cases e : j = (u : Nat)
  · rw [if_pos e, if_neg (by omega)]
    rw [if_pos e]
  · rw [if_neg e, if_neg e]
theorem tC_same (x : KS) (a : Nat) (j : Int) : tC x a (a + 1) j = tC x a a j := by
  unfold tC
  rw [tA_succ]
  by_cases e : j = (a : Nat)
  · rw [if_pos e, if_pos e]
  · rw [if_neg e, if_neg e, if_neg e]
theorem tC_one (x : KS) (j : Int) : tC x 0 1 j = none := by
  rw [tC_same]
  unfold tC tA
  split
  · rfl
  · rw [if_neg (by omega)]
theorem HP.Is.same {h _ : HP} {n : Nat} {m m' : Int → Option Int} (h1 : h.Is n m) (e : ∀ j, m' j = m j) : h.Is n m' := ⟨h1.1, h1.2.1, fun j => (h1.2.2 j).trans (e j).symm⟩
/-- Two sorted lists of one table are one. -/
theorem srt_uniq {h h' : HP} {g g' : Nat → It} (hc : h.Cons) (hc' : h'.Cons) (hn : h.n = h'.n) (hm : ∀ j, h.M j = h'.M j) (hs : Srt h.n h.f g) (hs' : Srt h'.n h'.f g') : ∀ j, j < h.n → g j = g' j := by
  obtain ⟨a1, a2, a3⟩ := srt_spec hc hs
  obtain ⟨b1, b2, b3⟩ := srt_spec hc' hs'
  intro j
  induction j using Nat.strongRecOn with
  | ind j ih =>
    intro hj
    obtain ⟨k, hk, ek⟩ := b3 (g j).1 (g j).2 (by rw [← hm]; exact a1 j hj)
    obtain ⟨l, hl, el⟩ := a3 (g' j).1 (g' j).2 (by rw [hm]; exact b1 j (by omega))
    have ek : g' k = g j := ek
    have el : g l = g' j := el
    have kj : ¬ k < j := fun h => by
      have := ih k h (by omega)
      have h2 := a2 k j h hj
      rw [this, ek] at h2
      exact ltI_asymm h2 h2
    have lj : ¬ l < j := fun h => by
      have := ih l h (by omega)
      have h2 := b2 l j h (by omega)
      rw [← this, el] at h2
      exact ltI_asymm h2 h2
    by_cases e : k = j
    · rw [← ek, e]
    · exfalso
      have h1 := b2 j k (by omega) (by omega)
      rw [ek, ← el] at h1
      by_cases e2 : l = j
      · rw [e2] at h1; exact ltI_asymm h1 h1
      · exact ltI_asymm h1 (a2 j l (by omega) hl)
theorem same_first {h h' : HP} (hf : h.Full) (hf' : h'.Full) (hn : h.n = h'.n) (h0 : ¬ h.n = 0) (hm : ∀ j, h.M j = h'.M j) : h.id 0 = h'.id 0 ∧ h.key 0 = h'.key 0 := by
  have e := hf.c.M_some (k := 0) (by omega)
  have e' := hf'.c.M_some (k := 0) (by omega)
  obtain ⟨k, k1, k2, k3⟩ := hf'.c.M_ex ((hm _).symm.trans e)
  obtain ⟨l, l1, l2, l3⟩ := hf.c.M_ex ((hm _).trans e')
  have a := hf'.first k k1
  have b := hf.first l l1
  unfold HP.le HP.f at a b
  rw [k2, k3] at a
  rw [l2, l3] at b
  have := ltI_total a b
  exact ⟨(congrArg Prod.fst this), (congrArg Prod.snd this)⟩
theorem tA_one (x : KS) (j : Int) : tA x 1 j = if j = ((0 : Nat) : Int) then some (x.f 0) else none := by
  rw [show (1 : Nat) = 0 + 1 from rfl, tA_succ]
  by_cases e : j = ((0 : Nat) : Int)
  · rw [if_pos e, if_pos e]
  · rw [if_neg e, if_neg e]; exact if_neg (by omega)
theorem tB_one (x : KS) (a : Nat) (q : Int) (j : Int) : tB x a q 1 j = if j = ((0 : Nat) : Int) then some (if 0 = a then q else x.f 0) else none := by
  rw [show (1 : Nat) = 0 + 1 from rfl, tB_succ]
  by_cases e : j = ((0 : Nat) : Int)
  · rw [if_pos e, if_pos e]
  · rw [if_neg e, if_neg e]; unfold tB; rw [if_neg (by omega)]; exact if_neg (by omega)
theorem Is_1A {x : KS} {g : HP} (h : g.Full ∧ g.n = 1 ∧ ∀ i, g.M i = if i = ((0 : Nat) : Int) then some (x.f 0) else none) : g.Is 1 (tA x 1) := ⟨h.1, h.2.1, fun j => by rw [h.2.2, tA_one]⟩
theorem Is_1B {x : KS} {a : Nat} {q w : Int} {g : HP} (hw : w = if 0 = a then q else x.f 0) (h : g.Full ∧ g.n = 1 ∧ ∀ i, g.M i = if i = ((0 : Nat) : Int) then some w else none) : g.Is 1 (tB x a q 1) := ⟨h.1, h.2.1, fun j => by rw [h.2.2, tB_one, ← hw]⟩
theorem Is_1C {x : KS} {a : Nat} {g : HP} (ha : 0 ≠ a) (h : g.Full ∧ g.n = 1 ∧ ∀ i, g.M i = if i = ((0 : Nat) : Int) then some (x.f 0) else none) : g.Is (cN a 1) (tC x a 1) := ⟨h.1, h.2.1.trans (by unfold cN; rw [if_neg (by omega)]), fun j => by
  rw [h.2.2, show (1 : Nat) = 0 + 1 from rfl, tC_succ x ha]
  by_cases e : j = ((0 : Nat) : Int)
  · rw [if_pos e, if_pos e]
  · rw [if_neg e, if_neg e]; unfold tC tA; split
    · rfl
    · exact (if_neg (by omega)).symm⟩
theorem Is_pA {x : KS} {u : Nat} {h g : HP} (hh : h.Is u (tA x u)) (k : g.Full ∧ g.n = h.n + 1 ∧ ∀ i, g.M i = if i = (u : Int) then some (x.f u) else h.M i) : g.Is (u + 1) (tA x (u + 1)) := ⟨k.1, by rw [k.2.1, hh.2.1], fun j => by rw [k.2.2, tA_succ, hh.2.2]⟩
theorem Is_pB {x : KS} {a u : Nat} {q w : Int} {h g : HP} (hw : w = if u = a then q else x.f u) (hh : h.Is u (tB x a q u)) (k : g.Full ∧ g.n = h.n + 1 ∧ ∀ i, g.M i = if i = (u : Int) then some w else h.M i) : g.Is (u + 1) (tB x a q (u + 1)) := ⟨k.1, by rw [k.2.1, hh.2.1], fun j => by rw [k.2.2, tB_succ, hh.2.2, ← hw]⟩
theorem Is_pC {x : KS} {a u : Nat} {h g : HP} (hn : u ≠ a) (hh : h.Is (cN a u) (tC x a u)) (k : g.Full ∧ g.n = h.n + 1 ∧ ∀ i, g.M i = if i = (u : Int) then some (x.f u) else h.M i) : g.Is (cN a (u + 1)) (tC x a (u + 1)) := ⟨k.1, by rw [k.2.1, hh.2.1]; unfold cN; split <;> split <;> omega, fun j => by rw [k.2.2, tC_succ x hn, hh.2.2]⟩
theorem Is_sC {x : KS} {a u : Nat} {h : HP} (hn : u = a) (hh : h.Is (cN a u) (tC x a u)) : h.Is (cN a (u + 1)) (tC x a (u + 1)) := ⟨hh.1, by rw [hh.2.1]; unfold cN; split <;> split <;> omega, fun j => by subst hn; rw [hh.2.2, tC_same]⟩
theorem Is_zC {x : KS} {g : HP} (k : g.Full ∧ g.n = 1 ∧ ∀ i, g.M i = if i = ((1 : Nat) : Int) then some (x.f 1) else none) : g.Is (cN 0 2) (tC x 0 2) := ⟨k.1, k.2.1, fun j => by rw [k.2.2, show (2 : Nat) = 1 + 1 from rfl, tC_succ x (by omega), tC_one]⟩
theorem eqM (h : HP) : (h.n = h.n ∧ h.cap = h.cap) ∧ ∀ j, j < 64 → h.at_ j = h.at_ j := ⟨⟨rfl, rfl⟩, fun _ _ => rfl⟩
theorem eqR (h : HP) : h.cap * 2 ≤ h.cap * 2 ∧ h.n ≤ h.n ∧ ∀ j, j < h.n → h.id j = h.id j ∧ h.key j = h.key j := ⟨Nat.le_refl _, Nat.le_refl _, fun _ _ => ⟨rfl, rfl⟩⟩
theorem eqR' {h g : HP} (e : h.cap = g.cap) : h.cap * 2 ≤ g.cap * 2 ∧ h.n ≤ h.n ∧ ∀ j, j < h.n → h.id j = h.id j ∧ h.key j = h.key j := ⟨by rw [e]; exact Nat.le_refl _, Nat.le_refl _, fun _ _ => ⟨rfl, rfl⟩⟩
theorem Is_chg {x : KS} {a : Nat} {q : Int} {h g : HP} (ha : a < x.len) (hh : h.Is x.len (tA x x.len)) (k : g.Full ∧ (g.n = h.n ∧ g.cap = h.cap) ∧ ∀ i, g.M i = if i = (a : Int) then some q else h.M i) : g.Is x.len (tB x a q x.len) := ⟨k.1, by rw [k.2.1.1, hh.2.1], fun j => by
  rw [k.2.2, hh.2.2]; unfold tB
  by_cases e : j = (a : Int)
  · rw [if_pos e, if_pos ⟨e, ha⟩]
  · rw [if_neg e, if_neg (fun h => e h.1)]⟩
theorem Is_rem {x : KS} {a : Nat} {h g : HP} (hh : h.Is x.len (tA x x.len)) (k : g.Full ∧ (g.n = h.n - 1 ∧ g.cap = h.cap) ∧ ∀ i, g.M i = if i = (a : Int) then none else h.M i) : g.Is (x.len - 1) (tC x a x.len) := ⟨k.1, by rw [k.2.1.1, hh.2.1], fun j => by
  rw [k.2.2, hh.2.2]; rfl⟩
theorem Is_has {x : KS} {a : Nat} {h : HP} (ha : a < x.len) (hh : h.Is x.len (tA x x.len)) : ¬ h.M (a : Nat) = none := fun e => by
  rw [hh.2.2] at e
  unfold tA at e
  rw [if_pos (by omega)] at e
  cases e
theorem same_T {h g : HP} {n : Nat} {m : Int → Option Int} (hh : h.Is n m) (hg : g.Is n m) {s t : (Nat → It) × Nat} (h1 : Srt h.n h.f s.1) (h2 : Srt g.n g.f t.1) : sameB h.n (fun j => (s.1 j).1) (fun j => (t.1 j).1) = true := by
  have := srt_uniq hh.1.c hg.1.c (hh.2.1.trans hg.2.1.symm) (fun j => (hh.2.2 j).trans (hg.2.2 j).symm) h1 h2
  unfold sameB
  exact decide_eq_true fun j hj => congrArg Prod.fst (this j hj)
end Go.Proofs.Ytnicidiocncjdaa
