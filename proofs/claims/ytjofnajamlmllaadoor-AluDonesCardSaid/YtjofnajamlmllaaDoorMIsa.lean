import Derived.Test.YtjofnajamlmllaaDoorMNum
import Derived.Lib.AtoiAll
import Derived.Lib.ItoaMem
import Derived.Lib.Join
import Derived.Lib.SplitLaws
import Derived.Lib.Strings
namespace Go.Isa
open Go.Lib

/-! ## Pieces of a row of bytes -/
def pieces (c : UInt8) : List UInt8 → List (List UInt8)
  | [] => [[]]
  | b :: l => if b = c then [] :: pieces c l else match pieces c l with
    | p :: ps => (b :: p) :: ps
    | [] => [[b]]
theorem pieces_ne (c : UInt8) (l : List UInt8) : pieces c l ≠ [] := by
  cases l with
  | nil => simp [pieces]
  | cons b l =>
    simp only [pieces]
    split
    · simp
    · split <;> simp
theorem pieces_none {c : UInt8} : ∀ {l : List UInt8}, indexByte l c = -1 → pieces c l = [l]
  | [], _ => rfl
  | b :: l, h => by
    simp only [indexByte] at h
    split at h
    · cases h
    · rename_i hb
      have hl : indexByte l c = -1 := by
        split at h
        · rename_i e; exact beq_iff_eq.1 e
        · have := indexByte_ge l c; omega
      have hb' : ¬ b = c := fun e => hb (beq_iff_eq.2 e)
      simp only [pieces, if_neg hb', pieces_none hl]
theorem pieces_hit {c : UInt8} : ∀ {l : List UInt8} {i : Nat}, indexByte l c = i → pieces c l = l.take i :: pieces c (l.drop (i + 1))
  | [], i, h => by simp only [indexByte] at h; omega
  | b :: l, i, h => by
    simp only [indexByte] at h
    split at h
    · rename_i hb
      have hb' : b = c := beq_iff_eq.1 hb
      have hi : i = 0 := by omega
      subst hi
      simp [pieces, hb']
    · rename_i hb
      have hb' : ¬ b = c := fun e => hb (beq_iff_eq.2 e)
      have hge := indexByte_ge l c
      split at h
      · omega
      · rename_i hn
        have hn' : ¬ indexByte l c = -1 := fun e => hn (beq_iff_eq.2 e)
        obtain ⟨j, hj⟩ : ∃ j : Nat, indexByte l c = j := ⟨(indexByte l c).toNat, by omega⟩
        have hi : i = j + 1 := by omega
        subst hi
        simp only [pieces, if_neg hb', pieces_hit hj, List.take_succ_cons, List.drop_succ_cons]
theorem splitK_pieces (c : UInt8) : ∀ (k : Nat) (l : List UInt8), l.count c ≤ k → splitK [c] 0 k l = pieces c l
  | 0, l, h => by
    have : indexByte l c = -1 := by
      by_cases h1 : indexByte l c < 0
      · have := indexByte_ge l c; omega
      · obtain ⟨i, hi⟩ : ∃ i : Nat, indexByte l c = i := ⟨(indexByte l c).toNat, by omega⟩
        have h2 := (indexByte_some hi).1
        have h3 : c ∈ l := List.mem_of_getElem? h2
        have h4 := List.count_pos_iff.2 h3
        omega
    rw [pieces_none this]
    rfl
  | k + 1, l, h => by
    unfold splitK
    rw [index_one]
    split
    · rename_i e
      exact (pieces_none (beq_iff_eq.1 e)).symm
    · rename_i e
      have hge := indexByte_ge l c
      have e' : ¬ indexByte l c = -1 := fun x => e (beq_iff_eq.2 x)
      obtain ⟨i, hi⟩ : ∃ i : Nat, indexByte l c = i := ⟨(indexByte l c).toNat, by omega⟩
      rw [pieces_hit hi, hi]
      have h2 := (indexByte_some hi).1
      have hcut : l.drop i = c :: l.drop (i + 1) := by
        have hlt : i < l.length := by
          rcases Nat.lt_or_ge i l.length with h | h
          · exact h
          · rw [List.getElem?_eq_none h] at h2; cases h2
        rw [List.drop_eq_getElem_cons hlt]
        rw [List.getElem?_eq_getElem hlt] at h2
        rw [Option.some.inj h2]
      have hc : (l.drop (i + 1)).count c ≤ k := by
        have h3 : l.count c = (l.take i).count c + (l.drop i).count c := by rw [← List.count_append, List.take_append_drop]
        rw [hcut, List.count_cons_self] at h3
        omega
      simp only [Int.toNat_natCast, Nat.add_zero, List.length_singleton]
      rw [splitK_pieces c k _ hc]
theorem split_pieces (c : UInt8) (l : List UInt8) : split l [c] = pieces c l := by
  unfold split
  exact splitK_pieces c _ l (by rw [count_one]; exact Nat.le_refl _)
theorem pieces_free {c : UInt8} {l : List UInt8} (h : c ∉ l) : pieces c l = [l] := by
  induction l with
  | nil => rfl
  | cons b l ih =>
    simp only [List.mem_cons, not_or] at h
    simp only [pieces, if_neg (fun e : b = c => h.1 e.symm), ih h.2]
theorem pieces_app {c : UInt8} {l : List UInt8} (h : c ∉ l) (r : List UInt8) : pieces c (l ++ c :: r) = l :: pieces c r := by
  induction l with
  | nil => simp [pieces]
  | cons b l ih =>
    simp only [List.mem_cons, not_or] at h
    simp only [List.cons_append, pieces, if_neg (fun e : b = c => h.1 e.symm), ih h.2]
theorem pieces_join {c : UInt8} : ∀ {x : List UInt8} {r : List (List UInt8)}, (∀ y ∈ x :: r, c ∉ y) → pieces c (join (x :: r) [c]) = x :: r
  | x, [], h => by rw [join_one]; exact pieces_free (h x (by simp))
  | x, y :: r, h => by
    rw [join_cons]
    have e : x ++ joinTail [c] (y :: r) = x ++ c :: join (y :: r) [c] := by rw [join_cons]; simp [joinTail]
    rw [e, pieces_app (h x (by simp)), pieces_join (fun z hz => h z (List.mem_cons_of_mem _ hz))]

/-! ## Numbers as text -/
theorem decDigits_digit : ∀ (u : Nat), ∀ b ∈ decDigits u, 48 ≤ b.toNat ∧ b.toNat ≤ 57 := by
  intro u
  induction u using Nat.strongRecOn with
  | _ u ih =>
    intro b hb
    rw [decDigits] at hb
    split at hb
    · simp only [List.mem_singleton] at hb
      subst hb
      rw [UInt8.toNat_ofNat']
      omega
    · rcases List.mem_append.1 hb with hb | hb
      · exact ih (u / 10) (by omega) b hb
      · simp only [List.mem_singleton] at hb
        subst hb
        rw [UInt8.toNat_ofNat']
        omega
theorem decDigits_ne (u : Nat) : decDigits u ≠ [] := by
  rw [decDigits]
  split <;> simp
theorem parse_app (a : Nat) : ∀ (l : List UInt8) (acc v : Nat) (b : UInt8), parseUint10 acc l = .ok v → (48 ≤ b.toNat ∧ b.toNat ≤ 57) → v < 1000000000000 → parseUint10 acc (l ++ [b]) = .ok (v * 10 + (b.toNat - 48))
  | [], acc, v, b, h, hb, hv => by
    simp only [parseUint10, NumEnd.ok.injEq] at h
    subst h
    simp only [List.nil_append, parseUint10, if_pos hb]
    rw [if_neg (by omega), if_neg (by omega)]
  | c :: l, acc, v, b, h, hb, hv => by
    simp only [List.cons_append, parseUint10] at h ⊢
    split at h
    · rename_i hc
      rw [if_pos hc]
      split at h
      · cases h
      · rename_i h1
        rw [if_neg h1]
        split at h
        · cases h
        · rename_i h2
          rw [if_neg h2]
          exact parse_app a l _ v b h hb hv
    · cases h
theorem parse_dec : ∀ (u : Nat), u < 1000000000000 → parseUint10 0 (decDigits u) = .ok u := by
  intro u
  induction u using Nat.strongRecOn with
  | _ u ih =>
    intro hu
    rw [decDigits]
    split
    · rename_i h
      have hb : (UInt8.ofNat (48 + u)).toNat = 48 + u := by rw [UInt8.toNat_ofNat']; omega
      simp only [parseUint10, hb]
      rw [if_pos (by omega), if_neg (by omega), if_neg (by omega)]
      congr 1
      omega
    · rename_i h
      have hb : (UInt8.ofNat (48 + u % 10)).toNat = 48 + u % 10 := by rw [UInt8.toNat_ofNat']; omega
      rw [parse_app 0 _ 0 (u / 10) _ (ih (u / 10) (by omega) (by omega)) (by omega) (by omega), hb]
      congr 1
      omega
theorem parseMag_dec (u : Nat) (h : u < 1000000000000) : parseMag (decDigits u) = .ok u := by
  unfold parseMag
  rw [if_neg (decDigits_ne u), parse_dec u h]
theorem decDigits_head (u : Nat) : ∃ b r, decDigits u = b :: r ∧ 48 ≤ b.toNat ∧ b.toNat ≤ 57 := by
  cases h : decDigits u with
  | nil => exact absurd h (decDigits_ne u)
  | cons b r => exact ⟨b, r, rfl, decDigits_digit u b (by rw [h]; simp)⟩
theorem atoi_itoa (n : Int) (h : -100000000000 ≤ n) (h' : n ≤ 100000000000) : atoiAll (itoa n) = .ok n := by
  unfold itoa
  split
  · rename_i hn
    unfold atoiAll
    simp only [show (45 : UInt8).toNat = 45 from rfl, or_true, if_true, true_and, not_true_eq_false, false_and, if_false]
    rw [parseMag_dec _ (by omega)]
    simp only
    rw [if_neg (by omega)]
    congr 1
    omega
  · rename_i hn
    obtain ⟨b, r, e, h1, h2⟩ := decDigits_head n.toNat
    have hp := parseMag_dec n.toNat (by omega)
    rw [e] at hp ⊢
    unfold atoiAll
    have c1 : ¬ (b.toNat = 43 ∨ b.toNat = 45) := by omega
    have c2 : ¬ b.toNat = 45 := by omega
    simp only
    rw [if_neg c1, hp]
    simp only [c2, false_and, if_false, not_false_eq_true, true_and]
    rw [if_neg (by omega)]
    congr 1
    omega
theorem itoa_byte (n : Int) : ∀ b ∈ itoa n, b.toNat = 45 ∨ (48 ≤ b.toNat ∧ b.toNat ≤ 57) := by
  intro b hb
  unfold itoa at hb
  split at hb
  · rcases List.mem_cons.1 hb with rfl | hb
    · exact .inl rfl
    · exact .inr (decDigits_digit _ b hb)
  · exact .inr (decDigits_digit _ b hb)
theorem itoa_head (n : Int) : ∃ b r, itoa n = b :: r ∧ (b.toNat = 45 ∨ (48 ≤ b.toNat ∧ b.toNat ≤ 57)) := by
  cases h : itoa n with
  | nil =>
    unfold itoa at h
    split at h
    · cases h
    · exact absurd h (decDigits_ne _)
  | cons b r => exact ⟨b, r, rfl, itoa_byte n b (by rw [h]; simp)⟩
theorem trim_itoa (n : Int) : trimPrefix (itoa n) [114] = itoa n := by
  obtain ⟨b, r, e, h⟩ := itoa_head n
  unfold trimPrefix hasPrefix
  rw [e]
  have : ¬ ((114 : UInt8) == b) = true := fun x => by
    have := beq_iff_eq.1 x
    subst this
    simp at h
  simp [List.isPrefixOf, this]
theorem trim_reg (l : List UInt8) : trimPrefix (114 :: l) [114] = l := by simp [trimPrefix, hasPrefix, List.isPrefixOf]
end Go.Isa
