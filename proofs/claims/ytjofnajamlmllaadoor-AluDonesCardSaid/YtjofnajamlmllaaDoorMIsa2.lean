import Derived.Test.YtjofnajamlmllaaDoorMIsa
namespace Go.Isa
open Go.Lib

/-- An instruction. -/
structure Ins where
  op : Int
  a : Int
  b : Int
  imm : Int
theorem Ins.ext' {x y : Ins} (h1 : x.op = y.op) (h2 : x.a = y.a) (h3 : x.b = y.b) (h4 : x.imm = y.imm) : x = y := by
  cases x; cases y; simp only at h1 h2 h3 h4; subst h1 h2 h3 h4; rfl
def wordL : Nat → List UInt8
  | 0 => [110, 111, 112] | 1 => [108, 105] | 2 => [108, 117, 105] | 3 => [97, 100, 100] | 4 => [115, 117, 98] | 5 => [97, 110, 100] | 6 => [111, 114] | 7 => [120, 111, 114]
  | 8 => [115, 104, 108] | 9 => [115, 104, 114] | 10 => [109, 117, 108] | 11 => [97, 100, 100, 105] | 12 => [108, 100] | 13 => [115, 116] | 14 => [108, 100, 98] | 15 => [115, 116, 98]
  | 16 => [98, 101, 113] | 17 => [98, 110, 101] | 18 => [98, 108, 116] | 19 => [106, 97, 108] | 20 => [106, 114] | 21 => [104, 118, 99] | 22 => [119, 102, 105] | 23 => [99, 108, 107]
  | 24 => [109, 115, 114] | 25 => [109, 114, 115] | 26 => [101, 114, 101, 116] | 27 => [104, 97, 108, 116] | _ => []
def regsN (n : Nat) : Nat := if n = 0 ∨ n = 21 ∨ n = 22 ∨ 26 ≤ n then 0 else if n ≤ 2 ∨ n = 19 ∨ n = 20 ∨ 23 ≤ n then 1 else 2
def immN (n : Nat) : Nat := if n = 0 ∨ n = 20 ∨ n = 22 ∨ n = 23 ∨ 26 ≤ n then 0 else if n ≤ 2 ∨ 20 ≤ n then 1 else if n ≤ 10 then 2 else 3
theorem regsN_le (n : Nat) : regsN n ≤ 2 := by unfold regsN; split <;> (try split) <;> omega
theorem immN_le (n : Nat) : immN n ≤ 3 := by unfold immN; split <;> (try split) <;> (try split) <;> omega
theorem word_ne : ∀ j, j < 28 → wordL j ≠ [] := by decide
theorem word_sp : ∀ j, j < 28 → 32 ∉ wordL j := by decide
theorem word_inj : ∀ i, i < 28 → ∀ j, j < 28 → wordL i = wordL j → i = j := by decide +kernel
theorem word_len : ∀ j, (wordL j).length ≤ 4 := by
  intro j
  by_cases h : j < 28
  · revert j; decide
  · have : wordL j = [] := by unfold wordL; split <;> first | omega | rfl
    rw [this]; exact Nat.zero_le _
def sgn (n : Int) : Int := (n + 32768) % 65536 - 32768
def Right (x : Ins) : Prop := (0 ≤ x.op ∧ x.op ≤ 27) ∧ (0 ≤ x.a ∧ x.a ≤ 15) ∧ (0 ≤ x.b ∧ x.b ≤ 15) ∧ (0 ≤ x.imm ∧ x.imm ≤ 65535) ∧
  (regsN x.op.toNat < 1 → x.a = 0) ∧ (regsN x.op.toNat < 2 → x.b = 0) ∧ (immN x.op.toNat = 0 → x.imm = 0) ∧ (immN x.op.toNat = 2 → x.imm < 16)
instance (x : Ins) : Decidable (Right x) := by unfold Right; infer_instance
def regL (n : Int) : List UInt8 := 114 :: itoa n
def regW (x : Ins) (k : Nat) : List (List UInt8) := [regL x.a, regL x.b].take k
def immW (x : Ins) : List (List UInt8) := if immN x.op.toNat = 0 then [] else if immN x.op.toNat = 1 then [itoa x.imm] else if immN x.op.toNat = 2 then [regL x.imm] else [itoa (sgn x.imm)]
def words (x : Ins) : List (List UInt8) := wordL x.op.toNat :: (regW x (regsN x.op.toNat) ++ immW x)
def lineL (x : Ins) : List UInt8 := join (words x) [32]

theorem itoa_sp (n : Int) : 32 ∉ itoa n := fun h => by
  have := itoa_byte n 32 h
  simp at this
theorem regL_sp (n : Int) : 32 ∉ regL n := fun h => by
  rcases List.mem_cons.1 h with h | h
  · simp at h
  · exact itoa_sp n h
theorem words_sp {x : Ins} (h : Right x) : ∀ y ∈ words x, 32 ∉ y := by
  intro y hy
  have ho := h.1
  rcases List.mem_cons.1 hy with rfl | hy
  · exact word_sp _ (by omega)
  · rcases List.mem_append.1 hy with hy | hy
    · have := List.mem_of_mem_take hy
      simp only [List.mem_cons, List.not_mem_nil, or_false] at this
      rcases this with rfl | rfl <;> exact regL_sp _
    · unfold immW at hy
      split at hy
      · cases hy
      · split at hy
        · simp only [List.mem_singleton] at hy; subst hy; exact itoa_sp _
        · split at hy
          · simp only [List.mem_singleton] at hy; subst hy; exact regL_sp _
          · simp only [List.mem_singleton] at hy; subst hy; exact itoa_sp _
theorem pieces_line {x : Ins} (h : Right x) : pieces 32 (lineL x) = words x := pieces_join (words_sp h)

/-! ## what is read -/
def valL (s : List UInt8) : Int := match atoiAll (trimPrefix s [114]) with
  | .ok v => v
  | _ => 0
def isNum (s : List UInt8) : Prop := ∃ v, atoiAll (trimPrefix s [114]) = .ok v
def argV (l : List (List UInt8)) (k : Nat) : Int := match l[k]? with
  | some s => valL s
  | none => 0
def takenI (op : Int) (regs imm : Nat) (l : List (List UInt8)) : Ins :=
  ⟨op, if 1 ≤ regs then argV l 0 else 0, if 2 ≤ regs then argV l 1 else 0, if imm = 0 then 0 else if imm = 3 then argV l regs % 65536 else argV l regs⟩
def slots (regs imm : Nat) : Nat := regs + if imm = 0 then 0 else 1
def argsOk (regs imm : Nat) (l : List (List UInt8)) : Prop := ∀ k s, k < slots regs imm → l[k]? = some s → isNum s
theorem num_itoa {n : Int} (h : -100000000000 ≤ n) (h' : n ≤ 100000000000) : atoiAll (trimPrefix (itoa n) [114]) = .ok n := by rw [trim_itoa, atoi_itoa n h h']
theorem num_reg {n : Int} (h : -100000000000 ≤ n) (h' : n ≤ 100000000000) : atoiAll (trimPrefix (regL n) [114]) = .ok n := by unfold regL; rw [trim_reg, atoi_itoa n h h']
theorem val_itoa {n : Int} (h : -100000000000 ≤ n) (h' : n ≤ 100000000000) : valL (itoa n) = n := by unfold valL; rw [num_itoa h h']
theorem val_reg {n : Int} (h : -100000000000 ≤ n) (h' : n ≤ 100000000000) : valL (regL n) = n := by unfold valL; rw [num_reg h h']
theorem sgn_bd (n : Int) : -32768 ≤ sgn n ∧ sgn n ≤ 32767 := by unfold sgn; omega
theorem taken_line {x : Ins} (h : Right x) : takenI x.op (regsN x.op.toNat) (immN x.op.toNat) (words x).tail = x := by
  obtain ⟨h1, h2, h3, h4, h5, h6, h7, h8⟩ := h
  have hr := regsN_le x.op.toNat
  have hi := immN_le x.op.toNat
  have va := val_reg (n := x.a) (by omega) (by omega)
  have vb := val_reg (n := x.b) (by omega) (by omega)
  have vi := val_reg (n := x.imm) (by omega) (by omega)
  have vj := val_itoa (n := x.imm) (by omega) (by omega)
  have hs := sgn_bd x.imm
  have vs := val_itoa (n := sgn x.imm) (by omega) (by omega)
  have hsg : sgn x.imm % 65536 = x.imm := by unfold sgn; omega
  unfold takenI words regW immW
  generalize regsN x.op.toNat = r at *
  generalize immN x.op.toNat = i at *
  have hrr : r = 0 ∨ r = 1 ∨ r = 2 := by omega
  have hii : i = 0 ∨ i = 1 ∨ i = 2 ∨ i = 3 := by omega
  rcases hrr with rfl | rfl | rfl <;> rcases hii with rfl | rfl | rfl | rfl <;> apply Ins.ext' <;> simp_all [argV]
theorem args_line {x : Ins} (h : Right x) : argsOk (regsN x.op.toNat) (immN x.op.toNat) (words x).tail := by
  obtain ⟨h1, h2, h3, h4, h5, h6, h7, h8⟩ := h
  have hs := sgn_bd x.imm
  have num : ∀ y ∈ (words x).tail, isNum y := by
    intro y hy
    have hy : y ∈ regW x (regsN x.op.toNat) ++ immW x := hy
    rcases List.mem_append.1 hy with hy | hy
    · have := List.mem_of_mem_take hy
      simp only [List.mem_cons, List.not_mem_nil, or_false] at this
      rcases this with rfl | rfl
      · exact ⟨_, num_reg (by omega) (by omega)⟩
      · exact ⟨_, num_reg (by omega) (by omega)⟩
    · unfold immW at hy
      split at hy
      · cases hy
      · split at hy
        · simp only [List.mem_singleton] at hy; subst hy; exact ⟨_, num_itoa (by omega) (by omega)⟩
        · split at hy
          · simp only [List.mem_singleton] at hy; subst hy; exact ⟨_, num_reg (by omega) (by omega)⟩
          · simp only [List.mem_singleton] at hy; subst hy; exact ⟨_, num_itoa (by omega) (by omega)⟩
  intro k s _ hk
  exact num s (List.mem_of_getElem? hk)

def ReadP (s : List UInt8) (x : Ins) (ok : Bool) : Prop := (ok = true ∧ Right x ∧ lineL x = s) ∨ (ok = false ∧ x = ⟨0, 0, 0, 0⟩ ∧ ∀ y, Right y → lineL y ≠ s)
def PreRead (s : List UInt8) : Prop := ∀ op, op < 28 → (pieces 32 s).head? = some (wordL op) → argsOk (regsN op) (immN op) (pieces 32 s).tail
theorem pre_line {x : Ins} (h : Right x) : PreRead (lineL x) := by
  intro op hop hh
  rw [pieces_line h] at hh ⊢
  have e : op = x.op.toNat := by
    have ho := h.1
    simp only [words, List.head?_cons, Option.some.injEq] at hh
    exact (word_inj _ (by omega) _ hop hh).symm
  subst e
  exact args_line h
theorem line_inj {x y : Ins} (hx : Right x) (hy : Right y) (h : lineL x = lineL y) : x = y := by
  have e : words x = words y := by rw [← pieces_line hx, ← pieces_line hy, h]
  have ho : x.op.toNat = y.op.toNat := by
    have h1 := hx.1
    have h2 := hy.1
    have : wordL x.op.toNat = wordL y.op.toNat := by simpa [words] using congrArg List.head? e
    exact word_inj _ (by omega) _ (by omega) this
  have ho' : x.op = y.op := by have h1 := hx.1; have h2 := hy.1; omega
  rw [← taken_line hx, ← taken_line hy, e, ho, ho']
theorem readP_uniq {s : List UInt8} {x y : Ins} {b c : Bool} (h : ReadP s x b) (h' : ReadP s y c) : x = y ∧ b = c := by
  rcases h with ⟨rfl, h1, h2⟩ | ⟨rfl, rfl, h1⟩ <;> rcases h' with ⟨rfl, k1, k2⟩ | ⟨rfl, rfl, k1⟩
  · exact ⟨line_inj h1 k1 (h2.trans k2.symm), rfl⟩
  · exact absurd h2 (k1 x h1)
  · exact absurd k2 (h1 y k1)
  · exact ⟨rfl, rfl⟩
/-! ## the words, one by one -/
theorem words_len (x : Ins) : (words x).length = 1 + slots (regsN x.op.toNat) (immN x.op.toNat) := by
  have hr := regsN_le x.op.toNat
  unfold words regW immW slots
  simp only [List.length_cons, List.length_append, List.length_take, List.length_nil]
  have e : min (regsN x.op.toNat) (0 + 1 + 1) = regsN x.op.toNat := by omega
  rw [e]
  split
  · simp; omega
  · split
    · simp; omega
    · split <;> (simp; omega)
theorem words_zero (x : Ins) : (words x)[0]? = some (wordL x.op.toNat) := rfl
theorem words_reg (x : Ins) {k : Nat} (h : k < regsN x.op.toNat) : (words x)[1 + k]? = some (regL (if k = 0 then x.a else x.b)) := by
  have hr := regsN_le x.op.toNat
  unfold words regW
  generalize regsN x.op.toNat = r at *
  have hk : k = 0 ∨ k = 1 := by omega
  have hrr : r = 1 ∨ r = 2 := by omega
  rcases hk with rfl | rfl <;> rcases hrr with rfl | rfl <;> first | omega | rfl
theorem words_imm (x : Ins) (h : immN x.op.toNat ≠ 0) : (words x)[1 + regsN x.op.toNat]? = some (if immN x.op.toNat = 1 then itoa x.imm else if immN x.op.toNat = 2 then regL x.imm else itoa (sgn x.imm)) := by
  have hr := regsN_le x.op.toNat
  unfold words regW immW
  rw [if_neg h]
  generalize regsN x.op.toNat = r at *
  have hrr : r = 0 ∨ r = 1 ∨ r = 2 := by omega
  rcases hrr with rfl | rfl | rfl <;> (split <;> (try split) <;> rfl)
theorem join_len (m : Nat) : ∀ (x : List UInt8) (r : List (List UInt8)), (∀ y ∈ x :: r, y.length ≤ m) → (join (x :: r) [32]).length ≤ (r.length + 1) * (m + 1)
  | x, [], h => by
    rw [join_one]
    have := h x (by simp)
    simp only [List.length_nil]
    omega
  | x, y :: r, h => by
    have e : join (x :: y :: r) [32] = x ++ 32 :: join (y :: r) [32] := by rw [join_cons, join_cons]; simp [joinTail]
    have h1 := h x (by simp)
    have h2 := join_len m y r (fun z hz => h z (List.mem_cons_of_mem _ hz))
    have e2 : (r.length + 1 + 1) * (m + 1) = (r.length + 1) * (m + 1) + (m + 1) := Nat.succ_mul _ _
    rw [e, List.length_append, List.length_cons, List.length_cons, e2]
    omega
theorem nDigits5 : ∀ {u : Nat}, u < 100000 → (decDigits u).length ≤ 5 := by
  have key : ∀ (k u : Nat), u < 10 ^ k → 1 ≤ k → (decDigits u).length ≤ k := by
    intro k
    induction k with
    | zero => intro u _ h; omega
    | succ k ih =>
      intro u hu _
      rw [decDigits]
      split
      · simp
      · rename_i h
        have hk : 1 ≤ k := by
          rcases Nat.eq_zero_or_pos k with rfl | hk
          · simp at hu; omega
          · exact hk
        have := ih (u / 10) (by rw [Nat.pow_succ] at hu; omega) hk
        simp only [List.length_append, List.length_singleton]
        omega
  intro u hu
  exact key 5 u (by omega) (by omega)
theorem itoa5 {n : Int} (h : -100000 < n) (h' : n < 100000) : (itoa n).length ≤ 6 := by
  unfold itoa
  split
  · have := nDigits5 (u := n.natAbs) (by omega)
    simp only [List.length_cons]; omega
  · have := nDigits5 (u := n.toNat) (by omega)
    omega
theorem line_len {x : Ins} (h : Right x) : (lineL x).length ≤ 32 := by
  obtain ⟨h1, h2, h3, h4, h5, h6, h7, h8⟩ := h
  have hs := sgn_bd x.imm
  have hl := words_len x
  have hr := regsN_le x.op.toNat
  have ra : (regL x.a).length ≤ 7 := by have := itoa5 (n := x.a) (by omega) (by omega); simp only [regL, List.length_cons]; omega
  have rb : (regL x.b).length ≤ 7 := by have := itoa5 (n := x.b) (by omega) (by omega); simp only [regL, List.length_cons]; omega
  have ri : (regL x.imm).length ≤ 7 := by have := itoa5 (n := x.imm) (by omega) (by omega); simp only [regL, List.length_cons]; omega
  have ni : (itoa x.imm).length ≤ 7 := by have := itoa5 (n := x.imm) (by omega) (by omega); omega
  have si : (itoa (sgn x.imm)).length ≤ 7 := by have := itoa5 (n := sgn x.imm) (by omega) (by omega); omega
  have hw := word_len x.op.toNat
  have all : ∀ y ∈ words x, y.length ≤ 7 := by
    intro y hy
    rcases List.mem_cons.1 hy with rfl | hy
    · omega
    · rcases List.mem_append.1 hy with hy | hy
      · have := List.mem_of_mem_take hy
        simp only [List.mem_cons, List.not_mem_nil, or_false] at this
        rcases this with rfl | rfl <;> assumption
      · unfold immW at hy
        split at hy
        · cases hy
        · split at hy
          · simp only [List.mem_singleton] at hy; subst hy; exact ni
          · split at hy
            · simp only [List.mem_singleton] at hy; subst hy; exact ri
            · simp only [List.mem_singleton] at hy; subst hy; exact si
  have hj := join_len 7 _ _ all
  have hn : (regW x (regsN x.op.toNat) ++ immW x).length + 1 ≤ 4 := by
    have : (words x).length = (regW x (regsN x.op.toNat) ++ immW x).length + 1 := rfl
    rw [← this, hl]
    unfold slots
    split <;> omega
  show (join (words x) [32]).length ≤ 32
  have : ((regW x (regsN x.op.toNat) ++ immW x).length + 1) * (7 + 1) ≤ 4 * 8 := Nat.mul_le_mul_right 8 hn
  exact Nat.le_trans hj this
end Go.Isa
