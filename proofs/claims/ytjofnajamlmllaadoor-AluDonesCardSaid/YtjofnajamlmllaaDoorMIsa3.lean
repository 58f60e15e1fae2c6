import Derived.Test.YtjofnajamlmllaaDoorMIsa2
import Derived.Test.YtjofnajamlmllaaDoorMBits
namespace Go.Isa
open Go Go.Sx

theorem i64_or_nat (a b : Nat) (ha : a < 4611686018427387904) (hb : b < 4611686018427387904) : bits .or .i64 (a : Int) (b : Int) = ((a ||| b : Nat) : Int) := by
  have hor : a ||| b < 2 ^ 62 := Nat.or_lt_two_pow (by omega) (by omega)
  show IntKind.i64.wrap ((BitVec.ofInt 64 (a : Int) ||| BitVec.ofInt 64 (b : Int)).toNat : Int) = _
  rw [BitVec.toNat_or, ofInt_u64 a (by omega), ofInt_u64 b (by omega), IntKind.wrap_i64]
  omega
theorem i64_or {x y k : Nat} (hy : y < 2 ^ k) (h : x * 2 ^ k + y < 4294967296) : bits .or .i64 (y : Int) (IntKind.i64.wrap ((x : Int) * 2 ^ k)) = ((x * 2 ^ k + y : Nat) : Int) := by
  have e : (x : Int) * 2 ^ k = ((x * 2 ^ k : Nat) : Int) := by simp
  have e' : IntKind.i64.wrap ((x * 2 ^ k : Nat) : Int) = ((x * 2 ^ k : Nat) : Int) := by rw [IntKind.wrap_i64]; omega
  rw [e, e', i64_or_nat _ _ (by omega) (by omega), Nat.or_comm]
  have := Nat.two_pow_add_eq_or_of_lt (b := y) hy x
  rw [Nat.mul_comm] at this
  rw [this]
theorem i64_and16 (n : Int) : bits .and .i64 n 65535 = n % 65536 := by
  have h127 : (BitVec.ofInt 64 65535).toNat = 2 ^ 16 - 1 := by decide
  have key : (BitVec.ofInt 64 n &&& BitVec.ofInt 64 65535).toNat = (n % ((2 ^ 64 : Nat) : Int)).toNat % 2 ^ 16 := by
    rw [BitVec.toNat_and, BitVec.toNat_ofInt, h127, Nat.and_two_pow_sub_one_eq_mod]
  show IntKind.i64.wrap ((BitVec.ofInt 64 n &&& BitVec.ofInt 64 65535).toNat : Nat) = n % 65536
  rw [key, IntKind.wrap_i64]
  omega

/-- An instruction's word. -/
def encV (x : Ins) : Int := x.op + 256 * x.a + 4096 * x.b + 65536 * x.imm
def decV (w : Int) : Ins := ⟨w % 256, w / 256 % 16, w / 4096 % 16, w / 65536 % 65536⟩
theorem enc_dec {w : Int} (h : u32 w) : encV (decV w) = w := by
  obtain ⟨h1, h2⟩ := h
  unfold encV decV
  simp only
  omega
theorem dec_enc {x : Ins} (h : Right x) : decV (encV x) = x := by
  obtain ⟨h1, h2, h3, h4, _⟩ := h
  apply Ins.ext' <;> simp only [decV, encV] <;> omega
theorem enc_u32 {x : Ins} (h : Right x) : u32 (encV x) := by
  obtain ⟨h1, h2, h3, h4, _⟩ := h
  unfold encV u32
  omega
theorem enc_code {x : Ins} (h : Right x) : IntKind.u32.wrap (bits .or .i64 (bits .or .i64 (bits .or .i64 x.op (IntKind.i64.wrap (x.a * 2 ^ 8))) (IntKind.i64.wrap (x.b * 2 ^ 12))) (IntKind.i64.wrap (x.imm * 2 ^ 16))) = encV x := by
  obtain ⟨h1, h2, h3, h4, _⟩ := h
  obtain ⟨o, ho⟩ := Int.eq_ofNat_of_zero_le h1.1
  obtain ⟨a, ha⟩ := Int.eq_ofNat_of_zero_le h2.1
  obtain ⟨b, hb⟩ := Int.eq_ofNat_of_zero_le h3.1
  obtain ⟨i, hi⟩ := Int.eq_ofNat_of_zero_le h4.1
  unfold encV
  rw [ho] at h1 ⊢
  rw [ha] at h2 ⊢
  rw [hb] at h3 ⊢
  rw [hi] at h4 ⊢
  rw [i64_or (x := a) (y := o) (k := 8) (by omega) (by omega), i64_or (x := b) (k := 12) (by omega) (by omega), i64_or (x := i) (k := 16) (by omega) (by omega), wrap_u32_of (u32_nat (by omega))]
  omega
theorem field_div {W : Nat} {a n : Nat} (h : fitsP (a : Int) (n : Int)) : fieldN (W : Int) a n = ((W / 2 ^ a % 2 ^ n : Nat) : Int) := by
  unfold fieldN; rw [if_pos h, ← field_eq]; simp only [Int.toNat_natCast]
theorem field_dec {w : Int} (h : u32 w) : fieldN w 0 8 = (decV w).op ∧ fieldN w 8 4 = (decV w).a ∧ fieldN w 12 4 = (decV w).b ∧ fieldN w 16 16 = (decV w).imm := by
  obtain ⟨W, rfl⟩ := Int.eq_ofNat_of_zero_le h.1
  unfold decV
  have f1 := field_div (W := W) (a := 0) (n := 8) (by decide)
  have f2 := field_div (W := W) (a := 8) (n := 4) (by decide)
  have f3 := field_div (W := W) (a := 12) (n := 4) (by decide)
  have f4 := field_div (W := W) (a := 16) (n := 16) (by decide)
  exact ⟨f1.trans (by simp only; omega), f2.trans (by simp only; omega), f3.trans (by simp only; omega), f4.trans (by simp only; omega)⟩
end Go.Isa
namespace Go.Isa
open Go.Lib
/-! ## what a line is read as -/
noncomputable def readX (s : List UInt8) : Ins := @dite _ (∃ y, Right y ∧ lineL y = s) (Classical.propDecidable _) (fun h => h.choose) (fun _ => ⟨0, 0, 0, 0⟩)
noncomputable def readB (s : List UInt8) : Bool := @decide (∃ y, Right y ∧ lineL y = s) (Classical.propDecidable _)
theorem read_spec (s : List UInt8) : ReadP s (readX s) (readB s) := by
  by_cases h : ∃ y, Right y ∧ lineL y = s
  · left
    refine ⟨@decide_eq_true _ (Classical.propDecidable _) h, ?_⟩
    unfold readX
    rw [dif_pos h]
    exact h.choose_spec
  · right
    refine ⟨@decide_eq_false _ (Classical.propDecidable _) h, ?_, fun y hy e => h ⟨y, hy, e⟩⟩
    unfold readX
    rw [dif_neg h]
theorem read_of {s : List UInt8} {x : Ins} {b : Bool} (h : ReadP s x b) : x = readX s ∧ b = readB s := readP_uniq h (read_spec s)
theorem read_line {x : Ins} (h : Right x) : readX (lineL x) = x ∧ readB (lineL x) = true := by
  obtain ⟨h1, h2⟩ := read_of (s := lineL x) (x := x) (b := true) (.inl ⟨rfl, h, rfl⟩)
  exact ⟨h1.symm, h2.symm⟩
theorem atoi_i64 {l : List UInt8} {v : Int} (h : atoiAll l = .ok v) : -9223372036854775808 ≤ v ∧ v < 9223372036854775808 := by
  cases l with
  | nil => cases h
  | cons c r =>
    unfold atoiAll at h
    simp only at h
    split at h
    · cases h
    · cases h
    · rename_i u hu
      split at h
      · cases h
      · rename_i h1
        split at h
        · cases h
        · rename_i h2
          simp only [NumEnd.ok.injEq] at h
          subst h
          split <;> omega
theorem val_i64 (s : List UInt8) : -9223372036854775808 ≤ valL s ∧ valL s < 9223372036854775808 := by
  unfold valL
  split
  · rename_i v h; exact atoi_i64 h
  · decide
theorem arg_i64 (l : List (List UInt8)) (k : Nat) : -9223372036854775808 ≤ argV l k ∧ argV l k < 9223372036854775808 := by
  unfold argV
  split
  · exact val_i64 _
  · decide
theorem taken_i64 {op : Int} (h : -9223372036854775808 ≤ op ∧ op < 9223372036854775808) (r m : Nat) (l : List (List UInt8)) :
    Go.Sx.i64 (takenI op r m l).op ∧ Go.Sx.i64 (takenI op r m l).a ∧ Go.Sx.i64 (takenI op r m l).b ∧ Go.Sx.i64 (takenI op r m l).imm := by
  have h0 := arg_i64 l 0
  have h1 := arg_i64 l 1
  have h2 := arg_i64 l r
  unfold Go.Sx.i64 takenI
  simp only
  refine ⟨h, ?_, ?_, ?_⟩
  · split <;> omega
  · split <;> omega
  · split <;> (try split) <;> omega
theorem ins_eta (x : Ins) : (⟨x.op, x.a, x.b, x.imm⟩ : Ins) = x := rfl
/-- What the words of a line are, an instruction's or not. -/
theorem read_step {s : List UInt8} {k : Nat} {y : Ins} (hy : Right y) (ho : y.op.toNat = k) (hl : lineL y = s) : takenI (k : Int) (regsN k) (immN k) (pieces 32 s).tail = y := by
  subst hl
  rw [pieces_line hy]
  have h1 := hy.1
  have e : (k : Int) = y.op := by omega
  rw [e, ← ho]
  exact taken_line hy
theorem pieces_le (c : UInt8) : ∀ (l : List UInt8), (∀ p ∈ pieces c l, p.length ≤ l.length) ∧ (pieces c l).length ≤ l.length + 1
  | [] => ⟨fun p hp => by simp only [pieces, List.mem_singleton] at hp; subst hp; exact Nat.le_refl _, Nat.le_refl _⟩
  | b :: l => by
    obtain ⟨h1, h2⟩ := pieces_le c l
    simp only [pieces]
    split
    · refine ⟨fun p hp => ?_, by simp only [List.length_cons]; omega⟩
      rcases List.mem_cons.1 hp with rfl | hp
      · exact Nat.zero_le _
      · exact Nat.le_succ_of_le (h1 p hp)
    · split
      · rename_i q ps e
        rw [e] at h1 h2
        refine ⟨fun p hp => ?_, by simp only [List.length_cons] at h2 ⊢; omega⟩
        rcases List.mem_cons.1 hp with rfl | hp
        · have := h1 q (by simp)
          simp only [List.length_cons]; omega
        · exact Nat.le_succ_of_le (h1 p (List.mem_cons_of_mem _ hp))
      · refine ⟨fun p hp => ?_, by simp only [List.length_cons, List.length_nil]; omega⟩
        simp only [List.mem_singleton] at hp
        subst hp
        simp
end Go.Isa
