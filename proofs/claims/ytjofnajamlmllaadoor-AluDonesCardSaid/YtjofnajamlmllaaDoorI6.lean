import Derived.Test.YtjofnajamlmllaaDoorI5
open Go Go.Sx Go.Proofs
set_option maxRecDepth 100000
namespace Go.Proofs.YtjofnajamlmllaaDoor
open Go.RowKit Go.Lib Go.Isa

structure TK where
  op : Int
  r : Int
  m : Int
  w : ByteArray
  lo : Nat
  n : Nat
  cap : Nat
  N : Nat
  f : Nat → ByteArray
def TK.l (x : TK) : List (List UInt8) := (List.range x.n).map fun j => (x.f (x.lo + j)).data.toList
def TK.Ok (x : TK) : Prop := i64 x.op ∧ (0 ≤ x.r ∧ x.r ≤ 2) ∧ (0 ≤ x.m ∧ x.m ≤ 3) ∧ x.lo + x.n ≤ x.N ∧ x.n ≤ x.cap ∧ x.n ≤ 9223372036854775807 ∧ argsOk x.r.toNat x.m.toNat x.l ∧ ∀ j, j < x.n → (x.f (x.lo + j)).size < 4294967281
def TK.reg (x : TK) : Reg := { own := false, pl := true, fam := 1, el := 9, tot := fun _ => 0, c := fun _ => .arr x.N 1 (fun j => .str (x.f j)) }
def TK.k (x : TK) : Nat := min (slots x.r.toNat x.m.toNat) x.n
def TK.at_ (x : TK) (i : Nat) : Ins := ⟨x.op, if 1 ≤ x.r ∧ 1 ≤ i then argV x.l 0 else 0, if 2 ≤ x.r ∧ 2 ≤ i then argV x.l 1 else 0, if ¬ x.m = 0 ∧ x.r.toNat + 1 ≤ i then argV x.l x.r.toNat else 0⟩
theorem TK.len (x : TK) : x.l.length = x.n := by simp [TK.l]
theorem TK.get (x : TK) {j : Nat} (h : j < x.n) : x.l[j]? = some (x.f (x.lo + j)).data.toList := by simp [TK.l, h]
theorem TK.val (x : TK) {j : Nat} (h : j < x.n) : argV x.l j = valL (x.f (x.lo + j)).data.toList := by unfold argV; rw [x.get h]
theorem TK.val0 (x : TK) {j : Nat} (h : x.n ≤ j) : argV x.l j = 0 := by unfold argV; rw [List.getElem?_eq_none (by rw [x.len]; exact h)]
theorem TK.num {x : TK} (h : x.Ok) {j : Nat} (h1 : j < x.k) : isNum (x.f (x.lo + j)).data.toList := by
  unfold TK.k at h1
  exact h.2.2.2.2.2.2.1 j _ (by omega) (x.get (by omega))
theorem TK.slots_ {x : TK} (h : x.Ok) : slots x.r.toNat x.m.toNat = x.r.toNat + if x.m = 0 then 0 else 1 := by
  obtain ⟨_, h1, h2, _⟩ := h
  unfold slots
  congr 1
  split <;> split <;> omega
theorem TK.end_ {x : TK} (h : x.Ok) {i : Nat} (hi : i = x.k) : (x.at_ i).a = (if 1 ≤ x.r.toNat then argV x.l 0 else 0) ∧ (x.at_ i).b = (if 2 ≤ x.r.toNat then argV x.l 1 else 0) ∧ (x.at_ i).imm = (if x.m = 0 then 0 else argV x.l x.r.toNat) := by
  have hs := TK.slots_ h
  obtain ⟨_, h1, h2, _⟩ := h
  have hk : i = min (x.r.toNat + if x.m = 0 then 0 else 1) x.n := by rw [hi]; unfold TK.k; rw [hs]
  simp only [TK.at_]
  refine ⟨?_, ?_, ?_⟩
  · by_cases c : 1 ≤ x.r.toNat
    · rw [if_pos c]
      by_cases d : 1 ≤ i
      · rw [if_pos (by omega)]
      · rw [if_neg (by omega), x.val0 (by split at hk <;> omega)]
    · rw [if_neg c, if_neg (by omega)]
  · by_cases c : 2 ≤ x.r.toNat
    · rw [if_pos c]
      by_cases d : 2 ≤ i
      · rw [if_pos (by omega)]
      · rw [if_neg (by omega), x.val0 (by split at hk <;> omega)]
    · rw [if_neg c, if_neg (by omega)]
  · by_cases c : x.m = 0
    · rw [if_pos c, if_neg (by omega)]
    · rw [if_neg c] at hk ⊢
      by_cases d : x.r.toNat + 1 ≤ i
      · rw [if_pos ⟨c, d⟩]
      · rw [if_neg (by omega), x.val0 (by omega)]
theorem TK.fin_ {x : TK} (h : x.Ok) {i : Nat} (hi : i = x.k) : (x.m = 3 → x.Ok → (x.at_ i).op = (takenI x.op x.r.toNat x.m.toNat x.l).op ∧ (x.at_ i).a = (takenI x.op x.r.toNat x.m.toNat x.l).a ∧ (x.at_ i).b = (takenI x.op x.r.toNat x.m.toNat x.l).b ∧
      bits .and .i64 (x.at_ i).imm 65535 = (takenI x.op x.r.toNat x.m.toNat x.l).imm) ∧
    (¬ x.m = 3 → x.Ok → (x.at_ i).op = (takenI x.op x.r.toNat x.m.toNat x.l).op ∧ (x.at_ i).a = (takenI x.op x.r.toNat x.m.toNat x.l).a ∧ (x.at_ i).b = (takenI x.op x.r.toNat x.m.toNat x.l).b ∧ (x.at_ i).imm = (takenI x.op x.r.toNat x.m.toNat x.l).imm) := by
  obtain ⟨e1, e2, e3⟩ := TK.end_ h hi
  obtain ⟨_, h1, h2, _⟩ := h
  refine ⟨fun c _ => ⟨rfl, e1, e2, ?_⟩, fun c _ => ⟨rfl, e1, e2, ?_⟩⟩
  · rw [i64_and16, e3]
    show _ = if x.m.toNat = 0 then 0 else if x.m.toNat = 3 then argV x.l x.r.toNat % 65536 else argV x.l x.r.toNat
    rw [if_neg (by omega), if_neg (by omega), if_pos (by omega)]
  · rw [e3]
    show _ = if x.m.toNat = 0 then 0 else if x.m.toNat = 3 then argV x.l x.r.toNat % 65536 else argV x.l x.r.toNat
    by_cases d : x.m = 0
    · rw [if_pos d, if_pos (by omega)]
    · rw [if_neg d, if_neg (by omega), if_neg (by omega)]
def tkSl (x : TK) (cap i : Nat) : Sl := mkSl 55 [(2, .slice 0 0 [] x.lo 1 x.n x.cap), (4, p0 1), (6, p0 2), (7, p0 3), (32, .slice 4 0 [] 0 1 x.k cap), (33, .int .i64 x.k), (34, .int .i64 i)]
def tkH (x : TK) (i : Nat) : List Reg := [x.reg, newReg 67 (.cons (.str x.w) (.cons (.int .i64 x.r) (.cons (.int .i64 x.m) .nil))), newReg 40 (insT ⟨0, 0, 0, 0⟩), newReg 40 (insT (x.at_ i))]
def tkN (x : TK) : Fam where
  α := Nat
  I y := x.m = 0 ∧ y ≤ x.k
  st y := { sl := tkSl x 2 y, H := tkH x y ++ [rowReg 87 2 1 2 (rowOf 0 [.ptr 3 0 [.f 1], .ptr 3 0 [.f 2]])] }
  μ y := x.k - y
structure TI where
  i : Nat
  cap : Nat
def tkI (x : TK) : Fam where
  α := TI
  I y := ¬ x.m = 0 ∧ y.i ≤ x.k ∧ x.r.toNat + 1 ≤ y.cap
  st y := { sl := tkSl x y.cap y.i, H := tkH x y.i ++ [rowReg 87 (x.r.toNat + 1) 1 y.cap (fun j => .ite (Nat.blt j x.r.toNat) (rowOf 0 [.ptr 3 0 [.f 1], .ptr 3 0 [.f 2]] j) (.ptr 3 0 [.f 3]))] }
  μ y := x.k - y.i
def tkL (x : TK) : Nat → Gam
  | 6 => .h fun H => match Nat.ble H.length 5 with
    | true => .l [tkN x]
    | false => .l [tkI x]
  | _ => .l []
def tkP : Pat TK where
  view | [.int .i64 op, .cons (.str w) (.cons (.int .i64 r) (.cons (.int .i64 m) .nil)), .slice q 0 [] lo 1 n cap], H => some ⟨op, r, m, w, lo, n, cap, tLen (regC H q), fun j => tStr (tArr (regC H q) j)⟩ | _, _ => none
  args x := [.int .i64 x.op, .cons (.str x.w) (.cons (.int .i64 x.r) (.cons (.int .i64 x.m) .nil)), .slice 0 0 [] x.lo 1 x.n x.cap]
  H x := [x.reg]
  out x := .need x.Ok (.retq (insT (takenI x.op x.r.toNat x.m.toNat x.l)))
def tTk : Tab := [(42, valP.sp)]
theorem tTk_ok : TabOk Tryd.prog tTk := (tab_cons value_ok tab_nil)

theorem taken_vc : ∀ (x : TK), x.Ok ∧ True → ((0 : Int) ≤ x.r ∧ x.r ≤ (↑(2 : Nat) : Int)) ∧ ((x.m != (0 : Int)) = true → (1 : Nat) ≤ (1 : Nat) ∧ ((0 : Nat) = (0 : Nat) ∧ x.r.toNat ≤ (2 : Nat) ∧ x.r.toNat ≤ (2 : Nat) ∧ (2 : Nat) ≤ (2 : Nat)
  ∧ (x.r.toNat + (1 : Nat)) * (8 : Nat) ≤ (140737488355328 : Nat) ∧ x.r.toNat + (1 : Nat) ≤ (9223372036854775807 : Nat) ∧ (∀ (_ : Nat), (1 : Nat) = (1 : Nat)) ∧ ∀ (_ : Nat), (1 : Nat) = (1 : Nat)) ∧ ∀ (cap' : Nat),
  x.r.toNat + (1 : Nat) ≤ cap' → (((0 : Int) ≤ if (↑x.n : Int) < (↑(x.r.toNat + (1 : Nat)) : Int) then (↑x.n : Int) else (↑(x.r.toNat + (1 : Nat)) : Int)) ∧ (if (↑x.n : Int) < (↑(x.r.toNat + (1 : Nat)) : Int) then (↑x.n :
  Int) else (↑(x.r.toNat + (1 : Nat)) : Int)) ≤ (↑cap' : Int)) ∧ (∃ (y : TI), (¬x.m = (0 : Int) ∧ y.i ≤ x.k ∧ x.r.toNat + (1 : Nat) ≤ y.cap) ∧ (((True ∧ True ∧ x.lo = x.lo ∧ x.n = x.n ∧ x.cap = x.cap) ∧ (True ∧ True) ∧
  (True ∧ True) ∧ (True ∧ True) ∧ (True ∧ True ∧ (0 : Nat) = (0 : Nat) ∧ (if (↑x.n : Int) < (↑(x.r.toNat + (1 : Nat)) : Int) then (↑x.n : Int) else (↑(x.r.toNat + (1 : Nat)) : Int)).toNat = x.k ∧ cap' = y.cap) ∧ (↑(if
  (↑x.n : Int) < (↑(x.r.toNat + (1 : Nat)) : Int) then (↑x.n : Int) else (↑(x.r.toNat + (1 : Nat)) : Int)).toNat : Int) = (↑x.k : Int) ∧ (0 : Int) = (↑y.i : Int) ∧ True) ∧ ((0 : Nat) ≤ (0 : Nat) ∧ x.N = x.N ∧ ∀ (j : Nat),
  j < x.N → x.f j = x.f j) ∧ ((3 : Nat) ≤ (3 : Nat) ∧ x.w = x.w ∧ x.r = x.r ∧ x.m = x.m ∧ True) ∧ ((4 : Nat) ≤ (4 : Nat) ∧ (0 : Int) = (0 : Int) ∧ (0 : Int) = (0 : Int) ∧ (0 : Int) = (0 : Int) ∧ (0 : Int) = (0 : Int) ∧
  True) ∧ ((4 : Nat) ≤ (4 : Nat) ∧ x.op = (x.at_ y.i).op ∧ (0 : Int) = (x.at_ y.i).a ∧ (0 : Int) = (x.at_ y.i).b ∧ (0 : Int) = (x.at_ y.i).imm ∧ True) ∧ (y.cap * (1 : Nat) ≤ cap' * (1 : Nat) ∧ x.r.toNat + (1 : Nat) =
  x.r.toNat + (1 : Nat) ∧ ∀ (j : Nat), j < x.r.toNat + (1 : Nat) → j.blt x.r.toNat = j.blt x.r.toNat ∧ (j.blt x.r.toNat = true → j.beq (0 : Nat) = j.beq (0 : Nat) ∧ (j.beq (0 : Nat) = true → True ∧ True) ∧ (j.beq (0 : Nat)
  = false → True ∧ True)) ∧ (j.blt x.r.toNat = false → True ∧ True)) ∧ True) ∧ True) ∧ ∀ (y : TI), ¬x.m = (0 : Int) ∧ y.i ≤ x.k ∧ x.r.toNat + (1 : Nat) ≤ y.cap → (decide ((↑y.i : Int) < (↑x.k : Int)) = true → ((0 : Int) ≤
  (↑y.i : Int) ∧ (↑y.i : Int) < (↑x.k : Int)) ∧ (0 : Nat) + (↑y.i : Int).toNat < x.r.toNat + (1 : Nat) ∧ (((0 : Nat) + (↑y.i : Int).toNat).blt x.r.toNat = true → (((0 : Nat) + (↑y.i : Int).toNat).beq (0 : Nat) = true → ∀
  (v : Int), v = (↑y.i : Int) → ((0 : Int) ≤ v ∧ v < (↑x.n : Int)) ∧ x.lo + v.toNat < x.N ∧ ((x.f (x.lo + v.toNat) = x.f (x.lo + v.toNat) ∧ True) ∧ True) ∧ ((x.f (x.lo + v.toNat)).size < (4294967281 : Nat) ∧ ∃ (v_1 : Int),
  atoiAll (trimPrefix (x.f (x.lo + v.toNat)).data.toList [(114 : UInt8)]) = NumEnd.ok v_1) ∧ ∃ (y_1 : TI), (¬x.m = (0 : Int) ∧ y_1.i ≤ x.k ∧ x.r.toNat + (1 : Nat) ≤ y_1.cap) ∧ (((True ∧ True ∧ x.lo = x.lo ∧ x.n = x.n ∧
  x.cap = x.cap) ∧ (True ∧ True) ∧ (True ∧ True) ∧ (True ∧ True) ∧ (True ∧ True ∧ (0 : Nat) = (0 : Nat) ∧ x.k = x.k ∧ y.cap = y_1.cap) ∧ (↑x.k : Int) = (↑x.k : Int) ∧ IntKind.i64.wrap ((↑y.i : Int) + (1 : Int)) = (↑y_1.i :
  Int) ∧ True) ∧ ((0 : Nat) ≤ (0 : Nat) ∧ x.N = x.N ∧ ∀ (j : Nat), j < x.N → x.f j = x.f j) ∧ ((3 : Nat) ≤ (3 : Nat) ∧ x.w = x.w ∧ x.r = x.r ∧ x.m = x.m ∧ True) ∧ ((4 : Nat) ≤ (4 : Nat) ∧ (0 : Int) = (0 : Int) ∧ (0 : Int)
  = (0 : Int) ∧ (0 : Int) = (0 : Int) ∧ (0 : Int) = (0 : Int) ∧ True) ∧ ((4 : Nat) ≤ (4 : Nat) ∧ (x.at_ y.i).op = (x.at_ y_1.i).op ∧ valL (x.f (x.lo + v.toNat)).data.toList = (x.at_ y_1.i).a ∧ (x.at_ y.i).b = (x.at_
  y_1.i).b ∧ (x.at_ y.i).imm = (x.at_ y_1.i).imm ∧ True) ∧ (y_1.cap * (1 : Nat) ≤ y.cap * (1 : Nat) ∧ x.r.toNat + (1 : Nat) = x.r.toNat + (1 : Nat) ∧ ∀ (j : Nat), j < x.r.toNat + (1 : Nat) → j.blt x.r.toNat = j.blt
  x.r.toNat ∧ (j.blt x.r.toNat = true → j.beq (0 : Nat) = j.beq (0 : Nat) ∧ (j.beq (0 : Nat) = true → True ∧ True) ∧ (j.beq (0 : Nat) = false → True ∧ True)) ∧ (j.blt x.r.toNat = false → True ∧ True)) ∧ True) ∧ (tkI x).μ
  y_1 < (tkI x).μ y) ∧ (((0 : Nat) + (↑y.i : Int).toNat).beq (0 : Nat) = false → ∀ (v : Int), v = (↑y.i : Int) → ((0 : Int) ≤ v ∧ v < (↑x.n : Int)) ∧ x.lo + v.toNat < x.N ∧ ((x.f (x.lo + v.toNat) = x.f (x.lo + v.toNat) ∧
  True) ∧ True) ∧ ((x.f (x.lo + v.toNat)).size < (4294967281 : Nat) ∧ ∃ (v_1 : Int), atoiAll (trimPrefix (x.f (x.lo + v.toNat)).data.toList [(114 : UInt8)]) = NumEnd.ok v_1) ∧ ∃ (y_1 : TI), (¬x.m = (0 : Int) ∧ y_1.i ≤ x.k
  ∧ x.r.toNat + (1 : Nat) ≤ y_1.cap) ∧ (((True ∧ True ∧ x.lo = x.lo ∧ x.n = x.n ∧ x.cap = x.cap) ∧ (True ∧ True) ∧ (True ∧ True) ∧ (True ∧ True) ∧ (True ∧ True ∧ (0 : Nat) = (0 : Nat) ∧ x.k = x.k ∧ y.cap = y_1.cap) ∧ (↑x.k
  : Int) = (↑x.k : Int) ∧ IntKind.i64.wrap ((↑y.i : Int) + (1 : Int)) = (↑y_1.i : Int) ∧ True) ∧ ((0 : Nat) ≤ (0 : Nat) ∧ x.N = x.N ∧ ∀ (j : Nat), j < x.N → x.f j = x.f j) ∧ ((3 : Nat) ≤ (3 : Nat) ∧ x.w = x.w ∧ x.r = x.r ∧
  x.m = x.m ∧ True) ∧ ((4 : Nat) ≤ (4 : Nat) ∧ (0 : Int) = (0 : Int) ∧ (0 : Int) = (0 : Int) ∧ (0 : Int) = (0 : Int) ∧ (0 : Int) = (0 : Int) ∧ True) ∧ ((4 : Nat) ≤ (4 : Nat) ∧ (x.at_ y.i).op = (x.at_ y_1.i).op ∧ (x.at_
  y.i).a = (x.at_ y_1.i).a ∧ valL (x.f (x.lo + v.toNat)).data.toList = (x.at_ y_1.i).b ∧ (x.at_ y.i).imm = (x.at_ y_1.i).imm ∧ True) ∧ (y_1.cap * (1 : Nat) ≤ y.cap * (1 : Nat) ∧ x.r.toNat + (1 : Nat) = x.r.toNat + (1 :
  Nat) ∧ ∀ (j : Nat), j < x.r.toNat + (1 : Nat) → j.blt x.r.toNat = j.blt x.r.toNat ∧ (j.blt x.r.toNat = true → j.beq (0 : Nat) = j.beq (0 : Nat) ∧ (j.beq (0 : Nat) = true → True ∧ True) ∧ (j.beq (0 : Nat) = false → True ∧
  True)) ∧ (j.blt x.r.toNat = false → True ∧ True)) ∧ True) ∧ (tkI x).μ y_1 < (tkI x).μ y)) ∧ (((0 : Nat) + (↑y.i : Int).toNat).blt x.r.toNat = false → ∀ (v : Int), v = (↑y.i : Int) → ((0 : Int) ≤ v ∧ v < (↑x.n : Int)) ∧
  x.lo + v.toNat < x.N ∧ ((x.f (x.lo + v.toNat) = x.f (x.lo + v.toNat) ∧ True) ∧ True) ∧ ((x.f (x.lo + v.toNat)).size < (4294967281 : Nat) ∧ ∃ (v_1 : Int), atoiAll (trimPrefix (x.f (x.lo + v.toNat)).data.toList [(114 :
  UInt8)]) = NumEnd.ok v_1) ∧ ∃ (y_1 : TI), (¬x.m = (0 : Int) ∧ y_1.i ≤ x.k ∧ x.r.toNat + (1 : Nat) ≤ y_1.cap) ∧ (((True ∧ True ∧ x.lo = x.lo ∧ x.n = x.n ∧ x.cap = x.cap) ∧ (True ∧ True) ∧ (True ∧ True) ∧ (True ∧ True) ∧
  (True ∧ True ∧ (0 : Nat) = (0 : Nat) ∧ x.k = x.k ∧ y.cap = y_1.cap) ∧ (↑x.k : Int) = (↑x.k : Int) ∧ IntKind.i64.wrap ((↑y.i : Int) + (1 : Int)) = (↑y_1.i : Int) ∧ True) ∧ ((0 : Nat) ≤ (0 : Nat) ∧ x.N = x.N ∧ ∀ (j : Nat),
  j < x.N → x.f j = x.f j) ∧ ((3 : Nat) ≤ (3 : Nat) ∧ x.w = x.w ∧ x.r = x.r ∧ x.m = x.m ∧ True) ∧ ((4 : Nat) ≤ (4 : Nat) ∧ (0 : Int) = (0 : Int) ∧ (0 : Int) = (0 : Int) ∧ (0 : Int) = (0 : Int) ∧ (0 : Int) = (0 : Int) ∧
  True) ∧ ((4 : Nat) ≤ (4 : Nat) ∧ (x.at_ y.i).op = (x.at_ y_1.i).op ∧ (x.at_ y.i).a = (x.at_ y_1.i).a ∧ (x.at_ y.i).b = (x.at_ y_1.i).b ∧ valL (x.f (x.lo + v.toNat)).data.toList = (x.at_ y_1.i).imm ∧ True) ∧ (y_1.cap * (1
  : Nat) ≤ y.cap * (1 : Nat) ∧ x.r.toNat + (1 : Nat) = x.r.toNat + (1 : Nat) ∧ ∀ (j : Nat), j < x.r.toNat + (1 : Nat) → j.blt x.r.toNat = j.blt x.r.toNat ∧ (j.blt x.r.toNat = true → j.beq (0 : Nat) = j.beq (0 : Nat) ∧
  (j.beq (0 : Nat) = true → True ∧ True) ∧ (j.beq (0 : Nat) = false → True ∧ True)) ∧ (j.blt x.r.toNat = false → True ∧ True)) ∧ True) ∧ (tkI x).μ y_1 < (tkI x).μ y)) ∧ (decide ((↑y.i : Int) < (↑x.k : Int)) = false → ((x.m
  == (3 : Int)) = true → x.Ok → ((x.at_ y.i).op = (takenI x.op x.r.toNat x.m.toNat x.l).op ∧ (x.at_ y.i).a = (takenI x.op x.r.toNat x.m.toNat x.l).a ∧ (x.at_ y.i).b = (takenI x.op x.r.toNat x.m.toNat x.l).b ∧ bits
  BinOp.and IntKind.i64 (x.at_ y.i).imm (65535 : Int) = (takenI x.op x.r.toNat x.m.toNat x.l).imm ∧ True) ∧ True ∧ ((0 : Nat) ≤ (0 : Nat) ∧ x.N = x.N ∧ ∀ (j : Nat), j < x.N → x.f j = x.f j) ∧ True) ∧ ((x.m == (3 : Int)) =
  false → x.Ok → ((x.at_ y.i).op = (takenI x.op x.r.toNat x.m.toNat x.l).op ∧ (x.at_ y.i).a = (takenI x.op x.r.toNat x.m.toNat x.l).a ∧ (x.at_ y.i).b = (takenI x.op x.r.toNat x.m.toNat x.l).b ∧ (x.at_ y.i).imm = (takenI
  x.op x.r.toNat x.m.toNat x.l).imm ∧ True) ∧ True ∧ ((0 : Nat) ≤ (0 : Nat) ∧ x.N = x.N ∧ ∀ (j : Nat), j < x.N → x.f j = x.f j) ∧ True))) ∧ ((x.m != (0 : Int)) = false → (((0 : Int) ≤ if (↑x.n : Int) < (↑x.r.toNat : Int)
  then (↑x.n : Int) else (↑x.r.toNat : Int)) ∧ (if (↑x.n : Int) < (↑x.r.toNat : Int) then (↑x.n : Int) else (↑x.r.toNat : Int)) ≤ (↑(2 : Nat) : Int)) ∧ (∃ (y : Nat), (x.m = (0 : Int) ∧ y ≤ x.k) ∧ (((True ∧ True ∧ x.lo =
  x.lo ∧ x.n = x.n ∧ x.cap = x.cap) ∧ (True ∧ True) ∧ (True ∧ True) ∧ (True ∧ True) ∧ (True ∧ True ∧ (0 : Nat) = (0 : Nat) ∧ (if (↑x.n : Int) < (↑x.r.toNat : Int) then (↑x.n : Int) else (↑x.r.toNat : Int)).toNat = x.k ∧ (2
  : Nat) = (2 : Nat)) ∧ (↑(if (↑x.n : Int) < (↑x.r.toNat : Int) then (↑x.n : Int) else (↑x.r.toNat : Int)).toNat : Int) = (↑x.k : Int) ∧ (0 : Int) = (↑y : Int) ∧ True) ∧ ((0 : Nat) ≤ (0 : Nat) ∧ x.N = x.N ∧ ∀ (j : Nat), j
  < x.N → x.f j = x.f j) ∧ ((3 : Nat) ≤ (3 : Nat) ∧ x.w = x.w ∧ x.r = x.r ∧ x.m = x.m ∧ True) ∧ ((4 : Nat) ≤ (4 : Nat) ∧ (0 : Int) = (0 : Int) ∧ (0 : Int) = (0 : Int) ∧ (0 : Int) = (0 : Int) ∧ (0 : Int) = (0 : Int) ∧ True)
  ∧ ((4 : Nat) ≤ (4 : Nat) ∧ x.op = (x.at_ y).op ∧ (0 : Int) = (x.at_ y).a ∧ (0 : Int) = (x.at_ y).b ∧ (0 : Int) = (x.at_ y).imm ∧ True) ∧ ((2 : Nat) ≤ (2 : Nat) ∧ (2 : Nat) = (2 : Nat) ∧ ∀ (j : Nat), j < (2 : Nat) → j.beq
  (0 : Nat) = j.beq (0 : Nat) ∧ (j.beq (0 : Nat) = true → True ∧ True) ∧ (j.beq (0 : Nat) = false → True ∧ True)) ∧ True) ∧ True) ∧ ∀ (y : Nat), x.m = (0 : Int) ∧ y ≤ x.k → (decide ((↑y : Int) < (↑x.k : Int)) = true → ((0
  : Int) ≤ (↑y : Int) ∧ (↑y : Int) < (↑x.k : Int)) ∧ (0 : Nat) + (↑y : Int).toNat < (2 : Nat) ∧ (((0 : Nat) + (↑y : Int).toNat).beq (0 : Nat) = true → ∀ (v : Int), v = (↑y : Int) → ((0 : Int) ≤ v ∧ v < (↑x.n : Int)) ∧ x.lo
  + v.toNat < x.N ∧ ((x.f (x.lo + v.toNat) = x.f (x.lo + v.toNat) ∧ True) ∧ True) ∧ ((x.f (x.lo + v.toNat)).size < (4294967281 : Nat) ∧ ∃ (v_1 : Int), atoiAll (trimPrefix (x.f (x.lo + v.toNat)).data.toList [(114 : UInt8)])
  = NumEnd.ok v_1) ∧ ∃ (y_1 : Nat), (x.m = (0 : Int) ∧ y_1 ≤ x.k) ∧ (((True ∧ True ∧ x.lo = x.lo ∧ x.n = x.n ∧ x.cap = x.cap) ∧ (True ∧ True) ∧ (True ∧ True) ∧ (True ∧ True) ∧ (True ∧ True ∧ (0 : Nat) = (0 : Nat) ∧ x.k =
  x.k ∧ (2 : Nat) = (2 : Nat)) ∧ (↑x.k : Int) = (↑x.k : Int) ∧ IntKind.i64.wrap ((↑y : Int) + (1 : Int)) = (↑y_1 : Int) ∧ True) ∧ ((0 : Nat) ≤ (0 : Nat) ∧ x.N = x.N ∧ ∀ (j : Nat), j < x.N → x.f j = x.f j) ∧ ((3 : Nat) ≤ (3
  : Nat) ∧ x.w = x.w ∧ x.r = x.r ∧ x.m = x.m ∧ True) ∧ ((4 : Nat) ≤ (4 : Nat) ∧ (0 : Int) = (0 : Int) ∧ (0 : Int) = (0 : Int) ∧ (0 : Int) = (0 : Int) ∧ (0 : Int) = (0 : Int) ∧ True) ∧ ((4 : Nat) ≤ (4 : Nat) ∧ (x.at_ y).op
  = (x.at_ y_1).op ∧ valL (x.f (x.lo + v.toNat)).data.toList = (x.at_ y_1).a ∧ (x.at_ y).b = (x.at_ y_1).b ∧ (x.at_ y).imm = (x.at_ y_1).imm ∧ True) ∧ ((2 : Nat) ≤ (2 : Nat) ∧ (2 : Nat) = (2 : Nat) ∧ ∀ (j : Nat), j < (2 :
  Nat) → j.beq (0 : Nat) = j.beq (0 : Nat) ∧ (j.beq (0 : Nat) = true → True ∧ True) ∧ (j.beq (0 : Nat) = false → True ∧ True)) ∧ True) ∧ (tkN x).μ y_1 < (tkN x).μ y) ∧ (((0 : Nat) + (↑y : Int).toNat).beq (0 : Nat) = false
  → ∀ (v : Int), v = (↑y : Int) → ((0 : Int) ≤ v ∧ v < (↑x.n : Int)) ∧ x.lo + v.toNat < x.N ∧ ((x.f (x.lo + v.toNat) = x.f (x.lo + v.toNat) ∧ True) ∧ True) ∧ ((x.f (x.lo + v.toNat)).size < (4294967281 : Nat) ∧ ∃ (v_1 :
  Int), atoiAll (trimPrefix (x.f (x.lo + v.toNat)).data.toList [(114 : UInt8)]) = NumEnd.ok v_1) ∧ ∃ (y_1 : Nat), (x.m = (0 : Int) ∧ y_1 ≤ x.k) ∧ (((True ∧ True ∧ x.lo = x.lo ∧ x.n = x.n ∧ x.cap = x.cap) ∧ (True ∧ True) ∧
  (True ∧ True) ∧ (True ∧ True) ∧ (True ∧ True ∧ (0 : Nat) = (0 : Nat) ∧ x.k = x.k ∧ (2 : Nat) = (2 : Nat)) ∧ (↑x.k : Int) = (↑x.k : Int) ∧ IntKind.i64.wrap ((↑y : Int) + (1 : Int)) = (↑y_1 : Int) ∧ True) ∧ ((0 : Nat) ≤ (0
  : Nat) ∧ x.N = x.N ∧ ∀ (j : Nat), j < x.N → x.f j = x.f j) ∧ ((3 : Nat) ≤ (3 : Nat) ∧ x.w = x.w ∧ x.r = x.r ∧ x.m = x.m ∧ True) ∧ ((4 : Nat) ≤ (4 : Nat) ∧ (0 : Int) = (0 : Int) ∧ (0 : Int) = (0 : Int) ∧ (0 : Int) = (0 :
  Int) ∧ (0 : Int) = (0 : Int) ∧ True) ∧ ((4 : Nat) ≤ (4 : Nat) ∧ (x.at_ y).op = (x.at_ y_1).op ∧ (x.at_ y).a = (x.at_ y_1).a ∧ valL (x.f (x.lo + v.toNat)).data.toList = (x.at_ y_1).b ∧ (x.at_ y).imm = (x.at_ y_1).imm ∧
  True) ∧ ((2 : Nat) ≤ (2 : Nat) ∧ (2 : Nat) = (2 : Nat) ∧ ∀ (j : Nat), j < (2 : Nat) → j.beq (0 : Nat) = j.beq (0 : Nat) ∧ (j.beq (0 : Nat) = true → True ∧ True) ∧ (j.beq (0 : Nat) = false → True ∧ True)) ∧ True) ∧ (tkN
  x).μ y_1 < (tkN x).μ y)) ∧ (decide ((↑y : Int) < (↑x.k : Int)) = false → ((x.m == (3 : Int)) = true → x.Ok → ((x.at_ y).op = (takenI x.op x.r.toNat x.m.toNat x.l).op ∧ (x.at_ y).a = (takenI x.op x.r.toNat x.m.toNat
  x.l).a ∧ (x.at_ y).b = (takenI x.op x.r.toNat x.m.toNat x.l).b ∧ bits BinOp.and IntKind.i64 (x.at_ y).imm (65535 : Int) = (takenI x.op x.r.toNat x.m.toNat x.l).imm ∧ True) ∧ True ∧ ((0 : Nat) ≤ (0 : Nat) ∧ x.N = x.N ∧ ∀
  (j : Nat), j < x.N → x.f j = x.f j) ∧ True) ∧ ((x.m == (3 : Int)) = false → x.Ok → ((x.at_ y).op = (takenI x.op x.r.toNat x.m.toNat x.l).op ∧ (x.at_ y).a = (takenI x.op x.r.toNat x.m.toNat x.l).a ∧ (x.at_ y).b = (takenI
  x.op x.r.toNat x.m.toNat x.l).b ∧ (x.at_ y).imm = (takenI x.op x.r.toNat x.m.toNat x.l).imm ∧ True) ∧ True ∧ ((0 : Nat) ≤ (0 : Nat) ∧ x.N = x.N ∧ ∀ (j : Nat), j < x.N → x.f j = x.f j) ∧ True))) := by
  simp only [true_and, and_true, eq_self, Nat.le_refl, decide_eq_true_eq, decide_eq_false_iff_not, beq_iff_eq, beq_eq_false_iff_ne, implies_true, and_self, bne_iff_ne, Int.not_lt, ne_eq, Nat.zero_add, Int.toNat_natCast, nblt_true, nblt_false, IntKind.wrap_i64, bne_eq_false_iff_eq]
  intro x hx
  have hx' := hx
  obtain ⟨h0, h1, h2, h3, h4, h4b, h5, h6⟩ := hx'
  have hsl := TK.slots_ hx
  have hk : x.k = min (slots x.r.toNat x.m.toNat) x.n := rfl
  refine ⟨by omega, fun hm => ⟨by omega, fun cap hcap => ⟨?_, ⟨⟨0, cap⟩, ⟨hm, Nat.zero_le _, hcap⟩, ⟨⟨?_, rfl⟩, ?_, rfl⟩, ?_, Nat.le_refl _⟩, fun y hy => ⟨fun hlt => ⟨by omega, ?_, fun hr => ⟨fun hz v hv => ?_, fun hz v hv => ?_⟩, fun hr v hv => ?_⟩, fun hge => TK.fin_ hx (by omega)⟩⟩⟩, fun hm => ⟨?_, ⟨0, ⟨hm, Nat.zero_le _⟩, ⟨?_, ?_, rfl⟩, ?_⟩, fun y hy => ⟨fun hlt => ⟨by omega, ?_, fun hz v hv => ?_, fun hz v hv => ?_⟩, fun hge => TK.fin_ hx (by omega)⟩⟩⟩
  · split <;> omega
  · rw [hk, hsl, if_neg hm]; split <;> omega
  · rw [hk, hsl, if_neg hm]; split <;> omega
  · refine ⟨rfl, ?_, ?_, ?_⟩ <;> simp only [TK.at_] <;> rw [if_neg (by omega)]
  · rw [hk, hsl, if_neg hm] at hlt; omega
  · have hz : y.i = 0 := Nat.eq_of_beq_eq_true hz
    have hv' : v.toNat = y.i := by omega
    rw [hk, hsl, if_neg hm] at hlt
    rw [hv']
    refine ⟨by omega, by omega, ⟨h6 _ (by omega), TK.num hx (by omega)⟩, ⟨y.i + 1, y.cap⟩, ⟨hm, by dsimp only; omega, by dsimp only; omega⟩, ⟨⟨rfl, by dsimp only; omega⟩, ⟨rfl, ?_, ?_, ?_⟩, Nat.le_refl _⟩, by show x.k - (y.i + 1) < x.k - y.i; omega⟩
    · rw [← x.val (by omega), hz]; simp only [TK.at_]; rw [if_pos (by omega)]
    · simp only [TK.at_]; rw [if_neg (by omega), if_neg (by omega)]
    · simp only [TK.at_]; rw [if_neg (by omega), if_neg (by omega)]
  · have hz : ¬ y.i = 0 := Nat.ne_of_beq_eq_false hz
    have hv' : v.toNat = y.i := by omega
    rw [hk, hsl, if_neg hm] at hlt
    have hi : y.i = 1 := by omega
    rw [hv']
    refine ⟨by omega, by omega, ⟨h6 _ (by omega), TK.num hx (by omega)⟩, ⟨y.i + 1, y.cap⟩, ⟨hm, by dsimp only; omega, by dsimp only; omega⟩, ⟨⟨rfl, by dsimp only; omega⟩, ⟨rfl, ?_, ?_, ?_⟩, Nat.le_refl _⟩, by show x.k - (y.i + 1) < x.k - y.i; omega⟩
    · simp only [TK.at_]; rw [if_pos (by omega), if_pos (by omega)]
    · rw [← x.val (by omega), hi]; simp only [TK.at_]; rw [if_pos (by omega)]
    · simp only [TK.at_]; rw [if_neg (by omega), if_neg (by omega)]
  · have hv' : v.toNat = y.i := by omega
    rw [hk, hsl, if_neg hm] at hlt
    have hs1 : slots x.r.toNat x.m.toNat = x.r.toNat + 1 := by rw [hsl, if_neg hm]
    have hkk : x.k = min (x.r.toNat + 1) x.n := by rw [hk, hs1]
    have hi : y.i = x.r.toNat := by omega
    have hin : y.i < x.n := by omega
    clear hsl
    rw [hv']
    refine ⟨by omega, by omega, ⟨h6 _ (by omega), TK.num hx (by omega)⟩, ⟨y.i + 1, y.cap⟩, ⟨hm, by dsimp only; omega, by dsimp only; omega⟩, ⟨⟨rfl, by dsimp only; omega⟩, ⟨rfl, ?_, ?_, ?_⟩, Nat.le_refl _⟩, by show x.k - (y.i + 1) < x.k - y.i; omega⟩
    · simp only [TK.at_]; split <;> split <;> first | rfl | omega
    · simp only [TK.at_]; split <;> split <;> first | rfl | omega
    · rw [← x.val (by omega), hi]; simp only [TK.at_]; rw [if_pos ⟨hm, by omega⟩]
  · split <;> omega
  · rw [hk, hsl, if_pos hm]; split <;> omega
  · rw [hk, hsl, if_pos hm]; split <;> omega
  · refine ⟨rfl, ?_, ?_, ?_⟩ <;> simp only [TK.at_] <;> rw [if_neg (by omega)]
  · rw [hk, hsl, if_pos hm] at hlt; omega
  · have hz : y = 0 := Nat.eq_of_beq_eq_true hz
    have hv' : v.toNat = y := by omega
    rw [hk, hsl, if_pos hm] at hlt
    rw [hv']
    refine ⟨by omega, by omega, ⟨h6 _ (by omega), TK.num hx (by omega)⟩, y + 1, ⟨hm, by omega⟩, ⟨by omega, rfl, ?_, ?_, ?_⟩, by show x.k - (y + 1) < x.k - y; omega⟩
    · rw [← x.val (by omega), hz]; simp only [TK.at_]; rw [if_pos (by omega)]
    · simp only [TK.at_]; rw [if_neg (by omega), if_neg (by omega)]
    · simp only [TK.at_]; rw [if_neg (by omega), if_neg (by omega)]
  · have hz : ¬ y = 0 := Nat.ne_of_beq_eq_false hz
    have hv' : v.toNat = y := by omega
    rw [hk, hsl, if_pos hm] at hlt
    have hi : y = 1 := by omega
    rw [hv']
    refine ⟨by omega, by omega, ⟨h6 _ (by omega), TK.num hx (by omega)⟩, y + 1, ⟨hm, by omega⟩, ⟨by omega, rfl, ?_, ?_, ?_⟩, by show x.k - (y + 1) < x.k - y; omega⟩
    · simp only [TK.at_]; rw [if_pos (by omega), if_pos (by omega)]
    · rw [← x.val (by omega), hi]; simp only [TK.at_]; rw [if_pos (by omega)]
    · simp only [TK.at_]; rw [if_neg (by omega), if_neg (by omega)]

def taken_C (x : TK) : Cfg := { Γ := Go.Sx.look tTk, names := true, loops := tkL x, left := true }
theorem taken_al (x : TK) : Shown (tkP.vc Tryd.prog (taken_C x) Tryd.f35 x) := ⟨@Eq.mp _ _ (by kernel_rfl) (taken_vc x)⟩
theorem taken_ok : SpOk Tryd.prog 35 tkP.sp := @Pat.okS _ tkP Tryd.prog taken_C 35 Tryd.f35 (fun x => cfg_tab rfl tTk_ok) (by kernel_rfl) Tryd.func35 (fun _ => rfl) taken_al
end Go.Proofs.YtjofnajamlmllaaDoor
