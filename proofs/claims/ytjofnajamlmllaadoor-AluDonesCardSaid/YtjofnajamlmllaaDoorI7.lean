import Derived.Test.YtjofnajamlmllaaDoorI6
open Go Go.Sx Go.Proofs
set_option maxRecDepth 100000
namespace Go.Proofs.YtjofnajamlmllaaDoor
open Go.RowKit Go.Lib Go.Isa

noncomputable section
def sp1 : ByteArray := { data := #[32] }
theorem split_data (s : ByteArray) : (splitOf s sp1).map (·.data.toList) = pieces 32 s.data.toList := by
  unfold splitOf
  rw [splitB_data]
  exact split_pieces 32 s.data.toList
theorem split_len (s : ByteArray) : (splitOf s sp1).length = (pieces 32 s.data.toList).length := by rw [← split_data, List.length_map]
theorem split_at (s : ByteArray) (j : Nat) : ((ofL (splitOf s sp1)).f j).data.toList = (pieces 32 s.data.toList)[j]?.getD [] := by
  rw [← split_data, List.getElem?_map]
  show ((splitOf s sp1)[j]?.getD ByteArray.empty).data.toList = _
  cases (splitOf s sp1)[j]? <;> rfl
theorem split_pos (s : ByteArray) : 0 < (splitOf s sp1).length := by
  rw [split_len]
  exact List.length_pos_iff.2 (pieces_ne _ _)
theorem rest_eq (s : ByteArray) (op r m : Int) (w : ByteArray) :
    (TK.mk op r m w (if (ofL (splitOf s sp1)).cap = Int.toNat 1 then 0 else 1) ((ofL (splitOf s sp1)).n - Int.toNat 1) ((ofL (splitOf s sp1)).cap - Int.toNat 1) (ofL (splitOf s sp1)).n (fun j => (ofL (splitOf s sp1)).f j)).l = (pieces 32 s.data.toList).tail := by
  have hn := split_len s
  have hp := split_pos s
  unfold TK.l
  apply List.ext_getElem?
  intro j
  simp only [List.getElem?_map]
  show (Option.map _ (List.range ((splitOf s sp1).length - 1))[j]?) = _
  rw [List.getElem?_tail]
  by_cases h : j < (splitOf s sp1).length - 1
  · rw [List.getElem?_range h, Option.map_some, split_at]
    have : (if (ofL (splitOf s sp1)).cap = Int.toNat 1 then 0 else 1) = 1 := if_neg (by show ¬ (splitOf s sp1).length = 1; omega)
    rw [this, Nat.add_comm, List.getElem?_eq_getElem (by omega)]
    rfl
  · rw [List.getElem?_eq_none (by simp; omega), List.getElem?_eq_none (by omega)]
    rfl
def rdF (s : ByteArray) : Fam where
  α := Nat
  I k := k ≤ 28 ∧ (s.size < 4294967281 ∧ PreRead s.data.toList) ∧ ∀ y, Right y → y.op < k → lineL y ≠ s.data.toList
  st k := { sl := mkSl 33 [(0, .str s), (2, p0 0), (4, (ofL (splitOf s sp1)).v 1), (10, formsT), (11, .int .i64 k)], H := [newReg 40 (insT ⟨0, 0, 0, 0⟩), (ofL (splitOf s sp1)).row] }
  μ k := 28 - k
def rdM : Nat → Nat
  | 6 => 1
  | _ => 0
def rdLk : Nat → List Nat
  | 6 => [2]
  | _ => []
def rdP : Pat ByteArray where
  view | [.str s], _ => some s | _, _ => none
  args s := [.str s]
  H _ := []
  out s := .need (s.size < 4294967281 ∧ PreRead s.data.toList) (.retq (.tup (.cons (insT (readX s.data.toList)) (.cons (.bool (readB s.data.toList)) .nil))))
def tRd : Tab := [(34, splitP.sp), (29, formsP.sp), (35, tkP.sp), (36, lineP.sp)]
theorem tRd_ok : TabOk Tryd.prog tRd := (tab_cons split_ok (tab_cons forms_ok (tab_cons taken_ok (tab_cons line_ok tab_nil))))

theorem read_vc : ∀ (s : ByteArray), (s.size < (4294967281 : Nat) ∧ ∀ (op : Nat), op < (28 : Nat) → (pieces (32 : UInt8) s.data.toList).head? = some (wordL op) → ∀ (k : Nat) (s_1 : List UInt8), k < slots (regsN op) (immN op) → (pieces (32
  : UInt8) s.data.toList).tail[k]? = some s_1 → ∃ (v : Int), atoiAll (trimPrefix s_1 [(114 : UInt8)]) = NumEnd.ok v) ∧ True → ((s = s ∧ ByteArray.mk #[(32 : UInt8)] = ByteArray.mk #[(32 : UInt8)] ∧ True) ∧ True) ∧ (s.size
  < (4294967281 : Nat) ∧ (1 : Nat) ≤ (ByteArray.mk #[(32 : UInt8)]).size) ∧ (True ∧ True) ∧ (∃ (y : Nat), (y ≤ (28 : Nat) ∧ (s.size < (4294967281 : Nat) ∧ ∀ (op : Nat), op < (28 : Nat) → (pieces (32 : UInt8)
  s.data.toList).head? = some (wordL op) → ∀ (k : Nat) (s_1 : List UInt8), k < slots (regsN op) (immN op) → (pieces (32 : UInt8) s.data.toList).tail[k]? = some s_1 → ∃ (v : Int), atoiAll (trimPrefix s_1 [(114 : UInt8)]) =
  NumEnd.ok v) ∧ ∀ (y_1 : Ins), ((0 : Int) ≤ y_1.op ∧ y_1.op ≤ (27 : Int)) ∧ ((0 : Int) ≤ y_1.a ∧ y_1.a ≤ (15 : Int)) ∧ ((0 : Int) ≤ y_1.b ∧ y_1.b ≤ (15 : Int)) ∧ ((0 : Int) ≤ y_1.imm ∧ y_1.imm ≤ (65535 : Int)) ∧ (regsN
  y_1.op.toNat < (1 : Nat) → y_1.a = (0 : Int)) ∧ (regsN y_1.op.toNat < (2 : Nat) → y_1.b = (0 : Int)) ∧ (immN y_1.op.toNat = (0 : Nat) → y_1.imm = (0 : Int)) ∧ (immN y_1.op.toNat = (2 : Nat) → y_1.imm < (16 : Int)) →
  y_1.op < (↑y : Int) → lineL y_1 ≠ s.data.toList) ∧ ((s = s ∧ (True ∧ True) ∧ (True ∧ True ∧ (0 : Nat) = (0 : Nat) ∧ (ofL (splitOf s (ByteArray.mk #[(32 : UInt8)]))).n = (ofL (splitOf s sp1)).n ∧ (ofL (splitOf s
  (ByteArray.mk #[(32 : UInt8)]))).cap = (ofL (splitOf s sp1)).cap) ∧ ((28 : Nat) = (28 : Nat) ∧ ∀ (j : Nat), j < (28 : Nat) → bs (wordL j) = bs (wordL j) ∧ (↑(regsN j) : Int) = (↑(regsN j) : Int) ∧ (↑(immN j) : Int) =
  (↑(immN j) : Int) ∧ True) ∧ (0 : Int) = (↑y : Int) ∧ True) ∧ ((4 : Nat) ≤ (4 : Nat) ∧ (0 : Int) = (0 : Int) ∧ (0 : Int) = (0 : Int) ∧ (0 : Int) = (0 : Int) ∧ (0 : Int) = (0 : Int) ∧ True) ∧ ((ofL (splitOf s sp1)).cap *
  (1 : Nat) ≤ (ofL (splitOf s (ByteArray.mk #[(32 : UInt8)]))).cap * (1 : Nat) ∧ (ofL (splitOf s sp1)).n = (ofL (splitOf s (ByteArray.mk #[(32 : UInt8)]))).n ∧ ∀ (j : Nat), j < (ofL (splitOf s (ByteArray.mk #[(32 :
  UInt8)]))).n → (ofL (splitOf s (ByteArray.mk #[(32 : UInt8)]))).f j = (ofL (splitOf s sp1)).f j) ∧ True) ∧ True) ∧ ∀ (y : Nat), (y ≤ (28 : Nat) ∧ (s.size < (4294967281 : Nat) ∧ ∀ (op : Nat), op < (28 : Nat) → (pieces (32
  : UInt8) s.data.toList).head? = some (wordL op) → ∀ (k : Nat) (s_1 : List UInt8), k < slots (regsN op) (immN op) → (pieces (32 : UInt8) s.data.toList).tail[k]? = some s_1 → ∃ (v : Int), atoiAll (trimPrefix s_1 [(114 :
  UInt8)]) = NumEnd.ok v) ∧ ∀ (y_1 : Ins), ((0 : Int) ≤ y_1.op ∧ y_1.op ≤ (27 : Int)) ∧ ((0 : Int) ≤ y_1.a ∧ y_1.a ≤ (15 : Int)) ∧ ((0 : Int) ≤ y_1.b ∧ y_1.b ≤ (15 : Int)) ∧ ((0 : Int) ≤ y_1.imm ∧ y_1.imm ≤ (65535 : Int))
  ∧ (regsN y_1.op.toNat < (1 : Nat) → y_1.a = (0 : Int)) ∧ (regsN y_1.op.toNat < (2 : Nat) → y_1.b = (0 : Int)) ∧ (immN y_1.op.toNat = (0 : Nat) → y_1.imm = (0 : Int)) ∧ (immN y_1.op.toNat = (2 : Nat) → y_1.imm < (16 :
  Int)) → y_1.op < (↑y : Int) → lineL y_1 ≠ s.data.toList) → (decide ((↑y : Int) < (28 : Int)) = true → ((0 : Int) ≤ (↑y : Int) ∧ (↑y : Int) < (↑(28 : Nat) : Int)) ∧ ∀ (v : Int), v = (↑y : Int) → ((0 : Int) ≤ (0 : Int) ∧
  (0 : Int) < (↑(ofL (splitOf s sp1)).n : Int)) ∧ (0 : Nat) < (ofL (splitOf s sp1)).n ∧ ((!decide (bs (wordL (↑y : Int).toNat) = (ofL (splitOf s sp1)).f (0 : Nat))) = true → ∃ (y_1 : Nat), (y_1 ≤ (28 : Nat) ∧ (s.size <
  (4294967281 : Nat) ∧ ∀ (op : Nat), op < (28 : Nat) → (pieces (32 : UInt8) s.data.toList).head? = some (wordL op) → ∀ (k : Nat) (s_1 : List UInt8), k < slots (regsN op) (immN op) → (pieces (32 : UInt8)
  s.data.toList).tail[k]? = some s_1 → ∃ (v : Int), atoiAll (trimPrefix s_1 [(114 : UInt8)]) = NumEnd.ok v) ∧ ∀ (y : Ins), ((0 : Int) ≤ y.op ∧ y.op ≤ (27 : Int)) ∧ ((0 : Int) ≤ y.a ∧ y.a ≤ (15 : Int)) ∧ ((0 : Int) ≤ y.b ∧
  y.b ≤ (15 : Int)) ∧ ((0 : Int) ≤ y.imm ∧ y.imm ≤ (65535 : Int)) ∧ (regsN y.op.toNat < (1 : Nat) → y.a = (0 : Int)) ∧ (regsN y.op.toNat < (2 : Nat) → y.b = (0 : Int)) ∧ (immN y.op.toNat = (0 : Nat) → y.imm = (0 : Int)) ∧
  (immN y.op.toNat = (2 : Nat) → y.imm < (16 : Int)) → y.op < (↑y_1 : Int) → lineL y ≠ s.data.toList) ∧ ((s = s ∧ (True ∧ True) ∧ (True ∧ True ∧ (0 : Nat) = (0 : Nat) ∧ (ofL (splitOf s sp1)).n = (ofL (splitOf s sp1)).n ∧
  (ofL (splitOf s sp1)).cap = (ofL (splitOf s sp1)).cap) ∧ ((28 : Nat) = (28 : Nat) ∧ ∀ (j : Nat), j < (28 : Nat) → bs (wordL j) = bs (wordL j) ∧ (↑(regsN j) : Int) = (↑(regsN j) : Int) ∧ (↑(immN j) : Int) = (↑(immN j) :
  Int) ∧ True) ∧ IntKind.i64.wrap ((↑y : Int) + (1 : Int)) = (↑y_1 : Int) ∧ True) ∧ ((4 : Nat) ≤ (4 : Nat) ∧ (0 : Int) = (0 : Int) ∧ (0 : Int) = (0 : Int) ∧ (0 : Int) = (0 : Int) ∧ (0 : Int) = (0 : Int) ∧ True) ∧ ((ofL
  (splitOf s sp1)).cap * (1 : Nat) ≤ (ofL (splitOf s sp1)).cap * (1 : Nat) ∧ (ofL (splitOf s sp1)).n = (ofL (splitOf s sp1)).n ∧ ∀ (j : Nat), j < (ofL (splitOf s sp1)).n → (ofL (splitOf s sp1)).f j = (ofL (splitOf s
  sp1)).f j) ∧ True) ∧ (rdF s).μ y_1 < (rdF s).μ y) ∧ ((!decide (bs (wordL (↑y : Int).toNat) = (ofL (splitOf s sp1)).f (0 : Nat))) = false → ((0 : Int) ≤ (1 : Int) ∧ (1 : Int) ≤ (↑(ofL (splitOf s sp1)).n : Int)) ∧ (((v = v
  ∧ (bs (wordL (↑y : Int).toNat) = bs (wordL (↑y : Int).toNat) ∧ (↑(regsN (↑y : Int).toNat) : Int) = (↑(regsN (↑y : Int).toNat) : Int) ∧ (↑(immN (↑y : Int).toNat) : Int) = (↑(immN (↑y : Int).toNat) : Int) ∧ True) ∧ (True ∧
  True ∧ ((if (ofL (splitOf s sp1)).cap = Int.toNat (1 : Int) then (0 : Nat) else (1 : Nat)) = if (ofL (splitOf s sp1)).cap = Int.toNat (1 : Int) then (0 : Nat) else (1 : Nat)) ∧ (ofL (splitOf s sp1)).n - Int.toNat (1 :
  Int) = (ofL (splitOf s sp1)).n - Int.toNat (1 : Int) ∧ (ofL (splitOf s sp1)).cap - Int.toNat (1 : Int) = (ofL (splitOf s sp1)).cap - Int.toNat (1 : Int)) ∧ True) ∧ ((0 : Nat) ≤ (ofL (splitOf s sp1)).cap * (1 : Nat) ∧
  (ofL (splitOf s sp1)).n = (ofL (splitOf s sp1)).n ∧ ∀ (j : Nat), j < (ofL (splitOf s sp1)).n → (ofL (splitOf s sp1)).f j = (ofL (splitOf s sp1)).f j) ∧ True) ∧ (TK.mk v (↑(regsN (↑y : Int).toNat) : Int) (↑(immN (↑y :
  Int).toNat) : Int) (bs (wordL (↑y : Int).toNat)) (if (ofL (splitOf s sp1)).cap = Int.toNat (1 : Int) then (0 : Nat) else (1 : Nat)) ((ofL (splitOf s sp1)).n - Int.toNat (1 : Int)) ((ofL (splitOf s sp1)).cap - Int.toNat
  (1 : Int)) (ofL (splitOf s sp1)).n fun (j : Nat) => (ofL (splitOf s sp1)).f j).Ok ∧ ((((takenI v (↑(regsN (↑y : Int).toNat) : Int).toNat (↑(immN (↑y : Int).toNat) : Int).toNat (TK.mk v (↑(regsN (↑y : Int).toNat) : Int)
  (↑(immN (↑y : Int).toNat) : Int) (bs (wordL (↑y : Int).toNat)) (if (ofL (splitOf s sp1)).cap = Int.toNat (1 : Int) then (0 : Nat) else (1 : Nat)) ((ofL (splitOf s sp1)).n - Int.toNat (1 : Int)) ((ofL (splitOf s sp1)).cap
  - Int.toNat (1 : Int)) (ofL (splitOf s sp1)).n fun (j : Nat) => (ofL (splitOf s sp1)).f j).l).op = (takenI v (↑(regsN (↑y : Int).toNat) : Int).toNat (↑(immN (↑y : Int).toNat) : Int).toNat (TK.mk v (↑(regsN (↑y :
  Int).toNat) : Int) (↑(immN (↑y : Int).toNat) : Int) (bs (wordL (↑y : Int).toNat)) (if (ofL (splitOf s sp1)).cap = Int.toNat (1 : Int) then (0 : Nat) else (1 : Nat)) ((ofL (splitOf s sp1)).n - Int.toNat (1 : Int)) ((ofL
  (splitOf s sp1)).cap - Int.toNat (1 : Int)) (ofL (splitOf s sp1)).n fun (j : Nat) => (ofL (splitOf s sp1)).f j).l).op ∧ (takenI v (↑(regsN (↑y : Int).toNat) : Int).toNat (↑(immN (↑y : Int).toNat) : Int).toNat (TK.mk v
  (↑(regsN (↑y : Int).toNat) : Int) (↑(immN (↑y : Int).toNat) : Int) (bs (wordL (↑y : Int).toNat)) (if (ofL (splitOf s sp1)).cap = Int.toNat (1 : Int) then (0 : Nat) else (1 : Nat)) ((ofL (splitOf s sp1)).n - Int.toNat (1
  : Int)) ((ofL (splitOf s sp1)).cap - Int.toNat (1 : Int)) (ofL (splitOf s sp1)).n fun (j : Nat) => (ofL (splitOf s sp1)).f j).l).a = (takenI v (↑(regsN (↑y : Int).toNat) : Int).toNat (↑(immN (↑y : Int).toNat) :
  Int).toNat (TK.mk v (↑(regsN (↑y : Int).toNat) : Int) (↑(immN (↑y : Int).toNat) : Int) (bs (wordL (↑y : Int).toNat)) (if (ofL (splitOf s sp1)).cap = Int.toNat (1 : Int) then (0 : Nat) else (1 : Nat)) ((ofL (splitOf s
  sp1)).n - Int.toNat (1 : Int)) ((ofL (splitOf s sp1)).cap - Int.toNat (1 : Int)) (ofL (splitOf s sp1)).n fun (j : Nat) => (ofL (splitOf s sp1)).f j).l).a ∧ (takenI v (↑(regsN (↑y : Int).toNat) : Int).toNat (↑(immN (↑y :
  Int).toNat) : Int).toNat (TK.mk v (↑(regsN (↑y : Int).toNat) : Int) (↑(immN (↑y : Int).toNat) : Int) (bs (wordL (↑y : Int).toNat)) (if (ofL (splitOf s sp1)).cap = Int.toNat (1 : Int) then (0 : Nat) else (1 : Nat)) ((ofL
  (splitOf s sp1)).n - Int.toNat (1 : Int)) ((ofL (splitOf s sp1)).cap - Int.toNat (1 : Int)) (ofL (splitOf s sp1)).n fun (j : Nat) => (ofL (splitOf s sp1)).f j).l).b = (takenI v (↑(regsN (↑y : Int).toNat) : Int).toNat
  (↑(immN (↑y : Int).toNat) : Int).toNat (TK.mk v (↑(regsN (↑y : Int).toNat) : Int) (↑(immN (↑y : Int).toNat) : Int) (bs (wordL (↑y : Int).toNat)) (if (ofL (splitOf s sp1)).cap = Int.toNat (1 : Int) then (0 : Nat) else (1
  : Nat)) ((ofL (splitOf s sp1)).n - Int.toNat (1 : Int)) ((ofL (splitOf s sp1)).cap - Int.toNat (1 : Int)) (ofL (splitOf s sp1)).n fun (j : Nat) => (ofL (splitOf s sp1)).f j).l).b ∧ (takenI v (↑(regsN (↑y : Int).toNat) :
  Int).toNat (↑(immN (↑y : Int).toNat) : Int).toNat (TK.mk v (↑(regsN (↑y : Int).toNat) : Int) (↑(immN (↑y : Int).toNat) : Int) (bs (wordL (↑y : Int).toNat)) (if (ofL (splitOf s sp1)).cap = Int.toNat (1 : Int) then (0 :
  Nat) else (1 : Nat)) ((ofL (splitOf s sp1)).n - Int.toNat (1 : Int)) ((ofL (splitOf s sp1)).cap - Int.toNat (1 : Int)) (ofL (splitOf s sp1)).n fun (j : Nat) => (ofL (splitOf s sp1)).f j).l).imm = (takenI v (↑(regsN (↑y :
  Int).toNat) : Int).toNat (↑(immN (↑y : Int).toNat) : Int).toNat (TK.mk v (↑(regsN (↑y : Int).toNat) : Int) (↑(immN (↑y : Int).toNat) : Int) (bs (wordL (↑y : Int).toNat)) (if (ofL (splitOf s sp1)).cap = Int.toNat (1 :
  Int) then (0 : Nat) else (1 : Nat)) ((ofL (splitOf s sp1)).n - Int.toNat (1 : Int)) ((ofL (splitOf s sp1)).cap - Int.toNat (1 : Int)) (ofL (splitOf s sp1)).n fun (j : Nat) => (ofL (splitOf s sp1)).f j).l).imm ∧ True) ∧
  True) ∧ True) ∧ insI (Ins.mk (takenI v (↑(regsN (↑y : Int).toNat) : Int).toNat (↑(immN (↑y : Int).toNat) : Int).toNat (TK.mk v (↑(regsN (↑y : Int).toNat) : Int) (↑(immN (↑y : Int).toNat) : Int) (bs (wordL (↑y :
  Int).toNat)) (if (ofL (splitOf s sp1)).cap = Int.toNat (1 : Int) then (0 : Nat) else (1 : Nat)) ((ofL (splitOf s sp1)).n - Int.toNat (1 : Int)) ((ofL (splitOf s sp1)).cap - Int.toNat (1 : Int)) (ofL (splitOf s sp1)).n
  fun (j : Nat) => (ofL (splitOf s sp1)).f j).l).op (takenI v (↑(regsN (↑y : Int).toNat) : Int).toNat (↑(immN (↑y : Int).toNat) : Int).toNat (TK.mk v (↑(regsN (↑y : Int).toNat) : Int) (↑(immN (↑y : Int).toNat) : Int) (bs
  (wordL (↑y : Int).toNat)) (if (ofL (splitOf s sp1)).cap = Int.toNat (1 : Int) then (0 : Nat) else (1 : Nat)) ((ofL (splitOf s sp1)).n - Int.toNat (1 : Int)) ((ofL (splitOf s sp1)).cap - Int.toNat (1 : Int)) (ofL (splitOf
  s sp1)).n fun (j : Nat) => (ofL (splitOf s sp1)).f j).l).a (takenI v (↑(regsN (↑y : Int).toNat) : Int).toNat (↑(immN (↑y : Int).toNat) : Int).toNat (TK.mk v (↑(regsN (↑y : Int).toNat) : Int) (↑(immN (↑y : Int).toNat) :
  Int) (bs (wordL (↑y : Int).toNat)) (if (ofL (splitOf s sp1)).cap = Int.toNat (1 : Int) then (0 : Nat) else (1 : Nat)) ((ofL (splitOf s sp1)).n - Int.toNat (1 : Int)) ((ofL (splitOf s sp1)).cap - Int.toNat (1 : Int)) (ofL
  (splitOf s sp1)).n fun (j : Nat) => (ofL (splitOf s sp1)).f j).l).b (takenI v (↑(regsN (↑y : Int).toNat) : Int).toNat (↑(immN (↑y : Int).toNat) : Int).toNat (TK.mk v (↑(regsN (↑y : Int).toNat) : Int) (↑(immN (↑y :
  Int).toNat) : Int) (bs (wordL (↑y : Int).toNat)) (if (ofL (splitOf s sp1)).cap = Int.toNat (1 : Int) then (0 : Nat) else (1 : Nat)) ((ofL (splitOf s sp1)).n - Int.toNat (1 : Int)) ((ofL (splitOf s sp1)).cap - Int.toNat
  (1 : Int)) (ofL (splitOf s sp1)).n fun (j : Nat) => (ofL (splitOf s sp1)).f j).l).imm) ∧ (decide (lineB (Ins.mk (takenI v (↑(regsN (↑y : Int).toNat) : Int).toNat (↑(immN (↑y : Int).toNat) : Int).toNat (TK.mk v (↑(regsN
  (↑y : Int).toNat) : Int) (↑(immN (↑y : Int).toNat) : Int) (bs (wordL (↑y : Int).toNat)) (if (ofL (splitOf s sp1)).cap = Int.toNat (1 : Int) then (0 : Nat) else (1 : Nat)) ((ofL (splitOf s sp1)).n - Int.toNat (1 : Int))
  ((ofL (splitOf s sp1)).cap - Int.toNat (1 : Int)) (ofL (splitOf s sp1)).n fun (j : Nat) => (ofL (splitOf s sp1)).f j).l).op (takenI v (↑(regsN (↑y : Int).toNat) : Int).toNat (↑(immN (↑y : Int).toNat) : Int).toNat (TK.mk
  v (↑(regsN (↑y : Int).toNat) : Int) (↑(immN (↑y : Int).toNat) : Int) (bs (wordL (↑y : Int).toNat)) (if (ofL (splitOf s sp1)).cap = Int.toNat (1 : Int) then (0 : Nat) else (1 : Nat)) ((ofL (splitOf s sp1)).n - Int.toNat
  (1 : Int)) ((ofL (splitOf s sp1)).cap - Int.toNat (1 : Int)) (ofL (splitOf s sp1)).n fun (j : Nat) => (ofL (splitOf s sp1)).f j).l).a (takenI v (↑(regsN (↑y : Int).toNat) : Int).toNat (↑(immN (↑y : Int).toNat) :
  Int).toNat (TK.mk v (↑(regsN (↑y : Int).toNat) : Int) (↑(immN (↑y : Int).toNat) : Int) (bs (wordL (↑y : Int).toNat)) (if (ofL (splitOf s sp1)).cap = Int.toNat (1 : Int) then (0 : Nat) else (1 : Nat)) ((ofL (splitOf s
  sp1)).n - Int.toNat (1 : Int)) ((ofL (splitOf s sp1)).cap - Int.toNat (1 : Int)) (ofL (splitOf s sp1)).n fun (j : Nat) => (ofL (splitOf s sp1)).f j).l).b (takenI v (↑(regsN (↑y : Int).toNat) : Int).toNat (↑(immN (↑y :
  Int).toNat) : Int).toNat (TK.mk v (↑(regsN (↑y : Int).toNat) : Int) (↑(immN (↑y : Int).toNat) : Int) (bs (wordL (↑y : Int).toNat)) (if (ofL (splitOf s sp1)).cap = Int.toNat (1 : Int) then (0 : Nat) else (1 : Nat)) ((ofL
  (splitOf s sp1)).n - Int.toNat (1 : Int)) ((ofL (splitOf s sp1)).cap - Int.toNat (1 : Int)) (ofL (splitOf s sp1)).n fun (j : Nat) => (ofL (splitOf s sp1)).f j).l).imm) = s) = true → (s.size < (4294967281 : Nat) ∧ ∀ (op :
  Nat), op < (28 : Nat) → (pieces (32 : UInt8) s.data.toList).head? = some (wordL op) → ∀ (k : Nat) (s_1 : List UInt8), k < slots (regsN op) (immN op) → (pieces (32 : UInt8) s.data.toList).tail[k]? = some s_1 → ∃ (v :
  Int), atoiAll (trimPrefix s_1 [(114 : UInt8)]) = NumEnd.ok v) → (((takenI v (↑(regsN (↑y : Int).toNat) : Int).toNat (↑(immN (↑y : Int).toNat) : Int).toNat (TK.mk v (↑(regsN (↑y : Int).toNat) : Int) (↑(immN (↑y :
  Int).toNat) : Int) (bs (wordL (↑y : Int).toNat)) (if (ofL (splitOf s sp1)).cap = Int.toNat (1 : Int) then (0 : Nat) else (1 : Nat)) ((ofL (splitOf s sp1)).n - Int.toNat (1 : Int)) ((ofL (splitOf s sp1)).cap - Int.toNat
  (1 : Int)) (ofL (splitOf s sp1)).n fun (j : Nat) => (ofL (splitOf s sp1)).f j).l).op = (readX s.data.toList).op ∧ (takenI v (↑(regsN (↑y : Int).toNat) : Int).toNat (↑(immN (↑y : Int).toNat) : Int).toNat (TK.mk v (↑(regsN
  (↑y : Int).toNat) : Int) (↑(immN (↑y : Int).toNat) : Int) (bs (wordL (↑y : Int).toNat)) (if (ofL (splitOf s sp1)).cap = Int.toNat (1 : Int) then (0 : Nat) else (1 : Nat)) ((ofL (splitOf s sp1)).n - Int.toNat (1 : Int))
  ((ofL (splitOf s sp1)).cap - Int.toNat (1 : Int)) (ofL (splitOf s sp1)).n fun (j : Nat) => (ofL (splitOf s sp1)).f j).l).a = (readX s.data.toList).a ∧ (takenI v (↑(regsN (↑y : Int).toNat) : Int).toNat (↑(immN (↑y :
  Int).toNat) : Int).toNat (TK.mk v (↑(regsN (↑y : Int).toNat) : Int) (↑(immN (↑y : Int).toNat) : Int) (bs (wordL (↑y : Int).toNat)) (if (ofL (splitOf s sp1)).cap = Int.toNat (1 : Int) then (0 : Nat) else (1 : Nat)) ((ofL
  (splitOf s sp1)).n - Int.toNat (1 : Int)) ((ofL (splitOf s sp1)).cap - Int.toNat (1 : Int)) (ofL (splitOf s sp1)).n fun (j : Nat) => (ofL (splitOf s sp1)).f j).l).b = (readX s.data.toList).b ∧ (takenI v (↑(regsN (↑y :
  Int).toNat) : Int).toNat (↑(immN (↑y : Int).toNat) : Int).toNat (TK.mk v (↑(regsN (↑y : Int).toNat) : Int) (↑(immN (↑y : Int).toNat) : Int) (bs (wordL (↑y : Int).toNat)) (if (ofL (splitOf s sp1)).cap = Int.toNat (1 :
  Int) then (0 : Nat) else (1 : Nat)) ((ofL (splitOf s sp1)).n - Int.toNat (1 : Int)) ((ofL (splitOf s sp1)).cap - Int.toNat (1 : Int)) (ofL (splitOf s sp1)).n fun (j : Nat) => (ofL (splitOf s sp1)).f j).l).imm = (readX
  s.data.toList).imm ∧ True) ∧ readB s.data.toList = true ∧ True) ∧ True ∧ True) ∧ (decide (lineB (Ins.mk (takenI v (↑(regsN (↑y : Int).toNat) : Int).toNat (↑(immN (↑y : Int).toNat) : Int).toNat (TK.mk v (↑(regsN (↑y :
  Int).toNat) : Int) (↑(immN (↑y : Int).toNat) : Int) (bs (wordL (↑y : Int).toNat)) (if (ofL (splitOf s sp1)).cap = Int.toNat (1 : Int) then (0 : Nat) else (1 : Nat)) ((ofL (splitOf s sp1)).n - Int.toNat (1 : Int)) ((ofL
  (splitOf s sp1)).cap - Int.toNat (1 : Int)) (ofL (splitOf s sp1)).n fun (j : Nat) => (ofL (splitOf s sp1)).f j).l).op (takenI v (↑(regsN (↑y : Int).toNat) : Int).toNat (↑(immN (↑y : Int).toNat) : Int).toNat (TK.mk v
  (↑(regsN (↑y : Int).toNat) : Int) (↑(immN (↑y : Int).toNat) : Int) (bs (wordL (↑y : Int).toNat)) (if (ofL (splitOf s sp1)).cap = Int.toNat (1 : Int) then (0 : Nat) else (1 : Nat)) ((ofL (splitOf s sp1)).n - Int.toNat (1
  : Int)) ((ofL (splitOf s sp1)).cap - Int.toNat (1 : Int)) (ofL (splitOf s sp1)).n fun (j : Nat) => (ofL (splitOf s sp1)).f j).l).a (takenI v (↑(regsN (↑y : Int).toNat) : Int).toNat (↑(immN (↑y : Int).toNat) : Int).toNat
  (TK.mk v (↑(regsN (↑y : Int).toNat) : Int) (↑(immN (↑y : Int).toNat) : Int) (bs (wordL (↑y : Int).toNat)) (if (ofL (splitOf s sp1)).cap = Int.toNat (1 : Int) then (0 : Nat) else (1 : Nat)) ((ofL (splitOf s sp1)).n -
  Int.toNat (1 : Int)) ((ofL (splitOf s sp1)).cap - Int.toNat (1 : Int)) (ofL (splitOf s sp1)).n fun (j : Nat) => (ofL (splitOf s sp1)).f j).l).b (takenI v (↑(regsN (↑y : Int).toNat) : Int).toNat (↑(immN (↑y : Int).toNat)
  : Int).toNat (TK.mk v (↑(regsN (↑y : Int).toNat) : Int) (↑(immN (↑y : Int).toNat) : Int) (bs (wordL (↑y : Int).toNat)) (if (ofL (splitOf s sp1)).cap = Int.toNat (1 : Int) then (0 : Nat) else (1 : Nat)) ((ofL (splitOf s
  sp1)).n - Int.toNat (1 : Int)) ((ofL (splitOf s sp1)).cap - Int.toNat (1 : Int)) (ofL (splitOf s sp1)).n fun (j : Nat) => (ofL (splitOf s sp1)).f j).l).imm) = s) = false → ∃ (y_1 : Nat), (y_1 ≤ (28 : Nat) ∧ (s.size <
  (4294967281 : Nat) ∧ ∀ (op : Nat), op < (28 : Nat) → (pieces (32 : UInt8) s.data.toList).head? = some (wordL op) → ∀ (k : Nat) (s_1 : List UInt8), k < slots (regsN op) (immN op) → (pieces (32 : UInt8)
  s.data.toList).tail[k]? = some s_1 → ∃ (v : Int), atoiAll (trimPrefix s_1 [(114 : UInt8)]) = NumEnd.ok v) ∧ ∀ (y : Ins), ((0 : Int) ≤ y.op ∧ y.op ≤ (27 : Int)) ∧ ((0 : Int) ≤ y.a ∧ y.a ≤ (15 : Int)) ∧ ((0 : Int) ≤ y.b ∧
  y.b ≤ (15 : Int)) ∧ ((0 : Int) ≤ y.imm ∧ y.imm ≤ (65535 : Int)) ∧ (regsN y.op.toNat < (1 : Nat) → y.a = (0 : Int)) ∧ (regsN y.op.toNat < (2 : Nat) → y.b = (0 : Int)) ∧ (immN y.op.toNat = (0 : Nat) → y.imm = (0 : Int)) ∧
  (immN y.op.toNat = (2 : Nat) → y.imm < (16 : Int)) → y.op < (↑y_1 : Int) → lineL y ≠ s.data.toList) ∧ ((s = s ∧ (True ∧ True) ∧ (True ∧ True ∧ (0 : Nat) = (0 : Nat) ∧ (ofL (splitOf s sp1)).n = (ofL (splitOf s sp1)).n ∧
  (ofL (splitOf s sp1)).cap = (ofL (splitOf s sp1)).cap) ∧ ((28 : Nat) = (28 : Nat) ∧ ∀ (j : Nat), j < (28 : Nat) → bs (wordL j) = bs (wordL j) ∧ (↑(regsN j) : Int) = (↑(regsN j) : Int) ∧ (↑(immN j) : Int) = (↑(immN j) :
  Int) ∧ True) ∧ IntKind.i64.wrap ((↑y : Int) + (1 : Int)) = (↑y_1 : Int) ∧ True) ∧ ((4 : Nat) ≤ (4 : Nat) ∧ (0 : Int) = (0 : Int) ∧ (0 : Int) = (0 : Int) ∧ (0 : Int) = (0 : Int) ∧ (0 : Int) = (0 : Int) ∧ True) ∧ ((ofL
  (splitOf s sp1)).cap * (1 : Nat) ≤ (ofL (splitOf s sp1)).cap * (1 : Nat) ∧ (ofL (splitOf s sp1)).n = (ofL (splitOf s sp1)).n ∧ ∀ (j : Nat), j < (ofL (splitOf s sp1)).n → (ofL (splitOf s sp1)).f j = (ofL (splitOf s
  sp1)).f j) ∧ True) ∧ (rdF s).μ y_1 < (rdF s).μ y)) ∧ ((v = v ∧ (bs (wordL (↑y : Int).toNat) = bs (wordL (↑y : Int).toNat) ∧ (↑(regsN (↑y : Int).toNat) : Int) = (↑(regsN (↑y : Int).toNat) : Int) ∧ (↑(immN (↑y :
  Int).toNat) : Int) = (↑(immN (↑y : Int).toNat) : Int) ∧ True) ∧ (True ∧ True ∧ ((if (ofL (splitOf s sp1)).cap = Int.toNat (1 : Int) then (0 : Nat) else (1 : Nat)) = if (ofL (splitOf s sp1)).cap = Int.toNat (1 : Int) then
  (0 : Nat) else (1 : Nat)) ∧ (ofL (splitOf s sp1)).n - Int.toNat (1 : Int) = (ofL (splitOf s sp1)).n - Int.toNat (1 : Int) ∧ (ofL (splitOf s sp1)).cap - Int.toNat (1 : Int) = (ofL (splitOf s sp1)).cap - Int.toNat (1 :
  Int)) ∧ True) ∧ ((0 : Nat) ≤ (ofL (splitOf s sp1)).cap * (1 : Nat) ∧ (ofL (splitOf s sp1)).n = (ofL (splitOf s sp1)).n ∧ ∀ (j : Nat), j < (ofL (splitOf s sp1)).n → (ofL (splitOf s sp1)).f j = (ofL (splitOf s sp1)).f j) ∧
  True) ∧ (TK.mk v (↑(regsN (↑y : Int).toNat) : Int) (↑(immN (↑y : Int).toNat) : Int) (bs (wordL (↑y : Int).toNat)) (if (ofL (splitOf s sp1)).cap = Int.toNat (1 : Int) then (0 : Nat) else (1 : Nat)) ((ofL (splitOf s
  sp1)).n - Int.toNat (1 : Int)) ((ofL (splitOf s sp1)).cap - Int.toNat (1 : Int)) (ofL (splitOf s sp1)).n fun (j : Nat) => (ofL (splitOf s sp1)).f j).Ok ∧ ((((takenI v (↑(regsN (↑y : Int).toNat) : Int).toNat (↑(immN (↑y :
  Int).toNat) : Int).toNat (TK.mk v (↑(regsN (↑y : Int).toNat) : Int) (↑(immN (↑y : Int).toNat) : Int) (bs (wordL (↑y : Int).toNat)) (if (ofL (splitOf s sp1)).cap = Int.toNat (1 : Int) then (0 : Nat) else (1 : Nat)) ((ofL
  (splitOf s sp1)).n - Int.toNat (1 : Int)) ((ofL (splitOf s sp1)).cap - Int.toNat (1 : Int)) (ofL (splitOf s sp1)).n fun (j : Nat) => (ofL (splitOf s sp1)).f j).l).op = (takenI v (↑(regsN (↑y : Int).toNat) : Int).toNat
  (↑(immN (↑y : Int).toNat) : Int).toNat (TK.mk v (↑(regsN (↑y : Int).toNat) : Int) (↑(immN (↑y : Int).toNat) : Int) (bs (wordL (↑y : Int).toNat)) (if (ofL (splitOf s sp1)).cap = Int.toNat (1 : Int) then (0 : Nat) else (1
  : Nat)) ((ofL (splitOf s sp1)).n - Int.toNat (1 : Int)) ((ofL (splitOf s sp1)).cap - Int.toNat (1 : Int)) (ofL (splitOf s sp1)).n fun (j : Nat) => (ofL (splitOf s sp1)).f j).l).op ∧ (takenI v (↑(regsN (↑y : Int).toNat) :
  Int).toNat (↑(immN (↑y : Int).toNat) : Int).toNat (TK.mk v (↑(regsN (↑y : Int).toNat) : Int) (↑(immN (↑y : Int).toNat) : Int) (bs (wordL (↑y : Int).toNat)) (if (ofL (splitOf s sp1)).cap = Int.toNat (1 : Int) then (0 :
  Nat) else (1 : Nat)) ((ofL (splitOf s sp1)).n - Int.toNat (1 : Int)) ((ofL (splitOf s sp1)).cap - Int.toNat (1 : Int)) (ofL (splitOf s sp1)).n fun (j : Nat) => (ofL (splitOf s sp1)).f j).l).a = (takenI v (↑(regsN (↑y :
  Int).toNat) : Int).toNat (↑(immN (↑y : Int).toNat) : Int).toNat (TK.mk v (↑(regsN (↑y : Int).toNat) : Int) (↑(immN (↑y : Int).toNat) : Int) (bs (wordL (↑y : Int).toNat)) (if (ofL (splitOf s sp1)).cap = Int.toNat (1 :
  Int) then (0 : Nat) else (1 : Nat)) ((ofL (splitOf s sp1)).n - Int.toNat (1 : Int)) ((ofL (splitOf s sp1)).cap - Int.toNat (1 : Int)) (ofL (splitOf s sp1)).n fun (j : Nat) => (ofL (splitOf s sp1)).f j).l).a ∧ (takenI v
  (↑(regsN (↑y : Int).toNat) : Int).toNat (↑(immN (↑y : Int).toNat) : Int).toNat (TK.mk v (↑(regsN (↑y : Int).toNat) : Int) (↑(immN (↑y : Int).toNat) : Int) (bs (wordL (↑y : Int).toNat)) (if (ofL (splitOf s sp1)).cap =
  Int.toNat (1 : Int) then (0 : Nat) else (1 : Nat)) ((ofL (splitOf s sp1)).n - Int.toNat (1 : Int)) ((ofL (splitOf s sp1)).cap - Int.toNat (1 : Int)) (ofL (splitOf s sp1)).n fun (j : Nat) => (ofL (splitOf s sp1)).f
  j).l).b = (takenI v (↑(regsN (↑y : Int).toNat) : Int).toNat (↑(immN (↑y : Int).toNat) : Int).toNat (TK.mk v (↑(regsN (↑y : Int).toNat) : Int) (↑(immN (↑y : Int).toNat) : Int) (bs (wordL (↑y : Int).toNat)) (if (ofL
  (splitOf s sp1)).cap = Int.toNat (1 : Int) then (0 : Nat) else (1 : Nat)) ((ofL (splitOf s sp1)).n - Int.toNat (1 : Int)) ((ofL (splitOf s sp1)).cap - Int.toNat (1 : Int)) (ofL (splitOf s sp1)).n fun (j : Nat) => (ofL
  (splitOf s sp1)).f j).l).b ∧ (takenI v (↑(regsN (↑y : Int).toNat) : Int).toNat (↑(immN (↑y : Int).toNat) : Int).toNat (TK.mk v (↑(regsN (↑y : Int).toNat) : Int) (↑(immN (↑y : Int).toNat) : Int) (bs (wordL (↑y :
  Int).toNat)) (if (ofL (splitOf s sp1)).cap = Int.toNat (1 : Int) then (0 : Nat) else (1 : Nat)) ((ofL (splitOf s sp1)).n - Int.toNat (1 : Int)) ((ofL (splitOf s sp1)).cap - Int.toNat (1 : Int)) (ofL (splitOf s sp1)).n
  fun (j : Nat) => (ofL (splitOf s sp1)).f j).l).imm = (takenI v (↑(regsN (↑y : Int).toNat) : Int).toNat (↑(immN (↑y : Int).toNat) : Int).toNat (TK.mk v (↑(regsN (↑y : Int).toNat) : Int) (↑(immN (↑y : Int).toNat) : Int)
  (bs (wordL (↑y : Int).toNat)) (if (ofL (splitOf s sp1)).cap = Int.toNat (1 : Int) then (0 : Nat) else (1 : Nat)) ((ofL (splitOf s sp1)).n - Int.toNat (1 : Int)) ((ofL (splitOf s sp1)).cap - Int.toNat (1 : Int)) (ofL
  (splitOf s sp1)).n fun (j : Nat) => (ofL (splitOf s sp1)).f j).l).imm ∧ True) ∧ True) ∧ True) ∧ insI (Ins.mk (takenI v (↑(regsN (↑y : Int).toNat) : Int).toNat (↑(immN (↑y : Int).toNat) : Int).toNat (TK.mk v (↑(regsN (↑y
  : Int).toNat) : Int) (↑(immN (↑y : Int).toNat) : Int) (bs (wordL (↑y : Int).toNat)) (if (ofL (splitOf s sp1)).cap = Int.toNat (1 : Int) then (0 : Nat) else (1 : Nat)) ((ofL (splitOf s sp1)).n - Int.toNat (1 : Int)) ((ofL
  (splitOf s sp1)).cap - Int.toNat (1 : Int)) (ofL (splitOf s sp1)).n fun (j : Nat) => (ofL (splitOf s sp1)).f j).l).op (takenI v (↑(regsN (↑y : Int).toNat) : Int).toNat (↑(immN (↑y : Int).toNat) : Int).toNat (TK.mk v
  (↑(regsN (↑y : Int).toNat) : Int) (↑(immN (↑y : Int).toNat) : Int) (bs (wordL (↑y : Int).toNat)) (if (ofL (splitOf s sp1)).cap = Int.toNat (1 : Int) then (0 : Nat) else (1 : Nat)) ((ofL (splitOf s sp1)).n - Int.toNat (1
  : Int)) ((ofL (splitOf s sp1)).cap - Int.toNat (1 : Int)) (ofL (splitOf s sp1)).n fun (j : Nat) => (ofL (splitOf s sp1)).f j).l).a (takenI v (↑(regsN (↑y : Int).toNat) : Int).toNat (↑(immN (↑y : Int).toNat) : Int).toNat
  (TK.mk v (↑(regsN (↑y : Int).toNat) : Int) (↑(immN (↑y : Int).toNat) : Int) (bs (wordL (↑y : Int).toNat)) (if (ofL (splitOf s sp1)).cap = Int.toNat (1 : Int) then (0 : Nat) else (1 : Nat)) ((ofL (splitOf s sp1)).n -
  Int.toNat (1 : Int)) ((ofL (splitOf s sp1)).cap - Int.toNat (1 : Int)) (ofL (splitOf s sp1)).n fun (j : Nat) => (ofL (splitOf s sp1)).f j).l).b (takenI v (↑(regsN (↑y : Int).toNat) : Int).toNat (↑(immN (↑y : Int).toNat)
  : Int).toNat (TK.mk v (↑(regsN (↑y : Int).toNat) : Int) (↑(immN (↑y : Int).toNat) : Int) (bs (wordL (↑y : Int).toNat)) (if (ofL (splitOf s sp1)).cap = Int.toNat (1 : Int) then (0 : Nat) else (1 : Nat)) ((ofL (splitOf s
  sp1)).n - Int.toNat (1 : Int)) ((ofL (splitOf s sp1)).cap - Int.toNat (1 : Int)) (ofL (splitOf s sp1)).n fun (j : Nat) => (ofL (splitOf s sp1)).f j).l).imm) ∧ (decide (lineB (Ins.mk (takenI v (↑(regsN (↑y : Int).toNat) :
  Int).toNat (↑(immN (↑y : Int).toNat) : Int).toNat (TK.mk v (↑(regsN (↑y : Int).toNat) : Int) (↑(immN (↑y : Int).toNat) : Int) (bs (wordL (↑y : Int).toNat)) (if (ofL (splitOf s sp1)).cap = Int.toNat (1 : Int) then (0 :
  Nat) else (1 : Nat)) ((ofL (splitOf s sp1)).n - Int.toNat (1 : Int)) ((ofL (splitOf s sp1)).cap - Int.toNat (1 : Int)) (ofL (splitOf s sp1)).n fun (j : Nat) => (ofL (splitOf s sp1)).f j).l).op (takenI v (↑(regsN (↑y :
  Int).toNat) : Int).toNat (↑(immN (↑y : Int).toNat) : Int).toNat (TK.mk v (↑(regsN (↑y : Int).toNat) : Int) (↑(immN (↑y : Int).toNat) : Int) (bs (wordL (↑y : Int).toNat)) (if (ofL (splitOf s sp1)).cap = Int.toNat (1 :
  Int) then (0 : Nat) else (1 : Nat)) ((ofL (splitOf s sp1)).n - Int.toNat (1 : Int)) ((ofL (splitOf s sp1)).cap - Int.toNat (1 : Int)) (ofL (splitOf s sp1)).n fun (j : Nat) => (ofL (splitOf s sp1)).f j).l).a (takenI v
  (↑(regsN (↑y : Int).toNat) : Int).toNat (↑(immN (↑y : Int).toNat) : Int).toNat (TK.mk v (↑(regsN (↑y : Int).toNat) : Int) (↑(immN (↑y : Int).toNat) : Int) (bs (wordL (↑y : Int).toNat)) (if (ofL (splitOf s sp1)).cap =
  Int.toNat (1 : Int) then (0 : Nat) else (1 : Nat)) ((ofL (splitOf s sp1)).n - Int.toNat (1 : Int)) ((ofL (splitOf s sp1)).cap - Int.toNat (1 : Int)) (ofL (splitOf s sp1)).n fun (j : Nat) => (ofL (splitOf s sp1)).f
  j).l).b (takenI v (↑(regsN (↑y : Int).toNat) : Int).toNat (↑(immN (↑y : Int).toNat) : Int).toNat (TK.mk v (↑(regsN (↑y : Int).toNat) : Int) (↑(immN (↑y : Int).toNat) : Int) (bs (wordL (↑y : Int).toNat)) (if (ofL (splitOf
  s sp1)).cap = Int.toNat (1 : Int) then (0 : Nat) else (1 : Nat)) ((ofL (splitOf s sp1)).n - Int.toNat (1 : Int)) ((ofL (splitOf s sp1)).cap - Int.toNat (1 : Int)) (ofL (splitOf s sp1)).n fun (j : Nat) => (ofL (splitOf s
  sp1)).f j).l).imm) = s) = true → (s.size < (4294967281 : Nat) ∧ ∀ (op : Nat), op < (28 : Nat) → (pieces (32 : UInt8) s.data.toList).head? = some (wordL op) → ∀ (k : Nat) (s_1 : List UInt8), k < slots (regsN op) (immN op)
  → (pieces (32 : UInt8) s.data.toList).tail[k]? = some s_1 → ∃ (v : Int), atoiAll (trimPrefix s_1 [(114 : UInt8)]) = NumEnd.ok v) → (((takenI v (↑(regsN (↑y : Int).toNat) : Int).toNat (↑(immN (↑y : Int).toNat) :
  Int).toNat (TK.mk v (↑(regsN (↑y : Int).toNat) : Int) (↑(immN (↑y : Int).toNat) : Int) (bs (wordL (↑y : Int).toNat)) (if (ofL (splitOf s sp1)).cap = Int.toNat (1 : Int) then (0 : Nat) else (1 : Nat)) ((ofL (splitOf s
  sp1)).n - Int.toNat (1 : Int)) ((ofL (splitOf s sp1)).cap - Int.toNat (1 : Int)) (ofL (splitOf s sp1)).n fun (j : Nat) => (ofL (splitOf s sp1)).f j).l).op = (readX s.data.toList).op ∧ (takenI v (↑(regsN (↑y : Int).toNat)
  : Int).toNat (↑(immN (↑y : Int).toNat) : Int).toNat (TK.mk v (↑(regsN (↑y : Int).toNat) : Int) (↑(immN (↑y : Int).toNat) : Int) (bs (wordL (↑y : Int).toNat)) (if (ofL (splitOf s sp1)).cap = Int.toNat (1 : Int) then (0 :
  Nat) else (1 : Nat)) ((ofL (splitOf s sp1)).n - Int.toNat (1 : Int)) ((ofL (splitOf s sp1)).cap - Int.toNat (1 : Int)) (ofL (splitOf s sp1)).n fun (j : Nat) => (ofL (splitOf s sp1)).f j).l).a = (readX s.data.toList).a ∧
  (takenI v (↑(regsN (↑y : Int).toNat) : Int).toNat (↑(immN (↑y : Int).toNat) : Int).toNat (TK.mk v (↑(regsN (↑y : Int).toNat) : Int) (↑(immN (↑y : Int).toNat) : Int) (bs (wordL (↑y : Int).toNat)) (if (ofL (splitOf s
  sp1)).cap = Int.toNat (1 : Int) then (0 : Nat) else (1 : Nat)) ((ofL (splitOf s sp1)).n - Int.toNat (1 : Int)) ((ofL (splitOf s sp1)).cap - Int.toNat (1 : Int)) (ofL (splitOf s sp1)).n fun (j : Nat) => (ofL (splitOf s
  sp1)).f j).l).b = (readX s.data.toList).b ∧ (takenI v (↑(regsN (↑y : Int).toNat) : Int).toNat (↑(immN (↑y : Int).toNat) : Int).toNat (TK.mk v (↑(regsN (↑y : Int).toNat) : Int) (↑(immN (↑y : Int).toNat) : Int) (bs (wordL
  (↑y : Int).toNat)) (if (ofL (splitOf s sp1)).cap = Int.toNat (1 : Int) then (0 : Nat) else (1 : Nat)) ((ofL (splitOf s sp1)).n - Int.toNat (1 : Int)) ((ofL (splitOf s sp1)).cap - Int.toNat (1 : Int)) (ofL (splitOf s
  sp1)).n fun (j : Nat) => (ofL (splitOf s sp1)).f j).l).imm = (readX s.data.toList).imm ∧ True) ∧ readB s.data.toList = true ∧ True) ∧ True ∧ True) ∧ (decide (lineB (Ins.mk (takenI v (↑(regsN (↑y : Int).toNat) :
  Int).toNat (↑(immN (↑y : Int).toNat) : Int).toNat (TK.mk v (↑(regsN (↑y : Int).toNat) : Int) (↑(immN (↑y : Int).toNat) : Int) (bs (wordL (↑y : Int).toNat)) (if (ofL (splitOf s sp1)).cap = Int.toNat (1 : Int) then (0 :
  Nat) else (1 : Nat)) ((ofL (splitOf s sp1)).n - Int.toNat (1 : Int)) ((ofL (splitOf s sp1)).cap - Int.toNat (1 : Int)) (ofL (splitOf s sp1)).n fun (j : Nat) => (ofL (splitOf s sp1)).f j).l).op (takenI v (↑(regsN (↑y :
  Int).toNat) : Int).toNat (↑(immN (↑y : Int).toNat) : Int).toNat (TK.mk v (↑(regsN (↑y : Int).toNat) : Int) (↑(immN (↑y : Int).toNat) : Int) (bs (wordL (↑y : Int).toNat)) (if (ofL (splitOf s sp1)).cap = Int.toNat (1 :
  Int) then (0 : Nat) else (1 : Nat)) ((ofL (splitOf s sp1)).n - Int.toNat (1 : Int)) ((ofL (splitOf s sp1)).cap - Int.toNat (1 : Int)) (ofL (splitOf s sp1)).n fun (j : Nat) => (ofL (splitOf s sp1)).f j).l).a (takenI v
  (↑(regsN (↑y : Int).toNat) : Int).toNat (↑(immN (↑y : Int).toNat) : Int).toNat (TK.mk v (↑(regsN (↑y : Int).toNat) : Int) (↑(immN (↑y : Int).toNat) : Int) (bs (wordL (↑y : Int).toNat)) (if (ofL (splitOf s sp1)).cap =
  Int.toNat (1 : Int) then (0 : Nat) else (1 : Nat)) ((ofL (splitOf s sp1)).n - Int.toNat (1 : Int)) ((ofL (splitOf s sp1)).cap - Int.toNat (1 : Int)) (ofL (splitOf s sp1)).n fun (j : Nat) => (ofL (splitOf s sp1)).f
  j).l).b (takenI v (↑(regsN (↑y : Int).toNat) : Int).toNat (↑(immN (↑y : Int).toNat) : Int).toNat (TK.mk v (↑(regsN (↑y : Int).toNat) : Int) (↑(immN (↑y : Int).toNat) : Int) (bs (wordL (↑y : Int).toNat)) (if (ofL (splitOf
  s sp1)).cap = Int.toNat (1 : Int) then (0 : Nat) else (1 : Nat)) ((ofL (splitOf s sp1)).n - Int.toNat (1 : Int)) ((ofL (splitOf s sp1)).cap - Int.toNat (1 : Int)) (ofL (splitOf s sp1)).n fun (j : Nat) => (ofL (splitOf s
  sp1)).f j).l).imm) = s) = false → ∃ (y_1 : Nat), (y_1 ≤ (28 : Nat) ∧ (s.size < (4294967281 : Nat) ∧ ∀ (op : Nat), op < (28 : Nat) → (pieces (32 : UInt8) s.data.toList).head? = some (wordL op) → ∀ (k : Nat) (s_1 : List
  UInt8), k < slots (regsN op) (immN op) → (pieces (32 : UInt8) s.data.toList).tail[k]? = some s_1 → ∃ (v : Int), atoiAll (trimPrefix s_1 [(114 : UInt8)]) = NumEnd.ok v) ∧ ∀ (y : Ins), ((0 : Int) ≤ y.op ∧ y.op ≤ (27 :
  Int)) ∧ ((0 : Int) ≤ y.a ∧ y.a ≤ (15 : Int)) ∧ ((0 : Int) ≤ y.b ∧ y.b ≤ (15 : Int)) ∧ ((0 : Int) ≤ y.imm ∧ y.imm ≤ (65535 : Int)) ∧ (regsN y.op.toNat < (1 : Nat) → y.a = (0 : Int)) ∧ (regsN y.op.toNat < (2 : Nat) → y.b =
  (0 : Int)) ∧ (immN y.op.toNat = (0 : Nat) → y.imm = (0 : Int)) ∧ (immN y.op.toNat = (2 : Nat) → y.imm < (16 : Int)) → y.op < (↑y_1 : Int) → lineL y ≠ s.data.toList) ∧ ((s = s ∧ (True ∧ True) ∧ (True ∧ True ∧ (0 : Nat) =
  (0 : Nat) ∧ (ofL (splitOf s sp1)).n = (ofL (splitOf s sp1)).n ∧ (ofL (splitOf s sp1)).cap = (ofL (splitOf s sp1)).cap) ∧ ((28 : Nat) = (28 : Nat) ∧ ∀ (j : Nat), j < (28 : Nat) → bs (wordL j) = bs (wordL j) ∧ (↑(regsN j)
  : Int) = (↑(regsN j) : Int) ∧ (↑(immN j) : Int) = (↑(immN j) : Int) ∧ True) ∧ IntKind.i64.wrap ((↑y : Int) + (1 : Int)) = (↑y_1 : Int) ∧ True) ∧ ((4 : Nat) ≤ (4 : Nat) ∧ (0 : Int) = (0 : Int) ∧ (0 : Int) = (0 : Int) ∧ (0
  : Int) = (0 : Int) ∧ (0 : Int) = (0 : Int) ∧ True) ∧ ((ofL (splitOf s sp1)).cap * (1 : Nat) ≤ (ofL (splitOf s sp1)).cap * (1 : Nat) ∧ (ofL (splitOf s sp1)).n = (ofL (splitOf s sp1)).n ∧ ∀ (j : Nat), j < (ofL (splitOf s
  sp1)).n → (ofL (splitOf s sp1)).f j = (ofL (splitOf s sp1)).f j) ∧ True) ∧ (rdF s).μ y_1 < (rdF s).μ y))) ∧ (decide ((↑y : Int) < (28 : Int)) = false → (s.size < (4294967281 : Nat) ∧ ∀ (op : Nat), op < (28 : Nat) →
  (pieces (32 : UInt8) s.data.toList).head? = some (wordL op) → ∀ (k : Nat) (s_1 : List UInt8), k < slots (regsN op) (immN op) → (pieces (32 : UInt8) s.data.toList).tail[k]? = some s_1 → ∃ (v : Int), atoiAll (trimPrefix
  s_1 [(114 : UInt8)]) = NumEnd.ok v) → (((0 : Int) = (readX s.data.toList).op ∧ (0 : Int) = (readX s.data.toList).a ∧ (0 : Int) = (readX s.data.toList).b ∧ (0 : Int) = (readX s.data.toList).imm ∧ True) ∧ readB
  s.data.toList = false ∧ True) ∧ True ∧ True) := by
  simp only [true_and, and_true, eq_self, Nat.le_refl, decide_eq_true_eq, decide_eq_false_iff_not, implies_true, and_self, Int.not_lt, ne_eq, Int.toNat_natCast, IntKind.wrap_i64, Bool.not_eq_true', Bool.not_eq_false']
  intro s hs
  have hpre : PreRead s.data.toList := hs.2
  have hp : 0 < (ofL (splitOf s sp1)).n := split_pos s
  have hn : (ofL (splitOf s sp1)).n = (pieces 32 s.data.toList).length := split_len s
  have f0 := split_at s 0
  obtain ⟨pl1, pl2⟩ := pieces_le 32 s.data.toList
  have hsz : s.data.toList.length = s.size := rfl
  have hcap : (ofL (splitOf s sp1)).cap = (ofL (splitOf s sp1)).n := rfl
  simp only [rest_eq, ins_eta]
  refine ⟨⟨hs.1, by decide⟩, ⟨0, ⟨Nat.zero_le _, hs, fun y hy h => by have := hy.1; omega⟩, ⟨⟨rfl, rfl⟩, rfl⟩, Nat.le_refl _, rfl, fun _ _ => rfl⟩, fun k hk => ⟨fun hlt => ⟨by omega, fun v hv => ?_⟩, fun hge _ => ?_⟩⟩
  · obtain ⟨hk1, _, hno⟩ := hk
    have hlt : k < 28 := by omega
    have next : (∀ y, Right y → y.op.toNat = k → lineL y ≠ s.data.toList) → ∃ y_1 : Nat, (y_1 ≤ 28 ∧ (s.size < 4294967281 ∧ PreRead s.data.toList) ∧ ∀ y, Right y → y.op < (y_1 : Int) → ¬ lineL y = s.data.toList) ∧
        ((k : Int) + 1 + 9223372036854775808) % 18446744073709551616 - 9223372036854775808 = (y_1 : Int) ∧ (rdF s).μ y_1 < (rdF s).μ k := fun h =>
      ⟨k + 1, ⟨by omega, hs, fun y hy ho => by
        have h1 := hy.1
        by_cases hc : y.op < (k : Int)
        · exact hno y hy hc
        · exact h y hy (by omega)⟩, by omega, by show 28 - (k + 1) < 28 - k; omega⟩
    refine ⟨by omega, hp, fun hw => next fun y hy ho hl => hw ?_, fun hw => ?_⟩
    · rw [← hl, pieces_line hy] at f0
      have f1 : ((ofL (splitOf s sp1)).f 0).data.toList = wordL k := by rw [f0, ← ho]; rfl
      rw [← f1]
      exact bs_of _
    · have hw' : (pieces 32 s.data.toList)[0]?.getD [] = wordL k := by rw [← f0, ← hw]; rfl
      have hhead : (pieces 32 s.data.toList).head? = some (wordL k) := by
        have hne := pieces_ne 32 s.data.toList
        revert hw' hne
        cases pieces 32 s.data.toList with
        | nil => intro _ h; exact absurd rfl h
        | cons a l => intro h _; simpa using h
      have hR := regsN_le k
      have hM := immN_le k
      have hT := taken_i64 (op := v) (by omega) (regsN k) (immN k) (pieces 32 s.data.toList).tail
      refine ⟨by omega, Nat.zero_le _, ?_, hT, fun hl _ => ?_, fun hl => next fun y hy ho hyl => hl ?_⟩
      · refine ⟨by show i64 v; unfold i64; omega, ⟨by show (0 : Int) ≤ (regsN k : Nat); omega, by show ((regsN k : Nat) : Int) ≤ 2; omega⟩, ⟨by show (0 : Int) ≤ (immN k : Nat); omega, by show ((immN k : Nat) : Int) ≤ 3; omega⟩, ?_, ?_, ?_, ?_, fun j hj => ?_⟩
        · show (if (ofL (splitOf s sp1)).cap = Int.toNat 1 then 0 else 1) + ((ofL (splitOf s sp1)).n - Int.toNat 1) ≤ (ofL (splitOf s sp1)).n
          rw [show Int.toNat 1 = 1 from rfl]
          split <;> omega
        · show (ofL (splitOf s sp1)).n - Int.toNat 1 ≤ (ofL (splitOf s sp1)).cap - Int.toNat 1
          omega
        · show (ofL (splitOf s sp1)).n - Int.toNat 1 ≤ 9223372036854775807
          omega
        · rw [rest_eq]
          exact hpre k hlt hhead
        · show ((ofL (splitOf s sp1)).f ((if (ofL (splitOf s sp1)).cap = Int.toNat 1 then 0 else 1) + j)).size < 4294967281
          generalize (if (ofL (splitOf s sp1)).cap = Int.toNat 1 then 0 else 1) + j = i
          have e := split_at s i
          have e2 : ((ofL (splitOf s sp1)).f i).size = ((pieces 32 s.data.toList)[i]?.getD []).length := by rw [← e]; rfl
          rw [e2]
          cases h : (pieces 32 s.data.toList)[i]? with
          | none => show (0 : Nat) < _; omega
          | some q =>
            have := pl1 q (List.mem_of_getElem? h)
            show q.length < _
            omega
      · have hTR : Right (takenI v (regsN k) (immN k) (pieces 32 s.data.toList).tail) := by
          by_cases hr : Right (takenI v (regsN k) (immN k) (pieces 32 s.data.toList).tail)
          · exact hr
          · unfold lineB at hl
            rw [if_neg hr] at hl
            rw [← hl] at hw'
            exact absurd hw'.symm (word_ne k hlt)
        unfold lineB at hl
        rw [if_pos hTR] at hl
        have hl2 : lineL (takenI v (regsN k) (immN k) (pieces 32 s.data.toList).tail) = s.data.toList := by
          have := congrArg (fun b : ByteArray => b.data.toList) hl
          exact this
        obtain ⟨r1, r2⟩ := read_of (.inl ⟨rfl, hTR, hl2⟩)
        rw [r1]
        exact ⟨⟨rfl, rfl, rfl, rfl⟩, r2.symm⟩
      · have hst := read_step hy ho hyl
        rw [hv, hst]
        unfold lineB
        rw [if_pos hy, hyl]
        exact bs_of s
  · obtain ⟨hk1, _, hno⟩ := hk
    obtain ⟨r1, r2⟩ := read_of (s := s.data.toList) (x := ⟨0, 0, 0, 0⟩) (b := false) (.inr ⟨rfl, rfl, fun y hy => hno y hy (by have := hy.1; omega)⟩)
    rw [← r1, ← r2]
    exact ⟨⟨rfl, rfl, rfl, rfl⟩, rfl⟩

def read_C (x : ByteArray) : Cfg := { Γ := Go.Sx.look tRd, names := true, loops := onlyAt 3 [rdF x], mode := rdM, locks := rdLk }
theorem read_al (x : ByteArray) : Shown (rdP.vc Tryd.prog (read_C x) Tryd.f24 x) := ⟨@Eq.mp _ _ (by kernel_rfl) (read_vc x)⟩
theorem read_ok : SpOk Tryd.prog 24 rdP.sp := @Pat.okS _ rdP Tryd.prog read_C 24 Tryd.f24 (fun x => cfg_tab rfl tRd_ok) (by kernel_rfl) Tryd.func24 (fun _ => rfl) read_al
end
end Go.Proofs.YtjofnajamlmllaaDoor
