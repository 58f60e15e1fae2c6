import Derived.Test.YtokiakcmdbihhaaS2
open Go Go.Sx Go.Proofs
set_option maxRecDepth 100000
namespace Go.Proofs.Ytokiakcmdbihhaa

def repP : Pat (CR × Nat × Int × Int) where
  view | [t, .int .i64 _, .int .i64 k, .slice r' _ _ _ _ _ _], H => some (viewC t H, k.toNat, tInt (tAt (tArr (regC H r') 0) 0), tInt (tAt (tArr (regC H r') 0) 1)) | _, _ => none
  args x := [x.1.v 0, .int .i64 0, .int .i64 x.2.1, vv 1]
  H x := [x.1.reg, vReg x.2.2.1 x.2.2.2]
  out x := .need (x.1.Ok ∧ x.1.len ≤ 1000 ∧ x.2.1 ≤ x.1.len ∧ 1 ≤ x.2.1) (.any (fun y : CR => y.Ok ∧ y.L = (x.2.2.1, x.2.2.2) :: x.1.L.drop x.2.1) fun y => .ret (y.v 2) [dead, vReg x.2.2.1 x.2.2.2, y.reg])
def repM : Nat → Nat
  | 18 => 2
  | _ => 0
def repT : Nat → Option Nat
  | 18 => some 9
  | _ => none
theorem rep_L {x y : CR} {k : Nat} {va vb : Int} (hk : k ≤ x.len) (h1 : 1 ≤ k) (hl : y.len = x.len + 1 - k) (h : ∀ j, j < x.len + 1 - k → (j = 0 → y.a (y.lo + j) = va ∧ y.b (y.lo + j) = vb) ∧
    (0 < j → y.a (y.lo + j) = x.a (x.lo + (j + k - 1)) ∧ y.b (y.lo + j) = x.b (x.lo + (j + k - 1)))) : y.L = (va, vb) :: x.L.drop k := by
  refine CR.L_eq (by simp [CR.L_len]; omega) fun j hj => ?_
  obtain ⟨h2, h3⟩ := h j (by omega)
  cases j with
  | zero => rw [(h2 rfl).1, (h2 rfl).2]; rfl
  | succ j =>
    rw [List.getElem?_cons_succ, List.getElem?_drop, CR.L_get, if_pos (by omega), (h3 (by omega)).1, (h3 (by omega)).2, show j + 1 + k - 1 = k + j by omega]
def repA (x : CR) (k : Nat) (v : Int) (f : Nat → Int) (j : Nat) : Int := if j < x.lo then f j else if j = x.lo then v else if j < x.lo + (x.len + 1 - k) then f (j + k - 1) else if j < x.lo + x.len then 0 else f j
theorem rep_vc : ∀ (x : CR) (k : Nat) (va vb : Int), (x.Ok ∧ x.len ≤ (1000 : Nat) ∧ k ≤ x.len ∧ (1 : Nat) ≤ k) ∧ True → (((0 : Int) ≤ (↑k : Int) ∧ (↑k : Int) ≤ (↑x.cap : Int)) ∧ (0 : Int) ≤ (0 : Int) ∧ (0 : Int) ≤ (↑k : Int)) ∧ (((0 :
  Int) == (↑k : Int)) = true → False) ∧ (((0 : Int) == (↑k : Int)) = false → (((↑k : Int) == (↑x.len : Int)) = true → ((0 : Int) ≤ (0 : Int) ∧ (0 : Int) ≤ (↑x.cap : Int)) ∧ (1 : Nat) ≤ (1 : Nat) ∧ ((1 : Nat) ≤ x.cap → (16
  : Nat) ≤ (281474976710656 : Nat) ∧ (x.lo + Int.toNat (0 : Int) ≤ x.N ∧ (x.lo + Int.toNat (0 : Int) + (1 : Nat)) * (2 : Nat) ≤ (x.lo + x.cap) * (2 : Nat) ∧ (∀ (_ : Nat), (2 : Nat) = (2 : Nat)) ∧ ∀ (_ : Nat), (2 : Nat) =
  (2 : Nat)) ∧ (decide ((↑(1 : Nat) : Int) < (↑x.len : Int)) = true → ((0 : Int) ≤ (↑(1 : Nat) : Int) ∧ (↑(1 : Nat) : Int) ≤ (↑x.len : Int)) ∧ (((if x.cap = (↑(1 : Nat) : Int).toNat then x.lo else x.lo + (↑(1 : Nat) :
  Int).toNat) ≤ if x.N ≤ x.lo + Int.toNat (0 : Int) + (1 : Nat) then x.lo + Int.toNat (0 : Int) + (1 : Nat) else x.N) ∧ ((if x.cap = (↑(1 : Nat) : Int).toNat then x.lo else x.lo + (↑(1 : Nat) : Int).toNat) + (x.len - (↑(1
  : Nat) : Int).toNat)) * (2 : Nat) ≤ (x.lo + x.cap) * (2 : Nat) ∧ (∀ (_ : Nat), (2 : Nat) = (2 : Nat)) ∧ ∀ (_ : Nat), (2 : Nat) = (2 : Nat)) ∧ (x.Ok ∧ x.len ≤ (1000 : Nat) ∧ k ≤ x.len ∧ (1 : Nat) ≤ k → ∃ (x_1 : CR),
  (x_1.Ok ∧ x_1.L = (va, vb) :: List.drop k x.L) ∧ (True ∧ True ∧ x.lo = x_1.lo ∧ (1 : Nat) = x_1.len ∧ x.cap = x_1.cap) ∧ True ∧ (0 : Nat) = (0 : Nat) ∧ ((2 : Nat) ≤ (2 : Nat) ∧ (1 : Nat) = (1 : Nat) ∧ ∀ (j : Nat), j < (1
  : Nat) → va = va ∧ vb = vb ∧ True) ∧ ((x_1.lo + x_1.cap) * (2 : Nat) ≤ (x.lo + x.cap) * (2 : Nat) ∧ (x_1.N = if (if x.N ≤ x.lo + Int.toNat (0 : Int) + (1 : Nat) then x.lo + Int.toNat (0 : Int) + (1 : Nat) else x.N) ≤ (if
  x.cap = (↑(1 : Nat) : Int).toNat then x.lo else x.lo + (↑(1 : Nat) : Int).toNat) + (x.len - (↑(1 : Nat) : Int).toNat) then (if x.cap = (↑(1 : Nat) : Int).toNat then x.lo else x.lo + (↑(1 : Nat) : Int).toNat) + (x.len -
  (↑(1 : Nat) : Int).toNat) else if x.N ≤ x.lo + Int.toNat (0 : Int) + (1 : Nat) then x.lo + Int.toNat (0 : Int) + (1 : Nat) else x.N) ∧ ∀ (j : Nat), (j < if (if x.N ≤ x.lo + Int.toNat (0 : Int) + (1 : Nat) then x.lo +
  Int.toNat (0 : Int) + (1 : Nat) else x.N) ≤ (if x.cap = (↑(1 : Nat) : Int).toNat then x.lo else x.lo + (↑(1 : Nat) : Int).toNat) + (x.len - (↑(1 : Nat) : Int).toNat) then (if x.cap = (↑(1 : Nat) : Int).toNat then x.lo
  else x.lo + (↑(1 : Nat) : Int).toNat) + (x.len - (↑(1 : Nat) : Int).toNat) else if x.N ≤ x.lo + Int.toNat (0 : Int) + (1 : Nat) then x.lo + Int.toNat (0 : Int) + (1 : Nat) else x.N) → (j.blt (if x.cap = (↑(1 : Nat) :
  Int).toNat then x.lo else x.lo + (↑(1 : Nat) : Int).toNat) = true → (j.blt (x.lo + Int.toNat (0 : Int)) = true → x.a j = x_1.a j ∧ x.b j = x_1.b j ∧ True) ∧ (j.blt (x.lo + Int.toNat (0 : Int)) = false → (j.blt (x.lo +
  Int.toNat (0 : Int) + (1 : Nat)) = true → va = x_1.a j ∧ vb = x_1.b j ∧ True) ∧ (j.blt (x.lo + Int.toNat (0 : Int) + (1 : Nat)) = false → x.a j = x_1.a j ∧ x.b j = x_1.b j ∧ True))) ∧ (j.blt (if x.cap = (↑(1 : Nat) :
  Int).toNat then x.lo else x.lo + (↑(1 : Nat) : Int).toNat) = false → (j.blt ((if x.cap = (↑(1 : Nat) : Int).toNat then x.lo else x.lo + (↑(1 : Nat) : Int).toNat) + (x.len - (↑(1 : Nat) : Int).toNat)) = true → (0 : Int) =
  x_1.a j ∧ (0 : Int) = x_1.b j ∧ True) ∧ (j.blt ((if x.cap = (↑(1 : Nat) : Int).toNat then x.lo else x.lo + (↑(1 : Nat) : Int).toNat) + (x.len - (↑(1 : Nat) : Int).toNat)) = false → (j.blt (x.lo + Int.toNat (0 : Int)) =
  true → x.a j = x_1.a j ∧ x.b j = x_1.b j ∧ True) ∧ (j.blt (x.lo + Int.toNat (0 : Int)) = false → (j.blt (x.lo + Int.toNat (0 : Int) + (1 : Nat)) = true → va = x_1.a j ∧ vb = x_1.b j ∧ True) ∧ (j.blt (x.lo + Int.toNat (0
  : Int) + (1 : Nat)) = false → x.a j = x_1.a j ∧ x.b j = x_1.b j ∧ True))))) ∧ True)) ∧ (decide ((↑(1 : Nat) : Int) < (↑x.len : Int)) = false → x.Ok ∧ x.len ≤ (1000 : Nat) ∧ k ≤ x.len ∧ (1 : Nat) ≤ k → ∃ (x_1 : CR),
  (x_1.Ok ∧ x_1.L = (va, vb) :: List.drop k x.L) ∧ (True ∧ True ∧ x.lo = x_1.lo ∧ (1 : Nat) = x_1.len ∧ x.cap = x_1.cap) ∧ True ∧ (0 : Nat) = (0 : Nat) ∧ ((2 : Nat) ≤ (2 : Nat) ∧ (1 : Nat) = (1 : Nat) ∧ ∀ (j : Nat), j < (1
  : Nat) → va = va ∧ vb = vb ∧ True) ∧ ((x_1.lo + x_1.cap) * (2 : Nat) ≤ (x.lo + x.cap) * (2 : Nat) ∧ (x_1.N = if x.N ≤ x.lo + Int.toNat (0 : Int) + (1 : Nat) then x.lo + Int.toNat (0 : Int) + (1 : Nat) else x.N) ∧ ∀ (j :
  Nat), (j < if x.N ≤ x.lo + Int.toNat (0 : Int) + (1 : Nat) then x.lo + Int.toNat (0 : Int) + (1 : Nat) else x.N) → (j.blt (x.lo + Int.toNat (0 : Int)) = true → x.a j = x_1.a j ∧ x.b j = x_1.b j ∧ True) ∧ (j.blt (x.lo +
  Int.toNat (0 : Int)) = false → (j.blt (x.lo + Int.toNat (0 : Int) + (1 : Nat)) = true → va = x_1.a j ∧ vb = x_1.b j ∧ True) ∧ (j.blt (x.lo + Int.toNat (0 : Int) + (1 : Nat)) = false → x.a j = x_1.a j ∧ x.b j = x_1.b j ∧
  True))) ∧ True)) ∧ (x.cap < (1 : Nat) → (x.lo + Int.toNat (0 : Int) ≤ x.N ∧ (16 : Nat) ≤ (140737488355328 : Nat) ∧ (1 : Nat) ≤ (9223372036854775807 : Nat) ∧ (∀ (_ : Nat), (2 : Nat) = (2 : Nat)) ∧ ∀ (_ : Nat), (2 : Nat) =
  (2 : Nat)) ∧ ∀ (cap' : Nat), (1 : Nat) ≤ cap' → (decide ((↑(1 : Nat) : Int) < (↑x.len : Int)) = true → ((0 : Int) ≤ (↑(1 : Nat) : Int) ∧ (↑(1 : Nat) : Int) ≤ (↑x.len : Int)) ∧ ((if x.cap = (↑(1 : Nat) : Int).toNat then
  x.lo else x.lo + (↑(1 : Nat) : Int).toNat) ≤ x.N ∧ ((if x.cap = (↑(1 : Nat) : Int).toNat then x.lo else x.lo + (↑(1 : Nat) : Int).toNat) + (x.len - (↑(1 : Nat) : Int).toNat)) * (2 : Nat) ≤ (x.lo + x.cap) * (2 : Nat) ∧ (∀
  (_ : Nat), (2 : Nat) = (2 : Nat)) ∧ ∀ (_ : Nat), (2 : Nat) = (2 : Nat)) ∧ (x.Ok ∧ x.len ≤ (1000 : Nat) ∧ k ≤ x.len ∧ (1 : Nat) ≤ k → ∃ (x_1 : CR), (x_1.Ok ∧ x_1.L = (va, vb) :: List.drop k x.L) ∧ (True ∧ True ∧ (0 : Nat)
  = x_1.lo ∧ (1 : Nat) = x_1.len ∧ cap' = x_1.cap) ∧ True ∧ (0 : Nat) = (0 : Nat) ∧ ((2 : Nat) ≤ (2 : Nat) ∧ (1 : Nat) = (1 : Nat) ∧ ∀ (j : Nat), j < (1 : Nat) → va = va ∧ vb = vb ∧ True) ∧ ((x_1.lo + x_1.cap) * (2 : Nat)
  ≤ cap' * (2 : Nat) ∧ x_1.N = (1 : Nat) ∧ ∀ (j : Nat), j < (1 : Nat) → (j.blt (Int.toNat (0 : Int)) = true → x.a (x.lo + j) = x_1.a j ∧ x.b (x.lo + j) = x_1.b j ∧ True) ∧ (j.blt (Int.toNat (0 : Int)) = false → va = x_1.a
  j ∧ vb = x_1.b j ∧ True)) ∧ True)) ∧ (decide ((↑(1 : Nat) : Int) < (↑x.len : Int)) = false → x.Ok ∧ x.len ≤ (1000 : Nat) ∧ k ≤ x.len ∧ (1 : Nat) ≤ k → ∃ (x_1 : CR), (x_1.Ok ∧ x_1.L = (va, vb) :: List.drop k x.L) ∧ (True
  ∧ True ∧ (0 : Nat) = x_1.lo ∧ (1 : Nat) = x_1.len ∧ cap' = x_1.cap) ∧ True ∧ (0 : Nat) = (0 : Nat) ∧ ((2 : Nat) ≤ (2 : Nat) ∧ (1 : Nat) = (1 : Nat) ∧ ∀ (j : Nat), j < (1 : Nat) → va = va ∧ vb = vb ∧ True) ∧ ((x_1.lo +
  x_1.cap) * (2 : Nat) ≤ cap' * (2 : Nat) ∧ x_1.N = (1 : Nat) ∧ ∀ (j : Nat), j < (1 : Nat) → (j.blt (Int.toNat (0 : Int)) = true → x.a (x.lo + j) = x_1.a j ∧ x.b (x.lo + j) = x_1.b j ∧ True) ∧ (j.blt (Int.toNat (0 : Int))
  = false → va = x_1.a j ∧ vb = x_1.b j ∧ True)) ∧ True))) ∧ (((↑k : Int) == (↑x.len : Int)) = false → ((0 : Int) ≤ (0 : Int) ∧ (0 : Int) ≤ (↑x.cap : Int)) ∧ ((0 : Int) ≤ (↑k : Int) ∧ (↑k : Int) ≤ (↑x.len : Int)) ∧ ∀ (v :
  Int), v = IntKind.i64.wrap (IntKind.i64.wrap ((↑(Int.toNat (0 : Int)) : Int) + (↑(1 : Nat) : Int)) + (↑(x.len - (↑k : Int).toNat) : Int)) → (decide (v > (↑x.cap : Int)) = true → ((0 : Int) ≤ (0 : Int) ∧ (0 : Int) ≤
  (↑x.cap : Int)) ∧ ((0 : Int) ≤ IntKind.i64.wrap (v - (0 : Int)) ∧ IntKind.i64.wrap (v - (0 : Int)) ≤ (9223372036854775807 : Int)) ∧ (Int.toNat (0 : Int) + (IntKind.i64.wrap (v - (0 : Int))).toNat ≤ x.cap →
  (IntKind.i64.wrap (v - (0 : Int))).toNat * (16 : Nat) ≤ (281474976710656 : Nat) ∧ (x.lo + Int.toNat (0 : Int) ≤ x.N ∧ (x.lo + Int.toNat (0 : Int) + (IntKind.i64.wrap (v - (0 : Int))).toNat) * (2 : Nat) ≤ (x.lo + x.cap) *
  (2 : Nat) ∧ (∀ (_ : Nat), (2 : Nat) = (2 : Nat)) ∧ ∀ (_ : Nat), (2 : Nat) = (2 : Nat)) ∧ ((0 : Int) ≤ (0 : Int) ∧ (0 : Int) ≤ (↑(Int.toNat (0 : Int) + (IntKind.i64.wrap (v - (0 : Int))).toNat) : Int)) ∧ ((0 : Nat) + if
  (1 : Nat) < Int.toNat (0 : Int) + (IntKind.i64.wrap (v - (0 : Int))).toNat - Int.toNat (0 : Int) then (1 : Nat) else Int.toNat (0 : Int) + (IntKind.i64.wrap (v - (0 : Int))).toNat - Int.toNat (0 : Int)) ≤ (1 : Nat) ∧
  (((if x.cap = Int.toNat (0 : Int) then x.lo else x.lo + Int.toNat (0 : Int)) ≤ if x.N ≤ x.lo + Int.toNat (0 : Int) + (IntKind.i64.wrap (v - (0 : Int))).toNat then x.lo + Int.toNat (0 : Int) + (IntKind.i64.wrap (v - (0 :
  Int))).toNat else x.N) ∧ ((if x.cap = Int.toNat (0 : Int) then x.lo else x.lo + Int.toNat (0 : Int)) + if (1 : Nat) < Int.toNat (0 : Int) + (IntKind.i64.wrap (v - (0 : Int))).toNat - Int.toNat (0 : Int) then (1 : Nat)
  else Int.toNat (0 : Int) + (IntKind.i64.wrap (v - (0 : Int))).toNat - Int.toNat (0 : Int)) * (2 : Nat) ≤ (x.lo + x.cap) * (2 : Nat) ∧ (∀ (_ : Nat), (2 : Nat) = (2 : Nat)) ∧ ∀ (_ : Nat), (2 : Nat) = (2 : Nat)) ∧ ((0 :
  Int) ≤ IntKind.i64.wrap ((0 : Int) + (↑(1 : Nat) : Int)) ∧ IntKind.i64.wrap ((0 : Int) + (↑(1 : Nat) : Int)) ≤ (↑(Int.toNat (0 : Int) + (IntKind.i64.wrap (v - (0 : Int))).toNat) : Int)) ∧ ((0 : Int) ≤ (↑k : Int) ∧ (↑k :
  Int) ≤ (↑x.len : Int)) ∧ False) ∧ (x.cap < Int.toNat (0 : Int) + (IntKind.i64.wrap (v - (0 : Int))).toNat → (x.lo + Int.toNat (0 : Int) ≤ x.N ∧ (Int.toNat (0 : Int) + (IntKind.i64.wrap (v - (0 : Int))).toNat) * (16 :
  Nat) ≤ (140737488355328 : Nat) ∧ Int.toNat (0 : Int) + (IntKind.i64.wrap (v - (0 : Int))).toNat ≤ (9223372036854775807 : Nat) ∧ (∀ (_ : Nat), (2 : Nat) = (2 : Nat)) ∧ ∀ (_ : Nat), (2 : Nat) = (2 : Nat)) ∧ ∀ (cap' : Nat),
  Int.toNat (0 : Int) + (IntKind.i64.wrap (v - (0 : Int))).toNat ≤ cap' → ((0 : Int) ≤ (0 : Int) ∧ (0 : Int) ≤ (↑(Int.toNat (0 : Int) + (IntKind.i64.wrap (v - (0 : Int))).toNat) : Int)) ∧ ((0 : Nat) + if (1 : Nat) <
  Int.toNat (0 : Int) + (IntKind.i64.wrap (v - (0 : Int))).toNat - Int.toNat (0 : Int) then (1 : Nat) else Int.toNat (0 : Int) + (IntKind.i64.wrap (v - (0 : Int))).toNat - Int.toNat (0 : Int)) ≤ (1 : Nat) ∧ ((if cap' =
  Int.toNat (0 : Int) then (0 : Nat) else (0 : Nat)) ≤ Int.toNat (0 : Int) + (IntKind.i64.wrap (v - (0 : Int))).toNat ∧ ((if cap' = Int.toNat (0 : Int) then (0 : Nat) else (0 : Nat)) + if (1 : Nat) < Int.toNat (0 : Int) +
  (IntKind.i64.wrap (v - (0 : Int))).toNat - Int.toNat (0 : Int) then (1 : Nat) else Int.toNat (0 : Int) + (IntKind.i64.wrap (v - (0 : Int))).toNat - Int.toNat (0 : Int)) * (2 : Nat) ≤ cap' * (2 : Nat) ∧ (∀ (_ : Nat), (2 :
  Nat) = (2 : Nat)) ∧ ∀ (_ : Nat), (2 : Nat) = (2 : Nat)) ∧ ((0 : Int) ≤ IntKind.i64.wrap ((0 : Int) + (↑(1 : Nat) : Int)) ∧ IntKind.i64.wrap ((0 : Int) + (↑(1 : Nat) : Int)) ≤ (↑(Int.toNat (0 : Int) + (IntKind.i64.wrap (v
  - (0 : Int))).toNat) : Int)) ∧ ((0 : Int) ≤ (↑k : Int) ∧ (↑k : Int) ≤ (↑x.len : Int)) ∧ False)) ∧ (decide (v > (↑x.cap : Int)) = false → ((0 : Int) ≤ v ∧ v ≤ (↑x.cap : Int)) ∧ (decide (IntKind.i64.wrap ((0 : Int) + (↑(1
  : Nat) : Int)) ≤ (↑k : Int)) = true → ((0 : Int) ≤ (0 : Int) ∧ (0 : Int) ≤ (↑v.toNat : Int)) ∧ ((0 : Nat) + if (1 : Nat) < v.toNat - Int.toNat (0 : Int) then (1 : Nat) else v.toNat - Int.toNat (0 : Int)) ≤ (1 : Nat) ∧
  ((if x.cap = Int.toNat (0 : Int) then x.lo else x.lo + Int.toNat (0 : Int)) ≤ x.N ∧ ((if x.cap = Int.toNat (0 : Int) then x.lo else x.lo + Int.toNat (0 : Int)) + if (1 : Nat) < v.toNat - Int.toNat (0 : Int) then (1 :
  Nat) else v.toNat - Int.toNat (0 : Int)) * (2 : Nat) ≤ (x.lo + x.cap) * (2 : Nat) ∧ (∀ (_ : Nat), (2 : Nat) = (2 : Nat)) ∧ ∀ (_ : Nat), (2 : Nat) = (2 : Nat)) ∧ ((0 : Int) ≤ IntKind.i64.wrap ((0 : Int) + (↑(1 : Nat) :
  Int)) ∧ IntKind.i64.wrap ((0 : Int) + (↑(1 : Nat) : Int)) ≤ (↑v.toNat : Int)) ∧ ((0 : Int) ≤ (↑k : Int) ∧ (↑k : Int) ≤ (↑x.len : Int)) ∧ (((if x.cap = (↑k : Int).toNat then x.lo else x.lo + (↑k : Int).toNat) + if x.len -
  (↑k : Int).toNat < v.toNat - (IntKind.i64.wrap ((0 : Int) + (↑(1 : Nat) : Int))).toNat then x.len - (↑k : Int).toNat else v.toNat - (IntKind.i64.wrap ((0 : Int) + (↑(1 : Nat) : Int))).toNat) ≤ if x.N ≤ (if x.cap =
  Int.toNat (0 : Int) then x.lo else x.lo + Int.toNat (0 : Int)) + if (1 : Nat) < v.toNat - Int.toNat (0 : Int) then (1 : Nat) else v.toNat - Int.toNat (0 : Int) then (if x.cap = Int.toNat (0 : Int) then x.lo else x.lo +
  Int.toNat (0 : Int)) + if (1 : Nat) < v.toNat - Int.toNat (0 : Int) then (1 : Nat) else v.toNat - Int.toNat (0 : Int) else x.N) ∧ (((if x.cap = (IntKind.i64.wrap ((0 : Int) + (↑(1 : Nat) : Int))).toNat then x.lo else
  x.lo + (IntKind.i64.wrap ((0 : Int) + (↑(1 : Nat) : Int))).toNat) ≤ if x.N ≤ (if x.cap = Int.toNat (0 : Int) then x.lo else x.lo + Int.toNat (0 : Int)) + if (1 : Nat) < v.toNat - Int.toNat (0 : Int) then (1 : Nat) else
  v.toNat - Int.toNat (0 : Int) then (if x.cap = Int.toNat (0 : Int) then x.lo else x.lo + Int.toNat (0 : Int)) + if (1 : Nat) < v.toNat - Int.toNat (0 : Int) then (1 : Nat) else v.toNat - Int.toNat (0 : Int) else x.N) ∧
  ((if x.cap = (IntKind.i64.wrap ((0 : Int) + (↑(1 : Nat) : Int))).toNat then x.lo else x.lo + (IntKind.i64.wrap ((0 : Int) + (↑(1 : Nat) : Int))).toNat) + if x.len - (↑k : Int).toNat < v.toNat - (IntKind.i64.wrap ((0 :
  Int) + (↑(1 : Nat) : Int))).toNat then x.len - (↑k : Int).toNat else v.toNat - (IntKind.i64.wrap ((0 : Int) + (↑(1 : Nat) : Int))).toNat) * (2 : Nat) ≤ (x.lo + x.cap) * (2 : Nat) ∧ (∀ (_ : Nat), (2 : Nat) = (2 : Nat)) ∧
  ∀ (_ : Nat), (2 : Nat) = (2 : Nat)) ∧ ((0 : Int) ≤ v ∧ v ≤ (↑x.len : Int)) ∧ (((if x.cap = v.toNat then x.lo else x.lo + v.toNat) ≤ if (if x.N ≤ (if x.cap = Int.toNat (0 : Int) then x.lo else x.lo + Int.toNat (0 : Int))
  + if (1 : Nat) < v.toNat - Int.toNat (0 : Int) then (1 : Nat) else v.toNat - Int.toNat (0 : Int) then (if x.cap = Int.toNat (0 : Int) then x.lo else x.lo + Int.toNat (0 : Int)) + if (1 : Nat) < v.toNat - Int.toNat (0 :
  Int) then (1 : Nat) else v.toNat - Int.toNat (0 : Int) else x.N) ≤ (if x.cap = (IntKind.i64.wrap ((0 : Int) + (↑(1 : Nat) : Int))).toNat then x.lo else x.lo + (IntKind.i64.wrap ((0 : Int) + (↑(1 : Nat) : Int))).toNat) +
  if x.len - (↑k : Int).toNat < v.toNat - (IntKind.i64.wrap ((0 : Int) + (↑(1 : Nat) : Int))).toNat then x.len - (↑k : Int).toNat else v.toNat - (IntKind.i64.wrap ((0 : Int) + (↑(1 : Nat) : Int))).toNat then (if x.cap =
  (IntKind.i64.wrap ((0 : Int) + (↑(1 : Nat) : Int))).toNat then x.lo else x.lo + (IntKind.i64.wrap ((0 : Int) + (↑(1 : Nat) : Int))).toNat) + if x.len - (↑k : Int).toNat < v.toNat - (IntKind.i64.wrap ((0 : Int) + (↑(1 :
  Nat) : Int))).toNat then x.len - (↑k : Int).toNat else v.toNat - (IntKind.i64.wrap ((0 : Int) + (↑(1 : Nat) : Int))).toNat else if x.N ≤ (if x.cap = Int.toNat (0 : Int) then x.lo else x.lo + Int.toNat (0 : Int)) + if (1
  : Nat) < v.toNat - Int.toNat (0 : Int) then (1 : Nat) else v.toNat - Int.toNat (0 : Int) then (if x.cap = Int.toNat (0 : Int) then x.lo else x.lo + Int.toNat (0 : Int)) + if (1 : Nat) < v.toNat - Int.toNat (0 : Int) then
  (1 : Nat) else v.toNat - Int.toNat (0 : Int) else x.N) ∧ ((if x.cap = v.toNat then x.lo else x.lo + v.toNat) + (x.len - v.toNat)) * (2 : Nat) ≤ (x.lo + x.cap) * (2 : Nat) ∧ (∀ (_ : Nat), (2 : Nat) = (2 : Nat)) ∧ ∀ (_ :
  Nat), (2 : Nat) = (2 : Nat)) ∧ (x.Ok ∧ x.len ≤ (1000 : Nat) ∧ k ≤ x.len ∧ (1 : Nat) ≤ k → ∃ (x_1 : CR), (x_1.Ok ∧ x_1.L = (va, vb) :: List.drop k x.L) ∧ (True ∧ True ∧ x.lo = x_1.lo ∧ v.toNat = x_1.len ∧ x.cap = x_1.cap)
  ∧ True ∧ (0 : Nat) = (0 : Nat) ∧ ((2 : Nat) ≤ (2 : Nat) ∧ (1 : Nat) = (1 : Nat) ∧ ∀ (j : Nat), j < (1 : Nat) → va = va ∧ vb = vb ∧ True) ∧ ((x_1.lo + x_1.cap) * (2 : Nat) ≤ (x.lo + x.cap) * (2 : Nat) ∧ (x_1.N = if (if
  (if x.N ≤ (if x.cap = Int.toNat (0 : Int) then x.lo else x.lo + Int.toNat (0 : Int)) + if (1 : Nat) < v.toNat - Int.toNat (0 : Int) then (1 : Nat) else v.toNat - Int.toNat (0 : Int) then (if x.cap = Int.toNat (0 : Int)
  then x.lo else x.lo + Int.toNat (0 : Int)) + if (1 : Nat) < v.toNat - Int.toNat (0 : Int) then (1 : Nat) else v.toNat - Int.toNat (0 : Int) else x.N) ≤ (if x.cap = (IntKind.i64.wrap ((0 : Int) + (↑(1 : Nat) :
  Int))).toNat then x.lo else x.lo + (IntKind.i64.wrap ((0 : Int) + (↑(1 : Nat) : Int))).toNat) + if x.len - (↑k : Int).toNat < v.toNat - (IntKind.i64.wrap ((0 : Int) + (↑(1 : Nat) : Int))).toNat then x.len - (↑k :
  Int).toNat else v.toNat - (IntKind.i64.wrap ((0 : Int) + (↑(1 : Nat) : Int))).toNat then (if x.cap = (IntKind.i64.wrap ((0 : Int) + (↑(1 : Nat) : Int))).toNat then x.lo else x.lo + (IntKind.i64.wrap ((0 : Int) + (↑(1 :
  Nat) : Int))).toNat) + if x.len - (↑k : Int).toNat < v.toNat - (IntKind.i64.wrap ((0 : Int) + (↑(1 : Nat) : Int))).toNat then x.len - (↑k : Int).toNat else v.toNat - (IntKind.i64.wrap ((0 : Int) + (↑(1 : Nat) :
  Int))).toNat else if x.N ≤ (if x.cap = Int.toNat (0 : Int) then x.lo else x.lo + Int.toNat (0 : Int)) + if (1 : Nat) < v.toNat - Int.toNat (0 : Int) then (1 : Nat) else v.toNat - Int.toNat (0 : Int) then (if x.cap =
  Int.toNat (0 : Int) then x.lo else x.lo + Int.toNat (0 : Int)) + if (1 : Nat) < v.toNat - Int.toNat (0 : Int) then (1 : Nat) else v.toNat - Int.toNat (0 : Int) else x.N) ≤ (if x.cap = v.toNat then x.lo else x.lo +
  v.toNat) + (x.len - v.toNat) then (if x.cap = v.toNat then x.lo else x.lo + v.toNat) + (x.len - v.toNat) else if (if x.N ≤ (if x.cap = Int.toNat (0 : Int) then x.lo else x.lo + Int.toNat (0 : Int)) + if (1 : Nat) <
  v.toNat - Int.toNat (0 : Int) then (1 : Nat) else v.toNat - Int.toNat (0 : Int) then (if x.cap = Int.toNat (0 : Int) then x.lo else x.lo + Int.toNat (0 : Int)) + if (1 : Nat) < v.toNat - Int.toNat (0 : Int) then (1 :
  Nat) else v.toNat - Int.toNat (0 : Int) else x.N) ≤ (if x.cap = (IntKind.i64.wrap ((0 : Int) + (↑(1 : Nat) : Int))).toNat then x.lo else x.lo + (IntKind.i64.wrap ((0 : Int) + (↑(1 : Nat) : Int))).toNat) + if x.len - (↑k
  : Int).toNat < v.toNat - (IntKind.i64.wrap ((0 : Int) + (↑(1 : Nat) : Int))).toNat then x.len - (↑k : Int).toNat else v.toNat - (IntKind.i64.wrap ((0 : Int) + (↑(1 : Nat) : Int))).toNat then (if x.cap = (IntKind.i64.wrap
  ((0 : Int) + (↑(1 : Nat) : Int))).toNat then x.lo else x.lo + (IntKind.i64.wrap ((0 : Int) + (↑(1 : Nat) : Int))).toNat) + if x.len - (↑k : Int).toNat < v.toNat - (IntKind.i64.wrap ((0 : Int) + (↑(1 : Nat) : Int))).toNat
  then x.len - (↑k : Int).toNat else v.toNat - (IntKind.i64.wrap ((0 : Int) + (↑(1 : Nat) : Int))).toNat else if x.N ≤ (if x.cap = Int.toNat (0 : Int) then x.lo else x.lo + Int.toNat (0 : Int)) + if (1 : Nat) < v.toNat -
  Int.toNat (0 : Int) then (1 : Nat) else v.toNat - Int.toNat (0 : Int) then (if x.cap = Int.toNat (0 : Int) then x.lo else x.lo + Int.toNat (0 : Int)) + if (1 : Nat) < v.toNat - Int.toNat (0 : Int) then (1 : Nat) else
  v.toNat - Int.toNat (0 : Int) else x.N) ∧ ∀ (j : Nat), (j < if (if (if x.N ≤ (if x.cap = Int.toNat (0 : Int) then x.lo else x.lo + Int.toNat (0 : Int)) + if (1 : Nat) < v.toNat - Int.toNat (0 : Int) then (1 : Nat) else
  v.toNat - Int.toNat (0 : Int) then (if x.cap = Int.toNat (0 : Int) then x.lo else x.lo + Int.toNat (0 : Int)) + if (1 : Nat) < v.toNat - Int.toNat (0 : Int) then (1 : Nat) else v.toNat - Int.toNat (0 : Int) else x.N) ≤
  (if x.cap = (IntKind.i64.wrap ((0 : Int) + (↑(1 : Nat) : Int))).toNat then x.lo else x.lo + (IntKind.i64.wrap ((0 : Int) + (↑(1 : Nat) : Int))).toNat) + if x.len - (↑k : Int).toNat < v.toNat - (IntKind.i64.wrap ((0 :
  Int) + (↑(1 : Nat) : Int))).toNat then x.len - (↑k : Int).toNat else v.toNat - (IntKind.i64.wrap ((0 : Int) + (↑(1 : Nat) : Int))).toNat then (if x.cap = (IntKind.i64.wrap ((0 : Int) + (↑(1 : Nat) : Int))).toNat then
  x.lo else x.lo + (IntKind.i64.wrap ((0 : Int) + (↑(1 : Nat) : Int))).toNat) + if x.len - (↑k : Int).toNat < v.toNat - (IntKind.i64.wrap ((0 : Int) + (↑(1 : Nat) : Int))).toNat then x.len - (↑k : Int).toNat else v.toNat -
  (IntKind.i64.wrap ((0 : Int) + (↑(1 : Nat) : Int))).toNat else if x.N ≤ (if x.cap = Int.toNat (0 : Int) then x.lo else x.lo + Int.toNat (0 : Int)) + if (1 : Nat) < v.toNat - Int.toNat (0 : Int) then (1 : Nat) else
  v.toNat - Int.toNat (0 : Int) then (if x.cap = Int.toNat (0 : Int) then x.lo else x.lo + Int.toNat (0 : Int)) + if (1 : Nat) < v.toNat - Int.toNat (0 : Int) then (1 : Nat) else v.toNat - Int.toNat (0 : Int) else x.N) ≤
  (if x.cap = v.toNat then x.lo else x.lo + v.toNat) + (x.len - v.toNat) then (if x.cap = v.toNat then x.lo else x.lo + v.toNat) + (x.len - v.toNat) else if (if x.N ≤ (if x.cap = Int.toNat (0 : Int) then x.lo else x.lo +
  Int.toNat (0 : Int)) + if (1 : Nat) < v.toNat - Int.toNat (0 : Int) then (1 : Nat) else v.toNat - Int.toNat (0 : Int) then (if x.cap = Int.toNat (0 : Int) then x.lo else x.lo + Int.toNat (0 : Int)) + if (1 : Nat) <
  v.toNat - Int.toNat (0 : Int) then (1 : Nat) else v.toNat - Int.toNat (0 : Int) else x.N) ≤ (if x.cap = (IntKind.i64.wrap ((0 : Int) + (↑(1 : Nat) : Int))).toNat then x.lo else x.lo + (IntKind.i64.wrap ((0 : Int) + (↑(1
  : Nat) : Int))).toNat) + if x.len - (↑k : Int).toNat < v.toNat - (IntKind.i64.wrap ((0 : Int) + (↑(1 : Nat) : Int))).toNat then x.len - (↑k : Int).toNat else v.toNat - (IntKind.i64.wrap ((0 : Int) + (↑(1 : Nat) :
  Int))).toNat then (if x.cap = (IntKind.i64.wrap ((0 : Int) + (↑(1 : Nat) : Int))).toNat then x.lo else x.lo + (IntKind.i64.wrap ((0 : Int) + (↑(1 : Nat) : Int))).toNat) + if x.len - (↑k : Int).toNat < v.toNat -
  (IntKind.i64.wrap ((0 : Int) + (↑(1 : Nat) : Int))).toNat then x.len - (↑k : Int).toNat else v.toNat - (IntKind.i64.wrap ((0 : Int) + (↑(1 : Nat) : Int))).toNat else if x.N ≤ (if x.cap = Int.toNat (0 : Int) then x.lo
  else x.lo + Int.toNat (0 : Int)) + if (1 : Nat) < v.toNat - Int.toNat (0 : Int) then (1 : Nat) else v.toNat - Int.toNat (0 : Int) then (if x.cap = Int.toNat (0 : Int) then x.lo else x.lo + Int.toNat (0 : Int)) + if (1 :
  Nat) < v.toNat - Int.toNat (0 : Int) then (1 : Nat) else v.toNat - Int.toNat (0 : Int) else x.N) → (j.blt (if x.cap = v.toNat then x.lo else x.lo + v.toNat) = true → (j.blt (if x.cap = (IntKind.i64.wrap ((0 : Int) + (↑(1
  : Nat) : Int))).toNat then x.lo else x.lo + (IntKind.i64.wrap ((0 : Int) + (↑(1 : Nat) : Int))).toNat) = true → (j.blt (if x.cap = Int.toNat (0 : Int) then x.lo else x.lo + Int.toNat (0 : Int)) = true → x.a j = x_1.a j ∧
  x.b j = x_1.b j ∧ True) ∧ (j.blt (if x.cap = Int.toNat (0 : Int) then x.lo else x.lo + Int.toNat (0 : Int)) = false → (j.blt ((if x.cap = Int.toNat (0 : Int) then x.lo else x.lo + Int.toNat (0 : Int)) + if (1 : Nat) <
  v.toNat - Int.toNat (0 : Int) then (1 : Nat) else v.toNat - Int.toNat (0 : Int)) = true → va = x_1.a j ∧ vb = x_1.b j ∧ True) ∧ (j.blt ((if x.cap = Int.toNat (0 : Int) then x.lo else x.lo + Int.toNat (0 : Int)) + if (1 :
  Nat) < v.toNat - Int.toNat (0 : Int) then (1 : Nat) else v.toNat - Int.toNat (0 : Int)) = false → x.a j = x_1.a j ∧ x.b j = x_1.b j ∧ True))) ∧ (j.blt (if x.cap = (IntKind.i64.wrap ((0 : Int) + (↑(1 : Nat) : Int))).toNat
  then x.lo else x.lo + (IntKind.i64.wrap ((0 : Int) + (↑(1 : Nat) : Int))).toNat) = false → (j.blt ((if x.cap = (IntKind.i64.wrap ((0 : Int) + (↑(1 : Nat) : Int))).toNat then x.lo else x.lo + (IntKind.i64.wrap ((0 : Int)
  + (↑(1 : Nat) : Int))).toNat) + if x.len - (↑k : Int).toNat < v.toNat - (IntKind.i64.wrap ((0 : Int) + (↑(1 : Nat) : Int))).toNat then x.len - (↑k : Int).toNat else v.toNat - (IntKind.i64.wrap ((0 : Int) + (↑(1 : Nat) :
  Int))).toNat) = true → (((if x.cap = (↑k : Int).toNat then x.lo else x.lo + (↑k : Int).toNat) + (j - if x.cap = (IntKind.i64.wrap ((0 : Int) + (↑(1 : Nat) : Int))).toNat then x.lo else x.lo + (IntKind.i64.wrap ((0 : Int)
  + (↑(1 : Nat) : Int))).toNat)).blt (if x.cap = Int.toNat (0 : Int) then x.lo else x.lo + Int.toNat (0 : Int)) = true → x.a ((if x.cap = (↑k : Int).toNat then x.lo else x.lo + (↑k : Int).toNat) + (j - if x.cap =
  (IntKind.i64.wrap ((0 : Int) + (↑(1 : Nat) : Int))).toNat then x.lo else x.lo + (IntKind.i64.wrap ((0 : Int) + (↑(1 : Nat) : Int))).toNat)) = x_1.a j ∧ x.b ((if x.cap = (↑k : Int).toNat then x.lo else x.lo + (↑k :
  Int).toNat) + (j - if x.cap = (IntKind.i64.wrap ((0 : Int) + (↑(1 : Nat) : Int))).toNat then x.lo else x.lo + (IntKind.i64.wrap ((0 : Int) + (↑(1 : Nat) : Int))).toNat)) = x_1.b j ∧ True) ∧ (((if x.cap = (↑k : Int).toNat
  then x.lo else x.lo + (↑k : Int).toNat) + (j - if x.cap = (IntKind.i64.wrap ((0 : Int) + (↑(1 : Nat) : Int))).toNat then x.lo else x.lo + (IntKind.i64.wrap ((0 : Int) + (↑(1 : Nat) : Int))).toNat)).blt (if x.cap =
  Int.toNat (0 : Int) then x.lo else x.lo + Int.toNat (0 : Int)) = false → (((if x.cap = (↑k : Int).toNat then x.lo else x.lo + (↑k : Int).toNat) + (j - if x.cap = (IntKind.i64.wrap ((0 : Int) + (↑(1 : Nat) : Int))).toNat
  then x.lo else x.lo + (IntKind.i64.wrap ((0 : Int) + (↑(1 : Nat) : Int))).toNat)).blt ((if x.cap = Int.toNat (0 : Int) then x.lo else x.lo + Int.toNat (0 : Int)) + if (1 : Nat) < v.toNat - Int.toNat (0 : Int) then (1 :
  Nat) else v.toNat - Int.toNat (0 : Int)) = true → va = x_1.a j ∧ vb = x_1.b j ∧ True) ∧ (((if x.cap = (↑k : Int).toNat then x.lo else x.lo + (↑k : Int).toNat) + (j - if x.cap = (IntKind.i64.wrap ((0 : Int) + (↑(1 : Nat)
  : Int))).toNat then x.lo else x.lo + (IntKind.i64.wrap ((0 : Int) + (↑(1 : Nat) : Int))).toNat)).blt ((if x.cap = Int.toNat (0 : Int) then x.lo else x.lo + Int.toNat (0 : Int)) + if (1 : Nat) < v.toNat - Int.toNat (0 :
  Int) then (1 : Nat) else v.toNat - Int.toNat (0 : Int)) = false → x.a ((if x.cap = (↑k : Int).toNat then x.lo else x.lo + (↑k : Int).toNat) + (j - if x.cap = (IntKind.i64.wrap ((0 : Int) + (↑(1 : Nat) : Int))).toNat then
  x.lo else x.lo + (IntKind.i64.wrap ((0 : Int) + (↑(1 : Nat) : Int))).toNat)) = x_1.a j ∧ x.b ((if x.cap = (↑k : Int).toNat then x.lo else x.lo + (↑k : Int).toNat) + (j - if x.cap = (IntKind.i64.wrap ((0 : Int) + (↑(1 :
  Nat) : Int))).toNat then x.lo else x.lo + (IntKind.i64.wrap ((0 : Int) + (↑(1 : Nat) : Int))).toNat)) = x_1.b j ∧ True))) ∧ (j.blt ((if x.cap = (IntKind.i64.wrap ((0 : Int) + (↑(1 : Nat) : Int))).toNat then x.lo else
  x.lo + (IntKind.i64.wrap ((0 : Int) + (↑(1 : Nat) : Int))).toNat) + if x.len - (↑k : Int).toNat < v.toNat - (IntKind.i64.wrap ((0 : Int) + (↑(1 : Nat) : Int))).toNat then x.len - (↑k : Int).toNat else v.toNat -
  (IntKind.i64.wrap ((0 : Int) + (↑(1 : Nat) : Int))).toNat) = false → (j.blt (if x.cap = Int.toNat (0 : Int) then x.lo else x.lo + Int.toNat (0 : Int)) = true → x.a j = x_1.a j ∧ x.b j = x_1.b j ∧ True) ∧ (j.blt (if x.cap
  = Int.toNat (0 : Int) then x.lo else x.lo + Int.toNat (0 : Int)) = false → (j.blt ((if x.cap = Int.toNat (0 : Int) then x.lo else x.lo + Int.toNat (0 : Int)) + if (1 : Nat) < v.toNat - Int.toNat (0 : Int) then (1 : Nat)
  else v.toNat - Int.toNat (0 : Int)) = true → va = x_1.a j ∧ vb = x_1.b j ∧ True) ∧ (j.blt ((if x.cap = Int.toNat (0 : Int) then x.lo else x.lo + Int.toNat (0 : Int)) + if (1 : Nat) < v.toNat - Int.toNat (0 : Int) then (1
  : Nat) else v.toNat - Int.toNat (0 : Int)) = false → x.a j = x_1.a j ∧ x.b j = x_1.b j ∧ True))))) ∧ (j.blt (if x.cap = v.toNat then x.lo else x.lo + v.toNat) = false → (j.blt ((if x.cap = v.toNat then x.lo else x.lo +
  v.toNat) + (x.len - v.toNat)) = true → (0 : Int) = x_1.a j ∧ (0 : Int) = x_1.b j ∧ True) ∧ (j.blt ((if x.cap = v.toNat then x.lo else x.lo + v.toNat) + (x.len - v.toNat)) = false → (j.blt (if x.cap = (IntKind.i64.wrap
  ((0 : Int) + (↑(1 : Nat) : Int))).toNat then x.lo else x.lo + (IntKind.i64.wrap ((0 : Int) + (↑(1 : Nat) : Int))).toNat) = true → (j.blt (if x.cap = Int.toNat (0 : Int) then x.lo else x.lo + Int.toNat (0 : Int)) = true →
  x.a j = x_1.a j ∧ x.b j = x_1.b j ∧ True) ∧ (j.blt (if x.cap = Int.toNat (0 : Int) then x.lo else x.lo + Int.toNat (0 : Int)) = false → (j.blt ((if x.cap = Int.toNat (0 : Int) then x.lo else x.lo + Int.toNat (0 : Int)) +
  if (1 : Nat) < v.toNat - Int.toNat (0 : Int) then (1 : Nat) else v.toNat - Int.toNat (0 : Int)) = true → va = x_1.a j ∧ vb = x_1.b j ∧ True) ∧ (j.blt ((if x.cap = Int.toNat (0 : Int) then x.lo else x.lo + Int.toNat (0 :
  Int)) + if (1 : Nat) < v.toNat - Int.toNat (0 : Int) then (1 : Nat) else v.toNat - Int.toNat (0 : Int)) = false → x.a j = x_1.a j ∧ x.b j = x_1.b j ∧ True))) ∧ (j.blt (if x.cap = (IntKind.i64.wrap ((0 : Int) + (↑(1 :
  Nat) : Int))).toNat then x.lo else x.lo + (IntKind.i64.wrap ((0 : Int) + (↑(1 : Nat) : Int))).toNat) = false → (j.blt ((if x.cap = (IntKind.i64.wrap ((0 : Int) + (↑(1 : Nat) : Int))).toNat then x.lo else x.lo +
  (IntKind.i64.wrap ((0 : Int) + (↑(1 : Nat) : Int))).toNat) + if x.len - (↑k : Int).toNat < v.toNat - (IntKind.i64.wrap ((0 : Int) + (↑(1 : Nat) : Int))).toNat then x.len - (↑k : Int).toNat else v.toNat -
  (IntKind.i64.wrap ((0 : Int) + (↑(1 : Nat) : Int))).toNat) = true → (((if x.cap = (↑k : Int).toNat then x.lo else x.lo + (↑k : Int).toNat) + (j - if x.cap = (IntKind.i64.wrap ((0 : Int) + (↑(1 : Nat) : Int))).toNat then
  x.lo else x.lo + (IntKind.i64.wrap ((0 : Int) + (↑(1 : Nat) : Int))).toNat)).blt (if x.cap = Int.toNat (0 : Int) then x.lo else x.lo + Int.toNat (0 : Int)) = true → x.a ((if x.cap = (↑k : Int).toNat then x.lo else x.lo +
  (↑k : Int).toNat) + (j - if x.cap = (IntKind.i64.wrap ((0 : Int) + (↑(1 : Nat) : Int))).toNat then x.lo else x.lo + (IntKind.i64.wrap ((0 : Int) + (↑(1 : Nat) : Int))).toNat)) = x_1.a j ∧ x.b ((if x.cap = (↑k :
  Int).toNat then x.lo else x.lo + (↑k : Int).toNat) + (j - if x.cap = (IntKind.i64.wrap ((0 : Int) + (↑(1 : Nat) : Int))).toNat then x.lo else x.lo + (IntKind.i64.wrap ((0 : Int) + (↑(1 : Nat) : Int))).toNat)) = x_1.b j ∧
  True) ∧ (((if x.cap = (↑k : Int).toNat then x.lo else x.lo + (↑k : Int).toNat) + (j - if x.cap = (IntKind.i64.wrap ((0 : Int) + (↑(1 : Nat) : Int))).toNat then x.lo else x.lo + (IntKind.i64.wrap ((0 : Int) + (↑(1 : Nat)
  : Int))).toNat)).blt (if x.cap = Int.toNat (0 : Int) then x.lo else x.lo + Int.toNat (0 : Int)) = false → (((if x.cap = (↑k : Int).toNat then x.lo else x.lo + (↑k : Int).toNat) + (j - if x.cap = (IntKind.i64.wrap ((0 :
  Int) + (↑(1 : Nat) : Int))).toNat then x.lo else x.lo + (IntKind.i64.wrap ((0 : Int) + (↑(1 : Nat) : Int))).toNat)).blt ((if x.cap = Int.toNat (0 : Int) then x.lo else x.lo + Int.toNat (0 : Int)) + if (1 : Nat) < v.toNat
  - Int.toNat (0 : Int) then (1 : Nat) else v.toNat - Int.toNat (0 : Int)) = true → va = x_1.a j ∧ vb = x_1.b j ∧ True) ∧ (((if x.cap = (↑k : Int).toNat then x.lo else x.lo + (↑k : Int).toNat) + (j - if x.cap =
  (IntKind.i64.wrap ((0 : Int) + (↑(1 : Nat) : Int))).toNat then x.lo else x.lo + (IntKind.i64.wrap ((0 : Int) + (↑(1 : Nat) : Int))).toNat)).blt ((if x.cap = Int.toNat (0 : Int) then x.lo else x.lo + Int.toNat (0 : Int))
  + if (1 : Nat) < v.toNat - Int.toNat (0 : Int) then (1 : Nat) else v.toNat - Int.toNat (0 : Int)) = false → x.a ((if x.cap = (↑k : Int).toNat then x.lo else x.lo + (↑k : Int).toNat) + (j - if x.cap = (IntKind.i64.wrap
  ((0 : Int) + (↑(1 : Nat) : Int))).toNat then x.lo else x.lo + (IntKind.i64.wrap ((0 : Int) + (↑(1 : Nat) : Int))).toNat)) = x_1.a j ∧ x.b ((if x.cap = (↑k : Int).toNat then x.lo else x.lo + (↑k : Int).toNat) + (j - if
  x.cap = (IntKind.i64.wrap ((0 : Int) + (↑(1 : Nat) : Int))).toNat then x.lo else x.lo + (IntKind.i64.wrap ((0 : Int) + (↑(1 : Nat) : Int))).toNat)) = x_1.b j ∧ True))) ∧ (j.blt ((if x.cap = (IntKind.i64.wrap ((0 : Int) +
  (↑(1 : Nat) : Int))).toNat then x.lo else x.lo + (IntKind.i64.wrap ((0 : Int) + (↑(1 : Nat) : Int))).toNat) + if x.len - (↑k : Int).toNat < v.toNat - (IntKind.i64.wrap ((0 : Int) + (↑(1 : Nat) : Int))).toNat then x.len -
  (↑k : Int).toNat else v.toNat - (IntKind.i64.wrap ((0 : Int) + (↑(1 : Nat) : Int))).toNat) = false → (j.blt (if x.cap = Int.toNat (0 : Int) then x.lo else x.lo + Int.toNat (0 : Int)) = true → x.a j = x_1.a j ∧ x.b j =
  x_1.b j ∧ True) ∧ (j.blt (if x.cap = Int.toNat (0 : Int) then x.lo else x.lo + Int.toNat (0 : Int)) = false → (j.blt ((if x.cap = Int.toNat (0 : Int) then x.lo else x.lo + Int.toNat (0 : Int)) + if (1 : Nat) < v.toNat -
  Int.toNat (0 : Int) then (1 : Nat) else v.toNat - Int.toNat (0 : Int)) = true → va = x_1.a j ∧ vb = x_1.b j ∧ True) ∧ (j.blt ((if x.cap = Int.toNat (0 : Int) then x.lo else x.lo + Int.toNat (0 : Int)) + if (1 : Nat) <
  v.toNat - Int.toNat (0 : Int) then (1 : Nat) else v.toNat - Int.toNat (0 : Int)) = false → x.a j = x_1.a j ∧ x.b j = x_1.b j ∧ True))))))) ∧ True)) ∧ (decide (IntKind.i64.wrap ((0 : Int) + (↑(1 : Nat) : Int)) ≤ (↑k :
  Int)) = false → ((0 : Int) ≤ IntKind.i64.wrap ((0 : Int) + (↑(1 : Nat) : Int)) ∧ IntKind.i64.wrap ((0 : Int) + (↑(1 : Nat) : Int)) ≤ (↑v.toNat : Int)) ∧ False)))) := by
  simp only [true_and, and_true, eq_self, Nat.le_refl, decide_eq_true_eq, decide_eq_false_iff_not, beq_iff_eq, beq_eq_false_iff_ne, implies_true, and_self, Int.not_lt, Int.not_le, gt_iff_lt, ne_eq, Nat.zero_add, Int.toNat_natCast, nblt_true, nblt_false, IntKind.wrap_i64]
  rintro x k va vb ⟨hx, hlen, hk, hk1⟩
  obtain ⟨x1, x2⟩ := hx
  have z0 : Int.toNat (0 : Int) = 0 := rfl
  simp only [z0, Nat.add_zero, Nat.sub_zero, Nat.zero_add, ite_self]
  have key : ∀ (y : CR), y.lo = x.lo → y.len = x.len + 1 - k → y.cap = x.cap → y.Ok → (∀ j, j < x.len + 1 - k → y.a (x.lo + j) = repA x k va x.a (x.lo + j) ∧ y.b (x.lo + j) = repA x k vb x.b (x.lo + j)) → y.Ok ∧ y.L = (va, vb) :: x.L.drop k := fun y h0 h1 _ h2 h3 => ⟨h2, rep_L hk hk1 h1 fun j hj => by
    obtain ⟨e1, e2⟩ := h3 j hj
    rw [h0, e1, e2]
    unfold repA
    refine ⟨fun c => ⟨?_, ?_⟩, fun c => ⟨?_, ?_⟩⟩
    all_goals (repeat' split)
    all_goals (first | omega | (with_reducible rfl) | (exact congrArg x.a (by omega)) | (exact congrArg x.b (by omega)) | (exfalso; omega))⟩
  refine ⟨by omega, fun h => by omega, fun _ => ⟨fun he => ⟨by omega, fun hc => ?_, fun hc => by omega⟩, fun hne => ⟨by omega, by omega, fun v hv => ⟨fun hg => by omega, fun hroom => ⟨by omega, fun hb => ?_, fun hb => by omega⟩⟩⟩⟩⟩
  · refine ⟨by decide, by omega, fun h1 => ?_, fun h1 => ?_⟩
    · have f1 : (x.cap = 1) = False := by simp; omega
      have f2 : x.lo + 1 + (x.len - 1) = x.lo + x.len := by omega
      have f3 : (x.N ≤ x.lo + 1) = False := by simp; omega
      simp only [f1, f2, f3, if_false]
      have hN : x.lo + x.len ≤ (if x.N ≤ x.lo + x.len then x.lo + x.len else x.N) := by split <;> omega
      generalize (if x.N ≤ x.lo + x.len then x.lo + x.len else x.N) = N' at hN ⊢
      refine ⟨by omega, by omega, fun _ => ⟨⟨x.lo, x.len + 1 - k, x.cap, N', repA x k va x.a, repA x k vb x.b⟩, key _ rfl rfl rfl ⟨by dsimp only; omega, by dsimp only; omega⟩ (fun j _ => ⟨rfl, rfl⟩), ⟨rfl, by dsimp only; omega, rfl⟩, Nat.le_refl _, rfl, fun j hj => ?_⟩⟩
      dsimp only
      unfold repA
      repeat' (first | apply And.intro | intro _)
      all_goals (repeat' split)
      all_goals (first | omega | (with_reducible rfl) | (exact congrArg x.a (by omega)) | (exact congrArg x.b (by omega)) | (exfalso; omega))
    · have hN : x.lo + 1 ≤ (if x.N ≤ x.lo + 1 then x.lo + 1 else x.N) := by split <;> omega
      generalize (if x.N ≤ x.lo + 1 then x.lo + 1 else x.N) = N' at hN ⊢
      refine fun _ => ⟨⟨x.lo, x.len + 1 - k, x.cap, N', repA x k va x.a, repA x k vb x.b⟩, key _ rfl rfl rfl ⟨by dsimp only; omega, by dsimp only; omega⟩ (fun j _ => ⟨rfl, rfl⟩), ⟨rfl, by dsimp only; omega, rfl⟩, Nat.le_refl _, rfl, fun j hj => ?_⟩
      dsimp only
      unfold repA
      repeat' (first | apply And.intro | intro _)
      all_goals (repeat' split)
      all_goals (first | omega | (with_reducible rfl) | (exact congrArg x.a (by omega)) | (exact congrArg x.b (by omega)) | (exfalso; omega))
  · have ev : v = ((x.len + 1 - k : Nat) : Int) := by omega
    have e1 : ((0 : Int) + ((1 : Nat) : Int) + 9223372036854775808) % 18446744073709551616 - 9223372036854775808 = 1 := by decide
    have e2 : Int.toNat (1 : Int) = 1 := rfl
    clear hv
    subst ev
    have hkl : k < x.len := by omega
    have f1 : (x.cap = 1) = False := by simp; omega
    have f2 : (1 < x.len + 1 - k) = True := by simp; omega
    have f3 : (x.cap = k) = False := by simp; omega
    have f4 : x.len + 1 - k - 1 = x.len - k := by omega
    have f5 : (x.len - k < x.len - k) = False := by simp
    have f6 : (x.N ≤ x.lo + 1) = False := by simp; omega
    have f7 : (if x.N ≤ x.lo + 1 + (x.len - k) then x.lo + 1 + (x.len - k) else x.N) = x.N := by split <;> omega
    simp only [e1, e2, Int.toNat_natCast, f1, f2, f3, f4, f5, f6, f7, if_true, if_false]
    have hq : (if x.cap = x.len + 1 - k then x.lo else x.lo + (x.len + 1 - k)) + (x.len - (x.len + 1 - k)) ≤ x.lo + x.len := by split <;> omega
    have hq2 : (if x.cap = x.len + 1 - k then x.lo else x.lo + (x.len + 1 - k)) = x.lo + (x.len + 1 - k) ∨ (k = 1 ∧ (if x.cap = x.len + 1 - k then x.lo else x.lo + (x.len + 1 - k)) = x.lo) := by split <;> omega
    generalize (if x.cap = x.len + 1 - k then x.lo else x.lo + (x.len + 1 - k)) = q at hq hq2 ⊢
    have f8 : (x.N ≤ q + (x.len - (x.len + 1 - k))) = (x.N = q + (x.len - (x.len + 1 - k))) := by apply propext; omega
    have hN : (if x.N ≤ q + (x.len - (x.len + 1 - k)) then q + (x.len - (x.len + 1 - k)) else x.N) = x.N := by split <;> omega
    rw [hN]
    clear f1 f2 f3 f4 f5 f6 f7 f8 e1 e2 hN
    refine ⟨by omega, by omega, by omega, by omega, by omega, by omega, by omega, by omega, by omega, fun _ => ⟨⟨x.lo, x.len + 1 - k, x.cap, x.N, repA x k va x.a, repA x k vb x.b⟩, key _ rfl rfl rfl ⟨by dsimp only; omega, by dsimp only; omega⟩ (fun j _ => ⟨rfl, rfl⟩), ⟨rfl, rfl, rfl⟩, Nat.le_refl _, rfl, fun j hj => ?_⟩⟩
    dsimp only
    unfold repA
    repeat' (first | apply And.intro | intro _)
    all_goals (repeat' split)
    all_goals (first | omega | (with_reducible rfl) | (exact congrArg x.a (by omega)) | (exact congrArg x.b (by omega)) | (exfalso; omega))

def rep_C (_ : (CR × Nat × Int × Int)) : Cfg := { Γ := Go.Sx.look [], names := true, lows := true, mode := repM, tails := repT }
theorem rep_al (x : (CR × Nat × Int × Int)) : Shown (repP.vc Try.prog (rep_C x) Try.f45 x) := ⟨@Eq.mp _ _ (by kernel_rfl) (rep_vc (x.1) (x.2.1) (x.2.2.1) (x.2.2.2))⟩
theorem rep_ok : SpOk Try.prog 45 repP.sp := @Pat.okS _ repP Try.prog rep_C 45 Try.f45 (fun x => cfg_nil rfl) (by kernel_rfl) Try.func45 (fun _ => rfl) rep_al
/-- A copy. -/
def cloP : Pat CR where
  view | [t], H => some (viewC t H) | _, _ => none
  args x := [x.v 0]
  H x := [x.ro]
  out x := .need (x.Ok ∧ x.len ≤ 1000) (.any (fun y : CR => (y.Ok ∧ y.lo = 0 ∧ y.len = x.len ∧ y.N = x.len) ∧ y.L = x.L) fun y => .ret (y.v 1) [x.ro, y.reg])
theorem clo_vc : ∀ (x : CR), (x.Ok ∧ x.len ≤ (1000 : Nat)) ∧ True → x.lo + x.len ≤ x.N ∧ ((0 : Nat) = (0 : Nat) ∧ (0 : Nat) ≤ (0 : Nat) ∧ (0 : Nat) ≤ (0 : Nat) ∧ (0 : Nat) ≤ (0 : Nat) ∧ ((0 : Nat) + x.len) * (16 : Nat) ≤ (140737488355328
  : Nat) ∧ (0 : Nat) + x.len ≤ (9223372036854775807 : Nat) ∧ (∀ (_ : Nat), (2 : Nat) = (2 : Nat)) ∧ ∀ (_ : Nat), (2 : Nat) = (2 : Nat)) ∧ ∀ (cap' : Nat), (0 : Nat) + x.len ≤ cap' → x.Ok ∧ x.len ≤ (1000 : Nat) → ∃ (x_1 :
  CR), ((x_1.Ok ∧ x_1.lo = (0 : Nat) ∧ x_1.len = x.len ∧ x_1.N = x.len) ∧ x_1.L = x.L) ∧ (True ∧ True ∧ (0 : Nat) = x_1.lo ∧ (0 : Nat) + x.len = x_1.len ∧ cap' = x_1.cap) ∧ True ∧ ((0 : Nat) ≤ (0 : Nat) ∧ x.N = x.N ∧ ∀ (j
  : Nat), j < x.N → x.a j = x.a j ∧ x.b j = x.b j ∧ True) ∧ ((x_1.lo + x_1.cap) * (2 : Nat) ≤ cap' * (2 : Nat) ∧ x_1.N = (0 : Nat) + x.len ∧ ∀ (j : Nat), j < (0 : Nat) + x.len → (j.blt (0 : Nat) = true → (0 : Int) = x_1.a
  j ∧ (0 : Int) = x_1.b j ∧ True) ∧ (j.blt (0 : Nat) = false → x.a (x.lo + (j - (0 : Nat))) = x_1.a j ∧ x.b (x.lo + (j - (0 : Nat))) = x_1.b j ∧ True)) ∧ True := by
  simp only [true_and, and_true, eq_self, Nat.le_refl, implies_true, and_self, Nat.zero_add, nblt_true, nblt_false]
  rintro x ⟨⟨x1, x2⟩, hlen⟩
  refine ⟨x1, ⟨by omega, by omega⟩, fun c hc _ => ⟨⟨0, x.len, c, x.len, fun j => x.a (x.lo + j), fun j => x.b (x.lo + j)⟩, ⟨⟨⟨by dsimp only; omega, hc⟩, rfl, rfl, rfl⟩, ?_⟩, ⟨rfl, rfl, rfl⟩, by dsimp only; omega, rfl, fun j hj => ⟨fun h => absurd h (Nat.not_lt_zero j), fun _ => ⟨rfl, rfl⟩⟩⟩⟩
  refine CR.L_eq (by rw [CR.L_len]) fun j hj => ?_
  rw [CR.L_get, if_pos hj]
  simp only [Nat.zero_add]

def clo_C (_ : CR) : Cfg := { Γ := Go.Sx.look [], names := true }
theorem clo_al (x : CR) : Shown (cloP.vc Try.prog (clo_C x) Try.f44 x) := ⟨@Eq.mp _ _ (by kernel_rfl) (clo_vc x)⟩
theorem clo_ok : SpOk Try.prog 44 cloP.sp := @Pat.okS _ cloP Try.prog clo_C 44 Try.f44 (fun x => cfg_nil rfl) (by kernel_rfl) Try.func44 (fun _ => rfl) clo_al
end Go.Proofs.Ytokiakcmdbihhaa
