import Derived.Test.YtokiakcmdbihhaaS1
open Go Go.Sx Go.Proofs
set_option maxRecDepth 100000
namespace Go.Proofs.Ytokiakcmdbihhaa

def vReg (a b : Int) : Reg := rowReg 40 1 2 1 (fun _ => chT a b)
def vv (r : Nat) : T := .slice r 0 [] 0 2 1 1
def insP : Pat (CR × Nat × Int × Int) where
  view | [t, .int .i64 k, .slice r' _ _ _ _ _ _], H => some (viewC t H, k.toNat, tInt (tAt (tArr (regC H r') 0) 0), tInt (tAt (tArr (regC H r') 0) 1)) | _, _ => none
  args x := [x.1.v 0, .int .i64 x.2.1, vv 1]
  H x := [x.1.reg, vReg x.2.2.1 x.2.2.2]
  out x := .need (x.1.Ok ∧ x.1.len ≤ 1000 ∧ x.2.1 ≤ x.1.len) (.any (fun y : CR => y.Ok ∧ y.L = x.1.L.take x.2.1 ++ (x.2.2.1, x.2.2.2) :: x.1.L.drop x.2.1) fun y => .ret (y.v 2) [dead, vReg x.2.2.1 x.2.2.2, y.reg])
def insM : Nat → Nat
  | 11 => 2
  | 15 => 2
  | _ => 0
def insT : Nat → Option Nat
  | 11 => some 8
  | 15 => some 8
  | _ => none
theorem ins_get (L : Chs) (k : Nat) (v : Int × Int) (hk : k ≤ L.length) (j : Nat) : (L.take k ++ v :: L.drop k)[j]? = if j < k then L[j]? else if j = k then some v else L[j - 1]? := by
  have hl : (L.take k).length = k := by simp; omega
  by_cases h1 : j < k
  · rw [if_pos h1, List.getElem?_append_left (by omega), List.getElem?_take_of_lt h1]
  · rw [if_neg h1, List.getElem?_append_right (by omega), hl]
    by_cases h2 : j = k
    · rw [if_pos h2, h2, Nat.sub_self]; rfl
    · rw [if_neg h2, show j - k = (j - k - 1) + 1 by omega, List.getElem?_cons_succ, List.getElem?_drop]
      congr 1; omega
theorem ins_L {x y : CR} {k : Nat} {va vb : Int} (hk : k ≤ x.len) (hl : y.len = x.len + 1) (h : ∀ j, j < x.len + 1 → (j < k → y.a (y.lo + j) = x.a (x.lo + j) ∧ y.b (y.lo + j) = x.b (x.lo + j)) ∧ (j = k → y.a (y.lo + j) = va ∧ y.b (y.lo + j) = vb) ∧
    (k < j → y.a (y.lo + j) = x.a (x.lo + (j - 1)) ∧ y.b (y.lo + j) = x.b (x.lo + (j - 1)))) : y.L = x.L.take k ++ (va, vb) :: x.L.drop k := by
  refine CR.L_eq (by simp [CR.L_len]; omega) fun j hj => ?_
  rw [ins_get _ _ _ (by rw [CR.L_len]; exact hk), CR.L_get, CR.L_get]
  obtain ⟨h1, h2, h3⟩ := h j (by omega)
  by_cases c1 : j < k
  · rw [if_pos c1, if_pos (by omega), (h1 c1).1, (h1 c1).2]
  · rw [if_neg c1]
    by_cases c2 : j = k
    · rw [if_pos c2, (h2 c2).1, (h2 c2).2]
    · rw [if_neg c2, if_pos (by omega), (h3 (by omega)).1, (h3 (by omega)).2]
def insA (x : CR) (k : Nat) (v : Int) (f : Nat → Int) (d : Nat) (j : Nat) : Int := if j < d + k then f (j + x.lo - d) else if j = d + k then v else if j < d + (x.len + 1) then f (j - 1 + x.lo - d) else f (j + x.lo - d)
def tIns : Tab := [(49, ovSp)]
theorem tIns_ok : TabOk Try.prog tIns := (tab_cons ovl_ok tab_nil)

theorem ins_vc : ∀ (x : CR) (k : Nat) (va vb : Int), (x.Ok ∧ x.len ≤ (1000 : Nat) ∧ k ≤ x.len) ∧ True → ((0 : Int) ≤ (↑k : Int) ∧ (↑k : Int) ≤ (↑x.len : Int)) ∧ ∀ (v : Int), v = (↑(1 : Nat) : Int) → ((v == (0 : Int)) = true → x.Ok ∧
  x.len ≤ (1000 : Nat) ∧ k ≤ x.len → ∃ (x_1 : CR), (x_1.Ok ∧ x_1.L = List.take k x.L ++ (va, vb) :: List.drop k x.L) ∧ (True ∧ True ∧ x.lo = x_1.lo ∧ x.len = x_1.len ∧ x.cap = x_1.cap) ∧ True ∧ (0 : Nat) = (0 : Nat) ∧ ((2
  : Nat) ≤ (2 : Nat) ∧ (1 : Nat) = (1 : Nat) ∧ ∀ (j : Nat), j < (1 : Nat) → va = va ∧ vb = vb ∧ True) ∧ ((x_1.lo + x_1.cap) * (2 : Nat) ≤ (x.lo + x.cap) * (2 : Nat) ∧ x_1.N = x.N ∧ ∀ (j : Nat), j < x.N → x.a j = x_1.a j ∧
  x.b j = x_1.b j ∧ True) ∧ True) ∧ ((v == (0 : Int)) = false → ∀ (v_1 : Int), v_1 = (↑x.len : Int) → (((↑k : Int) == v_1) = true → (1 : Nat) ≤ (1 : Nat) ∧ (x.len + (1 : Nat) ≤ x.cap → (16 : Nat) ≤ (281474976710656 : Nat)
  ∧ (x.lo + x.len ≤ x.N ∧ (x.lo + x.len + (1 : Nat)) * (2 : Nat) ≤ (x.lo + x.cap) * (2 : Nat) ∧ (∀ (_ : Nat), (2 : Nat) = (2 : Nat)) ∧ ∀ (_ : Nat), (2 : Nat) = (2 : Nat)) ∧ (x.Ok ∧ x.len ≤ (1000 : Nat) ∧ k ≤ x.len → ∃ (x_1
  : CR), (x_1.Ok ∧ x_1.L = List.take k x.L ++ (va, vb) :: List.drop k x.L) ∧ (True ∧ True ∧ x.lo = x_1.lo ∧ x.len + (1 : Nat) = x_1.len ∧ x.cap = x_1.cap) ∧ True ∧ (0 : Nat) = (0 : Nat) ∧ ((2 : Nat) ≤ (2 : Nat) ∧ (1 : Nat)
  = (1 : Nat) ∧ ∀ (j : Nat), j < (1 : Nat) → va = va ∧ vb = vb ∧ True) ∧ ((x_1.lo + x_1.cap) * (2 : Nat) ≤ (x.lo + x.cap) * (2 : Nat) ∧ (x_1.N = if x.N ≤ x.lo + x.len + (1 : Nat) then x.lo + x.len + (1 : Nat) else x.N) ∧ ∀
  (j : Nat), (j < if x.N ≤ x.lo + x.len + (1 : Nat) then x.lo + x.len + (1 : Nat) else x.N) → (j.blt (x.lo + x.len) = true → x.a j = x_1.a j ∧ x.b j = x_1.b j ∧ True) ∧ (j.blt (x.lo + x.len) = false → (j.blt (x.lo + x.len
  + (1 : Nat)) = true → va = x_1.a j ∧ vb = x_1.b j ∧ True) ∧ (j.blt (x.lo + x.len + (1 : Nat)) = false → x.a j = x_1.a j ∧ x.b j = x_1.b j ∧ True))) ∧ True)) ∧ (x.cap < x.len + (1 : Nat) → (x.lo + x.len ≤ x.N ∧ (x.len +
  (1 : Nat)) * (16 : Nat) ≤ (140737488355328 : Nat) ∧ x.len + (1 : Nat) ≤ (9223372036854775807 : Nat) ∧ (∀ (_ : Nat), (2 : Nat) = (2 : Nat)) ∧ ∀ (_ : Nat), (2 : Nat) = (2 : Nat)) ∧ ∀ (cap' : Nat), x.len + (1 : Nat) ≤ cap'
  → x.Ok ∧ x.len ≤ (1000 : Nat) ∧ k ≤ x.len → ∃ (x_1 : CR), (x_1.Ok ∧ x_1.L = List.take k x.L ++ (va, vb) :: List.drop k x.L) ∧ (True ∧ True ∧ (0 : Nat) = x_1.lo ∧ x.len + (1 : Nat) = x_1.len ∧ cap' = x_1.cap) ∧ True ∧ (0
  : Nat) = (0 : Nat) ∧ ((2 : Nat) ≤ (2 : Nat) ∧ (1 : Nat) = (1 : Nat) ∧ ∀ (j : Nat), j < (1 : Nat) → va = va ∧ vb = vb ∧ True) ∧ ((x_1.lo + x_1.cap) * (2 : Nat) ≤ cap' * (2 : Nat) ∧ x_1.N = x.len + (1 : Nat) ∧ ∀ (j : Nat),
  j < x.len + (1 : Nat) → (j.blt x.len = true → x.a (x.lo + j) = x_1.a j ∧ x.b (x.lo + j) = x_1.b j ∧ True) ∧ (j.blt x.len = false → va = x_1.a j ∧ vb = x_1.b j ∧ True)) ∧ True)) ∧ (((↑k : Int) == v_1) = false → (decide
  (IntKind.i64.wrap (v_1 + v) > (↑x.cap : Int)) = true → ((0 : Int) ≤ (↑k : Int) ∧ (↑k : Int) ≤ (↑x.cap : Int)) ∧ ((0 : Int) ≤ IntKind.i64.wrap (IntKind.i64.wrap (v_1 + v) - (↑k : Int)) ∧ IntKind.i64.wrap (IntKind.i64.wrap
  (v_1 + v) - (↑k : Int)) ≤ (9223372036854775807 : Int)) ∧ ((↑k : Int).toNat + (IntKind.i64.wrap (IntKind.i64.wrap (v_1 + v) - (↑k : Int))).toNat ≤ x.cap → (IntKind.i64.wrap (IntKind.i64.wrap (v_1 + v) - (↑k : Int))).toNat
  * (16 : Nat) ≤ (281474976710656 : Nat) ∧ (x.lo + (↑k : Int).toNat ≤ x.N ∧ (x.lo + (↑k : Int).toNat + (IntKind.i64.wrap (IntKind.i64.wrap (v_1 + v) - (↑k : Int))).toNat) * (2 : Nat) ≤ (x.lo + x.cap) * (2 : Nat) ∧ (∀ (_ :
  Nat), (2 : Nat) = (2 : Nat)) ∧ ∀ (_ : Nat), (2 : Nat) = (2 : Nat)) ∧ ((0 : Int) ≤ (↑k : Int) ∧ (↑k : Int) ≤ (↑((↑k : Int).toNat + (IntKind.i64.wrap (IntKind.i64.wrap (v_1 + v) - (↑k : Int))).toNat) : Int)) ∧ ((0 : Nat) +
  if (1 : Nat) < (↑k : Int).toNat + (IntKind.i64.wrap (IntKind.i64.wrap (v_1 + v) - (↑k : Int))).toNat - (↑k : Int).toNat then (1 : Nat) else (↑k : Int).toNat + (IntKind.i64.wrap (IntKind.i64.wrap (v_1 + v) - (↑k :
  Int))).toNat - (↑k : Int).toNat) ≤ (1 : Nat) ∧ (((if x.cap = (↑k : Int).toNat then x.lo else x.lo + (↑k : Int).toNat) ≤ if x.N ≤ x.lo + (↑k : Int).toNat + (IntKind.i64.wrap (IntKind.i64.wrap (v_1 + v) - (↑k :
  Int))).toNat then x.lo + (↑k : Int).toNat + (IntKind.i64.wrap (IntKind.i64.wrap (v_1 + v) - (↑k : Int))).toNat else x.N) ∧ ((if x.cap = (↑k : Int).toNat then x.lo else x.lo + (↑k : Int).toNat) + if (1 : Nat) < (↑k :
  Int).toNat + (IntKind.i64.wrap (IntKind.i64.wrap (v_1 + v) - (↑k : Int))).toNat - (↑k : Int).toNat then (1 : Nat) else (↑k : Int).toNat + (IntKind.i64.wrap (IntKind.i64.wrap (v_1 + v) - (↑k : Int))).toNat - (↑k :
  Int).toNat) * (2 : Nat) ≤ (x.lo + x.cap) * (2 : Nat) ∧ (∀ (_ : Nat), (2 : Nat) = (2 : Nat)) ∧ ∀ (_ : Nat), (2 : Nat) = (2 : Nat)) ∧ ((0 : Int) ≤ IntKind.i64.wrap ((↑k : Int) + v) ∧ IntKind.i64.wrap ((↑k : Int) + v) ≤
  (↑((↑k : Int).toNat + (IntKind.i64.wrap (IntKind.i64.wrap (v_1 + v) - (↑k : Int))).toNat) : Int)) ∧ ((0 : Int) ≤ (↑k : Int) ∧ (↑k : Int) ≤ (↑x.len : Int)) ∧ (((if x.cap = (↑k : Int).toNat then x.lo else x.lo + (↑k :
  Int).toNat) + if x.len - (↑k : Int).toNat < (↑k : Int).toNat + (IntKind.i64.wrap (IntKind.i64.wrap (v_1 + v) - (↑k : Int))).toNat - (IntKind.i64.wrap ((↑k : Int) + v)).toNat then x.len - (↑k : Int).toNat else (↑k :
  Int).toNat + (IntKind.i64.wrap (IntKind.i64.wrap (v_1 + v) - (↑k : Int))).toNat - (IntKind.i64.wrap ((↑k : Int) + v)).toNat) ≤ if (if x.N ≤ x.lo + (↑k : Int).toNat + (IntKind.i64.wrap (IntKind.i64.wrap (v_1 + v) - (↑k :
  Int))).toNat then x.lo + (↑k : Int).toNat + (IntKind.i64.wrap (IntKind.i64.wrap (v_1 + v) - (↑k : Int))).toNat else x.N) ≤ (if x.cap = (↑k : Int).toNat then x.lo else x.lo + (↑k : Int).toNat) + if (1 : Nat) < (↑k :
  Int).toNat + (IntKind.i64.wrap (IntKind.i64.wrap (v_1 + v) - (↑k : Int))).toNat - (↑k : Int).toNat then (1 : Nat) else (↑k : Int).toNat + (IntKind.i64.wrap (IntKind.i64.wrap (v_1 + v) - (↑k : Int))).toNat - (↑k :
  Int).toNat then (if x.cap = (↑k : Int).toNat then x.lo else x.lo + (↑k : Int).toNat) + if (1 : Nat) < (↑k : Int).toNat + (IntKind.i64.wrap (IntKind.i64.wrap (v_1 + v) - (↑k : Int))).toNat - (↑k : Int).toNat then (1 :
  Nat) else (↑k : Int).toNat + (IntKind.i64.wrap (IntKind.i64.wrap (v_1 + v) - (↑k : Int))).toNat - (↑k : Int).toNat else if x.N ≤ x.lo + (↑k : Int).toNat + (IntKind.i64.wrap (IntKind.i64.wrap (v_1 + v) - (↑k :
  Int))).toNat then x.lo + (↑k : Int).toNat + (IntKind.i64.wrap (IntKind.i64.wrap (v_1 + v) - (↑k : Int))).toNat else x.N) ∧ (((if x.cap = (IntKind.i64.wrap ((↑k : Int) + v)).toNat then x.lo else x.lo + (IntKind.i64.wrap
  ((↑k : Int) + v)).toNat) ≤ if (if x.N ≤ x.lo + (↑k : Int).toNat + (IntKind.i64.wrap (IntKind.i64.wrap (v_1 + v) - (↑k : Int))).toNat then x.lo + (↑k : Int).toNat + (IntKind.i64.wrap (IntKind.i64.wrap (v_1 + v) - (↑k :
  Int))).toNat else x.N) ≤ (if x.cap = (↑k : Int).toNat then x.lo else x.lo + (↑k : Int).toNat) + if (1 : Nat) < (↑k : Int).toNat + (IntKind.i64.wrap (IntKind.i64.wrap (v_1 + v) - (↑k : Int))).toNat - (↑k : Int).toNat then
  (1 : Nat) else (↑k : Int).toNat + (IntKind.i64.wrap (IntKind.i64.wrap (v_1 + v) - (↑k : Int))).toNat - (↑k : Int).toNat then (if x.cap = (↑k : Int).toNat then x.lo else x.lo + (↑k : Int).toNat) + if (1 : Nat) < (↑k :
  Int).toNat + (IntKind.i64.wrap (IntKind.i64.wrap (v_1 + v) - (↑k : Int))).toNat - (↑k : Int).toNat then (1 : Nat) else (↑k : Int).toNat + (IntKind.i64.wrap (IntKind.i64.wrap (v_1 + v) - (↑k : Int))).toNat - (↑k :
  Int).toNat else if x.N ≤ x.lo + (↑k : Int).toNat + (IntKind.i64.wrap (IntKind.i64.wrap (v_1 + v) - (↑k : Int))).toNat then x.lo + (↑k : Int).toNat + (IntKind.i64.wrap (IntKind.i64.wrap (v_1 + v) - (↑k : Int))).toNat else
  x.N) ∧ ((if x.cap = (IntKind.i64.wrap ((↑k : Int) + v)).toNat then x.lo else x.lo + (IntKind.i64.wrap ((↑k : Int) + v)).toNat) + if x.len - (↑k : Int).toNat < (↑k : Int).toNat + (IntKind.i64.wrap (IntKind.i64.wrap (v_1 +
  v) - (↑k : Int))).toNat - (IntKind.i64.wrap ((↑k : Int) + v)).toNat then x.len - (↑k : Int).toNat else (↑k : Int).toNat + (IntKind.i64.wrap (IntKind.i64.wrap (v_1 + v) - (↑k : Int))).toNat - (IntKind.i64.wrap ((↑k : Int)
  + v)).toNat) * (2 : Nat) ≤ (x.lo + x.cap) * (2 : Nat) ∧ (∀ (_ : Nat), (2 : Nat) = (2 : Nat)) ∧ ∀ (_ : Nat), (2 : Nat) = (2 : Nat)) ∧ (x.Ok ∧ x.len ≤ (1000 : Nat) ∧ k ≤ x.len → ∃ (x_1 : CR), (x_1.Ok ∧ x_1.L = List.take k
  x.L ++ (va, vb) :: List.drop k x.L) ∧ (True ∧ True ∧ x.lo = x_1.lo ∧ (↑k : Int).toNat + (IntKind.i64.wrap (IntKind.i64.wrap (v_1 + v) - (↑k : Int))).toNat = x_1.len ∧ x.cap = x_1.cap) ∧ True ∧ (0 : Nat) = (0 : Nat) ∧ ((2
  : Nat) ≤ (2 : Nat) ∧ (1 : Nat) = (1 : Nat) ∧ ∀ (j : Nat), j < (1 : Nat) → va = va ∧ vb = vb ∧ True) ∧ ((x_1.lo + x_1.cap) * (2 : Nat) ≤ (x.lo + x.cap) * (2 : Nat) ∧ (x_1.N = if (if (if x.N ≤ x.lo + (↑k : Int).toNat +
  (IntKind.i64.wrap (IntKind.i64.wrap (v_1 + v) - (↑k : Int))).toNat then x.lo + (↑k : Int).toNat + (IntKind.i64.wrap (IntKind.i64.wrap (v_1 + v) - (↑k : Int))).toNat else x.N) ≤ (if x.cap = (↑k : Int).toNat then x.lo else
  x.lo + (↑k : Int).toNat) + if (1 : Nat) < (↑k : Int).toNat + (IntKind.i64.wrap (IntKind.i64.wrap (v_1 + v) - (↑k : Int))).toNat - (↑k : Int).toNat then (1 : Nat) else (↑k : Int).toNat + (IntKind.i64.wrap
  (IntKind.i64.wrap (v_1 + v) - (↑k : Int))).toNat - (↑k : Int).toNat then (if x.cap = (↑k : Int).toNat then x.lo else x.lo + (↑k : Int).toNat) + if (1 : Nat) < (↑k : Int).toNat + (IntKind.i64.wrap (IntKind.i64.wrap (v_1 +
  v) - (↑k : Int))).toNat - (↑k : Int).toNat then (1 : Nat) else (↑k : Int).toNat + (IntKind.i64.wrap (IntKind.i64.wrap (v_1 + v) - (↑k : Int))).toNat - (↑k : Int).toNat else if x.N ≤ x.lo + (↑k : Int).toNat +
  (IntKind.i64.wrap (IntKind.i64.wrap (v_1 + v) - (↑k : Int))).toNat then x.lo + (↑k : Int).toNat + (IntKind.i64.wrap (IntKind.i64.wrap (v_1 + v) - (↑k : Int))).toNat else x.N) ≤ (if x.cap = (IntKind.i64.wrap ((↑k : Int) +
  v)).toNat then x.lo else x.lo + (IntKind.i64.wrap ((↑k : Int) + v)).toNat) + if x.len - (↑k : Int).toNat < (↑k : Int).toNat + (IntKind.i64.wrap (IntKind.i64.wrap (v_1 + v) - (↑k : Int))).toNat - (IntKind.i64.wrap ((↑k :
  Int) + v)).toNat then x.len - (↑k : Int).toNat else (↑k : Int).toNat + (IntKind.i64.wrap (IntKind.i64.wrap (v_1 + v) - (↑k : Int))).toNat - (IntKind.i64.wrap ((↑k : Int) + v)).toNat then (if x.cap = (IntKind.i64.wrap
  ((↑k : Int) + v)).toNat then x.lo else x.lo + (IntKind.i64.wrap ((↑k : Int) + v)).toNat) + if x.len - (↑k : Int).toNat < (↑k : Int).toNat + (IntKind.i64.wrap (IntKind.i64.wrap (v_1 + v) - (↑k : Int))).toNat -
  (IntKind.i64.wrap ((↑k : Int) + v)).toNat then x.len - (↑k : Int).toNat else (↑k : Int).toNat + (IntKind.i64.wrap (IntKind.i64.wrap (v_1 + v) - (↑k : Int))).toNat - (IntKind.i64.wrap ((↑k : Int) + v)).toNat else if (if
  x.N ≤ x.lo + (↑k : Int).toNat + (IntKind.i64.wrap (IntKind.i64.wrap (v_1 + v) - (↑k : Int))).toNat then x.lo + (↑k : Int).toNat + (IntKind.i64.wrap (IntKind.i64.wrap (v_1 + v) - (↑k : Int))).toNat else x.N) ≤ (if x.cap =
  (↑k : Int).toNat then x.lo else x.lo + (↑k : Int).toNat) + if (1 : Nat) < (↑k : Int).toNat + (IntKind.i64.wrap (IntKind.i64.wrap (v_1 + v) - (↑k : Int))).toNat - (↑k : Int).toNat then (1 : Nat) else (↑k : Int).toNat +
  (IntKind.i64.wrap (IntKind.i64.wrap (v_1 + v) - (↑k : Int))).toNat - (↑k : Int).toNat then (if x.cap = (↑k : Int).toNat then x.lo else x.lo + (↑k : Int).toNat) + if (1 : Nat) < (↑k : Int).toNat + (IntKind.i64.wrap
  (IntKind.i64.wrap (v_1 + v) - (↑k : Int))).toNat - (↑k : Int).toNat then (1 : Nat) else (↑k : Int).toNat + (IntKind.i64.wrap (IntKind.i64.wrap (v_1 + v) - (↑k : Int))).toNat - (↑k : Int).toNat else if x.N ≤ x.lo + (↑k :
  Int).toNat + (IntKind.i64.wrap (IntKind.i64.wrap (v_1 + v) - (↑k : Int))).toNat then x.lo + (↑k : Int).toNat + (IntKind.i64.wrap (IntKind.i64.wrap (v_1 + v) - (↑k : Int))).toNat else x.N) ∧ ∀ (j : Nat), (j < if (if (if
  x.N ≤ x.lo + (↑k : Int).toNat + (IntKind.i64.wrap (IntKind.i64.wrap (v_1 + v) - (↑k : Int))).toNat then x.lo + (↑k : Int).toNat + (IntKind.i64.wrap (IntKind.i64.wrap (v_1 + v) - (↑k : Int))).toNat else x.N) ≤ (if x.cap =
  (↑k : Int).toNat then x.lo else x.lo + (↑k : Int).toNat) + if (1 : Nat) < (↑k : Int).toNat + (IntKind.i64.wrap (IntKind.i64.wrap (v_1 + v) - (↑k : Int))).toNat - (↑k : Int).toNat then (1 : Nat) else (↑k : Int).toNat +
  (IntKind.i64.wrap (IntKind.i64.wrap (v_1 + v) - (↑k : Int))).toNat - (↑k : Int).toNat then (if x.cap = (↑k : Int).toNat then x.lo else x.lo + (↑k : Int).toNat) + if (1 : Nat) < (↑k : Int).toNat + (IntKind.i64.wrap
  (IntKind.i64.wrap (v_1 + v) - (↑k : Int))).toNat - (↑k : Int).toNat then (1 : Nat) else (↑k : Int).toNat + (IntKind.i64.wrap (IntKind.i64.wrap (v_1 + v) - (↑k : Int))).toNat - (↑k : Int).toNat else if x.N ≤ x.lo + (↑k :
  Int).toNat + (IntKind.i64.wrap (IntKind.i64.wrap (v_1 + v) - (↑k : Int))).toNat then x.lo + (↑k : Int).toNat + (IntKind.i64.wrap (IntKind.i64.wrap (v_1 + v) - (↑k : Int))).toNat else x.N) ≤ (if x.cap = (IntKind.i64.wrap
  ((↑k : Int) + v)).toNat then x.lo else x.lo + (IntKind.i64.wrap ((↑k : Int) + v)).toNat) + if x.len - (↑k : Int).toNat < (↑k : Int).toNat + (IntKind.i64.wrap (IntKind.i64.wrap (v_1 + v) - (↑k : Int))).toNat -
  (IntKind.i64.wrap ((↑k : Int) + v)).toNat then x.len - (↑k : Int).toNat else (↑k : Int).toNat + (IntKind.i64.wrap (IntKind.i64.wrap (v_1 + v) - (↑k : Int))).toNat - (IntKind.i64.wrap ((↑k : Int) + v)).toNat then (if
  x.cap = (IntKind.i64.wrap ((↑k : Int) + v)).toNat then x.lo else x.lo + (IntKind.i64.wrap ((↑k : Int) + v)).toNat) + if x.len - (↑k : Int).toNat < (↑k : Int).toNat + (IntKind.i64.wrap (IntKind.i64.wrap (v_1 + v) - (↑k :
  Int))).toNat - (IntKind.i64.wrap ((↑k : Int) + v)).toNat then x.len - (↑k : Int).toNat else (↑k : Int).toNat + (IntKind.i64.wrap (IntKind.i64.wrap (v_1 + v) - (↑k : Int))).toNat - (IntKind.i64.wrap ((↑k : Int) +
  v)).toNat else if (if x.N ≤ x.lo + (↑k : Int).toNat + (IntKind.i64.wrap (IntKind.i64.wrap (v_1 + v) - (↑k : Int))).toNat then x.lo + (↑k : Int).toNat + (IntKind.i64.wrap (IntKind.i64.wrap (v_1 + v) - (↑k : Int))).toNat
  else x.N) ≤ (if x.cap = (↑k : Int).toNat then x.lo else x.lo + (↑k : Int).toNat) + if (1 : Nat) < (↑k : Int).toNat + (IntKind.i64.wrap (IntKind.i64.wrap (v_1 + v) - (↑k : Int))).toNat - (↑k : Int).toNat then (1 : Nat)
  else (↑k : Int).toNat + (IntKind.i64.wrap (IntKind.i64.wrap (v_1 + v) - (↑k : Int))).toNat - (↑k : Int).toNat then (if x.cap = (↑k : Int).toNat then x.lo else x.lo + (↑k : Int).toNat) + if (1 : Nat) < (↑k : Int).toNat +
  (IntKind.i64.wrap (IntKind.i64.wrap (v_1 + v) - (↑k : Int))).toNat - (↑k : Int).toNat then (1 : Nat) else (↑k : Int).toNat + (IntKind.i64.wrap (IntKind.i64.wrap (v_1 + v) - (↑k : Int))).toNat - (↑k : Int).toNat else if
  x.N ≤ x.lo + (↑k : Int).toNat + (IntKind.i64.wrap (IntKind.i64.wrap (v_1 + v) - (↑k : Int))).toNat then x.lo + (↑k : Int).toNat + (IntKind.i64.wrap (IntKind.i64.wrap (v_1 + v) - (↑k : Int))).toNat else x.N) → (j.blt (if
  x.cap = (IntKind.i64.wrap ((↑k : Int) + v)).toNat then x.lo else x.lo + (IntKind.i64.wrap ((↑k : Int) + v)).toNat) = true → (j.blt (if x.cap = (↑k : Int).toNat then x.lo else x.lo + (↑k : Int).toNat) = true → (j.blt
  (x.lo + (↑k : Int).toNat) = true → x.a j = x_1.a j ∧ x.b j = x_1.b j ∧ True) ∧ (j.blt (x.lo + (↑k : Int).toNat) = false → (j.blt (x.lo + (↑k : Int).toNat + (IntKind.i64.wrap (IntKind.i64.wrap (v_1 + v) - (↑k :
  Int))).toNat) = true → (0 : Int) = x_1.a j ∧ (0 : Int) = x_1.b j ∧ True) ∧ (j.blt (x.lo + (↑k : Int).toNat + (IntKind.i64.wrap (IntKind.i64.wrap (v_1 + v) - (↑k : Int))).toNat) = false → x.a j = x_1.a j ∧ x.b j = x_1.b j
  ∧ True))) ∧ (j.blt (if x.cap = (↑k : Int).toNat then x.lo else x.lo + (↑k : Int).toNat) = false → (j.blt ((if x.cap = (↑k : Int).toNat then x.lo else x.lo + (↑k : Int).toNat) + if (1 : Nat) < (↑k : Int).toNat +
  (IntKind.i64.wrap (IntKind.i64.wrap (v_1 + v) - (↑k : Int))).toNat - (↑k : Int).toNat then (1 : Nat) else (↑k : Int).toNat + (IntKind.i64.wrap (IntKind.i64.wrap (v_1 + v) - (↑k : Int))).toNat - (↑k : Int).toNat) = true →
  va = x_1.a j ∧ vb = x_1.b j ∧ True) ∧ (j.blt ((if x.cap = (↑k : Int).toNat then x.lo else x.lo + (↑k : Int).toNat) + if (1 : Nat) < (↑k : Int).toNat + (IntKind.i64.wrap (IntKind.i64.wrap (v_1 + v) - (↑k : Int))).toNat -
  (↑k : Int).toNat then (1 : Nat) else (↑k : Int).toNat + (IntKind.i64.wrap (IntKind.i64.wrap (v_1 + v) - (↑k : Int))).toNat - (↑k : Int).toNat) = false → (j.blt (x.lo + (↑k : Int).toNat) = true → x.a j = x_1.a j ∧ x.b j =
  x_1.b j ∧ True) ∧ (j.blt (x.lo + (↑k : Int).toNat) = false → (j.blt (x.lo + (↑k : Int).toNat + (IntKind.i64.wrap (IntKind.i64.wrap (v_1 + v) - (↑k : Int))).toNat) = true → (0 : Int) = x_1.a j ∧ (0 : Int) = x_1.b j ∧
  True) ∧ (j.blt (x.lo + (↑k : Int).toNat + (IntKind.i64.wrap (IntKind.i64.wrap (v_1 + v) - (↑k : Int))).toNat) = false → x.a j = x_1.a j ∧ x.b j = x_1.b j ∧ True))))) ∧ (j.blt (if x.cap = (IntKind.i64.wrap ((↑k : Int) +
  v)).toNat then x.lo else x.lo + (IntKind.i64.wrap ((↑k : Int) + v)).toNat) = false → (j.blt ((if x.cap = (IntKind.i64.wrap ((↑k : Int) + v)).toNat then x.lo else x.lo + (IntKind.i64.wrap ((↑k : Int) + v)).toNat) + if
  x.len - (↑k : Int).toNat < (↑k : Int).toNat + (IntKind.i64.wrap (IntKind.i64.wrap (v_1 + v) - (↑k : Int))).toNat - (IntKind.i64.wrap ((↑k : Int) + v)).toNat then x.len - (↑k : Int).toNat else (↑k : Int).toNat +
  (IntKind.i64.wrap (IntKind.i64.wrap (v_1 + v) - (↑k : Int))).toNat - (IntKind.i64.wrap ((↑k : Int) + v)).toNat) = true → (((if x.cap = (↑k : Int).toNat then x.lo else x.lo + (↑k : Int).toNat) + (j - if x.cap =
  (IntKind.i64.wrap ((↑k : Int) + v)).toNat then x.lo else x.lo + (IntKind.i64.wrap ((↑k : Int) + v)).toNat)).blt (if x.cap = (↑k : Int).toNat then x.lo else x.lo + (↑k : Int).toNat) = true → (((if x.cap = (↑k : Int).toNat
  then x.lo else x.lo + (↑k : Int).toNat) + (j - if x.cap = (IntKind.i64.wrap ((↑k : Int) + v)).toNat then x.lo else x.lo + (IntKind.i64.wrap ((↑k : Int) + v)).toNat)).blt (x.lo + (↑k : Int).toNat) = true → x.a ((if x.cap
  = (↑k : Int).toNat then x.lo else x.lo + (↑k : Int).toNat) + (j - if x.cap = (IntKind.i64.wrap ((↑k : Int) + v)).toNat then x.lo else x.lo + (IntKind.i64.wrap ((↑k : Int) + v)).toNat)) = x_1.a j ∧ x.b ((if x.cap = (↑k :
  Int).toNat then x.lo else x.lo + (↑k : Int).toNat) + (j - if x.cap = (IntKind.i64.wrap ((↑k : Int) + v)).toNat then x.lo else x.lo + (IntKind.i64.wrap ((↑k : Int) + v)).toNat)) = x_1.b j ∧ True) ∧ (((if x.cap = (↑k :
  Int).toNat then x.lo else x.lo + (↑k : Int).toNat) + (j - if x.cap = (IntKind.i64.wrap ((↑k : Int) + v)).toNat then x.lo else x.lo + (IntKind.i64.wrap ((↑k : Int) + v)).toNat)).blt (x.lo + (↑k : Int).toNat) = false →
  (((if x.cap = (↑k : Int).toNat then x.lo else x.lo + (↑k : Int).toNat) + (j - if x.cap = (IntKind.i64.wrap ((↑k : Int) + v)).toNat then x.lo else x.lo + (IntKind.i64.wrap ((↑k : Int) + v)).toNat)).blt (x.lo + (↑k :
  Int).toNat + (IntKind.i64.wrap (IntKind.i64.wrap (v_1 + v) - (↑k : Int))).toNat) = true → (0 : Int) = x_1.a j ∧ (0 : Int) = x_1.b j ∧ True) ∧ (((if x.cap = (↑k : Int).toNat then x.lo else x.lo + (↑k : Int).toNat) + (j -
  if x.cap = (IntKind.i64.wrap ((↑k : Int) + v)).toNat then x.lo else x.lo + (IntKind.i64.wrap ((↑k : Int) + v)).toNat)).blt (x.lo + (↑k : Int).toNat + (IntKind.i64.wrap (IntKind.i64.wrap (v_1 + v) - (↑k : Int))).toNat) =
  false → x.a ((if x.cap = (↑k : Int).toNat then x.lo else x.lo + (↑k : Int).toNat) + (j - if x.cap = (IntKind.i64.wrap ((↑k : Int) + v)).toNat then x.lo else x.lo + (IntKind.i64.wrap ((↑k : Int) + v)).toNat)) = x_1.a j ∧
  x.b ((if x.cap = (↑k : Int).toNat then x.lo else x.lo + (↑k : Int).toNat) + (j - if x.cap = (IntKind.i64.wrap ((↑k : Int) + v)).toNat then x.lo else x.lo + (IntKind.i64.wrap ((↑k : Int) + v)).toNat)) = x_1.b j ∧ True)))
  ∧ (((if x.cap = (↑k : Int).toNat then x.lo else x.lo + (↑k : Int).toNat) + (j - if x.cap = (IntKind.i64.wrap ((↑k : Int) + v)).toNat then x.lo else x.lo + (IntKind.i64.wrap ((↑k : Int) + v)).toNat)).blt (if x.cap = (↑k :
  Int).toNat then x.lo else x.lo + (↑k : Int).toNat) = false → (((if x.cap = (↑k : Int).toNat then x.lo else x.lo + (↑k : Int).toNat) + (j - if x.cap = (IntKind.i64.wrap ((↑k : Int) + v)).toNat then x.lo else x.lo +
  (IntKind.i64.wrap ((↑k : Int) + v)).toNat)).blt ((if x.cap = (↑k : Int).toNat then x.lo else x.lo + (↑k : Int).toNat) + if (1 : Nat) < (↑k : Int).toNat + (IntKind.i64.wrap (IntKind.i64.wrap (v_1 + v) - (↑k : Int))).toNat
  - (↑k : Int).toNat then (1 : Nat) else (↑k : Int).toNat + (IntKind.i64.wrap (IntKind.i64.wrap (v_1 + v) - (↑k : Int))).toNat - (↑k : Int).toNat) = true → va = x_1.a j ∧ vb = x_1.b j ∧ True) ∧ (((if x.cap = (↑k :
  Int).toNat then x.lo else x.lo + (↑k : Int).toNat) + (j - if x.cap = (IntKind.i64.wrap ((↑k : Int) + v)).toNat then x.lo else x.lo + (IntKind.i64.wrap ((↑k : Int) + v)).toNat)).blt ((if x.cap = (↑k : Int).toNat then x.lo
  else x.lo + (↑k : Int).toNat) + if (1 : Nat) < (↑k : Int).toNat + (IntKind.i64.wrap (IntKind.i64.wrap (v_1 + v) - (↑k : Int))).toNat - (↑k : Int).toNat then (1 : Nat) else (↑k : Int).toNat + (IntKind.i64.wrap
  (IntKind.i64.wrap (v_1 + v) - (↑k : Int))).toNat - (↑k : Int).toNat) = false → (((if x.cap = (↑k : Int).toNat then x.lo else x.lo + (↑k : Int).toNat) + (j - if x.cap = (IntKind.i64.wrap ((↑k : Int) + v)).toNat then x.lo
  else x.lo + (IntKind.i64.wrap ((↑k : Int) + v)).toNat)).blt (x.lo + (↑k : Int).toNat) = true → x.a ((if x.cap = (↑k : Int).toNat then x.lo else x.lo + (↑k : Int).toNat) + (j - if x.cap = (IntKind.i64.wrap ((↑k : Int) +
  v)).toNat then x.lo else x.lo + (IntKind.i64.wrap ((↑k : Int) + v)).toNat)) = x_1.a j ∧ x.b ((if x.cap = (↑k : Int).toNat then x.lo else x.lo + (↑k : Int).toNat) + (j - if x.cap = (IntKind.i64.wrap ((↑k : Int) +
  v)).toNat then x.lo else x.lo + (IntKind.i64.wrap ((↑k : Int) + v)).toNat)) = x_1.b j ∧ True) ∧ (((if x.cap = (↑k : Int).toNat then x.lo else x.lo + (↑k : Int).toNat) + (j - if x.cap = (IntKind.i64.wrap ((↑k : Int) +
  v)).toNat then x.lo else x.lo + (IntKind.i64.wrap ((↑k : Int) + v)).toNat)).blt (x.lo + (↑k : Int).toNat) = false → (((if x.cap = (↑k : Int).toNat then x.lo else x.lo + (↑k : Int).toNat) + (j - if x.cap =
  (IntKind.i64.wrap ((↑k : Int) + v)).toNat then x.lo else x.lo + (IntKind.i64.wrap ((↑k : Int) + v)).toNat)).blt (x.lo + (↑k : Int).toNat + (IntKind.i64.wrap (IntKind.i64.wrap (v_1 + v) - (↑k : Int))).toNat) = true → (0 :
  Int) = x_1.a j ∧ (0 : Int) = x_1.b j ∧ True) ∧ (((if x.cap = (↑k : Int).toNat then x.lo else x.lo + (↑k : Int).toNat) + (j - if x.cap = (IntKind.i64.wrap ((↑k : Int) + v)).toNat then x.lo else x.lo + (IntKind.i64.wrap
  ((↑k : Int) + v)).toNat)).blt (x.lo + (↑k : Int).toNat + (IntKind.i64.wrap (IntKind.i64.wrap (v_1 + v) - (↑k : Int))).toNat) = false → x.a ((if x.cap = (↑k : Int).toNat then x.lo else x.lo + (↑k : Int).toNat) + (j - if
  x.cap = (IntKind.i64.wrap ((↑k : Int) + v)).toNat then x.lo else x.lo + (IntKind.i64.wrap ((↑k : Int) + v)).toNat)) = x_1.a j ∧ x.b ((if x.cap = (↑k : Int).toNat then x.lo else x.lo + (↑k : Int).toNat) + (j - if x.cap =
  (IntKind.i64.wrap ((↑k : Int) + v)).toNat then x.lo else x.lo + (IntKind.i64.wrap ((↑k : Int) + v)).toNat)) = x_1.b j ∧ True))))) ∧ (j.blt ((if x.cap = (IntKind.i64.wrap ((↑k : Int) + v)).toNat then x.lo else x.lo +
  (IntKind.i64.wrap ((↑k : Int) + v)).toNat) + if x.len - (↑k : Int).toNat < (↑k : Int).toNat + (IntKind.i64.wrap (IntKind.i64.wrap (v_1 + v) - (↑k : Int))).toNat - (IntKind.i64.wrap ((↑k : Int) + v)).toNat then x.len -
  (↑k : Int).toNat else (↑k : Int).toNat + (IntKind.i64.wrap (IntKind.i64.wrap (v_1 + v) - (↑k : Int))).toNat - (IntKind.i64.wrap ((↑k : Int) + v)).toNat) = false → (j.blt (if x.cap = (↑k : Int).toNat then x.lo else x.lo +
  (↑k : Int).toNat) = true → (j.blt (x.lo + (↑k : Int).toNat) = true → x.a j = x_1.a j ∧ x.b j = x_1.b j ∧ True) ∧ (j.blt (x.lo + (↑k : Int).toNat) = false → (j.blt (x.lo + (↑k : Int).toNat + (IntKind.i64.wrap
  (IntKind.i64.wrap (v_1 + v) - (↑k : Int))).toNat) = true → (0 : Int) = x_1.a j ∧ (0 : Int) = x_1.b j ∧ True) ∧ (j.blt (x.lo + (↑k : Int).toNat + (IntKind.i64.wrap (IntKind.i64.wrap (v_1 + v) - (↑k : Int))).toNat) = false
  → x.a j = x_1.a j ∧ x.b j = x_1.b j ∧ True))) ∧ (j.blt (if x.cap = (↑k : Int).toNat then x.lo else x.lo + (↑k : Int).toNat) = false → (j.blt ((if x.cap = (↑k : Int).toNat then x.lo else x.lo + (↑k : Int).toNat) + if (1 :
  Nat) < (↑k : Int).toNat + (IntKind.i64.wrap (IntKind.i64.wrap (v_1 + v) - (↑k : Int))).toNat - (↑k : Int).toNat then (1 : Nat) else (↑k : Int).toNat + (IntKind.i64.wrap (IntKind.i64.wrap (v_1 + v) - (↑k : Int))).toNat -
  (↑k : Int).toNat) = true → va = x_1.a j ∧ vb = x_1.b j ∧ True) ∧ (j.blt ((if x.cap = (↑k : Int).toNat then x.lo else x.lo + (↑k : Int).toNat) + if (1 : Nat) < (↑k : Int).toNat + (IntKind.i64.wrap (IntKind.i64.wrap (v_1 +
  v) - (↑k : Int))).toNat - (↑k : Int).toNat then (1 : Nat) else (↑k : Int).toNat + (IntKind.i64.wrap (IntKind.i64.wrap (v_1 + v) - (↑k : Int))).toNat - (↑k : Int).toNat) = false → (j.blt (x.lo + (↑k : Int).toNat) = true →
  x.a j = x_1.a j ∧ x.b j = x_1.b j ∧ True) ∧ (j.blt (x.lo + (↑k : Int).toNat) = false → (j.blt (x.lo + (↑k : Int).toNat + (IntKind.i64.wrap (IntKind.i64.wrap (v_1 + v) - (↑k : Int))).toNat) = true → (0 : Int) = x_1.a j ∧
  (0 : Int) = x_1.b j ∧ True) ∧ (j.blt (x.lo + (↑k : Int).toNat + (IntKind.i64.wrap (IntKind.i64.wrap (v_1 + v) - (↑k : Int))).toNat) = false → x.a j = x_1.a j ∧ x.b j = x_1.b j ∧ True))))))) ∧ True)) ∧ (x.cap < (↑k :
  Int).toNat + (IntKind.i64.wrap (IntKind.i64.wrap (v_1 + v) - (↑k : Int))).toNat → (x.lo + (↑k : Int).toNat ≤ x.N ∧ ((↑k : Int).toNat + (IntKind.i64.wrap (IntKind.i64.wrap (v_1 + v) - (↑k : Int))).toNat) * (16 : Nat) ≤
  (140737488355328 : Nat) ∧ (↑k : Int).toNat + (IntKind.i64.wrap (IntKind.i64.wrap (v_1 + v) - (↑k : Int))).toNat ≤ (9223372036854775807 : Nat) ∧ (∀ (_ : Nat), (2 : Nat) = (2 : Nat)) ∧ ∀ (_ : Nat), (2 : Nat) = (2 : Nat)) ∧
  ∀ (cap' : Nat), (↑k : Int).toNat + (IntKind.i64.wrap (IntKind.i64.wrap (v_1 + v) - (↑k : Int))).toNat ≤ cap' → ((0 : Int) ≤ (↑k : Int) ∧ (↑k : Int) ≤ (↑((↑k : Int).toNat + (IntKind.i64.wrap (IntKind.i64.wrap (v_1 + v) -
  (↑k : Int))).toNat) : Int)) ∧ ((0 : Nat) + if (1 : Nat) < (↑k : Int).toNat + (IntKind.i64.wrap (IntKind.i64.wrap (v_1 + v) - (↑k : Int))).toNat - (↑k : Int).toNat then (1 : Nat) else (↑k : Int).toNat + (IntKind.i64.wrap
  (IntKind.i64.wrap (v_1 + v) - (↑k : Int))).toNat - (↑k : Int).toNat) ≤ (1 : Nat) ∧ ((if cap' = (↑k : Int).toNat then (0 : Nat) else (0 : Nat) + (↑k : Int).toNat) ≤ (↑k : Int).toNat + (IntKind.i64.wrap (IntKind.i64.wrap
  (v_1 + v) - (↑k : Int))).toNat ∧ ((if cap' = (↑k : Int).toNat then (0 : Nat) else (0 : Nat) + (↑k : Int).toNat) + if (1 : Nat) < (↑k : Int).toNat + (IntKind.i64.wrap (IntKind.i64.wrap (v_1 + v) - (↑k : Int))).toNat - (↑k
  : Int).toNat then (1 : Nat) else (↑k : Int).toNat + (IntKind.i64.wrap (IntKind.i64.wrap (v_1 + v) - (↑k : Int))).toNat - (↑k : Int).toNat) * (2 : Nat) ≤ cap' * (2 : Nat) ∧ (∀ (_ : Nat), (2 : Nat) = (2 : Nat)) ∧ ∀ (_ :
  Nat), (2 : Nat) = (2 : Nat)) ∧ ((0 : Int) ≤ IntKind.i64.wrap ((↑k : Int) + v) ∧ IntKind.i64.wrap ((↑k : Int) + v) ≤ (↑((↑k : Int).toNat + (IntKind.i64.wrap (IntKind.i64.wrap (v_1 + v) - (↑k : Int))).toNat) : Int)) ∧ ((0
  : Int) ≤ (↑k : Int) ∧ (↑k : Int) ≤ (↑x.len : Int)) ∧ ((if x.cap = (↑k : Int).toNat then x.lo else x.lo + (↑k : Int).toNat) + if x.len - (↑k : Int).toNat < (↑k : Int).toNat + (IntKind.i64.wrap (IntKind.i64.wrap (v_1 + v)
  - (↑k : Int))).toNat - (IntKind.i64.wrap ((↑k : Int) + v)).toNat then x.len - (↑k : Int).toNat else (↑k : Int).toNat + (IntKind.i64.wrap (IntKind.i64.wrap (v_1 + v) - (↑k : Int))).toNat - (IntKind.i64.wrap ((↑k : Int) +
  v)).toNat) ≤ x.N ∧ (((if cap' = (IntKind.i64.wrap ((↑k : Int) + v)).toNat then (0 : Nat) else (0 : Nat) + (IntKind.i64.wrap ((↑k : Int) + v)).toNat) ≤ if (↑k : Int).toNat + (IntKind.i64.wrap (IntKind.i64.wrap (v_1 + v) -
  (↑k : Int))).toNat ≤ (if cap' = (↑k : Int).toNat then (0 : Nat) else (0 : Nat) + (↑k : Int).toNat) + if (1 : Nat) < (↑k : Int).toNat + (IntKind.i64.wrap (IntKind.i64.wrap (v_1 + v) - (↑k : Int))).toNat - (↑k : Int).toNat
  then (1 : Nat) else (↑k : Int).toNat + (IntKind.i64.wrap (IntKind.i64.wrap (v_1 + v) - (↑k : Int))).toNat - (↑k : Int).toNat then (if cap' = (↑k : Int).toNat then (0 : Nat) else (0 : Nat) + (↑k : Int).toNat) + if (1 :
  Nat) < (↑k : Int).toNat + (IntKind.i64.wrap (IntKind.i64.wrap (v_1 + v) - (↑k : Int))).toNat - (↑k : Int).toNat then (1 : Nat) else (↑k : Int).toNat + (IntKind.i64.wrap (IntKind.i64.wrap (v_1 + v) - (↑k : Int))).toNat -
  (↑k : Int).toNat else (↑k : Int).toNat + (IntKind.i64.wrap (IntKind.i64.wrap (v_1 + v) - (↑k : Int))).toNat) ∧ ((if cap' = (IntKind.i64.wrap ((↑k : Int) + v)).toNat then (0 : Nat) else (0 : Nat) + (IntKind.i64.wrap ((↑k
  : Int) + v)).toNat) + if x.len - (↑k : Int).toNat < (↑k : Int).toNat + (IntKind.i64.wrap (IntKind.i64.wrap (v_1 + v) - (↑k : Int))).toNat - (IntKind.i64.wrap ((↑k : Int) + v)).toNat then x.len - (↑k : Int).toNat else (↑k
  : Int).toNat + (IntKind.i64.wrap (IntKind.i64.wrap (v_1 + v) - (↑k : Int))).toNat - (IntKind.i64.wrap ((↑k : Int) + v)).toNat) * (2 : Nat) ≤ cap' * (2 : Nat) ∧ (∀ (_ : Nat), (2 : Nat) = (2 : Nat)) ∧ ∀ (_ : Nat), (2 :
  Nat) = (2 : Nat)) ∧ (x.Ok ∧ x.len ≤ (1000 : Nat) ∧ k ≤ x.len → ∃ (x_1 : CR), (x_1.Ok ∧ x_1.L = List.take k x.L ++ (va, vb) :: List.drop k x.L) ∧ (True ∧ True ∧ (0 : Nat) = x_1.lo ∧ (↑k : Int).toNat + (IntKind.i64.wrap
  (IntKind.i64.wrap (v_1 + v) - (↑k : Int))).toNat = x_1.len ∧ cap' = x_1.cap) ∧ True ∧ (0 : Nat) = (0 : Nat) ∧ ((2 : Nat) ≤ (2 : Nat) ∧ (1 : Nat) = (1 : Nat) ∧ ∀ (j : Nat), j < (1 : Nat) → va = va ∧ vb = vb ∧ True) ∧
  ((x_1.lo + x_1.cap) * (2 : Nat) ≤ cap' * (2 : Nat) ∧ (x_1.N = if (if (↑k : Int).toNat + (IntKind.i64.wrap (IntKind.i64.wrap (v_1 + v) - (↑k : Int))).toNat ≤ (if cap' = (↑k : Int).toNat then (0 : Nat) else (0 : Nat) + (↑k
  : Int).toNat) + if (1 : Nat) < (↑k : Int).toNat + (IntKind.i64.wrap (IntKind.i64.wrap (v_1 + v) - (↑k : Int))).toNat - (↑k : Int).toNat then (1 : Nat) else (↑k : Int).toNat + (IntKind.i64.wrap (IntKind.i64.wrap (v_1 + v)
  - (↑k : Int))).toNat - (↑k : Int).toNat then (if cap' = (↑k : Int).toNat then (0 : Nat) else (0 : Nat) + (↑k : Int).toNat) + if (1 : Nat) < (↑k : Int).toNat + (IntKind.i64.wrap (IntKind.i64.wrap (v_1 + v) - (↑k :
  Int))).toNat - (↑k : Int).toNat then (1 : Nat) else (↑k : Int).toNat + (IntKind.i64.wrap (IntKind.i64.wrap (v_1 + v) - (↑k : Int))).toNat - (↑k : Int).toNat else (↑k : Int).toNat + (IntKind.i64.wrap (IntKind.i64.wrap
  (v_1 + v) - (↑k : Int))).toNat) ≤ (if cap' = (IntKind.i64.wrap ((↑k : Int) + v)).toNat then (0 : Nat) else (0 : Nat) + (IntKind.i64.wrap ((↑k : Int) + v)).toNat) + if x.len - (↑k : Int).toNat < (↑k : Int).toNat +
  (IntKind.i64.wrap (IntKind.i64.wrap (v_1 + v) - (↑k : Int))).toNat - (IntKind.i64.wrap ((↑k : Int) + v)).toNat then x.len - (↑k : Int).toNat else (↑k : Int).toNat + (IntKind.i64.wrap (IntKind.i64.wrap (v_1 + v) - (↑k :
  Int))).toNat - (IntKind.i64.wrap ((↑k : Int) + v)).toNat then (if cap' = (IntKind.i64.wrap ((↑k : Int) + v)).toNat then (0 : Nat) else (0 : Nat) + (IntKind.i64.wrap ((↑k : Int) + v)).toNat) + if x.len - (↑k : Int).toNat
  < (↑k : Int).toNat + (IntKind.i64.wrap (IntKind.i64.wrap (v_1 + v) - (↑k : Int))).toNat - (IntKind.i64.wrap ((↑k : Int) + v)).toNat then x.len - (↑k : Int).toNat else (↑k : Int).toNat + (IntKind.i64.wrap
  (IntKind.i64.wrap (v_1 + v) - (↑k : Int))).toNat - (IntKind.i64.wrap ((↑k : Int) + v)).toNat else if (↑k : Int).toNat + (IntKind.i64.wrap (IntKind.i64.wrap (v_1 + v) - (↑k : Int))).toNat ≤ (if cap' = (↑k : Int).toNat
  then (0 : Nat) else (0 : Nat) + (↑k : Int).toNat) + if (1 : Nat) < (↑k : Int).toNat + (IntKind.i64.wrap (IntKind.i64.wrap (v_1 + v) - (↑k : Int))).toNat - (↑k : Int).toNat then (1 : Nat) else (↑k : Int).toNat +
  (IntKind.i64.wrap (IntKind.i64.wrap (v_1 + v) - (↑k : Int))).toNat - (↑k : Int).toNat then (if cap' = (↑k : Int).toNat then (0 : Nat) else (0 : Nat) + (↑k : Int).toNat) + if (1 : Nat) < (↑k : Int).toNat +
  (IntKind.i64.wrap (IntKind.i64.wrap (v_1 + v) - (↑k : Int))).toNat - (↑k : Int).toNat then (1 : Nat) else (↑k : Int).toNat + (IntKind.i64.wrap (IntKind.i64.wrap (v_1 + v) - (↑k : Int))).toNat - (↑k : Int).toNat else (↑k
  : Int).toNat + (IntKind.i64.wrap (IntKind.i64.wrap (v_1 + v) - (↑k : Int))).toNat) ∧ ∀ (j : Nat), (j < if (if (↑k : Int).toNat + (IntKind.i64.wrap (IntKind.i64.wrap (v_1 + v) - (↑k : Int))).toNat ≤ (if cap' = (↑k :
  Int).toNat then (0 : Nat) else (0 : Nat) + (↑k : Int).toNat) + if (1 : Nat) < (↑k : Int).toNat + (IntKind.i64.wrap (IntKind.i64.wrap (v_1 + v) - (↑k : Int))).toNat - (↑k : Int).toNat then (1 : Nat) else (↑k : Int).toNat
  + (IntKind.i64.wrap (IntKind.i64.wrap (v_1 + v) - (↑k : Int))).toNat - (↑k : Int).toNat then (if cap' = (↑k : Int).toNat then (0 : Nat) else (0 : Nat) + (↑k : Int).toNat) + if (1 : Nat) < (↑k : Int).toNat +
  (IntKind.i64.wrap (IntKind.i64.wrap (v_1 + v) - (↑k : Int))).toNat - (↑k : Int).toNat then (1 : Nat) else (↑k : Int).toNat + (IntKind.i64.wrap (IntKind.i64.wrap (v_1 + v) - (↑k : Int))).toNat - (↑k : Int).toNat else (↑k
  : Int).toNat + (IntKind.i64.wrap (IntKind.i64.wrap (v_1 + v) - (↑k : Int))).toNat) ≤ (if cap' = (IntKind.i64.wrap ((↑k : Int) + v)).toNat then (0 : Nat) else (0 : Nat) + (IntKind.i64.wrap ((↑k : Int) + v)).toNat) + if
  x.len - (↑k : Int).toNat < (↑k : Int).toNat + (IntKind.i64.wrap (IntKind.i64.wrap (v_1 + v) - (↑k : Int))).toNat - (IntKind.i64.wrap ((↑k : Int) + v)).toNat then x.len - (↑k : Int).toNat else (↑k : Int).toNat +
  (IntKind.i64.wrap (IntKind.i64.wrap (v_1 + v) - (↑k : Int))).toNat - (IntKind.i64.wrap ((↑k : Int) + v)).toNat then (if cap' = (IntKind.i64.wrap ((↑k : Int) + v)).toNat then (0 : Nat) else (0 : Nat) + (IntKind.i64.wrap
  ((↑k : Int) + v)).toNat) + if x.len - (↑k : Int).toNat < (↑k : Int).toNat + (IntKind.i64.wrap (IntKind.i64.wrap (v_1 + v) - (↑k : Int))).toNat - (IntKind.i64.wrap ((↑k : Int) + v)).toNat then x.len - (↑k : Int).toNat
  else (↑k : Int).toNat + (IntKind.i64.wrap (IntKind.i64.wrap (v_1 + v) - (↑k : Int))).toNat - (IntKind.i64.wrap ((↑k : Int) + v)).toNat else if (↑k : Int).toNat + (IntKind.i64.wrap (IntKind.i64.wrap (v_1 + v) - (↑k :
  Int))).toNat ≤ (if cap' = (↑k : Int).toNat then (0 : Nat) else (0 : Nat) + (↑k : Int).toNat) + if (1 : Nat) < (↑k : Int).toNat + (IntKind.i64.wrap (IntKind.i64.wrap (v_1 + v) - (↑k : Int))).toNat - (↑k : Int).toNat then
  (1 : Nat) else (↑k : Int).toNat + (IntKind.i64.wrap (IntKind.i64.wrap (v_1 + v) - (↑k : Int))).toNat - (↑k : Int).toNat then (if cap' = (↑k : Int).toNat then (0 : Nat) else (0 : Nat) + (↑k : Int).toNat) + if (1 : Nat) <
  (↑k : Int).toNat + (IntKind.i64.wrap (IntKind.i64.wrap (v_1 + v) - (↑k : Int))).toNat - (↑k : Int).toNat then (1 : Nat) else (↑k : Int).toNat + (IntKind.i64.wrap (IntKind.i64.wrap (v_1 + v) - (↑k : Int))).toNat - (↑k :
  Int).toNat else (↑k : Int).toNat + (IntKind.i64.wrap (IntKind.i64.wrap (v_1 + v) - (↑k : Int))).toNat) → (j.blt (if cap' = (IntKind.i64.wrap ((↑k : Int) + v)).toNat then (0 : Nat) else (0 : Nat) + (IntKind.i64.wrap ((↑k
  : Int) + v)).toNat) = true → (j.blt (if cap' = (↑k : Int).toNat then (0 : Nat) else (0 : Nat) + (↑k : Int).toNat) = true → (j.blt (↑k : Int).toNat = true → x.a (x.lo + j) = x_1.a j ∧ x.b (x.lo + j) = x_1.b j ∧ True) ∧
  (j.blt (↑k : Int).toNat = false → (0 : Int) = x_1.a j ∧ (0 : Int) = x_1.b j ∧ True)) ∧ (j.blt (if cap' = (↑k : Int).toNat then (0 : Nat) else (0 : Nat) + (↑k : Int).toNat) = false → (j.blt ((if cap' = (↑k : Int).toNat
  then (0 : Nat) else (0 : Nat) + (↑k : Int).toNat) + if (1 : Nat) < (↑k : Int).toNat + (IntKind.i64.wrap (IntKind.i64.wrap (v_1 + v) - (↑k : Int))).toNat - (↑k : Int).toNat then (1 : Nat) else (↑k : Int).toNat +
  (IntKind.i64.wrap (IntKind.i64.wrap (v_1 + v) - (↑k : Int))).toNat - (↑k : Int).toNat) = true → va = x_1.a j ∧ vb = x_1.b j ∧ True) ∧ (j.blt ((if cap' = (↑k : Int).toNat then (0 : Nat) else (0 : Nat) + (↑k : Int).toNat)
  + if (1 : Nat) < (↑k : Int).toNat + (IntKind.i64.wrap (IntKind.i64.wrap (v_1 + v) - (↑k : Int))).toNat - (↑k : Int).toNat then (1 : Nat) else (↑k : Int).toNat + (IntKind.i64.wrap (IntKind.i64.wrap (v_1 + v) - (↑k :
  Int))).toNat - (↑k : Int).toNat) = false → (j.blt (↑k : Int).toNat = true → x.a (x.lo + j) = x_1.a j ∧ x.b (x.lo + j) = x_1.b j ∧ True) ∧ (j.blt (↑k : Int).toNat = false → (0 : Int) = x_1.a j ∧ (0 : Int) = x_1.b j ∧
  True)))) ∧ (j.blt (if cap' = (IntKind.i64.wrap ((↑k : Int) + v)).toNat then (0 : Nat) else (0 : Nat) + (IntKind.i64.wrap ((↑k : Int) + v)).toNat) = false → (j.blt ((if cap' = (IntKind.i64.wrap ((↑k : Int) + v)).toNat
  then (0 : Nat) else (0 : Nat) + (IntKind.i64.wrap ((↑k : Int) + v)).toNat) + if x.len - (↑k : Int).toNat < (↑k : Int).toNat + (IntKind.i64.wrap (IntKind.i64.wrap (v_1 + v) - (↑k : Int))).toNat - (IntKind.i64.wrap ((↑k :
  Int) + v)).toNat then x.len - (↑k : Int).toNat else (↑k : Int).toNat + (IntKind.i64.wrap (IntKind.i64.wrap (v_1 + v) - (↑k : Int))).toNat - (IntKind.i64.wrap ((↑k : Int) + v)).toNat) = true → x.a ((if x.cap = (↑k :
  Int).toNat then x.lo else x.lo + (↑k : Int).toNat) + (j - if cap' = (IntKind.i64.wrap ((↑k : Int) + v)).toNat then (0 : Nat) else (0 : Nat) + (IntKind.i64.wrap ((↑k : Int) + v)).toNat)) = x_1.a j ∧ x.b ((if x.cap = (↑k :
  Int).toNat then x.lo else x.lo + (↑k : Int).toNat) + (j - if cap' = (IntKind.i64.wrap ((↑k : Int) + v)).toNat then (0 : Nat) else (0 : Nat) + (IntKind.i64.wrap ((↑k : Int) + v)).toNat)) = x_1.b j ∧ True) ∧ (j.blt ((if
  cap' = (IntKind.i64.wrap ((↑k : Int) + v)).toNat then (0 : Nat) else (0 : Nat) + (IntKind.i64.wrap ((↑k : Int) + v)).toNat) + if x.len - (↑k : Int).toNat < (↑k : Int).toNat + (IntKind.i64.wrap (IntKind.i64.wrap (v_1 + v)
  - (↑k : Int))).toNat - (IntKind.i64.wrap ((↑k : Int) + v)).toNat then x.len - (↑k : Int).toNat else (↑k : Int).toNat + (IntKind.i64.wrap (IntKind.i64.wrap (v_1 + v) - (↑k : Int))).toNat - (IntKind.i64.wrap ((↑k : Int) +
  v)).toNat) = false → (j.blt (if cap' = (↑k : Int).toNat then (0 : Nat) else (0 : Nat) + (↑k : Int).toNat) = true → (j.blt (↑k : Int).toNat = true → x.a (x.lo + j) = x_1.a j ∧ x.b (x.lo + j) = x_1.b j ∧ True) ∧ (j.blt (↑k
  : Int).toNat = false → (0 : Int) = x_1.a j ∧ (0 : Int) = x_1.b j ∧ True)) ∧ (j.blt (if cap' = (↑k : Int).toNat then (0 : Nat) else (0 : Nat) + (↑k : Int).toNat) = false → (j.blt ((if cap' = (↑k : Int).toNat then (0 :
  Nat) else (0 : Nat) + (↑k : Int).toNat) + if (1 : Nat) < (↑k : Int).toNat + (IntKind.i64.wrap (IntKind.i64.wrap (v_1 + v) - (↑k : Int))).toNat - (↑k : Int).toNat then (1 : Nat) else (↑k : Int).toNat + (IntKind.i64.wrap
  (IntKind.i64.wrap (v_1 + v) - (↑k : Int))).toNat - (↑k : Int).toNat) = true → va = x_1.a j ∧ vb = x_1.b j ∧ True) ∧ (j.blt ((if cap' = (↑k : Int).toNat then (0 : Nat) else (0 : Nat) + (↑k : Int).toNat) + if (1 : Nat) <
  (↑k : Int).toNat + (IntKind.i64.wrap (IntKind.i64.wrap (v_1 + v) - (↑k : Int))).toNat - (↑k : Int).toNat then (1 : Nat) else (↑k : Int).toNat + (IntKind.i64.wrap (IntKind.i64.wrap (v_1 + v) - (↑k : Int))).toNat - (↑k :
  Int).toNat) = false → (j.blt (↑k : Int).toNat = true → x.a (x.lo + j) = x_1.a j ∧ x.b (x.lo + j) = x_1.b j ∧ True) ∧ (j.blt (↑k : Int).toNat = false → (0 : Int) = x_1.a j ∧ (0 : Int) = x_1.b j ∧ True)))))) ∧ True))) ∧
  (decide (IntKind.i64.wrap (v_1 + v) > (↑x.cap : Int)) = false → ((0 : Int) ≤ IntKind.i64.wrap (v_1 + v) ∧ IntKind.i64.wrap (v_1 + v) ≤ (↑x.cap : Int)) ∧ ((0 : Int) ≤ IntKind.i64.wrap ((↑k : Int) + v) ∧ IntKind.i64.wrap
  ((↑k : Int) + v) ≤ (↑(IntKind.i64.wrap (v_1 + v)).toNat : Int)) ∧ (0 : Nat) < (x.lo + x.cap) * (2 : Nat) ∧ ((0 : Int) ≤ IntKind.i64.wrap ((↑k : Int) + v) ∧ IntKind.i64.wrap ((↑k : Int) + v) ≤ (↑(IntKind.i64.wrap (v_1 +
  v)).toNat : Int)) ∧ ((0 : Int) ≤ (↑k : Int) ∧ (↑k : Int) ≤ (↑(IntKind.i64.wrap (v_1 + v)).toNat : Int)) ∧ ((if x.cap = (↑k : Int).toNat then x.lo else x.lo + (↑k : Int).toNat) + if (IntKind.i64.wrap (v_1 + v)).toNat -
  (↑k : Int).toNat < (IntKind.i64.wrap (v_1 + v)).toNat - (IntKind.i64.wrap ((↑k : Int) + v)).toNat then (IntKind.i64.wrap (v_1 + v)).toNat - (↑k : Int).toNat else (IntKind.i64.wrap (v_1 + v)).toNat - (IntKind.i64.wrap
  ((↑k : Int) + v)).toNat) ≤ x.N ∧ ((if x.cap = (IntKind.i64.wrap ((↑k : Int) + v)).toNat then x.lo else x.lo + (IntKind.i64.wrap ((↑k : Int) + v)).toNat) ≤ x.N ∧ ((if x.cap = (IntKind.i64.wrap ((↑k : Int) + v)).toNat then
  x.lo else x.lo + (IntKind.i64.wrap ((↑k : Int) + v)).toNat) + if (IntKind.i64.wrap (v_1 + v)).toNat - (↑k : Int).toNat < (IntKind.i64.wrap (v_1 + v)).toNat - (IntKind.i64.wrap ((↑k : Int) + v)).toNat then
  (IntKind.i64.wrap (v_1 + v)).toNat - (↑k : Int).toNat else (IntKind.i64.wrap (v_1 + v)).toNat - (IntKind.i64.wrap ((↑k : Int) + v)).toNat) * (2 : Nat) ≤ (x.lo + x.cap) * (2 : Nat) ∧ (∀ (_ : Nat), (2 : Nat) = (2 : Nat)) ∧
  ∀ (_ : Nat), (2 : Nat) = (2 : Nat)) ∧ ((0 : Int) ≤ (↑k : Int) ∧ (↑k : Int) ≤ (↑(IntKind.i64.wrap (v_1 + v)).toNat : Int)) ∧ ((0 : Nat) + if (1 : Nat) < (IntKind.i64.wrap (v_1 + v)).toNat - (↑k : Int).toNat then (1 : Nat)
  else (IntKind.i64.wrap (v_1 + v)).toNat - (↑k : Int).toNat) ≤ (1 : Nat) ∧ (((if x.cap = (↑k : Int).toNat then x.lo else x.lo + (↑k : Int).toNat) ≤ if x.N ≤ (if x.cap = (IntKind.i64.wrap ((↑k : Int) + v)).toNat then x.lo
  else x.lo + (IntKind.i64.wrap ((↑k : Int) + v)).toNat) + if (IntKind.i64.wrap (v_1 + v)).toNat - (↑k : Int).toNat < (IntKind.i64.wrap (v_1 + v)).toNat - (IntKind.i64.wrap ((↑k : Int) + v)).toNat then (IntKind.i64.wrap
  (v_1 + v)).toNat - (↑k : Int).toNat else (IntKind.i64.wrap (v_1 + v)).toNat - (IntKind.i64.wrap ((↑k : Int) + v)).toNat then (if x.cap = (IntKind.i64.wrap ((↑k : Int) + v)).toNat then x.lo else x.lo + (IntKind.i64.wrap
  ((↑k : Int) + v)).toNat) + if (IntKind.i64.wrap (v_1 + v)).toNat - (↑k : Int).toNat < (IntKind.i64.wrap (v_1 + v)).toNat - (IntKind.i64.wrap ((↑k : Int) + v)).toNat then (IntKind.i64.wrap (v_1 + v)).toNat - (↑k :
  Int).toNat else (IntKind.i64.wrap (v_1 + v)).toNat - (IntKind.i64.wrap ((↑k : Int) + v)).toNat else x.N) ∧ ((if x.cap = (↑k : Int).toNat then x.lo else x.lo + (↑k : Int).toNat) + if (1 : Nat) < (IntKind.i64.wrap (v_1 +
  v)).toNat - (↑k : Int).toNat then (1 : Nat) else (IntKind.i64.wrap (v_1 + v)).toNat - (↑k : Int).toNat) * (2 : Nat) ≤ (x.lo + x.cap) * (2 : Nat) ∧ (∀ (_ : Nat), (2 : Nat) = (2 : Nat)) ∧ ∀ (_ : Nat), (2 : Nat) = (2 :
  Nat)) ∧ (x.Ok ∧ x.len ≤ (1000 : Nat) ∧ k ≤ x.len → ∃ (x_1 : CR), (x_1.Ok ∧ x_1.L = List.take k x.L ++ (va, vb) :: List.drop k x.L) ∧ (True ∧ True ∧ x.lo = x_1.lo ∧ (IntKind.i64.wrap (v_1 + v)).toNat = x_1.len ∧ x.cap =
  x_1.cap) ∧ True ∧ (0 : Nat) = (0 : Nat) ∧ ((2 : Nat) ≤ (2 : Nat) ∧ (1 : Nat) = (1 : Nat) ∧ ∀ (j : Nat), j < (1 : Nat) → va = va ∧ vb = vb ∧ True) ∧ ((x_1.lo + x_1.cap) * (2 : Nat) ≤ (x.lo + x.cap) * (2 : Nat) ∧ (x_1.N =
  if (if x.N ≤ (if x.cap = (IntKind.i64.wrap ((↑k : Int) + v)).toNat then x.lo else x.lo + (IntKind.i64.wrap ((↑k : Int) + v)).toNat) + if (IntKind.i64.wrap (v_1 + v)).toNat - (↑k : Int).toNat < (IntKind.i64.wrap (v_1 +
  v)).toNat - (IntKind.i64.wrap ((↑k : Int) + v)).toNat then (IntKind.i64.wrap (v_1 + v)).toNat - (↑k : Int).toNat else (IntKind.i64.wrap (v_1 + v)).toNat - (IntKind.i64.wrap ((↑k : Int) + v)).toNat then (if x.cap =
  (IntKind.i64.wrap ((↑k : Int) + v)).toNat then x.lo else x.lo + (IntKind.i64.wrap ((↑k : Int) + v)).toNat) + if (IntKind.i64.wrap (v_1 + v)).toNat - (↑k : Int).toNat < (IntKind.i64.wrap (v_1 + v)).toNat -
  (IntKind.i64.wrap ((↑k : Int) + v)).toNat then (IntKind.i64.wrap (v_1 + v)).toNat - (↑k : Int).toNat else (IntKind.i64.wrap (v_1 + v)).toNat - (IntKind.i64.wrap ((↑k : Int) + v)).toNat else x.N) ≤ (if x.cap = (↑k :
  Int).toNat then x.lo else x.lo + (↑k : Int).toNat) + if (1 : Nat) < (IntKind.i64.wrap (v_1 + v)).toNat - (↑k : Int).toNat then (1 : Nat) else (IntKind.i64.wrap (v_1 + v)).toNat - (↑k : Int).toNat then (if x.cap = (↑k :
  Int).toNat then x.lo else x.lo + (↑k : Int).toNat) + if (1 : Nat) < (IntKind.i64.wrap (v_1 + v)).toNat - (↑k : Int).toNat then (1 : Nat) else (IntKind.i64.wrap (v_1 + v)).toNat - (↑k : Int).toNat else if x.N ≤ (if x.cap
  = (IntKind.i64.wrap ((↑k : Int) + v)).toNat then x.lo else x.lo + (IntKind.i64.wrap ((↑k : Int) + v)).toNat) + if (IntKind.i64.wrap (v_1 + v)).toNat - (↑k : Int).toNat < (IntKind.i64.wrap (v_1 + v)).toNat -
  (IntKind.i64.wrap ((↑k : Int) + v)).toNat then (IntKind.i64.wrap (v_1 + v)).toNat - (↑k : Int).toNat else (IntKind.i64.wrap (v_1 + v)).toNat - (IntKind.i64.wrap ((↑k : Int) + v)).toNat then (if x.cap = (IntKind.i64.wrap
  ((↑k : Int) + v)).toNat then x.lo else x.lo + (IntKind.i64.wrap ((↑k : Int) + v)).toNat) + if (IntKind.i64.wrap (v_1 + v)).toNat - (↑k : Int).toNat < (IntKind.i64.wrap (v_1 + v)).toNat - (IntKind.i64.wrap ((↑k : Int) +
  v)).toNat then (IntKind.i64.wrap (v_1 + v)).toNat - (↑k : Int).toNat else (IntKind.i64.wrap (v_1 + v)).toNat - (IntKind.i64.wrap ((↑k : Int) + v)).toNat else x.N) ∧ ∀ (j : Nat), (j < if (if x.N ≤ (if x.cap =
  (IntKind.i64.wrap ((↑k : Int) + v)).toNat then x.lo else x.lo + (IntKind.i64.wrap ((↑k : Int) + v)).toNat) + if (IntKind.i64.wrap (v_1 + v)).toNat - (↑k : Int).toNat < (IntKind.i64.wrap (v_1 + v)).toNat -
  (IntKind.i64.wrap ((↑k : Int) + v)).toNat then (IntKind.i64.wrap (v_1 + v)).toNat - (↑k : Int).toNat else (IntKind.i64.wrap (v_1 + v)).toNat - (IntKind.i64.wrap ((↑k : Int) + v)).toNat then (if x.cap = (IntKind.i64.wrap
  ((↑k : Int) + v)).toNat then x.lo else x.lo + (IntKind.i64.wrap ((↑k : Int) + v)).toNat) + if (IntKind.i64.wrap (v_1 + v)).toNat - (↑k : Int).toNat < (IntKind.i64.wrap (v_1 + v)).toNat - (IntKind.i64.wrap ((↑k : Int) +
  v)).toNat then (IntKind.i64.wrap (v_1 + v)).toNat - (↑k : Int).toNat else (IntKind.i64.wrap (v_1 + v)).toNat - (IntKind.i64.wrap ((↑k : Int) + v)).toNat else x.N) ≤ (if x.cap = (↑k : Int).toNat then x.lo else x.lo + (↑k
  : Int).toNat) + if (1 : Nat) < (IntKind.i64.wrap (v_1 + v)).toNat - (↑k : Int).toNat then (1 : Nat) else (IntKind.i64.wrap (v_1 + v)).toNat - (↑k : Int).toNat then (if x.cap = (↑k : Int).toNat then x.lo else x.lo + (↑k :
  Int).toNat) + if (1 : Nat) < (IntKind.i64.wrap (v_1 + v)).toNat - (↑k : Int).toNat then (1 : Nat) else (IntKind.i64.wrap (v_1 + v)).toNat - (↑k : Int).toNat else if x.N ≤ (if x.cap = (IntKind.i64.wrap ((↑k : Int) +
  v)).toNat then x.lo else x.lo + (IntKind.i64.wrap ((↑k : Int) + v)).toNat) + if (IntKind.i64.wrap (v_1 + v)).toNat - (↑k : Int).toNat < (IntKind.i64.wrap (v_1 + v)).toNat - (IntKind.i64.wrap ((↑k : Int) + v)).toNat then
  (IntKind.i64.wrap (v_1 + v)).toNat - (↑k : Int).toNat else (IntKind.i64.wrap (v_1 + v)).toNat - (IntKind.i64.wrap ((↑k : Int) + v)).toNat then (if x.cap = (IntKind.i64.wrap ((↑k : Int) + v)).toNat then x.lo else x.lo +
  (IntKind.i64.wrap ((↑k : Int) + v)).toNat) + if (IntKind.i64.wrap (v_1 + v)).toNat - (↑k : Int).toNat < (IntKind.i64.wrap (v_1 + v)).toNat - (IntKind.i64.wrap ((↑k : Int) + v)).toNat then (IntKind.i64.wrap (v_1 +
  v)).toNat - (↑k : Int).toNat else (IntKind.i64.wrap (v_1 + v)).toNat - (IntKind.i64.wrap ((↑k : Int) + v)).toNat else x.N) → (j.blt (if x.cap = (↑k : Int).toNat then x.lo else x.lo + (↑k : Int).toNat) = true → (j.blt (if
  x.cap = (IntKind.i64.wrap ((↑k : Int) + v)).toNat then x.lo else x.lo + (IntKind.i64.wrap ((↑k : Int) + v)).toNat) = true → x.a j = x_1.a j ∧ x.b j = x_1.b j ∧ True) ∧ (j.blt (if x.cap = (IntKind.i64.wrap ((↑k : Int) +
  v)).toNat then x.lo else x.lo + (IntKind.i64.wrap ((↑k : Int) + v)).toNat) = false → (j.blt ((if x.cap = (IntKind.i64.wrap ((↑k : Int) + v)).toNat then x.lo else x.lo + (IntKind.i64.wrap ((↑k : Int) + v)).toNat) + if
  (IntKind.i64.wrap (v_1 + v)).toNat - (↑k : Int).toNat < (IntKind.i64.wrap (v_1 + v)).toNat - (IntKind.i64.wrap ((↑k : Int) + v)).toNat then (IntKind.i64.wrap (v_1 + v)).toNat - (↑k : Int).toNat else (IntKind.i64.wrap
  (v_1 + v)).toNat - (IntKind.i64.wrap ((↑k : Int) + v)).toNat) = true → x.a ((if x.cap = (↑k : Int).toNat then x.lo else x.lo + (↑k : Int).toNat) + (j - if x.cap = (IntKind.i64.wrap ((↑k : Int) + v)).toNat then x.lo else
  x.lo + (IntKind.i64.wrap ((↑k : Int) + v)).toNat)) = x_1.a j ∧ x.b ((if x.cap = (↑k : Int).toNat then x.lo else x.lo + (↑k : Int).toNat) + (j - if x.cap = (IntKind.i64.wrap ((↑k : Int) + v)).toNat then x.lo else x.lo +
  (IntKind.i64.wrap ((↑k : Int) + v)).toNat)) = x_1.b j ∧ True) ∧ (j.blt ((if x.cap = (IntKind.i64.wrap ((↑k : Int) + v)).toNat then x.lo else x.lo + (IntKind.i64.wrap ((↑k : Int) + v)).toNat) + if (IntKind.i64.wrap (v_1 +
  v)).toNat - (↑k : Int).toNat < (IntKind.i64.wrap (v_1 + v)).toNat - (IntKind.i64.wrap ((↑k : Int) + v)).toNat then (IntKind.i64.wrap (v_1 + v)).toNat - (↑k : Int).toNat else (IntKind.i64.wrap (v_1 + v)).toNat -
  (IntKind.i64.wrap ((↑k : Int) + v)).toNat) = false → x.a j = x_1.a j ∧ x.b j = x_1.b j ∧ True))) ∧ (j.blt (if x.cap = (↑k : Int).toNat then x.lo else x.lo + (↑k : Int).toNat) = false → (j.blt ((if x.cap = (↑k :
  Int).toNat then x.lo else x.lo + (↑k : Int).toNat) + if (1 : Nat) < (IntKind.i64.wrap (v_1 + v)).toNat - (↑k : Int).toNat then (1 : Nat) else (IntKind.i64.wrap (v_1 + v)).toNat - (↑k : Int).toNat) = true → va = x_1.a j ∧
  vb = x_1.b j ∧ True) ∧ (j.blt ((if x.cap = (↑k : Int).toNat then x.lo else x.lo + (↑k : Int).toNat) + if (1 : Nat) < (IntKind.i64.wrap (v_1 + v)).toNat - (↑k : Int).toNat then (1 : Nat) else (IntKind.i64.wrap (v_1 +
  v)).toNat - (↑k : Int).toNat) = false → (j.blt (if x.cap = (IntKind.i64.wrap ((↑k : Int) + v)).toNat then x.lo else x.lo + (IntKind.i64.wrap ((↑k : Int) + v)).toNat) = true → x.a j = x_1.a j ∧ x.b j = x_1.b j ∧ True) ∧
  (j.blt (if x.cap = (IntKind.i64.wrap ((↑k : Int) + v)).toNat then x.lo else x.lo + (IntKind.i64.wrap ((↑k : Int) + v)).toNat) = false → (j.blt ((if x.cap = (IntKind.i64.wrap ((↑k : Int) + v)).toNat then x.lo else x.lo +
  (IntKind.i64.wrap ((↑k : Int) + v)).toNat) + if (IntKind.i64.wrap (v_1 + v)).toNat - (↑k : Int).toNat < (IntKind.i64.wrap (v_1 + v)).toNat - (IntKind.i64.wrap ((↑k : Int) + v)).toNat then (IntKind.i64.wrap (v_1 +
  v)).toNat - (↑k : Int).toNat else (IntKind.i64.wrap (v_1 + v)).toNat - (IntKind.i64.wrap ((↑k : Int) + v)).toNat) = true → x.a ((if x.cap = (↑k : Int).toNat then x.lo else x.lo + (↑k : Int).toNat) + (j - if x.cap =
  (IntKind.i64.wrap ((↑k : Int) + v)).toNat then x.lo else x.lo + (IntKind.i64.wrap ((↑k : Int) + v)).toNat)) = x_1.a j ∧ x.b ((if x.cap = (↑k : Int).toNat then x.lo else x.lo + (↑k : Int).toNat) + (j - if x.cap =
  (IntKind.i64.wrap ((↑k : Int) + v)).toNat then x.lo else x.lo + (IntKind.i64.wrap ((↑k : Int) + v)).toNat)) = x_1.b j ∧ True) ∧ (j.blt ((if x.cap = (IntKind.i64.wrap ((↑k : Int) + v)).toNat then x.lo else x.lo +
  (IntKind.i64.wrap ((↑k : Int) + v)).toNat) + if (IntKind.i64.wrap (v_1 + v)).toNat - (↑k : Int).toNat < (IntKind.i64.wrap (v_1 + v)).toNat - (IntKind.i64.wrap ((↑k : Int) + v)).toNat then (IntKind.i64.wrap (v_1 +
  v)).toNat - (↑k : Int).toNat else (IntKind.i64.wrap (v_1 + v)).toNat - (IntKind.i64.wrap ((↑k : Int) + v)).toNat) = false → x.a j = x_1.a j ∧ x.b j = x_1.b j ∧ True))))) ∧ True)))) := by
  simp only [true_and, and_true, eq_self, Nat.le_refl, decide_eq_true_eq, decide_eq_false_iff_not, beq_iff_eq, beq_eq_false_iff_ne, implies_true, and_self, Int.not_lt, gt_iff_lt, ne_eq, Nat.zero_add, Int.toNat_natCast, nblt_true, nblt_false, IntKind.wrap_i64]
  rintro x k va vb ⟨hx, hlen, hk⟩
  obtain ⟨x1, x2⟩ := hx
  have key : ∀ (y : CR), y.len = x.len + 1 → y.Ok → (∀ j, j < x.len + 1 → y.a (y.lo + j) = insA x k va x.a y.lo (y.lo + j) ∧ y.b (y.lo + j) = insA x k vb x.b y.lo (y.lo + j)) → y.Ok ∧ y.L = x.L.take k ++ (va, vb) :: x.L.drop k := fun y h1 h2 h3 => ⟨h2, ins_L hk h1 fun j hj => by
    obtain ⟨e1, e2⟩ := h3 j hj
    rw [e1, e2]
    unfold insA
    refine ⟨fun c => ⟨?_, ?_⟩, fun c => ⟨?_, ?_⟩, fun c => ⟨?_, ?_⟩⟩
    all_goals (repeat' split)
    all_goals (first | omega | (with_reducible rfl) | (exact congrArg x.a (by omega)) | (exact congrArg x.b (by omega)) | (exfalso; omega))⟩
  refine ⟨by omega, fun v hv => ⟨fun h => by omega, fun _ v1 hv1 => ⟨fun he => ⟨fun hroom => ?_, fun hgrow => ?_⟩, fun hne => ⟨fun hg => ?_, fun hroom => ?_⟩⟩⟩⟩
  · refine ⟨by decide, ⟨by omega, by omega⟩, fun _ => ?_⟩
    have hN : x.lo + x.len + 1 ≤ (if x.N ≤ x.lo + x.len + 1 then x.lo + x.len + 1 else x.N) := by split <;> omega
    generalize (if x.N ≤ x.lo + x.len + 1 then x.lo + x.len + 1 else x.N) = N' at hN ⊢
    refine ⟨⟨x.lo, x.len + 1, x.cap, N', insA x k va x.a x.lo, insA x k vb x.b x.lo⟩, key _ rfl ⟨by dsimp only; omega, by dsimp only; omega⟩ (fun j _ => ⟨rfl, rfl⟩), ⟨rfl, rfl, rfl⟩, by first | omega | exact Nat.le_refl _ | (dsimp only; omega), rfl, fun j hj => ?_⟩
    · dsimp only
      unfold insA
      repeat' (first | apply And.intro | intro _)
      all_goals (repeat' split)
      all_goals (first | omega | (with_reducible rfl) | (exact congrArg x.a (by omega)) | (exact congrArg x.b (by omega)) | (exfalso; omega))
  · refine ⟨⟨by omega, by omega, by omega⟩, fun c hc _ => ⟨⟨0, x.len + 1, c, x.len + 1, insA x k va x.a 0, insA x k vb x.b 0⟩, key _ rfl ⟨by dsimp only; omega, by dsimp only; omega⟩ (fun j _ => ⟨rfl, rfl⟩), ⟨rfl, rfl, rfl⟩, by first | omega | exact Nat.le_refl _ | (dsimp only; omega), rfl, fun j hj => ?_⟩⟩
    · dsimp only
      unfold insA
      repeat' (first | apply And.intro | intro _)
      all_goals (repeat' split)
      all_goals (first | omega | (with_reducible rfl) | (exact congrArg x.a (by omega)) | (exact congrArg x.b (by omega)) | (exfalso; omega))
  · have hv : v = 1 := by omega
    subst hv
    subst hv1
    have e1 : ((((x.len : Int) + 1 + 9223372036854775808) % 18446744073709551616 - 9223372036854775808 - ↑k + 9223372036854775808) % 18446744073709551616 - 9223372036854775808) = ((x.len + 1 - k : Nat) : Int) := by omega
    have e2 : ((k : Int) + 1 + 9223372036854775808) % 18446744073709551616 - 9223372036854775808 = ((k + 1 : Nat) : Int) := by omega
    have hg : x.cap < x.len + 1 := by omega
    have hkl : k < x.len := by omega
    simp only [e1, e2, Int.toNat_natCast]
    refine ⟨by omega, by omega, fun hc => by omega, fun _ => ⟨by omega, fun c hc => ?_⟩⟩
    have f1 : k + (x.len + 1 - k) = x.len + 1 := by omega
    have f2 : (1 < x.len + 1 - k) = True := by simp; omega
    have f3 : x.len + 1 - (k + 1) = x.len - k := by omega
    have f4 : (c = k) = False := by simp; omega
    have f5 : (c = k + 1) = False := by simp; omega
    have f6 : (x.len - k < x.len - k) = False := by simp
    have f7 : (x.cap = k) = False := by simp; omega
    have f8 : (x.len + 1 ≤ k + 1) = False := by simp; omega
    have f9 : k + 1 + (x.len - k) = x.len + 1 := by omega
    simp only [f1, f2, f3, f4, f5, f6, f7, f8, f9, if_true, if_false, ite_self]
    refine ⟨by omega, by omega, by omega, by omega, by omega, by omega, by first | omega | (refine ⟨?_, ?_⟩ <;> omega), fun _ => ⟨⟨0, x.len + 1, c, x.len + 1, insA x k va x.a 0, insA x k vb x.b 0⟩, key _ rfl ⟨by dsimp only; omega, by dsimp only; omega⟩ (fun j _ => ⟨rfl, rfl⟩), ⟨rfl, rfl, rfl⟩, by first | omega | exact Nat.le_refl _ | (dsimp only; omega), rfl, fun j hj => ?_⟩⟩
    · dsimp only
      unfold insA
      repeat' (first | apply And.intro | intro _)
      all_goals (repeat' split)
      all_goals (first | omega | (with_reducible rfl) | (exact congrArg x.a (by omega)) | (exact congrArg x.b (by omega)) | (exfalso; omega))
  · have hv : v = 1 := by omega
    subst hv
    subst hv1
    have e1 : (((x.len : Int) + 1 + 9223372036854775808) % 18446744073709551616 - 9223372036854775808) = ((x.len + 1 : Nat) : Int) := by omega
    have e2 : ((k : Int) + 1 + 9223372036854775808) % 18446744073709551616 - 9223372036854775808 = ((k + 1 : Nat) : Int) := by omega
    simp only [e1, e2, Int.toNat_natCast]
    have hroom : x.len + 1 ≤ x.cap := by omega
    have hkl : k < x.len := by omega
    clear e1 e2
    have f2 : (1 < x.len + 1 - k) = True := by simp; omega
    have f3 : x.len + 1 - (k + 1) = x.len - k := by omega
    have f4 : (x.cap = k) = False := by simp; omega
    have f5 : (x.cap = k + 1) = False := by simp; omega
    have f6 : (x.len + 1 - k < x.len - k) = False := by simp; omega
    have f7 : x.lo + (k + 1) + (x.len - k) = x.lo + x.len + 1 := by omega
    simp only [f2, f3, f4, f5, f6, f7, if_true, if_false]
    have hN : x.lo + x.len + 1 ≤ (if x.N ≤ x.lo + x.len + 1 then x.lo + x.len + 1 else x.N) := by split <;> omega
    generalize (if x.N ≤ x.lo + x.len + 1 then x.lo + x.len + 1 else x.N) = N' at hN ⊢
    have f8 : (N' ≤ x.lo + k + 1) = False := by simp; omega
    simp only [f8, if_false]
    clear f2 f3 f4 f5 f6 f7 f8
    refine ⟨by omega, by omega, by omega, by omega, by omega, by omega, by omega, by omega, by omega, by omega, fun _ => ⟨⟨x.lo, x.len + 1, x.cap, N', insA x k va x.a x.lo, insA x k vb x.b x.lo⟩, key _ rfl ⟨by dsimp only; omega, by dsimp only; omega⟩ (fun j _ => ⟨rfl, rfl⟩), ⟨rfl, rfl, rfl⟩, by first | omega | exact Nat.le_refl _ | (dsimp only; omega), rfl, fun j hj => ?_⟩⟩
    · dsimp only
      unfold insA
      repeat' (first | apply And.intro | intro _)
      all_goals (repeat' split)
      all_goals (first | omega | (with_reducible rfl) | (exact congrArg x.a (by omega)) | (exact congrArg x.b (by omega)) | (exfalso; omega))

def ins_C (_ : (CR × Nat × Int × Int)) : Cfg := { Γ := Go.Sx.look tIns, names := true, lows := true, mode := insM, tails := insT }
theorem ins_al (x : (CR × Nat × Int × Int)) : Shown (insP.vc Try.prog (ins_C x) Try.f48 x) := ⟨@Eq.mp _ _ (by kernel_rfl) (ins_vc (x.1) (x.2.1) (x.2.2.1) (x.2.2.2))⟩
theorem ins_ok : SpOk Try.prog 48 insP.sp := @Pat.okS _ insP Try.prog ins_C 48 Try.f48 (fun x => cfg_tab rfl tIns_ok) (by kernel_rfl) Try.func48 (fun _ => rfl) ins_al
end Go.Proofs.Ytokiakcmdbihhaa
