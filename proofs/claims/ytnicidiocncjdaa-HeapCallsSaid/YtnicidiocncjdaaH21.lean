import Derived.Test.YtnicidiocncjdaaH20
open Go Go.Sx Go.Proofs
set_option maxRecDepth 100000
namespace Go.Proofs.Ytnicidiocncjdaa
open Go.RowKit Go.Sort

def smP : Pat (HP × DP × Int) where
  view | [.ptr r 0 [], .ptr r2 0 [], .int .i64 n], H => some (viewHP r H, viewDP r2 H, n) | _, _ => none
  args x := [p0 0, p0 2, .int .i64 x.2.2]
  H x := [x.1.me 1, x.1.row, x.2.1.me 3, x.2.1.row]
  out x := .need (Both x.1 x.2.1 ∧ x.1.n ≤ 200) (.retq .tt)
structure IC where
  i : Nat
  c : Nat
def smF (h : HP) (d : DP) (n : Int) : Fam where
  α := IC
  I z := z.i ≤ d.n ∧ z.i ≤ z.c
  st z := { sl := mkSl 127 [(0, p0 0), (1, p0 2), (2, .int .i64 n), (7, .slice 4 0 [] 0 1 z.i z.c), (8, .int .i64 (z.i : Nat))], H := [h.me 1, h.row, d.me 3, d.row, rowReg 3 z.i 1 z.c (fun j => .int .i64 (d.f j).1)] }
  μ z := d.n - z.i
def smS (d : DP) (n : Int) (c : Nat) : List (Nat × T) := [(0, p0 0), (1, p0 2), (2, .int .i64 n), (7, .slice 4 0 [] 0 1 d.n c)]
def smH (h : HP) (d : DP) (c : Nat) : List Reg := [h.me 1, h.row, d.me 3, d.row, rowReg 3 d.n 1 c (fun j => .int .i64 (d.f j).1)]
def smK6 (h : HP) (d : DP) (n : Int) : Fam where
  α := Nat
  I c := d.n ≤ c
  st c := { sl := mkSl 127 (smS d n c), H := smH h d c }
  μ _ := 0
def smK11 (h : HP) (d : DP) (n : Int) : Fam where
  α := Nat
  I c := d.n ≤ c
  st c := { sl := mkSl 127 (smS d n c ++ [(12, .int .u64 (oVal (h.M n))), (13, .bool (oHas (h.M n))), (14, .int .i64 (d.ix n))]), H := smH h d c }
  μ _ := 0
def smK13 (h : HP) (d : DP) (n : Int) : Fam where
  α := Nat
  I c := d.n ≤ c
  st c := { sl := mkSl 127 (smS d n c), H := smH h d c }
  μ _ := 0
def smK (h : HP) (d : DP) (n : Int) : Nat → Gam
  | 6 => .l [smK6 h d n]
  | 11 => .l [smK11 h d n]
  | 13 => .l [smK13 h d n]
  | _ => .l []
def tSm : Tab := [(20, altH nilMe (minNP.sp) (minP.sp)), (21, altH nilMe (keyNP.sp) (keyP.sp)), (31, altH nilMe (ixNP.sp) (ixP.sp)), (11, altH nilMe (lenNP.sp) (lenP.sp)), (15, altH nilMe (listNP.sp) (listP.sp)), (14, altSp 1 (altSp 0 (sameNNP.sp) (sameSNP.sp)) (altSp 0 (sameNSP.sp) (sameP.sp)))]
theorem tSm_ok : TabOk Try.prog tSm := (tab_cons minA_ok (tab_cons keyA_ok (tab_cons ixA_ok (tab_cons lenA_ok (tab_cons listA_ok (tab_cons sameA_ok tab_nil))))))

theorem sm1_vc : ∀ (h : HP) (d : DP) (n : Int), (Both h d ∧ h.n ≤ (200 : Nat)) ∧ True → (∀ (v : Int), v = (0 : Int) → (∃ (y : IC), (y.i ≤ d.n ∧ y.i ≤ y.c) ∧ (((True ∧ True) ∧ (True ∧ True) ∧ n = n ∧ (True ∧ True ∧ (0 : Nat) = (0 : Nat) ∧
  (0 : Nat) = y.i ∧ (0 : Nat) = y.c) ∧ v = (↑y.i : Int) ∧ True) ∧ ((65 : Nat) ≤ (65 : Nat) ∧ (True ∧ True ∧ (0 : Nat) = (0 : Nat) ∧ h.n = h.n ∧ h.cap = h.cap) ∧ ((64 : Nat) = (64 : Nat) ∧ ∀ (j : Nat), j < (64 : Nat) →
  h.at_ j = h.at_ j) ∧ True) ∧ (h.cap * (2 : Nat) ≤ h.cap * (2 : Nat) ∧ h.n ≤ h.n ∧ ∀ (j : Nat), j < h.n → h.id j = h.id j ∧ h.key j = h.key j ∧ True) ∧ ((1 : Nat) ≤ (1 : Nat) ∧ (True ∧ True ∧ (0 : Nat) = (0 : Nat) ∧ d.n =
  d.n ∧ d.cap = d.cap) ∧ True) ∧ (d.cap * (2 : Nat) ≤ d.cap * (2 : Nat) ∧ d.n ≤ d.n ∧ ∀ (j : Nat), j < d.n → (d.f j).fst = (d.f j).fst ∧ (d.f j).snd = (d.f j).snd ∧ True) ∧ (y.c * (1 : Nat) ≤ (0 : Nat) ∧ y.i = (0 : Nat) ∧
  ∀ (j : Nat), j < (0 : Nat) → (0 : Int) = (d.f j).fst) ∧ True) ∧ True) ∧ ∀ (y : IC), y.i ≤ d.n ∧ y.i ≤ y.c → (decide ((↑y.i : Int) < (↑d.n : Int)) = true → ((0 : Int) ≤ (↑y.i : Int) ∧ (↑y.i : Int) < (↑d.n : Int)) ∧ (0 :
  Nat) + (↑y.i : Int).toNat < d.n ∧ (1 : Nat) ≤ (1 : Nat) ∧ ((0 : Nat) = (0 : Nat) ∧ y.i ≤ y.i ∧ y.i ≤ y.c ∧ y.c * (1 : Nat) ≤ y.c * (1 : Nat) ∧ (y.i + (1 : Nat)) * (8 : Nat) ≤ (140737488355328 : Nat) ∧ y.i + (1 : Nat) ≤
  (9223372036854775807 : Nat) ∧ (∀ (_ : Nat), (1 : Nat) = (1 : Nat)) ∧ ∀ (_ : Nat), (1 : Nat) = (1 : Nat)) ∧ ∀ (cap' : Nat), y.i + (1 : Nat) ≤ cap' → ∀ (v : Int), v = IntKind.i64.wrap ((↑y.i : Int) + (1 : Int)) → ∃ (y_1 :
  IC), (y_1.i ≤ d.n ∧ y_1.i ≤ y_1.c) ∧ (((True ∧ True) ∧ (True ∧ True) ∧ n = n ∧ (True ∧ True ∧ (0 : Nat) = (0 : Nat) ∧ y.i + (1 : Nat) = y_1.i ∧ cap' = y_1.c) ∧ v = (↑y_1.i : Int) ∧ True) ∧ ((65 : Nat) ≤ (65 : Nat) ∧
  (True ∧ True ∧ (0 : Nat) = (0 : Nat) ∧ h.n = h.n ∧ h.cap = h.cap) ∧ ((64 : Nat) = (64 : Nat) ∧ ∀ (j : Nat), j < (64 : Nat) → h.at_ j = h.at_ j) ∧ True) ∧ (h.cap * (2 : Nat) ≤ h.cap * (2 : Nat) ∧ h.n ≤ h.n ∧ ∀ (j : Nat),
  j < h.n → h.id j = h.id j ∧ h.key j = h.key j ∧ True) ∧ ((1 : Nat) ≤ (1 : Nat) ∧ (True ∧ True ∧ (0 : Nat) = (0 : Nat) ∧ d.n = d.n ∧ d.cap = d.cap) ∧ True) ∧ (d.cap * (2 : Nat) ≤ d.cap * (2 : Nat) ∧ d.n ≤ d.n ∧ ∀ (j :
  Nat), j < d.n → (d.f j).fst = (d.f j).fst ∧ (d.f j).snd = (d.f j).snd ∧ True) ∧ (y_1.c * (1 : Nat) ≤ cap' * (1 : Nat) ∧ y_1.i = y.i + (1 : Nat) ∧ ∀ (j : Nat), j < y.i + (1 : Nat) → (j.blt y.i = true → (d.f j).fst = (d.f
  j).fst) ∧ (j.blt y.i = false → (d.f ((0 : Nat) + (↑y.i : Int).toNat)).fst = (d.f j).fst)) ∧ True) ∧ (smF h d n).μ y_1 < (smF h d n).μ y) ∧ (decide ((↑y.i : Int) < (↑d.n : Int)) = false → ∃ (y_1 : Nat), (smK6 h d n).I y_1
  ∧ (((True ∧ True) ∧ (True ∧ True) ∧ n = n ∧ (True ∧ True ∧ (0 : Nat) = (0 : Nat) ∧ y.i = d.n ∧ y.c = y_1) ∧ True) ∧ ((65 : Nat) ≤ (65 : Nat) ∧ (True ∧ True ∧ (0 : Nat) = (0 : Nat) ∧ h.n = h.n ∧ h.cap = h.cap) ∧ ((64 :
  Nat) = (64 : Nat) ∧ ∀ (j : Nat), j < (64 : Nat) → h.at_ j = h.at_ j) ∧ True) ∧ (h.cap * (2 : Nat) ≤ h.cap * (2 : Nat) ∧ h.n ≤ h.n ∧ ∀ (j : Nat), j < h.n → h.id j = h.id j ∧ h.key j = h.key j ∧ True) ∧ ((1 : Nat) ≤ (1 :
  Nat) ∧ (True ∧ True ∧ (0 : Nat) = (0 : Nat) ∧ d.n = d.n ∧ d.cap = d.cap) ∧ True) ∧ (d.cap * (2 : Nat) ≤ d.cap * (2 : Nat) ∧ d.n ≤ d.n ∧ ∀ (j : Nat), j < d.n → (d.f j).fst = (d.f j).fst ∧ (d.f j).snd = (d.f j).snd ∧ True)
  ∧ (y_1 * (1 : Nat) ≤ y.c * (1 : Nat) ∧ d.n = y.i ∧ ∀ (j : Nat), j < y.i → (d.f j).fst = (d.f j).fst) ∧ True) ∧ True)) ∧ ∀ (y : Nat), (smK6 h d n).I y → (((True ∧ True) ∧ True) ∧ ((65 : Nat) ≤ (65 : Nat) ∧ (True ∧ True ∧
  (0 : Nat) = (0 : Nat) ∧ h.n = h.n ∧ h.cap = h.cap) ∧ ((64 : Nat) = (64 : Nat) ∧ ∀ (j : Nat), j < (64 : Nat) → h.at_ j = h.at_ j) ∧ True) ∧ (h.cap * (2 : Nat) ≤ h.cap * (2 : Nat) ∧ h.n = h.n ∧ ∀ (j : Nat), j < h.n → h.id
  j = h.id j ∧ h.key j = h.key j ∧ True) ∧ True) ∧ (h.n = (0 : Nat) → ∀ (v : Int), v = (-1 : Int) → ∀ (v_1 : Int), v_1 = (0 : Int) → (((True ∧ True) ∧ n = n ∧ True) ∧ ((65 : Nat) ≤ (65 : Nat) ∧ (True ∧ True ∧ (0 : Nat) =
  (0 : Nat) ∧ h.n = h.n ∧ h.cap = h.cap) ∧ ((64 : Nat) = (64 : Nat) ∧ ∀ (j : Nat), j < (64 : Nat) → h.at_ j = h.at_ j) ∧ True) ∧ (h.cap * (2 : Nat) ≤ h.cap * (2 : Nat) ∧ h.n = h.n ∧ ∀ (j : Nat), j < h.n → h.id j = h.id j ∧
  h.key j = h.key j ∧ True) ∧ True) ∧ ((HP.mk h.n h.cap (fun (j : Nat) => h.id j) (fun (j : Nat) => h.key j) h.at_).Full ∧ h.n ≤ (100000 : Nat)) ∧ ∀ (v_2 : Int), v_2 = oVal ((HP.mk h.n h.cap (fun (j : Nat) => h.id j) (fun
  (j : Nat) => h.key j) h.at_).M n) → (((True ∧ True) ∧ n = n ∧ True) ∧ ((1 : Nat) ≤ (1 : Nat) ∧ (True ∧ True ∧ (0 : Nat) = (0 : Nat) ∧ d.n = d.n ∧ d.cap = d.cap) ∧ True) ∧ (d.cap * (2 : Nat) ≤ d.cap * (2 : Nat) ∧ d.n =
  d.n ∧ ∀ (j : Nat), j < d.n → (d.f j).fst = (d.f j).fst ∧ (d.f j).snd = (d.f j).snd ∧ True) ∧ True) ∧ d.n ≤ (10000 : Nat) ∧ ∀ (v_3 : Int), v_3 = (DP.mk d.n d.cap fun (j : Nat) => ((d.f j).fst, (d.f j).snd)).ix n →
  (((!false == decide ((↑d.n : Int) > (0 : Int))) = true → Both h d ∧ h.n ≤ (200 : Nat) → False ∧ True ∧ ((65 : Nat) ≤ (65 : Nat) ∧ (True ∧ True ∧ (0 : Nat) = (0 : Nat) ∧ h.n = h.n ∧ h.cap = h.cap) ∧ ((64 : Nat) = (64 :
  Nat) ∧ ∀ (j : Nat), j < (64 : Nat) → h.at_ j = h.at_ j) ∧ True) ∧ (h.cap * (2 : Nat) ≤ h.cap * (2 : Nat) ∧ h.n ≤ h.n ∧ ∀ (j : Nat), j < h.n → h.id j = h.id j ∧ h.key j = h.key j ∧ True) ∧ ((1 : Nat) ≤ (1 : Nat) ∧ (True ∧
  True ∧ (0 : Nat) = (0 : Nat) ∧ d.n = d.n ∧ d.cap = d.cap) ∧ True) ∧ (d.cap * (2 : Nat) ≤ d.cap * (2 : Nat) ∧ d.n ≤ d.n ∧ ∀ (j : Nat), j < d.n → (d.f j).fst = (d.f j).fst ∧ (d.f j).snd = (d.f j).snd ∧ True) ∧ True) ∧
  ((!false == decide ((↑d.n : Int) > (0 : Int))) = false → (false = true → ((0 : Int) ≤ (0 : Int) ∧ (0 : Int) < (↑d.n : Int)) ∧ (0 : Nat) < d.n ∧ ((v != (d.f (0 : Nat)).fst) = true → Both h d ∧ h.n ≤ (200 : Nat) → False ∧
  True ∧ ((65 : Nat) ≤ (65 : Nat) ∧ (True ∧ True ∧ (0 : Nat) = (0 : Nat) ∧ h.n = h.n ∧ h.cap = h.cap) ∧ ((64 : Nat) = (64 : Nat) ∧ ∀ (j : Nat), j < (64 : Nat) → h.at_ j = h.at_ j) ∧ True) ∧ (h.cap * (2 : Nat) ≤ h.cap * (2
  : Nat) ∧ h.n ≤ h.n ∧ ∀ (j : Nat), j < h.n → h.id j = h.id j ∧ h.key j = h.key j ∧ True) ∧ ((1 : Nat) ≤ (1 : Nat) ∧ (True ∧ True ∧ (0 : Nat) = (0 : Nat) ∧ d.n = d.n ∧ d.cap = d.cap) ∧ True) ∧ (d.cap * (2 : Nat) ≤ d.cap *
  (2 : Nat) ∧ d.n ≤ d.n ∧ ∀ (j : Nat), j < d.n → (d.f j).fst = (d.f j).fst ∧ (d.f j).snd = (d.f j).snd ∧ True) ∧ True) ∧ ((v != (d.f (0 : Nat)).fst) = false → ((0 : Int) ≤ (0 : Int) ∧ (0 : Int) < (↑d.n : Int)) ∧ (0 : Nat)
  < d.n ∧ ((v_1 != (d.f (0 : Nat)).snd) = true → Both h d ∧ h.n ≤ (200 : Nat) → False ∧ True ∧ ((65 : Nat) ≤ (65 : Nat) ∧ (True ∧ True ∧ (0 : Nat) = (0 : Nat) ∧ h.n = h.n ∧ h.cap = h.cap) ∧ ((64 : Nat) = (64 : Nat) ∧ ∀ (j
  : Nat), j < (64 : Nat) → h.at_ j = h.at_ j) ∧ True) ∧ (h.cap * (2 : Nat) ≤ h.cap * (2 : Nat) ∧ h.n ≤ h.n ∧ ∀ (j : Nat), j < h.n → h.id j = h.id j ∧ h.key j = h.key j ∧ True) ∧ ((1 : Nat) ≤ (1 : Nat) ∧ (True ∧ True ∧ (0 :
  Nat) = (0 : Nat) ∧ d.n = d.n ∧ d.cap = d.cap) ∧ True) ∧ (d.cap * (2 : Nat) ≤ d.cap * (2 : Nat) ∧ d.n ≤ d.n ∧ ∀ (j : Nat), j < d.n → (d.f j).fst = (d.f j).fst ∧ (d.f j).snd = (d.f j).snd ∧ True) ∧ True) ∧ ((v_1 != (d.f (0
  : Nat)).snd) = false → ((!false) = true → ((v != (-1 : Int)) = true → Both h d ∧ h.n ≤ (200 : Nat) → False ∧ True ∧ ((65 : Nat) ≤ (65 : Nat) ∧ (True ∧ True ∧ (0 : Nat) = (0 : Nat) ∧ h.n = h.n ∧ h.cap = h.cap) ∧ ((64 :
  Nat) = (64 : Nat) ∧ ∀ (j : Nat), j < (64 : Nat) → h.at_ j = h.at_ j) ∧ True) ∧ (h.cap * (2 : Nat) ≤ h.cap * (2 : Nat) ∧ h.n ≤ h.n ∧ ∀ (j : Nat), j < h.n → h.id j = h.id j ∧ h.key j = h.key j ∧ True) ∧ ((1 : Nat) ≤ (1 :
  Nat) ∧ (True ∧ True ∧ (0 : Nat) = (0 : Nat) ∧ d.n = d.n ∧ d.cap = d.cap) ∧ True) ∧ (d.cap * (2 : Nat) ≤ d.cap * (2 : Nat) ∧ d.n ≤ d.n ∧ ∀ (j : Nat), j < d.n → (d.f j).fst = (d.f j).fst ∧ (d.f j).snd = (d.f j).snd ∧ True)
  ∧ True) ∧ ((v != (-1 : Int)) = false → ((v_1 != (0 : Int)) = true → Both h d ∧ h.n ≤ (200 : Nat) → False ∧ True ∧ ((65 : Nat) ≤ (65 : Nat) ∧ (True ∧ True ∧ (0 : Nat) = (0 : Nat) ∧ h.n = h.n ∧ h.cap = h.cap) ∧ ((64 : Nat)
  = (64 : Nat) ∧ ∀ (j : Nat), j < (64 : Nat) → h.at_ j = h.at_ j) ∧ True) ∧ (h.cap * (2 : Nat) ≤ h.cap * (2 : Nat) ∧ h.n ≤ h.n ∧ ∀ (j : Nat), j < h.n → h.id j = h.id j ∧ h.key j = h.key j ∧ True) ∧ ((1 : Nat) ≤ (1 : Nat) ∧
  (True ∧ True ∧ (0 : Nat) = (0 : Nat) ∧ d.n = d.n ∧ d.cap = d.cap) ∧ True) ∧ (d.cap * (2 : Nat) ≤ d.cap * (2 : Nat) ∧ d.n ≤ d.n ∧ ∀ (j : Nat), j < d.n → (d.f j).fst = (d.f j).fst ∧ (d.f j).snd = (d.f j).snd ∧ True) ∧
  True) ∧ ((v_1 != (0 : Int)) = false → ∃ (y_1 : Nat), (smK11 h d n).I y_1 ∧ (((True ∧ True) ∧ (True ∧ True) ∧ n = n ∧ (True ∧ True ∧ (0 : Nat) = (0 : Nat) ∧ d.n = d.n ∧ y = y_1) ∧ v_2 = oVal (h.M n) ∧ oHas ((HP.mk h.n
  h.cap (fun (j : Nat) => h.id j) (fun (j : Nat) => h.key j) h.at_).M n) = oHas (h.M n) ∧ v_3 = d.ix n ∧ True) ∧ ((65 : Nat) ≤ (65 : Nat) ∧ (True ∧ True ∧ (0 : Nat) = (0 : Nat) ∧ h.n = h.n ∧ h.cap = h.cap) ∧ ((64 : Nat) =
  (64 : Nat) ∧ ∀ (j : Nat), j < (64 : Nat) → h.at_ j = h.at_ j) ∧ True) ∧ (h.cap * (2 : Nat) ≤ h.cap * (2 : Nat) ∧ h.n ≤ h.n ∧ ∀ (j : Nat), j < h.n → h.id j = h.id j ∧ h.key j = h.key j ∧ True) ∧ ((1 : Nat) ≤ (1 : Nat) ∧
  (True ∧ True ∧ (0 : Nat) = (0 : Nat) ∧ d.n = d.n ∧ d.cap = d.cap) ∧ True) ∧ (d.cap * (2 : Nat) ≤ d.cap * (2 : Nat) ∧ d.n ≤ d.n ∧ ∀ (j : Nat), j < d.n → (d.f j).fst = (d.f j).fst ∧ (d.f j).snd = (d.f j).snd ∧ True) ∧ (y_1
  * (1 : Nat) ≤ y * (1 : Nat) ∧ d.n = d.n ∧ ∀ (j : Nat), j < d.n → (d.f j).fst = (d.f j).fst) ∧ True) ∧ True))) ∧ ((!false) = false → ∃ (y_1 : Nat), (smK11 h d n).I y_1 ∧ (((True ∧ True) ∧ (True ∧ True) ∧ n = n ∧ (True ∧
  True ∧ (0 : Nat) = (0 : Nat) ∧ d.n = d.n ∧ y = y_1) ∧ v_2 = oVal (h.M n) ∧ oHas ((HP.mk h.n h.cap (fun (j : Nat) => h.id j) (fun (j : Nat) => h.key j) h.at_).M n) = oHas (h.M n) ∧ v_3 = d.ix n ∧ True) ∧ ((65 : Nat) ≤ (65
  : Nat) ∧ (True ∧ True ∧ (0 : Nat) = (0 : Nat) ∧ h.n = h.n ∧ h.cap = h.cap) ∧ ((64 : Nat) = (64 : Nat) ∧ ∀ (j : Nat), j < (64 : Nat) → h.at_ j = h.at_ j) ∧ True) ∧ (h.cap * (2 : Nat) ≤ h.cap * (2 : Nat) ∧ h.n ≤ h.n ∧ ∀ (j
  : Nat), j < h.n → h.id j = h.id j ∧ h.key j = h.key j ∧ True) ∧ ((1 : Nat) ≤ (1 : Nat) ∧ (True ∧ True ∧ (0 : Nat) = (0 : Nat) ∧ d.n = d.n ∧ d.cap = d.cap) ∧ True) ∧ (d.cap * (2 : Nat) ≤ d.cap * (2 : Nat) ∧ d.n ≤ d.n ∧ ∀
  (j : Nat), j < d.n → (d.f j).fst = (d.f j).fst ∧ (d.f j).snd = (d.f j).snd ∧ True) ∧ (y_1 * (1 : Nat) ≤ y * (1 : Nat) ∧ d.n = d.n ∧ ∀ (j : Nat), j < d.n → (d.f j).fst = (d.f j).fst) ∧ True) ∧ True)))) ∧ (false = false →
  ((!false) = true → ((v != (-1 : Int)) = true → Both h d ∧ h.n ≤ (200 : Nat) → False ∧ True ∧ ((65 : Nat) ≤ (65 : Nat) ∧ (True ∧ True ∧ (0 : Nat) = (0 : Nat) ∧ h.n = h.n ∧ h.cap = h.cap) ∧ ((64 : Nat) = (64 : Nat) ∧ ∀ (j
  : Nat), j < (64 : Nat) → h.at_ j = h.at_ j) ∧ True) ∧ (h.cap * (2 : Nat) ≤ h.cap * (2 : Nat) ∧ h.n ≤ h.n ∧ ∀ (j : Nat), j < h.n → h.id j = h.id j ∧ h.key j = h.key j ∧ True) ∧ ((1 : Nat) ≤ (1 : Nat) ∧ (True ∧ True ∧ (0 :
  Nat) = (0 : Nat) ∧ d.n = d.n ∧ d.cap = d.cap) ∧ True) ∧ (d.cap * (2 : Nat) ≤ d.cap * (2 : Nat) ∧ d.n ≤ d.n ∧ ∀ (j : Nat), j < d.n → (d.f j).fst = (d.f j).fst ∧ (d.f j).snd = (d.f j).snd ∧ True) ∧ True) ∧ ((v != (-1 :
  Int)) = false → ((v_1 != (0 : Int)) = true → Both h d ∧ h.n ≤ (200 : Nat) → False ∧ True ∧ ((65 : Nat) ≤ (65 : Nat) ∧ (True ∧ True ∧ (0 : Nat) = (0 : Nat) ∧ h.n = h.n ∧ h.cap = h.cap) ∧ ((64 : Nat) = (64 : Nat) ∧ ∀ (j :
  Nat), j < (64 : Nat) → h.at_ j = h.at_ j) ∧ True) ∧ (h.cap * (2 : Nat) ≤ h.cap * (2 : Nat) ∧ h.n ≤ h.n ∧ ∀ (j : Nat), j < h.n → h.id j = h.id j ∧ h.key j = h.key j ∧ True) ∧ ((1 : Nat) ≤ (1 : Nat) ∧ (True ∧ True ∧ (0 :
  Nat) = (0 : Nat) ∧ d.n = d.n ∧ d.cap = d.cap) ∧ True) ∧ (d.cap * (2 : Nat) ≤ d.cap * (2 : Nat) ∧ d.n ≤ d.n ∧ ∀ (j : Nat), j < d.n → (d.f j).fst = (d.f j).fst ∧ (d.f j).snd = (d.f j).snd ∧ True) ∧ True) ∧ ((v_1 != (0 :
  Int)) = false → ∃ (y_1 : Nat), (smK11 h d n).I y_1 ∧ (((True ∧ True) ∧ (True ∧ True) ∧ n = n ∧ (True ∧ True ∧ (0 : Nat) = (0 : Nat) ∧ d.n = d.n ∧ y = y_1) ∧ v_2 = oVal (h.M n) ∧ oHas ((HP.mk h.n h.cap (fun (j : Nat) =>
  h.id j) (fun (j : Nat) => h.key j) h.at_).M n) = oHas (h.M n) ∧ v_3 = d.ix n ∧ True) ∧ ((65 : Nat) ≤ (65 : Nat) ∧ (True ∧ True ∧ (0 : Nat) = (0 : Nat) ∧ h.n = h.n ∧ h.cap = h.cap) ∧ ((64 : Nat) = (64 : Nat) ∧ ∀ (j :
  Nat), j < (64 : Nat) → h.at_ j = h.at_ j) ∧ True) ∧ (h.cap * (2 : Nat) ≤ h.cap * (2 : Nat) ∧ h.n ≤ h.n ∧ ∀ (j : Nat), j < h.n → h.id j = h.id j ∧ h.key j = h.key j ∧ True) ∧ ((1 : Nat) ≤ (1 : Nat) ∧ (True ∧ True ∧ (0 :
  Nat) = (0 : Nat) ∧ d.n = d.n ∧ d.cap = d.cap) ∧ True) ∧ (d.cap * (2 : Nat) ≤ d.cap * (2 : Nat) ∧ d.n ≤ d.n ∧ ∀ (j : Nat), j < d.n → (d.f j).fst = (d.f j).fst ∧ (d.f j).snd = (d.f j).snd ∧ True) ∧ (y_1 * (1 : Nat) ≤ y *
  (1 : Nat) ∧ d.n = d.n ∧ ∀ (j : Nat), j < d.n → (d.f j).fst = (d.f j).fst) ∧ True) ∧ True))) ∧ ((!false) = false → ∃ (y_1 : Nat), (smK11 h d n).I y_1 ∧ (((True ∧ True) ∧ (True ∧ True) ∧ n = n ∧ (True ∧ True ∧ (0 : Nat) =
  (0 : Nat) ∧ d.n = d.n ∧ y = y_1) ∧ v_2 = oVal (h.M n) ∧ oHas ((HP.mk h.n h.cap (fun (j : Nat) => h.id j) (fun (j : Nat) => h.key j) h.at_).M n) = oHas (h.M n) ∧ v_3 = d.ix n ∧ True) ∧ ((65 : Nat) ≤ (65 : Nat) ∧ (True ∧
  True ∧ (0 : Nat) = (0 : Nat) ∧ h.n = h.n ∧ h.cap = h.cap) ∧ ((64 : Nat) = (64 : Nat) ∧ ∀ (j : Nat), j < (64 : Nat) → h.at_ j = h.at_ j) ∧ True) ∧ (h.cap * (2 : Nat) ≤ h.cap * (2 : Nat) ∧ h.n ≤ h.n ∧ ∀ (j : Nat), j < h.n
  → h.id j = h.id j ∧ h.key j = h.key j ∧ True) ∧ ((1 : Nat) ≤ (1 : Nat) ∧ (True ∧ True ∧ (0 : Nat) = (0 : Nat) ∧ d.n = d.n ∧ d.cap = d.cap) ∧ True) ∧ (d.cap * (2 : Nat) ≤ d.cap * (2 : Nat) ∧ d.n ≤ d.n ∧ ∀ (j : Nat), j <
  d.n → (d.f j).fst = (d.f j).fst ∧ (d.f j).snd = (d.f j).snd ∧ True) ∧ (y_1 * (1 : Nat) ≤ y * (1 : Nat) ∧ d.n = d.n ∧ ∀ (j : Nat), j < d.n → (d.f j).fst = (d.f j).fst) ∧ True) ∧ True)))) ∧ ∀ (y : Nat), (smK11 h d n).I y →
  (((!oHas (h.M n) == decide (d.ix n ≥ (0 : Int))) = true → Both h d ∧ h.n ≤ (200 : Nat) → False ∧ True ∧ ((65 : Nat) ≤ (65 : Nat) ∧ (True ∧ True ∧ (0 : Nat) = (0 : Nat) ∧ h.n = h.n ∧ h.cap = h.cap) ∧ ((64 : Nat) = (64 :
  Nat) ∧ ∀ (j : Nat), j < (64 : Nat) → h.at_ j = h.at_ j) ∧ True) ∧ (h.cap * (2 : Nat) ≤ h.cap * (2 : Nat) ∧ h.n ≤ h.n ∧ ∀ (j : Nat), j < h.n → h.id j = h.id j ∧ h.key j = h.key j ∧ True) ∧ ((1 : Nat) ≤ (1 : Nat) ∧ (True ∧
  True ∧ (0 : Nat) = (0 : Nat) ∧ d.n = d.n ∧ d.cap = d.cap) ∧ True) ∧ (d.cap * (2 : Nat) ≤ d.cap * (2 : Nat) ∧ d.n ≤ d.n ∧ ∀ (j : Nat), j < d.n → (d.f j).fst = (d.f j).fst ∧ (d.f j).snd = (d.f j).snd ∧ True) ∧ True) ∧
  ((!oHas (h.M n) == decide (d.ix n ≥ (0 : Int))) = false → (oHas (h.M n) = true → ((0 : Int) ≤ d.ix n ∧ d.ix n < (↑d.n : Int)) ∧ (0 : Nat) + (d.ix n).toNat < d.n ∧ ((oVal (h.M n) != (d.f ((0 : Nat) + (d.ix n).toNat)).snd)
  = true → Both h d ∧ h.n ≤ (200 : Nat) → False ∧ True ∧ ((65 : Nat) ≤ (65 : Nat) ∧ (True ∧ True ∧ (0 : Nat) = (0 : Nat) ∧ h.n = h.n ∧ h.cap = h.cap) ∧ ((64 : Nat) = (64 : Nat) ∧ ∀ (j : Nat), j < (64 : Nat) → h.at_ j =
  h.at_ j) ∧ True) ∧ (h.cap * (2 : Nat) ≤ h.cap * (2 : Nat) ∧ h.n ≤ h.n ∧ ∀ (j : Nat), j < h.n → h.id j = h.id j ∧ h.key j = h.key j ∧ True) ∧ ((1 : Nat) ≤ (1 : Nat) ∧ (True ∧ True ∧ (0 : Nat) = (0 : Nat) ∧ d.n = d.n ∧
  d.cap = d.cap) ∧ True) ∧ (d.cap * (2 : Nat) ≤ d.cap * (2 : Nat) ∧ d.n ≤ d.n ∧ ∀ (j : Nat), j < d.n → (d.f j).fst = (d.f j).fst ∧ (d.f j).snd = (d.f j).snd ∧ True) ∧ True) ∧ ((oVal (h.M n) != (d.f ((0 : Nat) + (d.ix
  n).toNat)).snd) = false → ((!oHas (h.M n)) = true → ((oVal (h.M n) != (0 : Int)) = true → Both h d ∧ h.n ≤ (200 : Nat) → False ∧ True ∧ ((65 : Nat) ≤ (65 : Nat) ∧ (True ∧ True ∧ (0 : Nat) = (0 : Nat) ∧ h.n = h.n ∧ h.cap
  = h.cap) ∧ ((64 : Nat) = (64 : Nat) ∧ ∀ (j : Nat), j < (64 : Nat) → h.at_ j = h.at_ j) ∧ True) ∧ (h.cap * (2 : Nat) ≤ h.cap * (2 : Nat) ∧ h.n ≤ h.n ∧ ∀ (j : Nat), j < h.n → h.id j = h.id j ∧ h.key j = h.key j ∧ True) ∧
  ((1 : Nat) ≤ (1 : Nat) ∧ (True ∧ True ∧ (0 : Nat) = (0 : Nat) ∧ d.n = d.n ∧ d.cap = d.cap) ∧ True) ∧ (d.cap * (2 : Nat) ≤ d.cap * (2 : Nat) ∧ d.n ≤ d.n ∧ ∀ (j : Nat), j < d.n → (d.f j).fst = (d.f j).fst ∧ (d.f j).snd =
  (d.f j).snd ∧ True) ∧ True) ∧ ((oVal (h.M n) != (0 : Int)) = false → ∃ (y_1 : Nat), (smK13 h d n).I y_1 ∧ (((True ∧ True) ∧ (True ∧ True) ∧ n = n ∧ (True ∧ True ∧ (0 : Nat) = (0 : Nat) ∧ d.n = d.n ∧ y = y_1) ∧ True) ∧
  ((65 : Nat) ≤ (65 : Nat) ∧ (True ∧ True ∧ (0 : Nat) = (0 : Nat) ∧ h.n = h.n ∧ h.cap = h.cap) ∧ ((64 : Nat) = (64 : Nat) ∧ ∀ (j : Nat), j < (64 : Nat) → h.at_ j = h.at_ j) ∧ True) ∧ (h.cap * (2 : Nat) ≤ h.cap * (2 : Nat)
  ∧ h.n ≤ h.n ∧ ∀ (j : Nat), j < h.n → h.id j = h.id j ∧ h.key j = h.key j ∧ True) ∧ ((1 : Nat) ≤ (1 : Nat) ∧ (True ∧ True ∧ (0 : Nat) = (0 : Nat) ∧ d.n = d.n ∧ d.cap = d.cap) ∧ True) ∧ (d.cap * (2 : Nat) ≤ d.cap * (2 :
  Nat) ∧ d.n ≤ d.n ∧ ∀ (j : Nat), j < d.n → (d.f j).fst = (d.f j).fst ∧ (d.f j).snd = (d.f j).snd ∧ True) ∧ (y_1 * (1 : Nat) ≤ y * (1 : Nat) ∧ d.n = d.n ∧ ∀ (j : Nat), j < d.n → (d.f j).fst = (d.f j).fst) ∧ True) ∧ True))
  ∧ ((!oHas (h.M n)) = false → ∃ (y_1 : Nat), (smK13 h d n).I y_1 ∧ (((True ∧ True) ∧ (True ∧ True) ∧ n = n ∧ (True ∧ True ∧ (0 : Nat) = (0 : Nat) ∧ d.n = d.n ∧ y = y_1) ∧ True) ∧ ((65 : Nat) ≤ (65 : Nat) ∧ (True ∧ True ∧
  (0 : Nat) = (0 : Nat) ∧ h.n = h.n ∧ h.cap = h.cap) ∧ ((64 : Nat) = (64 : Nat) ∧ ∀ (j : Nat), j < (64 : Nat) → h.at_ j = h.at_ j) ∧ True) ∧ (h.cap * (2 : Nat) ≤ h.cap * (2 : Nat) ∧ h.n ≤ h.n ∧ ∀ (j : Nat), j < h.n → h.id
  j = h.id j ∧ h.key j = h.key j ∧ True) ∧ ((1 : Nat) ≤ (1 : Nat) ∧ (True ∧ True ∧ (0 : Nat) = (0 : Nat) ∧ d.n = d.n ∧ d.cap = d.cap) ∧ True) ∧ (d.cap * (2 : Nat) ≤ d.cap * (2 : Nat) ∧ d.n ≤ d.n ∧ ∀ (j : Nat), j < d.n →
  (d.f j).fst = (d.f j).fst ∧ (d.f j).snd = (d.f j).snd ∧ True) ∧ (y_1 * (1 : Nat) ≤ y * (1 : Nat) ∧ d.n = d.n ∧ ∀ (j : Nat), j < d.n → (d.f j).fst = (d.f j).fst) ∧ True) ∧ True))) ∧ (oHas (h.M n) = false → ((!oHas (h.M
  n)) = true → ((oVal (h.M n) != (0 : Int)) = true → Both h d ∧ h.n ≤ (200 : Nat) → False ∧ True ∧ ((65 : Nat) ≤ (65 : Nat) ∧ (True ∧ True ∧ (0 : Nat) = (0 : Nat) ∧ h.n = h.n ∧ h.cap = h.cap) ∧ ((64 : Nat) = (64 : Nat) ∧ ∀
  (j : Nat), j < (64 : Nat) → h.at_ j = h.at_ j) ∧ True) ∧ (h.cap * (2 : Nat) ≤ h.cap * (2 : Nat) ∧ h.n ≤ h.n ∧ ∀ (j : Nat), j < h.n → h.id j = h.id j ∧ h.key j = h.key j ∧ True) ∧ ((1 : Nat) ≤ (1 : Nat) ∧ (True ∧ True ∧
  (0 : Nat) = (0 : Nat) ∧ d.n = d.n ∧ d.cap = d.cap) ∧ True) ∧ (d.cap * (2 : Nat) ≤ d.cap * (2 : Nat) ∧ d.n ≤ d.n ∧ ∀ (j : Nat), j < d.n → (d.f j).fst = (d.f j).fst ∧ (d.f j).snd = (d.f j).snd ∧ True) ∧ True) ∧ ((oVal (h.M
  n) != (0 : Int)) = false → ∃ (y_1 : Nat), (smK13 h d n).I y_1 ∧ (((True ∧ True) ∧ (True ∧ True) ∧ n = n ∧ (True ∧ True ∧ (0 : Nat) = (0 : Nat) ∧ d.n = d.n ∧ y = y_1) ∧ True) ∧ ((65 : Nat) ≤ (65 : Nat) ∧ (True ∧ True ∧ (0
  : Nat) = (0 : Nat) ∧ h.n = h.n ∧ h.cap = h.cap) ∧ ((64 : Nat) = (64 : Nat) ∧ ∀ (j : Nat), j < (64 : Nat) → h.at_ j = h.at_ j) ∧ True) ∧ (h.cap * (2 : Nat) ≤ h.cap * (2 : Nat) ∧ h.n ≤ h.n ∧ ∀ (j : Nat), j < h.n → h.id j =
  h.id j ∧ h.key j = h.key j ∧ True) ∧ ((1 : Nat) ≤ (1 : Nat) ∧ (True ∧ True ∧ (0 : Nat) = (0 : Nat) ∧ d.n = d.n ∧ d.cap = d.cap) ∧ True) ∧ (d.cap * (2 : Nat) ≤ d.cap * (2 : Nat) ∧ d.n ≤ d.n ∧ ∀ (j : Nat), j < d.n → (d.f
  j).fst = (d.f j).fst ∧ (d.f j).snd = (d.f j).snd ∧ True) ∧ (y_1 * (1 : Nat) ≤ y * (1 : Nat) ∧ d.n = d.n ∧ ∀ (j : Nat), j < d.n → (d.f j).fst = (d.f j).fst) ∧ True) ∧ True)) ∧ ((!oHas (h.M n)) = false → ∃ (y_1 : Nat),
  (smK13 h d n).I y_1 ∧ (((True ∧ True) ∧ (True ∧ True) ∧ n = n ∧ (True ∧ True ∧ (0 : Nat) = (0 : Nat) ∧ d.n = d.n ∧ y = y_1) ∧ True) ∧ ((65 : Nat) ≤ (65 : Nat) ∧ (True ∧ True ∧ (0 : Nat) = (0 : Nat) ∧ h.n = h.n ∧ h.cap =
  h.cap) ∧ ((64 : Nat) = (64 : Nat) ∧ ∀ (j : Nat), j < (64 : Nat) → h.at_ j = h.at_ j) ∧ True) ∧ (h.cap * (2 : Nat) ≤ h.cap * (2 : Nat) ∧ h.n ≤ h.n ∧ ∀ (j : Nat), j < h.n → h.id j = h.id j ∧ h.key j = h.key j ∧ True) ∧ ((1
  : Nat) ≤ (1 : Nat) ∧ (True ∧ True ∧ (0 : Nat) = (0 : Nat) ∧ d.n = d.n ∧ d.cap = d.cap) ∧ True) ∧ (d.cap * (2 : Nat) ≤ d.cap * (2 : Nat) ∧ d.n ≤ d.n ∧ ∀ (j : Nat), j < d.n → (d.f j).fst = (d.f j).fst ∧ (d.f j).snd = (d.f
  j).snd ∧ True) ∧ (y_1 * (1 : Nat) ≤ y * (1 : Nat) ∧ d.n = d.n ∧ ∀ (j : Nat), j < d.n → (d.f j).fst = (d.f j).fst) ∧ True) ∧ True)))) ∧ ∀ (y : Nat), (smK13 h d n).I y → (((True ∧ True) ∧ True) ∧ ((65 : Nat) ≤ (65 : Nat) ∧
  (True ∧ True ∧ (0 : Nat) = (0 : Nat) ∧ h.n = h.n ∧ h.cap = h.cap) ∧ ((64 : Nat) = (64 : Nat) ∧ ∀ (j : Nat), j < (64 : Nat) → h.at_ j = h.at_ j) ∧ True) ∧ (h.cap * (2 : Nat) ≤ h.cap * (2 : Nat) ∧ h.n = h.n ∧ ∀ (j : Nat),
  j < h.n → h.id j = h.id j ∧ h.key j = h.key j ∧ True) ∧ True) ∧ (((↑h.n : Int) == (↑d.n : Int)) = true → (((True ∧ True) ∧ True) ∧ ((65 : Nat) ≤ (65 : Nat) ∧ (True ∧ True ∧ (0 : Nat) = (0 : Nat) ∧ h.n = h.n ∧ h.cap =
  h.cap) ∧ ((64 : Nat) = (64 : Nat) ∧ ∀ (j : Nat), j < (64 : Nat) → h.at_ j = h.at_ j) ∧ True) ∧ (h.cap * (2 : Nat) ≤ h.cap * (2 : Nat) ∧ h.n = h.n ∧ ∀ (j : Nat), j < h.n → h.id j = h.id j ∧ h.key j = h.key j ∧ True) ∧
  True) ∧ h.n ≤ (1000 : Nat) ∧ (h.n = (0 : Nat) → ((True ∧ (True ∧ True ∧ (0 : Nat) = (0 : Nat) ∧ d.n = d.n ∧ y = y) ∧ True) ∧ (y * (1 : Nat) ≤ y * (1 : Nat) ∧ d.n = d.n ∧ ∀ (j : Nat), j < d.n → (d.f j).fst = (d.f j).fst)
  ∧ True) ∧ (d.n = (0 : Nat) → Both h d ∧ h.n ≤ (200 : Nat) → True ∧ True ∧ ((65 : Nat) ≤ (65 : Nat) ∧ (True ∧ True ∧ (0 : Nat) = (0 : Nat) ∧ h.n = h.n ∧ h.cap = h.cap) ∧ ((64 : Nat) = (64 : Nat) ∧ ∀ (j : Nat), j < (64 :
  Nat) → h.at_ j = h.at_ j) ∧ True) ∧ (h.cap * (2 : Nat) ≤ h.cap * (2 : Nat) ∧ h.n ≤ h.n ∧ ∀ (j : Nat), j < h.n → h.id j = h.id j ∧ h.key j = h.key j ∧ True) ∧ ((1 : Nat) ≤ (1 : Nat) ∧ (True ∧ True ∧ (0 : Nat) = (0 : Nat)
  ∧ d.n = d.n ∧ d.cap = d.cap) ∧ True) ∧ (d.cap * (2 : Nat) ≤ d.cap * (2 : Nat) ∧ d.n ≤ d.n ∧ ∀ (j : Nat), j < d.n → (d.f j).fst = (d.f j).fst ∧ (d.f j).snd = (d.f j).snd ∧ True) ∧ True) ∧ (¬d.n = (0 : Nat) → Both h d ∧
  h.n ≤ (200 : Nat) → False ∧ True ∧ ((65 : Nat) ≤ (65 : Nat) ∧ (True ∧ True ∧ (0 : Nat) = (0 : Nat) ∧ h.n = h.n ∧ h.cap = h.cap) ∧ ((64 : Nat) = (64 : Nat) ∧ ∀ (j : Nat), j < (64 : Nat) → h.at_ j = h.at_ j) ∧ True) ∧
  (h.cap * (2 : Nat) ≤ h.cap * (2 : Nat) ∧ h.n ≤ h.n ∧ ∀ (j : Nat), j < h.n → h.id j = h.id j ∧ h.key j = h.key j ∧ True) ∧ ((1 : Nat) ≤ (1 : Nat) ∧ (True ∧ True ∧ (0 : Nat) = (0 : Nat) ∧ d.n = d.n ∧ d.cap = d.cap) ∧ True)
  ∧ (d.cap * (2 : Nat) ≤ d.cap * (2 : Nat) ∧ d.n ≤ d.n ∧ ∀ (j : Nat), j < d.n → (d.f j).fst = (d.f j).fst ∧ (d.f j).snd = (d.f j).snd ∧ True) ∧ True)) ∧ (¬h.n = (0 : Nat) → ∀ (x : (Nat → It) × Nat), Srt h.n (HP.mk h.n
  h.cap (fun (j : Nat) => h.id j) (fun (j : Nat) => h.key j) h.at_).f x.fst ∧ h.n ≤ x.snd → (((True ∧ True ∧ (0 : Nat) = (0 : Nat) ∧ h.n = h.n ∧ x.snd = x.snd) ∧ (True ∧ True ∧ (0 : Nat) = (0 : Nat) ∧ d.n = d.n ∧ y = y) ∧
  True) ∧ (x.snd * (1 : Nat) ≤ x.snd * (1 : Nat) ∧ h.n = h.n ∧ ∀ (j : Nat), j < h.n → (x.fst j).fst = (x.fst j).fst) ∧ (y * (1 : Nat) ≤ y * (1 : Nat) ∧ d.n = d.n ∧ ∀ (j : Nat), j < d.n → (d.f j).fst = (d.f j).fst) ∧ True)
  ∧ h.n ≤ (1000000 : Nat) ∧ (h.n = d.n → Both h d ∧ h.n ≤ (200 : Nat) → (sameB h.n (fun (j : Nat) => (x.fst j).fst) fun (j : Nat) => (d.f j).fst) = true ∧ True ∧ ((65 : Nat) ≤ (65 : Nat) ∧ (True ∧ True ∧ (0 : Nat) = (0 :
  Nat) ∧ h.n = h.n ∧ h.cap = h.cap) ∧ ((64 : Nat) = (64 : Nat) ∧ ∀ (j : Nat), j < (64 : Nat) → h.at_ j = h.at_ j) ∧ True) ∧ (h.cap * (2 : Nat) ≤ h.cap * (2 : Nat) ∧ h.n ≤ h.n ∧ ∀ (j : Nat), j < h.n → h.id j = h.id j ∧
  h.key j = h.key j ∧ True) ∧ ((1 : Nat) ≤ (1 : Nat) ∧ (True ∧ True ∧ (0 : Nat) = (0 : Nat) ∧ d.n = d.n ∧ d.cap = d.cap) ∧ True) ∧ (d.cap * (2 : Nat) ≤ d.cap * (2 : Nat) ∧ d.n ≤ d.n ∧ ∀ (j : Nat), j < d.n → (d.f j).fst =
  (d.f j).fst ∧ (d.f j).snd = (d.f j).snd ∧ True) ∧ True) ∧ (¬h.n = d.n → Both h d ∧ h.n ≤ (200 : Nat) → False ∧ True ∧ ((65 : Nat) ≤ (65 : Nat) ∧ (True ∧ True ∧ (0 : Nat) = (0 : Nat) ∧ h.n = h.n ∧ h.cap = h.cap) ∧ ((64 :
  Nat) = (64 : Nat) ∧ ∀ (j : Nat), j < (64 : Nat) → h.at_ j = h.at_ j) ∧ True) ∧ (h.cap * (2 : Nat) ≤ h.cap * (2 : Nat) ∧ h.n ≤ h.n ∧ ∀ (j : Nat), j < h.n → h.id j = h.id j ∧ h.key j = h.key j ∧ True) ∧ ((1 : Nat) ≤ (1 :
  Nat) ∧ (True ∧ True ∧ (0 : Nat) = (0 : Nat) ∧ d.n = d.n ∧ d.cap = d.cap) ∧ True) ∧ (d.cap * (2 : Nat) ≤ d.cap * (2 : Nat) ∧ d.n ≤ d.n ∧ ∀ (j : Nat), j < d.n → (d.f j).fst = (d.f j).fst ∧ (d.f j).snd = (d.f j).snd ∧ True)
  ∧ True))) ∧ (((↑h.n : Int) == (↑d.n : Int)) = false → Both h d ∧ h.n ≤ (200 : Nat) → False ∧ True ∧ ((65 : Nat) ≤ (65 : Nat) ∧ (True ∧ True ∧ (0 : Nat) = (0 : Nat) ∧ h.n = h.n ∧ h.cap = h.cap) ∧ ((64 : Nat) = (64 : Nat)
  ∧ ∀ (j : Nat), j < (64 : Nat) → h.at_ j = h.at_ j) ∧ True) ∧ (h.cap * (2 : Nat) ≤ h.cap * (2 : Nat) ∧ h.n ≤ h.n ∧ ∀ (j : Nat), j < h.n → h.id j = h.id j ∧ h.key j = h.key j ∧ True) ∧ ((1 : Nat) ≤ (1 : Nat) ∧ (True ∧ True
  ∧ (0 : Nat) = (0 : Nat) ∧ d.n = d.n ∧ d.cap = d.cap) ∧ True) ∧ (d.cap * (2 : Nat) ≤ d.cap * (2 : Nat) ∧ d.n ≤ d.n ∧ ∀ (j : Nat), j < d.n → (d.f j).fst = (d.f j).fst ∧ (d.f j).snd = (d.f j).snd ∧ True) ∧ True)) ∧ (¬h.n =
  (0 : Nat) → ∀ (v : Int), v = h.id (0 : Nat) → ∀ (v_1 : Int), v_1 = h.key (0 : Nat) → (((True ∧ True) ∧ n = n ∧ True) ∧ ((65 : Nat) ≤ (65 : Nat) ∧ (True ∧ True ∧ (0 : Nat) = (0 : Nat) ∧ h.n = h.n ∧ h.cap = h.cap) ∧ ((64 :
  Nat) = (64 : Nat) ∧ ∀ (j : Nat), j < (64 : Nat) → h.at_ j = h.at_ j) ∧ True) ∧ (h.cap * (2 : Nat) ≤ h.cap * (2 : Nat) ∧ h.n = h.n ∧ ∀ (j : Nat), j < h.n → h.id j = h.id j ∧ h.key j = h.key j ∧ True) ∧ True) ∧ ((HP.mk h.n
  h.cap (fun (j : Nat) => h.id j) (fun (j : Nat) => h.key j) h.at_).Full ∧ h.n ≤ (100000 : Nat)) ∧ ∀ (v_2 : Int), v_2 = oVal ((HP.mk h.n h.cap (fun (j : Nat) => h.id j) (fun (j : Nat) => h.key j) h.at_).M n) → (((True ∧
  True) ∧ n = n ∧ True) ∧ ((1 : Nat) ≤ (1 : Nat) ∧ (True ∧ True ∧ (0 : Nat) = (0 : Nat) ∧ d.n = d.n ∧ d.cap = d.cap) ∧ True) ∧ (d.cap * (2 : Nat) ≤ d.cap * (2 : Nat) ∧ d.n = d.n ∧ ∀ (j : Nat), j < d.n → (d.f j).fst = (d.f
  j).fst ∧ (d.f j).snd = (d.f j).snd ∧ True) ∧ True) ∧ d.n ≤ (10000 : Nat) ∧ ∀ (v_3 : Int), v_3 = (DP.mk d.n d.cap fun (j : Nat) => ((d.f j).fst, (d.f j).snd)).ix n → (((!true == decide ((↑d.n : Int) > (0 : Int))) = true →
  Both h d ∧ h.n ≤ (200 : Nat) → False ∧ True ∧ ((65 : Nat) ≤ (65 : Nat) ∧ (True ∧ True ∧ (0 : Nat) = (0 : Nat) ∧ h.n = h.n ∧ h.cap = h.cap) ∧ ((64 : Nat) = (64 : Nat) ∧ ∀ (j : Nat), j < (64 : Nat) → h.at_ j = h.at_ j) ∧
  True) ∧ (h.cap * (2 : Nat) ≤ h.cap * (2 : Nat) ∧ h.n ≤ h.n ∧ ∀ (j : Nat), j < h.n → h.id j = h.id j ∧ h.key j = h.key j ∧ True) ∧ ((1 : Nat) ≤ (1 : Nat) ∧ (True ∧ True ∧ (0 : Nat) = (0 : Nat) ∧ d.n = d.n ∧ d.cap = d.cap)
  ∧ True) ∧ (d.cap * (2 : Nat) ≤ d.cap * (2 : Nat) ∧ d.n ≤ d.n ∧ ∀ (j : Nat), j < d.n → (d.f j).fst = (d.f j).fst ∧ (d.f j).snd = (d.f j).snd ∧ True) ∧ True) ∧ ((!true == decide ((↑d.n : Int) > (0 : Int))) = false → (true
  = true → ((0 : Int) ≤ (0 : Int) ∧ (0 : Int) < (↑d.n : Int)) ∧ (0 : Nat) < d.n ∧ ((v != (d.f (0 : Nat)).fst) = true → Both h d ∧ h.n ≤ (200 : Nat) → False ∧ True ∧ ((65 : Nat) ≤ (65 : Nat) ∧ (True ∧ True ∧ (0 : Nat) = (0
  : Nat) ∧ h.n = h.n ∧ h.cap = h.cap) ∧ ((64 : Nat) = (64 : Nat) ∧ ∀ (j : Nat), j < (64 : Nat) → h.at_ j = h.at_ j) ∧ True) ∧ (h.cap * (2 : Nat) ≤ h.cap * (2 : Nat) ∧ h.n ≤ h.n ∧ ∀ (j : Nat), j < h.n → h.id j = h.id j ∧
  h.key j = h.key j ∧ True) ∧ ((1 : Nat) ≤ (1 : Nat) ∧ (True ∧ True ∧ (0 : Nat) = (0 : Nat) ∧ d.n = d.n ∧ d.cap = d.cap) ∧ True) ∧ (d.cap * (2 : Nat) ≤ d.cap * (2 : Nat) ∧ d.n ≤ d.n ∧ ∀ (j : Nat), j < d.n → (d.f j).fst =
  (d.f j).fst ∧ (d.f j).snd = (d.f j).snd ∧ True) ∧ True) ∧ ((v != (d.f (0 : Nat)).fst) = false → ((0 : Int) ≤ (0 : Int) ∧ (0 : Int) < (↑d.n : Int)) ∧ (0 : Nat) < d.n ∧ ((v_1 != (d.f (0 : Nat)).snd) = true → Both h d ∧ h.n
  ≤ (200 : Nat) → False ∧ True ∧ ((65 : Nat) ≤ (65 : Nat) ∧ (True ∧ True ∧ (0 : Nat) = (0 : Nat) ∧ h.n = h.n ∧ h.cap = h.cap) ∧ ((64 : Nat) = (64 : Nat) ∧ ∀ (j : Nat), j < (64 : Nat) → h.at_ j = h.at_ j) ∧ True) ∧ (h.cap *
  (2 : Nat) ≤ h.cap * (2 : Nat) ∧ h.n ≤ h.n ∧ ∀ (j : Nat), j < h.n → h.id j = h.id j ∧ h.key j = h.key j ∧ True) ∧ ((1 : Nat) ≤ (1 : Nat) ∧ (True ∧ True ∧ (0 : Nat) = (0 : Nat) ∧ d.n = d.n ∧ d.cap = d.cap) ∧ True) ∧ (d.cap
  * (2 : Nat) ≤ d.cap * (2 : Nat) ∧ d.n ≤ d.n ∧ ∀ (j : Nat), j < d.n → (d.f j).fst = (d.f j).fst ∧ (d.f j).snd = (d.f j).snd ∧ True) ∧ True) ∧ ((v_1 != (d.f (0 : Nat)).snd) = false → ((!true) = true → ((v != (-1 : Int)) =
  true → Both h d ∧ h.n ≤ (200 : Nat) → False ∧ True ∧ ((65 : Nat) ≤ (65 : Nat) ∧ (True ∧ True ∧ (0 : Nat) = (0 : Nat) ∧ h.n = h.n ∧ h.cap = h.cap) ∧ ((64 : Nat) = (64 : Nat) ∧ ∀ (j : Nat), j < (64 : Nat) → h.at_ j = h.at_
  j) ∧ True) ∧ (h.cap * (2 : Nat) ≤ h.cap * (2 : Nat) ∧ h.n ≤ h.n ∧ ∀ (j : Nat), j < h.n → h.id j = h.id j ∧ h.key j = h.key j ∧ True) ∧ ((1 : Nat) ≤ (1 : Nat) ∧ (True ∧ True ∧ (0 : Nat) = (0 : Nat) ∧ d.n = d.n ∧ d.cap =
  d.cap) ∧ True) ∧ (d.cap * (2 : Nat) ≤ d.cap * (2 : Nat) ∧ d.n ≤ d.n ∧ ∀ (j : Nat), j < d.n → (d.f j).fst = (d.f j).fst ∧ (d.f j).snd = (d.f j).snd ∧ True) ∧ True) ∧ ((v != (-1 : Int)) = false → ((v_1 != (0 : Int)) = true
  → Both h d ∧ h.n ≤ (200 : Nat) → False ∧ True ∧ ((65 : Nat) ≤ (65 : Nat) ∧ (True ∧ True ∧ (0 : Nat) = (0 : Nat) ∧ h.n = h.n ∧ h.cap = h.cap) ∧ ((64 : Nat) = (64 : Nat) ∧ ∀ (j : Nat), j < (64 : Nat) → h.at_ j = h.at_ j) ∧
  True) ∧ (h.cap * (2 : Nat) ≤ h.cap * (2 : Nat) ∧ h.n ≤ h.n ∧ ∀ (j : Nat), j < h.n → h.id j = h.id j ∧ h.key j = h.key j ∧ True) ∧ ((1 : Nat) ≤ (1 : Nat) ∧ (True ∧ True ∧ (0 : Nat) = (0 : Nat) ∧ d.n = d.n ∧ d.cap = d.cap)
  ∧ True) ∧ (d.cap * (2 : Nat) ≤ d.cap * (2 : Nat) ∧ d.n ≤ d.n ∧ ∀ (j : Nat), j < d.n → (d.f j).fst = (d.f j).fst ∧ (d.f j).snd = (d.f j).snd ∧ True) ∧ True) ∧ ((v_1 != (0 : Int)) = false → ∃ (y_1 : Nat), (smK11 h d n).I
  y_1 ∧ (((True ∧ True) ∧ (True ∧ True) ∧ n = n ∧ (True ∧ True ∧ (0 : Nat) = (0 : Nat) ∧ d.n = d.n ∧ y = y_1) ∧ v_2 = oVal (h.M n) ∧ oHas ((HP.mk h.n h.cap (fun (j : Nat) => h.id j) (fun (j : Nat) => h.key j) h.at_).M n) =
  oHas (h.M n) ∧ v_3 = d.ix n ∧ True) ∧ ((65 : Nat) ≤ (65 : Nat) ∧ (True ∧ True ∧ (0 : Nat) = (0 : Nat) ∧ h.n = h.n ∧ h.cap = h.cap) ∧ ((64 : Nat) = (64 : Nat) ∧ ∀ (j : Nat), j < (64 : Nat) → h.at_ j = h.at_ j) ∧ True) ∧
  (h.cap * (2 : Nat) ≤ h.cap * (2 : Nat) ∧ h.n ≤ h.n ∧ ∀ (j : Nat), j < h.n → h.id j = h.id j ∧ h.key j = h.key j ∧ True) ∧ ((1 : Nat) ≤ (1 : Nat) ∧ (True ∧ True ∧ (0 : Nat) = (0 : Nat) ∧ d.n = d.n ∧ d.cap = d.cap) ∧ True)
  ∧ (d.cap * (2 : Nat) ≤ d.cap * (2 : Nat) ∧ d.n ≤ d.n ∧ ∀ (j : Nat), j < d.n → (d.f j).fst = (d.f j).fst ∧ (d.f j).snd = (d.f j).snd ∧ True) ∧ (y_1 * (1 : Nat) ≤ y * (1 : Nat) ∧ d.n = d.n ∧ ∀ (j : Nat), j < d.n → (d.f
  j).fst = (d.f j).fst) ∧ True) ∧ True))) ∧ ((!true) = false → ∃ (y_1 : Nat), (smK11 h d n).I y_1 ∧ (((True ∧ True) ∧ (True ∧ True) ∧ n = n ∧ (True ∧ True ∧ (0 : Nat) = (0 : Nat) ∧ d.n = d.n ∧ y = y_1) ∧ v_2 = oVal (h.M n)
  ∧ oHas ((HP.mk h.n h.cap (fun (j : Nat) => h.id j) (fun (j : Nat) => h.key j) h.at_).M n) = oHas (h.M n) ∧ v_3 = d.ix n ∧ True) ∧ ((65 : Nat) ≤ (65 : Nat) ∧ (True ∧ True ∧ (0 : Nat) = (0 : Nat) ∧ h.n = h.n ∧ h.cap =
  h.cap) ∧ ((64 : Nat) = (64 : Nat) ∧ ∀ (j : Nat), j < (64 : Nat) → h.at_ j = h.at_ j) ∧ True) ∧ (h.cap * (2 : Nat) ≤ h.cap * (2 : Nat) ∧ h.n ≤ h.n ∧ ∀ (j : Nat), j < h.n → h.id j = h.id j ∧ h.key j = h.key j ∧ True) ∧ ((1
  : Nat) ≤ (1 : Nat) ∧ (True ∧ True ∧ (0 : Nat) = (0 : Nat) ∧ d.n = d.n ∧ d.cap = d.cap) ∧ True) ∧ (d.cap * (2 : Nat) ≤ d.cap * (2 : Nat) ∧ d.n ≤ d.n ∧ ∀ (j : Nat), j < d.n → (d.f j).fst = (d.f j).fst ∧ (d.f j).snd = (d.f
  j).snd ∧ True) ∧ (y_1 * (1 : Nat) ≤ y * (1 : Nat) ∧ d.n = d.n ∧ ∀ (j : Nat), j < d.n → (d.f j).fst = (d.f j).fst) ∧ True) ∧ True)))) ∧ (true = false → ((!true) = true → ((v != (-1 : Int)) = true → Both h d ∧ h.n ≤ (200 :
  Nat) → False ∧ True ∧ ((65 : Nat) ≤ (65 : Nat) ∧ (True ∧ True ∧ (0 : Nat) = (0 : Nat) ∧ h.n = h.n ∧ h.cap = h.cap) ∧ ((64 : Nat) = (64 : Nat) ∧ ∀ (j : Nat), j < (64 : Nat) → h.at_ j = h.at_ j) ∧ True) ∧ (h.cap * (2 :
  Nat) ≤ h.cap * (2 : Nat) ∧ h.n ≤ h.n ∧ ∀ (j : Nat), j < h.n → h.id j = h.id j ∧ h.key j = h.key j ∧ True) ∧ ((1 : Nat) ≤ (1 : Nat) ∧ (True ∧ True ∧ (0 : Nat) = (0 : Nat) ∧ d.n = d.n ∧ d.cap = d.cap) ∧ True) ∧ (d.cap * (2
  : Nat) ≤ d.cap * (2 : Nat) ∧ d.n ≤ d.n ∧ ∀ (j : Nat), j < d.n → (d.f j).fst = (d.f j).fst ∧ (d.f j).snd = (d.f j).snd ∧ True) ∧ True) ∧ ((v != (-1 : Int)) = false → ((v_1 != (0 : Int)) = true → Both h d ∧ h.n ≤ (200 :
  Nat) → False ∧ True ∧ ((65 : Nat) ≤ (65 : Nat) ∧ (True ∧ True ∧ (0 : Nat) = (0 : Nat) ∧ h.n = h.n ∧ h.cap = h.cap) ∧ ((64 : Nat) = (64 : Nat) ∧ ∀ (j : Nat), j < (64 : Nat) → h.at_ j = h.at_ j) ∧ True) ∧ (h.cap * (2 :
  Nat) ≤ h.cap * (2 : Nat) ∧ h.n ≤ h.n ∧ ∀ (j : Nat), j < h.n → h.id j = h.id j ∧ h.key j = h.key j ∧ True) ∧ ((1 : Nat) ≤ (1 : Nat) ∧ (True ∧ True ∧ (0 : Nat) = (0 : Nat) ∧ d.n = d.n ∧ d.cap = d.cap) ∧ True) ∧ (d.cap * (2
  : Nat) ≤ d.cap * (2 : Nat) ∧ d.n ≤ d.n ∧ ∀ (j : Nat), j < d.n → (d.f j).fst = (d.f j).fst ∧ (d.f j).snd = (d.f j).snd ∧ True) ∧ True) ∧ ((v_1 != (0 : Int)) = false → ∃ (y_1 : Nat), (smK11 h d n).I y_1 ∧ (((True ∧ True) ∧
  (True ∧ True) ∧ n = n ∧ (True ∧ True ∧ (0 : Nat) = (0 : Nat) ∧ d.n = d.n ∧ y = y_1) ∧ v_2 = oVal (h.M n) ∧ oHas ((HP.mk h.n h.cap (fun (j : Nat) => h.id j) (fun (j : Nat) => h.key j) h.at_).M n) = oHas (h.M n) ∧ v_3 =
  d.ix n ∧ True) ∧ ((65 : Nat) ≤ (65 : Nat) ∧ (True ∧ True ∧ (0 : Nat) = (0 : Nat) ∧ h.n = h.n ∧ h.cap = h.cap) ∧ ((64 : Nat) = (64 : Nat) ∧ ∀ (j : Nat), j < (64 : Nat) → h.at_ j = h.at_ j) ∧ True) ∧ (h.cap * (2 : Nat) ≤
  h.cap * (2 : Nat) ∧ h.n ≤ h.n ∧ ∀ (j : Nat), j < h.n → h.id j = h.id j ∧ h.key j = h.key j ∧ True) ∧ ((1 : Nat) ≤ (1 : Nat) ∧ (True ∧ True ∧ (0 : Nat) = (0 : Nat) ∧ d.n = d.n ∧ d.cap = d.cap) ∧ True) ∧ (d.cap * (2 : Nat)
  ≤ d.cap * (2 : Nat) ∧ d.n ≤ d.n ∧ ∀ (j : Nat), j < d.n → (d.f j).fst = (d.f j).fst ∧ (d.f j).snd = (d.f j).snd ∧ True) ∧ (y_1 * (1 : Nat) ≤ y * (1 : Nat) ∧ d.n = d.n ∧ ∀ (j : Nat), j < d.n → (d.f j).fst = (d.f j).fst) ∧
  True) ∧ True))) ∧ ((!true) = false → ∃ (y_1 : Nat), (smK11 h d n).I y_1 ∧ (((True ∧ True) ∧ (True ∧ True) ∧ n = n ∧ (True ∧ True ∧ (0 : Nat) = (0 : Nat) ∧ d.n = d.n ∧ y = y_1) ∧ v_2 = oVal (h.M n) ∧ oHas ((HP.mk h.n
  h.cap (fun (j : Nat) => h.id j) (fun (j : Nat) => h.key j) h.at_).M n) = oHas (h.M n) ∧ v_3 = d.ix n ∧ True) ∧ ((65 : Nat) ≤ (65 : Nat) ∧ (True ∧ True ∧ (0 : Nat) = (0 : Nat) ∧ h.n = h.n ∧ h.cap = h.cap) ∧ ((64 : Nat) =
  (64 : Nat) ∧ ∀ (j : Nat), j < (64 : Nat) → h.at_ j = h.at_ j) ∧ True) ∧ (h.cap * (2 : Nat) ≤ h.cap * (2 : Nat) ∧ h.n ≤ h.n ∧ ∀ (j : Nat), j < h.n → h.id j = h.id j ∧ h.key j = h.key j ∧ True) ∧ ((1 : Nat) ≤ (1 : Nat) ∧
  (True ∧ True ∧ (0 : Nat) = (0 : Nat) ∧ d.n = d.n ∧ d.cap = d.cap) ∧ True) ∧ (d.cap * (2 : Nat) ≤ d.cap * (2 : Nat) ∧ d.n ≤ d.n ∧ ∀ (j : Nat), j < d.n → (d.f j).fst = (d.f j).fst ∧ (d.f j).snd = (d.f j).snd ∧ True) ∧ (y_1
  * (1 : Nat) ≤ y * (1 : Nat) ∧ d.n = d.n ∧ ∀ (j : Nat), j < d.n → (d.f j).fst = (d.f j).fst) ∧ True) ∧ True)))) ∧ ∀ (y : Nat), (smK11 h d n).I y → (((!oHas (h.M n) == decide (d.ix n ≥ (0 : Int))) = true → Both h d ∧ h.n ≤
  (200 : Nat) → False ∧ True ∧ ((65 : Nat) ≤ (65 : Nat) ∧ (True ∧ True ∧ (0 : Nat) = (0 : Nat) ∧ h.n = h.n ∧ h.cap = h.cap) ∧ ((64 : Nat) = (64 : Nat) ∧ ∀ (j : Nat), j < (64 : Nat) → h.at_ j = h.at_ j) ∧ True) ∧ (h.cap *
  (2 : Nat) ≤ h.cap * (2 : Nat) ∧ h.n ≤ h.n ∧ ∀ (j : Nat), j < h.n → h.id j = h.id j ∧ h.key j = h.key j ∧ True) ∧ ((1 : Nat) ≤ (1 : Nat) ∧ (True ∧ True ∧ (0 : Nat) = (0 : Nat) ∧ d.n = d.n ∧ d.cap = d.cap) ∧ True) ∧ (d.cap
  * (2 : Nat) ≤ d.cap * (2 : Nat) ∧ d.n ≤ d.n ∧ ∀ (j : Nat), j < d.n → (d.f j).fst = (d.f j).fst ∧ (d.f j).snd = (d.f j).snd ∧ True) ∧ True) ∧ ((!oHas (h.M n) == decide (d.ix n ≥ (0 : Int))) = false → (oHas (h.M n) = true
  → ((0 : Int) ≤ d.ix n ∧ d.ix n < (↑d.n : Int)) ∧ (0 : Nat) + (d.ix n).toNat < d.n ∧ ((oVal (h.M n) != (d.f ((0 : Nat) + (d.ix n).toNat)).snd) = true → Both h d ∧ h.n ≤ (200 : Nat) → False ∧ True ∧ ((65 : Nat) ≤ (65 :
  Nat) ∧ (True ∧ True ∧ (0 : Nat) = (0 : Nat) ∧ h.n = h.n ∧ h.cap = h.cap) ∧ ((64 : Nat) = (64 : Nat) ∧ ∀ (j : Nat), j < (64 : Nat) → h.at_ j = h.at_ j) ∧ True) ∧ (h.cap * (2 : Nat) ≤ h.cap * (2 : Nat) ∧ h.n ≤ h.n ∧ ∀ (j :
  Nat), j < h.n → h.id j = h.id j ∧ h.key j = h.key j ∧ True) ∧ ((1 : Nat) ≤ (1 : Nat) ∧ (True ∧ True ∧ (0 : Nat) = (0 : Nat) ∧ d.n = d.n ∧ d.cap = d.cap) ∧ True) ∧ (d.cap * (2 : Nat) ≤ d.cap * (2 : Nat) ∧ d.n ≤ d.n ∧ ∀ (j
  : Nat), j < d.n → (d.f j).fst = (d.f j).fst ∧ (d.f j).snd = (d.f j).snd ∧ True) ∧ True) ∧ ((oVal (h.M n) != (d.f ((0 : Nat) + (d.ix n).toNat)).snd) = false → ((!oHas (h.M n)) = true → ((oVal (h.M n) != (0 : Int)) = true
  → Both h d ∧ h.n ≤ (200 : Nat) → False ∧ True ∧ ((65 : Nat) ≤ (65 : Nat) ∧ (True ∧ True ∧ (0 : Nat) = (0 : Nat) ∧ h.n = h.n ∧ h.cap = h.cap) ∧ ((64 : Nat) = (64 : Nat) ∧ ∀ (j : Nat), j < (64 : Nat) → h.at_ j = h.at_ j) ∧
  True) ∧ (h.cap * (2 : Nat) ≤ h.cap * (2 : Nat) ∧ h.n ≤ h.n ∧ ∀ (j : Nat), j < h.n → h.id j = h.id j ∧ h.key j = h.key j ∧ True) ∧ ((1 : Nat) ≤ (1 : Nat) ∧ (True ∧ True ∧ (0 : Nat) = (0 : Nat) ∧ d.n = d.n ∧ d.cap = d.cap)
  ∧ True) ∧ (d.cap * (2 : Nat) ≤ d.cap * (2 : Nat) ∧ d.n ≤ d.n ∧ ∀ (j : Nat), j < d.n → (d.f j).fst = (d.f j).fst ∧ (d.f j).snd = (d.f j).snd ∧ True) ∧ True) ∧ ((oVal (h.M n) != (0 : Int)) = false → ∃ (y_1 : Nat), (smK13 h
  d n).I y_1 ∧ (((True ∧ True) ∧ (True ∧ True) ∧ n = n ∧ (True ∧ True ∧ (0 : Nat) = (0 : Nat) ∧ d.n = d.n ∧ y = y_1) ∧ True) ∧ ((65 : Nat) ≤ (65 : Nat) ∧ (True ∧ True ∧ (0 : Nat) = (0 : Nat) ∧ h.n = h.n ∧ h.cap = h.cap) ∧
  ((64 : Nat) = (64 : Nat) ∧ ∀ (j : Nat), j < (64 : Nat) → h.at_ j = h.at_ j) ∧ True) ∧ (h.cap * (2 : Nat) ≤ h.cap * (2 : Nat) ∧ h.n ≤ h.n ∧ ∀ (j : Nat), j < h.n → h.id j = h.id j ∧ h.key j = h.key j ∧ True) ∧ ((1 : Nat) ≤
  (1 : Nat) ∧ (True ∧ True ∧ (0 : Nat) = (0 : Nat) ∧ d.n = d.n ∧ d.cap = d.cap) ∧ True) ∧ (d.cap * (2 : Nat) ≤ d.cap * (2 : Nat) ∧ d.n ≤ d.n ∧ ∀ (j : Nat), j < d.n → (d.f j).fst = (d.f j).fst ∧ (d.f j).snd = (d.f j).snd ∧
  True) ∧ (y_1 * (1 : Nat) ≤ y * (1 : Nat) ∧ d.n = d.n ∧ ∀ (j : Nat), j < d.n → (d.f j).fst = (d.f j).fst) ∧ True) ∧ True)) ∧ ((!oHas (h.M n)) = false → ∃ (y_1 : Nat), (smK13 h d n).I y_1 ∧ (((True ∧ True) ∧ (True ∧ True)
  ∧ n = n ∧ (True ∧ True ∧ (0 : Nat) = (0 : Nat) ∧ d.n = d.n ∧ y = y_1) ∧ True) ∧ ((65 : Nat) ≤ (65 : Nat) ∧ (True ∧ True ∧ (0 : Nat) = (0 : Nat) ∧ h.n = h.n ∧ h.cap = h.cap) ∧ ((64 : Nat) = (64 : Nat) ∧ ∀ (j : Nat), j <
  (64 : Nat) → h.at_ j = h.at_ j) ∧ True) ∧ (h.cap * (2 : Nat) ≤ h.cap * (2 : Nat) ∧ h.n ≤ h.n ∧ ∀ (j : Nat), j < h.n → h.id j = h.id j ∧ h.key j = h.key j ∧ True) ∧ ((1 : Nat) ≤ (1 : Nat) ∧ (True ∧ True ∧ (0 : Nat) = (0 :
  Nat) ∧ d.n = d.n ∧ d.cap = d.cap) ∧ True) ∧ (d.cap * (2 : Nat) ≤ d.cap * (2 : Nat) ∧ d.n ≤ d.n ∧ ∀ (j : Nat), j < d.n → (d.f j).fst = (d.f j).fst ∧ (d.f j).snd = (d.f j).snd ∧ True) ∧ (y_1 * (1 : Nat) ≤ y * (1 : Nat) ∧
  d.n = d.n ∧ ∀ (j : Nat), j < d.n → (d.f j).fst = (d.f j).fst) ∧ True) ∧ True))) ∧ (oHas (h.M n) = false → ((!oHas (h.M n)) = true → ((oVal (h.M n) != (0 : Int)) = true → Both h d ∧ h.n ≤ (200 : Nat) → False ∧ True ∧ ((65
  : Nat) ≤ (65 : Nat) ∧ (True ∧ True ∧ (0 : Nat) = (0 : Nat) ∧ h.n = h.n ∧ h.cap = h.cap) ∧ ((64 : Nat) = (64 : Nat) ∧ ∀ (j : Nat), j < (64 : Nat) → h.at_ j = h.at_ j) ∧ True) ∧ (h.cap * (2 : Nat) ≤ h.cap * (2 : Nat) ∧ h.n
  ≤ h.n ∧ ∀ (j : Nat), j < h.n → h.id j = h.id j ∧ h.key j = h.key j ∧ True) ∧ ((1 : Nat) ≤ (1 : Nat) ∧ (True ∧ True ∧ (0 : Nat) = (0 : Nat) ∧ d.n = d.n ∧ d.cap = d.cap) ∧ True) ∧ (d.cap * (2 : Nat) ≤ d.cap * (2 : Nat) ∧
  d.n ≤ d.n ∧ ∀ (j : Nat), j < d.n → (d.f j).fst = (d.f j).fst ∧ (d.f j).snd = (d.f j).snd ∧ True) ∧ True) ∧ ((oVal (h.M n) != (0 : Int)) = false → ∃ (y_1 : Nat), (smK13 h d n).I y_1 ∧ (((True ∧ True) ∧ (True ∧ True) ∧ n =
  n ∧ (True ∧ True ∧ (0 : Nat) = (0 : Nat) ∧ d.n = d.n ∧ y = y_1) ∧ True) ∧ ((65 : Nat) ≤ (65 : Nat) ∧ (True ∧ True ∧ (0 : Nat) = (0 : Nat) ∧ h.n = h.n ∧ h.cap = h.cap) ∧ ((64 : Nat) = (64 : Nat) ∧ ∀ (j : Nat), j < (64 :
  Nat) → h.at_ j = h.at_ j) ∧ True) ∧ (h.cap * (2 : Nat) ≤ h.cap * (2 : Nat) ∧ h.n ≤ h.n ∧ ∀ (j : Nat), j < h.n → h.id j = h.id j ∧ h.key j = h.key j ∧ True) ∧ ((1 : Nat) ≤ (1 : Nat) ∧ (True ∧ True ∧ (0 : Nat) = (0 : Nat)
  ∧ d.n = d.n ∧ d.cap = d.cap) ∧ True) ∧ (d.cap * (2 : Nat) ≤ d.cap * (2 : Nat) ∧ d.n ≤ d.n ∧ ∀ (j : Nat), j < d.n → (d.f j).fst = (d.f j).fst ∧ (d.f j).snd = (d.f j).snd ∧ True) ∧ (y_1 * (1 : Nat) ≤ y * (1 : Nat) ∧ d.n =
  d.n ∧ ∀ (j : Nat), j < d.n → (d.f j).fst = (d.f j).fst) ∧ True) ∧ True)) ∧ ((!oHas (h.M n)) = false → ∃ (y_1 : Nat), (smK13 h d n).I y_1 ∧ (((True ∧ True) ∧ (True ∧ True) ∧ n = n ∧ (True ∧ True ∧ (0 : Nat) = (0 : Nat) ∧
  d.n = d.n ∧ y = y_1) ∧ True) ∧ ((65 : Nat) ≤ (65 : Nat) ∧ (True ∧ True ∧ (0 : Nat) = (0 : Nat) ∧ h.n = h.n ∧ h.cap = h.cap) ∧ ((64 : Nat) = (64 : Nat) ∧ ∀ (j : Nat), j < (64 : Nat) → h.at_ j = h.at_ j) ∧ True) ∧ (h.cap *
  (2 : Nat) ≤ h.cap * (2 : Nat) ∧ h.n ≤ h.n ∧ ∀ (j : Nat), j < h.n → h.id j = h.id j ∧ h.key j = h.key j ∧ True) ∧ ((1 : Nat) ≤ (1 : Nat) ∧ (True ∧ True ∧ (0 : Nat) = (0 : Nat) ∧ d.n = d.n ∧ d.cap = d.cap) ∧ True) ∧ (d.cap
  * (2 : Nat) ≤ d.cap * (2 : Nat) ∧ d.n ≤ d.n ∧ ∀ (j : Nat), j < d.n → (d.f j).fst = (d.f j).fst ∧ (d.f j).snd = (d.f j).snd ∧ True) ∧ (y_1 * (1 : Nat) ≤ y * (1 : Nat) ∧ d.n = d.n ∧ ∀ (j : Nat), j < d.n → (d.f j).fst =
  (d.f j).fst) ∧ True) ∧ True)))) ∧ ∀ (y : Nat), (smK13 h d n).I y → (((True ∧ True) ∧ True) ∧ ((65 : Nat) ≤ (65 : Nat) ∧ (True ∧ True ∧ (0 : Nat) = (0 : Nat) ∧ h.n = h.n ∧ h.cap = h.cap) ∧ ((64 : Nat) = (64 : Nat) ∧ ∀ (j
  : Nat), j < (64 : Nat) → h.at_ j = h.at_ j) ∧ True) ∧ (h.cap * (2 : Nat) ≤ h.cap * (2 : Nat) ∧ h.n = h.n ∧ ∀ (j : Nat), j < h.n → h.id j = h.id j ∧ h.key j = h.key j ∧ True) ∧ True) ∧ (((↑h.n : Int) == (↑d.n : Int)) =
  true → (((True ∧ True) ∧ True) ∧ ((65 : Nat) ≤ (65 : Nat) ∧ (True ∧ True ∧ (0 : Nat) = (0 : Nat) ∧ h.n = h.n ∧ h.cap = h.cap) ∧ ((64 : Nat) = (64 : Nat) ∧ ∀ (j : Nat), j < (64 : Nat) → h.at_ j = h.at_ j) ∧ True) ∧ (h.cap
  * (2 : Nat) ≤ h.cap * (2 : Nat) ∧ h.n = h.n ∧ ∀ (j : Nat), j < h.n → h.id j = h.id j ∧ h.key j = h.key j ∧ True) ∧ True) ∧ h.n ≤ (1000 : Nat) ∧ (h.n = (0 : Nat) → ((True ∧ (True ∧ True ∧ (0 : Nat) = (0 : Nat) ∧ d.n = d.n
  ∧ y = y) ∧ True) ∧ (y * (1 : Nat) ≤ y * (1 : Nat) ∧ d.n = d.n ∧ ∀ (j : Nat), j < d.n → (d.f j).fst = (d.f j).fst) ∧ True) ∧ (d.n = (0 : Nat) → Both h d ∧ h.n ≤ (200 : Nat) → True ∧ True ∧ ((65 : Nat) ≤ (65 : Nat) ∧ (True
  ∧ True ∧ (0 : Nat) = (0 : Nat) ∧ h.n = h.n ∧ h.cap = h.cap) ∧ ((64 : Nat) = (64 : Nat) ∧ ∀ (j : Nat), j < (64 : Nat) → h.at_ j = h.at_ j) ∧ True) ∧ (h.cap * (2 : Nat) ≤ h.cap * (2 : Nat) ∧ h.n ≤ h.n ∧ ∀ (j : Nat), j <
  h.n → h.id j = h.id j ∧ h.key j = h.key j ∧ True) ∧ ((1 : Nat) ≤ (1 : Nat) ∧ (True ∧ True ∧ (0 : Nat) = (0 : Nat) ∧ d.n = d.n ∧ d.cap = d.cap) ∧ True) ∧ (d.cap * (2 : Nat) ≤ d.cap * (2 : Nat) ∧ d.n ≤ d.n ∧ ∀ (j : Nat), j
  < d.n → (d.f j).fst = (d.f j).fst ∧ (d.f j).snd = (d.f j).snd ∧ True) ∧ True) ∧ (¬d.n = (0 : Nat) → Both h d ∧ h.n ≤ (200 : Nat) → False ∧ True ∧ ((65 : Nat) ≤ (65 : Nat) ∧ (True ∧ True ∧ (0 : Nat) = (0 : Nat) ∧ h.n =
  h.n ∧ h.cap = h.cap) ∧ ((64 : Nat) = (64 : Nat) ∧ ∀ (j : Nat), j < (64 : Nat) → h.at_ j = h.at_ j) ∧ True) ∧ (h.cap * (2 : Nat) ≤ h.cap * (2 : Nat) ∧ h.n ≤ h.n ∧ ∀ (j : Nat), j < h.n → h.id j = h.id j ∧ h.key j = h.key j
  ∧ True) ∧ ((1 : Nat) ≤ (1 : Nat) ∧ (True ∧ True ∧ (0 : Nat) = (0 : Nat) ∧ d.n = d.n ∧ d.cap = d.cap) ∧ True) ∧ (d.cap * (2 : Nat) ≤ d.cap * (2 : Nat) ∧ d.n ≤ d.n ∧ ∀ (j : Nat), j < d.n → (d.f j).fst = (d.f j).fst ∧ (d.f
  j).snd = (d.f j).snd ∧ True) ∧ True)) ∧ (¬h.n = (0 : Nat) → ∀ (x : (Nat → It) × Nat), Srt h.n (HP.mk h.n h.cap (fun (j : Nat) => h.id j) (fun (j : Nat) => h.key j) h.at_).f x.fst ∧ h.n ≤ x.snd → (((True ∧ True ∧ (0 :
  Nat) = (0 : Nat) ∧ h.n = h.n ∧ x.snd = x.snd) ∧ (True ∧ True ∧ (0 : Nat) = (0 : Nat) ∧ d.n = d.n ∧ y = y) ∧ True) ∧ (x.snd * (1 : Nat) ≤ x.snd * (1 : Nat) ∧ h.n = h.n ∧ ∀ (j : Nat), j < h.n → (x.fst j).fst = (x.fst
  j).fst) ∧ (y * (1 : Nat) ≤ y * (1 : Nat) ∧ d.n = d.n ∧ ∀ (j : Nat), j < d.n → (d.f j).fst = (d.f j).fst) ∧ True) ∧ h.n ≤ (1000000 : Nat) ∧ (h.n = d.n → Both h d ∧ h.n ≤ (200 : Nat) → (sameB h.n (fun (j : Nat) => (x.fst
  j).fst) fun (j : Nat) => (d.f j).fst) = true ∧ True ∧ ((65 : Nat) ≤ (65 : Nat) ∧ (True ∧ True ∧ (0 : Nat) = (0 : Nat) ∧ h.n = h.n ∧ h.cap = h.cap) ∧ ((64 : Nat) = (64 : Nat) ∧ ∀ (j : Nat), j < (64 : Nat) → h.at_ j =
  h.at_ j) ∧ True) ∧ (h.cap * (2 : Nat) ≤ h.cap * (2 : Nat) ∧ h.n ≤ h.n ∧ ∀ (j : Nat), j < h.n → h.id j = h.id j ∧ h.key j = h.key j ∧ True) ∧ ((1 : Nat) ≤ (1 : Nat) ∧ (True ∧ True ∧ (0 : Nat) = (0 : Nat) ∧ d.n = d.n ∧
  d.cap = d.cap) ∧ True) ∧ (d.cap * (2 : Nat) ≤ d.cap * (2 : Nat) ∧ d.n ≤ d.n ∧ ∀ (j : Nat), j < d.n → (d.f j).fst = (d.f j).fst ∧ (d.f j).snd = (d.f j).snd ∧ True) ∧ True) ∧ (¬h.n = d.n → Both h d ∧ h.n ≤ (200 : Nat) →
  False ∧ True ∧ ((65 : Nat) ≤ (65 : Nat) ∧ (True ∧ True ∧ (0 : Nat) = (0 : Nat) ∧ h.n = h.n ∧ h.cap = h.cap) ∧ ((64 : Nat) = (64 : Nat) ∧ ∀ (j : Nat), j < (64 : Nat) → h.at_ j = h.at_ j) ∧ True) ∧ (h.cap * (2 : Nat) ≤
  h.cap * (2 : Nat) ∧ h.n ≤ h.n ∧ ∀ (j : Nat), j < h.n → h.id j = h.id j ∧ h.key j = h.key j ∧ True) ∧ ((1 : Nat) ≤ (1 : Nat) ∧ (True ∧ True ∧ (0 : Nat) = (0 : Nat) ∧ d.n = d.n ∧ d.cap = d.cap) ∧ True) ∧ (d.cap * (2 : Nat)
  ≤ d.cap * (2 : Nat) ∧ d.n ≤ d.n ∧ ∀ (j : Nat), j < d.n → (d.f j).fst = (d.f j).fst ∧ (d.f j).snd = (d.f j).snd ∧ True) ∧ True))) ∧ (((↑h.n : Int) == (↑d.n : Int)) = false → Both h d ∧ h.n ≤ (200 : Nat) → False ∧ True ∧
  ((65 : Nat) ≤ (65 : Nat) ∧ (True ∧ True ∧ (0 : Nat) = (0 : Nat) ∧ h.n = h.n ∧ h.cap = h.cap) ∧ ((64 : Nat) = (64 : Nat) ∧ ∀ (j : Nat), j < (64 : Nat) → h.at_ j = h.at_ j) ∧ True) ∧ (h.cap * (2 : Nat) ≤ h.cap * (2 : Nat)
  ∧ h.n ≤ h.n ∧ ∀ (j : Nat), j < h.n → h.id j = h.id j ∧ h.key j = h.key j ∧ True) ∧ ((1 : Nat) ≤ (1 : Nat) ∧ (True ∧ True ∧ (0 : Nat) = (0 : Nat) ∧ d.n = d.n ∧ d.cap = d.cap) ∧ True) ∧ (d.cap * (2 : Nat) ≤ d.cap * (2 :
  Nat) ∧ d.n ≤ d.n ∧ ∀ (j : Nat), j < d.n → (d.f j).fst = (d.f j).fst ∧ (d.f j).snd = (d.f j).snd ∧ True) ∧ True)) := by
  simp only [true_and, and_true, eq_self, Nat.le_refl, decide_eq_true_eq, decide_eq_false_iff_not, beq_iff_eq, beq_eq_false_iff_ne, implies_true, true_implies, and_self, bne_iff_ne, Int.not_lt, ge_iff_le, gt_iff_lt, ne_eq, Nat.zero_add, Int.toNat_natCast, nblt_true, nblt_false, IntKind.wrap_i64, bne_eq_false_iff_eq, Bool.not_eq_true', Bool.not_eq_false']
  rintro h d n ⟨hb, hn⟩
  have hM : ∀ z : IC, (smF h d n).μ z = d.n - z.i := fun _ => rfl
  have hI6 : ∀ z : Nat, (smK6 h d n).I z = (d.n ≤ z) := fun _ => rfl
  have hI11 : ∀ z : Nat, (smK11 h d n).I z = (d.n ≤ z) := fun _ => rfl
  have hI13 : ∀ z : Nat, (smK13 h d n).I z = (d.n ≤ z) := fun _ => rfl
  have hF : h.Full := hb.1
  have hnn := hb.2.2.1
  have hMn := hb.2.2.2 n
  simp only [HP.eta, DP.eta, hM, hI6, hI11, hI13, hb, hn, hF, hMn, and_self, true_implies, true_and, forall_eq, not_true_eq_false, imp_false, Decidable.not_not, Bool.true_eq_false, Bool.false_eq_true, false_implies, and_true]
  have F : oHas (d.M n) = decide (0 ≤ d.ix n) ∧ (oHas (d.M n) = true → (0 ≤ d.ix n ∧ d.ix n < d.n) ∧ oVal (d.M n) = (d.f (d.ix n).toNat).2) ∧ (oHas (d.M n) = false → oVal (d.M n) = 0) := by
    rcases d.ix_spec n with ⟨h1, h2⟩ | ⟨k, h1, h2, h3⟩
    · have e : d.M n = none := if_pos (by omega)
      rw [e, h1]
      exact ⟨rfl, nofun, fun _ => rfl⟩
    · have e : d.M n = some (d.f (d.ix n).toNat).2 := if_neg (by omega)
      rw [e, h2]
      exact ⟨(decide_eq_true (Int.natCast_nonneg k)).symm, fun _ => ⟨by omega, rfl⟩, nofun⟩
  have common : ∀ y : Nat, d.n ≤ y → ∃ y_1, d.n ≤ y_1 ∧ y = y_1 ∧ y_1 * 1 ≤ y * 1 := fun y hy => ⟨y, hy, rfl, Nat.le_refl _⟩
  refine ⟨⟨⟨⟨0, 0⟩, ⟨Nat.zero_le _, Nat.zero_le _⟩, ⟨⟨rfl, rfl⟩, rfl⟩, Nat.le_refl _, rfl, fun j hj => absurd hj (Nat.not_lt_zero j)⟩, fun y hy => ⟨fun hlt => ⟨by omega, by omega, by omega, fun c hc => ⟨⟨y.i + 1, c⟩, ⟨(by show y.i + 1 ≤ d.n; omega), hc⟩, ⟨⟨⟨rfl, rfl⟩, (by show _ = ((y.i + 1 : Nat) : Int); omega)⟩, Nat.le_refl _, rfl, fun j h1 h2 => by rw [show j = y.i by omega]⟩, (by show d.n - (y.i + 1) < d.n - y.i; omega)⟩⟩, fun hge => ⟨y.c, by omega, ⟨by omega, rfl⟩, Nat.le_refl _, by omega⟩⟩⟩, fun y hy => ⟨fun h0 => ?_, fun h0 => ?_⟩⟩
  · refine ⟨by omega, by omega, ⟨(decide_eq_false (by omega)).symm, fun _ => common y hy⟩, fun y hy => ⟨⟨F.1, fun _ => ⟨fun ht => ⟨(F.2.1 ht).1, by have := (F.2.1 ht).1; omega, (F.2.1 ht).2, fun _ => ⟨fun hf => (by rw [ht] at hf; cases hf), fun _ => common y hy⟩⟩, fun hf => ⟨fun _ => ⟨F.2.2 hf, fun _ => common y hy⟩, fun ht => (by rw [ht] at hf; cases hf)⟩⟩⟩, fun y hy => ⟨fun _ => ⟨by omega, fun _ => by omega, fun h1 => absurd h0 h1⟩, by omega⟩⟩⟩
  · have e := hb.first h0
    refine ⟨by omega, by omega, ⟨(decide_eq_true (by omega)).symm, fun _ => ⟨by omega, by omega, by rw [e], fun _ => ⟨by omega, by omega, by rw [e], fun _ => common y hy⟩⟩⟩, fun y hy => ⟨⟨F.1, fun _ => ⟨fun ht => ⟨(F.2.1 ht).1, by have := (F.2.1 ht).1; omega, (F.2.1 ht).2, fun _ => ⟨fun hf => (by rw [ht] at hf; cases hf), fun _ => common y hy⟩⟩, fun hf => ⟨fun _ => ⟨F.2.2 hf, fun _ => common y hy⟩, fun ht => (by rw [ht] at hf; cases hf)⟩⟩⟩, fun y hy => ⟨fun _ => ⟨by omega, fun h1 => absurd h1 h0, fun _ x hx => ⟨by omega, fun _ => decide_eq_true fun j hj => congrArg Prod.fst (hb.list hx.1 j (by omega)), by omega⟩⟩, by omega⟩⟩⟩

def sm1_C (x : (HP × DP × Int)) : Cfg := { Γ := Go.Sx.look tSm, names := true, loops := onlyAt 3 [smF (x.1) (x.2.1) (x.2.2)], cuts := smK (x.1) (x.2.1) (x.2.2) }
theorem sm1_al (x : (HP × DP × Int)) : Shown (smP.vc Try.prog (sm1_C x) Try.f19 x) := ⟨@Eq.mp _ _ (by kernel_rfl) (sm1_vc (x.1) (x.2.1) (x.2.2))⟩
theorem sm1_ok : SpOk Try.prog 19 smP.sp := @Pat.okS _ smP Try.prog sm1_C 19 Try.f19 (fun x => cfg_tab rfl tSm_ok) (by kernel_rfl) Try.func19 (fun _ => rfl) sm1_al
def smNP : Pat ((Nat → Int) × Int) where
  view | [.ptr r 0 [], .ptr _ 0 [], .int .i64 n], H => some ((viewHP r H).at_, n) | _, _ => none
  args x := [p0 0, p0 1, .int .i64 x.2]
  H x := [nilReg x.1, dnil]
  out x := .need (∀ i, i < 64 → x.1 i = 0) (.retq .tt)
def smFN (a : Nat → Int) (n : Int) : Fam where
  α := Bool
  I _ := True
  st _ := { sl := mkSl 127 [(0, p0 0), (1, p0 1), (2, .int .i64 n), (7, .slice 2 0 [] 0 1 0 0), (8, .int .i64 0)], H := [nilReg a, dnil, rowReg 3 0 1 0 (fun _ => .int .i64 0)] }
  μ _ := 0
theorem smN_vc : ∀ (a : Nat → Int) (n : Int), (∀ (i : Nat), i < (64 : Nat) → a i = (0 : Int)) ∧ True → ∀ (v : Int), v = (0 : Int) → (∃ (_ : Bool), True ∧ (((True ∧ True) ∧ (True ∧ True) ∧ n = n ∧ (True ∧ True ∧ (0 : Nat) = (0 : Nat) ∧ (0
  : Nat) = (0 : Nat) ∧ (0 : Nat) = (0 : Nat)) ∧ v = (0 : Int) ∧ True) ∧ ((65 : Nat) ≤ (65 : Nat) ∧ True ∧ ((64 : Nat) = (64 : Nat) ∧ ∀ (j : Nat), j < (64 : Nat) → a j = a j) ∧ True) ∧ ((1 : Nat) ≤ (1 : Nat) ∧ True ∧ True)
  ∧ ((0 : Nat) ≤ (0 : Nat) ∧ (0 : Nat) = (0 : Nat) ∧ ∀ (j : Nat), j < (0 : Nat) → (0 : Int) = (0 : Int)) ∧ True) ∧ True) ∧ ∀ (_ : Bool), True → (decide ((0 : Int) < (0 : Int)) = true → False) ∧ (decide ((0 : Int) < (0 :
  Int)) = false → (((True ∧ True) ∧ True) ∧ ((65 : Nat) ≤ (65 : Nat) ∧ True ∧ ((64 : Nat) = (64 : Nat) ∧ ∀ (j : Nat), j < (64 : Nat) → a j = a j) ∧ True) ∧ True) ∧ ∀ (v : Int), v = (-1 : Int) → ∀ (v_1 : Int), v_1 = (0 :
  Int) → (((True ∧ True) ∧ n = n ∧ True) ∧ ((65 : Nat) ≤ (65 : Nat) ∧ True ∧ ((64 : Nat) = (64 : Nat) ∧ ∀ (j : Nat), j < (64 : Nat) → a j = a j) ∧ True) ∧ True) ∧ (∀ (i : Nat), i < (64 : Nat) → a i = (0 : Int)) ∧ ∀ (v_2 :
  Int), v_2 = oVal none → (((True ∧ True) ∧ n = n ∧ True) ∧ ((1 : Nat) ≤ (1 : Nat) ∧ True ∧ True) ∧ True) ∧ ∀ (v_3 : Int), v_3 = (-1 : Int) → ((!false == decide ((↑(0 : Nat) : Int) > (0 : Int))) = true → (∀ (i : Nat), i <
  (64 : Nat) → a i = (0 : Int)) → False ∧ True ∧ ((65 : Nat) ≤ (65 : Nat) ∧ True ∧ ((64 : Nat) = (64 : Nat) ∧ ∀ (j : Nat), j < (64 : Nat) → a j = a j) ∧ True) ∧ ((1 : Nat) ≤ (1 : Nat) ∧ True ∧ True) ∧ True) ∧ ((!false ==
  decide ((↑(0 : Nat) : Int) > (0 : Int))) = false → (false = true → ((0 : Int) ≤ (0 : Int) ∧ (0 : Int) < (↑(0 : Nat) : Int)) ∧ (0 : Nat) < (0 : Nat) ∧ ((v != (0 : Int)) = true → (∀ (i : Nat), i < (64 : Nat) → a i = (0 :
  Int)) → False ∧ True ∧ ((65 : Nat) ≤ (65 : Nat) ∧ True ∧ ((64 : Nat) = (64 : Nat) ∧ ∀ (j : Nat), j < (64 : Nat) → a j = a j) ∧ True) ∧ ((1 : Nat) ≤ (1 : Nat) ∧ True ∧ True) ∧ True) ∧ ((v != (0 : Int)) = false → False)) ∧
  (false = false → ((!false) = true → ((v != (-1 : Int)) = true → (∀ (i : Nat), i < (64 : Nat) → a i = (0 : Int)) → False ∧ True ∧ ((65 : Nat) ≤ (65 : Nat) ∧ True ∧ ((64 : Nat) = (64 : Nat) ∧ ∀ (j : Nat), j < (64 : Nat) →
  a j = a j) ∧ True) ∧ ((1 : Nat) ≤ (1 : Nat) ∧ True ∧ True) ∧ True) ∧ ((v != (-1 : Int)) = false → ((v_1 != (0 : Int)) = true → (∀ (i : Nat), i < (64 : Nat) → a i = (0 : Int)) → False ∧ True ∧ ((65 : Nat) ≤ (65 : Nat) ∧
  True ∧ ((64 : Nat) = (64 : Nat) ∧ ∀ (j : Nat), j < (64 : Nat) → a j = a j) ∧ True) ∧ ((1 : Nat) ≤ (1 : Nat) ∧ True ∧ True) ∧ True) ∧ ((v_1 != (0 : Int)) = false → ((!oHas none == decide (v_3 ≥ (0 : Int))) = true → (∀ (i
  : Nat), i < (64 : Nat) → a i = (0 : Int)) → False ∧ True ∧ ((65 : Nat) ≤ (65 : Nat) ∧ True ∧ ((64 : Nat) = (64 : Nat) ∧ ∀ (j : Nat), j < (64 : Nat) → a j = a j) ∧ True) ∧ ((1 : Nat) ≤ (1 : Nat) ∧ True ∧ True) ∧ True) ∧
  ((!oHas none == decide (v_3 ≥ (0 : Int))) = false → (oHas none = true → False) ∧ (oHas none = false → ((!oHas none) = true → ((v_2 != (0 : Int)) = true → (∀ (i : Nat), i < (64 : Nat) → a i = (0 : Int)) → False ∧ True ∧
  ((65 : Nat) ≤ (65 : Nat) ∧ True ∧ ((64 : Nat) = (64 : Nat) ∧ ∀ (j : Nat), j < (64 : Nat) → a j = a j) ∧ True) ∧ ((1 : Nat) ≤ (1 : Nat) ∧ True ∧ True) ∧ True) ∧ ((v_2 != (0 : Int)) = false → (((True ∧ True) ∧ True) ∧ ((65
  : Nat) ≤ (65 : Nat) ∧ True ∧ ((64 : Nat) = (64 : Nat) ∧ ∀ (j : Nat), j < (64 : Nat) → a j = a j) ∧ True) ∧ True) ∧ (((0 : Int) == (↑(0 : Nat) : Int)) = true → (((True ∧ True) ∧ True) ∧ ((65 : Nat) ≤ (65 : Nat) ∧ True ∧
  ((64 : Nat) = (64 : Nat) ∧ ∀ (j : Nat), j < (64 : Nat) → a j = a j) ∧ True) ∧ True) ∧ ((True ∧ (True ∧ True ∧ (0 : Nat) = (0 : Nat) ∧ (0 : Nat) = (0 : Nat) ∧ (0 : Nat) = (0 : Nat)) ∧ True) ∧ ((0 : Nat) ≤ (0 : Nat) ∧ (0 :
  Nat) = (0 : Nat) ∧ ∀ (j : Nat), j < (0 : Nat) → (0 : Int) = (0 : Int)) ∧ True) ∧ ((0 : Nat) = (0 : Nat) → (∀ (i : Nat), i < (64 : Nat) → a i = (0 : Int)) → True ∧ True ∧ ((65 : Nat) ≤ (65 : Nat) ∧ True ∧ ((64 : Nat) =
  (64 : Nat) ∧ ∀ (j : Nat), j < (64 : Nat) → a j = a j) ∧ True) ∧ ((1 : Nat) ≤ (1 : Nat) ∧ True ∧ True) ∧ True) ∧ (¬(0 : Nat) = (0 : Nat) → (∀ (i : Nat), i < (64 : Nat) → a i = (0 : Int)) → False ∧ True ∧ ((65 : Nat) ≤ (65
  : Nat) ∧ True ∧ ((64 : Nat) = (64 : Nat) ∧ ∀ (j : Nat), j < (64 : Nat) → a j = a j) ∧ True) ∧ ((1 : Nat) ≤ (1 : Nat) ∧ True ∧ True) ∧ True)) ∧ (((0 : Int) == (↑(0 : Nat) : Int)) = false → (∀ (i : Nat), i < (64 : Nat) → a
  i = (0 : Int)) → False ∧ True ∧ ((65 : Nat) ≤ (65 : Nat) ∧ True ∧ ((64 : Nat) = (64 : Nat) ∧ ∀ (j : Nat), j < (64 : Nat) → a j = a j) ∧ True) ∧ ((1 : Nat) ≤ (1 : Nat) ∧ True ∧ True) ∧ True))) ∧ ((!oHas none) = false →
  (((True ∧ True) ∧ True) ∧ ((65 : Nat) ≤ (65 : Nat) ∧ True ∧ ((64 : Nat) = (64 : Nat) ∧ ∀ (j : Nat), j < (64 : Nat) → a j = a j) ∧ True) ∧ True) ∧ (((0 : Int) == (↑(0 : Nat) : Int)) = true → (((True ∧ True) ∧ True) ∧ ((65
  : Nat) ≤ (65 : Nat) ∧ True ∧ ((64 : Nat) = (64 : Nat) ∧ ∀ (j : Nat), j < (64 : Nat) → a j = a j) ∧ True) ∧ True) ∧ ((True ∧ (True ∧ True ∧ (0 : Nat) = (0 : Nat) ∧ (0 : Nat) = (0 : Nat) ∧ (0 : Nat) = (0 : Nat)) ∧ True) ∧
  ((0 : Nat) ≤ (0 : Nat) ∧ (0 : Nat) = (0 : Nat) ∧ ∀ (j : Nat), j < (0 : Nat) → (0 : Int) = (0 : Int)) ∧ True) ∧ ((0 : Nat) = (0 : Nat) → (∀ (i : Nat), i < (64 : Nat) → a i = (0 : Int)) → True ∧ True ∧ ((65 : Nat) ≤ (65 :
  Nat) ∧ True ∧ ((64 : Nat) = (64 : Nat) ∧ ∀ (j : Nat), j < (64 : Nat) → a j = a j) ∧ True) ∧ ((1 : Nat) ≤ (1 : Nat) ∧ True ∧ True) ∧ True) ∧ (¬(0 : Nat) = (0 : Nat) → (∀ (i : Nat), i < (64 : Nat) → a i = (0 : Int)) →
  False ∧ True ∧ ((65 : Nat) ≤ (65 : Nat) ∧ True ∧ ((64 : Nat) = (64 : Nat) ∧ ∀ (j : Nat), j < (64 : Nat) → a j = a j) ∧ True) ∧ ((1 : Nat) ≤ (1 : Nat) ∧ True ∧ True) ∧ True)) ∧ (((0 : Int) == (↑(0 : Nat) : Int)) = false →
  (∀ (i : Nat), i < (64 : Nat) → a i = (0 : Int)) → False ∧ True ∧ ((65 : Nat) ≤ (65 : Nat) ∧ True ∧ ((64 : Nat) = (64 : Nat) ∧ ∀ (j : Nat), j < (64 : Nat) → a j = a j) ∧ True) ∧ ((1 : Nat) ≤ (1 : Nat) ∧ True ∧ True) ∧
  True))))))) ∧ ((!false) = false → ((!oHas none == decide (v_3 ≥ (0 : Int))) = true → (∀ (i : Nat), i < (64 : Nat) → a i = (0 : Int)) → False ∧ True ∧ ((65 : Nat) ≤ (65 : Nat) ∧ True ∧ ((64 : Nat) = (64 : Nat) ∧ ∀ (j :
  Nat), j < (64 : Nat) → a j = a j) ∧ True) ∧ ((1 : Nat) ≤ (1 : Nat) ∧ True ∧ True) ∧ True) ∧ ((!oHas none == decide (v_3 ≥ (0 : Int))) = false → (oHas none = true → False) ∧ (oHas none = false → ((!oHas none) = true →
  ((v_2 != (0 : Int)) = true → (∀ (i : Nat), i < (64 : Nat) → a i = (0 : Int)) → False ∧ True ∧ ((65 : Nat) ≤ (65 : Nat) ∧ True ∧ ((64 : Nat) = (64 : Nat) ∧ ∀ (j : Nat), j < (64 : Nat) → a j = a j) ∧ True) ∧ ((1 : Nat) ≤
  (1 : Nat) ∧ True ∧ True) ∧ True) ∧ ((v_2 != (0 : Int)) = false → (((True ∧ True) ∧ True) ∧ ((65 : Nat) ≤ (65 : Nat) ∧ True ∧ ((64 : Nat) = (64 : Nat) ∧ ∀ (j : Nat), j < (64 : Nat) → a j = a j) ∧ True) ∧ True) ∧ (((0 :
  Int) == (↑(0 : Nat) : Int)) = true → (((True ∧ True) ∧ True) ∧ ((65 : Nat) ≤ (65 : Nat) ∧ True ∧ ((64 : Nat) = (64 : Nat) ∧ ∀ (j : Nat), j < (64 : Nat) → a j = a j) ∧ True) ∧ True) ∧ ((True ∧ (True ∧ True ∧ (0 : Nat) =
  (0 : Nat) ∧ (0 : Nat) = (0 : Nat) ∧ (0 : Nat) = (0 : Nat)) ∧ True) ∧ ((0 : Nat) ≤ (0 : Nat) ∧ (0 : Nat) = (0 : Nat) ∧ ∀ (j : Nat), j < (0 : Nat) → (0 : Int) = (0 : Int)) ∧ True) ∧ ((0 : Nat) = (0 : Nat) → (∀ (i : Nat), i
  < (64 : Nat) → a i = (0 : Int)) → True ∧ True ∧ ((65 : Nat) ≤ (65 : Nat) ∧ True ∧ ((64 : Nat) = (64 : Nat) ∧ ∀ (j : Nat), j < (64 : Nat) → a j = a j) ∧ True) ∧ ((1 : Nat) ≤ (1 : Nat) ∧ True ∧ True) ∧ True) ∧ (¬(0 : Nat)
  = (0 : Nat) → (∀ (i : Nat), i < (64 : Nat) → a i = (0 : Int)) → False ∧ True ∧ ((65 : Nat) ≤ (65 : Nat) ∧ True ∧ ((64 : Nat) = (64 : Nat) ∧ ∀ (j : Nat), j < (64 : Nat) → a j = a j) ∧ True) ∧ ((1 : Nat) ≤ (1 : Nat) ∧ True
  ∧ True) ∧ True)) ∧ (((0 : Int) == (↑(0 : Nat) : Int)) = false → (∀ (i : Nat), i < (64 : Nat) → a i = (0 : Int)) → False ∧ True ∧ ((65 : Nat) ≤ (65 : Nat) ∧ True ∧ ((64 : Nat) = (64 : Nat) ∧ ∀ (j : Nat), j < (64 : Nat) →
  a j = a j) ∧ True) ∧ ((1 : Nat) ≤ (1 : Nat) ∧ True ∧ True) ∧ True))) ∧ ((!oHas none) = false → (((True ∧ True) ∧ True) ∧ ((65 : Nat) ≤ (65 : Nat) ∧ True ∧ ((64 : Nat) = (64 : Nat) ∧ ∀ (j : Nat), j < (64 : Nat) → a j = a
  j) ∧ True) ∧ True) ∧ (((0 : Int) == (↑(0 : Nat) : Int)) = true → (((True ∧ True) ∧ True) ∧ ((65 : Nat) ≤ (65 : Nat) ∧ True ∧ ((64 : Nat) = (64 : Nat) ∧ ∀ (j : Nat), j < (64 : Nat) → a j = a j) ∧ True) ∧ True) ∧ ((True ∧
  (True ∧ True ∧ (0 : Nat) = (0 : Nat) ∧ (0 : Nat) = (0 : Nat) ∧ (0 : Nat) = (0 : Nat)) ∧ True) ∧ ((0 : Nat) ≤ (0 : Nat) ∧ (0 : Nat) = (0 : Nat) ∧ ∀ (j : Nat), j < (0 : Nat) → (0 : Int) = (0 : Int)) ∧ True) ∧ ((0 : Nat) =
  (0 : Nat) → (∀ (i : Nat), i < (64 : Nat) → a i = (0 : Int)) → True ∧ True ∧ ((65 : Nat) ≤ (65 : Nat) ∧ True ∧ ((64 : Nat) = (64 : Nat) ∧ ∀ (j : Nat), j < (64 : Nat) → a j = a j) ∧ True) ∧ ((1 : Nat) ≤ (1 : Nat) ∧ True ∧
  True) ∧ True) ∧ (¬(0 : Nat) = (0 : Nat) → (∀ (i : Nat), i < (64 : Nat) → a i = (0 : Int)) → False ∧ True ∧ ((65 : Nat) ≤ (65 : Nat) ∧ True ∧ ((64 : Nat) = (64 : Nat) ∧ ∀ (j : Nat), j < (64 : Nat) → a j = a j) ∧ True) ∧
  ((1 : Nat) ≤ (1 : Nat) ∧ True ∧ True) ∧ True)) ∧ (((0 : Int) == (↑(0 : Nat) : Int)) = false → (∀ (i : Nat), i < (64 : Nat) → a i = (0 : Int)) → False ∧ True ∧ ((65 : Nat) ≤ (65 : Nat) ∧ True ∧ ((64 : Nat) = (64 : Nat) ∧
  ∀ (j : Nat), j < (64 : Nat) → a j = a j) ∧ True) ∧ ((1 : Nat) ≤ (1 : Nat) ∧ True ∧ True) ∧ True)))))))) := by
  simp only [true_and, and_true, eq_self, Nat.le_refl, decide_eq_true_eq, decide_eq_false_iff_not, beq_iff_eq, beq_eq_false_iff_ne, implies_true, true_implies, and_self, bne_iff_ne, Int.not_lt, ge_iff_le, gt_iff_lt, ne_eq, bne_eq_false_iff_eq, Bool.not_eq_true', Bool.not_eq_false']
  intro a n ha v hv
  exact ⟨⟨true, hv⟩, fun _ => ⟨fun h => by omega, fun _ v0 e0 v1 e1 => ⟨ha, fun v2 e2 v3 e3 => ⟨fun h => absurd rfl h, fun _ => ⟨fun h => (by cases h), ⟨⟨fun h => absurd e0 h, fun _ => ⟨fun h => absurd e1 h, fun _ => ⟨fun h => absurd (by rw [e3]; rfl) h, fun _ => ⟨fun h => (by cases h), fun _ => ⟨fun _ => ⟨fun h => absurd e2 h, fun _ => ⟨fun _ h => absurd trivial h, fun h => absurd rfl h⟩⟩, fun h => (by cases h)⟩⟩⟩⟩⟩, fun h => (by cases h)⟩⟩⟩⟩⟩⟩

def smN_C (x : ((Nat → Int) × Int)) : Cfg := { Γ := Go.Sx.look tSm, names := true, loops := onlyAt 3 [smFN (x.1) (x.2)] }
theorem smN_al (x : ((Nat → Int) × Int)) : Shown (smNP.vc Try.prog (smN_C x) Try.f19 x) := ⟨@Eq.mp _ _ (by kernel_rfl) (smN_vc (x.1) (x.2))⟩
theorem smN_ok : SpOk Try.prog 19 smNP.sp := @Pat.okS _ smNP Try.prog smN_C 19 Try.f19 (fun x => cfg_tab rfl tSm_ok) (by kernel_rfl) Try.func19 (fun _ => rfl) smN_al
theorem smA_ok : SpOk Try.prog 19 (altH nilMe (smNP.sp) (smP.sp)) := altH_ok smN_ok sm1_ok

end Go.Proofs.Ytnicidiocncjdaa
