import Derived.Test.YtnicidiocncjdaaH10
open Go Go.Sx Go.Proofs
set_option maxRecDepth 100000
namespace Go.Proofs.Ytnicidiocncjdaa
open Go.RowKit Go.Sort

/-- A row of keys of the caller's. -/
structure KS where
  nil : Bool
  len : Nat
  cap : Nat
  f : Nat → Int
def ro (e n sz : Nat) (f : Nat → T) : Reg := { own := false, pl := true, fam := 1, el := e, tot := fun _ => n * sz, c := fun _ => .arr n sz f }
def KS.v (x : KS) (r : Nat) : T := .ite x.nil .nils (.slice r 0 [] 0 1 x.len x.cap)
def KS.reg (x : KS) : Reg := ro 28 x.len 1 (fun j => .int .u64 (x.f j))
def KS.Ok (x : KS) : Prop := (x.nil = true → x.len = 0) ∧ ∀ j, j < x.len → 0 ≤ x.f j ∧ x.f j < 18446744073709551616
def heapSP : Pat KS where
  view _ _ := none
  args x := [x.v 0]
  H x := [x.reg]
  out x := .need x.Ok (.retq .tt)
structure SA where
  h : HP
  i : Nat
def SA.I (x : KS) (z : SA) : Prop := (1 ≤ z.i ∧ z.i ≤ x.len ∧ x.len ≤ 64) ∧ z.h.Full ∧ z.h.n = z.i ∧ ∀ j : Int, z.h.M j = if 0 ≤ j ∧ j < (z.i : Nat) then some (x.f j.toNat) else none
def sF0 (x : KS) : Fam where
  α := Bool
  I _ := x.len ≤ 64
  st _ := { sl := mkSl 113 [(0, x.v 0), (3, p0 1), (4, .int .i64 0)], H := [x.reg, nilReg a0] }
  μ _ := x.len + 1
def sF1 (x : KS) : Fam where
  α := SA
  I z := z.I x
  st z := { sl := mkSl 113 [(0, x.v 0), (3, p0 1), (4, .int .i64 (z.i : Nat))], H := [x.reg, z.h.me 2, z.h.row] }
  μ z := x.len - z.i
structure SB where
  h : HP
  i : Nat
  last : Int
  bef : Int
  s : Nat → Bool
structure SB.I (x : KS) (z : SB) : Prop where
  i : z.i ≤ x.len ∧ x.len ≤ 64
  f : z.h.Full
  n : z.h.n = x.len - z.i
  M : ∀ j : Int, z.h.M j = if (0 ≤ j ∧ j < (x.len : Nat)) ∧ z.s j.toNat = false then some (x.f j.toNat) else none
  o : ∀ j q, z.h.M j = some q → 0 < z.i → ltI (z.bef, z.last) (j, q)
  z : z.i = 0 → z.last = 0 ∧ z.bef = -1
theorem SB.I.head {x : KS} {z : SB} (h : z.I x) (hi : z.i < x.len) : ((0 ≤ z.h.id 0 ∧ z.h.id 0 < (x.len : Nat)) ∧ z.s (z.h.id 0).toNat = false) ∧ x.f (z.h.id 0).toNat = z.h.key 0 := by
  have hn := h.n
  have e := h.f.c.M_some (k := 0) (by omega)
  rw [h.M] at e
  by_cases hc : (0 ≤ z.h.id 0 ∧ z.h.id 0 < (x.len : Nat)) ∧ z.s (z.h.id 0).toNat = false
  · rw [if_pos hc] at e
    exact ⟨hc, Option.some.inj e⟩
  · rw [if_neg hc] at e
    cases e
theorem SB.I.next {x : KS} {z : SB} (h : z.I x) (hi : z.i < x.len) {g : HP} (gf : g.Full) (gn : g.n = z.h.n - 1) (gM : ∀ j, g.M j = if j = z.h.id 0 then none else z.h.M j) :
    SB.I x ⟨g, z.i + 1, z.h.key 0, z.h.id 0, fun j => if j = (z.h.id 0).toNat then true else z.s j⟩ := by
  obtain ⟨⟨hr, hs⟩, hf⟩ := h.head hi
  have hn := h.n
  refine ⟨⟨(by show z.i + 1 ≤ x.len; omega), h.i.2⟩, gf, (by show g.n = x.len - (z.i + 1); omega), fun j => ?_, fun j q hm _ => ?_, fun h0 => by have h0 : z.i + 1 = 0 := h0; omega⟩
  · show g.M j = if _ ∧ (if j.toNat = (z.h.id 0).toNat then true else z.s j.toNat) = false then _ else _
    rw [gM, h.M]
    by_cases e : j = z.h.id 0
    · rw [if_pos e, e, if_neg (by simp)]
    · rw [if_neg e]
      by_cases hj : 0 ≤ j ∧ j < (x.len : Nat)
      · have hn2 : ¬ j.toNat = (z.h.id 0).toNat := by omega
        by_cases hz : z.s j.toNat = false
        · rw [if_pos ⟨hj, hz⟩, if_pos ⟨hj, (if_neg hn2).trans hz⟩]
        · rw [if_neg (fun h => hz h.2), if_neg (fun h => hz ((if_neg hn2).symm.trans h.2))]
      · rw [if_neg (fun h => hj h.1), if_neg (fun h => hj h.1)]
  · have hm : g.M j = some q := hm
    rw [gM] at hm
    by_cases e : j = z.h.id 0
    · rw [if_pos e] at hm; cases hm
    · rw [if_neg e] at hm
      obtain ⟨k, k1, k2, k3⟩ := h.f.c.M_ex hm
      have hl := h.f.first k k1
      refine Decidable.byContradiction fun hn2 => e ?_
      have : z.h.f k = (j, q) := by unfold HP.f; rw [k2, k3]
      unfold HP.le at hl
      rw [this] at hl
      exact (congrArg Prod.fst (ltI_total hn2 hl)).symm
def sG0 (x : KS) : Fam where
  α := Bool
  I _ := x.len = 0
  st _ := { sl := mkSl 113 [(0, x.v 0), (3, p0 1), (5, .slice 2 0 [] 0 1 0 0), (6, .int .u64 0), (7, .int .i64 (-1)), (8, .int .i64 0)], H := [x.reg, nilReg a0, rowReg 4 0 1 0 (fun _ => .ff)] }
  μ _ := 0
def sG1 (x : KS) : Fam where
  α := SB
  I z := z.I x
  st z := { sl := mkSl 113 [(0, x.v 0), (3, p0 1), (5, .slice 3 0 [] 0 1 x.len x.len), (6, .int .u64 z.last), (7, .int .i64 z.bef), (8, .int .i64 (z.i : Nat))], H := [x.reg, z.h.me 2, z.h.row, rowReg 4 x.len 1 x.len (fun j => .bool (z.s j))] }
  μ z := x.len - z.i
def sC0 (x : KS) : Fam where
  α := Bool
  I _ := x.len = 0
  st _ := { sl := mkSl 113 [(0, x.v 0), (3, p0 1)], H := [x.reg, nilReg a0] }
  μ _ := 0
def sC1 (x : KS) : Fam where
  α := SA
  I z := z.i = x.len ∧ z.I x
  st z := { sl := mkSl 113 [(0, x.v 0), (3, p0 1)], H := [x.reg, z.h.me 2, z.h.row] }
  μ _ := 0
def sP (x : KS) (u : SB) : Fam where
  α := HP
  I g := u.I x ∧ u.i < x.len ∧ g.Full ∧ g.n = u.h.n - 1 ∧ ∀ j, g.M j = if j = u.h.id 0 then none else u.h.M j
  st g := { sl := mkSl 113 [(0, x.v 0), (3, p0 1), (5, .slice 3 0 [] 0 1 x.len x.len), (8, .int .i64 (u.i : Nat)), (9, .int .i64 (u.h.id 0)), (10, .int .u64 (u.h.key 0))], H := [x.reg, g.me 2, g.row, rowReg 4 x.len 1 x.len (fun j => .bool (u.s j))] }
  μ _ := 0
def hsK (x : KS) : Nat → Gam
  | 11 => .l [sC0 x, sC1 x]
  | 20 => .g fun u => [sP x u]
  | _ => .l []
def hsL (x : KS) : Nat → Gam
  | 7 => .l [sF0 x, sF1 x]
  | 15 => .l [sG0 x, sG1 x]
  | _ => .l []
def tHs : Tab := [(7, aliveP.sp), (8, newP.sp), (9, altH nilMe (pushNP.sp) (pushP.sp)), (10, altH nilMe (popNP.sp) (popP.sp)), (11, altH nilMe (lenNP.sp) (lenP.sp))]
theorem tHs_ok : TabOk Try.prog tHs := (tab_cons alive_ok (tab_cons new_ok (tab_cons pushA_ok (tab_cons popA_ok (tab_cons lenA_ok tab_nil)))))

theorem hs_vc : ∀ (x : KS), x.Ok ∧ True → (True ∧ True) ∧ (x.nil = true → x.len = (0 : Nat)) ∧ (decide ((↑x.len : Int) > (64 : Int)) = true → x.Ok → True ∧ True ∧ (x.len * (1 : Nat) ≤ x.len * (1 : Nat) ∧ x.len = x.len ∧ ∀ (j : Nat), j <
  x.len → x.f j = x.f j) ∧ True) ∧ (decide ((↑x.len : Int) > (64 : Int)) = false → (True ∧ True) ∧ (∀ (v : Int), v = (0 : Int) → ((∃ (y : Bool), (sF0 x).I y ∧ ((((x.nil = true → x.nil = true) ∧ (x.nil = false → x.nil =
  false ∧ True ∧ True ∧ (0 : Nat) = (0 : Nat) ∧ x.len = x.len ∧ x.cap = x.cap)) ∧ (True ∧ True) ∧ v = (0 : Int) ∧ True) ∧ (x.len * (1 : Nat) ≤ x.len * (1 : Nat) ∧ x.len = x.len ∧ ∀ (j : Nat), j < x.len → x.f j = x.f j) ∧
  ((65 : Nat) ≤ (65 : Nat) ∧ True ∧ ((64 : Nat) = (64 : Nat) ∧ ∀ (j : Nat), j < (64 : Nat) → a0 j = a0 j) ∧ True) ∧ True) ∧ True) ∨ ∃ (y : SA), (((1 : Nat) ≤ y.i ∧ y.i ≤ x.len ∧ x.len ≤ (64 : Nat)) ∧ y.h.Full ∧ y.h.n = y.i
  ∧ ∀ (j : Int), y.h.M j = if (0 : Int) ≤ j ∧ j < (↑y.i : Int) then some (x.f j.toNat) else none) ∧ False ∧ True) ∧ (∀ (y : Bool), (sF0 x).I y → (x.nil = true → x.len = (0 : Nat)) ∧ (decide ((0 : Int) < (↑x.len : Int)) =
  true → (x.nil = true → x.len = (0 : Nat)) ∧ ((0 : Int) ≤ (0 : Int) ∧ (0 : Int) < (↑x.len : Int)) ∧ (0 : Nat) < x.len ∧ (((True ∧ True) ∧ (0 : Int) = (0 : Int) ∧ x.f (0 : Nat) = x.f (0 : Nat) ∧ True) ∧ ((65 : Nat) ≤ (65 :
  Nat) ∧ True ∧ ((64 : Nat) = (64 : Nat) ∧ ∀ (j : Nat), j < (64 : Nat) → a0 j = a0 j) ∧ True) ∧ True) ∧ ((∀ (i : Nat), i < (64 : Nat) → a0 i = (0 : Int)) ∧ (0 : Int) ≤ x.f (0 : Nat) ∧ x.f (0 : Nat) < (18446744073709551616
  : Int)) ∧ (¬((0 : Int) ≤ (0 : Int) ∧ (0 : Int) < (64 : Int)) → (((11 : Int) != (0 : Int)) = true → x.Ok → False ∧ True ∧ (x.len * (1 : Nat) ≤ x.len * (1 : Nat) ∧ x.len = x.len ∧ ∀ (j : Nat), j < x.len → x.f j = x.f j) ∧
  True) ∧ (((11 : Int) != (0 : Int)) = false → ∀ (v : Int), v = IntKind.i64.wrap ((0 : Int) + (1 : Int)) → (∃ (y_1 : Bool), (sF0 x).I y_1 ∧ ((((x.nil = true → x.nil = true) ∧ (x.nil = false → x.nil = false ∧ True ∧ True ∧
  (0 : Nat) = (0 : Nat) ∧ x.len = x.len ∧ x.cap = x.cap)) ∧ (True ∧ True) ∧ v = (0 : Int) ∧ True) ∧ (x.len * (1 : Nat) ≤ x.len * (1 : Nat) ∧ x.len = x.len ∧ ∀ (j : Nat), j < x.len → x.f j = x.f j) ∧ ((65 : Nat) ≤ (65 :
  Nat) ∧ True ∧ ((64 : Nat) = (64 : Nat) ∧ ∀ (j : Nat), j < (64 : Nat) → a0 j = a0 j) ∧ True) ∧ True) ∧ (sF0 x).μ y_1 < (sF0 x).μ y) ∨ ∃ (y_1 : SA), (((1 : Nat) ≤ y_1.i ∧ y_1.i ≤ x.len ∧ x.len ≤ (64 : Nat)) ∧ y_1.h.Full ∧
  y_1.h.n = y_1.i ∧ ∀ (j : Int), y_1.h.M j = if (0 : Int) ≤ j ∧ j < (↑y_1.i : Int) then some (x.f j.toNat) else none) ∧ False ∧ (sF1 x).μ y_1 < (sF0 x).μ y)) ∧ (¬¬((0 : Int) ≤ (0 : Int) ∧ (0 : Int) < (64 : Int)) → ∀ (x_1 :
  HP), (x_1.Full ∧ x_1.n = (1 : Nat) ∧ ∀ (i : Int), x_1.M i = if i = (0 : Int) then some (x.f (0 : Nat)) else none) → (((0 : Int) != (0 : Int)) = true → x.Ok → False ∧ True ∧ (x.len * (1 : Nat) ≤ x.len * (1 : Nat) ∧ x.len
  = x.len ∧ ∀ (j : Nat), j < x.len → x.f j = x.f j) ∧ True) ∧ (((0 : Int) != (0 : Int)) = false → ∀ (v : Int), v = IntKind.i64.wrap ((0 : Int) + (1 : Int)) → (∃ (y_1 : Bool), (sF0 x).I y_1 ∧ ((((x.nil = true → x.nil =
  true) ∧ (x.nil = false → x.nil = false ∧ True ∧ True ∧ (0 : Nat) = (0 : Nat) ∧ x.len = x.len ∧ x.cap = x.cap)) ∧ (True ∧ True) ∧ v = (0 : Int) ∧ True) ∧ (x.len * (1 : Nat) ≤ x.len * (1 : Nat) ∧ x.len = x.len ∧ ∀ (j :
  Nat), j < x.len → x.f j = x.f j) ∧ ((65 : Nat) ≤ (65 : Nat) ∧ False ∧ ((64 : Nat) = (64 : Nat) ∧ ∀ (j : Nat), j < (64 : Nat) → x_1.at_ j = a0 j) ∧ True) ∧ True) ∧ (sF0 x).μ y_1 < (sF0 x).μ y) ∨ ∃ (y_1 : SA), (((1 : Nat)
  ≤ y_1.i ∧ y_1.i ≤ x.len ∧ x.len ≤ (64 : Nat)) ∧ y_1.h.Full ∧ y_1.h.n = y_1.i ∧ ∀ (j : Int), y_1.h.M j = if (0 : Int) ≤ j ∧ j < (↑y_1.i : Int) then some (x.f j.toNat) else none) ∧ ((((x.nil = true → x.nil = true) ∧ (x.nil
  = false → x.nil = false ∧ True ∧ True ∧ (0 : Nat) = (0 : Nat) ∧ x.len = x.len ∧ x.cap = x.cap)) ∧ (True ∧ True) ∧ v = (↑y_1.i : Int) ∧ True) ∧ (x.len * (1 : Nat) ≤ x.len * (1 : Nat) ∧ x.len = x.len ∧ ∀ (j : Nat), j <
  x.len → x.f j = x.f j) ∧ ((65 : Nat) ≤ (65 : Nat) ∧ (True ∧ True ∧ (0 : Nat) = (0 : Nat) ∧ x_1.n = y_1.h.n ∧ x_1.cap = y_1.h.cap) ∧ ((64 : Nat) = (64 : Nat) ∧ ∀ (j : Nat), j < (64 : Nat) → x_1.at_ j = y_1.h.at_ j) ∧
  True) ∧ (y_1.h.cap * (2 : Nat) ≤ x_1.cap * (2 : Nat) ∧ y_1.h.n ≤ x_1.n ∧ ∀ (j : Nat), j < y_1.h.n → x_1.id j = y_1.h.id j ∧ x_1.key j = y_1.h.key j ∧ True) ∧ True) ∧ (sF1 x).μ y_1 < (sF0 x).μ y))) ∧ (decide ((0 : Int) <
  (↑x.len : Int)) = false → (∃ (_ : Bool), x.len = (0 : Nat) ∧ ((((x.nil = true → x.nil = true) ∧ (x.nil = false → x.nil = false ∧ True ∧ True ∧ (0 : Nat) = (0 : Nat) ∧ x.len = x.len ∧ x.cap = x.cap)) ∧ (True ∧ True) ∧
  True) ∧ (x.len * (1 : Nat) ≤ x.len * (1 : Nat) ∧ x.len = x.len ∧ ∀ (j : Nat), j < x.len → x.f j = x.f j) ∧ ((65 : Nat) ≤ (65 : Nat) ∧ True ∧ ((64 : Nat) = (64 : Nat) ∧ ∀ (j : Nat), j < (64 : Nat) → a0 j = a0 j) ∧ True) ∧
  True) ∧ True) ∨ ∃ (y : SA), (y.i = x.len ∧ SA.I x y) ∧ False ∧ True)) ∧ ∀ (y : SA), (((1 : Nat) ≤ y.i ∧ y.i ≤ x.len ∧ x.len ≤ (64 : Nat)) ∧ y.h.Full ∧ y.h.n = y.i ∧ ∀ (j : Int), y.h.M j = if (0 : Int) ≤ j ∧ j < (↑y.i :
  Int) then some (x.f j.toNat) else none) → (x.nil = true → x.len = (0 : Nat)) ∧ (decide ((↑y.i : Int) < (↑x.len : Int)) = true → (x.nil = true → x.len = (0 : Nat)) ∧ ((0 : Int) ≤ (↑y.i : Int) ∧ (↑y.i : Int) < (↑x.len :
  Int)) ∧ (0 : Nat) + (↑y.i : Int).toNat < x.len ∧ (((True ∧ True) ∧ (↑y.i : Int) = (↑y.i : Int) ∧ x.f ((0 : Nat) + (↑y.i : Int).toNat) = x.f ((0 : Nat) + (↑y.i : Int).toNat) ∧ True) ∧ ((65 : Nat) ≤ (65 : Nat) ∧ (True ∧
  True ∧ (0 : Nat) = (0 : Nat) ∧ y.h.n = y.h.n ∧ y.h.cap = y.h.cap) ∧ ((64 : Nat) = (64 : Nat) ∧ ∀ (j : Nat), j < (64 : Nat) → y.h.at_ j = y.h.at_ j) ∧ True) ∧ (y.h.cap * (2 : Nat) ≤ y.h.cap * (2 : Nat) ∧ y.h.n = y.h.n ∧ ∀
  (j : Nat), j < y.h.n → y.h.id j = y.h.id j ∧ y.h.key j = y.h.key j ∧ True) ∧ True) ∧ (((HP.mk y.h.n y.h.cap (fun (j : Nat) => y.h.id j) (fun (j : Nat) => y.h.key j) y.h.at_).Full ∧ y.h.n ≤ (10000 : Nat)) ∧ (0 : Int) ≤
  x.f ((0 : Nat) + (↑y.i : Int).toNat) ∧ x.f ((0 : Nat) + (↑y.i : Int).toNat) < (18446744073709551616 : Int)) ∧ (¬((0 : Int) ≤ (↑y.i : Int) ∧ (↑y.i : Int) < (64 : Int)) → (((11 : Int) != (0 : Int)) = true → x.Ok → False ∧
  True ∧ (x.len * (1 : Nat) ≤ x.len * (1 : Nat) ∧ x.len = x.len ∧ ∀ (j : Nat), j < x.len → x.f j = x.f j) ∧ True) ∧ (((11 : Int) != (0 : Int)) = false → ∀ (v : Int), v = IntKind.i64.wrap ((↑y.i : Int) + (1 : Int)) → (∃
  (y_1 : Bool), (sF0 x).I y_1 ∧ ((((x.nil = true → x.nil = true) ∧ (x.nil = false → x.nil = false ∧ True ∧ True ∧ (0 : Nat) = (0 : Nat) ∧ x.len = x.len ∧ x.cap = x.cap)) ∧ (True ∧ True) ∧ v = (0 : Int) ∧ True) ∧ (x.len *
  (1 : Nat) ≤ x.len * (1 : Nat) ∧ x.len = x.len ∧ ∀ (j : Nat), j < x.len → x.f j = x.f j) ∧ ((65 : Nat) ≤ (65 : Nat) ∧ False ∧ ((64 : Nat) = (64 : Nat) ∧ ∀ (j : Nat), j < (64 : Nat) → y.h.at_ j = a0 j) ∧ True) ∧ True) ∧
  (sF0 x).μ y_1 < (sF1 x).μ y) ∨ ∃ (y_1 : SA), (((1 : Nat) ≤ y_1.i ∧ y_1.i ≤ x.len ∧ x.len ≤ (64 : Nat)) ∧ y_1.h.Full ∧ y_1.h.n = y_1.i ∧ ∀ (j : Int), y_1.h.M j = if (0 : Int) ≤ j ∧ j < (↑y_1.i : Int) then some (x.f
  j.toNat) else none) ∧ ((((x.nil = true → x.nil = true) ∧ (x.nil = false → x.nil = false ∧ True ∧ True ∧ (0 : Nat) = (0 : Nat) ∧ x.len = x.len ∧ x.cap = x.cap)) ∧ (True ∧ True) ∧ v = (↑y_1.i : Int) ∧ True) ∧ (x.len * (1 :
  Nat) ≤ x.len * (1 : Nat) ∧ x.len = x.len ∧ ∀ (j : Nat), j < x.len → x.f j = x.f j) ∧ ((65 : Nat) ≤ (65 : Nat) ∧ (True ∧ True ∧ (0 : Nat) = (0 : Nat) ∧ y.h.n = y_1.h.n ∧ y.h.cap = y_1.h.cap) ∧ ((64 : Nat) = (64 : Nat) ∧ ∀
  (j : Nat), j < (64 : Nat) → y.h.at_ j = y_1.h.at_ j) ∧ True) ∧ (y_1.h.cap * (2 : Nat) ≤ y.h.cap * (2 : Nat) ∧ y_1.h.n ≤ y.h.n ∧ ∀ (j : Nat), j < y_1.h.n → y.h.id j = y_1.h.id j ∧ y.h.key j = y_1.h.key j ∧ True) ∧ True) ∧
  (sF1 x).μ y_1 < (sF1 x).μ y)) ∧ (¬¬((0 : Int) ≤ (↑y.i : Int) ∧ (↑y.i : Int) < (64 : Int)) → ((HP.mk y.h.n y.h.cap (fun (j : Nat) => y.h.id j) (fun (j : Nat) => y.h.key j) y.h.at_).M (↑y.i : Int) ≠ none → (((13 : Int) !=
  (0 : Int)) = true → x.Ok → False ∧ True ∧ (x.len * (1 : Nat) ≤ x.len * (1 : Nat) ∧ x.len = x.len ∧ ∀ (j : Nat), j < x.len → x.f j = x.f j) ∧ True) ∧ (((13 : Int) != (0 : Int)) = false → ∀ (v : Int), v = IntKind.i64.wrap
  ((↑y.i : Int) + (1 : Int)) → (∃ (y_1 : Bool), (sF0 x).I y_1 ∧ ((((x.nil = true → x.nil = true) ∧ (x.nil = false → x.nil = false ∧ True ∧ True ∧ (0 : Nat) = (0 : Nat) ∧ x.len = x.len ∧ x.cap = x.cap)) ∧ (True ∧ True) ∧ v
  = (0 : Int) ∧ True) ∧ (x.len * (1 : Nat) ≤ x.len * (1 : Nat) ∧ x.len = x.len ∧ ∀ (j : Nat), j < x.len → x.f j = x.f j) ∧ ((65 : Nat) ≤ (65 : Nat) ∧ False ∧ ((64 : Nat) = (64 : Nat) ∧ ∀ (j : Nat), j < (64 : Nat) → y.h.at_
  j = a0 j) ∧ True) ∧ True) ∧ (sF0 x).μ y_1 < (sF1 x).μ y) ∨ ∃ (y_1 : SA), (((1 : Nat) ≤ y_1.i ∧ y_1.i ≤ x.len ∧ x.len ≤ (64 : Nat)) ∧ y_1.h.Full ∧ y_1.h.n = y_1.i ∧ ∀ (j : Int), y_1.h.M j = if (0 : Int) ≤ j ∧ j < (↑y_1.i
  : Int) then some (x.f j.toNat) else none) ∧ ((((x.nil = true → x.nil = true) ∧ (x.nil = false → x.nil = false ∧ True ∧ True ∧ (0 : Nat) = (0 : Nat) ∧ x.len = x.len ∧ x.cap = x.cap)) ∧ (True ∧ True) ∧ v = (↑y_1.i : Int) ∧
  True) ∧ (x.len * (1 : Nat) ≤ x.len * (1 : Nat) ∧ x.len = x.len ∧ ∀ (j : Nat), j < x.len → x.f j = x.f j) ∧ ((65 : Nat) ≤ (65 : Nat) ∧ (True ∧ True ∧ (0 : Nat) = (0 : Nat) ∧ y.h.n = y_1.h.n ∧ y.h.cap = y_1.h.cap) ∧ ((64 :
  Nat) = (64 : Nat) ∧ ∀ (j : Nat), j < (64 : Nat) → y.h.at_ j = y_1.h.at_ j) ∧ True) ∧ (y_1.h.cap * (2 : Nat) ≤ y.h.cap * (2 : Nat) ∧ y_1.h.n ≤ y.h.n ∧ ∀ (j : Nat), j < y_1.h.n → y.h.id j = y_1.h.id j ∧ y.h.key j =
  y_1.h.key j ∧ True) ∧ True) ∧ (sF1 x).μ y_1 < (sF1 x).μ y)) ∧ (¬(HP.mk y.h.n y.h.cap (fun (j : Nat) => y.h.id j) (fun (j : Nat) => y.h.key j) y.h.at_).M (↑y.i : Int) ≠ none → ∀ (x_1 : HP), (x_1.Full ∧ x_1.n = y.h.n + (1
  : Nat) ∧ ∀ (i : Int), x_1.M i = if i = (↑y.i : Int) then some (x.f ((0 : Nat) + (↑y.i : Int).toNat)) else (HP.mk y.h.n y.h.cap (fun (j : Nat) => y.h.id j) (fun (j : Nat) => y.h.key j) y.h.at_).M i) → (((0 : Int) != (0 :
  Int)) = true → x.Ok → False ∧ True ∧ (x.len * (1 : Nat) ≤ x.len * (1 : Nat) ∧ x.len = x.len ∧ ∀ (j : Nat), j < x.len → x.f j = x.f j) ∧ True) ∧ (((0 : Int) != (0 : Int)) = false → ∀ (v : Int), v = IntKind.i64.wrap ((↑y.i
  : Int) + (1 : Int)) → (∃ (y_1 : Bool), (sF0 x).I y_1 ∧ ((((x.nil = true → x.nil = true) ∧ (x.nil = false → x.nil = false ∧ True ∧ True ∧ (0 : Nat) = (0 : Nat) ∧ x.len = x.len ∧ x.cap = x.cap)) ∧ (True ∧ True) ∧ v = (0 :
  Int) ∧ True) ∧ (x.len * (1 : Nat) ≤ x.len * (1 : Nat) ∧ x.len = x.len ∧ ∀ (j : Nat), j < x.len → x.f j = x.f j) ∧ ((65 : Nat) ≤ (65 : Nat) ∧ False ∧ ((64 : Nat) = (64 : Nat) ∧ ∀ (j : Nat), j < (64 : Nat) → x_1.at_ j = a0
  j) ∧ True) ∧ True) ∧ (sF0 x).μ y_1 < (sF1 x).μ y) ∨ ∃ (y_1 : SA), (((1 : Nat) ≤ y_1.i ∧ y_1.i ≤ x.len ∧ x.len ≤ (64 : Nat)) ∧ y_1.h.Full ∧ y_1.h.n = y_1.i ∧ ∀ (j : Int), y_1.h.M j = if (0 : Int) ≤ j ∧ j < (↑y_1.i : Int)
  then some (x.f j.toNat) else none) ∧ ((((x.nil = true → x.nil = true) ∧ (x.nil = false → x.nil = false ∧ True ∧ True ∧ (0 : Nat) = (0 : Nat) ∧ x.len = x.len ∧ x.cap = x.cap)) ∧ (True ∧ True) ∧ v = (↑y_1.i : Int) ∧ True)
  ∧ (x.len * (1 : Nat) ≤ x.len * (1 : Nat) ∧ x.len = x.len ∧ ∀ (j : Nat), j < x.len → x.f j = x.f j) ∧ ((65 : Nat) ≤ (65 : Nat) ∧ (True ∧ True ∧ (0 : Nat) = (0 : Nat) ∧ x_1.n = y_1.h.n ∧ x_1.cap = y_1.h.cap) ∧ ((64 : Nat)
  = (64 : Nat) ∧ ∀ (j : Nat), j < (64 : Nat) → x_1.at_ j = y_1.h.at_ j) ∧ True) ∧ (y_1.h.cap * (2 : Nat) ≤ x_1.cap * (2 : Nat) ∧ y_1.h.n ≤ x_1.n ∧ ∀ (j : Nat), j < y_1.h.n → x_1.id j = y_1.h.id j ∧ x_1.key j = y_1.h.key j
  ∧ True) ∧ True) ∧ (sF1 x).μ y_1 < (sF1 x).μ y)))) ∧ (decide ((↑y.i : Int) < (↑x.len : Int)) = false → (∃ (_ : Bool), x.len = (0 : Nat) ∧ ((((x.nil = true → x.nil = true) ∧ (x.nil = false → x.nil = false ∧ True ∧ True ∧
  (0 : Nat) = (0 : Nat) ∧ x.len = x.len ∧ x.cap = x.cap)) ∧ (True ∧ True) ∧ True) ∧ (x.len * (1 : Nat) ≤ x.len * (1 : Nat) ∧ x.len = x.len ∧ ∀ (j : Nat), j < x.len → x.f j = x.f j) ∧ ((65 : Nat) ≤ (65 : Nat) ∧ False ∧ ((64
  : Nat) = (64 : Nat) ∧ ∀ (j : Nat), j < (64 : Nat) → y.h.at_ j = a0 j) ∧ True) ∧ True) ∧ True) ∨ ∃ (y_1 : SA), (y_1.i = x.len ∧ SA.I x y_1) ∧ ((((x.nil = true → x.nil = true) ∧ (x.nil = false → x.nil = false ∧ True ∧ True
  ∧ (0 : Nat) = (0 : Nat) ∧ x.len = x.len ∧ x.cap = x.cap)) ∧ (True ∧ True) ∧ True) ∧ (x.len * (1 : Nat) ≤ x.len * (1 : Nat) ∧ x.len = x.len ∧ ∀ (j : Nat), j < x.len → x.f j = x.f j) ∧ ((65 : Nat) ≤ (65 : Nat) ∧ (True ∧
  True ∧ (0 : Nat) = (0 : Nat) ∧ y.h.n = y_1.h.n ∧ y.h.cap = y_1.h.cap) ∧ ((64 : Nat) = (64 : Nat) ∧ ∀ (j : Nat), j < (64 : Nat) → y.h.at_ j = y_1.h.at_ j) ∧ True) ∧ (y_1.h.cap * (2 : Nat) ≤ y.h.cap * (2 : Nat) ∧ y_1.h.n ≤
  y.h.n ∧ ∀ (j : Nat), j < y_1.h.n → y.h.id j = y_1.h.id j ∧ y.h.key j = y_1.h.key j ∧ True) ∧ True) ∧ True)) ∧ (∀ (_ : Bool), x.len = (0 : Nat) → (x.nil = true → x.len = (0 : Nat)) ∧ ((0 : Int) ≤ (↑x.len : Int) ∧ (↑x.len
  : Int) ≤ (↑x.len : Int) ∧ (↑x.len : Int) ≤ (9223372036854775807 : Int) ∧ (↑(1 : Nat) : Int) * (↑x.len : Int) ≤ (281474976710656 : Int)) ∧ ∀ (v : Int), v = (0 : Int) → ∀ (v_1 : Int), v_1 = (-1 : Int) → ∀ (v_2 : Int), v_2
  = (0 : Int) → ((∃ (_ : Bool), x.len = (0 : Nat) ∧ ((((x.nil = true → x.nil = true) ∧ (x.nil = false → x.nil = false ∧ True ∧ True ∧ (0 : Nat) = (0 : Nat) ∧ x.len = x.len ∧ x.cap = x.cap)) ∧ (True ∧ True) ∧ (True ∧ True ∧
  (0 : Nat) = (0 : Nat) ∧ (↑x.len : Int).toNat = (0 : Nat) ∧ (↑x.len : Int).toNat = (0 : Nat)) ∧ v = (0 : Int) ∧ v_1 = (-1 : Int) ∧ v_2 = (0 : Int) ∧ True) ∧ (x.len * (1 : Nat) ≤ x.len * (1 : Nat) ∧ x.len = x.len ∧ ∀ (j :
  Nat), j < x.len → x.f j = x.f j) ∧ ((65 : Nat) ≤ (65 : Nat) ∧ True ∧ ((64 : Nat) = (64 : Nat) ∧ ∀ (j : Nat), j < (64 : Nat) → a0 j = a0 j) ∧ True) ∧ ((0 : Nat) ≤ (↑x.len : Int).toNat * (1 : Nat) ∧ (0 : Nat) = (↑x.len :
  Int).toNat ∧ ∀ (j : Nat), j < (↑x.len : Int).toNat → True) ∧ True) ∧ True) ∨ ∃ (y : SB), (sG1 x).I y ∧ False ∧ True) ∧ (∀ (y : Bool), x.len = (0 : Nat) → (x.nil = true → x.len = (0 : Nat)) ∧ (decide ((0 : Int) < (↑x.len
  : Int)) = true → (((True ∧ True) ∧ True) ∧ ((65 : Nat) ≤ (65 : Nat) ∧ True ∧ ((64 : Nat) = (64 : Nat) ∧ ∀ (j : Nat), j < (64 : Nat) → a0 j = a0 j) ∧ True) ∧ True) ∧ (∀ (i : Nat), i < (64 : Nat) → a0 i = (0 : Int)) ∧ ∀ (v
  : Int), v = (-1 : Int) → ∀ (v_3 : Int), v_3 = (0 : Int) → ∃ (g : SB), (((!false) = true → x.Ok → False ∧ True ∧ (x.len * (1 : Nat) ≤ x.len * (1 : Nat) ∧ x.len = x.len ∧ ∀ (j : Nat), j < x.len → x.f j = x.f j) ∧ True) ∧
  ((!false) = false → (decide (v < (0 : Int)) = true → x.Ok → False ∧ True ∧ (x.len * (1 : Nat) ≤ x.len * (1 : Nat) ∧ x.len = x.len ∧ ∀ (j : Nat), j < x.len → x.f j = x.f j) ∧ True) ∧ (decide (v < (0 : Int)) = false →
  (x.nil = true → x.len = (0 : Nat)) ∧ (decide (v ≥ (↑x.len : Int)) = true → x.Ok → False ∧ True ∧ (x.len * (1 : Nat) ≤ x.len * (1 : Nat) ∧ x.len = x.len ∧ ∀ (j : Nat), j < x.len → x.f j = x.f j) ∧ True) ∧ (decide (v ≥
  (↑x.len : Int)) = false → ((0 : Int) ≤ v ∧ v < (↑(0 : Nat) : Int)) ∧ (0 : Nat) + v.toNat < (0 : Nat) ∧ (x.nil = true → x.len = (0 : Nat)) ∧ ((0 : Int) ≤ v ∧ v < (↑x.len : Int)) ∧ (0 : Nat) + v.toNat < x.len ∧ ((x.f ((0 :
  Nat) + v.toNat) != v_3) = true → x.Ok → False ∧ True ∧ (x.len * (1 : Nat) ≤ x.len * (1 : Nat) ∧ x.len = x.len ∧ ∀ (j : Nat), j < x.len → x.f j = x.f j) ∧ True) ∧ ((x.f ((0 : Nat) + v.toNat) != v_3) = false → (decide (v_3
  < (0 : Int)) = true → x.Ok → False ∧ True ∧ (x.len * (1 : Nat) ≤ x.len * (1 : Nat) ∧ x.len = x.len ∧ ∀ (j : Nat), j < x.len → x.f j = x.f j) ∧ True) ∧ (decide (v_3 < (0 : Int)) = false → (decide ((0 : Int) > (0 : Int)) =
  true → ((v_3 == (0 : Int)) = true → (decide (v < (-1 : Int)) = true → x.Ok → False ∧ True ∧ (x.len * (1 : Nat) ≤ x.len * (1 : Nat) ∧ x.len = x.len ∧ ∀ (j : Nat), j < x.len → x.f j = x.f j) ∧ True) ∧ (decide (v < (-1 :
  Int)) = false → ∃ (y : HP), (SB.I x g ∧ g.i < x.len ∧ y.Full ∧ y.n = g.h.n - (1 : Nat) ∧ ∀ (j : Int), y.M j = if j = g.h.id (0 : Nat) then none else g.h.M j) ∧ False ∧ True)) ∧ ((v_3 == (0 : Int)) = false → ∃ (y : HP),
  (SB.I x g ∧ g.i < x.len ∧ y.Full ∧ y.n = g.h.n - (1 : Nat) ∧ ∀ (j : Int), y.M j = if j = g.h.id (0 : Nat) then none else g.h.M j) ∧ False ∧ True)) ∧ (decide ((0 : Int) > (0 : Int)) = false → ∃ (y : HP), (SB.I x g ∧ g.i <
  x.len ∧ y.Full ∧ y.n = g.h.n - (1 : Nat) ∧ ∀ (j : Int), y.M j = if j = g.h.id (0 : Nat) then none else g.h.M j) ∧ False ∧ True))))))) ∧ ∀ (y_1 : HP), (SB.I x g ∧ g.i < x.len ∧ y_1.Full ∧ y_1.n = g.h.n - (1 : Nat) ∧ ∀ (j
  : Int), y_1.M j = if j = g.h.id (0 : Nat) then none else g.h.M j) → ((0 : Int) ≤ g.h.id (0 : Nat) ∧ g.h.id (0 : Nat) < (↑x.len : Int)) ∧ (0 : Nat) + (g.h.id (0 : Nat)).toNat < x.len ∧ ∀ (v : Int), v = g.h.key (0 : Nat) →
  ∀ (v_4 : Int), v_4 = g.h.id (0 : Nat) → ∀ (v_5 : Int), v_5 = IntKind.i64.wrap ((↑g.i : Int) + (1 : Int)) → (∃ (y_2 : Bool), x.len = (0 : Nat) ∧ ((((x.nil = true → x.nil = true) ∧ (x.nil = false → x.nil = false ∧ True ∧
  True ∧ (0 : Nat) = (0 : Nat) ∧ x.len = x.len ∧ x.cap = x.cap)) ∧ (True ∧ True) ∧ (True ∧ True ∧ (0 : Nat) = (0 : Nat) ∧ x.len = (0 : Nat) ∧ x.len = (0 : Nat)) ∧ v = (0 : Int) ∧ v_4 = (-1 : Int) ∧ v_5 = (0 : Int) ∧ True)
  ∧ (x.len * (1 : Nat) ≤ x.len * (1 : Nat) ∧ x.len = x.len ∧ ∀ (j : Nat), j < x.len → x.f j = x.f j) ∧ ((65 : Nat) ≤ (65 : Nat) ∧ False ∧ ((64 : Nat) = (64 : Nat) ∧ ∀ (j : Nat), j < (64 : Nat) → y_1.at_ j = a0 j) ∧ True) ∧
  ((0 : Nat) ≤ x.len * (1 : Nat) ∧ (0 : Nat) = x.len ∧ ∀ (j : Nat), j < x.len → (bif j.beq ((0 : Nat) + (g.h.id (0 : Nat)).toNat) then true else g.s j) = false) ∧ True) ∧ (sG0 x).μ y_2 < (sG0 x).μ y) ∨ ∃ (y_2 : SB), (sG1
  x).I y_2 ∧ ((((x.nil = true → x.nil = true) ∧ (x.nil = false → x.nil = false ∧ True ∧ True ∧ (0 : Nat) = (0 : Nat) ∧ x.len = x.len ∧ x.cap = x.cap)) ∧ (True ∧ True) ∧ (True ∧ True ∧ (0 : Nat) = (0 : Nat) ∧ x.len = x.len
  ∧ x.len = x.len) ∧ v = y_2.last ∧ v_4 = y_2.bef ∧ v_5 = (↑y_2.i : Int) ∧ True) ∧ (x.len * (1 : Nat) ≤ x.len * (1 : Nat) ∧ x.len = x.len ∧ ∀ (j : Nat), j < x.len → x.f j = x.f j) ∧ ((65 : Nat) ≤ (65 : Nat) ∧ (True ∧ True
  ∧ (0 : Nat) = (0 : Nat) ∧ y_1.n = y_2.h.n ∧ y_1.cap = y_2.h.cap) ∧ ((64 : Nat) = (64 : Nat) ∧ ∀ (j : Nat), j < (64 : Nat) → y_1.at_ j = y_2.h.at_ j) ∧ True) ∧ (y_2.h.cap * (2 : Nat) ≤ y_1.cap * (2 : Nat) ∧ y_2.h.n ≤
  y_1.n ∧ ∀ (j : Nat), j < y_2.h.n → y_1.id j = y_2.h.id j ∧ y_1.key j = y_2.h.key j ∧ True) ∧ (x.len * (1 : Nat) ≤ x.len * (1 : Nat) ∧ x.len = x.len ∧ ∀ (j : Nat), j < x.len → (bif j.beq ((0 : Nat) + (g.h.id (0 :
  Nat)).toNat) then true else g.s j) = y_2.s j) ∧ True) ∧ (sG1 x).μ y_2 < (sG0 x).μ y) ∧ (decide ((0 : Int) < (↑x.len : Int)) = false → (((True ∧ True) ∧ True) ∧ ((65 : Nat) ≤ (65 : Nat) ∧ True ∧ ((64 : Nat) = (64 : Nat) ∧
  ∀ (j : Nat), j < (64 : Nat) → a0 j = a0 j) ∧ True) ∧ True) ∧ (∀ (i : Nat), i < (64 : Nat) → a0 i = (0 : Int)) ∧ ∀ (v : Int), v = (-1 : Int) → ∀ (v : Int), v = (0 : Int) → ((!false) = true → (((True ∧ True) ∧ True) ∧ ((65
  : Nat) ≤ (65 : Nat) ∧ True ∧ ((64 : Nat) = (64 : Nat) ∧ ∀ (j : Nat), j < (64 : Nat) → a0 j = a0 j) ∧ True) ∧ True) ∧ (x.Ok → ((0 : Int) == (0 : Int)) = true ∧ True ∧ (x.len * (1 : Nat) ≤ x.len * (1 : Nat) ∧ x.len = x.len
  ∧ ∀ (j : Nat), j < x.len → x.f j = x.f j) ∧ True)) ∧ ((!false) = false → x.Ok → False ∧ True ∧ (x.len * (1 : Nat) ≤ x.len * (1 : Nat) ∧ x.len = x.len ∧ ∀ (j : Nat), j < x.len → x.f j = x.f j) ∧ True))) ∧ ∀ (y : SB), (sG1
  x).I y → (x.nil = true → x.len = (0 : Nat)) ∧ (decide ((↑y.i : Int) < (↑x.len : Int)) = true → (((True ∧ True) ∧ True) ∧ ((65 : Nat) ≤ (65 : Nat) ∧ (True ∧ True ∧ (0 : Nat) = (0 : Nat) ∧ y.h.n = y.h.n ∧ y.h.cap =
  y.h.cap) ∧ ((64 : Nat) = (64 : Nat) ∧ ∀ (j : Nat), j < (64 : Nat) → y.h.at_ j = y.h.at_ j) ∧ True) ∧ (y.h.cap * (2 : Nat) ≤ y.h.cap * (2 : Nat) ∧ y.h.n = y.h.n ∧ ∀ (j : Nat), j < y.h.n → y.h.id j = y.h.id j ∧ y.h.key j =
  y.h.key j ∧ True) ∧ True) ∧ ((HP.mk y.h.n y.h.cap (fun (j : Nat) => y.h.id j) (fun (j : Nat) => y.h.key j) y.h.at_).Full ∧ y.h.n ≤ (10000 : Nat)) ∧ (y.h.n = (0 : Nat) → ∀ (v : Int), v = (-1 : Int) → ∀ (v_3 : Int), v_3 =
  (0 : Int) → ∃ (g : SB), (((!false) = true → x.Ok → False ∧ True ∧ (x.len * (1 : Nat) ≤ x.len * (1 : Nat) ∧ x.len = x.len ∧ ∀ (j : Nat), j < x.len → x.f j = x.f j) ∧ True) ∧ ((!false) = false → (decide (v < (0 : Int)) =
  true → x.Ok → False ∧ True ∧ (x.len * (1 : Nat) ≤ x.len * (1 : Nat) ∧ x.len = x.len ∧ ∀ (j : Nat), j < x.len → x.f j = x.f j) ∧ True) ∧ (decide (v < (0 : Int)) = false → (x.nil = true → x.len = (0 : Nat)) ∧ (decide (v ≥
  (↑x.len : Int)) = true → x.Ok → False ∧ True ∧ (x.len * (1 : Nat) ≤ x.len * (1 : Nat) ∧ x.len = x.len ∧ ∀ (j : Nat), j < x.len → x.f j = x.f j) ∧ True) ∧ (decide (v ≥ (↑x.len : Int)) = false → ((0 : Int) ≤ v ∧ v <
  (↑x.len : Int)) ∧ (0 : Nat) + v.toNat < x.len ∧ (y.s ((0 : Nat) + v.toNat) = true → x.Ok → False ∧ True ∧ (x.len * (1 : Nat) ≤ x.len * (1 : Nat) ∧ x.len = x.len ∧ ∀ (j : Nat), j < x.len → x.f j = x.f j) ∧ True) ∧ (y.s
  ((0 : Nat) + v.toNat) = false → (x.nil = true → x.len = (0 : Nat)) ∧ ((0 : Int) ≤ v ∧ v < (↑x.len : Int)) ∧ (0 : Nat) + v.toNat < x.len ∧ ((x.f ((0 : Nat) + v.toNat) != v_3) = true → x.Ok → False ∧ True ∧ (x.len * (1 :
  Nat) ≤ x.len * (1 : Nat) ∧ x.len = x.len ∧ ∀ (j : Nat), j < x.len → x.f j = x.f j) ∧ True) ∧ ((x.f ((0 : Nat) + v.toNat) != v_3) = false → (decide (v_3 < y.last) = true → x.Ok → False ∧ True ∧ (x.len * (1 : Nat) ≤ x.len
  * (1 : Nat) ∧ x.len = x.len ∧ ∀ (j : Nat), j < x.len → x.f j = x.f j) ∧ True) ∧ (decide (v_3 < y.last) = false → (decide ((↑y.i : Int) > (0 : Int)) = true → ((v_3 == y.last) = true → (decide (v < y.bef) = true → x.Ok →
  False ∧ True ∧ (x.len * (1 : Nat) ≤ x.len * (1 : Nat) ∧ x.len = x.len ∧ ∀ (j : Nat), j < x.len → x.f j = x.f j) ∧ True) ∧ (decide (v < y.bef) = false → ∃ (y_1 : HP), (SB.I x g ∧ g.i < x.len ∧ y_1.Full ∧ y_1.n = g.h.n -
  (1 : Nat) ∧ ∀ (j : Int), y_1.M j = if j = g.h.id (0 : Nat) then none else g.h.M j) ∧ ((((x.nil = true → x.nil = true) ∧ (x.nil = false → x.nil = false ∧ True ∧ True ∧ (0 : Nat) = (0 : Nat) ∧ x.len = x.len ∧ x.cap =
  x.cap)) ∧ (True ∧ True) ∧ (True ∧ True ∧ (0 : Nat) = (0 : Nat) ∧ x.len = x.len ∧ x.len = x.len) ∧ (↑y.i : Int) = (↑g.i : Int) ∧ v = g.h.id (0 : Nat) ∧ v_3 = g.h.key (0 : Nat) ∧ True) ∧ (x.len * (1 : Nat) ≤ x.len * (1 :
  Nat) ∧ x.len = x.len ∧ ∀ (j : Nat), j < x.len → x.f j = x.f j) ∧ ((65 : Nat) ≤ (65 : Nat) ∧ (True ∧ True ∧ (0 : Nat) = (0 : Nat) ∧ y.h.n = y_1.n ∧ y.h.cap = y_1.cap) ∧ ((64 : Nat) = (64 : Nat) ∧ ∀ (j : Nat), j < (64 :
  Nat) → y.h.at_ j = y_1.at_ j) ∧ True) ∧ (y_1.cap * (2 : Nat) ≤ y.h.cap * (2 : Nat) ∧ y_1.n ≤ y.h.n ∧ ∀ (j : Nat), j < y_1.n → y.h.id j = y_1.id j ∧ y.h.key j = y_1.key j ∧ True) ∧ (x.len * (1 : Nat) ≤ x.len * (1 : Nat) ∧
  x.len = x.len ∧ ∀ (j : Nat), j < x.len → y.s j = g.s j) ∧ True) ∧ True)) ∧ ((v_3 == y.last) = false → ∃ (y_1 : HP), (SB.I x g ∧ g.i < x.len ∧ y_1.Full ∧ y_1.n = g.h.n - (1 : Nat) ∧ ∀ (j : Int), y_1.M j = if j = g.h.id (0
  : Nat) then none else g.h.M j) ∧ ((((x.nil = true → x.nil = true) ∧ (x.nil = false → x.nil = false ∧ True ∧ True ∧ (0 : Nat) = (0 : Nat) ∧ x.len = x.len ∧ x.cap = x.cap)) ∧ (True ∧ True) ∧ (True ∧ True ∧ (0 : Nat) = (0 :
  Nat) ∧ x.len = x.len ∧ x.len = x.len) ∧ (↑y.i : Int) = (↑g.i : Int) ∧ v = g.h.id (0 : Nat) ∧ v_3 = g.h.key (0 : Nat) ∧ True) ∧ (x.len * (1 : Nat) ≤ x.len * (1 : Nat) ∧ x.len = x.len ∧ ∀ (j : Nat), j < x.len → x.f j = x.f
  j) ∧ ((65 : Nat) ≤ (65 : Nat) ∧ (True ∧ True ∧ (0 : Nat) = (0 : Nat) ∧ y.h.n = y_1.n ∧ y.h.cap = y_1.cap) ∧ ((64 : Nat) = (64 : Nat) ∧ ∀ (j : Nat), j < (64 : Nat) → y.h.at_ j = y_1.at_ j) ∧ True) ∧ (y_1.cap * (2 : Nat) ≤
  y.h.cap * (2 : Nat) ∧ y_1.n ≤ y.h.n ∧ ∀ (j : Nat), j < y_1.n → y.h.id j = y_1.id j ∧ y.h.key j = y_1.key j ∧ True) ∧ (x.len * (1 : Nat) ≤ x.len * (1 : Nat) ∧ x.len = x.len ∧ ∀ (j : Nat), j < x.len → y.s j = g.s j) ∧
  True) ∧ True)) ∧ (decide ((↑y.i : Int) > (0 : Int)) = false → ∃ (y_1 : HP), (SB.I x g ∧ g.i < x.len ∧ y_1.Full ∧ y_1.n = g.h.n - (1 : Nat) ∧ ∀ (j : Int), y_1.M j = if j = g.h.id (0 : Nat) then none else g.h.M j) ∧
  ((((x.nil = true → x.nil = true) ∧ (x.nil = false → x.nil = false ∧ True ∧ True ∧ (0 : Nat) = (0 : Nat) ∧ x.len = x.len ∧ x.cap = x.cap)) ∧ (True ∧ True) ∧ (True ∧ True ∧ (0 : Nat) = (0 : Nat) ∧ x.len = x.len ∧ x.len =
  x.len) ∧ (↑y.i : Int) = (↑g.i : Int) ∧ v = g.h.id (0 : Nat) ∧ v_3 = g.h.key (0 : Nat) ∧ True) ∧ (x.len * (1 : Nat) ≤ x.len * (1 : Nat) ∧ x.len = x.len ∧ ∀ (j : Nat), j < x.len → x.f j = x.f j) ∧ ((65 : Nat) ≤ (65 : Nat)
  ∧ (True ∧ True ∧ (0 : Nat) = (0 : Nat) ∧ y.h.n = y_1.n ∧ y.h.cap = y_1.cap) ∧ ((64 : Nat) = (64 : Nat) ∧ ∀ (j : Nat), j < (64 : Nat) → y.h.at_ j = y_1.at_ j) ∧ True) ∧ (y_1.cap * (2 : Nat) ≤ y.h.cap * (2 : Nat) ∧ y_1.n ≤
  y.h.n ∧ ∀ (j : Nat), j < y_1.n → y.h.id j = y_1.id j ∧ y.h.key j = y_1.key j ∧ True) ∧ (x.len * (1 : Nat) ≤ x.len * (1 : Nat) ∧ x.len = x.len ∧ ∀ (j : Nat), j < x.len → y.s j = g.s j) ∧ True) ∧ True)))))))) ∧ ∀ (y_1 :
  HP), (SB.I x g ∧ g.i < x.len ∧ y_1.Full ∧ y_1.n = g.h.n - (1 : Nat) ∧ ∀ (j : Int), y_1.M j = if j = g.h.id (0 : Nat) then none else g.h.M j) → ((0 : Int) ≤ g.h.id (0 : Nat) ∧ g.h.id (0 : Nat) < (↑x.len : Int)) ∧ (0 :
  Nat) + (g.h.id (0 : Nat)).toNat < x.len ∧ ∀ (v : Int), v = g.h.key (0 : Nat) → ∀ (v_4 : Int), v_4 = g.h.id (0 : Nat) → ∀ (v_5 : Int), v_5 = IntKind.i64.wrap ((↑g.i : Int) + (1 : Int)) → (∃ (y_2 : Bool), x.len = (0 : Nat)
  ∧ ((((x.nil = true → x.nil = true) ∧ (x.nil = false → x.nil = false ∧ True ∧ True ∧ (0 : Nat) = (0 : Nat) ∧ x.len = x.len ∧ x.cap = x.cap)) ∧ (True ∧ True) ∧ (True ∧ True ∧ (0 : Nat) = (0 : Nat) ∧ x.len = (0 : Nat) ∧
  x.len = (0 : Nat)) ∧ v = (0 : Int) ∧ v_4 = (-1 : Int) ∧ v_5 = (0 : Int) ∧ True) ∧ (x.len * (1 : Nat) ≤ x.len * (1 : Nat) ∧ x.len = x.len ∧ ∀ (j : Nat), j < x.len → x.f j = x.f j) ∧ ((65 : Nat) ≤ (65 : Nat) ∧ False ∧ ((64
  : Nat) = (64 : Nat) ∧ ∀ (j : Nat), j < (64 : Nat) → y_1.at_ j = a0 j) ∧ True) ∧ ((0 : Nat) ≤ x.len * (1 : Nat) ∧ (0 : Nat) = x.len ∧ ∀ (j : Nat), j < x.len → (bif j.beq ((0 : Nat) + (g.h.id (0 : Nat)).toNat) then true
  else g.s j) = false) ∧ True) ∧ (sG0 x).μ y_2 < (sG1 x).μ y) ∨ ∃ (y_2 : SB), (sG1 x).I y_2 ∧ ((((x.nil = true → x.nil = true) ∧ (x.nil = false → x.nil = false ∧ True ∧ True ∧ (0 : Nat) = (0 : Nat) ∧ x.len = x.len ∧ x.cap
  = x.cap)) ∧ (True ∧ True) ∧ (True ∧ True ∧ (0 : Nat) = (0 : Nat) ∧ x.len = x.len ∧ x.len = x.len) ∧ v = y_2.last ∧ v_4 = y_2.bef ∧ v_5 = (↑y_2.i : Int) ∧ True) ∧ (x.len * (1 : Nat) ≤ x.len * (1 : Nat) ∧ x.len = x.len ∧ ∀
  (j : Nat), j < x.len → x.f j = x.f j) ∧ ((65 : Nat) ≤ (65 : Nat) ∧ (True ∧ True ∧ (0 : Nat) = (0 : Nat) ∧ y_1.n = y_2.h.n ∧ y_1.cap = y_2.h.cap) ∧ ((64 : Nat) = (64 : Nat) ∧ ∀ (j : Nat), j < (64 : Nat) → y_1.at_ j =
  y_2.h.at_ j) ∧ True) ∧ (y_2.h.cap * (2 : Nat) ≤ y_1.cap * (2 : Nat) ∧ y_2.h.n ≤ y_1.n ∧ ∀ (j : Nat), j < y_2.h.n → y_1.id j = y_2.h.id j ∧ y_1.key j = y_2.h.key j ∧ True) ∧ (x.len * (1 : Nat) ≤ x.len * (1 : Nat) ∧ x.len
  = x.len ∧ ∀ (j : Nat), j < x.len → (bif j.beq ((0 : Nat) + (g.h.id (0 : Nat)).toNat) then true else g.s j) = y_2.s j) ∧ True) ∧ (sG1 x).μ y_2 < (sG1 x).μ y) ∧ (¬y.h.n = (0 : Nat) → ∀ (x_1 : HP), (x_1.Full ∧ (x_1.n =
  y.h.n - (1 : Nat) ∧ x_1.cap = y.h.cap) ∧ ∀ (i : Int), x_1.M i = if i = y.h.id (0 : Nat) then none else (HP.mk y.h.n y.h.cap (fun (j : Nat) => y.h.id j) (fun (j : Nat) => y.h.key j) y.h.at_).M i) → ∀ (v : Int), v = y.h.id
  (0 : Nat) → ∀ (v_3 : Int), v_3 = y.h.key (0 : Nat) → ∃ (g : SB), (((!true) = true → x.Ok → False ∧ True ∧ (x.len * (1 : Nat) ≤ x.len * (1 : Nat) ∧ x.len = x.len ∧ ∀ (j : Nat), j < x.len → x.f j = x.f j) ∧ True) ∧
  ((!true) = false → (decide (v < (0 : Int)) = true → x.Ok → False ∧ True ∧ (x.len * (1 : Nat) ≤ x.len * (1 : Nat) ∧ x.len = x.len ∧ ∀ (j : Nat), j < x.len → x.f j = x.f j) ∧ True) ∧ (decide (v < (0 : Int)) = false →
  (x.nil = true → x.len = (0 : Nat)) ∧ (decide (v ≥ (↑x.len : Int)) = true → x.Ok → False ∧ True ∧ (x.len * (1 : Nat) ≤ x.len * (1 : Nat) ∧ x.len = x.len ∧ ∀ (j : Nat), j < x.len → x.f j = x.f j) ∧ True) ∧ (decide (v ≥
  (↑x.len : Int)) = false → ((0 : Int) ≤ v ∧ v < (↑x.len : Int)) ∧ (0 : Nat) + v.toNat < x.len ∧ (y.s ((0 : Nat) + v.toNat) = true → x.Ok → False ∧ True ∧ (x.len * (1 : Nat) ≤ x.len * (1 : Nat) ∧ x.len = x.len ∧ ∀ (j :
  Nat), j < x.len → x.f j = x.f j) ∧ True) ∧ (y.s ((0 : Nat) + v.toNat) = false → (x.nil = true → x.len = (0 : Nat)) ∧ ((0 : Int) ≤ v ∧ v < (↑x.len : Int)) ∧ (0 : Nat) + v.toNat < x.len ∧ ((x.f ((0 : Nat) + v.toNat) !=
  v_3) = true → x.Ok → False ∧ True ∧ (x.len * (1 : Nat) ≤ x.len * (1 : Nat) ∧ x.len = x.len ∧ ∀ (j : Nat), j < x.len → x.f j = x.f j) ∧ True) ∧ ((x.f ((0 : Nat) + v.toNat) != v_3) = false → (decide (v_3 < y.last) = true →
  x.Ok → False ∧ True ∧ (x.len * (1 : Nat) ≤ x.len * (1 : Nat) ∧ x.len = x.len ∧ ∀ (j : Nat), j < x.len → x.f j = x.f j) ∧ True) ∧ (decide (v_3 < y.last) = false → (decide ((↑y.i : Int) > (0 : Int)) = true → ((v_3 ==
  y.last) = true → (decide (v < y.bef) = true → x.Ok → False ∧ True ∧ (x.len * (1 : Nat) ≤ x.len * (1 : Nat) ∧ x.len = x.len ∧ ∀ (j : Nat), j < x.len → x.f j = x.f j) ∧ True) ∧ (decide (v < y.bef) = false → ∃ (y_1 : HP),
  (SB.I x g ∧ g.i < x.len ∧ y_1.Full ∧ y_1.n = g.h.n - (1 : Nat) ∧ ∀ (j : Int), y_1.M j = if j = g.h.id (0 : Nat) then none else g.h.M j) ∧ ((((x.nil = true → x.nil = true) ∧ (x.nil = false → x.nil = false ∧ True ∧ True ∧
  (0 : Nat) = (0 : Nat) ∧ x.len = x.len ∧ x.cap = x.cap)) ∧ (True ∧ True) ∧ (True ∧ True ∧ (0 : Nat) = (0 : Nat) ∧ x.len = x.len ∧ x.len = x.len) ∧ (↑y.i : Int) = (↑g.i : Int) ∧ v = g.h.id (0 : Nat) ∧ v_3 = g.h.key (0 :
  Nat) ∧ True) ∧ (x.len * (1 : Nat) ≤ x.len * (1 : Nat) ∧ x.len = x.len ∧ ∀ (j : Nat), j < x.len → x.f j = x.f j) ∧ ((65 : Nat) ≤ (65 : Nat) ∧ (True ∧ True ∧ (0 : Nat) = (0 : Nat) ∧ x_1.n = y_1.n ∧ x_1.cap = y_1.cap) ∧
  ((64 : Nat) = (64 : Nat) ∧ ∀ (j : Nat), j < (64 : Nat) → x_1.at_ j = y_1.at_ j) ∧ True) ∧ (y_1.cap * (2 : Nat) ≤ y.h.cap * (2 : Nat) ∧ y_1.n ≤ x_1.n ∧ ∀ (j : Nat), j < y_1.n → x_1.id j = y_1.id j ∧ x_1.key j = y_1.key j
  ∧ True) ∧ (x.len * (1 : Nat) ≤ x.len * (1 : Nat) ∧ x.len = x.len ∧ ∀ (j : Nat), j < x.len → y.s j = g.s j) ∧ True) ∧ True)) ∧ ((v_3 == y.last) = false → ∃ (y_1 : HP), (SB.I x g ∧ g.i < x.len ∧ y_1.Full ∧ y_1.n = g.h.n -
  (1 : Nat) ∧ ∀ (j : Int), y_1.M j = if j = g.h.id (0 : Nat) then none else g.h.M j) ∧ ((((x.nil = true → x.nil = true) ∧ (x.nil = false → x.nil = false ∧ True ∧ True ∧ (0 : Nat) = (0 : Nat) ∧ x.len = x.len ∧ x.cap =
  x.cap)) ∧ (True ∧ True) ∧ (True ∧ True ∧ (0 : Nat) = (0 : Nat) ∧ x.len = x.len ∧ x.len = x.len) ∧ (↑y.i : Int) = (↑g.i : Int) ∧ v = g.h.id (0 : Nat) ∧ v_3 = g.h.key (0 : Nat) ∧ True) ∧ (x.len * (1 : Nat) ≤ x.len * (1 :
  Nat) ∧ x.len = x.len ∧ ∀ (j : Nat), j < x.len → x.f j = x.f j) ∧ ((65 : Nat) ≤ (65 : Nat) ∧ (True ∧ True ∧ (0 : Nat) = (0 : Nat) ∧ x_1.n = y_1.n ∧ x_1.cap = y_1.cap) ∧ ((64 : Nat) = (64 : Nat) ∧ ∀ (j : Nat), j < (64 :
  Nat) → x_1.at_ j = y_1.at_ j) ∧ True) ∧ (y_1.cap * (2 : Nat) ≤ y.h.cap * (2 : Nat) ∧ y_1.n ≤ x_1.n ∧ ∀ (j : Nat), j < y_1.n → x_1.id j = y_1.id j ∧ x_1.key j = y_1.key j ∧ True) ∧ (x.len * (1 : Nat) ≤ x.len * (1 : Nat) ∧
  x.len = x.len ∧ ∀ (j : Nat), j < x.len → y.s j = g.s j) ∧ True) ∧ True)) ∧ (decide ((↑y.i : Int) > (0 : Int)) = false → ∃ (y_1 : HP), (SB.I x g ∧ g.i < x.len ∧ y_1.Full ∧ y_1.n = g.h.n - (1 : Nat) ∧ ∀ (j : Int), y_1.M j
  = if j = g.h.id (0 : Nat) then none else g.h.M j) ∧ ((((x.nil = true → x.nil = true) ∧ (x.nil = false → x.nil = false ∧ True ∧ True ∧ (0 : Nat) = (0 : Nat) ∧ x.len = x.len ∧ x.cap = x.cap)) ∧ (True ∧ True) ∧ (True ∧ True
  ∧ (0 : Nat) = (0 : Nat) ∧ x.len = x.len ∧ x.len = x.len) ∧ (↑y.i : Int) = (↑g.i : Int) ∧ v = g.h.id (0 : Nat) ∧ v_3 = g.h.key (0 : Nat) ∧ True) ∧ (x.len * (1 : Nat) ≤ x.len * (1 : Nat) ∧ x.len = x.len ∧ ∀ (j : Nat), j <
  x.len → x.f j = x.f j) ∧ ((65 : Nat) ≤ (65 : Nat) ∧ (True ∧ True ∧ (0 : Nat) = (0 : Nat) ∧ x_1.n = y_1.n ∧ x_1.cap = y_1.cap) ∧ ((64 : Nat) = (64 : Nat) ∧ ∀ (j : Nat), j < (64 : Nat) → x_1.at_ j = y_1.at_ j) ∧ True) ∧
  (y_1.cap * (2 : Nat) ≤ y.h.cap * (2 : Nat) ∧ y_1.n ≤ x_1.n ∧ ∀ (j : Nat), j < y_1.n → x_1.id j = y_1.id j ∧ x_1.key j = y_1.key j ∧ True) ∧ (x.len * (1 : Nat) ≤ x.len * (1 : Nat) ∧ x.len = x.len ∧ ∀ (j : Nat), j < x.len
  → y.s j = g.s j) ∧ True) ∧ True)))))))) ∧ ∀ (y_1 : HP), (SB.I x g ∧ g.i < x.len ∧ y_1.Full ∧ y_1.n = g.h.n - (1 : Nat) ∧ ∀ (j : Int), y_1.M j = if j = g.h.id (0 : Nat) then none else g.h.M j) → ((0 : Int) ≤ g.h.id (0 :
  Nat) ∧ g.h.id (0 : Nat) < (↑x.len : Int)) ∧ (0 : Nat) + (g.h.id (0 : Nat)).toNat < x.len ∧ ∀ (v : Int), v = g.h.key (0 : Nat) → ∀ (v_4 : Int), v_4 = g.h.id (0 : Nat) → ∀ (v_5 : Int), v_5 = IntKind.i64.wrap ((↑g.i : Int)
  + (1 : Int)) → (∃ (y_2 : Bool), x.len = (0 : Nat) ∧ ((((x.nil = true → x.nil = true) ∧ (x.nil = false → x.nil = false ∧ True ∧ True ∧ (0 : Nat) = (0 : Nat) ∧ x.len = x.len ∧ x.cap = x.cap)) ∧ (True ∧ True) ∧ (True ∧ True
  ∧ (0 : Nat) = (0 : Nat) ∧ x.len = (0 : Nat) ∧ x.len = (0 : Nat)) ∧ v = (0 : Int) ∧ v_4 = (-1 : Int) ∧ v_5 = (0 : Int) ∧ True) ∧ (x.len * (1 : Nat) ≤ x.len * (1 : Nat) ∧ x.len = x.len ∧ ∀ (j : Nat), j < x.len → x.f j =
  x.f j) ∧ ((65 : Nat) ≤ (65 : Nat) ∧ False ∧ ((64 : Nat) = (64 : Nat) ∧ ∀ (j : Nat), j < (64 : Nat) → y_1.at_ j = a0 j) ∧ True) ∧ ((0 : Nat) ≤ x.len * (1 : Nat) ∧ (0 : Nat) = x.len ∧ ∀ (j : Nat), j < x.len → (bif j.beq
  ((0 : Nat) + (g.h.id (0 : Nat)).toNat) then true else g.s j) = false) ∧ True) ∧ (sG0 x).μ y_2 < (sG1 x).μ y) ∨ ∃ (y_2 : SB), (sG1 x).I y_2 ∧ ((((x.nil = true → x.nil = true) ∧ (x.nil = false → x.nil = false ∧ True ∧ True
  ∧ (0 : Nat) = (0 : Nat) ∧ x.len = x.len ∧ x.cap = x.cap)) ∧ (True ∧ True) ∧ (True ∧ True ∧ (0 : Nat) = (0 : Nat) ∧ x.len = x.len ∧ x.len = x.len) ∧ v = y_2.last ∧ v_4 = y_2.bef ∧ v_5 = (↑y_2.i : Int) ∧ True) ∧ (x.len *
  (1 : Nat) ≤ x.len * (1 : Nat) ∧ x.len = x.len ∧ ∀ (j : Nat), j < x.len → x.f j = x.f j) ∧ ((65 : Nat) ≤ (65 : Nat) ∧ (True ∧ True ∧ (0 : Nat) = (0 : Nat) ∧ y_1.n = y_2.h.n ∧ y_1.cap = y_2.h.cap) ∧ ((64 : Nat) = (64 :
  Nat) ∧ ∀ (j : Nat), j < (64 : Nat) → y_1.at_ j = y_2.h.at_ j) ∧ True) ∧ (y_2.h.cap * (2 : Nat) ≤ y_1.cap * (2 : Nat) ∧ y_2.h.n ≤ y_1.n ∧ ∀ (j : Nat), j < y_2.h.n → y_1.id j = y_2.h.id j ∧ y_1.key j = y_2.h.key j ∧ True)
  ∧ (x.len * (1 : Nat) ≤ x.len * (1 : Nat) ∧ x.len = x.len ∧ ∀ (j : Nat), j < x.len → (bif j.beq ((0 : Nat) + (g.h.id (0 : Nat)).toNat) then true else g.s j) = y_2.s j) ∧ True) ∧ (sG1 x).μ y_2 < (sG1 x).μ y)) ∧ (decide
  ((↑y.i : Int) < (↑x.len : Int)) = false → (((True ∧ True) ∧ True) ∧ ((65 : Nat) ≤ (65 : Nat) ∧ (True ∧ True ∧ (0 : Nat) = (0 : Nat) ∧ y.h.n = y.h.n ∧ y.h.cap = y.h.cap) ∧ ((64 : Nat) = (64 : Nat) ∧ ∀ (j : Nat), j < (64 :
  Nat) → y.h.at_ j = y.h.at_ j) ∧ True) ∧ (y.h.cap * (2 : Nat) ≤ y.h.cap * (2 : Nat) ∧ y.h.n = y.h.n ∧ ∀ (j : Nat), j < y.h.n → y.h.id j = y.h.id j ∧ y.h.key j = y.h.key j ∧ True) ∧ True) ∧ ((HP.mk y.h.n y.h.cap (fun (j :
  Nat) => y.h.id j) (fun (j : Nat) => y.h.key j) y.h.at_).Full ∧ y.h.n ≤ (10000 : Nat)) ∧ (y.h.n = (0 : Nat) → ∀ (v : Int), v = (-1 : Int) → ∀ (v : Int), v = (0 : Int) → ((!false) = true → (((True ∧ True) ∧ True) ∧ ((65 :
  Nat) ≤ (65 : Nat) ∧ (True ∧ True ∧ (0 : Nat) = (0 : Nat) ∧ y.h.n = y.h.n ∧ y.h.cap = y.h.cap) ∧ ((64 : Nat) = (64 : Nat) ∧ ∀ (j : Nat), j < (64 : Nat) → y.h.at_ j = y.h.at_ j) ∧ True) ∧ (y.h.cap * (2 : Nat) ≤ y.h.cap *
  (2 : Nat) ∧ y.h.n = y.h.n ∧ ∀ (j : Nat), j < y.h.n → y.h.id j = y.h.id j ∧ y.h.key j = y.h.key j ∧ True) ∧ True) ∧ (x.Ok → ((↑y.h.n : Int) == (0 : Int)) = true ∧ True ∧ (x.len * (1 : Nat) ≤ x.len * (1 : Nat) ∧ x.len =
  x.len ∧ ∀ (j : Nat), j < x.len → x.f j = x.f j) ∧ True)) ∧ ((!false) = false → x.Ok → False ∧ True ∧ (x.len * (1 : Nat) ≤ x.len * (1 : Nat) ∧ x.len = x.len ∧ ∀ (j : Nat), j < x.len → x.f j = x.f j) ∧ True)) ∧ (¬y.h.n =
  (0 : Nat) → ∀ (x_1 : HP), (x_1.Full ∧ (x_1.n = y.h.n - (1 : Nat) ∧ x_1.cap = y.h.cap) ∧ ∀ (i : Int), x_1.M i = if i = y.h.id (0 : Nat) then none else (HP.mk y.h.n y.h.cap (fun (j : Nat) => y.h.id j) (fun (j : Nat) =>
  y.h.key j) y.h.at_).M i) → ∀ (v : Int), v = y.h.id (0 : Nat) → ∀ (v : Int), v = y.h.key (0 : Nat) → ((!true) = true → (((True ∧ True) ∧ True) ∧ ((65 : Nat) ≤ (65 : Nat) ∧ (True ∧ True ∧ (0 : Nat) = (0 : Nat) ∧ x_1.n =
  x_1.n ∧ x_1.cap = x_1.cap) ∧ ((64 : Nat) = (64 : Nat) ∧ ∀ (j : Nat), j < (64 : Nat) → x_1.at_ j = x_1.at_ j) ∧ True) ∧ (x_1.cap * (2 : Nat) ≤ y.h.cap * (2 : Nat) ∧ x_1.n = x_1.n ∧ ∀ (j : Nat), j < x_1.n → x_1.id j =
  x_1.id j ∧ x_1.key j = x_1.key j ∧ True) ∧ True) ∧ (x.Ok → ((↑x_1.n : Int) == (0 : Int)) = true ∧ True ∧ (x.len * (1 : Nat) ≤ x.len * (1 : Nat) ∧ x.len = x.len ∧ ∀ (j : Nat), j < x.len → x.f j = x.f j) ∧ True)) ∧
  ((!true) = false → x.Ok → False ∧ True ∧ (x.len * (1 : Nat) ≤ x.len * (1 : Nat) ∧ x.len = x.len ∧ ∀ (j : Nat), j < x.len → x.f j = x.f j) ∧ True)))) ∧ ∀ (y : SA), y.i = x.len ∧ SA.I x y → (x.nil = true → x.len = (0 :
  Nat)) ∧ ((0 : Int) ≤ (↑x.len : Int) ∧ (↑x.len : Int) ≤ (↑x.len : Int) ∧ (↑x.len : Int) ≤ (9223372036854775807 : Int) ∧ (↑(1 : Nat) : Int) * (↑x.len : Int) ≤ (281474976710656 : Int)) ∧ ∀ (v : Int), v = (0 : Int) → ∀ (v_1
  : Int), v_1 = (-1 : Int) → ∀ (v_2 : Int), v_2 = (0 : Int) → ((∃ (_ : Bool), x.len = (0 : Nat) ∧ ((((x.nil = true → x.nil = true) ∧ (x.nil = false → x.nil = false ∧ True ∧ True ∧ (0 : Nat) = (0 : Nat) ∧ x.len = x.len ∧
  x.cap = x.cap)) ∧ (True ∧ True) ∧ (True ∧ True ∧ (0 : Nat) = (0 : Nat) ∧ (↑x.len : Int).toNat = (0 : Nat) ∧ (↑x.len : Int).toNat = (0 : Nat)) ∧ v = (0 : Int) ∧ v_1 = (-1 : Int) ∧ v_2 = (0 : Int) ∧ True) ∧ (x.len * (1 :
  Nat) ≤ x.len * (1 : Nat) ∧ x.len = x.len ∧ ∀ (j : Nat), j < x.len → x.f j = x.f j) ∧ ((65 : Nat) ≤ (65 : Nat) ∧ False ∧ ((64 : Nat) = (64 : Nat) ∧ ∀ (j : Nat), j < (64 : Nat) → y.h.at_ j = a0 j) ∧ True) ∧ ((0 : Nat) ≤
  (↑x.len : Int).toNat * (1 : Nat) ∧ (0 : Nat) = (↑x.len : Int).toNat ∧ ∀ (j : Nat), j < (↑x.len : Int).toNat → True) ∧ True) ∧ True) ∨ ∃ (y_1 : SB), (sG1 x).I y_1 ∧ ((((x.nil = true → x.nil = true) ∧ (x.nil = false →
  x.nil = false ∧ True ∧ True ∧ (0 : Nat) = (0 : Nat) ∧ x.len = x.len ∧ x.cap = x.cap)) ∧ (True ∧ True) ∧ (True ∧ True ∧ (0 : Nat) = (0 : Nat) ∧ (↑x.len : Int).toNat = x.len ∧ (↑x.len : Int).toNat = x.len) ∧ v = y_1.last ∧
  v_1 = y_1.bef ∧ v_2 = (↑y_1.i : Int) ∧ True) ∧ (x.len * (1 : Nat) ≤ x.len * (1 : Nat) ∧ x.len = x.len ∧ ∀ (j : Nat), j < x.len → x.f j = x.f j) ∧ ((65 : Nat) ≤ (65 : Nat) ∧ (True ∧ True ∧ (0 : Nat) = (0 : Nat) ∧ y.h.n =
  y_1.h.n ∧ y.h.cap = y_1.h.cap) ∧ ((64 : Nat) = (64 : Nat) ∧ ∀ (j : Nat), j < (64 : Nat) → y.h.at_ j = y_1.h.at_ j) ∧ True) ∧ (y_1.h.cap * (2 : Nat) ≤ y.h.cap * (2 : Nat) ∧ y_1.h.n ≤ y.h.n ∧ ∀ (j : Nat), j < y_1.h.n →
  y.h.id j = y_1.h.id j ∧ y.h.key j = y_1.h.key j ∧ True) ∧ (x.len * (1 : Nat) ≤ (↑x.len : Int).toNat * (1 : Nat) ∧ x.len = (↑x.len : Int).toNat ∧ ∀ (j : Nat), j < (↑x.len : Int).toNat → y_1.s j = false) ∧ True) ∧ True) ∧
  (∀ (y : Bool), x.len = (0 : Nat) → (x.nil = true → x.len = (0 : Nat)) ∧ (decide ((0 : Int) < (↑x.len : Int)) = true → (((True ∧ True) ∧ True) ∧ ((65 : Nat) ≤ (65 : Nat) ∧ True ∧ ((64 : Nat) = (64 : Nat) ∧ ∀ (j : Nat), j
  < (64 : Nat) → a0 j = a0 j) ∧ True) ∧ True) ∧ (∀ (i : Nat), i < (64 : Nat) → a0 i = (0 : Int)) ∧ ∀ (v : Int), v = (-1 : Int) → ∀ (v_3 : Int), v_3 = (0 : Int) → ∃ (g : SB), (((!false) = true → x.Ok → False ∧ True ∧ (x.len
  * (1 : Nat) ≤ x.len * (1 : Nat) ∧ x.len = x.len ∧ ∀ (j : Nat), j < x.len → x.f j = x.f j) ∧ True) ∧ ((!false) = false → (decide (v < (0 : Int)) = true → x.Ok → False ∧ True ∧ (x.len * (1 : Nat) ≤ x.len * (1 : Nat) ∧
  x.len = x.len ∧ ∀ (j : Nat), j < x.len → x.f j = x.f j) ∧ True) ∧ (decide (v < (0 : Int)) = false → (x.nil = true → x.len = (0 : Nat)) ∧ (decide (v ≥ (↑x.len : Int)) = true → x.Ok → False ∧ True ∧ (x.len * (1 : Nat) ≤
  x.len * (1 : Nat) ∧ x.len = x.len ∧ ∀ (j : Nat), j < x.len → x.f j = x.f j) ∧ True) ∧ (decide (v ≥ (↑x.len : Int)) = false → ((0 : Int) ≤ v ∧ v < (↑(0 : Nat) : Int)) ∧ (0 : Nat) + v.toNat < (0 : Nat) ∧ (x.nil = true →
  x.len = (0 : Nat)) ∧ ((0 : Int) ≤ v ∧ v < (↑x.len : Int)) ∧ (0 : Nat) + v.toNat < x.len ∧ ((x.f ((0 : Nat) + v.toNat) != v_3) = true → x.Ok → False ∧ True ∧ (x.len * (1 : Nat) ≤ x.len * (1 : Nat) ∧ x.len = x.len ∧ ∀ (j :
  Nat), j < x.len → x.f j = x.f j) ∧ True) ∧ ((x.f ((0 : Nat) + v.toNat) != v_3) = false → (decide (v_3 < (0 : Int)) = true → x.Ok → False ∧ True ∧ (x.len * (1 : Nat) ≤ x.len * (1 : Nat) ∧ x.len = x.len ∧ ∀ (j : Nat), j <
  x.len → x.f j = x.f j) ∧ True) ∧ (decide (v_3 < (0 : Int)) = false → (decide ((0 : Int) > (0 : Int)) = true → ((v_3 == (0 : Int)) = true → (decide (v < (-1 : Int)) = true → x.Ok → False ∧ True ∧ (x.len * (1 : Nat) ≤
  x.len * (1 : Nat) ∧ x.len = x.len ∧ ∀ (j : Nat), j < x.len → x.f j = x.f j) ∧ True) ∧ (decide (v < (-1 : Int)) = false → ∃ (y : HP), (SB.I x g ∧ g.i < x.len ∧ y.Full ∧ y.n = g.h.n - (1 : Nat) ∧ ∀ (j : Int), y.M j = if j
  = g.h.id (0 : Nat) then none else g.h.M j) ∧ False ∧ True)) ∧ ((v_3 == (0 : Int)) = false → ∃ (y : HP), (SB.I x g ∧ g.i < x.len ∧ y.Full ∧ y.n = g.h.n - (1 : Nat) ∧ ∀ (j : Int), y.M j = if j = g.h.id (0 : Nat) then none
  else g.h.M j) ∧ False ∧ True)) ∧ (decide ((0 : Int) > (0 : Int)) = false → ∃ (y : HP), (SB.I x g ∧ g.i < x.len ∧ y.Full ∧ y.n = g.h.n - (1 : Nat) ∧ ∀ (j : Int), y.M j = if j = g.h.id (0 : Nat) then none else g.h.M j) ∧
  False ∧ True))))))) ∧ ∀ (y_1 : HP), (SB.I x g ∧ g.i < x.len ∧ y_1.Full ∧ y_1.n = g.h.n - (1 : Nat) ∧ ∀ (j : Int), y_1.M j = if j = g.h.id (0 : Nat) then none else g.h.M j) → ((0 : Int) ≤ g.h.id (0 : Nat) ∧ g.h.id (0 :
  Nat) < (↑x.len : Int)) ∧ (0 : Nat) + (g.h.id (0 : Nat)).toNat < x.len ∧ ∀ (v : Int), v = g.h.key (0 : Nat) → ∀ (v_4 : Int), v_4 = g.h.id (0 : Nat) → ∀ (v_5 : Int), v_5 = IntKind.i64.wrap ((↑g.i : Int) + (1 : Int)) → (∃
  (y_2 : Bool), x.len = (0 : Nat) ∧ ((((x.nil = true → x.nil = true) ∧ (x.nil = false → x.nil = false ∧ True ∧ True ∧ (0 : Nat) = (0 : Nat) ∧ x.len = x.len ∧ x.cap = x.cap)) ∧ (True ∧ True) ∧ (True ∧ True ∧ (0 : Nat) = (0
  : Nat) ∧ x.len = (0 : Nat) ∧ x.len = (0 : Nat)) ∧ v = (0 : Int) ∧ v_4 = (-1 : Int) ∧ v_5 = (0 : Int) ∧ True) ∧ (x.len * (1 : Nat) ≤ x.len * (1 : Nat) ∧ x.len = x.len ∧ ∀ (j : Nat), j < x.len → x.f j = x.f j) ∧ ((65 :
  Nat) ≤ (65 : Nat) ∧ False ∧ ((64 : Nat) = (64 : Nat) ∧ ∀ (j : Nat), j < (64 : Nat) → y_1.at_ j = a0 j) ∧ True) ∧ ((0 : Nat) ≤ x.len * (1 : Nat) ∧ (0 : Nat) = x.len ∧ ∀ (j : Nat), j < x.len → (bif j.beq ((0 : Nat) +
  (g.h.id (0 : Nat)).toNat) then true else g.s j) = false) ∧ True) ∧ (sG0 x).μ y_2 < (sG0 x).μ y) ∨ ∃ (y_2 : SB), (sG1 x).I y_2 ∧ ((((x.nil = true → x.nil = true) ∧ (x.nil = false → x.nil = false ∧ True ∧ True ∧ (0 : Nat)
  = (0 : Nat) ∧ x.len = x.len ∧ x.cap = x.cap)) ∧ (True ∧ True) ∧ (True ∧ True ∧ (0 : Nat) = (0 : Nat) ∧ x.len = x.len ∧ x.len = x.len) ∧ v = y_2.last ∧ v_4 = y_2.bef ∧ v_5 = (↑y_2.i : Int) ∧ True) ∧ (x.len * (1 : Nat) ≤
  x.len * (1 : Nat) ∧ x.len = x.len ∧ ∀ (j : Nat), j < x.len → x.f j = x.f j) ∧ ((65 : Nat) ≤ (65 : Nat) ∧ (True ∧ True ∧ (0 : Nat) = (0 : Nat) ∧ y_1.n = y_2.h.n ∧ y_1.cap = y_2.h.cap) ∧ ((64 : Nat) = (64 : Nat) ∧ ∀ (j :
  Nat), j < (64 : Nat) → y_1.at_ j = y_2.h.at_ j) ∧ True) ∧ (y_2.h.cap * (2 : Nat) ≤ y_1.cap * (2 : Nat) ∧ y_2.h.n ≤ y_1.n ∧ ∀ (j : Nat), j < y_2.h.n → y_1.id j = y_2.h.id j ∧ y_1.key j = y_2.h.key j ∧ True) ∧ (x.len * (1
  : Nat) ≤ x.len * (1 : Nat) ∧ x.len = x.len ∧ ∀ (j : Nat), j < x.len → (bif j.beq ((0 : Nat) + (g.h.id (0 : Nat)).toNat) then true else g.s j) = y_2.s j) ∧ True) ∧ (sG1 x).μ y_2 < (sG0 x).μ y) ∧ (decide ((0 : Int) <
  (↑x.len : Int)) = false → (((True ∧ True) ∧ True) ∧ ((65 : Nat) ≤ (65 : Nat) ∧ True ∧ ((64 : Nat) = (64 : Nat) ∧ ∀ (j : Nat), j < (64 : Nat) → a0 j = a0 j) ∧ True) ∧ True) ∧ (∀ (i : Nat), i < (64 : Nat) → a0 i = (0 :
  Int)) ∧ ∀ (v : Int), v = (-1 : Int) → ∀ (v : Int), v = (0 : Int) → ((!false) = true → (((True ∧ True) ∧ True) ∧ ((65 : Nat) ≤ (65 : Nat) ∧ True ∧ ((64 : Nat) = (64 : Nat) ∧ ∀ (j : Nat), j < (64 : Nat) → a0 j = a0 j) ∧
  True) ∧ True) ∧ (x.Ok → ((0 : Int) == (0 : Int)) = true ∧ True ∧ (x.len * (1 : Nat) ≤ x.len * (1 : Nat) ∧ x.len = x.len ∧ ∀ (j : Nat), j < x.len → x.f j = x.f j) ∧ True)) ∧ ((!false) = false → x.Ok → False ∧ True ∧
  (x.len * (1 : Nat) ≤ x.len * (1 : Nat) ∧ x.len = x.len ∧ ∀ (j : Nat), j < x.len → x.f j = x.f j) ∧ True))) ∧ ∀ (y : SB), (sG1 x).I y → (x.nil = true → x.len = (0 : Nat)) ∧ (decide ((↑y.i : Int) < (↑x.len : Int)) = true →
  (((True ∧ True) ∧ True) ∧ ((65 : Nat) ≤ (65 : Nat) ∧ (True ∧ True ∧ (0 : Nat) = (0 : Nat) ∧ y.h.n = y.h.n ∧ y.h.cap = y.h.cap) ∧ ((64 : Nat) = (64 : Nat) ∧ ∀ (j : Nat), j < (64 : Nat) → y.h.at_ j = y.h.at_ j) ∧ True) ∧
  (y.h.cap * (2 : Nat) ≤ y.h.cap * (2 : Nat) ∧ y.h.n = y.h.n ∧ ∀ (j : Nat), j < y.h.n → y.h.id j = y.h.id j ∧ y.h.key j = y.h.key j ∧ True) ∧ True) ∧ ((HP.mk y.h.n y.h.cap (fun (j : Nat) => y.h.id j) (fun (j : Nat) =>
  y.h.key j) y.h.at_).Full ∧ y.h.n ≤ (10000 : Nat)) ∧ (y.h.n = (0 : Nat) → ∀ (v : Int), v = (-1 : Int) → ∀ (v_3 : Int), v_3 = (0 : Int) → ∃ (g : SB), (((!false) = true → x.Ok → False ∧ True ∧ (x.len * (1 : Nat) ≤ x.len *
  (1 : Nat) ∧ x.len = x.len ∧ ∀ (j : Nat), j < x.len → x.f j = x.f j) ∧ True) ∧ ((!false) = false → (decide (v < (0 : Int)) = true → x.Ok → False ∧ True ∧ (x.len * (1 : Nat) ≤ x.len * (1 : Nat) ∧ x.len = x.len ∧ ∀ (j :
  Nat), j < x.len → x.f j = x.f j) ∧ True) ∧ (decide (v < (0 : Int)) = false → (x.nil = true → x.len = (0 : Nat)) ∧ (decide (v ≥ (↑x.len : Int)) = true → x.Ok → False ∧ True ∧ (x.len * (1 : Nat) ≤ x.len * (1 : Nat) ∧ x.len
  = x.len ∧ ∀ (j : Nat), j < x.len → x.f j = x.f j) ∧ True) ∧ (decide (v ≥ (↑x.len : Int)) = false → ((0 : Int) ≤ v ∧ v < (↑x.len : Int)) ∧ (0 : Nat) + v.toNat < x.len ∧ (y.s ((0 : Nat) + v.toNat) = true → x.Ok → False ∧
  True ∧ (x.len * (1 : Nat) ≤ x.len * (1 : Nat) ∧ x.len = x.len ∧ ∀ (j : Nat), j < x.len → x.f j = x.f j) ∧ True) ∧ (y.s ((0 : Nat) + v.toNat) = false → (x.nil = true → x.len = (0 : Nat)) ∧ ((0 : Int) ≤ v ∧ v < (↑x.len :
  Int)) ∧ (0 : Nat) + v.toNat < x.len ∧ ((x.f ((0 : Nat) + v.toNat) != v_3) = true → x.Ok → False ∧ True ∧ (x.len * (1 : Nat) ≤ x.len * (1 : Nat) ∧ x.len = x.len ∧ ∀ (j : Nat), j < x.len → x.f j = x.f j) ∧ True) ∧ ((x.f
  ((0 : Nat) + v.toNat) != v_3) = false → (decide (v_3 < y.last) = true → x.Ok → False ∧ True ∧ (x.len * (1 : Nat) ≤ x.len * (1 : Nat) ∧ x.len = x.len ∧ ∀ (j : Nat), j < x.len → x.f j = x.f j) ∧ True) ∧ (decide (v_3 <
  y.last) = false → (decide ((↑y.i : Int) > (0 : Int)) = true → ((v_3 == y.last) = true → (decide (v < y.bef) = true → x.Ok → False ∧ True ∧ (x.len * (1 : Nat) ≤ x.len * (1 : Nat) ∧ x.len = x.len ∧ ∀ (j : Nat), j < x.len →
  x.f j = x.f j) ∧ True) ∧ (decide (v < y.bef) = false → ∃ (y_1 : HP), (SB.I x g ∧ g.i < x.len ∧ y_1.Full ∧ y_1.n = g.h.n - (1 : Nat) ∧ ∀ (j : Int), y_1.M j = if j = g.h.id (0 : Nat) then none else g.h.M j) ∧ ((((x.nil =
  true → x.nil = true) ∧ (x.nil = false → x.nil = false ∧ True ∧ True ∧ (0 : Nat) = (0 : Nat) ∧ x.len = x.len ∧ x.cap = x.cap)) ∧ (True ∧ True) ∧ (True ∧ True ∧ (0 : Nat) = (0 : Nat) ∧ x.len = x.len ∧ x.len = x.len) ∧
  (↑y.i : Int) = (↑g.i : Int) ∧ v = g.h.id (0 : Nat) ∧ v_3 = g.h.key (0 : Nat) ∧ True) ∧ (x.len * (1 : Nat) ≤ x.len * (1 : Nat) ∧ x.len = x.len ∧ ∀ (j : Nat), j < x.len → x.f j = x.f j) ∧ ((65 : Nat) ≤ (65 : Nat) ∧ (True ∧
  True ∧ (0 : Nat) = (0 : Nat) ∧ y.h.n = y_1.n ∧ y.h.cap = y_1.cap) ∧ ((64 : Nat) = (64 : Nat) ∧ ∀ (j : Nat), j < (64 : Nat) → y.h.at_ j = y_1.at_ j) ∧ True) ∧ (y_1.cap * (2 : Nat) ≤ y.h.cap * (2 : Nat) ∧ y_1.n ≤ y.h.n ∧ ∀
  (j : Nat), j < y_1.n → y.h.id j = y_1.id j ∧ y.h.key j = y_1.key j ∧ True) ∧ (x.len * (1 : Nat) ≤ x.len * (1 : Nat) ∧ x.len = x.len ∧ ∀ (j : Nat), j < x.len → y.s j = g.s j) ∧ True) ∧ True)) ∧ ((v_3 == y.last) = false →
  ∃ (y_1 : HP), (SB.I x g ∧ g.i < x.len ∧ y_1.Full ∧ y_1.n = g.h.n - (1 : Nat) ∧ ∀ (j : Int), y_1.M j = if j = g.h.id (0 : Nat) then none else g.h.M j) ∧ ((((x.nil = true → x.nil = true) ∧ (x.nil = false → x.nil = false ∧
  True ∧ True ∧ (0 : Nat) = (0 : Nat) ∧ x.len = x.len ∧ x.cap = x.cap)) ∧ (True ∧ True) ∧ (True ∧ True ∧ (0 : Nat) = (0 : Nat) ∧ x.len = x.len ∧ x.len = x.len) ∧ (↑y.i : Int) = (↑g.i : Int) ∧ v = g.h.id (0 : Nat) ∧ v_3 =
  g.h.key (0 : Nat) ∧ True) ∧ (x.len * (1 : Nat) ≤ x.len * (1 : Nat) ∧ x.len = x.len ∧ ∀ (j : Nat), j < x.len → x.f j = x.f j) ∧ ((65 : Nat) ≤ (65 : Nat) ∧ (True ∧ True ∧ (0 : Nat) = (0 : Nat) ∧ y.h.n = y_1.n ∧ y.h.cap =
  y_1.cap) ∧ ((64 : Nat) = (64 : Nat) ∧ ∀ (j : Nat), j < (64 : Nat) → y.h.at_ j = y_1.at_ j) ∧ True) ∧ (y_1.cap * (2 : Nat) ≤ y.h.cap * (2 : Nat) ∧ y_1.n ≤ y.h.n ∧ ∀ (j : Nat), j < y_1.n → y.h.id j = y_1.id j ∧ y.h.key j =
  y_1.key j ∧ True) ∧ (x.len * (1 : Nat) ≤ x.len * (1 : Nat) ∧ x.len = x.len ∧ ∀ (j : Nat), j < x.len → y.s j = g.s j) ∧ True) ∧ True)) ∧ (decide ((↑y.i : Int) > (0 : Int)) = false → ∃ (y_1 : HP), (SB.I x g ∧ g.i < x.len ∧
  y_1.Full ∧ y_1.n = g.h.n - (1 : Nat) ∧ ∀ (j : Int), y_1.M j = if j = g.h.id (0 : Nat) then none else g.h.M j) ∧ ((((x.nil = true → x.nil = true) ∧ (x.nil = false → x.nil = false ∧ True ∧ True ∧ (0 : Nat) = (0 : Nat) ∧
  x.len = x.len ∧ x.cap = x.cap)) ∧ (True ∧ True) ∧ (True ∧ True ∧ (0 : Nat) = (0 : Nat) ∧ x.len = x.len ∧ x.len = x.len) ∧ (↑y.i : Int) = (↑g.i : Int) ∧ v = g.h.id (0 : Nat) ∧ v_3 = g.h.key (0 : Nat) ∧ True) ∧ (x.len * (1
  : Nat) ≤ x.len * (1 : Nat) ∧ x.len = x.len ∧ ∀ (j : Nat), j < x.len → x.f j = x.f j) ∧ ((65 : Nat) ≤ (65 : Nat) ∧ (True ∧ True ∧ (0 : Nat) = (0 : Nat) ∧ y.h.n = y_1.n ∧ y.h.cap = y_1.cap) ∧ ((64 : Nat) = (64 : Nat) ∧ ∀
  (j : Nat), j < (64 : Nat) → y.h.at_ j = y_1.at_ j) ∧ True) ∧ (y_1.cap * (2 : Nat) ≤ y.h.cap * (2 : Nat) ∧ y_1.n ≤ y.h.n ∧ ∀ (j : Nat), j < y_1.n → y.h.id j = y_1.id j ∧ y.h.key j = y_1.key j ∧ True) ∧ (x.len * (1 : Nat)
  ≤ x.len * (1 : Nat) ∧ x.len = x.len ∧ ∀ (j : Nat), j < x.len → y.s j = g.s j) ∧ True) ∧ True)))))))) ∧ ∀ (y_1 : HP), (SB.I x g ∧ g.i < x.len ∧ y_1.Full ∧ y_1.n = g.h.n - (1 : Nat) ∧ ∀ (j : Int), y_1.M j = if j = g.h.id
  (0 : Nat) then none else g.h.M j) → ((0 : Int) ≤ g.h.id (0 : Nat) ∧ g.h.id (0 : Nat) < (↑x.len : Int)) ∧ (0 : Nat) + (g.h.id (0 : Nat)).toNat < x.len ∧ ∀ (v : Int), v = g.h.key (0 : Nat) → ∀ (v_4 : Int), v_4 = g.h.id (0
  : Nat) → ∀ (v_5 : Int), v_5 = IntKind.i64.wrap ((↑g.i : Int) + (1 : Int)) → (∃ (y_2 : Bool), x.len = (0 : Nat) ∧ ((((x.nil = true → x.nil = true) ∧ (x.nil = false → x.nil = false ∧ True ∧ True ∧ (0 : Nat) = (0 : Nat) ∧
  x.len = x.len ∧ x.cap = x.cap)) ∧ (True ∧ True) ∧ (True ∧ True ∧ (0 : Nat) = (0 : Nat) ∧ x.len = (0 : Nat) ∧ x.len = (0 : Nat)) ∧ v = (0 : Int) ∧ v_4 = (-1 : Int) ∧ v_5 = (0 : Int) ∧ True) ∧ (x.len * (1 : Nat) ≤ x.len *
  (1 : Nat) ∧ x.len = x.len ∧ ∀ (j : Nat), j < x.len → x.f j = x.f j) ∧ ((65 : Nat) ≤ (65 : Nat) ∧ False ∧ ((64 : Nat) = (64 : Nat) ∧ ∀ (j : Nat), j < (64 : Nat) → y_1.at_ j = a0 j) ∧ True) ∧ ((0 : Nat) ≤ x.len * (1 : Nat)
  ∧ (0 : Nat) = x.len ∧ ∀ (j : Nat), j < x.len → (bif j.beq ((0 : Nat) + (g.h.id (0 : Nat)).toNat) then true else g.s j) = false) ∧ True) ∧ (sG0 x).μ y_2 < (sG1 x).μ y) ∨ ∃ (y_2 : SB), (sG1 x).I y_2 ∧ ((((x.nil = true →
  x.nil = true) ∧ (x.nil = false → x.nil = false ∧ True ∧ True ∧ (0 : Nat) = (0 : Nat) ∧ x.len = x.len ∧ x.cap = x.cap)) ∧ (True ∧ True) ∧ (True ∧ True ∧ (0 : Nat) = (0 : Nat) ∧ x.len = x.len ∧ x.len = x.len) ∧ v =
  y_2.last ∧ v_4 = y_2.bef ∧ v_5 = (↑y_2.i : Int) ∧ True) ∧ (x.len * (1 : Nat) ≤ x.len * (1 : Nat) ∧ x.len = x.len ∧ ∀ (j : Nat), j < x.len → x.f j = x.f j) ∧ ((65 : Nat) ≤ (65 : Nat) ∧ (True ∧ True ∧ (0 : Nat) = (0 : Nat)
  ∧ y_1.n = y_2.h.n ∧ y_1.cap = y_2.h.cap) ∧ ((64 : Nat) = (64 : Nat) ∧ ∀ (j : Nat), j < (64 : Nat) → y_1.at_ j = y_2.h.at_ j) ∧ True) ∧ (y_2.h.cap * (2 : Nat) ≤ y_1.cap * (2 : Nat) ∧ y_2.h.n ≤ y_1.n ∧ ∀ (j : Nat), j <
  y_2.h.n → y_1.id j = y_2.h.id j ∧ y_1.key j = y_2.h.key j ∧ True) ∧ (x.len * (1 : Nat) ≤ x.len * (1 : Nat) ∧ x.len = x.len ∧ ∀ (j : Nat), j < x.len → (bif j.beq ((0 : Nat) + (g.h.id (0 : Nat)).toNat) then true else g.s
  j) = y_2.s j) ∧ True) ∧ (sG1 x).μ y_2 < (sG1 x).μ y) ∧ (¬y.h.n = (0 : Nat) → ∀ (x_1 : HP), (x_1.Full ∧ (x_1.n = y.h.n - (1 : Nat) ∧ x_1.cap = y.h.cap) ∧ ∀ (i : Int), x_1.M i = if i = y.h.id (0 : Nat) then none else
  (HP.mk y.h.n y.h.cap (fun (j : Nat) => y.h.id j) (fun (j : Nat) => y.h.key j) y.h.at_).M i) → ∀ (v : Int), v = y.h.id (0 : Nat) → ∀ (v_3 : Int), v_3 = y.h.key (0 : Nat) → ∃ (g : SB), (((!true) = true → x.Ok → False ∧
  True ∧ (x.len * (1 : Nat) ≤ x.len * (1 : Nat) ∧ x.len = x.len ∧ ∀ (j : Nat), j < x.len → x.f j = x.f j) ∧ True) ∧ ((!true) = false → (decide (v < (0 : Int)) = true → x.Ok → False ∧ True ∧ (x.len * (1 : Nat) ≤ x.len * (1
  : Nat) ∧ x.len = x.len ∧ ∀ (j : Nat), j < x.len → x.f j = x.f j) ∧ True) ∧ (decide (v < (0 : Int)) = false → (x.nil = true → x.len = (0 : Nat)) ∧ (decide (v ≥ (↑x.len : Int)) = true → x.Ok → False ∧ True ∧ (x.len * (1 :
  Nat) ≤ x.len * (1 : Nat) ∧ x.len = x.len ∧ ∀ (j : Nat), j < x.len → x.f j = x.f j) ∧ True) ∧ (decide (v ≥ (↑x.len : Int)) = false → ((0 : Int) ≤ v ∧ v < (↑x.len : Int)) ∧ (0 : Nat) + v.toNat < x.len ∧ (y.s ((0 : Nat) +
  v.toNat) = true → x.Ok → False ∧ True ∧ (x.len * (1 : Nat) ≤ x.len * (1 : Nat) ∧ x.len = x.len ∧ ∀ (j : Nat), j < x.len → x.f j = x.f j) ∧ True) ∧ (y.s ((0 : Nat) + v.toNat) = false → (x.nil = true → x.len = (0 : Nat)) ∧
  ((0 : Int) ≤ v ∧ v < (↑x.len : Int)) ∧ (0 : Nat) + v.toNat < x.len ∧ ((x.f ((0 : Nat) + v.toNat) != v_3) = true → x.Ok → False ∧ True ∧ (x.len * (1 : Nat) ≤ x.len * (1 : Nat) ∧ x.len = x.len ∧ ∀ (j : Nat), j < x.len →
  x.f j = x.f j) ∧ True) ∧ ((x.f ((0 : Nat) + v.toNat) != v_3) = false → (decide (v_3 < y.last) = true → x.Ok → False ∧ True ∧ (x.len * (1 : Nat) ≤ x.len * (1 : Nat) ∧ x.len = x.len ∧ ∀ (j : Nat), j < x.len → x.f j = x.f
  j) ∧ True) ∧ (decide (v_3 < y.last) = false → (decide ((↑y.i : Int) > (0 : Int)) = true → ((v_3 == y.last) = true → (decide (v < y.bef) = true → x.Ok → False ∧ True ∧ (x.len * (1 : Nat) ≤ x.len * (1 : Nat) ∧ x.len =
  x.len ∧ ∀ (j : Nat), j < x.len → x.f j = x.f j) ∧ True) ∧ (decide (v < y.bef) = false → ∃ (y_1 : HP), (SB.I x g ∧ g.i < x.len ∧ y_1.Full ∧ y_1.n = g.h.n - (1 : Nat) ∧ ∀ (j : Int), y_1.M j = if j = g.h.id (0 : Nat) then
  none else g.h.M j) ∧ ((((x.nil = true → x.nil = true) ∧ (x.nil = false → x.nil = false ∧ True ∧ True ∧ (0 : Nat) = (0 : Nat) ∧ x.len = x.len ∧ x.cap = x.cap)) ∧ (True ∧ True) ∧ (True ∧ True ∧ (0 : Nat) = (0 : Nat) ∧
  x.len = x.len ∧ x.len = x.len) ∧ (↑y.i : Int) = (↑g.i : Int) ∧ v = g.h.id (0 : Nat) ∧ v_3 = g.h.key (0 : Nat) ∧ True) ∧ (x.len * (1 : Nat) ≤ x.len * (1 : Nat) ∧ x.len = x.len ∧ ∀ (j : Nat), j < x.len → x.f j = x.f j) ∧
  ((65 : Nat) ≤ (65 : Nat) ∧ (True ∧ True ∧ (0 : Nat) = (0 : Nat) ∧ x_1.n = y_1.n ∧ x_1.cap = y_1.cap) ∧ ((64 : Nat) = (64 : Nat) ∧ ∀ (j : Nat), j < (64 : Nat) → x_1.at_ j = y_1.at_ j) ∧ True) ∧ (y_1.cap * (2 : Nat) ≤
  y.h.cap * (2 : Nat) ∧ y_1.n ≤ x_1.n ∧ ∀ (j : Nat), j < y_1.n → x_1.id j = y_1.id j ∧ x_1.key j = y_1.key j ∧ True) ∧ (x.len * (1 : Nat) ≤ x.len * (1 : Nat) ∧ x.len = x.len ∧ ∀ (j : Nat), j < x.len → y.s j = g.s j) ∧
  True) ∧ True)) ∧ ((v_3 == y.last) = false → ∃ (y_1 : HP), (SB.I x g ∧ g.i < x.len ∧ y_1.Full ∧ y_1.n = g.h.n - (1 : Nat) ∧ ∀ (j : Int), y_1.M j = if j = g.h.id (0 : Nat) then none else g.h.M j) ∧ ((((x.nil = true → x.nil
  = true) ∧ (x.nil = false → x.nil = false ∧ True ∧ True ∧ (0 : Nat) = (0 : Nat) ∧ x.len = x.len ∧ x.cap = x.cap)) ∧ (True ∧ True) ∧ (True ∧ True ∧ (0 : Nat) = (0 : Nat) ∧ x.len = x.len ∧ x.len = x.len) ∧ (↑y.i : Int) =
  (↑g.i : Int) ∧ v = g.h.id (0 : Nat) ∧ v_3 = g.h.key (0 : Nat) ∧ True) ∧ (x.len * (1 : Nat) ≤ x.len * (1 : Nat) ∧ x.len = x.len ∧ ∀ (j : Nat), j < x.len → x.f j = x.f j) ∧ ((65 : Nat) ≤ (65 : Nat) ∧ (True ∧ True ∧ (0 :
  Nat) = (0 : Nat) ∧ x_1.n = y_1.n ∧ x_1.cap = y_1.cap) ∧ ((64 : Nat) = (64 : Nat) ∧ ∀ (j : Nat), j < (64 : Nat) → x_1.at_ j = y_1.at_ j) ∧ True) ∧ (y_1.cap * (2 : Nat) ≤ y.h.cap * (2 : Nat) ∧ y_1.n ≤ x_1.n ∧ ∀ (j : Nat),
  j < y_1.n → x_1.id j = y_1.id j ∧ x_1.key j = y_1.key j ∧ True) ∧ (x.len * (1 : Nat) ≤ x.len * (1 : Nat) ∧ x.len = x.len ∧ ∀ (j : Nat), j < x.len → y.s j = g.s j) ∧ True) ∧ True)) ∧ (decide ((↑y.i : Int) > (0 : Int)) =
  false → ∃ (y_1 : HP), (SB.I x g ∧ g.i < x.len ∧ y_1.Full ∧ y_1.n = g.h.n - (1 : Nat) ∧ ∀ (j : Int), y_1.M j = if j = g.h.id (0 : Nat) then none else g.h.M j) ∧ ((((x.nil = true → x.nil = true) ∧ (x.nil = false → x.nil =
  false ∧ True ∧ True ∧ (0 : Nat) = (0 : Nat) ∧ x.len = x.len ∧ x.cap = x.cap)) ∧ (True ∧ True) ∧ (True ∧ True ∧ (0 : Nat) = (0 : Nat) ∧ x.len = x.len ∧ x.len = x.len) ∧ (↑y.i : Int) = (↑g.i : Int) ∧ v = g.h.id (0 : Nat) ∧
  v_3 = g.h.key (0 : Nat) ∧ True) ∧ (x.len * (1 : Nat) ≤ x.len * (1 : Nat) ∧ x.len = x.len ∧ ∀ (j : Nat), j < x.len → x.f j = x.f j) ∧ ((65 : Nat) ≤ (65 : Nat) ∧ (True ∧ True ∧ (0 : Nat) = (0 : Nat) ∧ x_1.n = y_1.n ∧
  x_1.cap = y_1.cap) ∧ ((64 : Nat) = (64 : Nat) ∧ ∀ (j : Nat), j < (64 : Nat) → x_1.at_ j = y_1.at_ j) ∧ True) ∧ (y_1.cap * (2 : Nat) ≤ y.h.cap * (2 : Nat) ∧ y_1.n ≤ x_1.n ∧ ∀ (j : Nat), j < y_1.n → x_1.id j = y_1.id j ∧
  x_1.key j = y_1.key j ∧ True) ∧ (x.len * (1 : Nat) ≤ x.len * (1 : Nat) ∧ x.len = x.len ∧ ∀ (j : Nat), j < x.len → y.s j = g.s j) ∧ True) ∧ True)))))))) ∧ ∀ (y_1 : HP), (SB.I x g ∧ g.i < x.len ∧ y_1.Full ∧ y_1.n = g.h.n -
  (1 : Nat) ∧ ∀ (j : Int), y_1.M j = if j = g.h.id (0 : Nat) then none else g.h.M j) → ((0 : Int) ≤ g.h.id (0 : Nat) ∧ g.h.id (0 : Nat) < (↑x.len : Int)) ∧ (0 : Nat) + (g.h.id (0 : Nat)).toNat < x.len ∧ ∀ (v : Int), v =
  g.h.key (0 : Nat) → ∀ (v_4 : Int), v_4 = g.h.id (0 : Nat) → ∀ (v_5 : Int), v_5 = IntKind.i64.wrap ((↑g.i : Int) + (1 : Int)) → (∃ (y_2 : Bool), x.len = (0 : Nat) ∧ ((((x.nil = true → x.nil = true) ∧ (x.nil = false →
  x.nil = false ∧ True ∧ True ∧ (0 : Nat) = (0 : Nat) ∧ x.len = x.len ∧ x.cap = x.cap)) ∧ (True ∧ True) ∧ (True ∧ True ∧ (0 : Nat) = (0 : Nat) ∧ x.len = (0 : Nat) ∧ x.len = (0 : Nat)) ∧ v = (0 : Int) ∧ v_4 = (-1 : Int) ∧
  v_5 = (0 : Int) ∧ True) ∧ (x.len * (1 : Nat) ≤ x.len * (1 : Nat) ∧ x.len = x.len ∧ ∀ (j : Nat), j < x.len → x.f j = x.f j) ∧ ((65 : Nat) ≤ (65 : Nat) ∧ False ∧ ((64 : Nat) = (64 : Nat) ∧ ∀ (j : Nat), j < (64 : Nat) →
  y_1.at_ j = a0 j) ∧ True) ∧ ((0 : Nat) ≤ x.len * (1 : Nat) ∧ (0 : Nat) = x.len ∧ ∀ (j : Nat), j < x.len → (bif j.beq ((0 : Nat) + (g.h.id (0 : Nat)).toNat) then true else g.s j) = false) ∧ True) ∧ (sG0 x).μ y_2 < (sG1
  x).μ y) ∨ ∃ (y_2 : SB), (sG1 x).I y_2 ∧ ((((x.nil = true → x.nil = true) ∧ (x.nil = false → x.nil = false ∧ True ∧ True ∧ (0 : Nat) = (0 : Nat) ∧ x.len = x.len ∧ x.cap = x.cap)) ∧ (True ∧ True) ∧ (True ∧ True ∧ (0 : Nat)
  = (0 : Nat) ∧ x.len = x.len ∧ x.len = x.len) ∧ v = y_2.last ∧ v_4 = y_2.bef ∧ v_5 = (↑y_2.i : Int) ∧ True) ∧ (x.len * (1 : Nat) ≤ x.len * (1 : Nat) ∧ x.len = x.len ∧ ∀ (j : Nat), j < x.len → x.f j = x.f j) ∧ ((65 : Nat)
  ≤ (65 : Nat) ∧ (True ∧ True ∧ (0 : Nat) = (0 : Nat) ∧ y_1.n = y_2.h.n ∧ y_1.cap = y_2.h.cap) ∧ ((64 : Nat) = (64 : Nat) ∧ ∀ (j : Nat), j < (64 : Nat) → y_1.at_ j = y_2.h.at_ j) ∧ True) ∧ (y_2.h.cap * (2 : Nat) ≤ y_1.cap
  * (2 : Nat) ∧ y_2.h.n ≤ y_1.n ∧ ∀ (j : Nat), j < y_2.h.n → y_1.id j = y_2.h.id j ∧ y_1.key j = y_2.h.key j ∧ True) ∧ (x.len * (1 : Nat) ≤ x.len * (1 : Nat) ∧ x.len = x.len ∧ ∀ (j : Nat), j < x.len → (bif j.beq ((0 : Nat)
  + (g.h.id (0 : Nat)).toNat) then true else g.s j) = y_2.s j) ∧ True) ∧ (sG1 x).μ y_2 < (sG1 x).μ y)) ∧ (decide ((↑y.i : Int) < (↑x.len : Int)) = false → (((True ∧ True) ∧ True) ∧ ((65 : Nat) ≤ (65 : Nat) ∧ (True ∧ True ∧
  (0 : Nat) = (0 : Nat) ∧ y.h.n = y.h.n ∧ y.h.cap = y.h.cap) ∧ ((64 : Nat) = (64 : Nat) ∧ ∀ (j : Nat), j < (64 : Nat) → y.h.at_ j = y.h.at_ j) ∧ True) ∧ (y.h.cap * (2 : Nat) ≤ y.h.cap * (2 : Nat) ∧ y.h.n = y.h.n ∧ ∀ (j :
  Nat), j < y.h.n → y.h.id j = y.h.id j ∧ y.h.key j = y.h.key j ∧ True) ∧ True) ∧ ((HP.mk y.h.n y.h.cap (fun (j : Nat) => y.h.id j) (fun (j : Nat) => y.h.key j) y.h.at_).Full ∧ y.h.n ≤ (10000 : Nat)) ∧ (y.h.n = (0 : Nat) →
  ∀ (v : Int), v = (-1 : Int) → ∀ (v : Int), v = (0 : Int) → ((!false) = true → (((True ∧ True) ∧ True) ∧ ((65 : Nat) ≤ (65 : Nat) ∧ (True ∧ True ∧ (0 : Nat) = (0 : Nat) ∧ y.h.n = y.h.n ∧ y.h.cap = y.h.cap) ∧ ((64 : Nat) =
  (64 : Nat) ∧ ∀ (j : Nat), j < (64 : Nat) → y.h.at_ j = y.h.at_ j) ∧ True) ∧ (y.h.cap * (2 : Nat) ≤ y.h.cap * (2 : Nat) ∧ y.h.n = y.h.n ∧ ∀ (j : Nat), j < y.h.n → y.h.id j = y.h.id j ∧ y.h.key j = y.h.key j ∧ True) ∧
  True) ∧ (x.Ok → ((↑y.h.n : Int) == (0 : Int)) = true ∧ True ∧ (x.len * (1 : Nat) ≤ x.len * (1 : Nat) ∧ x.len = x.len ∧ ∀ (j : Nat), j < x.len → x.f j = x.f j) ∧ True)) ∧ ((!false) = false → x.Ok → False ∧ True ∧ (x.len *
  (1 : Nat) ≤ x.len * (1 : Nat) ∧ x.len = x.len ∧ ∀ (j : Nat), j < x.len → x.f j = x.f j) ∧ True)) ∧ (¬y.h.n = (0 : Nat) → ∀ (x_1 : HP), (x_1.Full ∧ (x_1.n = y.h.n - (1 : Nat) ∧ x_1.cap = y.h.cap) ∧ ∀ (i : Int), x_1.M i =
  if i = y.h.id (0 : Nat) then none else (HP.mk y.h.n y.h.cap (fun (j : Nat) => y.h.id j) (fun (j : Nat) => y.h.key j) y.h.at_).M i) → ∀ (v : Int), v = y.h.id (0 : Nat) → ∀ (v : Int), v = y.h.key (0 : Nat) → ((!true) =
  true → (((True ∧ True) ∧ True) ∧ ((65 : Nat) ≤ (65 : Nat) ∧ (True ∧ True ∧ (0 : Nat) = (0 : Nat) ∧ x_1.n = x_1.n ∧ x_1.cap = x_1.cap) ∧ ((64 : Nat) = (64 : Nat) ∧ ∀ (j : Nat), j < (64 : Nat) → x_1.at_ j = x_1.at_ j) ∧
  True) ∧ (x_1.cap * (2 : Nat) ≤ y.h.cap * (2 : Nat) ∧ x_1.n = x_1.n ∧ ∀ (j : Nat), j < x_1.n → x_1.id j = x_1.id j ∧ x_1.key j = x_1.key j ∧ True) ∧ True) ∧ (x.Ok → ((↑x_1.n : Int) == (0 : Int)) = true ∧ True ∧ (x.len *
  (1 : Nat) ≤ x.len * (1 : Nat) ∧ x.len = x.len ∧ ∀ (j : Nat), j < x.len → x.f j = x.f j) ∧ True)) ∧ ((!true) = false → x.Ok → False ∧ True ∧ (x.len * (1 : Nat) ≤ x.len * (1 : Nat) ∧ x.len = x.len ∧ ∀ (j : Nat), j < x.len
  → x.f j = x.f j) ∧ True)))) := by
  simp only [true_and, and_true, eq_self, Nat.le_refl, decide_eq_true_eq, decide_eq_false_iff_not, beq_iff_eq, beq_eq_false_iff_ne, implies_true, true_implies, and_self, bne_iff_ne, Int.not_lt, Int.not_le, ge_iff_le, gt_iff_lt, ne_eq, Nat.zero_add, Int.toNat_natCast, cond_nbeq, IntKind.wrap_i64, bne_eq_false_iff_eq, Bool.not_eq_true', Bool.not_eq_false']
  intro x hx
  have hM1 : ∀ z : SA, (sF1 x).μ z = x.len - z.i := fun _ => rfl
  have hM2 : ∀ z : SB, (sG1 x).μ z = x.len - z.i := fun _ => rfl
  have hM3 : ∀ z : Bool, (sF0 x).μ z = x.len + 1 := fun _ => rfl
  have hI2 : ∀ z : SB, (sG1 x).I z = z.I x := fun _ => rfl
  have hI0 : ∀ z : Bool, (sF0 x).I z = (x.len ≤ 64) := fun _ => rfl
  simp only [HP.eta, hM1, hM2, hM3, hI2, hI0, hx, and_false, false_and, exists_false, or_false, false_or, imp_self, implies_true, and_self, true_and, and_true, not_true_eq_false, false_implies, true_implies, Bool.false_eq_true, Bool.true_eq_false, forall_eq, exists_const, imp_false]
  clear hM1 hM2 hM3 hI2 hI0
  have hx1 := hx.1
  have hx2 := hx.2
  have key0 : ∀ (z : SB), z.I x → z.i < x.len → ∀ g : HP, (g.Full ∧ (g.n = z.h.n - 1 ∧ g.cap = z.h.cap) ∧ ∀ j, g.M j = if j = z.h.id 0 then none else z.h.M j) → SB.I x ⟨g, z.i + 1, z.h.key 0, z.h.id 0, fun j => if j = (z.h.id 0).toNat then true else z.s j⟩ :=
    fun z hz hi g hg => hz.next hi hg.1 hg.2.1.1 hg.2.2
  refine (fun body => ⟨hx1, fun h64 => ⟨⟨by omega, fun _ _ => ⟨hx1, fun hpos => ⟨hx1, ⟨Int.le_refl _, hpos⟩, by omega, ⟨fun _ _ => rfl, hx2 0 (by omega)⟩, fun h => absurd (by decide) h, fun _ h hh => ?_⟩, fun h => by omega⟩, fun y hy => ?_⟩, fun _ h0 => ⟨hx1, ⟨by omega, by omega, by omega, by omega⟩, ⟨h0, h0, by omega, by omega⟩, ?_, body⟩, fun y hy => ⟨hx1, ⟨by omega, by omega, by omega, by omega⟩, ?_, ?_, body⟩⟩⟩) ?_
  · intro y hy
    have hn := hy.n
    have hi := hy.i
    refine ⟨hx1, fun hlt => ?_, fun hge => ⟨⟨hy.f, by omega⟩, fun _ => by omega, fun h => absurd (by omega) h⟩⟩
    obtain ⟨⟨hr, hs⟩, hf⟩ := hy.head (by omega)
    have e0 := hy.f.c.M_some (k := 0) (by omega)
    have ho := hy.o _ _ e0
    unfold ltI at ho
    dsimp only at ho
    refine ⟨⟨hy.f, by omega⟩, by omega, fun _ g hg => ⟨y, ⟨by omega, fun _ => ⟨hx1, by omega, fun _ => ⟨hr, by omega, by rw [hs]; exact nofun, fun _ => ⟨hx1, hr, by omega, fun h => h hf, fun _ => ⟨?_, fun _ => ⟨fun hp => ⟨fun _ => ⟨by have := ho (by omega); omega, fun _ => ⟨g, ⟨hy, by omega, hg.1, hg.2.1.1, hg.2.2⟩, ⟨rfl, rfl, rfl⟩, ⟨⟨rfl, rfl⟩, fun _ _ => rfl⟩, ⟨by rw [hg.2.1.2]; exact Nat.le_refl _, Nat.le_refl _, fun _ _ => ⟨rfl, rfl⟩⟩, fun _ _ => rfl⟩⟩, fun _ => ⟨g, ⟨hy, by omega, hg.1, hg.2.1.1, hg.2.2⟩, ⟨rfl, rfl, rfl⟩, ⟨⟨rfl, rfl⟩, fun _ _ => rfl⟩, ⟨by rw [hg.2.1.2]; exact Nat.le_refl _, Nat.le_refl _, fun _ _ => ⟨rfl, rfl⟩⟩, fun _ _ => rfl⟩⟩, fun _ => ⟨g, ⟨hy, by omega, hg.1, hg.2.1.1, hg.2.2⟩, ⟨rfl, rfl, rfl⟩, ⟨⟨rfl, rfl⟩, fun _ _ => rfl⟩, ⟨by rw [hg.2.1.2]; exact Nat.le_refl _, Nat.le_refl _, fun _ _ => ⟨rfl, rfl⟩⟩, fun _ _ => rfl⟩⟩⟩⟩⟩⟩⟩, fun z hz => ⟨hr, by omega, ⟨z, y.i + 1, y.h.key 0, y.h.id 0, fun j => if j = (y.h.id 0).toNat then true else y.s j⟩, hy.next (by omega) hz.2.2.1 hz.2.2.2.1 hz.2.2.2.2, ⟨⟨rfl, rfl, (by show _ = ((y.i + 1 : Nat) : Int); omega)⟩, ⟨⟨rfl, rfl⟩, fun _ _ => rfl⟩, ⟨Nat.le_refl _, Nat.le_refl _, fun _ _ => ⟨rfl, rfl⟩⟩, fun _ _ => rfl⟩, (by show x.len - (y.i + 1) < x.len - y.i; omega)⟩⟩⟩
    by_cases h0 : 0 < y.i
    · have := ho h0; omega
    · have := hy.z (by omega)
      have := hx2 _ (show (y.h.id 0).toNat < x.len by omega)
      omega
  · refine ⟨⟨h, 1⟩, ⟨⟨Nat.le_refl _, (by show 1 ≤ x.len; omega), by omega⟩, hh.1, hh.2.1, fun j => ?_⟩, ⟨(by show _ = ((1 : Nat) : Int); decide), ⟨⟨rfl, rfl⟩, fun _ _ => rfl⟩, Nat.le_refl _, Nat.le_refl _, fun _ _ => ⟨rfl, rfl⟩⟩, (by show x.len - 1 < x.len + 1; omega)⟩
    show h.M j = if 0 ≤ j ∧ j < ((1 : Nat) : Int) then _ else _
    rw [hh.2.2]
    by_cases e : j = 0
    · rw [if_pos e, if_pos (by omega), e]; rfl
    · rw [if_neg e, if_neg (by omega)]
  · obtain ⟨h, i⟩ := y
    obtain ⟨⟨i1, i2, i3⟩, hf, hn, hM⟩ := hy
    dsimp only at i1 i2 i3 hf hn hM ⊢
    have hno : h.M (i : Nat) = none := by rw [hM, if_neg (by omega)]
    refine ⟨hx1, fun hlt => ⟨hx1, by omega, by omega, ⟨⟨hf, by omega⟩, hx2 i (by omega)⟩, fun h => absurd (by omega) h, fun _ => ⟨fun h => absurd hno h, fun _ g hg => ⟨⟨g, i + 1⟩, ⟨⟨(by show 1 ≤ i + 1; omega), (by show i + 1 ≤ x.len; omega), by omega⟩, hg.1, (by show g.n = i + 1; omega), fun j => ?_⟩, ⟨(by show _ = ((i + 1 : Nat) : Int); omega), ⟨⟨rfl, rfl⟩, fun _ _ => rfl⟩, Nat.le_refl _, Nat.le_refl _, fun _ _ => ⟨rfl, rfl⟩⟩, (by show x.len - (i + 1) < x.len - i; omega)⟩⟩⟩, fun hge => ⟨⟨h, i⟩, ⟨(by show i = x.len; omega), ⟨i1, i2, i3⟩, hf, hn, hM⟩, ⟨⟨rfl, rfl⟩, fun _ _ => rfl⟩, Nat.le_refl _, Nat.le_refl _, fun _ _ => ⟨rfl, rfl⟩⟩⟩
    show g.M j = if 0 ≤ j ∧ j < ((i + 1 : Nat) : Int) then _ else _
    rw [hg.2.2, hM]
    by_cases e : j = (i : Nat)
    · rw [if_pos e, if_pos (by omega), e, Int.toNat_natCast]
    · rw [if_neg e]
      by_cases e2 : 0 ≤ j ∧ j < (i : Nat)
      · rw [if_pos e2, if_pos (by omega)]
      · rw [if_neg e2, if_neg (by omega)]
  · exact fun _ h0 => ⟨hx1, by omega, fun _ _ _ => rfl⟩
  · obtain ⟨h, i⟩ := y
    obtain ⟨e, ⟨i1, i2, i3⟩, hf, hn, hM⟩ := hy
    dsimp only at e i1 i2 i3 hf hn hM ⊢
    refine ⟨⟨h, 0, 0, -1, fun _ => false⟩, ⟨⟨Nat.zero_le _, by omega⟩, hf, (by show h.n = x.len - 0; omega), fun j => ?_, fun _ _ _ h => absurd h (Nat.lt_irrefl 0), fun _ => ⟨rfl, rfl⟩⟩, ⟨rfl, rfl, rfl⟩, ⟨⟨rfl, rfl⟩, fun _ _ => rfl⟩, ⟨Nat.le_refl _, Nat.le_refl _, fun _ _ => ⟨rfl, rfl⟩⟩, fun _ _ => rfl⟩
    show h.M j = _
    rw [hM, e]
    by_cases e2 : 0 ≤ j ∧ j < (x.len : Nat)
    · rw [if_pos e2, if_pos ⟨e2, rfl⟩]
    · rw [if_neg e2, if_neg (fun h => e2 h.1)]
  · exact fun _ h0 => ⟨hx1, by omega, fun _ _ _ => rfl⟩

def hs_C (x : KS) : Cfg := { Γ := Go.Sx.look tHs, names := true, loops := hsL x, cuts := hsK x }
theorem hs_al (x : KS) : Shown (heapSP.vc Try.prog (hs_C x) Try.f3 x) := ⟨@Eq.mp _ _ (by kernel_rfl) (hs_vc x)⟩
theorem hs_ok : SpOk Try.prog 3 heapSP.sp := @Pat.okS _ heapSP Try.prog hs_C 3 Try.f3 (fun x => cfg_tab rfl tHs_ok) (by kernel_rfl) Try.func3 (fun _ => rfl) hs_al
end Go.Proofs.Ytnicidiocncjdaa
