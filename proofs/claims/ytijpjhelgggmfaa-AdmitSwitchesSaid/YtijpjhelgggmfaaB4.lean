import Derived.Test.YtijpjhelgggmfaaB3
open Go Go.Sx Go.Proofs
set_option maxRecDepth 100000
namespace Go.Proofs.Ytijpjhelgggmfaa

/-- The times at which a load's deadlines are. -/
def LL.pt (l : LL) (j m : Nat) : Int := l.t j - l.sl j + m * l.t j
def LL.fine (l : LL) (h : Int) : Prop := ∀ j, j < l.n → ∀ m, m < h.toNat + 1 → l.pt j m ≤ h → l.dem (l.pt j m) l.n ≤ l.pt j m
instance (l : LL) (h : Int) : Decidable (l.fine h) := by unfold LL.fine; infer_instance
def LL.borne (l : LL) : Bool × Int := if ¬ l.right then (false, 11) else if l.W < l.U ∨ (l.U = l.W ∧ ¬ l.S = 0) then (false, 0) else if ¬ l.hor.2 = 0 then (false, l.hor.2) else (decide (l.fine l.hor.1), 0)
theorem LL.hor_bd (l : LL) : 0 ≤ l.hor.1 ∧ l.hor.1 ≤ 65536 := by
  unfold LL.hor
  split
  · exact ⟨by decide, by decide⟩
  · split
    · exact ⟨by decide, by decide⟩
    · unfold lestO
      generalize lst _ 0 65537 = N
      split
      · exact ⟨Int.le_refl 0, by show (0 : Int) ≤ 65536; decide⟩
      · exact ⟨by show (0 : Int) ≤ (N : Int); omega, by show (N : Int) ≤ 65536; omega⟩
theorem LL.pt_succ (l : LL) (j m : Nat) : l.pt j (m + 1) = l.pt j m + l.t j := by
  unfold LL.pt
  rw [show ((m + 1 : Nat) : Int) = m + 1 from rfl, Int.add_mul, Int.one_mul]
  omega
theorem LL.pt_zero (l : LL) (j : Nat) : l.pt j 0 = l.t j - l.sl j := by
  unfold LL.pt
  rw [show ((0 : Nat) : Int) = 0 from rfl, Int.zero_mul, Int.add_zero]
theorem LL.pt_bd {l : LL} (h : l.right) {j : Nat} (hj : j < l.n) : ∀ m : Nat, (m : Int) + 1 ≤ l.pt j m
  | 0 => by
    have hr := h.2 j hj
    unfold rightE at hr
    rw [l.pt_zero]
    unfold LL.sl
    split <;> omega
  | m + 1 => by
    have hr := h.2 j hj
    unfold rightE at hr
    have := LL.pt_bd h hj m
    rw [l.pt_succ]
    omega
theorem LL.fine_iff {l : LL} (h : l.right) (H : Int) : l.fine H ↔ ∀ j, j < l.n → ∀ m, l.pt j m ≤ H → l.dem (l.pt j m) l.n ≤ l.pt j m :=
  ⟨fun hf j hj m hm => hf j hj m (by have := LL.pt_bd h hj m; omega) hm, fun hf j hj m _ hm => hf j hj m hm⟩
def borneP : Pat LS where
  view | [t], H => some (viewL t H) | _, _ => none
  args x := [x.v 0]
  H x := [x.reg]
  out x := .need x.Ok (.retq (.tup (.cons (.bool x.l.borne.1) (.cons (.int .i64 x.l.borne.2) .nil))))
def boC (x : LS) : Fam where
  α := Bool
  I _ := x.l.right ∧ ¬ (x.l.W < x.l.U ∨ (x.l.U = x.l.W ∧ ¬ x.l.S = 0))
  st _ := { sl := mkSl 60 [(0, x.v 0)], H := [x.reg] }
  μ _ := 0
def boF1 (x : LS) : Fam where
  α := Nat
  I y := y ≤ x.len ∧ (x.l.right ∧ ¬ (x.l.W < x.l.U ∨ (x.l.U = x.l.W ∧ ¬ x.l.S = 0)) ∧ x.l.hor.2 = 0) ∧ ∀ j, j < y → ∀ m, x.l.pt j m ≤ x.l.hor.1 → x.l.dem (x.l.pt j m) x.len ≤ x.l.pt j m
  st y := { sl := mkSl 60 [(0, x.v 0), (5, .int .u64 x.l.hor.1), (36, x.v 0), (37, .int .i64 x.len), (38, .int .i64 y)], H := [x.reg] }
  μ y := x.len - y
def boF2 (x : LS) (u : Nat) : Fam where
  α := Nat
  I m := x.l.pt u m ≤ x.l.hor.1 + 8192 ∧ ∀ k, k < m → x.l.dem (x.l.pt u k) x.len ≤ x.l.pt u k
  st m := { sl := mkSl 60 [(0, x.v 0), (5, .int .u64 x.l.hor.1), (8, p0 1), (9, .int .u64 (x.l.pt u m)), (36, x.v 0), (37, .int .i64 x.len), (38, .int .i64 u)], H := [x.reg, newReg 40 (ldT (x.l.k u) (x.l.q u) (x.l.t u))] }
  μ m := (x.l.hor.1 + 8193 - x.l.pt u m).toNat
def boL (x : LS) : Nat → Gam
  | 10 => .l [boF1 x]
  | 13 => .g fun u => [boF2 x u]
  | _ => .l []
def boK (x : LS) : Nat → Gam
  | 6 => .l [boC x]
  | _ => .l []
def tBorne : Tab := [(12, RightP.sp), (32, sumP.sp), (33, evenP.sp), (34, fullP.sp), (16, horP.sp), (30, demP.sp), (42, slP.sp)]
theorem tBorne_ok : TabOk Try.prog tBorne := (tab_cons Right_ok (tab_cons sum_ok (tab_cons even_ok (tab_cons full_ok (tab_cons hor_ok (tab_cons dem_ok (tab_cons sl_ok tab_nil)))))))

theorem borne_vc : ∀ (x : LS), x.Ok ∧ True → ∀ (v : Int), v = (0 : Int) → ((((x.nil = true → x.nil = true) ∧ (x.nil = false → x.nil = false ∧ True ∧ True ∧ x.lo = x.lo ∧ x.len = x.len ∧ x.cap = x.cap)) ∧ True) ∧ ((0 : Nat) ≤ (0 : Nat) ∧
  x.n = x.n ∧ ∀ (j : Nat), j < x.n → x.k j = x.k j ∧ x.q j = x.q j ∧ x.t j = x.t j ∧ True) ∧ True) ∧ x.Ok ∧ ((!decide x.l.right) = true → ∀ (v : Int), v = (11 : Int) → x.Ok → (x.l.borne.fst = false ∧ v = x.l.borne.snd ∧
  True) ∧ True ∧ ((0 : Nat) ≤ (0 : Nat) ∧ x.n = x.n ∧ ∀ (j : Nat), j < x.n → x.k j = x.k j ∧ x.q j = x.q j ∧ x.t j = x.t j ∧ True) ∧ True) ∧ ((!decide x.l.right) = false → (((((x.nil = true → x.nil = true) ∧ (x.nil = false
  → x.nil = false ∧ True ∧ True ∧ x.lo = x.lo ∧ x.len = x.len ∧ x.cap = x.cap)) ∧ True) ∧ ((0 : Nat) ≤ (0 : Nat) ∧ x.n = x.n ∧ ∀ (j : Nat), j < x.n → x.k j = x.k j ∧ x.q j = x.q j ∧ x.t j = x.t j ∧ True) ∧ True) ∧ (x.Ok ∧
  x.l.right) ∧ ((((x.l.prod x.len / (18446744073709551616 : Int) = x.l.prod x.len / (18446744073709551616 : Int) ∧ x.l.prod x.len % (18446744073709551616 : Int) = x.l.prod x.len % (18446744073709551616 : Int) ∧ True) ∧
  (x.l.use (x.l.prod x.len) x.len / (18446744073709551616 : Int) = x.l.use (x.l.prod x.len) x.len / (18446744073709551616 : Int) ∧ x.l.use (x.l.prod x.len) x.len % (18446744073709551616 : Int) = x.l.use (x.l.prod x.len)
  x.len % (18446744073709551616 : Int) ∧ True) ∧ (x.l.slk (x.l.prod x.len) x.len / (18446744073709551616 : Int) = x.l.slk (x.l.prod x.len) x.len / (18446744073709551616 : Int) ∧ x.l.slk (x.l.prod x.len) x.len %
  (18446744073709551616 : Int) = x.l.slk (x.l.prod x.len) x.len % (18446744073709551616 : Int) ∧ True) ∧ True) ∧ True) ∧ True) ∧ ((((0 : Int) ≤ x.l.prod x.len / (18446744073709551616 : Int) ∧ x.l.prod x.len /
  (18446744073709551616 : Int) < (18446744073709551616 : Int)) ∧ (0 : Int) ≤ x.l.prod x.len % (18446744073709551616 : Int) ∧ x.l.prod x.len % (18446744073709551616 : Int) < (18446744073709551616 : Int)) ∧ ((0 : Int) ≤
  x.l.use (x.l.prod x.len) x.len / (18446744073709551616 : Int) ∧ x.l.use (x.l.prod x.len) x.len / (18446744073709551616 : Int) < (18446744073709551616 : Int)) ∧ (0 : Int) ≤ x.l.use (x.l.prod x.len) x.len %
  (18446744073709551616 : Int) ∧ x.l.use (x.l.prod x.len) x.len % (18446744073709551616 : Int) < (18446744073709551616 : Int)) ∧ (decide (wcmp (x.l.use (x.l.prod x.len) x.len / (18446744073709551616 : Int)) (x.l.use
  (x.l.prod x.len) x.len % (18446744073709551616 : Int)) (x.l.prod x.len / (18446744073709551616 : Int)) (x.l.prod x.len % (18446744073709551616 : Int)) > (0 : Int)) = true → ∀ (v : Int), v = (0 : Int) → x.Ok →
  (x.l.borne.fst = false ∧ v = x.l.borne.snd ∧ True) ∧ True ∧ ((0 : Nat) ≤ (0 : Nat) ∧ x.n = x.n ∧ ∀ (j : Nat), j < x.n → x.k j = x.k j ∧ x.q j = x.q j ∧ x.t j = x.t j ∧ True) ∧ True) ∧ (decide (wcmp (x.l.use (x.l.prod
  x.len) x.len / (18446744073709551616 : Int)) (x.l.use (x.l.prod x.len) x.len % (18446744073709551616 : Int)) (x.l.prod x.len / (18446744073709551616 : Int)) (x.l.prod x.len % (18446744073709551616 : Int)) > (0 : Int)) =
  false → ((((x.l.prod x.len / (18446744073709551616 : Int) = x.l.prod x.len / (18446744073709551616 : Int) ∧ x.l.prod x.len % (18446744073709551616 : Int) = x.l.prod x.len % (18446744073709551616 : Int) ∧ True) ∧ (x.l.use
  (x.l.prod x.len) x.len / (18446744073709551616 : Int) = x.l.use (x.l.prod x.len) x.len / (18446744073709551616 : Int) ∧ x.l.use (x.l.prod x.len) x.len % (18446744073709551616 : Int) = x.l.use (x.l.prod x.len) x.len %
  (18446744073709551616 : Int) ∧ True) ∧ (x.l.slk (x.l.prod x.len) x.len / (18446744073709551616 : Int) = x.l.slk (x.l.prod x.len) x.len / (18446744073709551616 : Int) ∧ x.l.slk (x.l.prod x.len) x.len %
  (18446744073709551616 : Int) = x.l.slk (x.l.prod x.len) x.len % (18446744073709551616 : Int) ∧ True) ∧ True) ∧ True) ∧ True) ∧ ((((0 : Int) ≤ x.l.prod x.len / (18446744073709551616 : Int) ∧ x.l.prod x.len /
  (18446744073709551616 : Int) < (18446744073709551616 : Int)) ∧ (0 : Int) ≤ x.l.prod x.len % (18446744073709551616 : Int) ∧ x.l.prod x.len % (18446744073709551616 : Int) < (18446744073709551616 : Int)) ∧ ((0 : Int) ≤
  x.l.use (x.l.prod x.len) x.len / (18446744073709551616 : Int) ∧ x.l.use (x.l.prod x.len) x.len / (18446744073709551616 : Int) < (18446744073709551616 : Int)) ∧ (0 : Int) ≤ x.l.use (x.l.prod x.len) x.len %
  (18446744073709551616 : Int) ∧ x.l.use (x.l.prod x.len) x.len % (18446744073709551616 : Int) < (18446744073709551616 : Int)) ∧ ((wcmp (x.l.use (x.l.prod x.len) x.len / (18446744073709551616 : Int)) (x.l.use (x.l.prod
  x.len) x.len % (18446744073709551616 : Int)) (x.l.prod x.len / (18446744073709551616 : Int)) (x.l.prod x.len % (18446744073709551616 : Int)) == (0 : Int)) = true → ((((x.l.prod x.len / (18446744073709551616 : Int) =
  x.l.prod x.len / (18446744073709551616 : Int) ∧ x.l.prod x.len % (18446744073709551616 : Int) = x.l.prod x.len % (18446744073709551616 : Int) ∧ True) ∧ (x.l.use (x.l.prod x.len) x.len / (18446744073709551616 : Int) =
  x.l.use (x.l.prod x.len) x.len / (18446744073709551616 : Int) ∧ x.l.use (x.l.prod x.len) x.len % (18446744073709551616 : Int) = x.l.use (x.l.prod x.len) x.len % (18446744073709551616 : Int) ∧ True) ∧ (x.l.slk (x.l.prod
  x.len) x.len / (18446744073709551616 : Int) = x.l.slk (x.l.prod x.len) x.len / (18446744073709551616 : Int) ∧ x.l.slk (x.l.prod x.len) x.len % (18446744073709551616 : Int) = x.l.slk (x.l.prod x.len) x.len %
  (18446744073709551616 : Int) ∧ True) ∧ True) ∧ True) ∧ True) ∧ ((0 : Int) ≤ x.l.slk (x.l.prod x.len) x.len / (18446744073709551616 : Int) ∧ (0 : Int) ≤ x.l.slk (x.l.prod x.len) x.len % (18446744073709551616 : Int)) ∧
  ((!decide (wN (x.l.slk (x.l.prod x.len) x.len / (18446744073709551616 : Int)) (x.l.slk (x.l.prod x.len) x.len % (18446744073709551616 : Int)) = (0 : Int))) = true → ∀ (v : Int), v = (0 : Int) → x.Ok → (x.l.borne.fst =
  false ∧ v = x.l.borne.snd ∧ True) ∧ True ∧ ((0 : Nat) ≤ (0 : Nat) ∧ x.n = x.n ∧ ∀ (j : Nat), j < x.n → x.k j = x.k j ∧ x.q j = x.q j ∧ x.t j = x.t j ∧ True) ∧ True) ∧ ((!decide (wN (x.l.slk (x.l.prod x.len) x.len /
  (18446744073709551616 : Int)) (x.l.slk (x.l.prod x.len) x.len % (18446744073709551616 : Int)) = (0 : Int))) = false → ∃ (_ : Bool), (x.l.right ∧ ¬(x.l.W < x.l.U ∨ x.l.U = x.l.W ∧ ¬x.l.S = (0 : Int))) ∧ ((((x.nil = true →
  x.nil = true) ∧ (x.nil = false → x.nil = false ∧ True ∧ True ∧ x.lo = x.lo ∧ x.len = x.len ∧ x.cap = x.cap)) ∧ True) ∧ ((0 : Nat) ≤ (0 : Nat) ∧ x.n = x.n ∧ ∀ (j : Nat), j < x.n → x.k j = x.k j ∧ x.q j = x.q j ∧ x.t j =
  x.t j ∧ True) ∧ True) ∧ True)) ∧ ((wcmp (x.l.use (x.l.prod x.len) x.len / (18446744073709551616 : Int)) (x.l.use (x.l.prod x.len) x.len % (18446744073709551616 : Int)) (x.l.prod x.len / (18446744073709551616 : Int))
  (x.l.prod x.len % (18446744073709551616 : Int)) == (0 : Int)) = false → ∃ (_ : Bool), (x.l.right ∧ ¬(x.l.W < x.l.U ∨ x.l.U = x.l.W ∧ ¬x.l.S = (0 : Int))) ∧ ((((x.nil = true → x.nil = true) ∧ (x.nil = false → x.nil =
  false ∧ True ∧ True ∧ x.lo = x.lo ∧ x.len = x.len ∧ x.cap = x.cap)) ∧ True) ∧ ((0 : Nat) ≤ (0 : Nat) ∧ x.n = x.n ∧ ∀ (j : Nat), j < x.n → x.k j = x.k j ∧ x.q j = x.q j ∧ x.t j = x.t j ∧ True) ∧ True) ∧ True))) ∧ ∀ (_ :
  Bool), x.l.right ∧ ¬(x.l.W < x.l.U ∨ x.l.U = x.l.W ∧ ¬x.l.S = (0 : Int)) → ((((x.nil = true → x.nil = true) ∧ (x.nil = false → x.nil = false ∧ True ∧ True ∧ x.lo = x.lo ∧ x.len = x.len ∧ x.cap = x.cap)) ∧ True) ∧ ((0 :
  Nat) ≤ (0 : Nat) ∧ x.n = x.n ∧ ∀ (j : Nat), j < x.n → x.k j = x.k j ∧ x.q j = x.q j ∧ x.t j = x.t j ∧ True) ∧ True) ∧ x.Ok ∧ ∀ (v : Int), v = x.l.hor.fst → ∀ (v_1 : Int), v_1 = x.l.hor.snd → ((v_1 != (0 : Int)) = true →
  ∀ (v : Int), v = v_1 → x.Ok → (x.l.borne.fst = false ∧ v = x.l.borne.snd ∧ True) ∧ True ∧ ((0 : Nat) ≤ (0 : Nat) ∧ x.n = x.n ∧ ∀ (j : Nat), j < x.n → x.k j = x.k j ∧ x.q j = x.q j ∧ x.t j = x.t j ∧ True) ∧ True) ∧ ((v_1
  != (0 : Int)) = false → (x.nil = true → x.len = (0 : Nat)) ∧ (∃ (y : Nat), (y ≤ x.len ∧ (x.l.right ∧ ¬(x.l.W < x.l.U ∨ x.l.U = x.l.W ∧ ¬x.l.S = (0 : Int)) ∧ x.l.hor.snd = (0 : Int)) ∧ ∀ (j : Nat), j < y → ∀ (m : Nat),
  x.l.pt j m ≤ x.l.hor.fst → x.l.dem (x.l.pt j m) x.len ≤ x.l.pt j m) ∧ ((((x.nil = true → x.nil = true) ∧ (x.nil = false → x.nil = false ∧ True ∧ True ∧ x.lo = x.lo ∧ x.len = x.len ∧ x.cap = x.cap)) ∧ v = x.l.hor.fst ∧
  ((x.nil = true → x.nil = true) ∧ (x.nil = false → x.nil = false ∧ True ∧ True ∧ x.lo = x.lo ∧ x.len = x.len ∧ x.cap = x.cap)) ∧ (↑x.len : Int) = (↑x.len : Int) ∧ (0 : Int) = (↑y : Int) ∧ True) ∧ ((0 : Nat) ≤ (0 : Nat) ∧
  x.n = x.n ∧ ∀ (j : Nat), j < x.n → x.k j = x.k j ∧ x.q j = x.q j ∧ x.t j = x.t j ∧ True) ∧ True) ∧ True) ∧ ∀ (y : Nat), (y ≤ x.len ∧ (x.l.right ∧ ¬(x.l.W < x.l.U ∨ x.l.U = x.l.W ∧ ¬x.l.S = (0 : Int)) ∧ x.l.hor.snd = (0 :
  Int)) ∧ ∀ (j : Nat), j < y → ∀ (m : Nat), x.l.pt j m ≤ x.l.hor.fst → x.l.dem (x.l.pt j m) x.len ≤ x.l.pt j m) → (decide ((↑y : Int) < (↑x.len : Int)) = true → (x.nil = true → x.len = (0 : Nat)) ∧ ((0 : Int) ≤ (↑y : Int)
  ∧ (↑y : Int) < (↑x.len : Int)) ∧ x.lo + (↑y : Int).toNat < x.n ∧ (((x.k (x.lo + (↑y : Int).toNat) = x.k (x.lo + (↑y : Int).toNat) ∧ x.q (x.lo + (↑y : Int).toNat) = x.q (x.lo + (↑y : Int).toNat) ∧ x.t (x.lo + (↑y :
  Int).toNat) = x.t (x.lo + (↑y : Int).toNat) ∧ True) ∧ True) ∧ True) ∧ rightE (x.k (x.lo + (↑y : Int).toNat)) (x.q (x.lo + (↑y : Int).toNat)) (x.t (x.lo + (↑y : Int).toNat)) ∧ ∀ (v : Int), v = IntKind.u64.wrap (x.t (x.lo
  + (↑y : Int).toNat) - if x.k (x.lo + (↑y : Int).toNat) = (1 : Int) then (0 : Int) else x.t (x.lo + (↑y : Int).toNat) - x.q (x.lo + (↑y : Int).toNat)) → ∃ (g : Nat), (∃ (y_1 : Nat), (x.l.pt g y_1 ≤ x.l.hor.fst + (8192 :
  Int) ∧ ∀ (k : Nat), k < y_1 → x.l.dem (x.l.pt g k) x.len ≤ x.l.pt g k) ∧ ((((x.nil = true → x.nil = true) ∧ (x.nil = false → x.nil = false ∧ True ∧ True ∧ x.lo = x.lo ∧ x.len = x.len ∧ x.cap = x.cap)) ∧ x.l.hor.fst =
  x.l.hor.fst ∧ (True ∧ True) ∧ v = x.l.pt g y_1 ∧ ((x.nil = true → x.nil = true) ∧ (x.nil = false → x.nil = false ∧ True ∧ True ∧ x.lo = x.lo ∧ x.len = x.len ∧ x.cap = x.cap)) ∧ (↑x.len : Int) = (↑x.len : Int) ∧ (↑y :
  Int) = (↑g : Int) ∧ True) ∧ ((0 : Nat) ≤ (0 : Nat) ∧ x.n = x.n ∧ ∀ (j : Nat), j < x.n → x.k j = x.k j ∧ x.q j = x.q j ∧ x.t j = x.t j ∧ True) ∧ ((3 : Nat) ≤ (3 : Nat) ∧ x.k (x.lo + (↑y : Int).toNat) = x.l.k g ∧ x.q (x.lo
  + (↑y : Int).toNat) = x.l.q g ∧ x.t (x.lo + (↑y : Int).toNat) = x.l.t g ∧ True) ∧ True) ∧ True) ∧ ∀ (y_1 : Nat), (x.l.pt g y_1 ≤ x.l.hor.fst + (8192 : Int) ∧ ∀ (k : Nat), k < y_1 → x.l.dem (x.l.pt g k) x.len ≤ x.l.pt g
  k) → (decide (x.l.pt g y_1 ≤ x.l.hor.fst) = true → ((((x.nil = true → x.nil = true) ∧ (x.nil = false → x.nil = false ∧ True ∧ True ∧ x.lo = x.lo ∧ x.len = x.len ∧ x.cap = x.cap)) ∧ x.l.pt g y_1 = x.l.pt g y_1 ∧ True) ∧
  ((0 : Nat) ≤ (0 : Nat) ∧ x.n = x.n ∧ ∀ (j : Nat), j < x.n → x.k j = x.k j ∧ x.q j = x.q j ∧ x.t j = x.t j ∧ True) ∧ True) ∧ (x.Ok ∧ x.l.right ∧ (0 : Int) ≤ x.l.pt g y_1 ∧ x.l.pt g y_1 ≤ (1099511627776 : Int)) ∧ (decide
  (x.l.dem (x.l.pt g y_1) x.len > x.l.pt g y_1) = true → ∀ (v : Int), v = (0 : Int) → x.Ok → (x.l.borne.fst = false ∧ v = x.l.borne.snd ∧ True) ∧ True ∧ ((0 : Nat) ≤ (0 : Nat) ∧ x.n = x.n ∧ ∀ (j : Nat), j < x.n → x.k j =
  x.k j ∧ x.q j = x.q j ∧ x.t j = x.t j ∧ True) ∧ True) ∧ (decide (x.l.dem (x.l.pt g y_1) x.len > x.l.pt g y_1) = false → ∀ (v : Int), v = IntKind.u64.wrap (x.l.pt g y_1 + x.l.t g) → ∃ (y : Nat), (x.l.pt g y ≤ x.l.hor.fst
  + (8192 : Int) ∧ ∀ (k : Nat), k < y → x.l.dem (x.l.pt g k) x.len ≤ x.l.pt g k) ∧ ((((x.nil = true → x.nil = true) ∧ (x.nil = false → x.nil = false ∧ True ∧ True ∧ x.lo = x.lo ∧ x.len = x.len ∧ x.cap = x.cap)) ∧
  x.l.hor.fst = x.l.hor.fst ∧ (True ∧ True) ∧ v = x.l.pt g y ∧ ((x.nil = true → x.nil = true) ∧ (x.nil = false → x.nil = false ∧ True ∧ True ∧ x.lo = x.lo ∧ x.len = x.len ∧ x.cap = x.cap)) ∧ (↑x.len : Int) = (↑x.len : Int)
  ∧ (↑g : Int) = (↑g : Int) ∧ True) ∧ ((0 : Nat) ≤ (0 : Nat) ∧ x.n = x.n ∧ ∀ (j : Nat), j < x.n → x.k j = x.k j ∧ x.q j = x.q j ∧ x.t j = x.t j ∧ True) ∧ ((3 : Nat) ≤ (3 : Nat) ∧ x.l.k g = x.l.k g ∧ x.l.q g = x.l.q g ∧
  x.l.t g = x.l.t g ∧ True) ∧ True) ∧ (boF2 x g).μ y < (boF2 x g).μ y_1)) ∧ (decide (x.l.pt g y_1 ≤ x.l.hor.fst) = false → ∃ (y_2 : Nat), (y_2 ≤ x.len ∧ (x.l.right ∧ ¬(x.l.W < x.l.U ∨ x.l.U = x.l.W ∧ ¬x.l.S = (0 : Int)) ∧
  x.l.hor.snd = (0 : Int)) ∧ ∀ (j : Nat), j < y_2 → ∀ (m : Nat), x.l.pt j m ≤ x.l.hor.fst → x.l.dem (x.l.pt j m) x.len ≤ x.l.pt j m) ∧ ((((x.nil = true → x.nil = true) ∧ (x.nil = false → x.nil = false ∧ True ∧ True ∧ x.lo
  = x.lo ∧ x.len = x.len ∧ x.cap = x.cap)) ∧ x.l.hor.fst = x.l.hor.fst ∧ ((x.nil = true → x.nil = true) ∧ (x.nil = false → x.nil = false ∧ True ∧ True ∧ x.lo = x.lo ∧ x.len = x.len ∧ x.cap = x.cap)) ∧ (↑x.len : Int) =
  (↑x.len : Int) ∧ IntKind.i64.wrap ((↑g : Int) + (1 : Int)) = (↑y_2 : Int) ∧ True) ∧ ((0 : Nat) ≤ (0 : Nat) ∧ x.n = x.n ∧ ∀ (j : Nat), j < x.n → x.k j = x.k j ∧ x.q j = x.q j ∧ x.t j = x.t j ∧ True) ∧ True) ∧ (boF1 x).μ
  y_2 < (boF1 x).μ y)) ∧ (decide ((↑y : Int) < (↑x.len : Int)) = false → ∀ (v : Int), v = (0 : Int) → x.Ok → (x.l.borne.fst = true ∧ v = x.l.borne.snd ∧ True) ∧ True ∧ ((0 : Nat) ≤ (0 : Nat) ∧ x.n = x.n ∧ ∀ (j : Nat), j <
  x.n → x.k j = x.k j ∧ x.q j = x.q j ∧ x.t j = x.t j ∧ True) ∧ True))) := by
  simp only [true_and, and_true, eq_self, Nat.le_refl, decide_eq_true_eq, decide_eq_false_iff_not, beq_iff_eq, beq_eq_false_iff_ne, implies_true, and_self, bne_iff_ne, Int.not_lt, Int.not_le, gt_iff_lt, ne_eq, Int.toNat_natCast, IntKind.wrap_u64, IntKind.wrap_i64, bne_eq_false_iff_eq, Bool.not_eq_true', Bool.not_eq_false']
  simp only [wNdm, wcmpdm]
  rintro x hx _ _
  have eW : x.l.prod x.len = x.l.W := rfl
  have eU : x.l.use x.l.W x.len = x.l.U := rfl
  have eS : x.l.slk x.l.W x.len = x.l.S := rfl
  simp only [eW, eU, eS]
  have hI1 : ∀ z : Bool, (boC x).I z = (x.l.right ∧ ¬ (x.l.W < x.l.U ∨ (x.l.U = x.l.W ∧ ¬ x.l.S = 0))) := fun _ => rfl
  have hI2 : ∀ y : Nat, (boF1 x).I y = (y ≤ x.len ∧ (x.l.right ∧ ¬ (x.l.W < x.l.U ∨ (x.l.U = x.l.W ∧ ¬ x.l.S = 0)) ∧ x.l.hor.2 = 0) ∧ ∀ j, j < y → ∀ m, x.l.pt j m ≤ x.l.hor.1 → x.l.dem (x.l.pt j m) x.len ≤ x.l.pt j m) := fun _ => rfl
  have hM2 : ∀ y : Nat, (boF1 x).μ y = x.len - y := fun _ => rfl
  have hI3 : ∀ u m : Nat, (boF2 x u).I m = (x.l.pt u m ≤ x.l.hor.1 + 8192 ∧ ∀ k, k < m → x.l.dem (x.l.pt u k) x.len ≤ x.l.pt u k) := fun _ _ => rfl
  have hM3 : ∀ u m : Nat, (boF2 x u).μ m = (x.l.hor.1 + 8193 - x.l.pt u m).toNat := fun _ _ => rfl
  simp only [hM2, hM3]
  clear hI1 hI2 hI3 hM2 hM3
  refine ⟨⟨id, id⟩, hx, fun h v hv _ => ?_, fun hr => ⟨?_, fun _ hg => ?_⟩⟩
  · unfold LL.borne; rw [if_pos h]; exact ⟨rfl, hv⟩
  · have hW := LL.prod_le hr (Nat.le_refl _)
    have hW : 1 ≤ x.l.W ∧ x.l.W ≤ 20282409603651670423947251286016 := hW
    have hu := LL.use_bd hr (show 0 ≤ x.l.W by omega) x.l.n (Nat.le_refl _)
    have hu : (0 ≤ x.l.U ∧ x.l.U ≤ x.l.n * x.l.W) ∧ 0 ≤ x.l.S ∧ x.l.S ≤ x.l.n * (x.l.W * 8191) := hu
    have h8 := hr.1
    have m1 : (x.l.n : Int) * x.l.W ≤ 8 * x.l.W := Int.mul_le_mul_of_nonneg_right (by omega) (by omega)
    have m2 : (x.l.n : Int) * (x.l.W * 8191) ≤ 8 * (x.l.W * 8191) := Int.mul_le_mul_of_nonneg_right (by omega) (by omega)
    have hbo : (x.l.W < x.l.U ∨ (x.l.U = x.l.W ∧ ¬ x.l.S = 0)) → x.l.borne = (false, 0) := fun h => by unfold LL.borne; rw [if_neg (fun h => h hr), if_pos h]
    generalize x.l.borne = B at *
    generalize x.l.W = W at *
    generalize x.l.U = U at *
    generalize x.l.S = S at *
    generalize (x.l.n : Int) * W = p1 at *
    generalize (x.l.n : Int) * (W * 8191) = p2 at *
    have hb : ∀ n : Int, 0 ≤ n → n < 340282366920938463463374607431768211456 → (0 ≤ n / 18446744073709551616 ∧ n / 18446744073709551616 < 18446744073709551616) ∧ 0 ≤ n % 18446744073709551616 ∧ n % 18446744073709551616 < 18446744073709551616 := fun n h1 h2 => by omega
    have bW := hb W (by omega) (by omega)
    have bU := hb U (by omega) (by omega)
    have bS := hb S (by omega) (by omega)
    have hc : ∀ c : Int, c = (if U < W then (-1 : Int) else if W < U then 1 else 0) → (0 < c ↔ W < U) ∧ (c = 0 ↔ U = W) := fun c h => by
      by_cases h1 : U < W
      · rw [if_pos h1] at h; omega
      · rw [if_neg h1] at h; split at h <;> omega
    generalize hcc : (if U < W then (-1 : Int) else if W < U then 1 else 0) = c at *
    obtain ⟨c1, c2⟩ := hc c rfl
    refine ⟨⟨id, id⟩, ⟨hx, hr⟩, ⟨bW, bU⟩, fun h v hv _ => ?_, fun h => ⟨⟨bW, bU⟩, fun h2 => ⟨⟨bS.1.1, bS.2.1⟩, fun h3 v hv _ => ?_, fun h3 => ⟨true, ⟨hr, ?_⟩, id, id⟩⟩, fun h2 => ⟨true, ⟨hr, ?_⟩, id, id⟩⟩⟩
    · rw [hbo (.inl (c1.1 h))]; exact ⟨rfl, hv⟩
    · rw [hbo (.inr ⟨c2.1 h2, h3⟩)]; exact ⟨rfl, hv⟩
    · rintro (h4 | h4)
      · have := c1.2 h4; omega
      · exact h4.2 h3
    · rintro (h4 | h4)
      · have := c1.2 h4; omega
      · exact h2 (c2.2 h4.1)
  · obtain ⟨hr, hok⟩ := hg
    have hb1 : ¬ x.l.hor.2 = 0 → x.l.borne = (false, x.l.hor.2) := fun h => by unfold LL.borne; rw [if_neg (fun h => h hr), if_neg hok, if_pos h]
    have hb2 : x.l.hor.2 = 0 → x.l.borne = (decide (x.l.fine x.l.hor.1), 0) := fun h => by unfold LL.borne; rw [if_neg (fun h => h hr), if_neg hok, if_neg (fun h2 => h2 h)]
    have hfi := LL.fine_iff hr x.l.hor.1
    have hhb := x.l.hor_bd
    refine ⟨⟨id, id⟩, hx, fun v hv v1 hv1 => ⟨fun h v2 hv2 _ => ?_, fun h => ?_⟩⟩
    · rw [hb1 (by omega)]; exact ⟨rfl, by omega⟩
    have h0 : x.l.hor.2 = 0 := by omega
    have hb2 := hb2 h0
    refine ⟨hx.1, ⟨0, ⟨Nat.zero_le _, ⟨hr, hok, h0⟩, fun j hj => absurd hj (Nat.not_lt_zero j)⟩, ⟨id, id⟩, hv, ⟨id, id⟩, rfl⟩, fun y hy => ?_⟩
    obtain ⟨y1, -, y3⟩ := hy
    refine ⟨fun hlt => ?_, fun hge v2 hv2 _ => ?_⟩
    · have hyn : y < x.l.n := by show y < x.len; omega
      have hlo := hx.2
      have h8 : x.len ≤ 8 := hr.1
      have hr0 : rightE (x.k (x.lo + y)) (x.q (x.lo + y)) (x.t (x.lo + y)) := hr.2 y hyn
      have hr1 := hr0
      unfold rightE at hr1
      have et : x.l.t y = x.t (x.lo + y) := rfl
      have ez := x.l.pt_zero y
      have hz := LL.pt_bd hr hyn 0
      have hs : x.l.sl y = if x.k (x.lo + y) = 1 then 0 else x.t (x.lo + y) - x.q (x.lo + y) := rfl
      have hs0 : 0 ≤ x.l.sl y := by rw [hs]; split <;> omega
      refine ⟨hx.1, by omega, by omega, hr0, fun v3 hv3 => ⟨y, ⟨0, ⟨by omega, fun k hk => absurd hk (Nat.not_lt_zero k)⟩, ⟨⟨id, id⟩, by rw [← hs] at hv3; omega, ⟨id, id⟩, rfl⟩, rfl, rfl, rfl⟩, fun m hm => ?_⟩⟩
      obtain ⟨m1, m2⟩ := hm
      have hp := LL.pt_bd hr hyn m
      have hps := x.l.pt_succ y m
      refine ⟨fun hle => ⟨⟨id, id⟩, ⟨hx, hr, by omega, by omega⟩, fun hbad v4 hv4 _ => ?_, fun hgood v4 hv4 => ⟨m + 1, ⟨by omega, fun k hk => ?_⟩, ⟨⟨id, id⟩, by omega, ⟨id, id⟩⟩, ?_⟩⟩, fun hgt => ⟨y + 1, ⟨by omega, ⟨hr, hok, h0⟩, fun j hj k hk => ?_⟩, ⟨⟨id, id⟩, ⟨id, id⟩, by omega⟩, ?_⟩⟩
      · rw [hb2]
        refine ⟨decide_eq_false fun hf => ?_, hv4⟩
        have := hfi.1 hf y hyn m hle
        have e : x.l.dem (x.l.pt y m) x.l.n = x.l.dem (x.l.pt y m) x.len := rfl
        omega
      · by_cases e : k = m
        · rw [e]; exact hgood
        · exact m2 k (by omega)
      · show (x.l.hor.1 + 8193 - x.l.pt y (m + 1)).toNat < (x.l.hor.1 + 8193 - x.l.pt y m).toNat
        omega
      · by_cases e : j = y
        · subst e
          have hkm : k < m := by
            by_cases h : k < m
            · exact h
            · exfalso
              obtain ⟨d, rfl⟩ := Nat.exists_eq_add_of_le (Nat.le_of_not_lt h)
              have hmono : ∀ d, x.l.pt j m ≤ x.l.pt j (m + d) := fun d => by
                induction d with
                | zero => exact Int.le_refl _
                | succ d ih => rw [← Nat.add_assoc, x.l.pt_succ]; omega
              have := hmono d
              omega
          exact m2 k hkm
        · exact y3 j (by omega) k hk
      · show x.len - (y + 1) < x.len - y
        omega
    · have : y = x.len := by omega
      subst this
      rw [hb2]
      exact ⟨decide_eq_true (hfi.2 fun j hj m hm => y3 j hj m hm), hv2⟩

def borne_C (x : LS) : Cfg := { Γ := Go.Sx.look tBorne, names := true, loops := boL x, cuts := boK x }
theorem borne_al (x : LS) : Shown (borneP.vc Try.prog (borne_C x) Try.f18 x) := ⟨@Eq.mp _ _ (by kernel_rfl) (borne_vc x)⟩
theorem borne_ok : SpOk Try.prog 18 borneP.sp := @Pat.okS _ borneP Try.prog borne_C 18 Try.f18 (fun x => cfg_tab rfl tBorne_ok) (by kernel_rfl) Try.func18 (fun _ => rfl) borne_al
end Go.Proofs.Ytijpjhelgggmfaa
