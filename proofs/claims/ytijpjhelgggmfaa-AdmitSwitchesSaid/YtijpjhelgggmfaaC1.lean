import Derived.Test.YtijpjhelgggmfaaB8
open Go Go.Sx Go.Proofs
set_option maxRecDepth 100000
namespace Go.Proofs.Ytijpjhelgggmfaa

structure A64 where
  v : Int
def A64.t (x : A64) : T := .int .u64 x.v
def A64.Ok (x : A64) : Prop := u64 x.v
theorem LL.hor0 {l : LL} (hr : l.right) (_ : l.hor.2 = 0) (h1 : l.hor.1 = 0) (_ : ¬ (l.W < l.U ∨ (l.U = l.W ∧ ¬ l.S = 0))) : l.fine l.hor.1 := fun j hj m _ hm => by
  have := LL.pt_bd hr hj m
  omega
theorem LL.bad {l : LL} (hb : ¬ l.borne.1 = true) (h2 : l.borne.2 = 0) : l.right ∧ (l.W < l.U ∨ (l.U = l.W ∧ ¬ l.S = 0) ∨ (l.hor.2 = 0 ∧ ¬ l.fine l.hor.1)) := by
  unfold LL.borne at hb h2
  split at hb
  · rename_i h
    rw [if_pos h] at h2
    exact absurd h2 (by decide)
  · rename_i h
    rw [if_neg h] at h2
    have hr : l.right := Decidable.not_not.1 h
    split at hb
    · rename_i h3
      exact ⟨hr, h3.elim .inl fun h => .inr (.inl h)⟩
    · rename_i h3
      rw [if_neg h3] at h2
      split at hb
      · rename_i h4
        rw [if_pos h4] at h2
        exact absurd h2 h4
      · rename_i h4
        exact ⟨hr, .inr (.inr ⟨Decidable.not_not.1 h4, fun hf => hb (decide_eq_true hf)⟩)⟩
theorem LL.len0 {l : LL} (h : l.n = 0) : l.Ok := by
  have e1 : l.W = 1 := by unfold LL.W; rw [h]; rfl
  have e2 : l.U = 0 := by unfold LL.U; rw [h]; rfl
  have e3 : l.S = 0 := by unfold LL.S; rw [h]; rfl
  refine ⟨⟨by omega, fun j hj => by omega⟩, by omega, fun _ => e3, fun h0 => absurd e3 h0, fun t ht => ?_⟩
  rw [h]; exact ht
def demsF (x : LS) (_ : Int) : Fam where
  α := Nat
  I y := 1 ≤ y ∧ (y : Int) ≤ x.l.hor.1 + 1 ∧ ∀ k : Nat, 1 ≤ k → k < y → x.l.dem k x.len ≤ k
  st y := { sl := mkSl 64 [(0, x.v 0), (7, .int .u64 x.l.hor.1), (9, .int .u64 y)], H := [x.reg] }
  μ y := (x.l.hor.1 + 1).toNat - y
def demsP : Pat (LS × A64) where
  view _ _ := none
  args x := [x.1.v 0, x.2.t]
  H x := [x.1.reg]
  out x := .need (x.1.Ok ∧ x.2.Ok) (.retq .tt)
def tDems : Tab := [(10, aliveP.sp), (18, borneP.sp), (14, DemP.sp), (16, horP.sp)]
theorem tDems_ok : TabOk Try.prog tDems := (tab_cons alive_ok (tab_cons borne_ok (tab_cons Dem_ok (tab_cons hor_ok tab_nil))))

theorem dems_vc : ∀ (x : LS) (t : A64), (x.Ok ∧ t.Ok) ∧ True → (True ∧ True) ∧ (x.nil = true → x.len = (0 : Nat)) ∧ (decide ((↑x.len : Int) > (8 : Int)) = true → x.Ok ∧ t.Ok → True ∧ True ∧ ((0 : Nat) ≤ (0 : Nat) ∧ x.n = x.n ∧ ∀ (j :
  Nat), j < x.n → x.k j = x.k j ∧ x.q j = x.q j ∧ x.t j = x.t j ∧ True) ∧ True) ∧ (decide ((↑x.len : Int) > (8 : Int)) = false → ((t.v == (0 : Int)) = true → x.Ok ∧ t.Ok → True ∧ True ∧ ((0 : Nat) ≤ (0 : Nat) ∧ x.n = x.n ∧
  ∀ (j : Nat), j < x.n → x.k j = x.k j ∧ x.q j = x.q j ∧ x.t j = x.t j ∧ True) ∧ True) ∧ ((t.v == (0 : Int)) = false → (decide (t.v > (1099511627776 : Int)) = true → x.Ok ∧ t.Ok → True ∧ True ∧ ((0 : Nat) ≤ (0 : Nat) ∧ x.n
  = x.n ∧ ∀ (j : Nat), j < x.n → x.k j = x.k j ∧ x.q j = x.q j ∧ x.t j = x.t j ∧ True) ∧ True) ∧ (decide (t.v > (1099511627776 : Int)) = false → ((((x.nil = true → x.nil = true) ∧ (x.nil = false → x.nil = false ∧ True ∧
  True ∧ x.lo = x.lo ∧ x.len = x.len ∧ x.cap = x.cap)) ∧ True) ∧ ((0 : Nat) ≤ (0 : Nat) ∧ x.n = x.n ∧ ∀ (j : Nat), j < x.n → x.k j = x.k j ∧ x.q j = x.q j ∧ x.t j = x.t j ∧ True) ∧ True) ∧ x.Ok ∧ ∀ (v : Int), v =
  x.l.borne.snd → ((v != (0 : Int)) = true → x.Ok ∧ t.Ok → (!x.l.borne.fst) = true ∧ True ∧ ((0 : Nat) ≤ (0 : Nat) ∧ x.n = x.n ∧ ∀ (j : Nat), j < x.n → x.k j = x.k j ∧ x.q j = x.q j ∧ x.t j = x.t j ∧ True) ∧ True) ∧ ((v !=
  (0 : Int)) = false → (x.l.borne.fst = true → ((((x.nil = true → x.nil = true) ∧ (x.nil = false → x.nil = false ∧ True ∧ True ∧ x.lo = x.lo ∧ x.len = x.len ∧ x.cap = x.cap)) ∧ t.v = t.v ∧ True) ∧ ((0 : Nat) ≤ (0 : Nat) ∧
  x.n = x.n ∧ ∀ (j : Nat), j < x.n → x.k j = x.k j ∧ x.q j = x.q j ∧ x.t j = x.t j ∧ True) ∧ True) ∧ (x.Ok ∧ (0 : Int) ≤ t.v ∧ t.v < (18446744073709551616 : Int)) ∧ (x.Ok ∧ t.Ok → decide ((if x.l.right then x.l.dem (min
  t.v (1099511627776 : Int)) x.len else (0 : Int)) ≤ t.v) = true ∧ True ∧ ((0 : Nat) ≤ (0 : Nat) ∧ x.n = x.n ∧ ∀ (j : Nat), j < x.n → x.k j = x.k j ∧ x.q j = x.q j ∧ x.t j = x.t j ∧ True) ∧ True)) ∧ (x.l.borne.fst = false
  → ((((x.nil = true → x.nil = true) ∧ (x.nil = false → x.nil = false ∧ True ∧ True ∧ x.lo = x.lo ∧ x.len = x.len ∧ x.cap = x.cap)) ∧ True) ∧ ((0 : Nat) ≤ (0 : Nat) ∧ x.n = x.n ∧ ∀ (j : Nat), j < x.n → x.k j = x.k j ∧ x.q
  j = x.q j ∧ x.t j = x.t j ∧ True) ∧ True) ∧ x.Ok ∧ ∀ (v : Int), v = x.l.hor.fst → ∀ (v_1 : Int), v_1 = x.l.hor.snd → ((v_1 != (0 : Int)) = true → x.Ok ∧ t.Ok → True ∧ True ∧ ((0 : Nat) ≤ (0 : Nat) ∧ x.n = x.n ∧ ∀ (j :
  Nat), j < x.n → x.k j = x.k j ∧ x.q j = x.q j ∧ x.t j = x.t j ∧ True) ∧ True) ∧ ((v_1 != (0 : Int)) = false → (decide (v > (20000 : Int)) = true → x.Ok ∧ t.Ok → True ∧ True ∧ ((0 : Nat) ≤ (0 : Nat) ∧ x.n = x.n ∧ ∀ (j :
  Nat), j < x.n → x.k j = x.k j ∧ x.q j = x.q j ∧ x.t j = x.t j ∧ True) ∧ True) ∧ (decide (v > (20000 : Int)) = false → ((v == (0 : Int)) = true → (x.nil = true → x.len = (0 : Nat)) ∧ (x.Ok ∧ t.Ok → decide ((↑x.len : Int)
  > (0 : Int)) = true ∧ True ∧ ((0 : Nat) ≤ (0 : Nat) ∧ x.n = x.n ∧ ∀ (j : Nat), j < x.n → x.k j = x.k j ∧ x.q j = x.q j ∧ x.t j = x.t j ∧ True) ∧ True)) ∧ ((v == (0 : Int)) = false → ∀ (v_2 : Int), v_2 = (1 : Int) → (∃ (y
  : Nat), ((1 : Nat) ≤ y ∧ (↑y : Int) ≤ x.l.hor.fst + (1 : Int) ∧ ∀ (k : Nat), (1 : Nat) ≤ k → k < y → x.l.dem (↑k : Int) x.len ≤ (↑k : Int)) ∧ ((((x.nil = true → x.nil = true) ∧ (x.nil = false → x.nil = false ∧ True ∧
  True ∧ x.lo = x.lo ∧ x.len = x.len ∧ x.cap = x.cap)) ∧ v = x.l.hor.fst ∧ v_2 = (↑y : Int) ∧ True) ∧ ((0 : Nat) ≤ (0 : Nat) ∧ x.n = x.n ∧ ∀ (j : Nat), j < x.n → x.k j = x.k j ∧ x.q j = x.q j ∧ x.t j = x.t j ∧ True) ∧
  True) ∧ True) ∧ ∀ (y : Nat), ((1 : Nat) ≤ y ∧ (↑y : Int) ≤ x.l.hor.fst + (1 : Int) ∧ ∀ (k : Nat), (1 : Nat) ≤ k → k < y → x.l.dem (↑k : Int) x.len ≤ (↑k : Int)) → (decide ((↑y : Int) ≤ x.l.hor.fst) = true → ((((x.nil =
  true → x.nil = true) ∧ (x.nil = false → x.nil = false ∧ True ∧ True ∧ x.lo = x.lo ∧ x.len = x.len ∧ x.cap = x.cap)) ∧ (↑y : Int) = (↑y : Int) ∧ True) ∧ ((0 : Nat) ≤ (0 : Nat) ∧ x.n = x.n ∧ ∀ (j : Nat), j < x.n → x.k j =
  x.k j ∧ x.q j = x.q j ∧ x.t j = x.t j ∧ True) ∧ True) ∧ (x.Ok ∧ (0 : Int) ≤ (↑y : Int) ∧ (↑y : Int) < (18446744073709551616 : Int)) ∧ (decide ((if x.l.right then x.l.dem (min (↑y : Int) (1099511627776 : Int)) x.len else
  (0 : Int)) > (↑y : Int)) = true → x.Ok ∧ t.Ok → True ∧ True ∧ ((0 : Nat) ≤ (0 : Nat) ∧ x.n = x.n ∧ ∀ (j : Nat), j < x.n → x.k j = x.k j ∧ x.q j = x.q j ∧ x.t j = x.t j ∧ True) ∧ True) ∧ (decide ((if x.l.right then
  x.l.dem (min (↑y : Int) (1099511627776 : Int)) x.len else (0 : Int)) > (↑y : Int)) = false → ∀ (v : Int), v = IntKind.u64.wrap ((↑y : Int) + (1 : Int)) → ∃ (y_1 : Nat), ((1 : Nat) ≤ y_1 ∧ (↑y_1 : Int) ≤ x.l.hor.fst + (1
  : Int) ∧ ∀ (k : Nat), (1 : Nat) ≤ k → k < y_1 → x.l.dem (↑k : Int) x.len ≤ (↑k : Int)) ∧ ((((x.nil = true → x.nil = true) ∧ (x.nil = false → x.nil = false ∧ True ∧ True ∧ x.lo = x.lo ∧ x.len = x.len ∧ x.cap = x.cap)) ∧
  x.l.hor.fst = x.l.hor.fst ∧ v = (↑y_1 : Int) ∧ True) ∧ ((0 : Nat) ≤ (0 : Nat) ∧ x.n = x.n ∧ ∀ (j : Nat), j < x.n → x.k j = x.k j ∧ x.q j = x.q j ∧ x.t j = x.t j ∧ True) ∧ True) ∧ (demsF x t.v).μ y_1 < (demsF x t.v).μ y))
  ∧ (decide ((↑y : Int) ≤ x.l.hor.fst) = false → x.Ok ∧ t.Ok → False ∧ True ∧ ((0 : Nat) ≤ (0 : Nat) ∧ x.n = x.n ∧ ∀ (j : Nat), j < x.n → x.k j = x.k j ∧ x.q j = x.q j ∧ x.t j = x.t j ∧ True) ∧ True))))))))) := by
  simp only [true_and, and_true, eq_self, Nat.le_refl, decide_eq_true_eq, decide_eq_false_iff_not, beq_iff_eq, beq_eq_false_iff_ne, implies_true, and_self, bne_iff_ne, Int.not_lt, Int.not_le, gt_iff_lt, ne_eq, IntKind.wrap_u64, bne_eq_false_iff_eq, Bool.not_eq_true']
  rintro x ⟨t⟩ ⟨hx, ht, ht'⟩
  dsimp only at ht ht' ⊢
  have hhb := x.l.hor_bd
  refine ⟨hx.1, fun h8 h0 h40 => ⟨⟨id, id⟩, hx, fun v hv => ⟨fun hne _ => ?_, fun he => ⟨fun hb => ⟨⟨id, id⟩, ⟨hx, ht, ht'⟩, fun _ => ?_⟩, fun hb => ⟨⟨id, id⟩, hx, ?_⟩⟩⟩⟩⟩
  · cases hb : x.l.borne.1 with
    | false => rfl
    | true => rw [(LL.ok_of_borne hb).borne] at hv; exact absurd hv hne
  · have hO := LL.ok_of_borne hb
    rw [if_pos hO.r, show min t 1099511627776 = t by omega]
    exact hO.d t ht
  · obtain ⟨hr, hbad⟩ := LL.bad (by rw [hb]; decide) (show x.l.borne.2 = 0 by omega)
    intro v hv v1 hv1 h1 h20
    refine ⟨fun hz => ⟨hx.1, fun _ => ?_⟩, fun hnz => ?_⟩
    · by_cases hl : 0 < x.len
      · omega
      · have := (LL.len0 (l := x.l) (show x.len = 0 by omega)).borne
        rw [this] at hb; cases hb
    · have hUW : ¬ (x.l.S = 0 ∨ x.l.W ≤ x.l.U) := fun h => hnz (by rw [hv]; unfold LL.hor; rw [if_neg (fun h => h hr), if_pos h])
      have hnf : ¬ x.l.fine x.l.hor.1 := by
        rcases hbad with h | h | h
        · exact absurd (.inr (Int.le_of_lt h)) hUW
        · exact absurd (.inr (by omega)) hUW
        · exact h.2
      rintro _ rfl
      refine ⟨⟨1, ⟨Nat.le_refl _, by show (1 : Int) ≤ _; omega, fun k h2 h3 => by omega⟩, ⟨id, id⟩, hv, rfl⟩, fun y hy => ?_⟩
      obtain ⟨y1, y2, y3⟩ := hy
      refine ⟨fun hle => ⟨⟨id, id⟩, ⟨hx, by omega, by omega⟩, fun hd v4 hv4 => ⟨y + 1, ⟨by omega, by omega, fun k h2 h3 => ?_⟩, ⟨⟨id, id⟩, by omega⟩, ?_⟩⟩, fun hlt _ => hnf ((LL.fine_iff hr _).2 fun j hj m hm => ?_)⟩
      · by_cases e : k = y
        · rw [if_pos hr, show min (y : Int) 1099511627776 = y by omega] at hd
          rw [e]; exact hd
        · exact y3 k h2 (by omega)
      · show (x.l.hor.1 + 1).toNat - (y + 1) < (x.l.hor.1 + 1).toNat - y
        omega
      · have hp := LL.pt_bd hr hj m
        have := y3 (x.l.pt j m).toNat (by omega) (by omega)
        rw [show (((x.l.pt j m).toNat : Nat) : Int) = x.l.pt j m by omega] at this
        exact this

def dems_C (x : (LS × A64)) : Cfg := { Γ := Go.Sx.look tDems, names := true, loops := onlyAt 16 [demsF (x.1) (x.2).v] }
theorem dems_al (x : (LS × A64)) : Shown (demsP.vc Try.prog (dems_C x) Try.f4 x) := ⟨@Eq.mp _ _ (by kernel_rfl) (dems_vc (x.1) (x.2))⟩
theorem dems_ok : SpOk Try.prog 4 demsP.sp := @Pat.okS _ demsP Try.prog dems_C 4 Try.f4 (fun x => cfg_tab rfl tDems_ok) (by kernel_rfl) Try.func4 (fun _ => rfl) dems_al
end Go.Proofs.Ytijpjhelgggmfaa
