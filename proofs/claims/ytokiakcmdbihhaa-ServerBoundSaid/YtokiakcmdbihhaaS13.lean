import Derived.Test.YtokiakcmdbihhaaS12
open Go Go.Sx Go.Proofs
set_option maxRecDepth 100000
namespace Go.Proofs.Ytokiakcmdbihhaa

structure A64 where
  v : Int
def A64.t (x : A64) : T := .int .u64 x.v
def A64.Ok (x : A64) : Prop := u64 x.v
structure AI where
  v : Int
def AI.t (x : AI) : T := .int .i64 x.v
def AI.Ok (x : AI) : Prop := i64 x.v
def badK (k q t n : Int) : Prop := ¬ ((k = 1 ∨ k = 2) ∧ rngI q t n)
/-- No server. -/
def n0P : Pat (Int × Int × Int × Int) where
  view | [.int .i64 k, .int .u64 q, .int .u64 t, .int .u64 n], _ => some (k, q, t, n) | _, _ => none
  args x := [.int .i64 x.1, .int .u64 x.2.1, .int .u64 x.2.2.1, .int .u64 x.2.2.2]
  H _ := []
  out x := .need (badK x.1 x.2.1 x.2.2.1 x.2.2.2) (.retq (.tup (.cons .nilp (.cons (.int .i64 (if x.1 = 1 ∨ x.1 = 2 then 11 else 10)) .nil))))
theorem n0_vc : ∀ (k q t n : Int), badK k q t n ∧ True → ∀ (v : Int), v = (0 : Int) → ((k == (1 : Int)) = true → (decide (q < (1 : Int)) = true → ∀ (v : Int), v = (11 : Int) → badK k q t n → (True ∧ (v = if k = (1 : Int) ∨ k = (2 : Int)
  then (11 : Int) else (10 : Int)) ∧ True) ∧ True ∧ True) ∧ (decide (q < (1 : Int)) = false → (decide (q > t) = true → ∀ (v : Int), v = (11 : Int) → badK k q t n → (True ∧ (v = if k = (1 : Int) ∨ k = (2 : Int) then (11 :
  Int) else (10 : Int)) ∧ True) ∧ True ∧ True) ∧ (decide (q > t) = false → (decide (t > (1099511627776 : Int)) = true → ∀ (v : Int), v = (11 : Int) → badK k q t n → (True ∧ (v = if k = (1 : Int) ∨ k = (2 : Int) then (11 :
  Int) else (10 : Int)) ∧ True) ∧ True ∧ True) ∧ (decide (t > (1099511627776 : Int)) = false → (decide (n > (2305843009213693952 : Int)) = true → ∀ (v : Int), v = (11 : Int) → badK k q t n → (True ∧ (v = if k = (1 : Int) ∨
  k = (2 : Int) then (11 : Int) else (10 : Int)) ∧ True) ∧ True ∧ True) ∧ (decide (n > (2305843009213693952 : Int)) = false → ∀ (v : Int), v = (0 : Int) → badK k q t n → (False ∧ (v = if k = (1 : Int) ∨ k = (2 : Int) then
  (11 : Int) else (10 : Int)) ∧ True) ∧ True ∧ True))))) ∧ ((k == (1 : Int)) = false → ((k == (2 : Int)) = true → (decide (q < (1 : Int)) = true → ∀ (v : Int), v = (11 : Int) → badK k q t n → (True ∧ (v = if k = (1 : Int)
  ∨ k = (2 : Int) then (11 : Int) else (10 : Int)) ∧ True) ∧ True ∧ True) ∧ (decide (q < (1 : Int)) = false → (decide (q > t) = true → ∀ (v : Int), v = (11 : Int) → badK k q t n → (True ∧ (v = if k = (1 : Int) ∨ k = (2 :
  Int) then (11 : Int) else (10 : Int)) ∧ True) ∧ True ∧ True) ∧ (decide (q > t) = false → (decide (t > (1099511627776 : Int)) = true → ∀ (v : Int), v = (11 : Int) → badK k q t n → (True ∧ (v = if k = (1 : Int) ∨ k = (2 :
  Int) then (11 : Int) else (10 : Int)) ∧ True) ∧ True ∧ True) ∧ (decide (t > (1099511627776 : Int)) = false → (decide (n > (2305843009213693952 : Int)) = true → ∀ (v : Int), v = (11 : Int) → badK k q t n → (True ∧ (v = if
  k = (1 : Int) ∨ k = (2 : Int) then (11 : Int) else (10 : Int)) ∧ True) ∧ True ∧ True) ∧ (decide (n > (2305843009213693952 : Int)) = false → ∀ (v : Int), v = (0 : Int) → badK k q t n → (False ∧ (v = if k = (1 : Int) ∨ k =
  (2 : Int) then (11 : Int) else (10 : Int)) ∧ True) ∧ True ∧ True))))) ∧ ((k == (2 : Int)) = false → ∀ (v : Int), v = (10 : Int) → badK k q t n → (True ∧ (v = if k = (1 : Int) ∨ k = (2 : Int) then (11 : Int) else (10 :
  Int)) ∧ True) ∧ True ∧ True)) := by
  simp only [true_and, and_true, decide_eq_true_eq, decide_eq_false_iff_not, beq_iff_eq, beq_eq_false_iff_ne, and_self, Int.not_lt, gt_iff_lt, ne_eq]
  rintro k q t n hb v hv
  unfold badK rngI at hb
  refine ⟨fun hk => ⟨fun h v hv _ => by rw [hv, if_pos (.inl hk)], fun h1 => ⟨fun h v hv _ => by rw [hv, if_pos (.inl hk)], fun h2 => ⟨fun h v hv _ => by rw [hv, if_pos (.inl hk)], fun h3 => ⟨fun h v hv _ => by rw [hv, if_pos (.inl hk)], fun h4 => absurd ⟨.inl hk, h1, h2, h3, h4⟩ hb⟩⟩⟩⟩,
    fun hk => ⟨fun hk2 => ⟨fun h v hv _ => by rw [hv, if_pos (.inr hk2)], fun h1 => ⟨fun h v hv _ => by rw [hv, if_pos (.inr hk2)], fun h2 => ⟨fun h v hv _ => by rw [hv, if_pos (.inr hk2)], fun h3 => ⟨fun h v hv _ => by rw [hv, if_pos (.inr hk2)], fun h4 => absurd ⟨.inr hk2, h1, h2, h3, h4⟩ hb⟩⟩⟩⟩, fun hk2 v hv _ => by rw [hv, if_neg (by omega)]⟩⟩

def n0_C (_ : (Int × Int × Int × Int)) : Cfg := { Γ := Go.Sx.look [], names := true }
theorem n0_al (x : (Int × Int × Int × Int)) : Shown (n0P.vc Try.prog (n0_C x) Try.f9 x) := ⟨@Eq.mp _ _ (by kernel_rfl) (n0_vc (x.1) (x.2.1) (x.2.2.1) (x.2.2.2))⟩
theorem n0_ok : SpOk Try.prog 9 n0P.sp := @Pat.okS _ n0P Try.prog n0_C 9 Try.f9 (fun x => cfg_nil rfl) (by kernel_rfl) Try.func9 (fun _ => rfl) n0_al
/-- A server, as it lies behind some regions. -/
def SS.Vr (r : Nat) (s : SS) : List Reg := [svReg s.q s.t s.b 1 (.iface 54 (p0 (r + 1))), spReg s.q s.t s.b (s.x.v (r + 2)), s.x.reg]
def DS.Vr (r : Nat) (d : DS) : List Reg := [svReg d.q d.t d.b 2 (.iface 57 (p0 (r + 1))), dReg d]
theorem cutI_id {a : Int} (h : a ≤ 4611686018427387904) : cutI a = a := by unfold cutI; split <;> omega
theorem atI_id {b n : Int} (h : b ≤ n) (h1 : n ≤ 4611686018427387904) : atI b n = n := by
  unfold atI
  rw [if_neg (by omega), cutI_id h1]
def tBkO : Tab := [(8, aliveP.sp), (9, n0P.sp)]
theorem tBkO_ok : TabOk Try.prog tBkO := (tab_cons alive_ok (tab_cons n0_ok tab_nil))

end Go.Proofs.Ytokiakcmdbihhaa
