import Derived.Test.YtglbonfohmdcnaaMeterB
open Go Go.Sx Go.Proofs
set_option maxRecDepth 100000
namespace Go.Proofs.Ytglbonfohmdcnaa

theorem MS.Ok.charge {s : MS} (h : s.Ok) {c k t : Int} (ht : 0 ≤ t) : (s.charge c k t).2.Ok := by
  have hk := cost_bd k
  unfold MS.charge
  split
  · exact h
  · split
    · exact h
    · exact h.on (by omega) (by omega) (Int.mul_nonneg hk.1 ht)
theorem MS.Ok.wait {s : MS} (h : s.Ok) {c t : Int} : (s.wait c t).2.Ok := by
  unfold MS.wait
  split
  · exact h
  · split
    · exact h
    · split
      · exact h
      · exact h.on (by omega) (by omega) (by omega)
theorem MS.Ok.new (c : Int) : (MS.new c).Ok := fun j hj => ⟨⟨Int.le_refl _, by show (0 : Int) ≤ 4611686018427387904; decide⟩, fun _ _ => Int.le_refl _, rfl⟩
theorem MS.charge_n (s : MS) (c k t : Int) : (s.charge c k t).2.n = s.n := by
  unfold MS.charge; split
  · rfl
  · split <;> rfl
theorem MS.wait_n (s : MS) (c t : Int) : (s.wait c t).2.n = s.n := by
  unfold MS.wait; split
  · rfl
  · split
    · rfl
    · split <;> rfl
def aliveP : Pat Unit where
  view | [], _ => some () | _, _ => none
  args _ := []
  H _ := []
  out _ := .retq .tt
theorem alive_vc : True → (((2 : Int) = (2 : Int) ∧ True) ∧ True) ∧ ((1 : Int) ≤ (2 : Int) ∧ (2 : Int) ≤ (4 : Int) → ∀ (x : MS), x = MS.new (2 : Int) → ∀ (v : Int), v = (0 : Int) → ((v != (0 : Int)) = true → False ∧ True ∧ True) ∧ ((v !=
  (0 : Int)) = false → (((True ∧ True) ∧ (0 : Int) = (0 : Int) ∧ (4 : Int) = (4 : Int) ∧ (2 : Int) = (2 : Int) ∧ True) ∧ ((2 : Nat) ≤ (2 : Nat) ∧ (True ∧ True ∧ (0 : Nat) = (0 : Nat) ∧ x.n = x.n ∧ x.n = x.n) ∧ x.st = x.st
  ∧ True) ∧ (x.n * (10 : Nat) ≤ x.n * (10 : Nat) ∧ x.n = x.n ∧ ∀ (j : Nat), j < x.n → x.clk j = x.clk j ∧ ((9 : Nat) = (9 : Nat) ∧ ∀ (j_1 : Nat), j_1 < (9 : Nat) → x.by_ j j_1 = x.by_ j j_1) ∧ True) ∧ True) ∧ (x.Ok ∧ (0 :
  Int) ≤ (2 : Int) ∧ (2 : Int) < (18446744073709551616 : Int)) ∧ ∀ (x_1 : Int × MS), x_1 = x.charge (0 : Int) (4 : Int) (2 : Int) → ∀ (v : Int), v = x_1.fst → (((True ∧ True) ∧ (1 : Int) = (1 : Int) ∧ (100 : Int) = (100 :
  Int) ∧ True) ∧ ((2 : Nat) ≤ (2 : Nat) ∧ (True ∧ True ∧ (0 : Nat) = (0 : Nat) ∧ x_1.snd.n = x_1.snd.n ∧ x_1.snd.n = x_1.snd.n) ∧ x_1.snd.st = x_1.snd.st ∧ True) ∧ (x_1.snd.n * (10 : Nat) ≤ x.n * (10 : Nat) ∧ x_1.snd.n =
  x_1.snd.n ∧ ∀ (j : Nat), j < x_1.snd.n → x_1.snd.clk j = x_1.snd.clk j ∧ ((9 : Nat) = (9 : Nat) ∧ ∀ (j_1 : Nat), j_1 < (9 : Nat) → x_1.snd.by_ j j_1 = x_1.snd.by_ j j_1) ∧ True) ∧ True) ∧ (x_1.snd.Ok ∧ (0 : Int) ≤ (100 :
  Int) ∧ (100 : Int) < (18446744073709551616 : Int)) ∧ ∀ (x_2 : Int × MS), x_2 = x_1.snd.wait (1 : Int) (100 : Int) → ∀ (v_1 : Int), v_1 = x_2.fst → (((True ∧ True) ∧ (0 : Int) = (0 : Int) ∧ (9 : Int) = (9 : Int) ∧ (1 :
  Int) = (1 : Int) ∧ True) ∧ ((2 : Nat) ≤ (2 : Nat) ∧ (True ∧ True ∧ (0 : Nat) = (0 : Nat) ∧ x_2.snd.n = x_2.snd.n ∧ x_2.snd.n = x_2.snd.n) ∧ x_2.snd.st = x_2.snd.st ∧ True) ∧ (x_2.snd.n * (10 : Nat) ≤ x.n * (10 : Nat) ∧
  x_2.snd.n = x_2.snd.n ∧ ∀ (j : Nat), j < x_2.snd.n → x_2.snd.clk j = x_2.snd.clk j ∧ ((9 : Nat) = (9 : Nat) ∧ ∀ (j_1 : Nat), j_1 < (9 : Nat) → x_2.snd.by_ j j_1 = x_2.snd.by_ j j_1) ∧ True) ∧ True) ∧ (x_2.snd.Ok ∧ (0 :
  Int) ≤ (1 : Int) ∧ (1 : Int) < (18446744073709551616 : Int)) ∧ ∀ (x_3 : Int × MS), x_3 = x_2.snd.charge (0 : Int) (9 : Int) (1 : Int) → ∀ (v_2 : Int), v_2 = x_3.fst → (((True ∧ True) ∧ (false = false ∧ True ∧ True ∧ (0 :
  Nat) = (0 : Nat) ∧ (2 : Nat) = (2 : Nat) ∧ (2 : Nat) = (2 : Nat)) ∧ True) ∧ ((2 : Nat) ≤ (2 : Nat) ∧ (True ∧ True ∧ (0 : Nat) = (0 : Nat) ∧ x_3.snd.n = x_3.snd.n ∧ x_3.snd.n = x_3.snd.n) ∧ x_3.snd.st = x_3.snd.st ∧ True)
  ∧ (x_3.snd.n * (10 : Nat) ≤ x.n * (10 : Nat) ∧ x_3.snd.n = x_3.snd.n ∧ ∀ (j : Nat), j < x_3.snd.n → x_3.snd.clk j = x_3.snd.clk j ∧ ((9 : Nat) = (9 : Nat) ∧ ∀ (j_1 : Nat), j_1 < (9 : Nat) → x_3.snd.by_ j j_1 =
  x_3.snd.by_ j j_1) ∧ True) ∧ ((0 : Nat) ≤ (2 : Nat) ∧ (2 : Nat) = (2 : Nat) ∧ ∀ (j : Nat), j < (2 : Nat) → true = true) ∧ True) ∧ (false = true → (2 : Nat) = (0 : Nat)) ∧ ((2 : Nat) ≤ (1000 : Nat) ∧ x_3.snd.n ≤ (4 :
  Nat)) ∧ ∀ (v_3 : Int), v_3 = leastF (fun (j : Nat) => x_3.snd.clk j) (WS.mk false (2 : Nat) (2 : Nat) fun (_ : Nat) => true).sel x_3.snd.n → (((True ∧ True) ∧ (1 : Int) = (1 : Int) ∧ (2 : Int) = (2 : Int) ∧
  (2305843009213693952 : Int) = (2305843009213693952 : Int) ∧ True) ∧ ((2 : Nat) ≤ (2 : Nat) ∧ (True ∧ True ∧ (0 : Nat) = (0 : Nat) ∧ x_3.snd.n = x_3.snd.n ∧ x_3.snd.n = x_3.snd.n) ∧ x_3.snd.st = x_3.snd.st ∧ True) ∧
  (x_3.snd.n * (10 : Nat) ≤ x.n * (10 : Nat) ∧ x_3.snd.n = x_3.snd.n ∧ ∀ (j : Nat), j < x_3.snd.n → x_3.snd.clk j = x_3.snd.clk j ∧ ((9 : Nat) = (9 : Nat) ∧ ∀ (j_1 : Nat), j_1 < (9 : Nat) → x_3.snd.by_ j j_1 = x_3.snd.by_
  j j_1) ∧ True) ∧ True) ∧ (x_3.snd.Ok ∧ (0 : Int) ≤ (2305843009213693952 : Int) ∧ (2305843009213693952 : Int) < (18446744073709551616 : Int)) ∧ ∀ (x_4 : Int × MS), x_4 = x_3.snd.charge (1 : Int) (2 : Int)
  (2305843009213693952 : Int) → ∀ (v_4 : Int), v_4 = x_4.fst → (((True ∧ True) ∧ (0 : Int) = (0 : Int) ∧ (1 : Int) = (1 : Int) ∧ (1 : Int) = (1 : Int) ∧ True) ∧ ((2 : Nat) ≤ (2 : Nat) ∧ (True ∧ True ∧ (0 : Nat) = (0 : Nat)
  ∧ x_4.snd.n = x_4.snd.n ∧ x_4.snd.n = x_4.snd.n) ∧ x_4.snd.st = x_4.snd.st ∧ True) ∧ (x_4.snd.n * (10 : Nat) ≤ x.n * (10 : Nat) ∧ x_4.snd.n = x_4.snd.n ∧ ∀ (j : Nat), j < x_4.snd.n → x_4.snd.clk j = x_4.snd.clk j ∧ ((9 :
  Nat) = (9 : Nat) ∧ ∀ (j_1 : Nat), j_1 < (9 : Nat) → x_4.snd.by_ j j_1 = x_4.snd.by_ j j_1) ∧ True) ∧ True) ∧ (x_4.snd.Ok ∧ (0 : Int) ≤ (1 : Int) ∧ (1 : Int) < (18446744073709551616 : Int)) ∧ ∀ (x_5 : Int × MS), x_5 =
  x_4.snd.charge (0 : Int) (1 : Int) (1 : Int) → ∀ (v_5 : Int), v_5 = x_5.fst → ((v == (0 : Int)) = true → ((v_1 == (0 : Int)) = true → ((v_2 == (11 : Int)) = true → ((v_3 == (0 : Int)) = true → ((v_4 == (22 : Int)) = true
  → ((v_5 == (22 : Int)) = true → (((True ∧ True) ∧ True) ∧ ((2 : Nat) ≤ (2 : Nat) ∧ (True ∧ True ∧ (0 : Nat) = (0 : Nat) ∧ x_5.snd.n = x_5.snd.n ∧ x_5.snd.n = x_5.snd.n) ∧ x_5.snd.st = x_5.snd.st ∧ True) ∧ (x_5.snd.n *
  (10 : Nat) ≤ x.n * (10 : Nat) ∧ x_5.snd.n = x_5.snd.n ∧ ∀ (j : Nat), j < x_5.snd.n → x_5.snd.clk j = x_5.snd.clk j ∧ ((9 : Nat) = (9 : Nat) ∧ ∀ (j_1 : Nat), j_1 < (9 : Nat) → x_5.snd.by_ j j_1 = x_5.snd.by_ j j_1) ∧
  True) ∧ True) ∧ (x_5.snd.st = true → (((True ∧ True) ∧ (0 : Int) = (0 : Int) ∧ True) ∧ ((2 : Nat) ≤ (2 : Nat) ∧ (True ∧ True ∧ (0 : Nat) = (0 : Nat) ∧ x_5.snd.n = x_5.snd.n ∧ x_5.snd.n = x_5.snd.n) ∧ x_5.snd.st =
  x_5.snd.st ∧ True) ∧ (x_5.snd.n * (10 : Nat) ≤ x.n * (10 : Nat) ∧ x_5.snd.n = x_5.snd.n ∧ ∀ (j : Nat), j < x_5.snd.n → x_5.snd.clk j = x_5.snd.clk j ∧ ((9 : Nat) = (9 : Nat) ∧ ∀ (j_1 : Nat), j_1 < (9 : Nat) → x_5.snd.by_
  j j_1 = x_5.snd.by_ j j_1) ∧ True) ∧ True) ∧ ((x_5.snd.clkOf (0 : Int) == (40 : Int)) = true → (((True ∧ True) ∧ (1 : Int) = (1 : Int) ∧ True) ∧ ((2 : Nat) ≤ (2 : Nat) ∧ (True ∧ True ∧ (0 : Nat) = (0 : Nat) ∧ x_5.snd.n =
  x_5.snd.n ∧ x_5.snd.n = x_5.snd.n) ∧ x_5.snd.st = x_5.snd.st ∧ True) ∧ (x_5.snd.n * (10 : Nat) ≤ x.n * (10 : Nat) ∧ x_5.snd.n = x_5.snd.n ∧ ∀ (j : Nat), j < x_5.snd.n → x_5.snd.clk j = x_5.snd.clk j ∧ ((9 : Nat) = (9 :
  Nat) ∧ ∀ (j_1 : Nat), j_1 < (9 : Nat) → x_5.snd.by_ j j_1 = x_5.snd.by_ j j_1) ∧ True) ∧ True) ∧ ((x_5.snd.clkOf (1 : Int) == (4611686018427387904 : Int)) = true → (((True ∧ True) ∧ (1 : Int) = (1 : Int) ∧ True) ∧ ((2 :
  Nat) ≤ (2 : Nat) ∧ (True ∧ True ∧ (0 : Nat) = (0 : Nat) ∧ x_5.snd.n = x_5.snd.n ∧ x_5.snd.n = x_5.snd.n) ∧ x_5.snd.st = x_5.snd.st ∧ True) ∧ (x_5.snd.n * (10 : Nat) ≤ x.n * (10 : Nat) ∧ x_5.snd.n = x_5.snd.n ∧ ∀ (j :
  Nat), j < x_5.snd.n → x_5.snd.clk j = x_5.snd.clk j ∧ ((9 : Nat) = (9 : Nat) ∧ ∀ (j_1 : Nat), j_1 < (9 : Nat) → x_5.snd.by_ j j_1 = x_5.snd.by_ j j_1) ∧ True) ∧ True) ∧ ((x_5.snd.idleOf (1 : Int) == (100 : Int)) = true →
  (((True ∧ True) ∧ (0 : Int) = (0 : Int) ∧ (4 : Int) = (4 : Int) ∧ True) ∧ ((2 : Nat) ≤ (2 : Nat) ∧ (True ∧ True ∧ (0 : Nat) = (0 : Nat) ∧ x_5.snd.n = x_5.snd.n ∧ x_5.snd.n = x_5.snd.n) ∧ x_5.snd.st = x_5.snd.st ∧ True) ∧
  (x_5.snd.n * (10 : Nat) ≤ x.n * (10 : Nat) ∧ x_5.snd.n = x_5.snd.n ∧ ∀ (j : Nat), j < x_5.snd.n → x_5.snd.clk j = x_5.snd.clk j ∧ ((9 : Nat) = (9 : Nat) ∧ ∀ (j_1 : Nat), j_1 < (9 : Nat) → x_5.snd.by_ j j_1 = x_5.snd.by_
  j j_1) ∧ True) ∧ True) ∧ ((x_5.snd.spentOf (0 : Int) (4 : Int) == (40 : Int)) = true → (((8 : Int) = (8 : Int) ∧ True) ∧ True) ∧ ((cost (8 : Int) == (64 : Int)) = true → (((True ∧ True) ∧ True ∧ True) ∧ ((2 : Nat) ≤ (2 :
  Nat) ∧ (True ∧ True ∧ (0 : Nat) = (0 : Nat) ∧ x_5.snd.n = x_5.snd.n ∧ x_5.snd.n = x_5.snd.n) ∧ x_5.snd.st = x_5.snd.st ∧ True) ∧ (x_5.snd.n * (10 : Nat) ≤ x.n * (10 : Nat) ∧ x_5.snd.n = x_5.snd.n ∧ ∀ (j : Nat), j <
  x_5.snd.n → x_5.snd.clk j = x_5.snd.clk j ∧ ((9 : Nat) = (9 : Nat) ∧ ∀ (j_1 : Nat), j_1 < (9 : Nat) → x_5.snd.by_ j j_1 = x_5.snd.by_ j j_1) ∧ True) ∧ True) ∧ x_5.snd.n ≤ (4 : Nat) ∧ ((-1 : Int) == (-1 : Int)) = true ∧
  True ∧ True) ∧ ((cost (8 : Int) == (64 : Int)) = false → False ∧ True ∧ True)) ∧ ((x_5.snd.spentOf (0 : Int) (4 : Int) == (40 : Int)) = false → False ∧ True ∧ True)) ∧ ((x_5.snd.idleOf (1 : Int) == (100 : Int)) = false →
  False ∧ True ∧ True)) ∧ ((x_5.snd.clkOf (1 : Int) == (4611686018427387904 : Int)) = false → False ∧ True ∧ True)) ∧ ((x_5.snd.clkOf (0 : Int) == (40 : Int)) = false → False ∧ True ∧ True)) ∧ (x_5.snd.st = false → False ∧
  True ∧ True)) ∧ ((v_5 == (22 : Int)) = false → False ∧ True ∧ True)) ∧ ((v_4 == (22 : Int)) = false → False ∧ True ∧ True)) ∧ ((v_3 == (0 : Int)) = false → False ∧ True ∧ True)) ∧ ((v_2 == (11 : Int)) = false → False ∧
  True ∧ True)) ∧ ((v_1 == (0 : Int)) = false → False ∧ True ∧ True)) ∧ ((v == (0 : Int)) = false → False ∧ True ∧ True))) ∧ (¬((1 : Int) ≤ (2 : Int) ∧ (2 : Int) ≤ (4 : Int)) → ∀ (v : Int), v = (11 : Int) → ((v != (0 :
  Int)) = true → False ∧ True ∧ True) ∧ ((v != (0 : Int)) = false → False ∧ True ∧ True)) := by
  simp only [true_and, and_true, eq_self, Nat.le_refl, beq_iff_eq, beq_eq_false_iff_ne, implies_true, true_implies, and_self, bne_iff_ne, ne_eq, bne_eq_false_iff_eq, forall_eq]
  repeat' (with_reducible first | apply And.intro | intro _)
  all_goals (first
    | decide +kernel
    | (rename_i h; exact absurd (by decide +kernel) h)
    | (rename_i h; exact absurd h (by decide +kernel))
    | (rename_i h _; exact absurd (by decide +kernel) h)
    | skip)
  all_goals (repeat (first | exact MS.Ok.new _ | refine MS.Ok.charge ?_ (by decide) | refine MS.Ok.wait ?_))

def alive_C (_ : Unit) : Cfg := { Γ := Go.Sx.look tLaw, names := true }
theorem alive_al (x : Unit) : Shown (aliveP.vc Try.prog (alive_C x) Try.f7 x) := ⟨@Eq.mp _ _ (by kernel_rfl) (alive_vc )⟩
theorem alive_ok : SpOk Try.prog 7 aliveP.sp := @Pat.okS _ aliveP Try.prog alive_C 7 Try.f7 (fun x => cfg_tab rfl tLaw_ok) (by kernel_rfl) Try.func7 (fun _ => rfl) alive_al
def tTop : Tab := [(7, aliveP.sp), (8, newP.sp), (14, clockP.sp), (16, idleP.sp), (18, spentP.sp), (13, stoppedP.sp), (11, chargeP.sp), (9, waitP.sp), (19, altSp 1 (leastNP.sp) (leastP.sp)), (20, costP.sp)]
theorem tTop_ok : TabOk Try.prog tTop := (tab_cons alive_ok (tab_cons new_ok (tab_cons clock_ok (tab_cons idle_ok (tab_cons spent_ok (tab_cons stopped_ok (tab_cons charge_ok (tab_cons wait_ok (tab_cons leastA_ok (tab_cons cost_ok tab_nil))))))))))

/-- A row of calls. -/
structure CS where
  nil : Bool
  len : Nat
  cap : Nat
  core : Nat → Int
  kind : Nat → Int
  times : Nat → Int
  wait : Nat → Bool
def CS.reg (x : CS) : Reg := roReg 35 x.len 4 (fun j => .cons (.int .i64 (x.core j)) (.cons (.int .i64 (x.kind j)) (.cons (.int .u64 (x.times j)) (.cons (.bool (x.wait j)) .nil))))
def CS.t (x : CS) (r : Nat) : T := .ite x.nil .nils (.slice r 0 [] 0 4 x.len x.cap)
def CS.Ok (x : CS) : Prop := (x.nil = true → x.len = 0) ∧ x.len ≤ 9223372036854775807 ∧ ∀ j, i64 (x.core j) ∧ i64 (x.kind j) ∧ u64 (x.times j)
theorem on_clk {s : MS} (hs : s.Ok) {c : Int} {k : Nat} {y : Int} (hc : 0 ≤ c ∧ c < s.n) (hy : 0 ≤ y) : s.clkOf c ≤ (s.on c.toNat k y).clkOf c := by
  obtain ⟨⟨h1, h2⟩, -⟩ := hs c.toNat (by omega)
  unfold MS.clkOf
  rw [if_pos hc, if_pos (show 0 ≤ c ∧ c < ((s.on c.toNat k y).n : Int) from hc)]
  simp only [MS.on, upI, if_pos]
  omega
theorem wait_fact {s : MS} (hs : s.Ok) (c t : Int) : s.clkOf c ≤ (s.wait c t).2.clkOf c ∧ (s.st = true → (s.wait c t).1 ≠ 0 ∧ (s.wait c t).2.clkOf c = s.clkOf c) ∧ ((s.wait c t).1 = 22 → (s.wait c t).2.st = true) := by
  unfold MS.wait
  split
  · exact ⟨Int.le_refl _, fun _ => ⟨by simp, rfl⟩, fun h => by simp at h⟩
  · split
    · rename_i h; exact ⟨Int.le_refl _, fun _ => ⟨by simp, rfl⟩, fun _ => h⟩
    · split
      · rename_i h _; exact ⟨Int.le_refl _, fun h2 => absurd h2 h, fun h => by simp at h⟩
      · rename_i h _
        refine ⟨on_clk hs (by omega) (by omega), fun h2 => absurd h2 h, fun h => ?_⟩
        dsimp only at h ⊢
        split at h
        · assumption
        · simp at h
theorem charge_fact {s : MS} (hs : s.Ok) (c k t : Int) (ht : 0 ≤ t) : s.clkOf c ≤ (s.charge c k t).2.clkOf c ∧ (s.st = true → (s.charge c k t).1 ≠ 0 ∧ (s.charge c k t).2.clkOf c = s.clkOf c) ∧ ((s.charge c k t).1 = 22 → (s.charge c k t).2.st = true) := by
  have hk := cost_bd k
  unfold MS.charge
  split
  · exact ⟨Int.le_refl _, fun _ => ⟨by simp, rfl⟩, fun h => by simp at h⟩
  · split
    · rename_i h; exact ⟨Int.le_refl _, fun _ => ⟨by simp, rfl⟩, fun _ => h⟩
    · rename_i h
      refine ⟨on_clk hs (by omega) (Int.mul_nonneg hk.1 ht), fun h2 => absurd h2 h, fun h => ?_⟩
      dsimp only at h ⊢
      split at h
      · assumption
      · simp at h
