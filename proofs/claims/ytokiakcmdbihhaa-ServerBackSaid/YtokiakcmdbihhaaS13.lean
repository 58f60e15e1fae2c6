import Derived.Test.YtokiakcmdbihhaaS12
open Go Go.Sx Go.Proofs
set_option maxRecDepth 100000
namespace Go.Proofs.Ytokiakcmdbihhaa

structure A64 where
  v : Int
def A64.t (x : A64) : T := .int .u64 x.v
def A64.Ok (x : A64) : Prop := u64 x.v
structure AI where
  v : Int
def AI.t (x : AI) : T := .int .i64 x.v
def AI.Ok (x : AI) : Prop := i64 x.v
def badK (k q t n : Int) : Prop := ¬ ((k = 1 ∨ k = 2) ∧ rngI q t n)
/-- No server. -/
def n0P : Pat (Int × Int × Int × Int) where
  view | [.int .i64 k, .int .u64 q, .int .u64 t, .int .u64 n], _ => some (k, q, t, n) | _, _ => none
  args x := [.int .i64 x.1, .int .u64 x.2.1, .int .u64 x.2.2.1, .int .u64 x.2.2.2]
  H _ := []
  out x := .need (badK x.1 x.2.1 x.2.2.1 x.2.2.2) (.retq (.tup (.cons .nilp (.cons (.int .i64 (if x.1 = 1 ∨ x.1 = 2 then 11 else 10)) .nil))))
theorem n0_vc : ∀ (k q t n : Int),
    badK k q t n ∧ True →
      ∀ (v : Int),
        v = (0 : Int) →
          ((k == (1 : Int)) = true →
              (decide (q < (1 : Int)) = true →
                  ∀ (v : Int), v = (11 : Int) → badK k q t n → (True ∧ (v = if k = (1 : Int) ∨ k = (2 : Int) then (11 : Int) else (10 : Int)) ∧ True) ∧ True ∧ True) ∧
                (decide (q < (1 : Int)) = false →
                  (decide (q > t) = true →
                      ∀ (v : Int), v = (11 : Int) → badK k q t n → (True ∧ (v = if k = (1 : Int) ∨ k = (2 : Int) then (11 : Int) else (10 : Int)) ∧ True) ∧ True ∧ True) ∧
                    (decide (q > t) = false →
                      (decide (t > (1099511627776 : Int)) = true →
                          ∀ (v : Int), v = (11 : Int) → badK k q t n → (True ∧ (v = if k = (1 : Int) ∨ k = (2 : Int) then (11 : Int) else (10 : Int)) ∧ True) ∧ True ∧ True) ∧
                        (decide (t > (1099511627776 : Int)) = false →
                          (decide (n > (2305843009213693952 : Int)) = true →
                              ∀ (v : Int), v = (11 : Int) → badK k q t n → (True ∧ (v = if k = (1 : Int) ∨ k = (2 : Int) then (11 : Int) else (10 : Int)) ∧ True) ∧ True ∧ True) ∧
                            (decide (n > (2305843009213693952 : Int)) = false →
                              ∀ (v : Int), v = (0 : Int) → badK k q t n → (False ∧ (v = if k = (1 : Int) ∨ k = (2 : Int) then (11 : Int) else (10 : Int)) ∧ True) ∧ True ∧ True))))) ∧
            ((k == (1 : Int)) = false →
              ((k == (2 : Int)) = true →
                  (decide (q < (1 : Int)) = true →
                      ∀ (v : Int), v = (11 : Int) → badK k q t n → (True ∧ (v = if k = (1 : Int) ∨ k = (2 : Int) then (11 : Int) else (10 : Int)) ∧ True) ∧ True ∧ True) ∧
                    (decide (q < (1 : Int)) = false →
                      (decide (q > t) = true →
                          ∀ (v : Int), v = (11 : Int) → badK k q t n → (True ∧ (v = if k = (1 : Int) ∨ k = (2 : Int) then (11 : Int) else (10 : Int)) ∧ True) ∧ True ∧ True) ∧
                        (decide (q > t) = false →
                          (decide (t > (1099511627776 : Int)) = true →
                              ∀ (v : Int), v = (11 : Int) → badK k q t n → (True ∧ (v = if k = (1 : Int) ∨ k = (2 : Int) then (11 : Int) else (10 : Int)) ∧ True) ∧ True ∧ True) ∧
                            (decide (t > (1099511627776 : Int)) = false →
                              (decide (n > (2305843009213693952 : Int)) = true →
                                  ∀ (v : Int), v = (11 : Int) → badK k q t n → (True ∧ (v = if k = (1 : Int) ∨ k = (2 : Int) then (11 : Int) else (10 : Int)) ∧ True) ∧ True ∧ True) ∧
                                (decide (n > (2305843009213693952 : Int)) = false →
                                  ∀ (v : Int),
                                    v = (0 : Int) → badK k q t n → (False ∧ (v = if k = (1 : Int) ∨ k = (2 : Int) then (11 : Int) else (10 : Int)) ∧ True) ∧ True ∧ True))))) ∧
                ((k == (2 : Int)) = false →
                  ∀ (v : Int), v = (10 : Int) → badK k q t n → (True ∧ (v = if k = (1 : Int) ∨ k = (2 : Int) then (11 : Int) else (10 : Int)) ∧ True) ∧ True ∧ True)) := by
  simp only [true_and, and_true, decide_eq_true_eq, decide_eq_false_iff_not, beq_iff_eq, beq_eq_false_iff_ne, and_self, Int.not_lt, gt_iff_lt, ne_eq]
  rintro k q t n hb v hv
  unfold badK rngI at hb
  refine ⟨fun hk => ⟨fun h v hv _ => by rw [hv, if_pos (.inl hk)], fun h1 => ⟨fun h v hv _ => by rw [hv, if_pos (.inl hk)], fun h2 => ⟨fun h v hv _ => by rw [hv, if_pos (.inl hk)], fun h3 => ⟨fun h v hv _ => by rw [hv, if_pos (.inl hk)], fun h4 => absurd ⟨.inl hk, h1, h2, h3, h4⟩ hb⟩⟩⟩⟩,
    fun hk => ⟨fun hk2 => ⟨fun h v hv _ => by rw [hv, if_pos (.inr hk2)], fun h1 => ⟨fun h v hv _ => by rw [hv, if_pos (.inr hk2)], fun h2 => ⟨fun h v hv _ => by rw [hv, if_pos (.inr hk2)], fun h3 => ⟨fun h v hv _ => by rw [hv, if_pos (.inr hk2)], fun h4 => absurd ⟨.inr hk2, h1, h2, h3, h4⟩ hb⟩⟩⟩⟩, fun hk2 v hv _ => by rw [hv, if_neg (by omega)]⟩⟩

def n0_C (_ : (Int × Int × Int × Int)) : Cfg := { Γ := Go.Sx.look [], names := true }
theorem n0_al (x : (Int × Int × Int × Int)) : Shown (n0P.vc Try.prog (n0_C x) Try.f9 x) := ⟨@Eq.mp _ _ (by kernel_rfl) (n0_vc (x.1) (x.2.1) (x.2.2.1) (x.2.2.2))⟩
theorem n0_ok : SpOk Try.prog 9 n0P.sp := @Pat.okS _ n0P Try.prog n0_C 9 Try.f9 (fun x => cfg_nil rfl) (by kernel_rfl) Try.func9 (fun _ => rfl) n0_al
/-- A server, as it lies behind some regions. -/
def SS.Vr (r : Nat) (s : SS) : List Reg := [svReg s.q s.t s.b 1 (.iface 54 (p0 (r + 1))), spReg s.q s.t s.b (s.x.v (r + 2)), s.x.reg]
def DS.Vr (r : Nat) (d : DS) : List Reg := [svReg d.q d.t d.b 2 (.iface 57 (p0 (r + 1))), dReg d]
/-! sum -/
def sumP : Pat (SS × Int) where
  view | [.ptr r 0 [], .int .u64 n], H => some (viewSV r H, n) | _, _ => none
  args x := [p0 0, .int .u64 x.2]
  H x := x.1.V
  out x := .need x.1.Ok (.any (fun y : CR => y.Ok ∧ y.L = wakeL (atI x.1.b x.2) x.1.x.L) fun y => .ret (.int .u64 (usL (atI x.1.b x.2) y.L)) (x.1.V2 y))
def tSum : Tab := [(11, altH isSpo (swP.sp) (sdwP.sp)), (12, altH isSpo (suP.sp) (sduP.sp))]
theorem tSum_ok : TabOk Try.prog tSum := (tab_cons swA_ok (tab_cons suA_ok tab_nil))

theorem sum__vc : ∀ (s : SS) (n : Int),
    s.Ok ∧ True →
      ∀ (v : Int),
        v = (0 : Int) →
          (((True ∧ True) ∧ n = n ∧ True) ∧
              ((5 : Nat) ≤ (5 : Nat) ∧ (s.q = s.q ∧ s.t = s.t ∧ s.b = s.b ∧ True) ∧ (1 : Int) = (1 : Int) ∧ (True ∧ True) ∧ True) ∧
                ((4 : Nat) ≤ (4 : Nat) ∧ (s.q = s.q ∧ s.t = s.t ∧ s.b = s.b ∧ True) ∧ (True ∧ True ∧ s.x.lo = s.x.lo ∧ s.x.len = s.x.len ∧ s.x.cap = s.x.cap) ∧ True) ∧
                  ((s.x.lo + s.x.cap) * (2 : Nat) ≤ (s.x.lo + s.x.cap) * (2 : Nat) ∧ s.x.N = s.x.N ∧ ∀ (j : Nat), j < s.x.N → s.x.a j = s.x.a j ∧ s.x.b j = s.x.b j ∧ True) ∧ True) ∧
            (SS.mk s.q s.t s.b (CR.mk s.x.lo s.x.len s.x.cap s.x.N (fun (j : Nat) => s.x.a j) fun (j : Nat) => s.x.b j)).Ok ∧
              ∀ (x : CR),
                x.Ok ∧ x.L = wakeL (atI s.b n) s.x.L →
                  (((True ∧ True) ∧ n = n ∧ True) ∧
                      ((5 : Nat) ≤ (5 : Nat) ∧ (s.q = s.q ∧ s.t = s.t ∧ s.b = s.b ∧ True) ∧ (1 : Int) = (1 : Int) ∧ (True ∧ True) ∧ True) ∧
                        ((4 : Nat) ≤ (4 : Nat) ∧ (s.q = s.q ∧ s.t = s.t ∧ s.b = s.b ∧ True) ∧ (True ∧ True ∧ x.lo = x.lo ∧ x.len = x.len ∧ x.cap = x.cap) ∧ True) ∧
                          ((x.lo + x.cap) * (2 : Nat) ≤ (x.lo + x.cap) * (2 : Nat) ∧ x.N = x.N ∧ ∀ (j : Nat), j < x.N → x.a j = x.a j ∧ x.b j = x.b j ∧ True) ∧ True) ∧
                    (SS.mk s.q s.t s.b (CR.mk x.lo x.len x.cap x.N (fun (j : Nat) => x.a j) fun (j : Nat) => x.b j)).Ok ∧
                      ∀ (v : Int),
                        v = usL (atI s.b n) x.L →
                          s.Ok →
                            ∃ (x_1 : CR),
                              (x_1.Ok ∧ x_1.L = wakeL (atI s.b n) s.x.L) ∧
                                v = usL (atI s.b n) x_1.L ∧
                                  True ∧
                                    ((5 : Nat) ≤ (5 : Nat) ∧ (s.q = s.q ∧ s.t = s.t ∧ s.b = s.b ∧ True) ∧ (1 : Int) = (1 : Int) ∧ (True ∧ True) ∧ True) ∧
                                      ((4 : Nat) ≤ (4 : Nat) ∧
                                          (s.q = s.q ∧ s.t = s.t ∧ s.b = s.b ∧ True) ∧ (True ∧ True ∧ x.lo = x_1.lo ∧ x.len = x_1.len ∧ x.cap = x_1.cap) ∧ True) ∧
                                        (0 : Nat) = (0 : Nat) ∧
                                          ((x_1.lo + x_1.cap) * (2 : Nat) ≤ (x.lo + x.cap) * (2 : Nat) ∧
                                              x_1.N = x.N ∧ ∀ (j : Nat), j < x.N → x.a j = x_1.a j ∧ x.b j = x_1.b j ∧ True) ∧
                                            True := by
  simp only [true_and, and_true, eq_self, Nat.le_refl, implies_true, and_self]
  rintro s n hok _ rfl
  refine ⟨hok, fun x hx => ⟨?_, fun v hv _ => ⟨x, hx, hv, ⟨rfl, rfl, rfl⟩, Nat.le_refl _, rfl, fun j _ => ⟨rfl, rfl⟩⟩⟩⟩
  have ha := atI_in (n := n) hok.b0 hok.b1
  exact hok.of hx.1 (by rw [hx.2]; exact hok.ql.wake hok.q0 ha.2.1 ha.2.2)

def sum__C (_ : (SS × Int)) : Cfg := { Γ := Go.Sx.look tSum, names := true }
theorem sum__al (x : (SS × Int)) : Shown (sumP.vc Try.prog (sum__C x) Try.f16 x) := ⟨@Eq.mp _ _ (by kernel_rfl) (sum__vc (x.1) (x.2))⟩
theorem sum__ok : SpOk Try.prog 16 sumP.sp := @Pat.okS _ sumP Try.prog sum__C 16 Try.f16 (fun x => cfg_tab rfl tSum_ok) (by kernel_rfl) Try.func16 (fun _ => rfl) sum__al
/-! ServerBack -/
theorem cutI_id {a : Int} (h : a ≤ 4611686018427387904) : cutI a = a := by unfold cutI; split <;> omega
theorem atI_id {b n : Int} (h : b ≤ n) (h1 : n ≤ 4611686018427387904) : atI b n = n := by
  unfold atI
  rw [if_neg (by omega), cutI_id h1]
theorem charge_new {q t n c : Int} (h1 : rngI q t n) (hn : n ≤ 1152921504606846976) (hc : 1 ≤ c) :
    (cI q c < q → chargeL q t n c [(n, q)] = [(n, q - cI q c), (n + t, cI q c)]) ∧ (q ≤ cI q c → chargeL q t n c [(n, q)] = [(n + t, q)]) := by
  obtain ⟨a1, a2, a3, a4⟩ := h1
  have hcI : 1 ≤ cI q c := by unfold cI; split <;> omega
  have hd : dueL t [(n, q)] = n + t := by
    show cutI (n + t) = n + t
    exact cutI_id (by omega)
  have hL : L1 t n [(n, q)] = [(n, q)] := by
    unfold L1; rw [hd, if_neg (by omega)]
  refine ⟨fun h => ?_, fun h => ?_⟩
  · rw [charge_def, hL]
    simp only [takeL]
    rw [if_neg (by omega), if_pos h, cutI_id (by omega)]
    simp only [laysL, layL, insL]
    rw [if_pos (by omega)]
    rfl
  · have e : cI q c = q := by unfold cI at h ⊢; split <;> (split at h <;> omega)
    rw [charge_def, hL, e]
    simp only [takeL]
    rw [if_neg (by omega), if_neg (by omega), cutI_id (by omega)]
    rfl
def bkP : Pat (A64 × A64 × A64 × A64) where
  view _ _ := none
  args x := [x.1.t, x.2.1.t, x.2.2.1.t, x.2.2.2.t]
  H _ := []
  out x := .need ((x.1.Ok ∧ x.2.1.Ok ∧ x.2.2.1.Ok ∧ x.2.2.2.Ok) ∧ rngI x.1.v x.2.1.v x.2.2.1.v) (.retq .tt)
def bkoP : Pat (A64 × A64 × A64 × A64) where
  view _ _ := none
  args x := [x.1.t, x.2.1.t, x.2.2.1.t, x.2.2.2.t]
  H _ := []
  out x := .need ((x.1.Ok ∧ x.2.1.Ok ∧ x.2.2.1.Ok ∧ x.2.2.2.Ok) ∧ badK 1 x.1.v x.2.1.v x.2.2.1.v) (.retq .tt)
def tBkO : Tab := [(8, aliveP.sp), (9, n0P.sp)]
theorem tBkO_ok : TabOk Try.prog tBkO := (tab_cons alive_ok (tab_cons n0_ok tab_nil))

theorem bko_vc : ∀ (q t n c : A64),
    ((q.Ok ∧ t.Ok ∧ n.Ok ∧ c.Ok) ∧ badK (1 : Int) q.v t.v n.v) ∧ True →
      (True ∧ True) ∧
        (((1 : Int) = (1 : Int) ∧ q.v = q.v ∧ t.v = t.v ∧ n.v = n.v ∧ True) ∧ True) ∧
          badK (1 : Int) q.v t.v n.v ∧
            ∀ (v : Int),
              (v = if (1 : Int) = (1 : Int) ∨ (1 : Int) = (2 : Int) then (11 : Int) else (10 : Int)) →
                ((v != (0 : Int)) = true → (q.Ok ∧ t.Ok ∧ n.Ok ∧ c.Ok) ∧ badK (1 : Int) q.v t.v n.v → True ∧ True ∧ True) ∧
                  ((v != (0 : Int)) = false → (q.Ok ∧ t.Ok ∧ n.Ok ∧ c.Ok) ∧ badK (1 : Int) q.v t.v n.v → True ∧ True ∧ True) := by
  simp only [true_and, and_true, eq_self, implies_true, and_self, bne_iff_ne, ne_eq, bne_eq_false_iff_eq]
  rintro q t n c ⟨_, h⟩
  exact h

def bko_C (_ : (A64 × A64 × A64 × A64)) : Cfg := { Γ := Go.Sx.look tBkO, names := true }
theorem bko_al (x : (A64 × A64 × A64 × A64)) : Shown (bkoP.vc Try.prog (bko_C x) Try.f5 x) := ⟨@Eq.mp _ _ (by kernel_rfl) (bko_vc (x.1) (x.2.1) (x.2.2.1) (x.2.2.2))⟩
theorem bko_ok : SpOk Try.prog 5 bkoP.sp := @Pat.okS _ bkoP Try.prog bko_C 5 Try.f5 (fun x => cfg_tab rfl tBkO_ok) (by kernel_rfl) Try.func5 (fun _ => rfl) bko_al
def tBk : Tab := [(8, aliveP.sp), (9, n1P.sp), (11, swP.sp), (12, altH isSpo (suP.sp) (sduP.sp)), (13, altH isSpo (scP.sp) (sdcP.sp)), (15, altH isSpo (slP.sp) (sdlP.sp)), (17, altH isSpo (snP.sp) (sdnP.sp)), (16, sumP.sp)]
theorem tBk_ok : TabOk Try.prog tBk := (tab_cons alive_ok (tab_cons n1_ok (tab_cons sw_ok (tab_cons suA_ok (tab_cons scA_ok (tab_cons slA_ok (tab_cons snA_ok (tab_cons sum__ok tab_nil))))))))

theorem bk_vc : ∀ (q t n c : A64),
    ((q.Ok ∧ t.Ok ∧ n.Ok ∧ c.Ok) ∧ rngI q.v t.v n.v) ∧ True →
      (True ∧ True) ∧
        (((1 : Int) = (1 : Int) ∧ q.v = q.v ∧ t.v = t.v ∧ n.v = n.v ∧ True) ∧ True) ∧
          rngI q.v t.v n.v ∧
            ∀ (x : CR),
              x.Ok ∧ x.L = [(n.v, q.v)] →
                ∀ (v : Int),
                  v = (0 : Int) →
                    ((v != (0 : Int)) = true → (q.Ok ∧ t.Ok ∧ n.Ok ∧ c.Ok) ∧ rngI q.v t.v n.v → True ∧ True ∧ True) ∧
                      ((v != (0 : Int)) = false →
                        ((c.v == (0 : Int)) = true → (q.Ok ∧ t.Ok ∧ n.Ok ∧ c.Ok) ∧ rngI q.v t.v n.v → True ∧ True ∧ True) ∧
                          ((c.v == (0 : Int)) = false →
                            (decide (n.v > (1152921504606846976 : Int)) = true → (q.Ok ∧ t.Ok ∧ n.Ok ∧ c.Ok) ∧ rngI q.v t.v n.v → True ∧ True ∧ True) ∧
                              (decide (n.v > (1152921504606846976 : Int)) = false →
                                (((True ∧ True) ∧ n.v = n.v ∧ True) ∧
                                    ((5 : Nat) ≤ (5 : Nat) ∧ (q.v = q.v ∧ t.v = t.v ∧ n.v = n.v ∧ True) ∧ (1 : Int) = (1 : Int) ∧ (True ∧ True) ∧ True) ∧
                                      ((4 : Nat) ≤ (4 : Nat) ∧ (q.v = q.v ∧ t.v = t.v ∧ n.v = n.v ∧ True) ∧ (True ∧ True ∧ x.lo = x.lo ∧ x.len = x.len ∧ x.cap = x.cap) ∧ True) ∧
                                        ((x.lo + x.cap) * (2 : Nat) ≤ (x.lo + x.cap) * (2 : Nat) ∧ x.N = x.N ∧ ∀ (j : Nat), j < x.N → x.a j = x.a j ∧ x.b j = x.b j ∧ True) ∧ True) ∧
                                  (SS.mk q.v t.v n.v (CR.mk x.lo x.len x.cap x.N (fun (j : Nat) => x.a j) fun (j : Nat) => x.b j)).Ok ∧
                                    ∀ (v : Int),
                                      v = dueL t.v x.L →
                                        (((True ∧ True) ∧ n.v = n.v ∧ c.v = c.v ∧ True) ∧
                                            ((5 : Nat) ≤ (5 : Nat) ∧ (q.v = q.v ∧ t.v = t.v ∧ n.v = n.v ∧ True) ∧ (1 : Int) = (1 : Int) ∧ (True ∧ True) ∧ True) ∧
                                              ((4 : Nat) ≤ (4 : Nat) ∧
                                                  (q.v = q.v ∧ t.v = t.v ∧ n.v = n.v ∧ True) ∧ (True ∧ True ∧ x.lo = x.lo ∧ x.len = x.len ∧ x.cap = x.cap) ∧ True) ∧
                                                ((x.lo + x.cap) * (2 : Nat) ≤ (x.lo + x.cap) * (2 : Nat) ∧ x.N = x.N ∧ ∀ (j : Nat), j < x.N → x.a j = x.a j ∧ x.b j = x.b j ∧ True) ∧
                                                  True) ∧
                                          ((SS.mk q.v t.v n.v (CR.mk x.lo x.len x.cap x.N (fun (j : Nat) => x.a j) fun (j : Nat) => x.b j)).Ok ∧ (0 : Int) ≤ c.v) ∧
                                            ∀ (x_1 : CR),
                                              x_1.Ok ∧ x_1.L = chargeL q.v t.v (atI n.v n.v) c.v x.L →
                                                ∀ (v_1 : Int),
                                                  v_1 = cI q.v c.v →
                                                    ((v_1 != if q.v < c.v then q.v else c.v) = true → (q.Ok ∧ t.Ok ∧ n.Ok ∧ c.Ok) ∧ rngI q.v t.v n.v → False ∧ True ∧ True) ∧
                                                      ((v_1 != if q.v < c.v then q.v else c.v) = false →
                                                        ((v != IntKind.u64.wrap (n.v + t.v)) = true → (q.Ok ∧ t.Ok ∧ n.Ok ∧ c.Ok) ∧ rngI q.v t.v n.v → False ∧ True ∧ True) ∧
                                                          ((v != IntKind.u64.wrap (n.v + t.v)) = false →
                                                            (decide (v_1 < q.v) = true →
                                                                (((True ∧ True) ∧ n.v = n.v ∧ True) ∧
                                                                    ((5 : Nat) ≤ (5 : Nat) ∧
                                                                        (q.v = q.v ∧ t.v = t.v ∧ n.v = n.v ∧ True) ∧ (1 : Int) = (1 : Int) ∧ (True ∧ True) ∧ True) ∧
                                                                      ((4 : Nat) ≤ (4 : Nat) ∧
                                                                          (q.v = q.v ∧ t.v = t.v ∧ n.v = n.v ∧ True) ∧
                                                                            (True ∧ True ∧ x_1.lo = x_1.lo ∧ x_1.len = x_1.len ∧ x_1.cap = x_1.cap) ∧ True) ∧
                                                                        ((x_1.lo + x_1.cap) * (2 : Nat) ≤ (x_1.lo + x_1.cap) * (2 : Nat) ∧
                                                                            x_1.N = x_1.N ∧ ∀ (j : Nat), j < x_1.N → x_1.a j = x_1.a j ∧ x_1.b j = x_1.b j ∧ True) ∧
                                                                          True) ∧
                                                                  (SS.mk q.v t.v n.v (CR.mk x_1.lo x_1.len x_1.cap x_1.N (fun (j : Nat) => x_1.a j) fun (j : Nat) => x_1.b j)).Ok ∧
                                                                    ((usL (atI n.v n.v) x_1.L == IntKind.u64.wrap (q.v - v_1)) = true →
                                                                        (((True ∧ True) ∧ n.v = n.v ∧ True) ∧
                                                                            ((5 : Nat) ≤ (5 : Nat) ∧
                                                                                (q.v = q.v ∧ t.v = t.v ∧ n.v = n.v ∧ True) ∧ (1 : Int) = (1 : Int) ∧ (True ∧ True) ∧ True) ∧
                                                                              ((4 : Nat) ≤ (4 : Nat) ∧
                                                                                  (q.v = q.v ∧ t.v = t.v ∧ n.v = n.v ∧ True) ∧
                                                                                    (True ∧ True ∧ x_1.lo = x_1.lo ∧ x_1.len = x_1.len ∧ x_1.cap = x_1.cap) ∧ True) ∧
                                                                                ((x_1.lo + x_1.cap) * (2 : Nat) ≤ (x_1.lo + x_1.cap) * (2 : Nat) ∧
                                                                                    x_1.N = x_1.N ∧ ∀ (j : Nat), j < x_1.N → x_1.a j = x_1.a j ∧ x_1.b j = x_1.b j ∧ True) ∧
                                                                                  True) ∧
                                                                          (SS.mk q.v t.v n.v
                                                                                (CR.mk x_1.lo x_1.len x_1.cap x_1.N (fun (j : Nat) => x_1.a j) fun (j : Nat) => x_1.b j)).Ok ∧
                                                                            ((dueL t.v x_1.L == v) = true →
                                                                                (((True ∧ True) ∧ v = v ∧ True) ∧
                                                                                    ((5 : Nat) ≤ (5 : Nat) ∧
                                                                                        (q.v = q.v ∧ t.v = t.v ∧ n.v = n.v ∧ True) ∧ (1 : Int) = (1 : Int) ∧ (True ∧ True) ∧ True) ∧
                                                                                      ((4 : Nat) ≤ (4 : Nat) ∧
                                                                                          (q.v = q.v ∧ t.v = t.v ∧ n.v = n.v ∧ True) ∧
                                                                                            (True ∧ True ∧ x_1.lo = x_1.lo ∧ x_1.len = x_1.len ∧ x_1.cap = x_1.cap) ∧ True) ∧
                                                                                        ((x_1.lo + x_1.cap) * (2 : Nat) ≤ (x_1.lo + x_1.cap) * (2 : Nat) ∧
                                                                                            x_1.N = x_1.N ∧ ∀ (j : Nat), j < x_1.N → x_1.a j = x_1.a j ∧ x_1.b j = x_1.b j ∧ True) ∧
                                                                                          True) ∧
                                                                                  (SS.mk q.v t.v n.v
                                                                                        (CR.mk x_1.lo x_1.len x_1.cap x_1.N (fun (j : Nat) => x_1.a j) fun (j : Nat) => x_1.b j)).Ok ∧
                                                                                    ∀ (x : CR),
                                                                                      x.Ok ∧ x.L = wakeL (atI n.v v) x_1.L →
                                                                                        (q.Ok ∧ t.Ok ∧ n.Ok ∧ c.Ok) ∧ rngI q.v t.v n.v →
                                                                                          (usL (atI n.v v) x.L == q.v) = true ∧ True ∧ True) ∧
                                                                              ((dueL t.v x_1.L == v) = false →
                                                                                (q.Ok ∧ t.Ok ∧ n.Ok ∧ c.Ok) ∧ rngI q.v t.v n.v → False ∧ True ∧ True)) ∧
                                                                      ((usL (atI n.v n.v) x_1.L == IntKind.u64.wrap (q.v - v_1)) = false →
                                                                        (q.Ok ∧ t.Ok ∧ n.Ok ∧ c.Ok) ∧ rngI q.v t.v n.v → False ∧ True ∧ True)) ∧
                                                              (decide (v_1 < q.v) = false →
                                                                (((True ∧ True) ∧ n.v = n.v ∧ True) ∧
                                                                    ((5 : Nat) ≤ (5 : Nat) ∧
                                                                        (q.v = q.v ∧ t.v = t.v ∧ n.v = n.v ∧ True) ∧ (1 : Int) = (1 : Int) ∧ (True ∧ True) ∧ True) ∧
                                                                      ((4 : Nat) ≤ (4 : Nat) ∧
                                                                          (q.v = q.v ∧ t.v = t.v ∧ n.v = n.v ∧ True) ∧
                                                                            (True ∧ True ∧ x_1.lo = x_1.lo ∧ x_1.len = x_1.len ∧ x_1.cap = x_1.cap) ∧ True) ∧
                                                                        ((x_1.lo + x_1.cap) * (2 : Nat) ≤ (x_1.lo + x_1.cap) * (2 : Nat) ∧
                                                                            x_1.N = x_1.N ∧ ∀ (j : Nat), j < x_1.N → x_1.a j = x_1.a j ∧ x_1.b j = x_1.b j ∧ True) ∧
                                                                          True) ∧
                                                                  (SS.mk q.v t.v n.v (CR.mk x_1.lo x_1.len x_1.cap x_1.N (fun (j : Nat) => x_1.a j) fun (j : Nat) => x_1.b j)).Ok ∧
                                                                    ∀ (v_2 : Int),
                                                                      (v_2 = if (0 : Int) < usL (atI n.v n.v) x_1.L then (0 : Int) else fstD x_1.L[(0 : Nat)]?) →
                                                                        (((True ∧ True) ∧ n.v = n.v ∧ True) ∧
                                                                            ((5 : Nat) ≤ (5 : Nat) ∧
                                                                                (q.v = q.v ∧ t.v = t.v ∧ n.v = n.v ∧ True) ∧ (1 : Int) = (1 : Int) ∧ (True ∧ True) ∧ True) ∧
                                                                              ((4 : Nat) ≤ (4 : Nat) ∧
                                                                                  (q.v = q.v ∧ t.v = t.v ∧ n.v = n.v ∧ True) ∧
                                                                                    (True ∧ True ∧ x_1.lo = x_1.lo ∧ x_1.len = x_1.len ∧ x_1.cap = x_1.cap) ∧ True) ∧
                                                                                ((x_1.lo + x_1.cap) * (2 : Nat) ≤ (x_1.lo + x_1.cap) * (2 : Nat) ∧
                                                                                    x_1.N = x_1.N ∧ ∀ (j : Nat), j < x_1.N → x_1.a j = x_1.a j ∧ x_1.b j = x_1.b j ∧ True) ∧
                                                                                  True) ∧
                                                                          (SS.mk q.v t.v n.v
                                                                                (CR.mk x_1.lo x_1.len x_1.cap x_1.N (fun (j : Nat) => x_1.a j) fun (j : Nat) => x_1.b j)).Ok ∧
                                                                            ((usL (atI n.v n.v) x_1.L == (0 : Int)) = true →
                                                                                ((!decide ((0 : Int) < usL (atI n.v n.v) x_1.L)) = true →
                                                                                    ((v_2 == v) = true →
                                                                                        (((True ∧ True) ∧ v = v ∧ True) ∧
                                                                                            ((5 : Nat) ≤ (5 : Nat) ∧
                                                                                                (q.v = q.v ∧ t.v = t.v ∧ n.v = n.v ∧ True) ∧
                                                                                                  (1 : Int) = (1 : Int) ∧ (True ∧ True) ∧ True) ∧
                                                                                              ((4 : Nat) ≤ (4 : Nat) ∧
                                                                                                  (q.v = q.v ∧ t.v = t.v ∧ n.v = n.v ∧ True) ∧
                                                                                                    (True ∧ True ∧ x_1.lo = x_1.lo ∧ x_1.len = x_1.len ∧ x_1.cap = x_1.cap) ∧ True) ∧
                                                                                                ((x_1.lo + x_1.cap) * (2 : Nat) ≤ (x_1.lo + x_1.cap) * (2 : Nat) ∧
                                                                                                    x_1.N = x_1.N ∧
                                                                                                      ∀ (j : Nat), j < x_1.N → x_1.a j = x_1.a j ∧ x_1.b j = x_1.b j ∧ True) ∧
                                                                                                  True) ∧
                                                                                          (SS.mk q.v t.v n.v
                                                                                                (CR.mk x_1.lo x_1.len x_1.cap x_1.N (fun (j : Nat) => x_1.a j) fun (j : Nat) =>
                                                                                                  x_1.b j)).Ok ∧
                                                                                            ((q.Ok ∧ t.Ok ∧ n.Ok ∧ c.Ok) ∧ rngI q.v t.v n.v →
                                                                                              (usL (atI n.v v) x_1.L == q.v) = true ∧ True ∧ True)) ∧
                                                                                      ((v_2 == v) = false → (q.Ok ∧ t.Ok ∧ n.Ok ∧ c.Ok) ∧ rngI q.v t.v n.v → False ∧ True ∧ True)) ∧
                                                                                  ((!decide ((0 : Int) < usL (atI n.v n.v) x_1.L)) = false →
                                                                                    (q.Ok ∧ t.Ok ∧ n.Ok ∧ c.Ok) ∧ rngI q.v t.v n.v → False ∧ True ∧ True)) ∧
                                                                              ((usL (atI n.v n.v) x_1.L == (0 : Int)) = false →
                                                                                (q.Ok ∧ t.Ok ∧ n.Ok ∧ c.Ok) ∧ rngI q.v t.v n.v → False ∧ True ∧ True))))))) := by
  simp only [true_and, and_true, eq_self, Nat.le_refl, decide_eq_true_eq, decide_eq_false_iff_not, beq_iff_eq, beq_eq_false_iff_ne, implies_true, and_self, bne_iff_ne, Int.not_lt, gt_iff_lt, ne_eq, IntKind.wrap_u64, bne_eq_false_iff_eq, Bool.not_eq_true', Bool.not_eq_false']
  rintro q t n c ⟨⟨hq, ht, hn, hc⟩, hr⟩
  refine ⟨hr, fun x hx v hv _ hc0 hn0 => ?_⟩
  have hr0 := hr
  obtain ⟨a1, a2, a3, a4⟩ := hr0
  have hc1 : 1 ≤ c.v := by have := hc.1; omega
  have hn1 := hn.1
  have q0 : QL q.v x.L := by rw [hx.2]; exact QL.new a1 hn1 (by omega)
  have s0 : (⟨q.v, t.v, n.v, x⟩ : SS).Ok := SS.ok_of hx.1 q0 a1 a2 a3 hn1 a4
  have hat : atI n.v n.v = n.v := atI_id (Int.le_refl _) (by omega)
  obtain ⟨c1, c2⟩ := charge_new hr hn0 hc1
  refine ⟨s0, fun d hd => ⟨⟨s0, hc.1⟩, fun y hy w hw => ?_⟩⟩
  rw [hat] at hy ⊢
  have q1 : QL q.v y.L := by rw [hy.2]; exact q0.charge a1 (by omega) hc.1 hn1 (by omega)
  have s1 : (⟨q.v, t.v, n.v, y⟩ : SS).Ok := SS.ok_of hy.1 q1 a1 a2 a3 hn1 a4
  have hd : d = n.v + t.v := by
    rw [hd, hx.2]
    show cutI (n.v + t.v) = n.v + t.v
    exact cutI_id (by omega)
  have hat2 : atI n.v d = d := atI_id (by omega) (by omega)
  have hmod : (n.v + t.v) % 18446744073709551616 = n.v + t.v := by omega
  have hcI : 1 ≤ cI q.v c.v ∧ cI q.v c.v ≤ q.v := by unfold cI; split <;> omega
  rw [hx.2] at hy
  rw [hmod, hat2]
  refine ⟨fun h => absurd hw h, fun _ => ⟨fun h => absurd hd h, fun _ => ⟨fun hlt => ⟨s1, ?_⟩, fun hge => ⟨s1, fun w2 hw2 => ⟨s1, ?_⟩⟩⟩⟩⟩
  · have hL := c1 (by omega)
    rw [hL] at hy
    have hmod2 : (q.v - w) % 18446744073709551616 = q.v - w := by omega
    have u1 : usL n.v y.L = q.v - w := by
      rw [hy.2]
      show (if n.v < n.v then 0 else q.v - cI q.v c.v) = q.v - w
      rw [if_neg (by omega), hw]
    have d1 : dueL t.v y.L = d := by
      rw [hy.2]
      show cutI (n.v + t.v) = d
      rw [cutI_id (by omega), hd]
    rw [hmod2]
    refine ⟨fun _ => ⟨s1, fun _ => ⟨s1, fun z hz _ => ?_⟩, fun h _ => h d1⟩, fun h _ => h u1⟩
    have hz2 := hz.2
    rw [hy.2] at hz2
    have e : wakeL d [(n.v, q.v - cI q.v c.v), (n.v + t.v, cI q.v c.v)] = [(d, q.v)] := by
      have e1 : wakeN d [(n.v, q.v - cI q.v c.v), (n.v + t.v, cI q.v c.v)] = 2 := by
        simp only [wakeN]
        rw [if_pos (by omega), if_pos (by omega)]
      unfold wakeL
      rw [e1, if_neg (by decide)]
      show [(d, q.v - cI q.v c.v + (cI q.v c.v + 0))] = [(d, q.v)]
      congr 2; omega
    rw [hz2, e]
    show (if d < d then 0 else q.v) = q.v
    rw [if_neg (by omega)]
  · have hL := c2 (by omega)
    rw [hL] at hy
    have u1 : usL n.v y.L = 0 := by
      rw [hy.2]
      show (if n.v < n.v + t.v then 0 else q.v) = 0
      rw [if_pos (by omega)]
    have w2e : w2 = d := by
      rw [hw2, u1, if_neg (by decide), hy.2]
      show n.v + t.v = d
      omega
    refine ⟨fun _ => ⟨fun _ => ⟨fun _ => ⟨s1, fun _ => ?_⟩, fun h _ => h w2e⟩, fun h _ => by omega⟩, fun h _ => h u1⟩
    rw [hy.2]
    show (if d < n.v + t.v then 0 else q.v) = q.v
    rw [if_neg (by omega)]

def bk_C (_ : (A64 × A64 × A64 × A64)) : Cfg := { Γ := Go.Sx.look tBk, names := true }
theorem bk_al (x : (A64 × A64 × A64 × A64)) : Shown (bkP.vc Try.prog (bk_C x) Try.f5 x) := ⟨@Eq.mp _ _ (by kernel_rfl) (bk_vc (x.1) (x.2.1) (x.2.2.1) (x.2.2.2))⟩
theorem bk_ok : SpOk Try.prog 5 bkP.sp := @Pat.okS _ bkP Try.prog bk_C 5 Try.f5 (fun x => cfg_tab rfl tBk_ok) (by kernel_rfl) Try.func5 (fun _ => rfl) bk_al
end Go.Proofs.Ytokiakcmdbihhaa
