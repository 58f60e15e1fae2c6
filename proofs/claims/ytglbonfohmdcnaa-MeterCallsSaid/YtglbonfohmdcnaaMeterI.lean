import Derived.Test.YtglbonfohmdcnaaMeterR
open Go Go.Sx Go.Proofs
set_option maxRecDepth 100000
namespace Go.Proofs.Ytglbonfohmdcnaa

def byOf (s : MS) (c k : Int) : Int := if (0 ≤ c ∧ c < (s.n : Int)) ∧ k < 9 then s.by_ c.toNat k.toNat else 0
structure Inv (cores : Int) (s : MS) (r : RS) : Prop where
  ok : s.Ok
  n : (s.n : Int) = cores
  n4 : s.n ≤ 4
  c : r.cores = cores
  st : r.st = s.st
  clk : ∀ c, r.sum c (-1) = s.clkOf c
  by_ : ∀ c k, 0 ≤ k → r.sum c k = byOf s c k
  pos : ∀ i, i < r.n → 0 ≤ r.cyc i
  cap : r.n ≤ r.cap
theorem Inv.rok {cores : Int} {s : MS} {r : RS} (h : Inv cores s r) (hn : r.n ≤ 1000) : r.Ok := by
  refine ⟨hn, h.cap, h.pos, fun c => ?_⟩
  rw [h.clk]
  unfold MS.clkOf
  split
  · exact (h.ok c.toNat (by omega)).1.2
  · decide
theorem RS.on_sumF (r : RS) (c k y : Int) (cap : Nat) (c' k' : Int) : ∀ m, m ≤ r.n → (r.on c k y cap).sumF c' k' m = r.sumF c' k' m
  | 0, _ => rfl
  | m + 1, h => by
    obtain ⟨e1, e2, e3⟩ := r.on_low c k y cap (show m < r.n by omega)
    simp only [RS.sumF]
    rw [RS.on_sumF r c k y cap c' k' m (by omega), ← e1, ← e2, ← e3]
theorem RS.on_sum (r : RS) (c k y : Int) (cap : Nat) (c' k' : Int) : (r.on c k y cap).sum c' k' = r.sum c' k' + if c = c' ∧ (k' < 0 ∨ k = k') then min y (r.left c) else 0 := by
  show (r.on c k y cap).sumF c' k' (r.n + 1) = _
  have e1 : (r.on c k y cap).core r.n = c := by simp [RS.on, upI]
  have e2 : (r.on c k y cap).kind r.n = k := by simp [RS.on, upI]
  have e3 : (r.on c k y cap).cyc r.n = min y (r.left c) := by simp [RS.on, upI]
  simp only [RS.sumF, e1, e2, e3]
  rw [r.on_sumF c k y cap c' k' r.n (Nat.le_refl _)]
  rfl
theorem Inv.on {cores : Int} {s : MS} {r : RS} (h : Inv cores s r) {c y : Int} {k : Int} {cap : Nat} (hs : s.st = false) (hc : 0 ≤ c ∧ c < (s.n : Int)) (hk : 0 ≤ k ∧ k < 9) (hy : 0 ≤ y) (hcap : r.n + 1 ≤ cap) : Inv cores (s.on c.toNat k.toNat y) (r.on c k y cap) := by
  have hl : r.left c = 4611686018427387904 - s.clk c.toNat := by
    unfold RS.left; rw [h.clk]; unfold MS.clkOf; rw [if_pos hc]
  have hle := (h.ok c.toNat (by omega)).1.2
  refine ⟨h.ok.on (by omega) (by omega) hy, h.n, h.n4, h.c, ?_, fun c' => ?_, fun c' k' hk' => ?_, fun i hi => ?_, hcap⟩
  · simp only [RS.on, MS.on, h.st, hs, Bool.false_or, hl]
  · rw [r.on_sum, h.clk]
    unfold MS.clkOf
    have e : (s.on c.toNat k.toNat y).n = s.n := rfl
    rw [e]
    by_cases hc' : c = c'
    · subst hc'
      rw [if_pos hc, if_pos ⟨rfl, .inl (by decide)⟩, if_pos hc, hl]
      simp [MS.on, upI]
    · rw [if_neg (show ¬ (c = c' ∧ (-1 < (0 : Int) ∨ k = -1)) from fun h => hc' h.1), Int.add_zero]
      split
      · have : c'.toNat ≠ c.toNat := by omega
        simp [MS.on, upI, this]
      · rfl
  · rw [r.on_sum, h.by_ c' k' hk']
    unfold byOf
    have e : (s.on c.toNat k.toNat y).n = s.n := rfl
    rw [e]
    by_cases hc' : c = c' ∧ k = k'
    · obtain ⟨rfl, rfl⟩ := hc'
      rw [if_pos ⟨hc, hk.2⟩, if_pos ⟨rfl, .inr rfl⟩, if_pos ⟨hc, hk.2⟩, hl]
      simp [MS.on]
    · rw [if_neg (show ¬ (c = c' ∧ (k' < 0 ∨ k = k')) from fun h => hc' ⟨h.1, h.2.resolve_left (by omega)⟩), Int.add_zero]
      split
      · have : ¬ (c'.toNat = c.toNat ∧ k'.toNat = k.toNat) := by omega
        simp [MS.on, this]
      · rfl
  · by_cases hi2 : i < r.n
    · rw [← (r.on_low c k y cap hi2).2.2]; exact h.pos i hi2
    · have hi3 : i < r.n + 1 := hi
      have : i = r.n := by omega
      subst this
      simp only [RS.on, upI, if_pos]
      omega
theorem MS.charge_bad {s : MS} {c k t : Int} (h : ¬ (0 ≤ c ∧ c < (s.n : Int)) ∨ cost k = 0) : s.charge c k t = (11, s) := by unfold MS.charge; rw [if_pos h]
theorem MS.charge_st {s : MS} {c k t : Int} (h : ¬ (¬ (0 ≤ c ∧ c < (s.n : Int)) ∨ cost k = 0)) (hs : s.st = true) : s.charge c k t = (22, s) := by unfold MS.charge; rw [if_neg h, if_pos hs]
theorem MS.charge_on {s : MS} {c k t : Int} (h : ¬ (¬ (0 ≤ c ∧ c < (s.n : Int)) ∨ cost k = 0)) (hs : s.st = false) : s.charge c k t = (if 4611686018427387904 - s.clk c.toNat ≤ cost k * t then 22 else 0, s.on c.toNat k.toNat (cost k * t)) := by
  unfold MS.charge; rw [if_neg h, if_neg (by simp [hs])]
  simp only [MS.on, decide_eq_true_eq]
theorem MS.wait_bad {s : MS} {c t : Int} (h : ¬ (0 ≤ c ∧ c < (s.n : Int))) : s.wait c t = (11, s) := by unfold MS.wait; rw [if_pos h]
theorem MS.wait_st {s : MS} {c t : Int} (h : 0 ≤ c ∧ c < (s.n : Int)) (hs : s.st = true) : s.wait c t = (22, s) := by unfold MS.wait; rw [if_neg (by omega), if_pos hs]
theorem MS.wait_ok {s : MS} {c t : Int} (h : 0 ≤ c ∧ c < (s.n : Int)) (hs : s.st = false) (ht : t ≤ s.clk c.toNat) : s.wait c t = (0, s) := by unfold MS.wait; rw [if_neg (by omega), if_neg (by simp [hs]), if_pos ht]
theorem MS.wait_on {s : MS} {c t : Int} (h : 0 ≤ c ∧ c < (s.n : Int)) (hs : s.st = false) (ht : ¬ t ≤ s.clk c.toNat) : s.wait c t = (if 4611686018427387904 - s.clk c.toNat ≤ t - s.clk c.toNat then 22 else 0, s.on c.toNat 0 (t - s.clk c.toNat)) := by
  unfold MS.wait; rw [if_neg (by omega), if_neg (by simp [hs]), if_neg ht]
  simp only [MS.on, decide_eq_true_eq]
structure IA where
  i : Nat
  s : MS
  r : R0
structure IB where
  i : Nat
  s : MS
  r : RS
def icSl (x : CS) (w : WS) (cores kind : Int) : List (Nat × T) := [(0, .int .i64 cores), (1, x.t 0), (2, .int .i64 kind), (3, w.t 1), (9, p0 2), (11, p0 4)]
def icA (x : CS) (w : WS) (s : MS) (r : R0) : List Reg := x.reg :: w.reg :: (s.HT 3 ++ [r.me0])
def icB (x : CS) (w : WS) (s : MS) (r : RS) : List Reg := x.reg :: w.reg :: (s.HT 3 ++ [r.me 5, r.row])
def icFA (x : CS) (w : WS) (cores kind : Int) : Fam where
  α := IA
  I y := y.i ≤ x.len ∧ Inv cores y.s y.r.rs
  st y := { sl := mkSl 217 (icSl x w cores kind ++ [(12, .int .i64 y.i)]), H := icA x w y.s y.r }
  μ y := x.len - y.i
def icFB (x : CS) (w : WS) (cores kind : Int) : Fam where
  α := IB
  I y := y.i ≤ x.len ∧ Inv cores y.s y.r ∧ y.r.n ≤ y.i
  st y := { sl := mkSl 217 (icSl x w cores kind ++ [(12, .int .i64 y.i)]), H := icB x w y.s y.r }
  μ y := x.len - y.i
def icCA (x : CS) (w : WS) (cores kind : Int) (u : Nat) : Fam where
  α := IA
  I y := y.i = u ∧ Inv cores y.s y.r.rs
  st y := { sl := mkSl 217 (icSl x w cores kind ++ [(12, .int .i64 y.i)]), H := icA x w y.s y.r }
  μ _ := 0
def icCB (x : CS) (w : WS) (cores kind : Int) (u : Nat) : Fam where
  α := IB
  I y := y.i = u ∧ Inv cores y.s y.r ∧ y.r.n ≤ y.i + 1
  st y := { sl := mkSl 217 (icSl x w cores kind ++ [(12, .int .i64 y.i)]), H := icB x w y.s y.r }
  μ _ := 0
def boolT (b : Bool) : T := match b with
  | true => .tt
  | false => .ff
def icBox (x : CS) (i : Nat) (b : T) : Reg := newReg 35 (.cons (.int .i64 (x.core i)) (.cons (.int .i64 (x.kind i)) (.cons (.int .u64 (x.times i)) (.cons b .nil))))
def icDA (x : CS) (w : WS) (cores kind : Int) (u : Nat) (b : Bool) (t : T) : Fam where
  α := IA
  I y := y.i = u ∧ u < x.len ∧ x.wait u = b ∧ Inv cores y.s y.r.rs
  st y := { sl := mkSl 217 (icSl x w cores kind ++ [(12, .int .i64 y.i), (13, p0 5)]), H := icA x w y.s y.r ++ [icBox x y.i t] }
  μ _ := 0
def icDB (x : CS) (w : WS) (cores kind : Int) (u : Nat) (b : Bool) (t : T) : Fam where
  α := IB
  I y := y.i = u ∧ u < x.len ∧ x.wait u = b ∧ Inv cores y.s y.r ∧ y.r.n ≤ y.i
  st y := { sl := mkSl 217 (icSl x w cores kind ++ [(12, .int .i64 y.i), (13, p0 6)]), H := icB x w y.s y.r ++ [icBox x y.i t] }
  μ _ := 0
structure KA where
  s : MS
  r : R0
  k : Int
structure KB where
  s : MS
  r : RS
  k : Int
def icKA (x : CS) (w : WS) (cores kind : Int) (u : Nat) : Fam where
  α := KA
  I y := Inv cores y.s y.r.rs ∧ -1 ≤ y.k ∧ y.k ≤ cores + 1
  st y := { sl := mkSl 217 (icSl x w cores kind ++ [(12, .int .i64 u), (14, .int .i64 y.k)]), H := icA x w y.s y.r }
  μ y := (cores + 1 - y.k).toNat
def icKB (x : CS) (w : WS) (cores kind : Int) (u : Nat) : Fam where
  α := KB
  I y := Inv cores y.s y.r ∧ y.r.n ≤ u + 1 ∧ -1 ≤ y.k ∧ y.k ≤ cores + 1
  st y := { sl := mkSl 217 (icSl x w cores kind ++ [(12, .int .i64 u), (14, .int .i64 y.k)]), H := icB x w y.s y.r }
  μ y := (cores + 1 - y.k).toNat
structure LA where
  s : MS
  r : R0
  k : Nat
structure LB where
  s : MS
  r : RS
  k : Nat
def icLA (x : CS) (w : WS) (cores kind : Int) : Fam where
  α := LA
  I y := Inv cores y.s y.r.rs ∧ y.k ≤ y.s.n ∧ (y.k = 0 ∨ y.k ≤ w.len)
  st y := { sl := mkSl 217 (icSl x w cores kind ++ [(16, .int .i64 (leastF y.s.clk w.sel y.k)), (17, .int .i64 y.k)]), H := icA x w y.s y.r }
  μ y := y.s.n - y.k
def icLB (x : CS) (w : WS) (cores kind : Int) : Fam where
  α := LB
  I y := Inv cores y.s y.r ∧ y.r.n ≤ 1000 ∧ y.k ≤ y.s.n ∧ (y.k = 0 ∨ y.k ≤ w.len)
  st y := { sl := mkSl 217 (icSl x w cores kind ++ [(16, .int .i64 (leastF y.s.clk w.sel y.k)), (17, .int .i64 y.k)]), H := icB x w y.s y.r }
  μ y := y.s.n - y.k
def isA (H : List Reg) : Bool := Nat.ble H.length 5
def icL (x : CS) (w : WS) (cores kind : Int) : Nat → Gam
  | 12 => .l [icFA x w cores kind, icFB x w cores kind]
  | 20 => .h fun H => match isA H with
    | true => .g fun u => [icKA x w cores kind u]
    | false => .g fun u => [icKB x w cores kind u]
  | 27 => .h fun H => match isA H with
    | true => .l [icLA x w cores kind]
    | false => .l [icLB x w cores kind]
  | _ => .l []
def icK (x : CS) (w : WS) (cores kind : Int) : Nat → Gam
  | 15 => .h fun H => match isA H with
    | true => .g fun u => [icDA x w cores kind u true .tt, icDA x w cores kind u false .ff]
    | false => .g fun u => [icDB x w cores kind u true .tt, icDB x w cores kind u false .ff]
  | 17 => .h fun H => match isA H with
    | true => .g fun u => [icCA x w cores kind u, icCB x w cores kind u]
    | false => .g fun u => [icCB x w cores kind u]
  | _ => .l []
def icM : Nat → Nat
  | 15 => 1
  | _ => 0
def icLk : Nat → List Nat
  | 15 => [1000]
  | _ => []
structure JI where
  v : Int
def JI.t (x : JI) : T := .int .i64 x.v
def JI.Ok (x : JI) : Prop := i64 x.v
def icP : Pat (JI × CS × JI × WS) where
  view _ _ := none
  args x := [x.1.t, x.2.1.t 0, x.2.2.1.t, x.2.2.2.t 1]
  H x := [x.2.1.reg, x.2.2.2.reg]
  out x := .need (x.1.Ok ∧ x.2.1.Ok ∧ x.2.2.1.Ok ∧ (x.2.2.2.nil = true → x.2.2.2.len = 0)) (.retq .tt)
theorem R0.sum0 (r : R0) (c k : Int) : r.rs.sum c k = 0 := rfl
theorem Inv.new {c : Int} (h : 1 ≤ c ∧ c ≤ 4) : Inv c (MS.new c) (R0.rs ⟨c, false⟩) := by
  have e : ((MS.new c).n : Int) = c := by show ((c.toNat : Nat) : Int) = c; omega
  refine ⟨MS.Ok.new c, e, by omega, rfl, rfl, fun k => ?_, fun k j _ => ?_, fun i hi => absurd hi (Nat.not_lt_zero i), Nat.le_refl _⟩
  · unfold MS.clkOf; split <;> rfl
  · unfold byOf; split <;> rfl
theorem Inv.nbad {cores : Int} {s : MS} {r : RS} (h : Inv cores s r) {c : Int} (hb : ¬ r.bad c) : 0 ≤ c ∧ c < (s.n : Int) := by
  unfold RS.bad at hb
  rw [h.c, ← h.n] at hb
  exact Decidable.not_not.1 hb
theorem Inv.bad {cores : Int} {s : MS} {r : RS} (h : Inv cores s r) {c : Int} (hb : r.bad c) : ¬ (0 ≤ c ∧ c < (s.n : Int)) := by
  unfold RS.bad at hb
  rwa [h.c, ← h.n] at hb
theorem Inv.clk1 {cores : Int} {s : MS} {r : RS} (h : Inv cores s r) {c : Int} (hb : ¬ r.bad c) : r.sum c (-1) = s.clk c.toNat := by
  rw [h.clk]; unfold MS.clkOf; rw [if_pos (h.nbad hb)]
theorem Inv.st1 {cores : Int} {s : MS} {r : RS} (h : Inv cores s r) {b : Bool} (hs : r.st = b) : s.st = b := h.st.symm.trans hs
theorem Inv.won {cores : Int} {s : MS} {r : RS} (h : Inv cores s r) {c t : Int} {cap : Nat} (hb : ¬ r.bad c) (hs : r.st = false) (ht : r.sum c (-1) < t) (hcap : r.n + 1 ≤ cap) :
    ∃ s', s.wait c t = (if r.left c ≤ t - r.sum c (-1) then 22 else 0, s') ∧ Inv cores s' (r.on c 0 (t - r.sum c (-1)) cap) ∧ s'.n = s.n := by
  have e := h.clk1 hb
  have hn := h.nbad hb
  refine ⟨s.on c.toNat 0 (t - s.clk c.toNat), ?_, ?_, rfl⟩
  · rw [MS.wait_on hn (h.st1 hs) (by omega)]
    unfold RS.left
    rw [e]
  · have := h.on (k := 0) (h.st1 hs) hn (by omega) (show 0 ≤ t - r.sum c (-1) by omega) hcap
    rw [e] at this ⊢
    exact this
theorem Inv.con {cores : Int} {s : MS} {r : RS} (h : Inv cores s r) {c k t : Int} {cap : Nat} (hb : ¬ (r.bad c ∨ cost k = 0)) (hs : r.st = false) (ht : 0 ≤ t) (hcap : r.n + 1 ≤ cap) :
    ∃ s', s.charge c k t = (if r.left c ≤ cost k * t then 22 else 0, s') ∧ Inv cores s' (r.on c k (cost k * t) cap) ∧ s'.n = s.n := by
  have hb1 : ¬ r.bad c := fun x => hb (.inl x)
  have hk : ¬ cost k = 0 := fun x => hb (.inr x)
  have e := h.clk1 hb1
  have hn := h.nbad hb1
  have hc := cost_bd k
  refine ⟨s.on c.toNat k.toNat (cost k * t), ?_, ?_, rfl⟩
  · rw [MS.charge_on (fun x => x.elim (fun y => y hn) hk) (h.st1 hs)]
    unfold RS.left
    rw [e]
  · exact h.on (h.st1 hs) hn (by omega) (Int.mul_nonneg hc.1 ht) hcap
theorem Inv.cbad {cores : Int} {s : MS} {r : RS} (h : Inv cores s r) {c k t : Int} (hb : r.bad c ∨ cost k = 0) : s.charge c k t = (11, s) := MS.charge_bad (hb.imp h.bad id)
theorem Inv.cst {cores : Int} {s : MS} {r : RS} (h : Inv cores s r) {c k t : Int} (hb : ¬ (r.bad c ∨ cost k = 0)) (hs : r.st = true) : s.charge c k t = (22, s) :=
  MS.charge_st (fun x => x.elim (fun y => y (h.nbad fun z => hb (.inl z))) (fun y => hb (.inr y))) (h.st1 hs)
theorem cost_zero {k : Int} (h : cost k = 0) : ¬ (1 ≤ k ∧ k ≤ 8) := by
  intro hk
  unfold cost at h
  rw [if_pos hk] at h
  have : k = 1 ∨ k = 2 ∨ k = 3 ∨ k = 4 ∨ k = 5 ∨ k = 6 ∨ k = 7 ∨ k = 8 := by omega
  rcases this with rfl | rfl | rfl | rfl | rfl | rfl | rfl | rfl <;> exact absurd h (by decide)
theorem spent_by (s : MS) (c : Int) {k : Int} (hk : 0 < k) : s.spentOf c k = byOf s c k := by
  unfold MS.spentOf byOf
  have : (¬ cost k = 0) ↔ k < 9 := ⟨fun h => by have := (cost_bd k).2.2 h; omega, fun h e => cost_zero e (by omega)⟩
  simp only [this]
theorem idle_by (s : MS) (c : Int) : s.idleOf c = byOf s c 0 := by
  unfold MS.idleOf byOf
  simp
theorem spent_no (s : MS) (c : Int) {k : Int} (hk : k ≤ 0) : s.spentOf c k = 0 := by
  unfold MS.spentOf
  rw [if_neg]
  rintro ⟨_, h⟩
  have := (cost_bd k).2.2 h
  omega
theorem clk_no {s : MS} {c : Int} (h : ¬ (0 ≤ c ∧ c < (s.n : Int))) : s.clkOf c = 0 := by unfold MS.clkOf; rw [if_neg h]
/-- What the questions are answered by. -/
theorem Inv.asks {cores : Int} {s : MS} {r : RS} (h : Inv cores s r) (c kind : Int) : s.clkOf c = r.sum c (-1) ∧ s.idleOf c = r.sum c (if (0 : Int) < 0 then 0 else 0) ∧ (0 < kind → s.spentOf c kind = r.sum c (if kind < 0 then 0 else kind)) ∧
    (kind ≤ 0 → s.spentOf c kind = 0) ∧ (cores ≤ c → s.clkOf c = 0) ∧ (c < 0 → s.clkOf c = 0) := by
  refine ⟨(h.clk c).symm, ?_, fun hk => ?_, fun hk => spent_no s c hk, fun hc => clk_no (by have := h.n; omega), fun hc => clk_no (by omega)⟩
  · rw [idle_by, if_neg (by decide), h.by_ c 0 (Int.le_refl _)]
  · rw [spent_by s c hk, if_neg (by omega), h.by_ c kind (by omega)]
theorem leastF_stop (clk : Nat → Int) (sel : Nat → Bool) {k : Nat} : ∀ n, k ≤ n → (∀ j, k ≤ j → sel j = false) → leastF clk sel n = leastF clk sel k
  | 0, h, _ => by rw [Nat.le_zero.1 h]
  | n + 1, h, hs => by
    by_cases e : k = n + 1
    · rw [e]
    · have h1 : k ≤ n := by omega
      have h2 := hs n h1
      rw [← leastF_stop clk sel n h1 hs]
      simp only [leastF, h2, Bool.false_eq_true, false_and, if_false]
theorem least_end {w : WS} {clk : Nat → Int} {n k : Nat} (h1 : k ≤ n) (_ : k = 0 ∨ k ≤ w.len) (h3 : w.len ≤ k ∨ n ≤ k) : leastF (fun j => clk j) w.sel n = leastF clk w.sel k := by
  rcases h3 with h3 | h3
  · exact leastF_stop clk w.sel n h1 fun j hj => by
      unfold WS.sel
      rw [decide_eq_false (by omega)]
      rfl
  · rw [show n = k by omega]
theorem Inv.least {cores : Int} {s : MS} {r : RS} (h : Inv cores s r) (w : WS) {k : Nat} (hk : (k : Int) < cores) :
    (w.w k = false → leastF s.clk w.sel (k + 1) = leastF s.clk w.sel k) ∧ (w.w k = true → k < w.len → (leastF s.clk w.sel k < 0 → leastF s.clk w.sel (k + 1) = k) ∧
      (0 ≤ leastF s.clk w.sel k → (r.sum k (-1) < r.sum (leastF s.clk w.sel k) (-1) → leastF s.clk w.sel (k + 1) = k) ∧ (r.sum (leastF s.clk w.sel k) (-1) ≤ r.sum k (-1) → leastF s.clk w.sel (k + 1) = leastF s.clk w.sel k))) := by
  have hn := h.n
  have hb := leastF_bd s.clk w.sel k
  have e1 : r.sum k (-1) = s.clk k := by
    rw [h.clk]; unfold MS.clkOf; rw [if_pos (by omega)]; rfl
  refine ⟨fun hw => ?_, fun hw hl => ?_⟩
  · have : w.sel k = false := by unfold WS.sel; rw [hw, Bool.and_false]
    simp only [leastF, this, Bool.false_eq_true, false_and, if_false]
  · have hsel : w.sel k = true := by unfold WS.sel; rw [hw, decide_eq_true hl]; rfl
    refine ⟨fun ho => ?_, fun ho => ?_⟩
    · simp only [leastF, hsel, true_and, ho, true_or, if_true]
    · have e2 : r.sum (leastF s.clk w.sel k) (-1) = s.clk (leastF s.clk w.sel k).toNat := by
        rw [h.clk]; unfold MS.clkOf; rw [if_pos (by omega)]
      rw [e1, e2]
      refine ⟨fun hlt => ?_, fun hge => ?_⟩
      · simp only [leastF, hsel, true_and, hlt, or_true, if_true]
      · simp only [leastF, hsel, true_and]
        rw [if_neg (by omega)]
def tIC : Tab := [(7, aliveP.sp), (8, newP.sp), (14, clockP.sp), (16, idleP.sp), (18, spentP.sp), (13, stoppedP.sp), (11, chargeP.sp), (9, waitP.sp), (19, altSp 1 (leastNP.sp) (leastP.sp)), (20, costP.sp), (15, altH nilRow (rclockNP.sp) (rclockP.sp)), (17, altH nilRow (rsumNP.sp) (rspentP.sp)), (12, altH nilRow (rdoNP.sp) (rdoP.sp)), (10, altH nilRow (rwaitNP.sp) (rwaitP.sp)), (21, costP.sp)]
theorem tIC_ok : TabOk Try.prog tIC := (tab_cons alive_ok (tab_cons new_ok (tab_cons clock_ok (tab_cons idle_ok (tab_cons spent_ok (tab_cons stopped_ok (tab_cons charge_ok (tab_cons wait_ok (tab_cons leastA_ok (tab_cons cost_ok (tab_cons rclockA_ok (tab_cons rspentA_ok (tab_cons rdoA_ok (tab_cons rwaitA_ok (tab_cons rcost_ok tab_nil)))))))))))))))

theorem calls_vc : ∀ (cores : JI) (x : CS) (kind : JI) (w : WS), (cores.Ok ∧ x.Ok ∧ kind.Ok ∧ (w.nil = true → w.len = (0 : Nat))) ∧ True → (True ∧ True) ∧ (x.nil = true → x.len = (0 : Nat)) ∧ (decide ((↑x.len : Int) > (60 : Int)) = true →
  cores.Ok ∧ x.Ok ∧ kind.Ok ∧ (w.nil = true → w.len = (0 : Nat)) → True ∧ True ∧ ((0 : Nat) ≤ (0 : Nat) ∧ x.len = x.len ∧ ∀ (j : Nat), j < x.len → x.core j = x.core j ∧ x.kind j = x.kind j ∧ x.times j = x.times j ∧ x.wait
  j = x.wait j ∧ True) ∧ ((0 : Nat) ≤ (0 : Nat) ∧ w.len = w.len ∧ ∀ (j : Nat), j < w.len → w.w j = w.w j) ∧ True) ∧ (decide ((↑x.len : Int) > (60 : Int)) = false → (w.nil = true → w.len = (0 : Nat)) ∧ (decide ((↑w.len :
  Int) > (20 : Int)) = true → cores.Ok ∧ x.Ok ∧ kind.Ok ∧ (w.nil = true → w.len = (0 : Nat)) → True ∧ True ∧ ((0 : Nat) ≤ (0 : Nat) ∧ x.len = x.len ∧ ∀ (j : Nat), j < x.len → x.core j = x.core j ∧ x.kind j = x.kind j ∧
  x.times j = x.times j ∧ x.wait j = x.wait j ∧ True) ∧ ((0 : Nat) ≤ (0 : Nat) ∧ w.len = w.len ∧ ∀ (j : Nat), j < w.len → w.w j = w.w j) ∧ True) ∧ (decide ((↑w.len : Int) > (20 : Int)) = false → ((cores.v = cores.v ∧ True)
  ∧ True) ∧ ((1 : Int) ≤ cores.v ∧ cores.v ≤ (4 : Int) → ∀ (x_1 : MS), x_1 = MS.new cores.v → ∀ (v : Int), v = (0 : Int) → (decide (cores.v < (1 : Int)) = true → ((v == (11 : Int)) = true → cores.Ok ∧ x.Ok ∧ kind.Ok ∧
  (w.nil = true → w.len = (0 : Nat)) → False ∧ True ∧ ((0 : Nat) ≤ (0 : Nat) ∧ x.len = x.len ∧ ∀ (j : Nat), j < x.len → x.core j = x.core j ∧ x.kind j = x.kind j ∧ x.times j = x.times j ∧ x.wait j = x.wait j ∧ True) ∧ ((0
  : Nat) ≤ (0 : Nat) ∧ w.len = w.len ∧ ∀ (j : Nat), j < w.len → w.w j = w.w j) ∧ True) ∧ ((v == (11 : Int)) = false → cores.Ok ∧ x.Ok ∧ kind.Ok ∧ (w.nil = true → w.len = (0 : Nat)) → False ∧ True ∧ ((0 : Nat) ≤ (0 : Nat) ∧
  x.len = x.len ∧ ∀ (j : Nat), j < x.len → x.core j = x.core j ∧ x.kind j = x.kind j ∧ x.times j = x.times j ∧ x.wait j = x.wait j ∧ True) ∧ ((0 : Nat) ≤ (0 : Nat) ∧ w.len = w.len ∧ ∀ (j : Nat), j < w.len → w.w j = w.w j)
  ∧ True)) ∧ (decide (cores.v < (1 : Int)) = false → (decide (cores.v > (4 : Int)) = true → ((v == (11 : Int)) = true → cores.Ok ∧ x.Ok ∧ kind.Ok ∧ (w.nil = true → w.len = (0 : Nat)) → False ∧ True ∧ ((0 : Nat) ≤ (0 : Nat)
  ∧ x.len = x.len ∧ ∀ (j : Nat), j < x.len → x.core j = x.core j ∧ x.kind j = x.kind j ∧ x.times j = x.times j ∧ x.wait j = x.wait j ∧ True) ∧ ((0 : Nat) ≤ (0 : Nat) ∧ w.len = w.len ∧ ∀ (j : Nat), j < w.len → w.w j = w.w
  j) ∧ True) ∧ ((v == (11 : Int)) = false → cores.Ok ∧ x.Ok ∧ kind.Ok ∧ (w.nil = true → w.len = (0 : Nat)) → False ∧ True ∧ ((0 : Nat) ≤ (0 : Nat) ∧ x.len = x.len ∧ ∀ (j : Nat), j < x.len → x.core j = x.core j ∧ x.kind j =
  x.kind j ∧ x.times j = x.times j ∧ x.wait j = x.wait j ∧ True) ∧ ((0 : Nat) ≤ (0 : Nat) ∧ w.len = w.len ∧ ∀ (j : Nat), j < w.len → w.w j = w.w j) ∧ True)) ∧ (decide (cores.v > (4 : Int)) = false → ((v != (0 : Int)) =
  true → cores.Ok ∧ x.Ok ∧ kind.Ok ∧ (w.nil = true → w.len = (0 : Nat)) → False ∧ True ∧ ((0 : Nat) ≤ (0 : Nat) ∧ x.len = x.len ∧ ∀ (j : Nat), j < x.len → x.core j = x.core j ∧ x.kind j = x.kind j ∧ x.times j = x.times j ∧
  x.wait j = x.wait j ∧ True) ∧ ((0 : Nat) ≤ (0 : Nat) ∧ w.len = w.len ∧ ∀ (j : Nat), j < w.len → w.w j = w.w j) ∧ True) ∧ ((v != (0 : Int)) = false → ∀ (v : Int), v = (0 : Int) → ((∃ (y : IA), (y.i ≤ x.len ∧ Inv cores.v
  y.s y.r.rs) ∧ ((cores.v = cores.v ∧ ((x.nil = true → x.nil = true) ∧ (x.nil = false → x.nil = false ∧ True ∧ True ∧ (0 : Nat) = (0 : Nat) ∧ x.len = x.len ∧ x.cap = x.cap)) ∧ kind.v = kind.v ∧ ((w.nil = true → w.nil =
  true) ∧ (w.nil = false → w.nil = false ∧ True ∧ True ∧ (0 : Nat) = (0 : Nat) ∧ w.len = w.len ∧ w.cap = w.cap)) ∧ (True ∧ True) ∧ (True ∧ True) ∧ v = (↑y.i : Int) ∧ True) ∧ ((0 : Nat) ≤ (0 : Nat) ∧ x.len = x.len ∧ ∀ (j :
  Nat), j < x.len → x.core j = x.core j ∧ x.kind j = x.kind j ∧ x.times j = x.times j ∧ x.wait j = x.wait j ∧ True) ∧ ((0 : Nat) ≤ (0 : Nat) ∧ w.len = w.len ∧ ∀ (j : Nat), j < w.len → w.w j = w.w j) ∧ ((2 : Nat) ≤ (2 :
  Nat) ∧ (True ∧ True ∧ (0 : Nat) = (0 : Nat) ∧ x_1.n = y.s.n ∧ x_1.n = y.s.n) ∧ x_1.st = y.s.st ∧ True) ∧ (y.s.n * (10 : Nat) ≤ x_1.n * (10 : Nat) ∧ y.s.n = x_1.n ∧ ∀ (j : Nat), j < x_1.n → x_1.clk j = y.s.clk j ∧ ((9 :
  Nat) = (9 : Nat) ∧ ∀ (j_1 : Nat), j_1 < (9 : Nat) → x_1.by_ j j_1 = y.s.by_ j j_1) ∧ True) ∧ ((3 : Nat) ≤ (3 : Nat) ∧ cores.v = y.r.cores ∧ True ∧ y.r.st = false ∧ True) ∧ True) ∧ True) ∨ ∃ (y : IB), (y.i ≤ x.len ∧ Inv
  cores.v y.s y.r ∧ y.r.n ≤ y.i) ∧ False ∧ True) ∧ (∀ (y : IA), y.i ≤ x.len ∧ Inv cores.v y.s y.r.rs → (x.nil = true → x.len = (0 : Nat)) ∧ (decide ((↑y.i : Int) < (↑x.len : Int)) = true → ∃ (g : Nat), (∃ (g_1 : Nat),
  ((x.nil = true → x.len = (0 : Nat)) ∧ ((0 : Int) ≤ (↑y.i : Int) ∧ (↑y.i : Int) < (↑x.len : Int)) ∧ (0 : Nat) + (↑y.i : Int).toNat < x.len ∧ ((∃ (y_1 : IA), (y_1.i = g_1 ∧ g_1 < x.len ∧ x.wait g_1 = true ∧ Inv cores.v
  y_1.s y_1.r.rs) ∧ ((cores.v = cores.v ∧ ((x.nil = true → x.nil = true) ∧ (x.nil = false → x.nil = false ∧ True ∧ True ∧ (0 : Nat) = (0 : Nat) ∧ x.len = x.len ∧ x.cap = x.cap)) ∧ kind.v = kind.v ∧ ((w.nil = true → w.nil =
  true) ∧ (w.nil = false → w.nil = false ∧ True ∧ True ∧ (0 : Nat) = (0 : Nat) ∧ w.len = w.len ∧ w.cap = w.cap)) ∧ (True ∧ True) ∧ (True ∧ True) ∧ (↑y.i : Int) = (↑y_1.i : Int) ∧ (True ∧ True) ∧ True) ∧ ((0 : Nat) ≤ (0 :
  Nat) ∧ x.len = x.len ∧ ∀ (j : Nat), j < x.len → x.core j = x.core j ∧ x.kind j = x.kind j ∧ x.times j = x.times j ∧ x.wait j = x.wait j ∧ True) ∧ ((0 : Nat) ≤ (0 : Nat) ∧ w.len = w.len ∧ ∀ (j : Nat), j < w.len → w.w j =
  w.w j) ∧ ((2 : Nat) ≤ (2 : Nat) ∧ (True ∧ True ∧ (0 : Nat) = (0 : Nat) ∧ y.s.n = y_1.s.n ∧ y.s.n = y_1.s.n) ∧ y.s.st = y_1.s.st ∧ True) ∧ (y_1.s.n * (10 : Nat) ≤ y.s.n * (10 : Nat) ∧ y_1.s.n = y.s.n ∧ ∀ (j : Nat), j <
  y.s.n → y.s.clk j = y_1.s.clk j ∧ ((9 : Nat) = (9 : Nat) ∧ ∀ (j_1 : Nat), j_1 < (9 : Nat) → y.s.by_ j j_1 = y_1.s.by_ j j_1) ∧ True) ∧ ((3 : Nat) ≤ (3 : Nat) ∧ y.r.cores = y_1.r.cores ∧ True ∧ y.r.st = y_1.r.st ∧ True) ∧
  ((4 : Nat) ≤ (4 : Nat) ∧ x.core ((0 : Nat) + (↑y.i : Int).toNat) = x.core y_1.i ∧ x.kind ((0 : Nat) + (↑y.i : Int).toNat) = x.kind y_1.i ∧ x.times ((0 : Nat) + (↑y.i : Int).toNat) = x.times y_1.i ∧ x.wait ((0 : Nat) +
  (↑y.i : Int).toNat) = true ∧ True) ∧ True) ∧ True) ∨ ∃ (y_1 : IA), (y_1.i = g_1 ∧ g_1 < x.len ∧ x.wait g_1 = false ∧ Inv cores.v y_1.s y_1.r.rs) ∧ ((cores.v = cores.v ∧ ((x.nil = true → x.nil = true) ∧ (x.nil = false →
  x.nil = false ∧ True ∧ True ∧ (0 : Nat) = (0 : Nat) ∧ x.len = x.len ∧ x.cap = x.cap)) ∧ kind.v = kind.v ∧ ((w.nil = true → w.nil = true) ∧ (w.nil = false → w.nil = false ∧ True ∧ True ∧ (0 : Nat) = (0 : Nat) ∧ w.len =
  w.len ∧ w.cap = w.cap)) ∧ (True ∧ True) ∧ (True ∧ True) ∧ (↑y.i : Int) = (↑y_1.i : Int) ∧ (True ∧ True) ∧ True) ∧ ((0 : Nat) ≤ (0 : Nat) ∧ x.len = x.len ∧ ∀ (j : Nat), j < x.len → x.core j = x.core j ∧ x.kind j = x.kind
  j ∧ x.times j = x.times j ∧ x.wait j = x.wait j ∧ True) ∧ ((0 : Nat) ≤ (0 : Nat) ∧ w.len = w.len ∧ ∀ (j : Nat), j < w.len → w.w j = w.w j) ∧ ((2 : Nat) ≤ (2 : Nat) ∧ (True ∧ True ∧ (0 : Nat) = (0 : Nat) ∧ y.s.n = y_1.s.n
  ∧ y.s.n = y_1.s.n) ∧ y.s.st = y_1.s.st ∧ True) ∧ (y_1.s.n * (10 : Nat) ≤ y.s.n * (10 : Nat) ∧ y_1.s.n = y.s.n ∧ ∀ (j : Nat), j < y.s.n → y.s.clk j = y_1.s.clk j ∧ ((9 : Nat) = (9 : Nat) ∧ ∀ (j_1 : Nat), j_1 < (9 : Nat) →
  y.s.by_ j j_1 = y_1.s.by_ j j_1) ∧ True) ∧ ((3 : Nat) ≤ (3 : Nat) ∧ y.r.cores = y_1.r.cores ∧ True ∧ y.r.st = y_1.r.st ∧ True) ∧ ((4 : Nat) ≤ (4 : Nat) ∧ x.core ((0 : Nat) + (↑y.i : Int).toNat) = x.core y_1.i ∧ x.kind
  ((0 : Nat) + (↑y.i : Int).toNat) = x.kind y_1.i ∧ x.times ((0 : Nat) + (↑y.i : Int).toNat) = x.times y_1.i ∧ x.wait ((0 : Nat) + (↑y.i : Int).toNat) = false ∧ True) ∧ True) ∧ True)) ∧ (∀ (y : IA), y.i = g_1 ∧ g_1 < x.len
  ∧ x.wait g_1 = true ∧ Inv cores.v y.s y.r.rs → (((True ∧ True) ∧ x.core y.i = x.core y.i ∧ x.times y.i = x.times y.i ∧ True) ∧ ((2 : Nat) ≤ (2 : Nat) ∧ (True ∧ True ∧ (0 : Nat) = (0 : Nat) ∧ y.s.n = y.s.n ∧ y.s.n =
  y.s.n) ∧ y.s.st = y.s.st ∧ True) ∧ (y.s.n * (10 : Nat) ≤ y.s.n * (10 : Nat) ∧ y.s.n = y.s.n ∧ ∀ (j : Nat), j < y.s.n → y.s.clk j = y.s.clk j ∧ ((9 : Nat) = (9 : Nat) ∧ ∀ (j_1 : Nat), j_1 < (9 : Nat) → y.s.by_ j j_1 =
  y.s.by_ j j_1) ∧ True) ∧ True) ∧ (y.s.Ok ∧ (0 : Int) ≤ x.times y.i ∧ x.times y.i < (18446744073709551616 : Int)) ∧ ∀ (x_2 : Int × MS), x_2 = y.s.wait (x.core y.i) (x.times y.i) → (((True ∧ True) ∧ x.core y.i = x.core y.i
  ∧ x.times y.i = x.times y.i ∧ True) ∧ ((3 : Nat) ≤ (3 : Nat) ∧ y.r.cores = y.r.cores ∧ True ∧ y.r.st = y.r.st ∧ True) ∧ True) ∧ ((0 : Int) ≤ x.times y.i ∧ x.times y.i < (18446744073709551616 : Int)) ∧ (y.r.rs.bad (x.core
  y.i) → ((x_2.fst != (11 : Int)) = true → cores.Ok ∧ x.Ok ∧ kind.Ok ∧ (w.nil = true → w.len = (0 : Nat)) → False ∧ True ∧ ((0 : Nat) ≤ (0 : Nat) ∧ x.len = x.len ∧ ∀ (j : Nat), j < x.len → x.core j = x.core j ∧ x.kind j =
  x.kind j ∧ x.times j = x.times j ∧ x.wait j = x.wait j ∧ True) ∧ ((0 : Nat) ≤ (0 : Nat) ∧ w.len = w.len ∧ ∀ (j : Nat), j < w.len → w.w j = w.w j) ∧ True) ∧ ((x_2.fst != (11 : Int)) = false → (∃ (y_1 : IA), (y_1.i = g ∧
  Inv cores.v y_1.s y_1.r.rs) ∧ ((cores.v = cores.v ∧ ((x.nil = true → x.nil = true) ∧ (x.nil = false → x.nil = false ∧ True ∧ True ∧ (0 : Nat) = (0 : Nat) ∧ x.len = x.len ∧ x.cap = x.cap)) ∧ kind.v = kind.v ∧ ((w.nil =
  true → w.nil = true) ∧ (w.nil = false → w.nil = false ∧ True ∧ True ∧ (0 : Nat) = (0 : Nat) ∧ w.len = w.len ∧ w.cap = w.cap)) ∧ (True ∧ True) ∧ (True ∧ True) ∧ (↑y.i : Int) = (↑y_1.i : Int) ∧ True) ∧ ((0 : Nat) ≤ (0 :
  Nat) ∧ x.len = x.len ∧ ∀ (j : Nat), j < x.len → x.core j = x.core j ∧ x.kind j = x.kind j ∧ x.times j = x.times j ∧ x.wait j = x.wait j ∧ True) ∧ ((0 : Nat) ≤ (0 : Nat) ∧ w.len = w.len ∧ ∀ (j : Nat), j < w.len → w.w j =
  w.w j) ∧ ((2 : Nat) ≤ (2 : Nat) ∧ (True ∧ True ∧ (0 : Nat) = (0 : Nat) ∧ x_2.snd.n = y_1.s.n ∧ x_2.snd.n = y_1.s.n) ∧ x_2.snd.st = y_1.s.st ∧ True) ∧ (y_1.s.n * (10 : Nat) ≤ y.s.n * (10 : Nat) ∧ y_1.s.n = x_2.snd.n ∧ ∀
  (j : Nat), j < x_2.snd.n → x_2.snd.clk j = y_1.s.clk j ∧ ((9 : Nat) = (9 : Nat) ∧ ∀ (j_1 : Nat), j_1 < (9 : Nat) → x_2.snd.by_ j j_1 = y_1.s.by_ j j_1) ∧ True) ∧ ((3 : Nat) ≤ (3 : Nat) ∧ y.r.cores = y_1.r.cores ∧ True ∧
  y.r.st = y_1.r.st ∧ True) ∧ True) ∧ True) ∨ ∃ (y : IB), (y.i = g ∧ Inv cores.v y.s y.r ∧ y.r.n ≤ y.i + (1 : Nat)) ∧ False ∧ True)) ∧ (¬y.r.rs.bad (x.core y.i) → (y.r.st = true → ((x_2.fst != (22 : Int)) = true → cores.Ok
  ∧ x.Ok ∧ kind.Ok ∧ (w.nil = true → w.len = (0 : Nat)) → False ∧ True ∧ ((0 : Nat) ≤ (0 : Nat) ∧ x.len = x.len ∧ ∀ (j : Nat), j < x.len → x.core j = x.core j ∧ x.kind j = x.kind j ∧ x.times j = x.times j ∧ x.wait j =
  x.wait j ∧ True) ∧ ((0 : Nat) ≤ (0 : Nat) ∧ w.len = w.len ∧ ∀ (j : Nat), j < w.len → w.w j = w.w j) ∧ True) ∧ ((x_2.fst != (22 : Int)) = false → (∃ (y_1 : IA), (y_1.i = g ∧ Inv cores.v y_1.s y_1.r.rs) ∧ ((cores.v =
  cores.v ∧ ((x.nil = true → x.nil = true) ∧ (x.nil = false → x.nil = false ∧ True ∧ True ∧ (0 : Nat) = (0 : Nat) ∧ x.len = x.len ∧ x.cap = x.cap)) ∧ kind.v = kind.v ∧ ((w.nil = true → w.nil = true) ∧ (w.nil = false →
  w.nil = false ∧ True ∧ True ∧ (0 : Nat) = (0 : Nat) ∧ w.len = w.len ∧ w.cap = w.cap)) ∧ (True ∧ True) ∧ (True ∧ True) ∧ (↑y.i : Int) = (↑y_1.i : Int) ∧ True) ∧ ((0 : Nat) ≤ (0 : Nat) ∧ x.len = x.len ∧ ∀ (j : Nat), j <
  x.len → x.core j = x.core j ∧ x.kind j = x.kind j ∧ x.times j = x.times j ∧ x.wait j = x.wait j ∧ True) ∧ ((0 : Nat) ≤ (0 : Nat) ∧ w.len = w.len ∧ ∀ (j : Nat), j < w.len → w.w j = w.w j) ∧ ((2 : Nat) ≤ (2 : Nat) ∧ (True
  ∧ True ∧ (0 : Nat) = (0 : Nat) ∧ x_2.snd.n = y_1.s.n ∧ x_2.snd.n = y_1.s.n) ∧ x_2.snd.st = y_1.s.st ∧ True) ∧ (y_1.s.n * (10 : Nat) ≤ y.s.n * (10 : Nat) ∧ y_1.s.n = x_2.snd.n ∧ ∀ (j : Nat), j < x_2.snd.n → x_2.snd.clk j
  = y_1.s.clk j ∧ ((9 : Nat) = (9 : Nat) ∧ ∀ (j_1 : Nat), j_1 < (9 : Nat) → x_2.snd.by_ j j_1 = y_1.s.by_ j j_1) ∧ True) ∧ ((3 : Nat) ≤ (3 : Nat) ∧ y.r.cores = y_1.r.cores ∧ True ∧ y.r.st = y_1.r.st ∧ True) ∧ True) ∧ True)
  ∨ ∃ (y : IB), (y.i = g ∧ Inv cores.v y.s y.r ∧ y.r.n ≤ y.i + (1 : Nat)) ∧ False ∧ True)) ∧ (¬y.r.st = true → (x.times y.i ≤ (0 : Int) → ((x_2.fst != (0 : Int)) = true → cores.Ok ∧ x.Ok ∧ kind.Ok ∧ (w.nil = true → w.len =
  (0 : Nat)) → False ∧ True ∧ ((0 : Nat) ≤ (0 : Nat) ∧ x.len = x.len ∧ ∀ (j : Nat), j < x.len → x.core j = x.core j ∧ x.kind j = x.kind j ∧ x.times j = x.times j ∧ x.wait j = x.wait j ∧ True) ∧ ((0 : Nat) ≤ (0 : Nat) ∧
  w.len = w.len ∧ ∀ (j : Nat), j < w.len → w.w j = w.w j) ∧ True) ∧ ((x_2.fst != (0 : Int)) = false → (∃ (y_1 : IA), (y_1.i = g ∧ Inv cores.v y_1.s y_1.r.rs) ∧ ((cores.v = cores.v ∧ ((x.nil = true → x.nil = true) ∧ (x.nil
  = false → x.nil = false ∧ True ∧ True ∧ (0 : Nat) = (0 : Nat) ∧ x.len = x.len ∧ x.cap = x.cap)) ∧ kind.v = kind.v ∧ ((w.nil = true → w.nil = true) ∧ (w.nil = false → w.nil = false ∧ True ∧ True ∧ (0 : Nat) = (0 : Nat) ∧
  w.len = w.len ∧ w.cap = w.cap)) ∧ (True ∧ True) ∧ (True ∧ True) ∧ (↑y.i : Int) = (↑y_1.i : Int) ∧ True) ∧ ((0 : Nat) ≤ (0 : Nat) ∧ x.len = x.len ∧ ∀ (j : Nat), j < x.len → x.core j = x.core j ∧ x.kind j = x.kind j ∧
  x.times j = x.times j ∧ x.wait j = x.wait j ∧ True) ∧ ((0 : Nat) ≤ (0 : Nat) ∧ w.len = w.len ∧ ∀ (j : Nat), j < w.len → w.w j = w.w j) ∧ ((2 : Nat) ≤ (2 : Nat) ∧ (True ∧ True ∧ (0 : Nat) = (0 : Nat) ∧ x_2.snd.n = y_1.s.n
  ∧ x_2.snd.n = y_1.s.n) ∧ x_2.snd.st = y_1.s.st ∧ True) ∧ (y_1.s.n * (10 : Nat) ≤ y.s.n * (10 : Nat) ∧ y_1.s.n = x_2.snd.n ∧ ∀ (j : Nat), j < x_2.snd.n → x_2.snd.clk j = y_1.s.clk j ∧ ((9 : Nat) = (9 : Nat) ∧ ∀ (j_1 :
  Nat), j_1 < (9 : Nat) → x_2.snd.by_ j j_1 = y_1.s.by_ j j_1) ∧ True) ∧ ((3 : Nat) ≤ (3 : Nat) ∧ y.r.cores = y_1.r.cores ∧ True ∧ y.r.st = y_1.r.st ∧ True) ∧ True) ∧ True) ∨ ∃ (y : IB), (y.i = g ∧ Inv cores.v y.s y.r ∧
  y.r.n ≤ y.i + (1 : Nat)) ∧ False ∧ True)) ∧ (¬x.times y.i ≤ (0 : Int) → ∀ (x_3 : Nat), y.r.rs.n + (1 : Nat) ≤ x_3 → ((x_2.fst != if y.r.rs.left (x.core y.i) ≤ x.times y.i then (22 : Int) else (0 : Int)) = true → cores.Ok
  ∧ x.Ok ∧ kind.Ok ∧ (w.nil = true → w.len = (0 : Nat)) → False ∧ True ∧ ((0 : Nat) ≤ (0 : Nat) ∧ x.len = x.len ∧ ∀ (j : Nat), j < x.len → x.core j = x.core j ∧ x.kind j = x.kind j ∧ x.times j = x.times j ∧ x.wait j =
  x.wait j ∧ True) ∧ ((0 : Nat) ≤ (0 : Nat) ∧ w.len = w.len ∧ ∀ (j : Nat), j < w.len → w.w j = w.w j) ∧ True) ∧ ((x_2.fst != if y.r.rs.left (x.core y.i) ≤ x.times y.i then (22 : Int) else (0 : Int)) = false → (∃ (y_1 :
  IA), (y_1.i = g ∧ Inv cores.v y_1.s y_1.r.rs) ∧ ((cores.v = cores.v ∧ ((x.nil = true → x.nil = true) ∧ (x.nil = false → x.nil = false ∧ True ∧ True ∧ (0 : Nat) = (0 : Nat) ∧ x.len = x.len ∧ x.cap = x.cap)) ∧ kind.v =
  kind.v ∧ ((w.nil = true → w.nil = true) ∧ (w.nil = false → w.nil = false ∧ True ∧ True ∧ (0 : Nat) = (0 : Nat) ∧ w.len = w.len ∧ w.cap = w.cap)) ∧ (True ∧ True) ∧ (True ∧ True) ∧ (↑y.i : Int) = (↑y_1.i : Int) ∧ True) ∧
  ((0 : Nat) ≤ (0 : Nat) ∧ x.len = x.len ∧ ∀ (j : Nat), j < x.len → x.core j = x.core j ∧ x.kind j = x.kind j ∧ x.times j = x.times j ∧ x.wait j = x.wait j ∧ True) ∧ ((0 : Nat) ≤ (0 : Nat) ∧ w.len = w.len ∧ ∀ (j : Nat), j
  < w.len → w.w j = w.w j) ∧ ((2 : Nat) ≤ (2 : Nat) ∧ (True ∧ True ∧ (0 : Nat) = (0 : Nat) ∧ x_2.snd.n = y_1.s.n ∧ x_2.snd.n = y_1.s.n) ∧ x_2.snd.st = y_1.s.st ∧ True) ∧ (y_1.s.n * (10 : Nat) ≤ y.s.n * (10 : Nat) ∧ y_1.s.n
  = x_2.snd.n ∧ ∀ (j : Nat), j < x_2.snd.n → x_2.snd.clk j = y_1.s.clk j ∧ ((9 : Nat) = (9 : Nat) ∧ ∀ (j_1 : Nat), j_1 < (9 : Nat) → x_2.snd.by_ j j_1 = y_1.s.by_ j j_1) ∧ True) ∧ ((3 : Nat) ≤ (3 : Nat) ∧ (y.r.rs.on
  (x.core y.i) (0 : Int) (x.times y.i) x_3).cores = y_1.r.cores ∧ False ∧ (y.r.rs.on (x.core y.i) (0 : Int) (x.times y.i) x_3).st = y_1.r.st ∧ True) ∧ True) ∧ True) ∨ ∃ (y_1 : IB), (y_1.i = g ∧ Inv cores.v y_1.s y_1.r ∧
  y_1.r.n ≤ y_1.i + (1 : Nat)) ∧ ((cores.v = cores.v ∧ ((x.nil = true → x.nil = true) ∧ (x.nil = false → x.nil = false ∧ True ∧ True ∧ (0 : Nat) = (0 : Nat) ∧ x.len = x.len ∧ x.cap = x.cap)) ∧ kind.v = kind.v ∧ ((w.nil =
  true → w.nil = true) ∧ (w.nil = false → w.nil = false ∧ True ∧ True ∧ (0 : Nat) = (0 : Nat) ∧ w.len = w.len ∧ w.cap = w.cap)) ∧ (True ∧ True) ∧ (True ∧ True) ∧ (↑y.i : Int) = (↑y_1.i : Int) ∧ True) ∧ ((0 : Nat) ≤ (0 :
  Nat) ∧ x.len = x.len ∧ ∀ (j : Nat), j < x.len → x.core j = x.core j ∧ x.kind j = x.kind j ∧ x.times j = x.times j ∧ x.wait j = x.wait j ∧ True) ∧ ((0 : Nat) ≤ (0 : Nat) ∧ w.len = w.len ∧ ∀ (j : Nat), j < w.len → w.w j =
  w.w j) ∧ ((2 : Nat) ≤ (2 : Nat) ∧ (True ∧ True ∧ (0 : Nat) = (0 : Nat) ∧ x_2.snd.n = y_1.s.n ∧ x_2.snd.n = y_1.s.n) ∧ x_2.snd.st = y_1.s.st ∧ True) ∧ (y_1.s.n * (10 : Nat) ≤ y.s.n * (10 : Nat) ∧ y_1.s.n = x_2.snd.n ∧ ∀
  (j : Nat), j < x_2.snd.n → x_2.snd.clk j = y_1.s.clk j ∧ ((9 : Nat) = (9 : Nat) ∧ ∀ (j_1 : Nat), j_1 < (9 : Nat) → x_2.snd.by_ j j_1 = y_1.s.by_ j j_1) ∧ True) ∧ ((3 : Nat) ≤ (3 : Nat) ∧ (y.r.rs.on (x.core y.i) (0 : Int)
  (x.times y.i) x_3).cores = y_1.r.cores ∧ (True ∧ True ∧ (0 : Nat) = (0 : Nat) ∧ (y.r.rs.on (x.core y.i) (0 : Int) (x.times y.i) x_3).n = y_1.r.n ∧ (y.r.rs.on (x.core y.i) (0 : Int) (x.times y.i) x_3).cap = y_1.r.cap) ∧
  (y.r.rs.on (x.core y.i) (0 : Int) (x.times y.i) x_3).st = y_1.r.st ∧ True) ∧ (y_1.r.cap * (3 : Nat) ≤ (y.r.rs.on (x.core y.i) (0 : Int) (x.times y.i) x_3).cap * (3 : Nat) ∧ y_1.r.n = (y.r.rs.on (x.core y.i) (0 : Int)
  (x.times y.i) x_3).n ∧ ∀ (j : Nat), j < (y.r.rs.on (x.core y.i) (0 : Int) (x.times y.i) x_3).n → (y.r.rs.on (x.core y.i) (0 : Int) (x.times y.i) x_3).core j = y_1.r.core j ∧ (y.r.rs.on (x.core y.i) (0 : Int) (x.times
  y.i) x_3).kind j = y_1.r.kind j ∧ (y.r.rs.on (x.core y.i) (0 : Int) (x.times y.i) x_3).cyc j = y_1.r.cyc j ∧ True) ∧ True) ∧ True))))) ∧ ∀ (y : IA), y.i = g_1 ∧ g_1 < x.len ∧ x.wait g_1 = false ∧ Inv cores.v y.s y.r.rs →
  (((True ∧ True) ∧ x.core y.i = x.core y.i ∧ x.kind y.i = x.kind y.i ∧ x.times y.i = x.times y.i ∧ True) ∧ ((2 : Nat) ≤ (2 : Nat) ∧ (True ∧ True ∧ (0 : Nat) = (0 : Nat) ∧ y.s.n = y.s.n ∧ y.s.n = y.s.n) ∧ y.s.st = y.s.st ∧
  True) ∧ (y.s.n * (10 : Nat) ≤ y.s.n * (10 : Nat) ∧ y.s.n = y.s.n ∧ ∀ (j : Nat), j < y.s.n → y.s.clk j = y.s.clk j ∧ ((9 : Nat) = (9 : Nat) ∧ ∀ (j_1 : Nat), j_1 < (9 : Nat) → y.s.by_ j j_1 = y.s.by_ j j_1) ∧ True) ∧ True)
  ∧ (y.s.Ok ∧ (0 : Int) ≤ x.times y.i ∧ x.times y.i < (18446744073709551616 : Int)) ∧ ∀ (x_2 : Int × MS), x_2 = y.s.charge (x.core y.i) (x.kind y.i) (x.times y.i) → (((True ∧ True) ∧ x.core y.i = x.core y.i ∧ x.kind y.i =
  x.kind y.i ∧ x.times y.i = x.times y.i ∧ True) ∧ ((3 : Nat) ≤ (3 : Nat) ∧ y.r.cores = y.r.cores ∧ True ∧ y.r.st = y.r.st ∧ True) ∧ True) ∧ ((0 : Int) ≤ x.times y.i ∧ x.times y.i < (18446744073709551616 : Int)) ∧
  (y.r.rs.bad (x.core y.i) ∨ cost (x.kind y.i) = (0 : Int) → ((x_2.fst != (11 : Int)) = true → cores.Ok ∧ x.Ok ∧ kind.Ok ∧ (w.nil = true → w.len = (0 : Nat)) → False ∧ True ∧ ((0 : Nat) ≤ (0 : Nat) ∧ x.len = x.len ∧ ∀ (j :
  Nat), j < x.len → x.core j = x.core j ∧ x.kind j = x.kind j ∧ x.times j = x.times j ∧ x.wait j = x.wait j ∧ True) ∧ ((0 : Nat) ≤ (0 : Nat) ∧ w.len = w.len ∧ ∀ (j : Nat), j < w.len → w.w j = w.w j) ∧ True) ∧ ((x_2.fst !=
  (11 : Int)) = false → (∃ (y_1 : IA), (y_1.i = g ∧ Inv cores.v y_1.s y_1.r.rs) ∧ ((cores.v = cores.v ∧ ((x.nil = true → x.nil = true) ∧ (x.nil = false → x.nil = false ∧ True ∧ True ∧ (0 : Nat) = (0 : Nat) ∧ x.len = x.len
  ∧ x.cap = x.cap)) ∧ kind.v = kind.v ∧ ((w.nil = true → w.nil = true) ∧ (w.nil = false → w.nil = false ∧ True ∧ True ∧ (0 : Nat) = (0 : Nat) ∧ w.len = w.len ∧ w.cap = w.cap)) ∧ (True ∧ True) ∧ (True ∧ True) ∧ (↑y.i : Int)
  = (↑y_1.i : Int) ∧ True) ∧ ((0 : Nat) ≤ (0 : Nat) ∧ x.len = x.len ∧ ∀ (j : Nat), j < x.len → x.core j = x.core j ∧ x.kind j = x.kind j ∧ x.times j = x.times j ∧ x.wait j = x.wait j ∧ True) ∧ ((0 : Nat) ≤ (0 : Nat) ∧
  w.len = w.len ∧ ∀ (j : Nat), j < w.len → w.w j = w.w j) ∧ ((2 : Nat) ≤ (2 : Nat) ∧ (True ∧ True ∧ (0 : Nat) = (0 : Nat) ∧ x_2.snd.n = y_1.s.n ∧ x_2.snd.n = y_1.s.n) ∧ x_2.snd.st = y_1.s.st ∧ True) ∧ (y_1.s.n * (10 : Nat)
  ≤ y.s.n * (10 : Nat) ∧ y_1.s.n = x_2.snd.n ∧ ∀ (j : Nat), j < x_2.snd.n → x_2.snd.clk j = y_1.s.clk j ∧ ((9 : Nat) = (9 : Nat) ∧ ∀ (j_1 : Nat), j_1 < (9 : Nat) → x_2.snd.by_ j j_1 = y_1.s.by_ j j_1) ∧ True) ∧ ((3 : Nat)
  ≤ (3 : Nat) ∧ y.r.cores = y_1.r.cores ∧ True ∧ y.r.st = y_1.r.st ∧ True) ∧ True) ∧ True) ∨ ∃ (y : IB), (y.i = g ∧ Inv cores.v y.s y.r ∧ y.r.n ≤ y.i + (1 : Nat)) ∧ False ∧ True)) ∧ (¬(y.r.rs.bad (x.core y.i) ∨ cost
  (x.kind y.i) = (0 : Int)) → (y.r.st = true → ((x_2.fst != (22 : Int)) = true → cores.Ok ∧ x.Ok ∧ kind.Ok ∧ (w.nil = true → w.len = (0 : Nat)) → False ∧ True ∧ ((0 : Nat) ≤ (0 : Nat) ∧ x.len = x.len ∧ ∀ (j : Nat), j <
  x.len → x.core j = x.core j ∧ x.kind j = x.kind j ∧ x.times j = x.times j ∧ x.wait j = x.wait j ∧ True) ∧ ((0 : Nat) ≤ (0 : Nat) ∧ w.len = w.len ∧ ∀ (j : Nat), j < w.len → w.w j = w.w j) ∧ True) ∧ ((x_2.fst != (22 :
  Int)) = false → (∃ (y_1 : IA), (y_1.i = g ∧ Inv cores.v y_1.s y_1.r.rs) ∧ ((cores.v = cores.v ∧ ((x.nil = true → x.nil = true) ∧ (x.nil = false → x.nil = false ∧ True ∧ True ∧ (0 : Nat) = (0 : Nat) ∧ x.len = x.len ∧
  x.cap = x.cap)) ∧ kind.v = kind.v ∧ ((w.nil = true → w.nil = true) ∧ (w.nil = false → w.nil = false ∧ True ∧ True ∧ (0 : Nat) = (0 : Nat) ∧ w.len = w.len ∧ w.cap = w.cap)) ∧ (True ∧ True) ∧ (True ∧ True) ∧ (↑y.i : Int) =
  (↑y_1.i : Int) ∧ True) ∧ ((0 : Nat) ≤ (0 : Nat) ∧ x.len = x.len ∧ ∀ (j : Nat), j < x.len → x.core j = x.core j ∧ x.kind j = x.kind j ∧ x.times j = x.times j ∧ x.wait j = x.wait j ∧ True) ∧ ((0 : Nat) ≤ (0 : Nat) ∧ w.len
  = w.len ∧ ∀ (j : Nat), j < w.len → w.w j = w.w j) ∧ ((2 : Nat) ≤ (2 : Nat) ∧ (True ∧ True ∧ (0 : Nat) = (0 : Nat) ∧ x_2.snd.n = y_1.s.n ∧ x_2.snd.n = y_1.s.n) ∧ x_2.snd.st = y_1.s.st ∧ True) ∧ (y_1.s.n * (10 : Nat) ≤
  y.s.n * (10 : Nat) ∧ y_1.s.n = x_2.snd.n ∧ ∀ (j : Nat), j < x_2.snd.n → x_2.snd.clk j = y_1.s.clk j ∧ ((9 : Nat) = (9 : Nat) ∧ ∀ (j_1 : Nat), j_1 < (9 : Nat) → x_2.snd.by_ j j_1 = y_1.s.by_ j j_1) ∧ True) ∧ ((3 : Nat) ≤
  (3 : Nat) ∧ y.r.cores = y_1.r.cores ∧ True ∧ y.r.st = y_1.r.st ∧ True) ∧ True) ∧ True) ∨ ∃ (y : IB), (y.i = g ∧ Inv cores.v y.s y.r ∧ y.r.n ≤ y.i + (1 : Nat)) ∧ False ∧ True)) ∧ (¬y.r.st = true → ∀ (x_3 : Nat), y.r.rs.n
  + (1 : Nat) ≤ x_3 → ((x_2.fst != if y.r.rs.left (x.core y.i) ≤ cost (x.kind y.i) * x.times y.i then (22 : Int) else (0 : Int)) = true → cores.Ok ∧ x.Ok ∧ kind.Ok ∧ (w.nil = true → w.len = (0 : Nat)) → False ∧ True ∧ ((0
  : Nat) ≤ (0 : Nat) ∧ x.len = x.len ∧ ∀ (j : Nat), j < x.len → x.core j = x.core j ∧ x.kind j = x.kind j ∧ x.times j = x.times j ∧ x.wait j = x.wait j ∧ True) ∧ ((0 : Nat) ≤ (0 : Nat) ∧ w.len = w.len ∧ ∀ (j : Nat), j <
  w.len → w.w j = w.w j) ∧ True) ∧ ((x_2.fst != if y.r.rs.left (x.core y.i) ≤ cost (x.kind y.i) * x.times y.i then (22 : Int) else (0 : Int)) = false → (∃ (y_1 : IA), (y_1.i = g ∧ Inv cores.v y_1.s y_1.r.rs) ∧ ((cores.v =
  cores.v ∧ ((x.nil = true → x.nil = true) ∧ (x.nil = false → x.nil = false ∧ True ∧ True ∧ (0 : Nat) = (0 : Nat) ∧ x.len = x.len ∧ x.cap = x.cap)) ∧ kind.v = kind.v ∧ ((w.nil = true → w.nil = true) ∧ (w.nil = false →
  w.nil = false ∧ True ∧ True ∧ (0 : Nat) = (0 : Nat) ∧ w.len = w.len ∧ w.cap = w.cap)) ∧ (True ∧ True) ∧ (True ∧ True) ∧ (↑y.i : Int) = (↑y_1.i : Int) ∧ True) ∧ ((0 : Nat) ≤ (0 : Nat) ∧ x.len = x.len ∧ ∀ (j : Nat), j <
  x.len → x.core j = x.core j ∧ x.kind j = x.kind j ∧ x.times j = x.times j ∧ x.wait j = x.wait j ∧ True) ∧ ((0 : Nat) ≤ (0 : Nat) ∧ w.len = w.len ∧ ∀ (j : Nat), j < w.len → w.w j = w.w j) ∧ ((2 : Nat) ≤ (2 : Nat) ∧ (True
  ∧ True ∧ (0 : Nat) = (0 : Nat) ∧ x_2.snd.n = y_1.s.n ∧ x_2.snd.n = y_1.s.n) ∧ x_2.snd.st = y_1.s.st ∧ True) ∧ (y_1.s.n * (10 : Nat) ≤ y.s.n * (10 : Nat) ∧ y_1.s.n = x_2.snd.n ∧ ∀ (j : Nat), j < x_2.snd.n → x_2.snd.clk j
  = y_1.s.clk j ∧ ((9 : Nat) = (9 : Nat) ∧ ∀ (j_1 : Nat), j_1 < (9 : Nat) → x_2.snd.by_ j j_1 = y_1.s.by_ j j_1) ∧ True) ∧ ((3 : Nat) ≤ (3 : Nat) ∧ (y.r.rs.on (x.core y.i) (x.kind y.i) (cost (x.kind y.i) * x.times y.i)
  x_3).cores = y_1.r.cores ∧ False ∧ (y.r.rs.on (x.core y.i) (x.kind y.i) (cost (x.kind y.i) * x.times y.i) x_3).st = y_1.r.st ∧ True) ∧ True) ∧ True) ∨ ∃ (y_1 : IB), (y_1.i = g ∧ Inv cores.v y_1.s y_1.r ∧ y_1.r.n ≤ y_1.i
  + (1 : Nat)) ∧ ((cores.v = cores.v ∧ ((x.nil = true → x.nil = true) ∧ (x.nil = false → x.nil = false ∧ True ∧ True ∧ (0 : Nat) = (0 : Nat) ∧ x.len = x.len ∧ x.cap = x.cap)) ∧ kind.v = kind.v ∧ ((w.nil = true → w.nil =
  true) ∧ (w.nil = false → w.nil = false ∧ True ∧ True ∧ (0 : Nat) = (0 : Nat) ∧ w.len = w.len ∧ w.cap = w.cap)) ∧ (True ∧ True) ∧ (True ∧ True) ∧ (↑y.i : Int) = (↑y_1.i : Int) ∧ True) ∧ ((0 : Nat) ≤ (0 : Nat) ∧ x.len =
  x.len ∧ ∀ (j : Nat), j < x.len → x.core j = x.core j ∧ x.kind j = x.kind j ∧ x.times j = x.times j ∧ x.wait j = x.wait j ∧ True) ∧ ((0 : Nat) ≤ (0 : Nat) ∧ w.len = w.len ∧ ∀ (j : Nat), j < w.len → w.w j = w.w j) ∧ ((2 :
  Nat) ≤ (2 : Nat) ∧ (True ∧ True ∧ (0 : Nat) = (0 : Nat) ∧ x_2.snd.n = y_1.s.n ∧ x_2.snd.n = y_1.s.n) ∧ x_2.snd.st = y_1.s.st ∧ True) ∧ (y_1.s.n * (10 : Nat) ≤ y.s.n * (10 : Nat) ∧ y_1.s.n = x_2.snd.n ∧ ∀ (j : Nat), j <
  x_2.snd.n → x_2.snd.clk j = y_1.s.clk j ∧ ((9 : Nat) = (9 : Nat) ∧ ∀ (j_1 : Nat), j_1 < (9 : Nat) → x_2.snd.by_ j j_1 = y_1.s.by_ j j_1) ∧ True) ∧ ((3 : Nat) ≤ (3 : Nat) ∧ (y.r.rs.on (x.core y.i) (x.kind y.i) (cost
  (x.kind y.i) * x.times y.i) x_3).cores = y_1.r.cores ∧ (True ∧ True ∧ (0 : Nat) = (0 : Nat) ∧ (y.r.rs.on (x.core y.i) (x.kind y.i) (cost (x.kind y.i) * x.times y.i) x_3).n = y_1.r.n ∧ (y.r.rs.on (x.core y.i) (x.kind y.i)
  (cost (x.kind y.i) * x.times y.i) x_3).cap = y_1.r.cap) ∧ (y.r.rs.on (x.core y.i) (x.kind y.i) (cost (x.kind y.i) * x.times y.i) x_3).st = y_1.r.st ∧ True) ∧ (y_1.r.cap * (3 : Nat) ≤ (y.r.rs.on (x.core y.i) (x.kind y.i)
  (cost (x.kind y.i) * x.times y.i) x_3).cap * (3 : Nat) ∧ y_1.r.n = (y.r.rs.on (x.core y.i) (x.kind y.i) (cost (x.kind y.i) * x.times y.i) x_3).n ∧ ∀ (j : Nat), j < (y.r.rs.on (x.core y.i) (x.kind y.i) (cost (x.kind y.i)
  * x.times y.i) x_3).n → (y.r.rs.on (x.core y.i) (x.kind y.i) (cost (x.kind y.i) * x.times y.i) x_3).core j = y_1.r.core j ∧ (y.r.rs.on (x.core y.i) (x.kind y.i) (cost (x.kind y.i) * x.times y.i) x_3).kind j = y_1.r.kind
  j ∧ (y.r.rs.on (x.core y.i) (x.kind y.i) (cost (x.kind y.i) * x.times y.i) x_3).cyc j = y_1.r.cyc j ∧ True) ∧ True) ∧ True)))) ∧ (∀ (y_1 : IA), y_1.i = g ∧ Inv cores.v y_1.s y_1.r.rs → (((True ∧ True) ∧ True) ∧ ((2 :
  Nat) ≤ (2 : Nat) ∧ (True ∧ True ∧ (0 : Nat) = (0 : Nat) ∧ y_1.s.n = y_1.s.n ∧ y_1.s.n = y_1.s.n) ∧ y_1.s.st = y_1.s.st ∧ True) ∧ (y_1.s.n * (10 : Nat) ≤ y_1.s.n * (10 : Nat) ∧ y_1.s.n = y_1.s.n ∧ ∀ (j : Nat), j < y_1.s.n
  → y_1.s.clk j = y_1.s.clk j ∧ ((9 : Nat) = (9 : Nat) ∧ ∀ (j_1 : Nat), j_1 < (9 : Nat) → y_1.s.by_ j j_1 = y_1.s.by_ j j_1) ∧ True) ∧ True) ∧ ((!y_1.s.st == y_1.r.st) = true → cores.Ok ∧ x.Ok ∧ kind.Ok ∧ (w.nil = true →
  w.len = (0 : Nat)) → False ∧ True ∧ ((0 : Nat) ≤ (0 : Nat) ∧ x.len = x.len ∧ ∀ (j : Nat), j < x.len → x.core j = x.core j ∧ x.kind j = x.kind j ∧ x.times j = x.times j ∧ x.wait j = x.wait j ∧ True) ∧ ((0 : Nat) ≤ (0 :
  Nat) ∧ w.len = w.len ∧ ∀ (j : Nat), j < w.len → w.w j = w.w j) ∧ True) ∧ ((!y_1.s.st == y_1.r.st) = false → ∀ (v : Int), v = (-1 : Int) → ∃ (g : Nat), (∃ (y : KA), (Inv cores.v y.s y.r.rs ∧ (-1 : Int) ≤ y.k ∧ y.k ≤
  cores.v + (1 : Int)) ∧ ((cores.v = cores.v ∧ ((x.nil = true → x.nil = true) ∧ (x.nil = false → x.nil = false ∧ True ∧ True ∧ (0 : Nat) = (0 : Nat) ∧ x.len = x.len ∧ x.cap = x.cap)) ∧ kind.v = kind.v ∧ ((w.nil = true →
  w.nil = true) ∧ (w.nil = false → w.nil = false ∧ True ∧ True ∧ (0 : Nat) = (0 : Nat) ∧ w.len = w.len ∧ w.cap = w.cap)) ∧ (True ∧ True) ∧ (True ∧ True) ∧ (↑y_1.i : Int) = (↑g : Int) ∧ v = y.k ∧ True) ∧ ((0 : Nat) ≤ (0 :
  Nat) ∧ x.len = x.len ∧ ∀ (j : Nat), j < x.len → x.core j = x.core j ∧ x.kind j = x.kind j ∧ x.times j = x.times j ∧ x.wait j = x.wait j ∧ True) ∧ ((0 : Nat) ≤ (0 : Nat) ∧ w.len = w.len ∧ ∀ (j : Nat), j < w.len → w.w j =
  w.w j) ∧ ((2 : Nat) ≤ (2 : Nat) ∧ (True ∧ True ∧ (0 : Nat) = (0 : Nat) ∧ y_1.s.n = y.s.n ∧ y_1.s.n = y.s.n) ∧ y_1.s.st = y.s.st ∧ True) ∧ (y.s.n * (10 : Nat) ≤ y_1.s.n * (10 : Nat) ∧ y.s.n = y_1.s.n ∧ ∀ (j : Nat), j <
  y_1.s.n → y_1.s.clk j = y.s.clk j ∧ ((9 : Nat) = (9 : Nat) ∧ ∀ (j_1 : Nat), j_1 < (9 : Nat) → y_1.s.by_ j j_1 = y.s.by_ j j_1) ∧ True) ∧ ((3 : Nat) ≤ (3 : Nat) ∧ y_1.r.cores = y.r.cores ∧ True ∧ y_1.r.st = y.r.st ∧ True)
  ∧ True) ∧ True) ∧ ∀ (y_2 : KA), Inv cores.v y_2.s y_2.r.rs ∧ (-1 : Int) ≤ y_2.k ∧ y_2.k ≤ cores.v + (1 : Int) → (decide (y_2.k ≤ cores.v) = true → (decide (y_2.k ≥ (0 : Int)) = true → (((True ∧ True) ∧ y_2.k = y_2.k ∧
  True) ∧ ((2 : Nat) ≤ (2 : Nat) ∧ (True ∧ True ∧ (0 : Nat) = (0 : Nat) ∧ y_2.s.n = y_2.s.n ∧ y_2.s.n = y_2.s.n) ∧ y_2.s.st = y_2.s.st ∧ True) ∧ (y_2.s.n * (10 : Nat) ≤ y_2.s.n * (10 : Nat) ∧ y_2.s.n = y_2.s.n ∧ ∀ (j :
  Nat), j < y_2.s.n → y_2.s.clk j = y_2.s.clk j ∧ ((9 : Nat) = (9 : Nat) ∧ ∀ (j_1 : Nat), j_1 < (9 : Nat) → y_2.s.by_ j j_1 = y_2.s.by_ j j_1) ∧ True) ∧ True) ∧ (((True ∧ True) ∧ y_2.k = y_2.k ∧ True) ∧ ((3 : Nat) ≤ (3 :
  Nat) ∧ y_2.r.cores = y_2.r.cores ∧ True ∧ y_2.r.st = y_2.r.st ∧ True) ∧ True) ∧ ((y_2.s.clkOf y_2.k != (0 : Int)) = true → cores.Ok ∧ x.Ok ∧ kind.Ok ∧ (w.nil = true → w.len = (0 : Nat)) → False ∧ True ∧ ((0 : Nat) ≤ (0 :
  Nat) ∧ x.len = x.len ∧ ∀ (j : Nat), j < x.len → x.core j = x.core j ∧ x.kind j = x.kind j ∧ x.times j = x.times j ∧ x.wait j = x.wait j ∧ True) ∧ ((0 : Nat) ≤ (0 : Nat) ∧ w.len = w.len ∧ ∀ (j : Nat), j < w.len → w.w j =
  w.w j) ∧ True) ∧ ((y_2.s.clkOf y_2.k != (0 : Int)) = false → (((True ∧ True) ∧ y_2.k = y_2.k ∧ True) ∧ ((2 : Nat) ≤ (2 : Nat) ∧ (True ∧ True ∧ (0 : Nat) = (0 : Nat) ∧ y_2.s.n = y_2.s.n ∧ y_2.s.n = y_2.s.n) ∧ y_2.s.st =
  y_2.s.st ∧ True) ∧ (y_2.s.n * (10 : Nat) ≤ y_2.s.n * (10 : Nat) ∧ y_2.s.n = y_2.s.n ∧ ∀ (j : Nat), j < y_2.s.n → y_2.s.clk j = y_2.s.clk j ∧ ((9 : Nat) = (9 : Nat) ∧ ∀ (j_1 : Nat), j_1 < (9 : Nat) → y_2.s.by_ j j_1 =
  y_2.s.by_ j j_1) ∧ True) ∧ True) ∧ (((True ∧ True) ∧ y_2.k = y_2.k ∧ (0 : Int) = (0 : Int) ∧ True) ∧ ((3 : Nat) ≤ (3 : Nat) ∧ y_2.r.cores = y_2.r.cores ∧ True ∧ y_2.r.st = y_2.r.st ∧ True) ∧ True) ∧ ((y_2.s.idleOf y_2.k
  != (0 : Int)) = true → cores.Ok ∧ x.Ok ∧ kind.Ok ∧ (w.nil = true → w.len = (0 : Nat)) → False ∧ True ∧ ((0 : Nat) ≤ (0 : Nat) ∧ x.len = x.len ∧ ∀ (j : Nat), j < x.len → x.core j = x.core j ∧ x.kind j = x.kind j ∧ x.times
  j = x.times j ∧ x.wait j = x.wait j ∧ True) ∧ ((0 : Nat) ≤ (0 : Nat) ∧ w.len = w.len ∧ ∀ (j : Nat), j < w.len → w.w j = w.w j) ∧ True) ∧ ((y_2.s.idleOf y_2.k != (0 : Int)) = false → (decide (kind.v > (0 : Int)) = true →
  (((True ∧ True) ∧ y_2.k = y_2.k ∧ kind.v = kind.v ∧ True) ∧ ((2 : Nat) ≤ (2 : Nat) ∧ (True ∧ True ∧ (0 : Nat) = (0 : Nat) ∧ y_2.s.n = y_2.s.n ∧ y_2.s.n = y_2.s.n) ∧ y_2.s.st = y_2.s.st ∧ True) ∧ (y_2.s.n * (10 : Nat) ≤
  y_2.s.n * (10 : Nat) ∧ y_2.s.n = y_2.s.n ∧ ∀ (j : Nat), j < y_2.s.n → y_2.s.clk j = y_2.s.clk j ∧ ((9 : Nat) = (9 : Nat) ∧ ∀ (j_1 : Nat), j_1 < (9 : Nat) → y_2.s.by_ j j_1 = y_2.s.by_ j j_1) ∧ True) ∧ True) ∧ (((True ∧
  True) ∧ y_2.k = y_2.k ∧ kind.v = kind.v ∧ True) ∧ ((3 : Nat) ≤ (3 : Nat) ∧ y_2.r.cores = y_2.r.cores ∧ True ∧ y_2.r.st = y_2.r.st ∧ True) ∧ True) ∧ ((y_2.s.spentOf y_2.k kind.v != (0 : Int)) = true → cores.Ok ∧ x.Ok ∧
  kind.Ok ∧ (w.nil = true → w.len = (0 : Nat)) → False ∧ True ∧ ((0 : Nat) ≤ (0 : Nat) ∧ x.len = x.len ∧ ∀ (j : Nat), j < x.len → x.core j = x.core j ∧ x.kind j = x.kind j ∧ x.times j = x.times j ∧ x.wait j = x.wait j ∧
  True) ∧ ((0 : Nat) ≤ (0 : Nat) ∧ w.len = w.len ∧ ∀ (j : Nat), j < w.len → w.w j = w.w j) ∧ True) ∧ ((y_2.s.spentOf y_2.k kind.v != (0 : Int)) = false → (decide (kind.v ≤ (0 : Int)) = true → (((True ∧ True) ∧ y_2.k =
  y_2.k ∧ kind.v = kind.v ∧ True) ∧ ((2 : Nat) ≤ (2 : Nat) ∧ (True ∧ True ∧ (0 : Nat) = (0 : Nat) ∧ y_2.s.n = y_2.s.n ∧ y_2.s.n = y_2.s.n) ∧ y_2.s.st = y_2.s.st ∧ True) ∧ (y_2.s.n * (10 : Nat) ≤ y_2.s.n * (10 : Nat) ∧
  y_2.s.n = y_2.s.n ∧ ∀ (j : Nat), j < y_2.s.n → y_2.s.clk j = y_2.s.clk j ∧ ((9 : Nat) = (9 : Nat) ∧ ∀ (j_1 : Nat), j_1 < (9 : Nat) → y_2.s.by_ j j_1 = y_2.s.by_ j j_1) ∧ True) ∧ True) ∧ ((y_2.s.spentOf y_2.k kind.v != (0
  : Int)) = true → cores.Ok ∧ x.Ok ∧ kind.Ok ∧ (w.nil = true → w.len = (0 : Nat)) → False ∧ True ∧ ((0 : Nat) ≤ (0 : Nat) ∧ x.len = x.len ∧ ∀ (j : Nat), j < x.len → x.core j = x.core j ∧ x.kind j = x.kind j ∧ x.times j =
  x.times j ∧ x.wait j = x.wait j ∧ True) ∧ ((0 : Nat) ≤ (0 : Nat) ∧ w.len = w.len ∧ ∀ (j : Nat), j < w.len → w.w j = w.w j) ∧ True) ∧ ((y_2.s.spentOf y_2.k kind.v != (0 : Int)) = false → ((!decide (y_2.k < cores.v)) =
  true → (((True ∧ True) ∧ y_2.k = y_2.k ∧ True) ∧ ((2 : Nat) ≤ (2 : Nat) ∧ (True ∧ True ∧ (0 : Nat) = (0 : Nat) ∧ y_2.s.n = y_2.s.n ∧ y_2.s.n = y_2.s.n) ∧ y_2.s.st = y_2.s.st ∧ True) ∧ (y_2.s.n * (10 : Nat) ≤ y_2.s.n *
  (10 : Nat) ∧ y_2.s.n = y_2.s.n ∧ ∀ (j : Nat), j < y_2.s.n → y_2.s.clk j = y_2.s.clk j ∧ ((9 : Nat) = (9 : Nat) ∧ ∀ (j_1 : Nat), j_1 < (9 : Nat) → y_2.s.by_ j j_1 = y_2.s.by_ j j_1) ∧ True) ∧ True) ∧ ((y_2.s.clkOf y_2.k
  != (0 : Int)) = true → cores.Ok ∧ x.Ok ∧ kind.Ok ∧ (w.nil = true → w.len = (0 : Nat)) → False ∧ True ∧ ((0 : Nat) ≤ (0 : Nat) ∧ x.len = x.len ∧ ∀ (j : Nat), j < x.len → x.core j = x.core j ∧ x.kind j = x.kind j ∧ x.times
  j = x.times j ∧ x.wait j = x.wait j ∧ True) ∧ ((0 : Nat) ≤ (0 : Nat) ∧ w.len = w.len ∧ ∀ (j : Nat), j < w.len → w.w j = w.w j) ∧ True) ∧ ((y_2.s.clkOf y_2.k != (0 : Int)) = false → ∀ (v : Int), v = IntKind.i64.wrap
  (y_2.k + (1 : Int)) → ∃ (y : KA), (Inv cores.v y.s y.r.rs ∧ (-1 : Int) ≤ y.k ∧ y.k ≤ cores.v + (1 : Int)) ∧ ((cores.v = cores.v ∧ ((x.nil = true → x.nil = true) ∧ (x.nil = false → x.nil = false ∧ True ∧ True ∧ (0 : Nat)
  = (0 : Nat) ∧ x.len = x.len ∧ x.cap = x.cap)) ∧ kind.v = kind.v ∧ ((w.nil = true → w.nil = true) ∧ (w.nil = false → w.nil = false ∧ True ∧ True ∧ (0 : Nat) = (0 : Nat) ∧ w.len = w.len ∧ w.cap = w.cap)) ∧ (True ∧ True) ∧
  (True ∧ True) ∧ (↑g : Int) = (↑g : Int) ∧ v = y.k ∧ True) ∧ ((0 : Nat) ≤ (0 : Nat) ∧ x.len = x.len ∧ ∀ (j : Nat), j < x.len → x.core j = x.core j ∧ x.kind j = x.kind j ∧ x.times j = x.times j ∧ x.wait j = x.wait j ∧
  True) ∧ ((0 : Nat) ≤ (0 : Nat) ∧ w.len = w.len ∧ ∀ (j : Nat), j < w.len → w.w j = w.w j) ∧ ((2 : Nat) ≤ (2 : Nat) ∧ (True ∧ True ∧ (0 : Nat) = (0 : Nat) ∧ y_2.s.n = y.s.n ∧ y_2.s.n = y.s.n) ∧ y_2.s.st = y.s.st ∧ True) ∧
  (y.s.n * (10 : Nat) ≤ y_2.s.n * (10 : Nat) ∧ y.s.n = y_2.s.n ∧ ∀ (j : Nat), j < y_2.s.n → y_2.s.clk j = y.s.clk j ∧ ((9 : Nat) = (9 : Nat) ∧ ∀ (j_1 : Nat), j_1 < (9 : Nat) → y_2.s.by_ j j_1 = y.s.by_ j j_1) ∧ True) ∧ ((3
  : Nat) ≤ (3 : Nat) ∧ y_2.r.cores = y.r.cores ∧ True ∧ y_2.r.st = y.r.st ∧ True) ∧ True) ∧ (icKA x w cores.v kind.v g).μ y < (icKA x w cores.v kind.v g).μ y_2)) ∧ ((!decide (y_2.k < cores.v)) = false → ∀ (v : Int), v =
  IntKind.i64.wrap (y_2.k + (1 : Int)) → ∃ (y : KA), (Inv cores.v y.s y.r.rs ∧ (-1 : Int) ≤ y.k ∧ y.k ≤ cores.v + (1 : Int)) ∧ ((cores.v = cores.v ∧ ((x.nil = true → x.nil = true) ∧ (x.nil = false → x.nil = false ∧ True ∧
  True ∧ (0 : Nat) = (0 : Nat) ∧ x.len = x.len ∧ x.cap = x.cap)) ∧ kind.v = kind.v ∧ ((w.nil = true → w.nil = true) ∧ (w.nil = false → w.nil = false ∧ True ∧ True ∧ (0 : Nat) = (0 : Nat) ∧ w.len = w.len ∧ w.cap = w.cap)) ∧
  (True ∧ True) ∧ (True ∧ True) ∧ (↑g : Int) = (↑g : Int) ∧ v = y.k ∧ True) ∧ ((0 : Nat) ≤ (0 : Nat) ∧ x.len = x.len ∧ ∀ (j : Nat), j < x.len → x.core j = x.core j ∧ x.kind j = x.kind j ∧ x.times j = x.times j ∧ x.wait j =
  x.wait j ∧ True) ∧ ((0 : Nat) ≤ (0 : Nat) ∧ w.len = w.len ∧ ∀ (j : Nat), j < w.len → w.w j = w.w j) ∧ ((2 : Nat) ≤ (2 : Nat) ∧ (True ∧ True ∧ (0 : Nat) = (0 : Nat) ∧ y_2.s.n = y.s.n ∧ y_2.s.n = y.s.n) ∧ y_2.s.st = y.s.st
  ∧ True) ∧ (y.s.n * (10 : Nat) ≤ y_2.s.n * (10 : Nat) ∧ y.s.n = y_2.s.n ∧ ∀ (j : Nat), j < y_2.s.n → y_2.s.clk j = y.s.clk j ∧ ((9 : Nat) = (9 : Nat) ∧ ∀ (j_1 : Nat), j_1 < (9 : Nat) → y_2.s.by_ j j_1 = y.s.by_ j j_1) ∧
  True) ∧ ((3 : Nat) ≤ (3 : Nat) ∧ y_2.r.cores = y.r.cores ∧ True ∧ y_2.r.st = y.r.st ∧ True) ∧ True) ∧ (icKA x w cores.v kind.v g).μ y < (icKA x w cores.v kind.v g).μ y_2))) ∧ (decide (kind.v ≤ (0 : Int)) = false →
  ((!decide (y_2.k < cores.v)) = true → (((True ∧ True) ∧ y_2.k = y_2.k ∧ True) ∧ ((2 : Nat) ≤ (2 : Nat) ∧ (True ∧ True ∧ (0 : Nat) = (0 : Nat) ∧ y_2.s.n = y_2.s.n ∧ y_2.s.n = y_2.s.n) ∧ y_2.s.st = y_2.s.st ∧ True) ∧
  (y_2.s.n * (10 : Nat) ≤ y_2.s.n * (10 : Nat) ∧ y_2.s.n = y_2.s.n ∧ ∀ (j : Nat), j < y_2.s.n → y_2.s.clk j = y_2.s.clk j ∧ ((9 : Nat) = (9 : Nat) ∧ ∀ (j_1 : Nat), j_1 < (9 : Nat) → y_2.s.by_ j j_1 = y_2.s.by_ j j_1) ∧
  True) ∧ True) ∧ ((y_2.s.clkOf y_2.k != (0 : Int)) = true → cores.Ok ∧ x.Ok ∧ kind.Ok ∧ (w.nil = true → w.len = (0 : Nat)) → False ∧ True ∧ ((0 : Nat) ≤ (0 : Nat) ∧ x.len = x.len ∧ ∀ (j : Nat), j < x.len → x.core j =
  x.core j ∧ x.kind j = x.kind j ∧ x.times j = x.times j ∧ x.wait j = x.wait j ∧ True) ∧ ((0 : Nat) ≤ (0 : Nat) ∧ w.len = w.len ∧ ∀ (j : Nat), j < w.len → w.w j = w.w j) ∧ True) ∧ ((y_2.s.clkOf y_2.k != (0 : Int)) = false
  → ∀ (v : Int), v = IntKind.i64.wrap (y_2.k + (1 : Int)) → ∃ (y : KA), (Inv cores.v y.s y.r.rs ∧ (-1 : Int) ≤ y.k ∧ y.k ≤ cores.v + (1 : Int)) ∧ ((cores.v = cores.v ∧ ((x.nil = true → x.nil = true) ∧ (x.nil = false →
  x.nil = false ∧ True ∧ True ∧ (0 : Nat) = (0 : Nat) ∧ x.len = x.len ∧ x.cap = x.cap)) ∧ kind.v = kind.v ∧ ((w.nil = true → w.nil = true) ∧ (w.nil = false → w.nil = false ∧ True ∧ True ∧ (0 : Nat) = (0 : Nat) ∧ w.len =
  w.len ∧ w.cap = w.cap)) ∧ (True ∧ True) ∧ (True ∧ True) ∧ (↑g : Int) = (↑g : Int) ∧ v = y.k ∧ True) ∧ ((0 : Nat) ≤ (0 : Nat) ∧ x.len = x.len ∧ ∀ (j : Nat), j < x.len → x.core j = x.core j ∧ x.kind j = x.kind j ∧ x.times
  j = x.times j ∧ x.wait j = x.wait j ∧ True) ∧ ((0 : Nat) ≤ (0 : Nat) ∧ w.len = w.len ∧ ∀ (j : Nat), j < w.len → w.w j = w.w j) ∧ ((2 : Nat) ≤ (2 : Nat) ∧ (True ∧ True ∧ (0 : Nat) = (0 : Nat) ∧ y_2.s.n = y.s.n ∧ y_2.s.n =
  y.s.n) ∧ y_2.s.st = y.s.st ∧ True) ∧ (y.s.n * (10 : Nat) ≤ y_2.s.n * (10 : Nat) ∧ y.s.n = y_2.s.n ∧ ∀ (j : Nat), j < y_2.s.n → y_2.s.clk j = y.s.clk j ∧ ((9 : Nat) = (9 : Nat) ∧ ∀ (j_1 : Nat), j_1 < (9 : Nat) → y_2.s.by_
  j j_1 = y.s.by_ j j_1) ∧ True) ∧ ((3 : Nat) ≤ (3 : Nat) ∧ y_2.r.cores = y.r.cores ∧ True ∧ y_2.r.st = y.r.st ∧ True) ∧ True) ∧ (icKA x w cores.v kind.v g).μ y < (icKA x w cores.v kind.v g).μ y_2)) ∧ ((!decide (y_2.k <
  cores.v)) = false → ∀ (v : Int), v = IntKind.i64.wrap (y_2.k + (1 : Int)) → ∃ (y : KA), (Inv cores.v y.s y.r.rs ∧ (-1 : Int) ≤ y.k ∧ y.k ≤ cores.v + (1 : Int)) ∧ ((cores.v = cores.v ∧ ((x.nil = true → x.nil = true) ∧
  (x.nil = false → x.nil = false ∧ True ∧ True ∧ (0 : Nat) = (0 : Nat) ∧ x.len = x.len ∧ x.cap = x.cap)) ∧ kind.v = kind.v ∧ ((w.nil = true → w.nil = true) ∧ (w.nil = false → w.nil = false ∧ True ∧ True ∧ (0 : Nat) = (0 :
  Nat) ∧ w.len = w.len ∧ w.cap = w.cap)) ∧ (True ∧ True) ∧ (True ∧ True) ∧ (↑g : Int) = (↑g : Int) ∧ v = y.k ∧ True) ∧ ((0 : Nat) ≤ (0 : Nat) ∧ x.len = x.len ∧ ∀ (j : Nat), j < x.len → x.core j = x.core j ∧ x.kind j =
  x.kind j ∧ x.times j = x.times j ∧ x.wait j = x.wait j ∧ True) ∧ ((0 : Nat) ≤ (0 : Nat) ∧ w.len = w.len ∧ ∀ (j : Nat), j < w.len → w.w j = w.w j) ∧ ((2 : Nat) ≤ (2 : Nat) ∧ (True ∧ True ∧ (0 : Nat) = (0 : Nat) ∧ y_2.s.n
  = y.s.n ∧ y_2.s.n = y.s.n) ∧ y_2.s.st = y.s.st ∧ True) ∧ (y.s.n * (10 : Nat) ≤ y_2.s.n * (10 : Nat) ∧ y.s.n = y_2.s.n ∧ ∀ (j : Nat), j < y_2.s.n → y_2.s.clk j = y.s.clk j ∧ ((9 : Nat) = (9 : Nat) ∧ ∀ (j_1 : Nat), j_1 <
  (9 : Nat) → y_2.s.by_ j j_1 = y.s.by_ j j_1) ∧ True) ∧ ((3 : Nat) ≤ (3 : Nat) ∧ y_2.r.cores = y.r.cores ∧ True ∧ y_2.r.st = y.r.st ∧ True) ∧ True) ∧ (icKA x w cores.v kind.v g).μ y < (icKA x w cores.v kind.v g).μ y_2))))
  ∧ (decide (kind.v > (0 : Int)) = false → (decide (kind.v ≤ (0 : Int)) = true → (((True ∧ True) ∧ y_2.k = y_2.k ∧ kind.v = kind.v ∧ True) ∧ ((2 : Nat) ≤ (2 : Nat) ∧ (True ∧ True ∧ (0 : Nat) = (0 : Nat) ∧ y_2.s.n = y_2.s.n
  ∧ y_2.s.n = y_2.s.n) ∧ y_2.s.st = y_2.s.st ∧ True) ∧ (y_2.s.n * (10 : Nat) ≤ y_2.s.n * (10 : Nat) ∧ y_2.s.n = y_2.s.n ∧ ∀ (j : Nat), j < y_2.s.n → y_2.s.clk j = y_2.s.clk j ∧ ((9 : Nat) = (9 : Nat) ∧ ∀ (j_1 : Nat), j_1 <
  (9 : Nat) → y_2.s.by_ j j_1 = y_2.s.by_ j j_1) ∧ True) ∧ True) ∧ ((y_2.s.spentOf y_2.k kind.v != (0 : Int)) = true → cores.Ok ∧ x.Ok ∧ kind.Ok ∧ (w.nil = true → w.len = (0 : Nat)) → False ∧ True ∧ ((0 : Nat) ≤ (0 : Nat)
  ∧ x.len = x.len ∧ ∀ (j : Nat), j < x.len → x.core j = x.core j ∧ x.kind j = x.kind j ∧ x.times j = x.times j ∧ x.wait j = x.wait j ∧ True) ∧ ((0 : Nat) ≤ (0 : Nat) ∧ w.len = w.len ∧ ∀ (j : Nat), j < w.len → w.w j = w.w
  j) ∧ True) ∧ ((y_2.s.spentOf y_2.k kind.v != (0 : Int)) = false → ((!decide (y_2.k < cores.v)) = true → (((True ∧ True) ∧ y_2.k = y_2.k ∧ True) ∧ ((2 : Nat) ≤ (2 : Nat) ∧ (True ∧ True ∧ (0 : Nat) = (0 : Nat) ∧ y_2.s.n =
  y_2.s.n ∧ y_2.s.n = y_2.s.n) ∧ y_2.s.st = y_2.s.st ∧ True) ∧ (y_2.s.n * (10 : Nat) ≤ y_2.s.n * (10 : Nat) ∧ y_2.s.n = y_2.s.n ∧ ∀ (j : Nat), j < y_2.s.n → y_2.s.clk j = y_2.s.clk j ∧ ((9 : Nat) = (9 : Nat) ∧ ∀ (j_1 :
  Nat), j_1 < (9 : Nat) → y_2.s.by_ j j_1 = y_2.s.by_ j j_1) ∧ True) ∧ True) ∧ ((y_2.s.clkOf y_2.k != (0 : Int)) = true → cores.Ok ∧ x.Ok ∧ kind.Ok ∧ (w.nil = true → w.len = (0 : Nat)) → False ∧ True ∧ ((0 : Nat) ≤ (0 :
  Nat) ∧ x.len = x.len ∧ ∀ (j : Nat), j < x.len → x.core j = x.core j ∧ x.kind j = x.kind j ∧ x.times j = x.times j ∧ x.wait j = x.wait j ∧ True) ∧ ((0 : Nat) ≤ (0 : Nat) ∧ w.len = w.len ∧ ∀ (j : Nat), j < w.len → w.w j =
  w.w j) ∧ True) ∧ ((y_2.s.clkOf y_2.k != (0 : Int)) = false → ∀ (v : Int), v = IntKind.i64.wrap (y_2.k + (1 : Int)) → ∃ (y : KA), (Inv cores.v y.s y.r.rs ∧ (-1 : Int) ≤ y.k ∧ y.k ≤ cores.v + (1 : Int)) ∧ ((cores.v =
  cores.v ∧ ((x.nil = true → x.nil = true) ∧ (x.nil = false → x.nil = false ∧ True ∧ True ∧ (0 : Nat) = (0 : Nat) ∧ x.len = x.len ∧ x.cap = x.cap)) ∧ kind.v = kind.v ∧ ((w.nil = true → w.nil = true) ∧ (w.nil = false →
  w.nil = false ∧ True ∧ True ∧ (0 : Nat) = (0 : Nat) ∧ w.len = w.len ∧ w.cap = w.cap)) ∧ (True ∧ True) ∧ (True ∧ True) ∧ (↑g : Int) = (↑g : Int) ∧ v = y.k ∧ True) ∧ ((0 : Nat) ≤ (0 : Nat) ∧ x.len = x.len ∧ ∀ (j : Nat), j
  < x.len → x.core j = x.core j ∧ x.kind j = x.kind j ∧ x.times j = x.times j ∧ x.wait j = x.wait j ∧ True) ∧ ((0 : Nat) ≤ (0 : Nat) ∧ w.len = w.len ∧ ∀ (j : Nat), j < w.len → w.w j = w.w j) ∧ ((2 : Nat) ≤ (2 : Nat) ∧
  (True ∧ True ∧ (0 : Nat) = (0 : Nat) ∧ y_2.s.n = y.s.n ∧ y_2.s.n = y.s.n) ∧ y_2.s.st = y.s.st ∧ True) ∧ (y.s.n * (10 : Nat) ≤ y_2.s.n * (10 : Nat) ∧ y.s.n = y_2.s.n ∧ ∀ (j : Nat), j < y_2.s.n → y_2.s.clk j = y.s.clk j ∧
  ((9 : Nat) = (9 : Nat) ∧ ∀ (j_1 : Nat), j_1 < (9 : Nat) → y_2.s.by_ j j_1 = y.s.by_ j j_1) ∧ True) ∧ ((3 : Nat) ≤ (3 : Nat) ∧ y_2.r.cores = y.r.cores ∧ True ∧ y_2.r.st = y.r.st ∧ True) ∧ True) ∧ (icKA x w cores.v kind.v
  g).μ y < (icKA x w cores.v kind.v g).μ y_2)) ∧ ((!decide (y_2.k < cores.v)) = false → ∀ (v : Int), v = IntKind.i64.wrap (y_2.k + (1 : Int)) → ∃ (y : KA), (Inv cores.v y.s y.r.rs ∧ (-1 : Int) ≤ y.k ∧ y.k ≤ cores.v + (1 :
  Int)) ∧ ((cores.v = cores.v ∧ ((x.nil = true → x.nil = true) ∧ (x.nil = false → x.nil = false ∧ True ∧ True ∧ (0 : Nat) = (0 : Nat) ∧ x.len = x.len ∧ x.cap = x.cap)) ∧ kind.v = kind.v ∧ ((w.nil = true → w.nil = true) ∧
  (w.nil = false → w.nil = false ∧ True ∧ True ∧ (0 : Nat) = (0 : Nat) ∧ w.len = w.len ∧ w.cap = w.cap)) ∧ (True ∧ True) ∧ (True ∧ True) ∧ (↑g : Int) = (↑g : Int) ∧ v = y.k ∧ True) ∧ ((0 : Nat) ≤ (0 : Nat) ∧ x.len = x.len
  ∧ ∀ (j : Nat), j < x.len → x.core j = x.core j ∧ x.kind j = x.kind j ∧ x.times j = x.times j ∧ x.wait j = x.wait j ∧ True) ∧ ((0 : Nat) ≤ (0 : Nat) ∧ w.len = w.len ∧ ∀ (j : Nat), j < w.len → w.w j = w.w j) ∧ ((2 : Nat) ≤
  (2 : Nat) ∧ (True ∧ True ∧ (0 : Nat) = (0 : Nat) ∧ y_2.s.n = y.s.n ∧ y_2.s.n = y.s.n) ∧ y_2.s.st = y.s.st ∧ True) ∧ (y.s.n * (10 : Nat) ≤ y_2.s.n * (10 : Nat) ∧ y.s.n = y_2.s.n ∧ ∀ (j : Nat), j < y_2.s.n → y_2.s.clk j =
  y.s.clk j ∧ ((9 : Nat) = (9 : Nat) ∧ ∀ (j_1 : Nat), j_1 < (9 : Nat) → y_2.s.by_ j j_1 = y.s.by_ j j_1) ∧ True) ∧ ((3 : Nat) ≤ (3 : Nat) ∧ y_2.r.cores = y.r.cores ∧ True ∧ y_2.r.st = y.r.st ∧ True) ∧ True) ∧ (icKA x w
  cores.v kind.v g).μ y < (icKA x w cores.v kind.v g).μ y_2))) ∧ (decide (kind.v ≤ (0 : Int)) = false → ((!decide (y_2.k < cores.v)) = true → (((True ∧ True) ∧ y_2.k = y_2.k ∧ True) ∧ ((2 : Nat) ≤ (2 : Nat) ∧ (True ∧ True
  ∧ (0 : Nat) = (0 : Nat) ∧ y_2.s.n = y_2.s.n ∧ y_2.s.n = y_2.s.n) ∧ y_2.s.st = y_2.s.st ∧ True) ∧ (y_2.s.n * (10 : Nat) ≤ y_2.s.n * (10 : Nat) ∧ y_2.s.n = y_2.s.n ∧ ∀ (j : Nat), j < y_2.s.n → y_2.s.clk j = y_2.s.clk j ∧
  ((9 : Nat) = (9 : Nat) ∧ ∀ (j_1 : Nat), j_1 < (9 : Nat) → y_2.s.by_ j j_1 = y_2.s.by_ j j_1) ∧ True) ∧ True) ∧ ((y_2.s.clkOf y_2.k != (0 : Int)) = true → cores.Ok ∧ x.Ok ∧ kind.Ok ∧ (w.nil = true → w.len = (0 : Nat)) →
  False ∧ True ∧ ((0 : Nat) ≤ (0 : Nat) ∧ x.len = x.len ∧ ∀ (j : Nat), j < x.len → x.core j = x.core j ∧ x.kind j = x.kind j ∧ x.times j = x.times j ∧ x.wait j = x.wait j ∧ True) ∧ ((0 : Nat) ≤ (0 : Nat) ∧ w.len = w.len ∧
  ∀ (j : Nat), j < w.len → w.w j = w.w j) ∧ True) ∧ ((y_2.s.clkOf y_2.k != (0 : Int)) = false → ∀ (v : Int), v = IntKind.i64.wrap (y_2.k + (1 : Int)) → ∃ (y : KA), (Inv cores.v y.s y.r.rs ∧ (-1 : Int) ≤ y.k ∧ y.k ≤ cores.v
  + (1 : Int)) ∧ ((cores.v = cores.v ∧ ((x.nil = true → x.nil = true) ∧ (x.nil = false → x.nil = false ∧ True ∧ True ∧ (0 : Nat) = (0 : Nat) ∧ x.len = x.len ∧ x.cap = x.cap)) ∧ kind.v = kind.v ∧ ((w.nil = true → w.nil =
  true) ∧ (w.nil = false → w.nil = false ∧ True ∧ True ∧ (0 : Nat) = (0 : Nat) ∧ w.len = w.len ∧ w.cap = w.cap)) ∧ (True ∧ True) ∧ (True ∧ True) ∧ (↑g : Int) = (↑g : Int) ∧ v = y.k ∧ True) ∧ ((0 : Nat) ≤ (0 : Nat) ∧ x.len
  = x.len ∧ ∀ (j : Nat), j < x.len → x.core j = x.core j ∧ x.kind j = x.kind j ∧ x.times j = x.times j ∧ x.wait j = x.wait j ∧ True) ∧ ((0 : Nat) ≤ (0 : Nat) ∧ w.len = w.len ∧ ∀ (j : Nat), j < w.len → w.w j = w.w j) ∧ ((2
  : Nat) ≤ (2 : Nat) ∧ (True ∧ True ∧ (0 : Nat) = (0 : Nat) ∧ y_2.s.n = y.s.n ∧ y_2.s.n = y.s.n) ∧ y_2.s.st = y.s.st ∧ True) ∧ (y.s.n * (10 : Nat) ≤ y_2.s.n * (10 : Nat) ∧ y.s.n = y_2.s.n ∧ ∀ (j : Nat), j < y_2.s.n →
  y_2.s.clk j = y.s.clk j ∧ ((9 : Nat) = (9 : Nat) ∧ ∀ (j_1 : Nat), j_1 < (9 : Nat) → y_2.s.by_ j j_1 = y.s.by_ j j_1) ∧ True) ∧ ((3 : Nat) ≤ (3 : Nat) ∧ y_2.r.cores = y.r.cores ∧ True ∧ y_2.r.st = y.r.st ∧ True) ∧ True) ∧
  (icKA x w cores.v kind.v g).μ y < (icKA x w cores.v kind.v g).μ y_2)) ∧ ((!decide (y_2.k < cores.v)) = false → ∀ (v : Int), v = IntKind.i64.wrap (y_2.k + (1 : Int)) → ∃ (y : KA), (Inv cores.v y.s y.r.rs ∧ (-1 : Int) ≤
  y.k ∧ y.k ≤ cores.v + (1 : Int)) ∧ ((cores.v = cores.v ∧ ((x.nil = true → x.nil = true) ∧ (x.nil = false → x.nil = false ∧ True ∧ True ∧ (0 : Nat) = (0 : Nat) ∧ x.len = x.len ∧ x.cap = x.cap)) ∧ kind.v = kind.v ∧ ((w.nil
  = true → w.nil = true) ∧ (w.nil = false → w.nil = false ∧ True ∧ True ∧ (0 : Nat) = (0 : Nat) ∧ w.len = w.len ∧ w.cap = w.cap)) ∧ (True ∧ True) ∧ (True ∧ True) ∧ (↑g : Int) = (↑g : Int) ∧ v = y.k ∧ True) ∧ ((0 : Nat) ≤
  (0 : Nat) ∧ x.len = x.len ∧ ∀ (j : Nat), j < x.len → x.core j = x.core j ∧ x.kind j = x.kind j ∧ x.times j = x.times j ∧ x.wait j = x.wait j ∧ True) ∧ ((0 : Nat) ≤ (0 : Nat) ∧ w.len = w.len ∧ ∀ (j : Nat), j < w.len → w.w
  j = w.w j) ∧ ((2 : Nat) ≤ (2 : Nat) ∧ (True ∧ True ∧ (0 : Nat) = (0 : Nat) ∧ y_2.s.n = y.s.n ∧ y_2.s.n = y.s.n) ∧ y_2.s.st = y.s.st ∧ True) ∧ (y.s.n * (10 : Nat) ≤ y_2.s.n * (10 : Nat) ∧ y.s.n = y_2.s.n ∧ ∀ (j : Nat), j
  < y_2.s.n → y_2.s.clk j = y.s.clk j ∧ ((9 : Nat) = (9 : Nat) ∧ ∀ (j_1 : Nat), j_1 < (9 : Nat) → y_2.s.by_ j j_1 = y.s.by_ j j_1) ∧ True) ∧ ((3 : Nat) ≤ (3 : Nat) ∧ y_2.r.cores = y.r.cores ∧ True ∧ y_2.r.st = y.r.st ∧
  True) ∧ True) ∧ (icKA x w cores.v kind.v g).μ y < (icKA x w cores.v kind.v g).μ y_2)))))) ∧ (decide (y_2.k ≥ (0 : Int)) = false → (((True ∧ True) ∧ y_2.k = y_2.k ∧ True) ∧ ((2 : Nat) ≤ (2 : Nat) ∧ (True ∧ True ∧ (0 :
  Nat) = (0 : Nat) ∧ y_2.s.n = y_2.s.n ∧ y_2.s.n = y_2.s.n) ∧ y_2.s.st = y_2.s.st ∧ True) ∧ (y_2.s.n * (10 : Nat) ≤ y_2.s.n * (10 : Nat) ∧ y_2.s.n = y_2.s.n ∧ ∀ (j : Nat), j < y_2.s.n → y_2.s.clk j = y_2.s.clk j ∧ ((9 :
  Nat) = (9 : Nat) ∧ ∀ (j_1 : Nat), j_1 < (9 : Nat) → y_2.s.by_ j j_1 = y_2.s.by_ j j_1) ∧ True) ∧ True) ∧ (((True ∧ True) ∧ y_2.k = y_2.k ∧ True) ∧ ((3 : Nat) ≤ (3 : Nat) ∧ y_2.r.cores = y_2.r.cores ∧ True ∧ y_2.r.st =
  y_2.r.st ∧ True) ∧ True) ∧ ((y_2.s.clkOf y_2.k != (0 : Int)) = true → cores.Ok ∧ x.Ok ∧ kind.Ok ∧ (w.nil = true → w.len = (0 : Nat)) → False ∧ True ∧ ((0 : Nat) ≤ (0 : Nat) ∧ x.len = x.len ∧ ∀ (j : Nat), j < x.len →
  x.core j = x.core j ∧ x.kind j = x.kind j ∧ x.times j = x.times j ∧ x.wait j = x.wait j ∧ True) ∧ ((0 : Nat) ≤ (0 : Nat) ∧ w.len = w.len ∧ ∀ (j : Nat), j < w.len → w.w j = w.w j) ∧ True) ∧ ((y_2.s.clkOf y_2.k != (0 :
  Int)) = false → (((True ∧ True) ∧ y_2.k = y_2.k ∧ True) ∧ ((2 : Nat) ≤ (2 : Nat) ∧ (True ∧ True ∧ (0 : Nat) = (0 : Nat) ∧ y_2.s.n = y_2.s.n ∧ y_2.s.n = y_2.s.n) ∧ y_2.s.st = y_2.s.st ∧ True) ∧ (y_2.s.n * (10 : Nat) ≤
  y_2.s.n * (10 : Nat) ∧ y_2.s.n = y_2.s.n ∧ ∀ (j : Nat), j < y_2.s.n → y_2.s.clk j = y_2.s.clk j ∧ ((9 : Nat) = (9 : Nat) ∧ ∀ (j_1 : Nat), j_1 < (9 : Nat) → y_2.s.by_ j j_1 = y_2.s.by_ j j_1) ∧ True) ∧ True) ∧ (((True ∧
  True) ∧ y_2.k = y_2.k ∧ (0 : Int) = (0 : Int) ∧ True) ∧ ((3 : Nat) ≤ (3 : Nat) ∧ y_2.r.cores = y_2.r.cores ∧ True ∧ y_2.r.st = y_2.r.st ∧ True) ∧ True) ∧ ((y_2.s.idleOf y_2.k != (0 : Int)) = true → cores.Ok ∧ x.Ok ∧
  kind.Ok ∧ (w.nil = true → w.len = (0 : Nat)) → False ∧ True ∧ ((0 : Nat) ≤ (0 : Nat) ∧ x.len = x.len ∧ ∀ (j : Nat), j < x.len → x.core j = x.core j ∧ x.kind j = x.kind j ∧ x.times j = x.times j ∧ x.wait j = x.wait j ∧
  True) ∧ ((0 : Nat) ≤ (0 : Nat) ∧ w.len = w.len ∧ ∀ (j : Nat), j < w.len → w.w j = w.w j) ∧ True) ∧ ((y_2.s.idleOf y_2.k != (0 : Int)) = false → (decide (kind.v > (0 : Int)) = true → (((True ∧ True) ∧ y_2.k = y_2.k ∧
  kind.v = kind.v ∧ True) ∧ ((2 : Nat) ≤ (2 : Nat) ∧ (True ∧ True ∧ (0 : Nat) = (0 : Nat) ∧ y_2.s.n = y_2.s.n ∧ y_2.s.n = y_2.s.n) ∧ y_2.s.st = y_2.s.st ∧ True) ∧ (y_2.s.n * (10 : Nat) ≤ y_2.s.n * (10 : Nat) ∧ y_2.s.n =
  y_2.s.n ∧ ∀ (j : Nat), j < y_2.s.n → y_2.s.clk j = y_2.s.clk j ∧ ((9 : Nat) = (9 : Nat) ∧ ∀ (j_1 : Nat), j_1 < (9 : Nat) → y_2.s.by_ j j_1 = y_2.s.by_ j j_1) ∧ True) ∧ True) ∧ (((True ∧ True) ∧ y_2.k = y_2.k ∧ kind.v =
  kind.v ∧ True) ∧ ((3 : Nat) ≤ (3 : Nat) ∧ y_2.r.cores = y_2.r.cores ∧ True ∧ y_2.r.st = y_2.r.st ∧ True) ∧ True) ∧ ((y_2.s.spentOf y_2.k kind.v != (0 : Int)) = true → cores.Ok ∧ x.Ok ∧ kind.Ok ∧ (w.nil = true → w.len =
  (0 : Nat)) → False ∧ True ∧ ((0 : Nat) ≤ (0 : Nat) ∧ x.len = x.len ∧ ∀ (j : Nat), j < x.len → x.core j = x.core j ∧ x.kind j = x.kind j ∧ x.times j = x.times j ∧ x.wait j = x.wait j ∧ True) ∧ ((0 : Nat) ≤ (0 : Nat) ∧
  w.len = w.len ∧ ∀ (j : Nat), j < w.len → w.w j = w.w j) ∧ True) ∧ ((y_2.s.spentOf y_2.k kind.v != (0 : Int)) = false → (decide (kind.v ≤ (0 : Int)) = true → (((True ∧ True) ∧ y_2.k = y_2.k ∧ kind.v = kind.v ∧ True) ∧ ((2
  : Nat) ≤ (2 : Nat) ∧ (True ∧ True ∧ (0 : Nat) = (0 : Nat) ∧ y_2.s.n = y_2.s.n ∧ y_2.s.n = y_2.s.n) ∧ y_2.s.st = y_2.s.st ∧ True) ∧ (y_2.s.n * (10 : Nat) ≤ y_2.s.n * (10 : Nat) ∧ y_2.s.n = y_2.s.n ∧ ∀ (j : Nat), j <
  y_2.s.n → y_2.s.clk j = y_2.s.clk j ∧ ((9 : Nat) = (9 : Nat) ∧ ∀ (j_1 : Nat), j_1 < (9 : Nat) → y_2.s.by_ j j_1 = y_2.s.by_ j j_1) ∧ True) ∧ True) ∧ ((y_2.s.spentOf y_2.k kind.v != (0 : Int)) = true → cores.Ok ∧ x.Ok ∧
  kind.Ok ∧ (w.nil = true → w.len = (0 : Nat)) → False ∧ True ∧ ((0 : Nat) ≤ (0 : Nat) ∧ x.len = x.len ∧ ∀ (j : Nat), j < x.len → x.core j = x.core j ∧ x.kind j = x.kind j ∧ x.times j = x.times j ∧ x.wait j = x.wait j ∧
  True) ∧ ((0 : Nat) ≤ (0 : Nat) ∧ w.len = w.len ∧ ∀ (j : Nat), j < w.len → w.w j = w.w j) ∧ True) ∧ ((y_2.s.spentOf y_2.k kind.v != (0 : Int)) = false → (((True ∧ True) ∧ y_2.k = y_2.k ∧ True) ∧ ((2 : Nat) ≤ (2 : Nat) ∧
  (True ∧ True ∧ (0 : Nat) = (0 : Nat) ∧ y_2.s.n = y_2.s.n ∧ y_2.s.n = y_2.s.n) ∧ y_2.s.st = y_2.s.st ∧ True) ∧ (y_2.s.n * (10 : Nat) ≤ y_2.s.n * (10 : Nat) ∧ y_2.s.n = y_2.s.n ∧ ∀ (j : Nat), j < y_2.s.n → y_2.s.clk j =
  y_2.s.clk j ∧ ((9 : Nat) = (9 : Nat) ∧ ∀ (j_1 : Nat), j_1 < (9 : Nat) → y_2.s.by_ j j_1 = y_2.s.by_ j j_1) ∧ True) ∧ True) ∧ ((y_2.s.clkOf y_2.k != (0 : Int)) = true → cores.Ok ∧ x.Ok ∧ kind.Ok ∧ (w.nil = true → w.len =
  (0 : Nat)) → False ∧ True ∧ ((0 : Nat) ≤ (0 : Nat) ∧ x.len = x.len ∧ ∀ (j : Nat), j < x.len → x.core j = x.core j ∧ x.kind j = x.kind j ∧ x.times j = x.times j ∧ x.wait j = x.wait j ∧ True) ∧ ((0 : Nat) ≤ (0 : Nat) ∧
  w.len = w.len ∧ ∀ (j : Nat), j < w.len → w.w j = w.w j) ∧ True) ∧ ((y_2.s.clkOf y_2.k != (0 : Int)) = false → ∀ (v : Int), v = IntKind.i64.wrap (y_2.k + (1 : Int)) → ∃ (y : KA), (Inv cores.v y.s y.r.rs ∧ (-1 : Int) ≤ y.k
  ∧ y.k ≤ cores.v + (1 : Int)) ∧ ((cores.v = cores.v ∧ ((x.nil = true → x.nil = true) ∧ (x.nil = false → x.nil = false ∧ True ∧ True ∧ (0 : Nat) = (0 : Nat) ∧ x.len = x.len ∧ x.cap = x.cap)) ∧ kind.v = kind.v ∧ ((w.nil =
  true → w.nil = true) ∧ (w.nil = false → w.nil = false ∧ True ∧ True ∧ (0 : Nat) = (0 : Nat) ∧ w.len = w.len ∧ w.cap = w.cap)) ∧ (True ∧ True) ∧ (True ∧ True) ∧ (↑g : Int) = (↑g : Int) ∧ v = y.k ∧ True) ∧ ((0 : Nat) ≤ (0
  : Nat) ∧ x.len = x.len ∧ ∀ (j : Nat), j < x.len → x.core j = x.core j ∧ x.kind j = x.kind j ∧ x.times j = x.times j ∧ x.wait j = x.wait j ∧ True) ∧ ((0 : Nat) ≤ (0 : Nat) ∧ w.len = w.len ∧ ∀ (j : Nat), j < w.len → w.w j
  = w.w j) ∧ ((2 : Nat) ≤ (2 : Nat) ∧ (True ∧ True ∧ (0 : Nat) = (0 : Nat) ∧ y_2.s.n = y.s.n ∧ y_2.s.n = y.s.n) ∧ y_2.s.st = y.s.st ∧ True) ∧ (y.s.n * (10 : Nat) ≤ y_2.s.n * (10 : Nat) ∧ y.s.n = y_2.s.n ∧ ∀ (j : Nat), j <
  y_2.s.n → y_2.s.clk j = y.s.clk j ∧ ((9 : Nat) = (9 : Nat) ∧ ∀ (j_1 : Nat), j_1 < (9 : Nat) → y_2.s.by_ j j_1 = y.s.by_ j j_1) ∧ True) ∧ ((3 : Nat) ≤ (3 : Nat) ∧ y_2.r.cores = y.r.cores ∧ True ∧ y_2.r.st = y.r.st ∧ True)
  ∧ True) ∧ (icKA x w cores.v kind.v g).μ y < (icKA x w cores.v kind.v g).μ y_2))) ∧ (decide (kind.v ≤ (0 : Int)) = false → (((True ∧ True) ∧ y_2.k = y_2.k ∧ True) ∧ ((2 : Nat) ≤ (2 : Nat) ∧ (True ∧ True ∧ (0 : Nat) = (0 :
  Nat) ∧ y_2.s.n = y_2.s.n ∧ y_2.s.n = y_2.s.n) ∧ y_2.s.st = y_2.s.st ∧ True) ∧ (y_2.s.n * (10 : Nat) ≤ y_2.s.n * (10 : Nat) ∧ y_2.s.n = y_2.s.n ∧ ∀ (j : Nat), j < y_2.s.n → y_2.s.clk j = y_2.s.clk j ∧ ((9 : Nat) = (9 :
  Nat) ∧ ∀ (j_1 : Nat), j_1 < (9 : Nat) → y_2.s.by_ j j_1 = y_2.s.by_ j j_1) ∧ True) ∧ True) ∧ ((y_2.s.clkOf y_2.k != (0 : Int)) = true → cores.Ok ∧ x.Ok ∧ kind.Ok ∧ (w.nil = true → w.len = (0 : Nat)) → False ∧ True ∧ ((0
  : Nat) ≤ (0 : Nat) ∧ x.len = x.len ∧ ∀ (j : Nat), j < x.len → x.core j = x.core j ∧ x.kind j = x.kind j ∧ x.times j = x.times j ∧ x.wait j = x.wait j ∧ True) ∧ ((0 : Nat) ≤ (0 : Nat) ∧ w.len = w.len ∧ ∀ (j : Nat), j <
  w.len → w.w j = w.w j) ∧ True) ∧ ((y_2.s.clkOf y_2.k != (0 : Int)) = false → ∀ (v : Int), v = IntKind.i64.wrap (y_2.k + (1 : Int)) → ∃ (y : KA), (Inv cores.v y.s y.r.rs ∧ (-1 : Int) ≤ y.k ∧ y.k ≤ cores.v + (1 : Int)) ∧
  ((cores.v = cores.v ∧ ((x.nil = true → x.nil = true) ∧ (x.nil = false → x.nil = false ∧ True ∧ True ∧ (0 : Nat) = (0 : Nat) ∧ x.len = x.len ∧ x.cap = x.cap)) ∧ kind.v = kind.v ∧ ((w.nil = true → w.nil = true) ∧ (w.nil =
  false → w.nil = false ∧ True ∧ True ∧ (0 : Nat) = (0 : Nat) ∧ w.len = w.len ∧ w.cap = w.cap)) ∧ (True ∧ True) ∧ (True ∧ True) ∧ (↑g : Int) = (↑g : Int) ∧ v = y.k ∧ True) ∧ ((0 : Nat) ≤ (0 : Nat) ∧ x.len = x.len ∧ ∀ (j :
  Nat), j < x.len → x.core j = x.core j ∧ x.kind j = x.kind j ∧ x.times j = x.times j ∧ x.wait j = x.wait j ∧ True) ∧ ((0 : Nat) ≤ (0 : Nat) ∧ w.len = w.len ∧ ∀ (j : Nat), j < w.len → w.w j = w.w j) ∧ ((2 : Nat) ≤ (2 :
  Nat) ∧ (True ∧ True ∧ (0 : Nat) = (0 : Nat) ∧ y_2.s.n = y.s.n ∧ y_2.s.n = y.s.n) ∧ y_2.s.st = y.s.st ∧ True) ∧ (y.s.n * (10 : Nat) ≤ y_2.s.n * (10 : Nat) ∧ y.s.n = y_2.s.n ∧ ∀ (j : Nat), j < y_2.s.n → y_2.s.clk j =
  y.s.clk j ∧ ((9 : Nat) = (9 : Nat) ∧ ∀ (j_1 : Nat), j_1 < (9 : Nat) → y_2.s.by_ j j_1 = y.s.by_ j j_1) ∧ True) ∧ ((3 : Nat) ≤ (3 : Nat) ∧ y_2.r.cores = y.r.cores ∧ True ∧ y_2.r.st = y.r.st ∧ True) ∧ True) ∧ (icKA x w
  cores.v kind.v g).μ y < (icKA x w cores.v kind.v g).μ y_2)))) ∧ (decide (kind.v > (0 : Int)) = false → (decide (kind.v ≤ (0 : Int)) = true → (((True ∧ True) ∧ y_2.k = y_2.k ∧ kind.v = kind.v ∧ True) ∧ ((2 : Nat) ≤ (2 :
  Nat) ∧ (True ∧ True ∧ (0 : Nat) = (0 : Nat) ∧ y_2.s.n = y_2.s.n ∧ y_2.s.n = y_2.s.n) ∧ y_2.s.st = y_2.s.st ∧ True) ∧ (y_2.s.n * (10 : Nat) ≤ y_2.s.n * (10 : Nat) ∧ y_2.s.n = y_2.s.n ∧ ∀ (j : Nat), j < y_2.s.n → y_2.s.clk
  j = y_2.s.clk j ∧ ((9 : Nat) = (9 : Nat) ∧ ∀ (j_1 : Nat), j_1 < (9 : Nat) → y_2.s.by_ j j_1 = y_2.s.by_ j j_1) ∧ True) ∧ True) ∧ ((y_2.s.spentOf y_2.k kind.v != (0 : Int)) = true → cores.Ok ∧ x.Ok ∧ kind.Ok ∧ (w.nil =
  true → w.len = (0 : Nat)) → False ∧ True ∧ ((0 : Nat) ≤ (0 : Nat) ∧ x.len = x.len ∧ ∀ (j : Nat), j < x.len → x.core j = x.core j ∧ x.kind j = x.kind j ∧ x.times j = x.times j ∧ x.wait j = x.wait j ∧ True) ∧ ((0 : Nat) ≤
  (0 : Nat) ∧ w.len = w.len ∧ ∀ (j : Nat), j < w.len → w.w j = w.w j) ∧ True) ∧ ((y_2.s.spentOf y_2.k kind.v != (0 : Int)) = false → (((True ∧ True) ∧ y_2.k = y_2.k ∧ True) ∧ ((2 : Nat) ≤ (2 : Nat) ∧ (True ∧ True ∧ (0 :
  Nat) = (0 : Nat) ∧ y_2.s.n = y_2.s.n ∧ y_2.s.n = y_2.s.n) ∧ y_2.s.st = y_2.s.st ∧ True) ∧ (y_2.s.n * (10 : Nat) ≤ y_2.s.n * (10 : Nat) ∧ y_2.s.n = y_2.s.n ∧ ∀ (j : Nat), j < y_2.s.n → y_2.s.clk j = y_2.s.clk j ∧ ((9 :
  Nat) = (9 : Nat) ∧ ∀ (j_1 : Nat), j_1 < (9 : Nat) → y_2.s.by_ j j_1 = y_2.s.by_ j j_1) ∧ True) ∧ True) ∧ ((y_2.s.clkOf y_2.k != (0 : Int)) = true → cores.Ok ∧ x.Ok ∧ kind.Ok ∧ (w.nil = true → w.len = (0 : Nat)) → False ∧
  True ∧ ((0 : Nat) ≤ (0 : Nat) ∧ x.len = x.len ∧ ∀ (j : Nat), j < x.len → x.core j = x.core j ∧ x.kind j = x.kind j ∧ x.times j = x.times j ∧ x.wait j = x.wait j ∧ True) ∧ ((0 : Nat) ≤ (0 : Nat) ∧ w.len = w.len ∧ ∀ (j :
  Nat), j < w.len → w.w j = w.w j) ∧ True) ∧ ((y_2.s.clkOf y_2.k != (0 : Int)) = false → ∀ (v : Int), v = IntKind.i64.wrap (y_2.k + (1 : Int)) → ∃ (y : KA), (Inv cores.v y.s y.r.rs ∧ (-1 : Int) ≤ y.k ∧ y.k ≤ cores.v + (1 :
  Int)) ∧ ((cores.v = cores.v ∧ ((x.nil = true → x.nil = true) ∧ (x.nil = false → x.nil = false ∧ True ∧ True ∧ (0 : Nat) = (0 : Nat) ∧ x.len = x.len ∧ x.cap = x.cap)) ∧ kind.v = kind.v ∧ ((w.nil = true → w.nil = true) ∧
  (w.nil = false → w.nil = false ∧ True ∧ True ∧ (0 : Nat) = (0 : Nat) ∧ w.len = w.len ∧ w.cap = w.cap)) ∧ (True ∧ True) ∧ (True ∧ True) ∧ (↑g : Int) = (↑g : Int) ∧ v = y.k ∧ True) ∧ ((0 : Nat) ≤ (0 : Nat) ∧ x.len = x.len
  ∧ ∀ (j : Nat), j < x.len → x.core j = x.core j ∧ x.kind j = x.kind j ∧ x.times j = x.times j ∧ x.wait j = x.wait j ∧ True) ∧ ((0 : Nat) ≤ (0 : Nat) ∧ w.len = w.len ∧ ∀ (j : Nat), j < w.len → w.w j = w.w j) ∧ ((2 : Nat) ≤
  (2 : Nat) ∧ (True ∧ True ∧ (0 : Nat) = (0 : Nat) ∧ y_2.s.n = y.s.n ∧ y_2.s.n = y.s.n) ∧ y_2.s.st = y.s.st ∧ True) ∧ (y.s.n * (10 : Nat) ≤ y_2.s.n * (10 : Nat) ∧ y.s.n = y_2.s.n ∧ ∀ (j : Nat), j < y_2.s.n → y_2.s.clk j =
  y.s.clk j ∧ ((9 : Nat) = (9 : Nat) ∧ ∀ (j_1 : Nat), j_1 < (9 : Nat) → y_2.s.by_ j j_1 = y.s.by_ j j_1) ∧ True) ∧ ((3 : Nat) ≤ (3 : Nat) ∧ y_2.r.cores = y.r.cores ∧ True ∧ y_2.r.st = y.r.st ∧ True) ∧ True) ∧ (icKA x w
  cores.v kind.v g).μ y < (icKA x w cores.v kind.v g).μ y_2))) ∧ (decide (kind.v ≤ (0 : Int)) = false → (((True ∧ True) ∧ y_2.k = y_2.k ∧ True) ∧ ((2 : Nat) ≤ (2 : Nat) ∧ (True ∧ True ∧ (0 : Nat) = (0 : Nat) ∧ y_2.s.n =
  y_2.s.n ∧ y_2.s.n = y_2.s.n) ∧ y_2.s.st = y_2.s.st ∧ True) ∧ (y_2.s.n * (10 : Nat) ≤ y_2.s.n * (10 : Nat) ∧ y_2.s.n = y_2.s.n ∧ ∀ (j : Nat), j < y_2.s.n → y_2.s.clk j = y_2.s.clk j ∧ ((9 : Nat) = (9 : Nat) ∧ ∀ (j_1 :
  Nat), j_1 < (9 : Nat) → y_2.s.by_ j j_1 = y_2.s.by_ j j_1) ∧ True) ∧ True) ∧ ((y_2.s.clkOf y_2.k != (0 : Int)) = true → cores.Ok ∧ x.Ok ∧ kind.Ok ∧ (w.nil = true → w.len = (0 : Nat)) → False ∧ True ∧ ((0 : Nat) ≤ (0 :
  Nat) ∧ x.len = x.len ∧ ∀ (j : Nat), j < x.len → x.core j = x.core j ∧ x.kind j = x.kind j ∧ x.times j = x.times j ∧ x.wait j = x.wait j ∧ True) ∧ ((0 : Nat) ≤ (0 : Nat) ∧ w.len = w.len ∧ ∀ (j : Nat), j < w.len → w.w j =
  w.w j) ∧ True) ∧ ((y_2.s.clkOf y_2.k != (0 : Int)) = false → ∀ (v : Int), v = IntKind.i64.wrap (y_2.k + (1 : Int)) → ∃ (y : KA), (Inv cores.v y.s y.r.rs ∧ (-1 : Int) ≤ y.k ∧ y.k ≤ cores.v + (1 : Int)) ∧ ((cores.v =
  cores.v ∧ ((x.nil = true → x.nil = true) ∧ (x.nil = false → x.nil = false ∧ True ∧ True ∧ (0 : Nat) = (0 : Nat) ∧ x.len = x.len ∧ x.cap = x.cap)) ∧ kind.v = kind.v ∧ ((w.nil = true → w.nil = true) ∧ (w.nil = false →
  w.nil = false ∧ True ∧ True ∧ (0 : Nat) = (0 : Nat) ∧ w.len = w.len ∧ w.cap = w.cap)) ∧ (True ∧ True) ∧ (True ∧ True) ∧ (↑g : Int) = (↑g : Int) ∧ v = y.k ∧ True) ∧ ((0 : Nat) ≤ (0 : Nat) ∧ x.len = x.len ∧ ∀ (j : Nat), j
  < x.len → x.core j = x.core j ∧ x.kind j = x.kind j ∧ x.times j = x.times j ∧ x.wait j = x.wait j ∧ True) ∧ ((0 : Nat) ≤ (0 : Nat) ∧ w.len = w.len ∧ ∀ (j : Nat), j < w.len → w.w j = w.w j) ∧ ((2 : Nat) ≤ (2 : Nat) ∧
  (True ∧ True ∧ (0 : Nat) = (0 : Nat) ∧ y_2.s.n = y.s.n ∧ y_2.s.n = y.s.n) ∧ y_2.s.st = y.s.st ∧ True) ∧ (y.s.n * (10 : Nat) ≤ y_2.s.n * (10 : Nat) ∧ y.s.n = y_2.s.n ∧ ∀ (j : Nat), j < y_2.s.n → y_2.s.clk j = y.s.clk j ∧
  ((9 : Nat) = (9 : Nat) ∧ ∀ (j_1 : Nat), j_1 < (9 : Nat) → y_2.s.by_ j j_1 = y.s.by_ j j_1) ∧ True) ∧ ((3 : Nat) ≤ (3 : Nat) ∧ y_2.r.cores = y.r.cores ∧ True ∧ y_2.r.st = y.r.st ∧ True) ∧ True) ∧ (icKA x w cores.v kind.v
  g).μ y < (icKA x w cores.v kind.v g).μ y_2))))))) ∧ (decide (y_2.k ≤ cores.v) = false → ∀ (v : Int), v = IntKind.i64.wrap ((↑g : Int) + (1 : Int)) → (∃ (y_3 : IA), (y_3.i ≤ x.len ∧ Inv cores.v y_3.s y_3.r.rs) ∧ ((cores.v
  = cores.v ∧ ((x.nil = true → x.nil = true) ∧ (x.nil = false → x.nil = false ∧ True ∧ True ∧ (0 : Nat) = (0 : Nat) ∧ x.len = x.len ∧ x.cap = x.cap)) ∧ kind.v = kind.v ∧ ((w.nil = true → w.nil = true) ∧ (w.nil = false →
  w.nil = false ∧ True ∧ True ∧ (0 : Nat) = (0 : Nat) ∧ w.len = w.len ∧ w.cap = w.cap)) ∧ (True ∧ True) ∧ (True ∧ True) ∧ v = (↑y_3.i : Int) ∧ True) ∧ ((0 : Nat) ≤ (0 : Nat) ∧ x.len = x.len ∧ ∀ (j : Nat), j < x.len →
  x.core j = x.core j ∧ x.kind j = x.kind j ∧ x.times j = x.times j ∧ x.wait j = x.wait j ∧ True) ∧ ((0 : Nat) ≤ (0 : Nat) ∧ w.len = w.len ∧ ∀ (j : Nat), j < w.len → w.w j = w.w j) ∧ ((2 : Nat) ≤ (2 : Nat) ∧ (True ∧ True ∧
  (0 : Nat) = (0 : Nat) ∧ y_2.s.n = y_3.s.n ∧ y_2.s.n = y_3.s.n) ∧ y_2.s.st = y_3.s.st ∧ True) ∧ (y_3.s.n * (10 : Nat) ≤ y_2.s.n * (10 : Nat) ∧ y_3.s.n = y_2.s.n ∧ ∀ (j : Nat), j < y_2.s.n → y_2.s.clk j = y_3.s.clk j ∧ ((9
  : Nat) = (9 : Nat) ∧ ∀ (j_1 : Nat), j_1 < (9 : Nat) → y_2.s.by_ j j_1 = y_3.s.by_ j j_1) ∧ True) ∧ ((3 : Nat) ≤ (3 : Nat) ∧ y_2.r.cores = y_3.r.cores ∧ True ∧ y_2.r.st = y_3.r.st ∧ True) ∧ True) ∧ (icFA x w cores.v
  kind.v).μ y_3 < (icFA x w cores.v kind.v).μ y) ∨ ∃ (y_3 : IB), (y_3.i ≤ x.len ∧ Inv cores.v y_3.s y_3.r ∧ y_3.r.n ≤ y_3.i) ∧ False ∧ (icFB x w cores.v kind.v).μ y_3 < (icFA x w cores.v kind.v).μ y))) ∧ ∀ (y_1 : IB),
  y_1.i = g ∧ Inv cores.v y_1.s y_1.r ∧ y_1.r.n ≤ y_1.i + (1 : Nat) → (((True ∧ True) ∧ True) ∧ ((2 : Nat) ≤ (2 : Nat) ∧ (True ∧ True ∧ (0 : Nat) = (0 : Nat) ∧ y_1.s.n = y_1.s.n ∧ y_1.s.n = y_1.s.n) ∧ y_1.s.st = y_1.s.st ∧
  True) ∧ (y_1.s.n * (10 : Nat) ≤ y_1.s.n * (10 : Nat) ∧ y_1.s.n = y_1.s.n ∧ ∀ (j : Nat), j < y_1.s.n → y_1.s.clk j = y_1.s.clk j ∧ ((9 : Nat) = (9 : Nat) ∧ ∀ (j_1 : Nat), j_1 < (9 : Nat) → y_1.s.by_ j j_1 = y_1.s.by_ j
  j_1) ∧ True) ∧ True) ∧ ((!y_1.s.st == y_1.r.st) = true → cores.Ok ∧ x.Ok ∧ kind.Ok ∧ (w.nil = true → w.len = (0 : Nat)) → False ∧ True ∧ ((0 : Nat) ≤ (0 : Nat) ∧ x.len = x.len ∧ ∀ (j : Nat), j < x.len → x.core j = x.core
  j ∧ x.kind j = x.kind j ∧ x.times j = x.times j ∧ x.wait j = x.wait j ∧ True) ∧ ((0 : Nat) ≤ (0 : Nat) ∧ w.len = w.len ∧ ∀ (j : Nat), j < w.len → w.w j = w.w j) ∧ True) ∧ ((!y_1.s.st == y_1.r.st) = false → ∀ (v : Int), v
  = (-1 : Int) → ∃ (g : Nat), (∃ (y : KB), (Inv cores.v y.s y.r ∧ y.r.n ≤ g + (1 : Nat) ∧ (-1 : Int) ≤ y.k ∧ y.k ≤ cores.v + (1 : Int)) ∧ ((cores.v = cores.v ∧ ((x.nil = true → x.nil = true) ∧ (x.nil = false → x.nil =
  false ∧ True ∧ True ∧ (0 : Nat) = (0 : Nat) ∧ x.len = x.len ∧ x.cap = x.cap)) ∧ kind.v = kind.v ∧ ((w.nil = true → w.nil = true) ∧ (w.nil = false → w.nil = false ∧ True ∧ True ∧ (0 : Nat) = (0 : Nat) ∧ w.len = w.len ∧
  w.cap = w.cap)) ∧ (True ∧ True) ∧ (True ∧ True) ∧ (↑y_1.i : Int) = (↑g : Int) ∧ v = y.k ∧ True) ∧ ((0 : Nat) ≤ (0 : Nat) ∧ x.len = x.len ∧ ∀ (j : Nat), j < x.len → x.core j = x.core j ∧ x.kind j = x.kind j ∧ x.times j =
  x.times j ∧ x.wait j = x.wait j ∧ True) ∧ ((0 : Nat) ≤ (0 : Nat) ∧ w.len = w.len ∧ ∀ (j : Nat), j < w.len → w.w j = w.w j) ∧ ((2 : Nat) ≤ (2 : Nat) ∧ (True ∧ True ∧ (0 : Nat) = (0 : Nat) ∧ y_1.s.n = y.s.n ∧ y_1.s.n =
  y.s.n) ∧ y_1.s.st = y.s.st ∧ True) ∧ (y.s.n * (10 : Nat) ≤ y_1.s.n * (10 : Nat) ∧ y.s.n = y_1.s.n ∧ ∀ (j : Nat), j < y_1.s.n → y_1.s.clk j = y.s.clk j ∧ ((9 : Nat) = (9 : Nat) ∧ ∀ (j_1 : Nat), j_1 < (9 : Nat) → y_1.s.by_
  j j_1 = y.s.by_ j j_1) ∧ True) ∧ ((3 : Nat) ≤ (3 : Nat) ∧ y_1.r.cores = y.r.cores ∧ (True ∧ True ∧ (0 : Nat) = (0 : Nat) ∧ y_1.r.n = y.r.n ∧ y_1.r.cap = y.r.cap) ∧ y_1.r.st = y.r.st ∧ True) ∧ (y.r.cap * (3 : Nat) ≤
  y_1.r.cap * (3 : Nat) ∧ y.r.n = y_1.r.n ∧ ∀ (j : Nat), j < y_1.r.n → y_1.r.core j = y.r.core j ∧ y_1.r.kind j = y.r.kind j ∧ y_1.r.cyc j = y.r.cyc j ∧ True) ∧ True) ∧ True) ∧ ∀ (y_2 : KB), Inv cores.v y_2.s y_2.r ∧
  y_2.r.n ≤ g + (1 : Nat) ∧ (-1 : Int) ≤ y_2.k ∧ y_2.k ≤ cores.v + (1 : Int) → (decide (y_2.k ≤ cores.v) = true → (decide (y_2.k ≥ (0 : Int)) = true → (((True ∧ True) ∧ y_2.k = y_2.k ∧ True) ∧ ((2 : Nat) ≤ (2 : Nat) ∧
  (True ∧ True ∧ (0 : Nat) = (0 : Nat) ∧ y_2.s.n = y_2.s.n ∧ y_2.s.n = y_2.s.n) ∧ y_2.s.st = y_2.s.st ∧ True) ∧ (y_2.s.n * (10 : Nat) ≤ y_2.s.n * (10 : Nat) ∧ y_2.s.n = y_2.s.n ∧ ∀ (j : Nat), j < y_2.s.n → y_2.s.clk j =
  y_2.s.clk j ∧ ((9 : Nat) = (9 : Nat) ∧ ∀ (j_1 : Nat), j_1 < (9 : Nat) → y_2.s.by_ j j_1 = y_2.s.by_ j j_1) ∧ True) ∧ True) ∧ (((True ∧ True) ∧ y_2.k = y_2.k ∧ True) ∧ ((3 : Nat) ≤ (3 : Nat) ∧ y_2.r.cores = y_2.r.cores ∧
  (True ∧ True ∧ (0 : Nat) = (0 : Nat) ∧ y_2.r.n = y_2.r.n ∧ y_2.r.cap = y_2.r.cap) ∧ y_2.r.st = y_2.r.st ∧ True) ∧ (y_2.r.cap * (3 : Nat) ≤ y_2.r.cap * (3 : Nat) ∧ y_2.r.n = y_2.r.n ∧ ∀ (j : Nat), j < y_2.r.n → y_2.r.core
  j = y_2.r.core j ∧ y_2.r.kind j = y_2.r.kind j ∧ y_2.r.cyc j = y_2.r.cyc j ∧ True) ∧ True) ∧ y_2.r.Ok ∧ ((y_2.s.clkOf y_2.k != y_2.r.sum y_2.k (-1 : Int)) = true → cores.Ok ∧ x.Ok ∧ kind.Ok ∧ (w.nil = true → w.len = (0 :
  Nat)) → False ∧ True ∧ ((0 : Nat) ≤ (0 : Nat) ∧ x.len = x.len ∧ ∀ (j : Nat), j < x.len → x.core j = x.core j ∧ x.kind j = x.kind j ∧ x.times j = x.times j ∧ x.wait j = x.wait j ∧ True) ∧ ((0 : Nat) ≤ (0 : Nat) ∧ w.len =
  w.len ∧ ∀ (j : Nat), j < w.len → w.w j = w.w j) ∧ True) ∧ ((y_2.s.clkOf y_2.k != y_2.r.sum y_2.k (-1 : Int)) = false → (((True ∧ True) ∧ y_2.k = y_2.k ∧ True) ∧ ((2 : Nat) ≤ (2 : Nat) ∧ (True ∧ True ∧ (0 : Nat) = (0 :
  Nat) ∧ y_2.s.n = y_2.s.n ∧ y_2.s.n = y_2.s.n) ∧ y_2.s.st = y_2.s.st ∧ True) ∧ (y_2.s.n * (10 : Nat) ≤ y_2.s.n * (10 : Nat) ∧ y_2.s.n = y_2.s.n ∧ ∀ (j : Nat), j < y_2.s.n → y_2.s.clk j = y_2.s.clk j ∧ ((9 : Nat) = (9 :
  Nat) ∧ ∀ (j_1 : Nat), j_1 < (9 : Nat) → y_2.s.by_ j j_1 = y_2.s.by_ j j_1) ∧ True) ∧ True) ∧ (((True ∧ True) ∧ y_2.k = y_2.k ∧ (0 : Int) = (0 : Int) ∧ True) ∧ ((3 : Nat) ≤ (3 : Nat) ∧ y_2.r.cores = y_2.r.cores ∧ (True ∧
  True ∧ (0 : Nat) = (0 : Nat) ∧ y_2.r.n = y_2.r.n ∧ y_2.r.cap = y_2.r.cap) ∧ y_2.r.st = y_2.r.st ∧ True) ∧ (y_2.r.cap * (3 : Nat) ≤ y_2.r.cap * (3 : Nat) ∧ y_2.r.n = y_2.r.n ∧ ∀ (j : Nat), j < y_2.r.n → y_2.r.core j =
  y_2.r.core j ∧ y_2.r.kind j = y_2.r.kind j ∧ y_2.r.cyc j = y_2.r.cyc j ∧ True) ∧ True) ∧ y_2.r.Ok ∧ ((y_2.s.idleOf y_2.k != y_2.r.sum y_2.k (if (0 : Int) < (0 : Int) then (0 : Int) else (0 : Int))) = true → cores.Ok ∧
  x.Ok ∧ kind.Ok ∧ (w.nil = true → w.len = (0 : Nat)) → False ∧ True ∧ ((0 : Nat) ≤ (0 : Nat) ∧ x.len = x.len ∧ ∀ (j : Nat), j < x.len → x.core j = x.core j ∧ x.kind j = x.kind j ∧ x.times j = x.times j ∧ x.wait j = x.wait
  j ∧ True) ∧ ((0 : Nat) ≤ (0 : Nat) ∧ w.len = w.len ∧ ∀ (j : Nat), j < w.len → w.w j = w.w j) ∧ True) ∧ ((y_2.s.idleOf y_2.k != y_2.r.sum y_2.k (if (0 : Int) < (0 : Int) then (0 : Int) else (0 : Int))) = false → (decide
  (kind.v > (0 : Int)) = true → (((True ∧ True) ∧ y_2.k = y_2.k ∧ kind.v = kind.v ∧ True) ∧ ((2 : Nat) ≤ (2 : Nat) ∧ (True ∧ True ∧ (0 : Nat) = (0 : Nat) ∧ y_2.s.n = y_2.s.n ∧ y_2.s.n = y_2.s.n) ∧ y_2.s.st = y_2.s.st ∧
  True) ∧ (y_2.s.n * (10 : Nat) ≤ y_2.s.n * (10 : Nat) ∧ y_2.s.n = y_2.s.n ∧ ∀ (j : Nat), j < y_2.s.n → y_2.s.clk j = y_2.s.clk j ∧ ((9 : Nat) = (9 : Nat) ∧ ∀ (j_1 : Nat), j_1 < (9 : Nat) → y_2.s.by_ j j_1 = y_2.s.by_ j
  j_1) ∧ True) ∧ True) ∧ (((True ∧ True) ∧ y_2.k = y_2.k ∧ kind.v = kind.v ∧ True) ∧ ((3 : Nat) ≤ (3 : Nat) ∧ y_2.r.cores = y_2.r.cores ∧ (True ∧ True ∧ (0 : Nat) = (0 : Nat) ∧ y_2.r.n = y_2.r.n ∧ y_2.r.cap = y_2.r.cap) ∧
  y_2.r.st = y_2.r.st ∧ True) ∧ (y_2.r.cap * (3 : Nat) ≤ y_2.r.cap * (3 : Nat) ∧ y_2.r.n = y_2.r.n ∧ ∀ (j : Nat), j < y_2.r.n → y_2.r.core j = y_2.r.core j ∧ y_2.r.kind j = y_2.r.kind j ∧ y_2.r.cyc j = y_2.r.cyc j ∧ True)
  ∧ True) ∧ y_2.r.Ok ∧ ((y_2.s.spentOf y_2.k kind.v != y_2.r.sum y_2.k (if kind.v < (0 : Int) then (0 : Int) else kind.v)) = true → cores.Ok ∧ x.Ok ∧ kind.Ok ∧ (w.nil = true → w.len = (0 : Nat)) → False ∧ True ∧ ((0 : Nat)
  ≤ (0 : Nat) ∧ x.len = x.len ∧ ∀ (j : Nat), j < x.len → x.core j = x.core j ∧ x.kind j = x.kind j ∧ x.times j = x.times j ∧ x.wait j = x.wait j ∧ True) ∧ ((0 : Nat) ≤ (0 : Nat) ∧ w.len = w.len ∧ ∀ (j : Nat), j < w.len →
  w.w j = w.w j) ∧ True) ∧ ((y_2.s.spentOf y_2.k kind.v != y_2.r.sum y_2.k (if kind.v < (0 : Int) then (0 : Int) else kind.v)) = false → (decide (kind.v ≤ (0 : Int)) = true → (((True ∧ True) ∧ y_2.k = y_2.k ∧ kind.v =
  kind.v ∧ True) ∧ ((2 : Nat) ≤ (2 : Nat) ∧ (True ∧ True ∧ (0 : Nat) = (0 : Nat) ∧ y_2.s.n = y_2.s.n ∧ y_2.s.n = y_2.s.n) ∧ y_2.s.st = y_2.s.st ∧ True) ∧ (y_2.s.n * (10 : Nat) ≤ y_2.s.n * (10 : Nat) ∧ y_2.s.n = y_2.s.n ∧ ∀
  (j : Nat), j < y_2.s.n → y_2.s.clk j = y_2.s.clk j ∧ ((9 : Nat) = (9 : Nat) ∧ ∀ (j_1 : Nat), j_1 < (9 : Nat) → y_2.s.by_ j j_1 = y_2.s.by_ j j_1) ∧ True) ∧ True) ∧ ((y_2.s.spentOf y_2.k kind.v != (0 : Int)) = true →
  cores.Ok ∧ x.Ok ∧ kind.Ok ∧ (w.nil = true → w.len = (0 : Nat)) → False ∧ True ∧ ((0 : Nat) ≤ (0 : Nat) ∧ x.len = x.len ∧ ∀ (j : Nat), j < x.len → x.core j = x.core j ∧ x.kind j = x.kind j ∧ x.times j = x.times j ∧ x.wait
  j = x.wait j ∧ True) ∧ ((0 : Nat) ≤ (0 : Nat) ∧ w.len = w.len ∧ ∀ (j : Nat), j < w.len → w.w j = w.w j) ∧ True) ∧ ((y_2.s.spentOf y_2.k kind.v != (0 : Int)) = false → ((!decide (y_2.k < cores.v)) = true → (((True ∧ True)
  ∧ y_2.k = y_2.k ∧ True) ∧ ((2 : Nat) ≤ (2 : Nat) ∧ (True ∧ True ∧ (0 : Nat) = (0 : Nat) ∧ y_2.s.n = y_2.s.n ∧ y_2.s.n = y_2.s.n) ∧ y_2.s.st = y_2.s.st ∧ True) ∧ (y_2.s.n * (10 : Nat) ≤ y_2.s.n * (10 : Nat) ∧ y_2.s.n =
  y_2.s.n ∧ ∀ (j : Nat), j < y_2.s.n → y_2.s.clk j = y_2.s.clk j ∧ ((9 : Nat) = (9 : Nat) ∧ ∀ (j_1 : Nat), j_1 < (9 : Nat) → y_2.s.by_ j j_1 = y_2.s.by_ j j_1) ∧ True) ∧ True) ∧ ((y_2.s.clkOf y_2.k != (0 : Int)) = true →
  cores.Ok ∧ x.Ok ∧ kind.Ok ∧ (w.nil = true → w.len = (0 : Nat)) → False ∧ True ∧ ((0 : Nat) ≤ (0 : Nat) ∧ x.len = x.len ∧ ∀ (j : Nat), j < x.len → x.core j = x.core j ∧ x.kind j = x.kind j ∧ x.times j = x.times j ∧ x.wait
  j = x.wait j ∧ True) ∧ ((0 : Nat) ≤ (0 : Nat) ∧ w.len = w.len ∧ ∀ (j : Nat), j < w.len → w.w j = w.w j) ∧ True) ∧ ((y_2.s.clkOf y_2.k != (0 : Int)) = false → ∀ (v : Int), v = IntKind.i64.wrap (y_2.k + (1 : Int)) → ∃ (y :
  KB), (Inv cores.v y.s y.r ∧ y.r.n ≤ g + (1 : Nat) ∧ (-1 : Int) ≤ y.k ∧ y.k ≤ cores.v + (1 : Int)) ∧ ((cores.v = cores.v ∧ ((x.nil = true → x.nil = true) ∧ (x.nil = false → x.nil = false ∧ True ∧ True ∧ (0 : Nat) = (0 :
  Nat) ∧ x.len = x.len ∧ x.cap = x.cap)) ∧ kind.v = kind.v ∧ ((w.nil = true → w.nil = true) ∧ (w.nil = false → w.nil = false ∧ True ∧ True ∧ (0 : Nat) = (0 : Nat) ∧ w.len = w.len ∧ w.cap = w.cap)) ∧ (True ∧ True) ∧ (True ∧
  True) ∧ (↑g : Int) = (↑g : Int) ∧ v = y.k ∧ True) ∧ ((0 : Nat) ≤ (0 : Nat) ∧ x.len = x.len ∧ ∀ (j : Nat), j < x.len → x.core j = x.core j ∧ x.kind j = x.kind j ∧ x.times j = x.times j ∧ x.wait j = x.wait j ∧ True) ∧ ((0
  : Nat) ≤ (0 : Nat) ∧ w.len = w.len ∧ ∀ (j : Nat), j < w.len → w.w j = w.w j) ∧ ((2 : Nat) ≤ (2 : Nat) ∧ (True ∧ True ∧ (0 : Nat) = (0 : Nat) ∧ y_2.s.n = y.s.n ∧ y_2.s.n = y.s.n) ∧ y_2.s.st = y.s.st ∧ True) ∧ (y.s.n * (10
  : Nat) ≤ y_2.s.n * (10 : Nat) ∧ y.s.n = y_2.s.n ∧ ∀ (j : Nat), j < y_2.s.n → y_2.s.clk j = y.s.clk j ∧ ((9 : Nat) = (9 : Nat) ∧ ∀ (j_1 : Nat), j_1 < (9 : Nat) → y_2.s.by_ j j_1 = y.s.by_ j j_1) ∧ True) ∧ ((3 : Nat) ≤ (3
  : Nat) ∧ y_2.r.cores = y.r.cores ∧ (True ∧ True ∧ (0 : Nat) = (0 : Nat) ∧ y_2.r.n = y.r.n ∧ y_2.r.cap = y.r.cap) ∧ y_2.r.st = y.r.st ∧ True) ∧ (y.r.cap * (3 : Nat) ≤ y_2.r.cap * (3 : Nat) ∧ y.r.n = y_2.r.n ∧ ∀ (j : Nat),
  j < y_2.r.n → y_2.r.core j = y.r.core j ∧ y_2.r.kind j = y.r.kind j ∧ y_2.r.cyc j = y.r.cyc j ∧ True) ∧ True) ∧ (icKB x w cores.v kind.v g).μ y < (icKB x w cores.v kind.v g).μ y_2)) ∧ ((!decide (y_2.k < cores.v)) = false
  → ∀ (v : Int), v = IntKind.i64.wrap (y_2.k + (1 : Int)) → ∃ (y : KB), (Inv cores.v y.s y.r ∧ y.r.n ≤ g + (1 : Nat) ∧ (-1 : Int) ≤ y.k ∧ y.k ≤ cores.v + (1 : Int)) ∧ ((cores.v = cores.v ∧ ((x.nil = true → x.nil = true) ∧
  (x.nil = false → x.nil = false ∧ True ∧ True ∧ (0 : Nat) = (0 : Nat) ∧ x.len = x.len ∧ x.cap = x.cap)) ∧ kind.v = kind.v ∧ ((w.nil = true → w.nil = true) ∧ (w.nil = false → w.nil = false ∧ True ∧ True ∧ (0 : Nat) = (0 :
  Nat) ∧ w.len = w.len ∧ w.cap = w.cap)) ∧ (True ∧ True) ∧ (True ∧ True) ∧ (↑g : Int) = (↑g : Int) ∧ v = y.k ∧ True) ∧ ((0 : Nat) ≤ (0 : Nat) ∧ x.len = x.len ∧ ∀ (j : Nat), j < x.len → x.core j = x.core j ∧ x.kind j =
  x.kind j ∧ x.times j = x.times j ∧ x.wait j = x.wait j ∧ True) ∧ ((0 : Nat) ≤ (0 : Nat) ∧ w.len = w.len ∧ ∀ (j : Nat), j < w.len → w.w j = w.w j) ∧ ((2 : Nat) ≤ (2 : Nat) ∧ (True ∧ True ∧ (0 : Nat) = (0 : Nat) ∧ y_2.s.n
  = y.s.n ∧ y_2.s.n = y.s.n) ∧ y_2.s.st = y.s.st ∧ True) ∧ (y.s.n * (10 : Nat) ≤ y_2.s.n * (10 : Nat) ∧ y.s.n = y_2.s.n ∧ ∀ (j : Nat), j < y_2.s.n → y_2.s.clk j = y.s.clk j ∧ ((9 : Nat) = (9 : Nat) ∧ ∀ (j_1 : Nat), j_1 <
  (9 : Nat) → y_2.s.by_ j j_1 = y.s.by_ j j_1) ∧ True) ∧ ((3 : Nat) ≤ (3 : Nat) ∧ y_2.r.cores = y.r.cores ∧ (True ∧ True ∧ (0 : Nat) = (0 : Nat) ∧ y_2.r.n = y.r.n ∧ y_2.r.cap = y.r.cap) ∧ y_2.r.st = y.r.st ∧ True) ∧
  (y.r.cap * (3 : Nat) ≤ y_2.r.cap * (3 : Nat) ∧ y.r.n = y_2.r.n ∧ ∀ (j : Nat), j < y_2.r.n → y_2.r.core j = y.r.core j ∧ y_2.r.kind j = y.r.kind j ∧ y_2.r.cyc j = y.r.cyc j ∧ True) ∧ True) ∧ (icKB x w cores.v kind.v g).μ
  y < (icKB x w cores.v kind.v g).μ y_2))) ∧ (decide (kind.v ≤ (0 : Int)) = false → ((!decide (y_2.k < cores.v)) = true → (((True ∧ True) ∧ y_2.k = y_2.k ∧ True) ∧ ((2 : Nat) ≤ (2 : Nat) ∧ (True ∧ True ∧ (0 : Nat) = (0 :
  Nat) ∧ y_2.s.n = y_2.s.n ∧ y_2.s.n = y_2.s.n) ∧ y_2.s.st = y_2.s.st ∧ True) ∧ (y_2.s.n * (10 : Nat) ≤ y_2.s.n * (10 : Nat) ∧ y_2.s.n = y_2.s.n ∧ ∀ (j : Nat), j < y_2.s.n → y_2.s.clk j = y_2.s.clk j ∧ ((9 : Nat) = (9 :
  Nat) ∧ ∀ (j_1 : Nat), j_1 < (9 : Nat) → y_2.s.by_ j j_1 = y_2.s.by_ j j_1) ∧ True) ∧ True) ∧ ((y_2.s.clkOf y_2.k != (0 : Int)) = true → cores.Ok ∧ x.Ok ∧ kind.Ok ∧ (w.nil = true → w.len = (0 : Nat)) → False ∧ True ∧ ((0
  : Nat) ≤ (0 : Nat) ∧ x.len = x.len ∧ ∀ (j : Nat), j < x.len → x.core j = x.core j ∧ x.kind j = x.kind j ∧ x.times j = x.times j ∧ x.wait j = x.wait j ∧ True) ∧ ((0 : Nat) ≤ (0 : Nat) ∧ w.len = w.len ∧ ∀ (j : Nat), j <
  w.len → w.w j = w.w j) ∧ True) ∧ ((y_2.s.clkOf y_2.k != (0 : Int)) = false → ∀ (v : Int), v = IntKind.i64.wrap (y_2.k + (1 : Int)) → ∃ (y : KB), (Inv cores.v y.s y.r ∧ y.r.n ≤ g + (1 : Nat) ∧ (-1 : Int) ≤ y.k ∧ y.k ≤
  cores.v + (1 : Int)) ∧ ((cores.v = cores.v ∧ ((x.nil = true → x.nil = true) ∧ (x.nil = false → x.nil = false ∧ True ∧ True ∧ (0 : Nat) = (0 : Nat) ∧ x.len = x.len ∧ x.cap = x.cap)) ∧ kind.v = kind.v ∧ ((w.nil = true →
  w.nil = true) ∧ (w.nil = false → w.nil = false ∧ True ∧ True ∧ (0 : Nat) = (0 : Nat) ∧ w.len = w.len ∧ w.cap = w.cap)) ∧ (True ∧ True) ∧ (True ∧ True) ∧ (↑g : Int) = (↑g : Int) ∧ v = y.k ∧ True) ∧ ((0 : Nat) ≤ (0 : Nat)
  ∧ x.len = x.len ∧ ∀ (j : Nat), j < x.len → x.core j = x.core j ∧ x.kind j = x.kind j ∧ x.times j = x.times j ∧ x.wait j = x.wait j ∧ True) ∧ ((0 : Nat) ≤ (0 : Nat) ∧ w.len = w.len ∧ ∀ (j : Nat), j < w.len → w.w j = w.w
  j) ∧ ((2 : Nat) ≤ (2 : Nat) ∧ (True ∧ True ∧ (0 : Nat) = (0 : Nat) ∧ y_2.s.n = y.s.n ∧ y_2.s.n = y.s.n) ∧ y_2.s.st = y.s.st ∧ True) ∧ (y.s.n * (10 : Nat) ≤ y_2.s.n * (10 : Nat) ∧ y.s.n = y_2.s.n ∧ ∀ (j : Nat), j <
  y_2.s.n → y_2.s.clk j = y.s.clk j ∧ ((9 : Nat) = (9 : Nat) ∧ ∀ (j_1 : Nat), j_1 < (9 : Nat) → y_2.s.by_ j j_1 = y.s.by_ j j_1) ∧ True) ∧ ((3 : Nat) ≤ (3 : Nat) ∧ y_2.r.cores = y.r.cores ∧ (True ∧ True ∧ (0 : Nat) = (0 :
  Nat) ∧ y_2.r.n = y.r.n ∧ y_2.r.cap = y.r.cap) ∧ y_2.r.st = y.r.st ∧ True) ∧ (y.r.cap * (3 : Nat) ≤ y_2.r.cap * (3 : Nat) ∧ y.r.n = y_2.r.n ∧ ∀ (j : Nat), j < y_2.r.n → y_2.r.core j = y.r.core j ∧ y_2.r.kind j = y.r.kind
  j ∧ y_2.r.cyc j = y.r.cyc j ∧ True) ∧ True) ∧ (icKB x w cores.v kind.v g).μ y < (icKB x w cores.v kind.v g).μ y_2)) ∧ ((!decide (y_2.k < cores.v)) = false → ∀ (v : Int), v = IntKind.i64.wrap (y_2.k + (1 : Int)) → ∃ (y :
  KB), (Inv cores.v y.s y.r ∧ y.r.n ≤ g + (1 : Nat) ∧ (-1 : Int) ≤ y.k ∧ y.k ≤ cores.v + (1 : Int)) ∧ ((cores.v = cores.v ∧ ((x.nil = true → x.nil = true) ∧ (x.nil = false → x.nil = false ∧ True ∧ True ∧ (0 : Nat) = (0 :
  Nat) ∧ x.len = x.len ∧ x.cap = x.cap)) ∧ kind.v = kind.v ∧ ((w.nil = true → w.nil = true) ∧ (w.nil = false → w.nil = false ∧ True ∧ True ∧ (0 : Nat) = (0 : Nat) ∧ w.len = w.len ∧ w.cap = w.cap)) ∧ (True ∧ True) ∧ (True ∧
  True) ∧ (↑g : Int) = (↑g : Int) ∧ v = y.k ∧ True) ∧ ((0 : Nat) ≤ (0 : Nat) ∧ x.len = x.len ∧ ∀ (j : Nat), j < x.len → x.core j = x.core j ∧ x.kind j = x.kind j ∧ x.times j = x.times j ∧ x.wait j = x.wait j ∧ True) ∧ ((0
  : Nat) ≤ (0 : Nat) ∧ w.len = w.len ∧ ∀ (j : Nat), j < w.len → w.w j = w.w j) ∧ ((2 : Nat) ≤ (2 : Nat) ∧ (True ∧ True ∧ (0 : Nat) = (0 : Nat) ∧ y_2.s.n = y.s.n ∧ y_2.s.n = y.s.n) ∧ y_2.s.st = y.s.st ∧ True) ∧ (y.s.n * (10
  : Nat) ≤ y_2.s.n * (10 : Nat) ∧ y.s.n = y_2.s.n ∧ ∀ (j : Nat), j < y_2.s.n → y_2.s.clk j = y.s.clk j ∧ ((9 : Nat) = (9 : Nat) ∧ ∀ (j_1 : Nat), j_1 < (9 : Nat) → y_2.s.by_ j j_1 = y.s.by_ j j_1) ∧ True) ∧ ((3 : Nat) ≤ (3
  : Nat) ∧ y_2.r.cores = y.r.cores ∧ (True ∧ True ∧ (0 : Nat) = (0 : Nat) ∧ y_2.r.n = y.r.n ∧ y_2.r.cap = y.r.cap) ∧ y_2.r.st = y.r.st ∧ True) ∧ (y.r.cap * (3 : Nat) ≤ y_2.r.cap * (3 : Nat) ∧ y.r.n = y_2.r.n ∧ ∀ (j : Nat),
  j < y_2.r.n → y_2.r.core j = y.r.core j ∧ y_2.r.kind j = y.r.kind j ∧ y_2.r.cyc j = y.r.cyc j ∧ True) ∧ True) ∧ (icKB x w cores.v kind.v g).μ y < (icKB x w cores.v kind.v g).μ y_2)))) ∧ (decide (kind.v > (0 : Int)) =
  false → (decide (kind.v ≤ (0 : Int)) = true → (((True ∧ True) ∧ y_2.k = y_2.k ∧ kind.v = kind.v ∧ True) ∧ ((2 : Nat) ≤ (2 : Nat) ∧ (True ∧ True ∧ (0 : Nat) = (0 : Nat) ∧ y_2.s.n = y_2.s.n ∧ y_2.s.n = y_2.s.n) ∧ y_2.s.st
  = y_2.s.st ∧ True) ∧ (y_2.s.n * (10 : Nat) ≤ y_2.s.n * (10 : Nat) ∧ y_2.s.n = y_2.s.n ∧ ∀ (j : Nat), j < y_2.s.n → y_2.s.clk j = y_2.s.clk j ∧ ((9 : Nat) = (9 : Nat) ∧ ∀ (j_1 : Nat), j_1 < (9 : Nat) → y_2.s.by_ j j_1 =
  y_2.s.by_ j j_1) ∧ True) ∧ True) ∧ ((y_2.s.spentOf y_2.k kind.v != (0 : Int)) = true → cores.Ok ∧ x.Ok ∧ kind.Ok ∧ (w.nil = true → w.len = (0 : Nat)) → False ∧ True ∧ ((0 : Nat) ≤ (0 : Nat) ∧ x.len = x.len ∧ ∀ (j : Nat),
  j < x.len → x.core j = x.core j ∧ x.kind j = x.kind j ∧ x.times j = x.times j ∧ x.wait j = x.wait j ∧ True) ∧ ((0 : Nat) ≤ (0 : Nat) ∧ w.len = w.len ∧ ∀ (j : Nat), j < w.len → w.w j = w.w j) ∧ True) ∧ ((y_2.s.spentOf
  y_2.k kind.v != (0 : Int)) = false → ((!decide (y_2.k < cores.v)) = true → (((True ∧ True) ∧ y_2.k = y_2.k ∧ True) ∧ ((2 : Nat) ≤ (2 : Nat) ∧ (True ∧ True ∧ (0 : Nat) = (0 : Nat) ∧ y_2.s.n = y_2.s.n ∧ y_2.s.n = y_2.s.n)
  ∧ y_2.s.st = y_2.s.st ∧ True) ∧ (y_2.s.n * (10 : Nat) ≤ y_2.s.n * (10 : Nat) ∧ y_2.s.n = y_2.s.n ∧ ∀ (j : Nat), j < y_2.s.n → y_2.s.clk j = y_2.s.clk j ∧ ((9 : Nat) = (9 : Nat) ∧ ∀ (j_1 : Nat), j_1 < (9 : Nat) →
  y_2.s.by_ j j_1 = y_2.s.by_ j j_1) ∧ True) ∧ True) ∧ ((y_2.s.clkOf y_2.k != (0 : Int)) = true → cores.Ok ∧ x.Ok ∧ kind.Ok ∧ (w.nil = true → w.len = (0 : Nat)) → False ∧ True ∧ ((0 : Nat) ≤ (0 : Nat) ∧ x.len = x.len ∧ ∀
  (j : Nat), j < x.len → x.core j = x.core j ∧ x.kind j = x.kind j ∧ x.times j = x.times j ∧ x.wait j = x.wait j ∧ True) ∧ ((0 : Nat) ≤ (0 : Nat) ∧ w.len = w.len ∧ ∀ (j : Nat), j < w.len → w.w j = w.w j) ∧ True) ∧
  ((y_2.s.clkOf y_2.k != (0 : Int)) = false → ∀ (v : Int), v = IntKind.i64.wrap (y_2.k + (1 : Int)) → ∃ (y : KB), (Inv cores.v y.s y.r ∧ y.r.n ≤ g + (1 : Nat) ∧ (-1 : Int) ≤ y.k ∧ y.k ≤ cores.v + (1 : Int)) ∧ ((cores.v =
  cores.v ∧ ((x.nil = true → x.nil = true) ∧ (x.nil = false → x.nil = false ∧ True ∧ True ∧ (0 : Nat) = (0 : Nat) ∧ x.len = x.len ∧ x.cap = x.cap)) ∧ kind.v = kind.v ∧ ((w.nil = true → w.nil = true) ∧ (w.nil = false →
  w.nil = false ∧ True ∧ True ∧ (0 : Nat) = (0 : Nat) ∧ w.len = w.len ∧ w.cap = w.cap)) ∧ (True ∧ True) ∧ (True ∧ True) ∧ (↑g : Int) = (↑g : Int) ∧ v = y.k ∧ True) ∧ ((0 : Nat) ≤ (0 : Nat) ∧ x.len = x.len ∧ ∀ (j : Nat), j
  < x.len → x.core j = x.core j ∧ x.kind j = x.kind j ∧ x.times j = x.times j ∧ x.wait j = x.wait j ∧ True) ∧ ((0 : Nat) ≤ (0 : Nat) ∧ w.len = w.len ∧ ∀ (j : Nat), j < w.len → w.w j = w.w j) ∧ ((2 : Nat) ≤ (2 : Nat) ∧
  (True ∧ True ∧ (0 : Nat) = (0 : Nat) ∧ y_2.s.n = y.s.n ∧ y_2.s.n = y.s.n) ∧ y_2.s.st = y.s.st ∧ True) ∧ (y.s.n * (10 : Nat) ≤ y_2.s.n * (10 : Nat) ∧ y.s.n = y_2.s.n ∧ ∀ (j : Nat), j < y_2.s.n → y_2.s.clk j = y.s.clk j ∧
  ((9 : Nat) = (9 : Nat) ∧ ∀ (j_1 : Nat), j_1 < (9 : Nat) → y_2.s.by_ j j_1 = y.s.by_ j j_1) ∧ True) ∧ ((3 : Nat) ≤ (3 : Nat) ∧ y_2.r.cores = y.r.cores ∧ (True ∧ True ∧ (0 : Nat) = (0 : Nat) ∧ y_2.r.n = y.r.n ∧ y_2.r.cap =
  y.r.cap) ∧ y_2.r.st = y.r.st ∧ True) ∧ (y.r.cap * (3 : Nat) ≤ y_2.r.cap * (3 : Nat) ∧ y.r.n = y_2.r.n ∧ ∀ (j : Nat), j < y_2.r.n → y_2.r.core j = y.r.core j ∧ y_2.r.kind j = y.r.kind j ∧ y_2.r.cyc j = y.r.cyc j ∧ True) ∧
  True) ∧ (icKB x w cores.v kind.v g).μ y < (icKB x w cores.v kind.v g).μ y_2)) ∧ ((!decide (y_2.k < cores.v)) = false → ∀ (v : Int), v = IntKind.i64.wrap (y_2.k + (1 : Int)) → ∃ (y : KB), (Inv cores.v y.s y.r ∧ y.r.n ≤ g
  + (1 : Nat) ∧ (-1 : Int) ≤ y.k ∧ y.k ≤ cores.v + (1 : Int)) ∧ ((cores.v = cores.v ∧ ((x.nil = true → x.nil = true) ∧ (x.nil = false → x.nil = false ∧ True ∧ True ∧ (0 : Nat) = (0 : Nat) ∧ x.len = x.len ∧ x.cap = x.cap))
  ∧ kind.v = kind.v ∧ ((w.nil = true → w.nil = true) ∧ (w.nil = false → w.nil = false ∧ True ∧ True ∧ (0 : Nat) = (0 : Nat) ∧ w.len = w.len ∧ w.cap = w.cap)) ∧ (True ∧ True) ∧ (True ∧ True) ∧ (↑g : Int) = (↑g : Int) ∧ v =
  y.k ∧ True) ∧ ((0 : Nat) ≤ (0 : Nat) ∧ x.len = x.len ∧ ∀ (j : Nat), j < x.len → x.core j = x.core j ∧ x.kind j = x.kind j ∧ x.times j = x.times j ∧ x.wait j = x.wait j ∧ True) ∧ ((0 : Nat) ≤ (0 : Nat) ∧ w.len = w.len ∧ ∀
  (j : Nat), j < w.len → w.w j = w.w j) ∧ ((2 : Nat) ≤ (2 : Nat) ∧ (True ∧ True ∧ (0 : Nat) = (0 : Nat) ∧ y_2.s.n = y.s.n ∧ y_2.s.n = y.s.n) ∧ y_2.s.st = y.s.st ∧ True) ∧ (y.s.n * (10 : Nat) ≤ y_2.s.n * (10 : Nat) ∧ y.s.n
  = y_2.s.n ∧ ∀ (j : Nat), j < y_2.s.n → y_2.s.clk j = y.s.clk j ∧ ((9 : Nat) = (9 : Nat) ∧ ∀ (j_1 : Nat), j_1 < (9 : Nat) → y_2.s.by_ j j_1 = y.s.by_ j j_1) ∧ True) ∧ ((3 : Nat) ≤ (3 : Nat) ∧ y_2.r.cores = y.r.cores ∧
  (True ∧ True ∧ (0 : Nat) = (0 : Nat) ∧ y_2.r.n = y.r.n ∧ y_2.r.cap = y.r.cap) ∧ y_2.r.st = y.r.st ∧ True) ∧ (y.r.cap * (3 : Nat) ≤ y_2.r.cap * (3 : Nat) ∧ y.r.n = y_2.r.n ∧ ∀ (j : Nat), j < y_2.r.n → y_2.r.core j =
  y.r.core j ∧ y_2.r.kind j = y.r.kind j ∧ y_2.r.cyc j = y.r.cyc j ∧ True) ∧ True) ∧ (icKB x w cores.v kind.v g).μ y < (icKB x w cores.v kind.v g).μ y_2))) ∧ (decide (kind.v ≤ (0 : Int)) = false → ((!decide (y_2.k <
  cores.v)) = true → (((True ∧ True) ∧ y_2.k = y_2.k ∧ True) ∧ ((2 : Nat) ≤ (2 : Nat) ∧ (True ∧ True ∧ (0 : Nat) = (0 : Nat) ∧ y_2.s.n = y_2.s.n ∧ y_2.s.n = y_2.s.n) ∧ y_2.s.st = y_2.s.st ∧ True) ∧ (y_2.s.n * (10 : Nat) ≤
  y_2.s.n * (10 : Nat) ∧ y_2.s.n = y_2.s.n ∧ ∀ (j : Nat), j < y_2.s.n → y_2.s.clk j = y_2.s.clk j ∧ ((9 : Nat) = (9 : Nat) ∧ ∀ (j_1 : Nat), j_1 < (9 : Nat) → y_2.s.by_ j j_1 = y_2.s.by_ j j_1) ∧ True) ∧ True) ∧
  ((y_2.s.clkOf y_2.k != (0 : Int)) = true → cores.Ok ∧ x.Ok ∧ kind.Ok ∧ (w.nil = true → w.len = (0 : Nat)) → False ∧ True ∧ ((0 : Nat) ≤ (0 : Nat) ∧ x.len = x.len ∧ ∀ (j : Nat), j < x.len → x.core j = x.core j ∧ x.kind j
  = x.kind j ∧ x.times j = x.times j ∧ x.wait j = x.wait j ∧ True) ∧ ((0 : Nat) ≤ (0 : Nat) ∧ w.len = w.len ∧ ∀ (j : Nat), j < w.len → w.w j = w.w j) ∧ True) ∧ ((y_2.s.clkOf y_2.k != (0 : Int)) = false → ∀ (v : Int), v =
  IntKind.i64.wrap (y_2.k + (1 : Int)) → ∃ (y : KB), (Inv cores.v y.s y.r ∧ y.r.n ≤ g + (1 : Nat) ∧ (-1 : Int) ≤ y.k ∧ y.k ≤ cores.v + (1 : Int)) ∧ ((cores.v = cores.v ∧ ((x.nil = true → x.nil = true) ∧ (x.nil = false →
  x.nil = false ∧ True ∧ True ∧ (0 : Nat) = (0 : Nat) ∧ x.len = x.len ∧ x.cap = x.cap)) ∧ kind.v = kind.v ∧ ((w.nil = true → w.nil = true) ∧ (w.nil = false → w.nil = false ∧ True ∧ True ∧ (0 : Nat) = (0 : Nat) ∧ w.len =
  w.len ∧ w.cap = w.cap)) ∧ (True ∧ True) ∧ (True ∧ True) ∧ (↑g : Int) = (↑g : Int) ∧ v = y.k ∧ True) ∧ ((0 : Nat) ≤ (0 : Nat) ∧ x.len = x.len ∧ ∀ (j : Nat), j < x.len → x.core j = x.core j ∧ x.kind j = x.kind j ∧ x.times
  j = x.times j ∧ x.wait j = x.wait j ∧ True) ∧ ((0 : Nat) ≤ (0 : Nat) ∧ w.len = w.len ∧ ∀ (j : Nat), j < w.len → w.w j = w.w j) ∧ ((2 : Nat) ≤ (2 : Nat) ∧ (True ∧ True ∧ (0 : Nat) = (0 : Nat) ∧ y_2.s.n = y.s.n ∧ y_2.s.n =
  y.s.n) ∧ y_2.s.st = y.s.st ∧ True) ∧ (y.s.n * (10 : Nat) ≤ y_2.s.n * (10 : Nat) ∧ y.s.n = y_2.s.n ∧ ∀ (j : Nat), j < y_2.s.n → y_2.s.clk j = y.s.clk j ∧ ((9 : Nat) = (9 : Nat) ∧ ∀ (j_1 : Nat), j_1 < (9 : Nat) → y_2.s.by_
  j j_1 = y.s.by_ j j_1) ∧ True) ∧ ((3 : Nat) ≤ (3 : Nat) ∧ y_2.r.cores = y.r.cores ∧ (True ∧ True ∧ (0 : Nat) = (0 : Nat) ∧ y_2.r.n = y.r.n ∧ y_2.r.cap = y.r.cap) ∧ y_2.r.st = y.r.st ∧ True) ∧ (y.r.cap * (3 : Nat) ≤
  y_2.r.cap * (3 : Nat) ∧ y.r.n = y_2.r.n ∧ ∀ (j : Nat), j < y_2.r.n → y_2.r.core j = y.r.core j ∧ y_2.r.kind j = y.r.kind j ∧ y_2.r.cyc j = y.r.cyc j ∧ True) ∧ True) ∧ (icKB x w cores.v kind.v g).μ y < (icKB x w cores.v
  kind.v g).μ y_2)) ∧ ((!decide (y_2.k < cores.v)) = false → ∀ (v : Int), v = IntKind.i64.wrap (y_2.k + (1 : Int)) → ∃ (y : KB), (Inv cores.v y.s y.r ∧ y.r.n ≤ g + (1 : Nat) ∧ (-1 : Int) ≤ y.k ∧ y.k ≤ cores.v + (1 : Int))
  ∧ ((cores.v = cores.v ∧ ((x.nil = true → x.nil = true) ∧ (x.nil = false → x.nil = false ∧ True ∧ True ∧ (0 : Nat) = (0 : Nat) ∧ x.len = x.len ∧ x.cap = x.cap)) ∧ kind.v = kind.v ∧ ((w.nil = true → w.nil = true) ∧ (w.nil
  = false → w.nil = false ∧ True ∧ True ∧ (0 : Nat) = (0 : Nat) ∧ w.len = w.len ∧ w.cap = w.cap)) ∧ (True ∧ True) ∧ (True ∧ True) ∧ (↑g : Int) = (↑g : Int) ∧ v = y.k ∧ True) ∧ ((0 : Nat) ≤ (0 : Nat) ∧ x.len = x.len ∧ ∀ (j
  : Nat), j < x.len → x.core j = x.core j ∧ x.kind j = x.kind j ∧ x.times j = x.times j ∧ x.wait j = x.wait j ∧ True) ∧ ((0 : Nat) ≤ (0 : Nat) ∧ w.len = w.len ∧ ∀ (j : Nat), j < w.len → w.w j = w.w j) ∧ ((2 : Nat) ≤ (2 :
  Nat) ∧ (True ∧ True ∧ (0 : Nat) = (0 : Nat) ∧ y_2.s.n = y.s.n ∧ y_2.s.n = y.s.n) ∧ y_2.s.st = y.s.st ∧ True) ∧ (y.s.n * (10 : Nat) ≤ y_2.s.n * (10 : Nat) ∧ y.s.n = y_2.s.n ∧ ∀ (j : Nat), j < y_2.s.n → y_2.s.clk j =
  y.s.clk j ∧ ((9 : Nat) = (9 : Nat) ∧ ∀ (j_1 : Nat), j_1 < (9 : Nat) → y_2.s.by_ j j_1 = y.s.by_ j j_1) ∧ True) ∧ ((3 : Nat) ≤ (3 : Nat) ∧ y_2.r.cores = y.r.cores ∧ (True ∧ True ∧ (0 : Nat) = (0 : Nat) ∧ y_2.r.n = y.r.n ∧
  y_2.r.cap = y.r.cap) ∧ y_2.r.st = y.r.st ∧ True) ∧ (y.r.cap * (3 : Nat) ≤ y_2.r.cap * (3 : Nat) ∧ y.r.n = y_2.r.n ∧ ∀ (j : Nat), j < y_2.r.n → y_2.r.core j = y.r.core j ∧ y_2.r.kind j = y.r.kind j ∧ y_2.r.cyc j = y.r.cyc
  j ∧ True) ∧ True) ∧ (icKB x w cores.v kind.v g).μ y < (icKB x w cores.v kind.v g).μ y_2)))))) ∧ (decide (y_2.k ≥ (0 : Int)) = false → (((True ∧ True) ∧ y_2.k = y_2.k ∧ True) ∧ ((2 : Nat) ≤ (2 : Nat) ∧ (True ∧ True ∧ (0 :
  Nat) = (0 : Nat) ∧ y_2.s.n = y_2.s.n ∧ y_2.s.n = y_2.s.n) ∧ y_2.s.st = y_2.s.st ∧ True) ∧ (y_2.s.n * (10 : Nat) ≤ y_2.s.n * (10 : Nat) ∧ y_2.s.n = y_2.s.n ∧ ∀ (j : Nat), j < y_2.s.n → y_2.s.clk j = y_2.s.clk j ∧ ((9 :
  Nat) = (9 : Nat) ∧ ∀ (j_1 : Nat), j_1 < (9 : Nat) → y_2.s.by_ j j_1 = y_2.s.by_ j j_1) ∧ True) ∧ True) ∧ (((True ∧ True) ∧ y_2.k = y_2.k ∧ True) ∧ ((3 : Nat) ≤ (3 : Nat) ∧ y_2.r.cores = y_2.r.cores ∧ (True ∧ True ∧ (0 :
  Nat) = (0 : Nat) ∧ y_2.r.n = y_2.r.n ∧ y_2.r.cap = y_2.r.cap) ∧ y_2.r.st = y_2.r.st ∧ True) ∧ (y_2.r.cap * (3 : Nat) ≤ y_2.r.cap * (3 : Nat) ∧ y_2.r.n = y_2.r.n ∧ ∀ (j : Nat), j < y_2.r.n → y_2.r.core j = y_2.r.core j ∧
  y_2.r.kind j = y_2.r.kind j ∧ y_2.r.cyc j = y_2.r.cyc j ∧ True) ∧ True) ∧ y_2.r.Ok ∧ ((y_2.s.clkOf y_2.k != y_2.r.sum y_2.k (-1 : Int)) = true → cores.Ok ∧ x.Ok ∧ kind.Ok ∧ (w.nil = true → w.len = (0 : Nat)) → False ∧
  True ∧ ((0 : Nat) ≤ (0 : Nat) ∧ x.len = x.len ∧ ∀ (j : Nat), j < x.len → x.core j = x.core j ∧ x.kind j = x.kind j ∧ x.times j = x.times j ∧ x.wait j = x.wait j ∧ True) ∧ ((0 : Nat) ≤ (0 : Nat) ∧ w.len = w.len ∧ ∀ (j :
  Nat), j < w.len → w.w j = w.w j) ∧ True) ∧ ((y_2.s.clkOf y_2.k != y_2.r.sum y_2.k (-1 : Int)) = false → (((True ∧ True) ∧ y_2.k = y_2.k ∧ True) ∧ ((2 : Nat) ≤ (2 : Nat) ∧ (True ∧ True ∧ (0 : Nat) = (0 : Nat) ∧ y_2.s.n =
  y_2.s.n ∧ y_2.s.n = y_2.s.n) ∧ y_2.s.st = y_2.s.st ∧ True) ∧ (y_2.s.n * (10 : Nat) ≤ y_2.s.n * (10 : Nat) ∧ y_2.s.n = y_2.s.n ∧ ∀ (j : Nat), j < y_2.s.n → y_2.s.clk j = y_2.s.clk j ∧ ((9 : Nat) = (9 : Nat) ∧ ∀ (j_1 :
  Nat), j_1 < (9 : Nat) → y_2.s.by_ j j_1 = y_2.s.by_ j j_1) ∧ True) ∧ True) ∧ (((True ∧ True) ∧ y_2.k = y_2.k ∧ (0 : Int) = (0 : Int) ∧ True) ∧ ((3 : Nat) ≤ (3 : Nat) ∧ y_2.r.cores = y_2.r.cores ∧ (True ∧ True ∧ (0 : Nat)
  = (0 : Nat) ∧ y_2.r.n = y_2.r.n ∧ y_2.r.cap = y_2.r.cap) ∧ y_2.r.st = y_2.r.st ∧ True) ∧ (y_2.r.cap * (3 : Nat) ≤ y_2.r.cap * (3 : Nat) ∧ y_2.r.n = y_2.r.n ∧ ∀ (j : Nat), j < y_2.r.n → y_2.r.core j = y_2.r.core j ∧
  y_2.r.kind j = y_2.r.kind j ∧ y_2.r.cyc j = y_2.r.cyc j ∧ True) ∧ True) ∧ y_2.r.Ok ∧ ((y_2.s.idleOf y_2.k != y_2.r.sum y_2.k (if (0 : Int) < (0 : Int) then (0 : Int) else (0 : Int))) = true → cores.Ok ∧ x.Ok ∧ kind.Ok ∧
  (w.nil = true → w.len = (0 : Nat)) → False ∧ True ∧ ((0 : Nat) ≤ (0 : Nat) ∧ x.len = x.len ∧ ∀ (j : Nat), j < x.len → x.core j = x.core j ∧ x.kind j = x.kind j ∧ x.times j = x.times j ∧ x.wait j = x.wait j ∧ True) ∧ ((0
  : Nat) ≤ (0 : Nat) ∧ w.len = w.len ∧ ∀ (j : Nat), j < w.len → w.w j = w.w j) ∧ True) ∧ ((y_2.s.idleOf y_2.k != y_2.r.sum y_2.k (if (0 : Int) < (0 : Int) then (0 : Int) else (0 : Int))) = false → (decide (kind.v > (0 :
  Int)) = true → (((True ∧ True) ∧ y_2.k = y_2.k ∧ kind.v = kind.v ∧ True) ∧ ((2 : Nat) ≤ (2 : Nat) ∧ (True ∧ True ∧ (0 : Nat) = (0 : Nat) ∧ y_2.s.n = y_2.s.n ∧ y_2.s.n = y_2.s.n) ∧ y_2.s.st = y_2.s.st ∧ True) ∧ (y_2.s.n *
  (10 : Nat) ≤ y_2.s.n * (10 : Nat) ∧ y_2.s.n = y_2.s.n ∧ ∀ (j : Nat), j < y_2.s.n → y_2.s.clk j = y_2.s.clk j ∧ ((9 : Nat) = (9 : Nat) ∧ ∀ (j_1 : Nat), j_1 < (9 : Nat) → y_2.s.by_ j j_1 = y_2.s.by_ j j_1) ∧ True) ∧ True)
  ∧ (((True ∧ True) ∧ y_2.k = y_2.k ∧ kind.v = kind.v ∧ True) ∧ ((3 : Nat) ≤ (3 : Nat) ∧ y_2.r.cores = y_2.r.cores ∧ (True ∧ True ∧ (0 : Nat) = (0 : Nat) ∧ y_2.r.n = y_2.r.n ∧ y_2.r.cap = y_2.r.cap) ∧ y_2.r.st = y_2.r.st ∧
  True) ∧ (y_2.r.cap * (3 : Nat) ≤ y_2.r.cap * (3 : Nat) ∧ y_2.r.n = y_2.r.n ∧ ∀ (j : Nat), j < y_2.r.n → y_2.r.core j = y_2.r.core j ∧ y_2.r.kind j = y_2.r.kind j ∧ y_2.r.cyc j = y_2.r.cyc j ∧ True) ∧ True) ∧ y_2.r.Ok ∧
  ((y_2.s.spentOf y_2.k kind.v != y_2.r.sum y_2.k (if kind.v < (0 : Int) then (0 : Int) else kind.v)) = true → cores.Ok ∧ x.Ok ∧ kind.Ok ∧ (w.nil = true → w.len = (0 : Nat)) → False ∧ True ∧ ((0 : Nat) ≤ (0 : Nat) ∧ x.len
  = x.len ∧ ∀ (j : Nat), j < x.len → x.core j = x.core j ∧ x.kind j = x.kind j ∧ x.times j = x.times j ∧ x.wait j = x.wait j ∧ True) ∧ ((0 : Nat) ≤ (0 : Nat) ∧ w.len = w.len ∧ ∀ (j : Nat), j < w.len → w.w j = w.w j) ∧
  True) ∧ ((y_2.s.spentOf y_2.k kind.v != y_2.r.sum y_2.k (if kind.v < (0 : Int) then (0 : Int) else kind.v)) = false → (decide (kind.v ≤ (0 : Int)) = true → (((True ∧ True) ∧ y_2.k = y_2.k ∧ kind.v = kind.v ∧ True) ∧ ((2
  : Nat) ≤ (2 : Nat) ∧ (True ∧ True ∧ (0 : Nat) = (0 : Nat) ∧ y_2.s.n = y_2.s.n ∧ y_2.s.n = y_2.s.n) ∧ y_2.s.st = y_2.s.st ∧ True) ∧ (y_2.s.n * (10 : Nat) ≤ y_2.s.n * (10 : Nat) ∧ y_2.s.n = y_2.s.n ∧ ∀ (j : Nat), j <
  y_2.s.n → y_2.s.clk j = y_2.s.clk j ∧ ((9 : Nat) = (9 : Nat) ∧ ∀ (j_1 : Nat), j_1 < (9 : Nat) → y_2.s.by_ j j_1 = y_2.s.by_ j j_1) ∧ True) ∧ True) ∧ ((y_2.s.spentOf y_2.k kind.v != (0 : Int)) = true → cores.Ok ∧ x.Ok ∧
  kind.Ok ∧ (w.nil = true → w.len = (0 : Nat)) → False ∧ True ∧ ((0 : Nat) ≤ (0 : Nat) ∧ x.len = x.len ∧ ∀ (j : Nat), j < x.len → x.core j = x.core j ∧ x.kind j = x.kind j ∧ x.times j = x.times j ∧ x.wait j = x.wait j ∧
  True) ∧ ((0 : Nat) ≤ (0 : Nat) ∧ w.len = w.len ∧ ∀ (j : Nat), j < w.len → w.w j = w.w j) ∧ True) ∧ ((y_2.s.spentOf y_2.k kind.v != (0 : Int)) = false → (((True ∧ True) ∧ y_2.k = y_2.k ∧ True) ∧ ((2 : Nat) ≤ (2 : Nat) ∧
  (True ∧ True ∧ (0 : Nat) = (0 : Nat) ∧ y_2.s.n = y_2.s.n ∧ y_2.s.n = y_2.s.n) ∧ y_2.s.st = y_2.s.st ∧ True) ∧ (y_2.s.n * (10 : Nat) ≤ y_2.s.n * (10 : Nat) ∧ y_2.s.n = y_2.s.n ∧ ∀ (j : Nat), j < y_2.s.n → y_2.s.clk j =
  y_2.s.clk j ∧ ((9 : Nat) = (9 : Nat) ∧ ∀ (j_1 : Nat), j_1 < (9 : Nat) → y_2.s.by_ j j_1 = y_2.s.by_ j j_1) ∧ True) ∧ True) ∧ ((y_2.s.clkOf y_2.k != (0 : Int)) = true → cores.Ok ∧ x.Ok ∧ kind.Ok ∧ (w.nil = true → w.len =
  (0 : Nat)) → False ∧ True ∧ ((0 : Nat) ≤ (0 : Nat) ∧ x.len = x.len ∧ ∀ (j : Nat), j < x.len → x.core j = x.core j ∧ x.kind j = x.kind j ∧ x.times j = x.times j ∧ x.wait j = x.wait j ∧ True) ∧ ((0 : Nat) ≤ (0 : Nat) ∧
  w.len = w.len ∧ ∀ (j : Nat), j < w.len → w.w j = w.w j) ∧ True) ∧ ((y_2.s.clkOf y_2.k != (0 : Int)) = false → ∀ (v : Int), v = IntKind.i64.wrap (y_2.k + (1 : Int)) → ∃ (y : KB), (Inv cores.v y.s y.r ∧ y.r.n ≤ g + (1 :
  Nat) ∧ (-1 : Int) ≤ y.k ∧ y.k ≤ cores.v + (1 : Int)) ∧ ((cores.v = cores.v ∧ ((x.nil = true → x.nil = true) ∧ (x.nil = false → x.nil = false ∧ True ∧ True ∧ (0 : Nat) = (0 : Nat) ∧ x.len = x.len ∧ x.cap = x.cap)) ∧
  kind.v = kind.v ∧ ((w.nil = true → w.nil = true) ∧ (w.nil = false → w.nil = false ∧ True ∧ True ∧ (0 : Nat) = (0 : Nat) ∧ w.len = w.len ∧ w.cap = w.cap)) ∧ (True ∧ True) ∧ (True ∧ True) ∧ (↑g : Int) = (↑g : Int) ∧ v =
  y.k ∧ True) ∧ ((0 : Nat) ≤ (0 : Nat) ∧ x.len = x.len ∧ ∀ (j : Nat), j < x.len → x.core j = x.core j ∧ x.kind j = x.kind j ∧ x.times j = x.times j ∧ x.wait j = x.wait j ∧ True) ∧ ((0 : Nat) ≤ (0 : Nat) ∧ w.len = w.len ∧ ∀
  (j : Nat), j < w.len → w.w j = w.w j) ∧ ((2 : Nat) ≤ (2 : Nat) ∧ (True ∧ True ∧ (0 : Nat) = (0 : Nat) ∧ y_2.s.n = y.s.n ∧ y_2.s.n = y.s.n) ∧ y_2.s.st = y.s.st ∧ True) ∧ (y.s.n * (10 : Nat) ≤ y_2.s.n * (10 : Nat) ∧ y.s.n
  = y_2.s.n ∧ ∀ (j : Nat), j < y_2.s.n → y_2.s.clk j = y.s.clk j ∧ ((9 : Nat) = (9 : Nat) ∧ ∀ (j_1 : Nat), j_1 < (9 : Nat) → y_2.s.by_ j j_1 = y.s.by_ j j_1) ∧ True) ∧ ((3 : Nat) ≤ (3 : Nat) ∧ y_2.r.cores = y.r.cores ∧
  (True ∧ True ∧ (0 : Nat) = (0 : Nat) ∧ y_2.r.n = y.r.n ∧ y_2.r.cap = y.r.cap) ∧ y_2.r.st = y.r.st ∧ True) ∧ (y.r.cap * (3 : Nat) ≤ y_2.r.cap * (3 : Nat) ∧ y.r.n = y_2.r.n ∧ ∀ (j : Nat), j < y_2.r.n → y_2.r.core j =
  y.r.core j ∧ y_2.r.kind j = y.r.kind j ∧ y_2.r.cyc j = y.r.cyc j ∧ True) ∧ True) ∧ (icKB x w cores.v kind.v g).μ y < (icKB x w cores.v kind.v g).μ y_2))) ∧ (decide (kind.v ≤ (0 : Int)) = false → (((True ∧ True) ∧ y_2.k =
  y_2.k ∧ True) ∧ ((2 : Nat) ≤ (2 : Nat) ∧ (True ∧ True ∧ (0 : Nat) = (0 : Nat) ∧ y_2.s.n = y_2.s.n ∧ y_2.s.n = y_2.s.n) ∧ y_2.s.st = y_2.s.st ∧ True) ∧ (y_2.s.n * (10 : Nat) ≤ y_2.s.n * (10 : Nat) ∧ y_2.s.n = y_2.s.n ∧ ∀
  (j : Nat), j < y_2.s.n → y_2.s.clk j = y_2.s.clk j ∧ ((9 : Nat) = (9 : Nat) ∧ ∀ (j_1 : Nat), j_1 < (9 : Nat) → y_2.s.by_ j j_1 = y_2.s.by_ j j_1) ∧ True) ∧ True) ∧ ((y_2.s.clkOf y_2.k != (0 : Int)) = true → cores.Ok ∧
  x.Ok ∧ kind.Ok ∧ (w.nil = true → w.len = (0 : Nat)) → False ∧ True ∧ ((0 : Nat) ≤ (0 : Nat) ∧ x.len = x.len ∧ ∀ (j : Nat), j < x.len → x.core j = x.core j ∧ x.kind j = x.kind j ∧ x.times j = x.times j ∧ x.wait j = x.wait
  j ∧ True) ∧ ((0 : Nat) ≤ (0 : Nat) ∧ w.len = w.len ∧ ∀ (j : Nat), j < w.len → w.w j = w.w j) ∧ True) ∧ ((y_2.s.clkOf y_2.k != (0 : Int)) = false → ∀ (v : Int), v = IntKind.i64.wrap (y_2.k + (1 : Int)) → ∃ (y : KB), (Inv
  cores.v y.s y.r ∧ y.r.n ≤ g + (1 : Nat) ∧ (-1 : Int) ≤ y.k ∧ y.k ≤ cores.v + (1 : Int)) ∧ ((cores.v = cores.v ∧ ((x.nil = true → x.nil = true) ∧ (x.nil = false → x.nil = false ∧ True ∧ True ∧ (0 : Nat) = (0 : Nat) ∧
  x.len = x.len ∧ x.cap = x.cap)) ∧ kind.v = kind.v ∧ ((w.nil = true → w.nil = true) ∧ (w.nil = false → w.nil = false ∧ True ∧ True ∧ (0 : Nat) = (0 : Nat) ∧ w.len = w.len ∧ w.cap = w.cap)) ∧ (True ∧ True) ∧ (True ∧ True)
  ∧ (↑g : Int) = (↑g : Int) ∧ v = y.k ∧ True) ∧ ((0 : Nat) ≤ (0 : Nat) ∧ x.len = x.len ∧ ∀ (j : Nat), j < x.len → x.core j = x.core j ∧ x.kind j = x.kind j ∧ x.times j = x.times j ∧ x.wait j = x.wait j ∧ True) ∧ ((0 : Nat)
  ≤ (0 : Nat) ∧ w.len = w.len ∧ ∀ (j : Nat), j < w.len → w.w j = w.w j) ∧ ((2 : Nat) ≤ (2 : Nat) ∧ (True ∧ True ∧ (0 : Nat) = (0 : Nat) ∧ y_2.s.n = y.s.n ∧ y_2.s.n = y.s.n) ∧ y_2.s.st = y.s.st ∧ True) ∧ (y.s.n * (10 : Nat)
  ≤ y_2.s.n * (10 : Nat) ∧ y.s.n = y_2.s.n ∧ ∀ (j : Nat), j < y_2.s.n → y_2.s.clk j = y.s.clk j ∧ ((9 : Nat) = (9 : Nat) ∧ ∀ (j_1 : Nat), j_1 < (9 : Nat) → y_2.s.by_ j j_1 = y.s.by_ j j_1) ∧ True) ∧ ((3 : Nat) ≤ (3 : Nat)
  ∧ y_2.r.cores = y.r.cores ∧ (True ∧ True ∧ (0 : Nat) = (0 : Nat) ∧ y_2.r.n = y.r.n ∧ y_2.r.cap = y.r.cap) ∧ y_2.r.st = y.r.st ∧ True) ∧ (y.r.cap * (3 : Nat) ≤ y_2.r.cap * (3 : Nat) ∧ y.r.n = y_2.r.n ∧ ∀ (j : Nat), j <
  y_2.r.n → y_2.r.core j = y.r.core j ∧ y_2.r.kind j = y.r.kind j ∧ y_2.r.cyc j = y.r.cyc j ∧ True) ∧ True) ∧ (icKB x w cores.v kind.v g).μ y < (icKB x w cores.v kind.v g).μ y_2)))) ∧ (decide (kind.v > (0 : Int)) = false →
  (decide (kind.v ≤ (0 : Int)) = true → (((True ∧ True) ∧ y_2.k = y_2.k ∧ kind.v = kind.v ∧ True) ∧ ((2 : Nat) ≤ (2 : Nat) ∧ (True ∧ True ∧ (0 : Nat) = (0 : Nat) ∧ y_2.s.n = y_2.s.n ∧ y_2.s.n = y_2.s.n) ∧ y_2.s.st =
  y_2.s.st ∧ True) ∧ (y_2.s.n * (10 : Nat) ≤ y_2.s.n * (10 : Nat) ∧ y_2.s.n = y_2.s.n ∧ ∀ (j : Nat), j < y_2.s.n → y_2.s.clk j = y_2.s.clk j ∧ ((9 : Nat) = (9 : Nat) ∧ ∀ (j_1 : Nat), j_1 < (9 : Nat) → y_2.s.by_ j j_1 =
  y_2.s.by_ j j_1) ∧ True) ∧ True) ∧ ((y_2.s.spentOf y_2.k kind.v != (0 : Int)) = true → cores.Ok ∧ x.Ok ∧ kind.Ok ∧ (w.nil = true → w.len = (0 : Nat)) → False ∧ True ∧ ((0 : Nat) ≤ (0 : Nat) ∧ x.len = x.len ∧ ∀ (j : Nat),
  j < x.len → x.core j = x.core j ∧ x.kind j = x.kind j ∧ x.times j = x.times j ∧ x.wait j = x.wait j ∧ True) ∧ ((0 : Nat) ≤ (0 : Nat) ∧ w.len = w.len ∧ ∀ (j : Nat), j < w.len → w.w j = w.w j) ∧ True) ∧ ((y_2.s.spentOf
  y_2.k kind.v != (0 : Int)) = false → (((True ∧ True) ∧ y_2.k = y_2.k ∧ True) ∧ ((2 : Nat) ≤ (2 : Nat) ∧ (True ∧ True ∧ (0 : Nat) = (0 : Nat) ∧ y_2.s.n = y_2.s.n ∧ y_2.s.n = y_2.s.n) ∧ y_2.s.st = y_2.s.st ∧ True) ∧
  (y_2.s.n * (10 : Nat) ≤ y_2.s.n * (10 : Nat) ∧ y_2.s.n = y_2.s.n ∧ ∀ (j : Nat), j < y_2.s.n → y_2.s.clk j = y_2.s.clk j ∧ ((9 : Nat) = (9 : Nat) ∧ ∀ (j_1 : Nat), j_1 < (9 : Nat) → y_2.s.by_ j j_1 = y_2.s.by_ j j_1) ∧
  True) ∧ True) ∧ ((y_2.s.clkOf y_2.k != (0 : Int)) = true → cores.Ok ∧ x.Ok ∧ kind.Ok ∧ (w.nil = true → w.len = (0 : Nat)) → False ∧ True ∧ ((0 : Nat) ≤ (0 : Nat) ∧ x.len = x.len ∧ ∀ (j : Nat), j < x.len → x.core j =
  x.core j ∧ x.kind j = x.kind j ∧ x.times j = x.times j ∧ x.wait j = x.wait j ∧ True) ∧ ((0 : Nat) ≤ (0 : Nat) ∧ w.len = w.len ∧ ∀ (j : Nat), j < w.len → w.w j = w.w j) ∧ True) ∧ ((y_2.s.clkOf y_2.k != (0 : Int)) = false
  → ∀ (v : Int), v = IntKind.i64.wrap (y_2.k + (1 : Int)) → ∃ (y : KB), (Inv cores.v y.s y.r ∧ y.r.n ≤ g + (1 : Nat) ∧ (-1 : Int) ≤ y.k ∧ y.k ≤ cores.v + (1 : Int)) ∧ ((cores.v = cores.v ∧ ((x.nil = true → x.nil = true) ∧
  (x.nil = false → x.nil = false ∧ True ∧ True ∧ (0 : Nat) = (0 : Nat) ∧ x.len = x.len ∧ x.cap = x.cap)) ∧ kind.v = kind.v ∧ ((w.nil = true → w.nil = true) ∧ (w.nil = false → w.nil = false ∧ True ∧ True ∧ (0 : Nat) = (0 :
  Nat) ∧ w.len = w.len ∧ w.cap = w.cap)) ∧ (True ∧ True) ∧ (True ∧ True) ∧ (↑g : Int) = (↑g : Int) ∧ v = y.k ∧ True) ∧ ((0 : Nat) ≤ (0 : Nat) ∧ x.len = x.len ∧ ∀ (j : Nat), j < x.len → x.core j = x.core j ∧ x.kind j =
  x.kind j ∧ x.times j = x.times j ∧ x.wait j = x.wait j ∧ True) ∧ ((0 : Nat) ≤ (0 : Nat) ∧ w.len = w.len ∧ ∀ (j : Nat), j < w.len → w.w j = w.w j) ∧ ((2 : Nat) ≤ (2 : Nat) ∧ (True ∧ True ∧ (0 : Nat) = (0 : Nat) ∧ y_2.s.n
  = y.s.n ∧ y_2.s.n = y.s.n) ∧ y_2.s.st = y.s.st ∧ True) ∧ (y.s.n * (10 : Nat) ≤ y_2.s.n * (10 : Nat) ∧ y.s.n = y_2.s.n ∧ ∀ (j : Nat), j < y_2.s.n → y_2.s.clk j = y.s.clk j ∧ ((9 : Nat) = (9 : Nat) ∧ ∀ (j_1 : Nat), j_1 <
  (9 : Nat) → y_2.s.by_ j j_1 = y.s.by_ j j_1) ∧ True) ∧ ((3 : Nat) ≤ (3 : Nat) ∧ y_2.r.cores = y.r.cores ∧ (True ∧ True ∧ (0 : Nat) = (0 : Nat) ∧ y_2.r.n = y.r.n ∧ y_2.r.cap = y.r.cap) ∧ y_2.r.st = y.r.st ∧ True) ∧
  (y.r.cap * (3 : Nat) ≤ y_2.r.cap * (3 : Nat) ∧ y.r.n = y_2.r.n ∧ ∀ (j : Nat), j < y_2.r.n → y_2.r.core j = y.r.core j ∧ y_2.r.kind j = y.r.kind j ∧ y_2.r.cyc j = y.r.cyc j ∧ True) ∧ True) ∧ (icKB x w cores.v kind.v g).μ
  y < (icKB x w cores.v kind.v g).μ y_2))) ∧ (decide (kind.v ≤ (0 : Int)) = false → (((True ∧ True) ∧ y_2.k = y_2.k ∧ True) ∧ ((2 : Nat) ≤ (2 : Nat) ∧ (True ∧ True ∧ (0 : Nat) = (0 : Nat) ∧ y_2.s.n = y_2.s.n ∧ y_2.s.n =
  y_2.s.n) ∧ y_2.s.st = y_2.s.st ∧ True) ∧ (y_2.s.n * (10 : Nat) ≤ y_2.s.n * (10 : Nat) ∧ y_2.s.n = y_2.s.n ∧ ∀ (j : Nat), j < y_2.s.n → y_2.s.clk j = y_2.s.clk j ∧ ((9 : Nat) = (9 : Nat) ∧ ∀ (j_1 : Nat), j_1 < (9 : Nat) →
  y_2.s.by_ j j_1 = y_2.s.by_ j j_1) ∧ True) ∧ True) ∧ ((y_2.s.clkOf y_2.k != (0 : Int)) = true → cores.Ok ∧ x.Ok ∧ kind.Ok ∧ (w.nil = true → w.len = (0 : Nat)) → False ∧ True ∧ ((0 : Nat) ≤ (0 : Nat) ∧ x.len = x.len ∧ ∀
  (j : Nat), j < x.len → x.core j = x.core j ∧ x.kind j = x.kind j ∧ x.times j = x.times j ∧ x.wait j = x.wait j ∧ True) ∧ ((0 : Nat) ≤ (0 : Nat) ∧ w.len = w.len ∧ ∀ (j : Nat), j < w.len → w.w j = w.w j) ∧ True) ∧
  ((y_2.s.clkOf y_2.k != (0 : Int)) = false → ∀ (v : Int), v = IntKind.i64.wrap (y_2.k + (1 : Int)) → ∃ (y : KB), (Inv cores.v y.s y.r ∧ y.r.n ≤ g + (1 : Nat) ∧ (-1 : Int) ≤ y.k ∧ y.k ≤ cores.v + (1 : Int)) ∧ ((cores.v =
  cores.v ∧ ((x.nil = true → x.nil = true) ∧ (x.nil = false → x.nil = false ∧ True ∧ True ∧ (0 : Nat) = (0 : Nat) ∧ x.len = x.len ∧ x.cap = x.cap)) ∧ kind.v = kind.v ∧ ((w.nil = true → w.nil = true) ∧ (w.nil = false →
  w.nil = false ∧ True ∧ True ∧ (0 : Nat) = (0 : Nat) ∧ w.len = w.len ∧ w.cap = w.cap)) ∧ (True ∧ True) ∧ (True ∧ True) ∧ (↑g : Int) = (↑g : Int) ∧ v = y.k ∧ True) ∧ ((0 : Nat) ≤ (0 : Nat) ∧ x.len = x.len ∧ ∀ (j : Nat), j
  < x.len → x.core j = x.core j ∧ x.kind j = x.kind j ∧ x.times j = x.times j ∧ x.wait j = x.wait j ∧ True) ∧ ((0 : Nat) ≤ (0 : Nat) ∧ w.len = w.len ∧ ∀ (j : Nat), j < w.len → w.w j = w.w j) ∧ ((2 : Nat) ≤ (2 : Nat) ∧
  (True ∧ True ∧ (0 : Nat) = (0 : Nat) ∧ y_2.s.n = y.s.n ∧ y_2.s.n = y.s.n) ∧ y_2.s.st = y.s.st ∧ True) ∧ (y.s.n * (10 : Nat) ≤ y_2.s.n * (10 : Nat) ∧ y.s.n = y_2.s.n ∧ ∀ (j : Nat), j < y_2.s.n → y_2.s.clk j = y.s.clk j ∧
  ((9 : Nat) = (9 : Nat) ∧ ∀ (j_1 : Nat), j_1 < (9 : Nat) → y_2.s.by_ j j_1 = y.s.by_ j j_1) ∧ True) ∧ ((3 : Nat) ≤ (3 : Nat) ∧ y_2.r.cores = y.r.cores ∧ (True ∧ True ∧ (0 : Nat) = (0 : Nat) ∧ y_2.r.n = y.r.n ∧ y_2.r.cap =
  y.r.cap) ∧ y_2.r.st = y.r.st ∧ True) ∧ (y.r.cap * (3 : Nat) ≤ y_2.r.cap * (3 : Nat) ∧ y.r.n = y_2.r.n ∧ ∀ (j : Nat), j < y_2.r.n → y_2.r.core j = y.r.core j ∧ y_2.r.kind j = y.r.kind j ∧ y_2.r.cyc j = y.r.cyc j ∧ True) ∧
  True) ∧ (icKB x w cores.v kind.v g).μ y < (icKB x w cores.v kind.v g).μ y_2))))))) ∧ (decide (y_2.k ≤ cores.v) = false → ∀ (v : Int), v = IntKind.i64.wrap ((↑g : Int) + (1 : Int)) → (∃ (y_3 : IA), (y_3.i ≤ x.len ∧ Inv
  cores.v y_3.s y_3.r.rs) ∧ ((cores.v = cores.v ∧ ((x.nil = true → x.nil = true) ∧ (x.nil = false → x.nil = false ∧ True ∧ True ∧ (0 : Nat) = (0 : Nat) ∧ x.len = x.len ∧ x.cap = x.cap)) ∧ kind.v = kind.v ∧ ((w.nil = true →
  w.nil = true) ∧ (w.nil = false → w.nil = false ∧ True ∧ True ∧ (0 : Nat) = (0 : Nat) ∧ w.len = w.len ∧ w.cap = w.cap)) ∧ (True ∧ True) ∧ (True ∧ True) ∧ v = (↑y_3.i : Int) ∧ True) ∧ ((0 : Nat) ≤ (0 : Nat) ∧ x.len = x.len
  ∧ ∀ (j : Nat), j < x.len → x.core j = x.core j ∧ x.kind j = x.kind j ∧ x.times j = x.times j ∧ x.wait j = x.wait j ∧ True) ∧ ((0 : Nat) ≤ (0 : Nat) ∧ w.len = w.len ∧ ∀ (j : Nat), j < w.len → w.w j = w.w j) ∧ ((2 : Nat) ≤
  (2 : Nat) ∧ (True ∧ True ∧ (0 : Nat) = (0 : Nat) ∧ y_2.s.n = y_3.s.n ∧ y_2.s.n = y_3.s.n) ∧ y_2.s.st = y_3.s.st ∧ True) ∧ (y_3.s.n * (10 : Nat) ≤ y_2.s.n * (10 : Nat) ∧ y_3.s.n = y_2.s.n ∧ ∀ (j : Nat), j < y_2.s.n →
  y_2.s.clk j = y_3.s.clk j ∧ ((9 : Nat) = (9 : Nat) ∧ ∀ (j_1 : Nat), j_1 < (9 : Nat) → y_2.s.by_ j j_1 = y_3.s.by_ j j_1) ∧ True) ∧ ((3 : Nat) ≤ (3 : Nat) ∧ y_2.r.cores = y_3.r.cores ∧ False ∧ y_2.r.st = y_3.r.st ∧ True)
  ∧ True) ∧ (icFA x w cores.v kind.v).μ y_3 < (icFA x w cores.v kind.v).μ y) ∨ ∃ (y_3 : IB), (y_3.i ≤ x.len ∧ Inv cores.v y_3.s y_3.r ∧ y_3.r.n ≤ y_3.i) ∧ ((cores.v = cores.v ∧ ((x.nil = true → x.nil = true) ∧ (x.nil =
  false → x.nil = false ∧ True ∧ True ∧ (0 : Nat) = (0 : Nat) ∧ x.len = x.len ∧ x.cap = x.cap)) ∧ kind.v = kind.v ∧ ((w.nil = true → w.nil = true) ∧ (w.nil = false → w.nil = false ∧ True ∧ True ∧ (0 : Nat) = (0 : Nat) ∧
  w.len = w.len ∧ w.cap = w.cap)) ∧ (True ∧ True) ∧ (True ∧ True) ∧ v = (↑y_3.i : Int) ∧ True) ∧ ((0 : Nat) ≤ (0 : Nat) ∧ x.len = x.len ∧ ∀ (j : Nat), j < x.len → x.core j = x.core j ∧ x.kind j = x.kind j ∧ x.times j =
  x.times j ∧ x.wait j = x.wait j ∧ True) ∧ ((0 : Nat) ≤ (0 : Nat) ∧ w.len = w.len ∧ ∀ (j : Nat), j < w.len → w.w j = w.w j) ∧ ((2 : Nat) ≤ (2 : Nat) ∧ (True ∧ True ∧ (0 : Nat) = (0 : Nat) ∧ y_2.s.n = y_3.s.n ∧ y_2.s.n =
  y_3.s.n) ∧ y_2.s.st = y_3.s.st ∧ True) ∧ (y_3.s.n * (10 : Nat) ≤ y_2.s.n * (10 : Nat) ∧ y_3.s.n = y_2.s.n ∧ ∀ (j : Nat), j < y_2.s.n → y_2.s.clk j = y_3.s.clk j ∧ ((9 : Nat) = (9 : Nat) ∧ ∀ (j_1 : Nat), j_1 < (9 : Nat) →
  y_2.s.by_ j j_1 = y_3.s.by_ j j_1) ∧ True) ∧ ((3 : Nat) ≤ (3 : Nat) ∧ y_2.r.cores = y_3.r.cores ∧ (True ∧ True ∧ (0 : Nat) = (0 : Nat) ∧ y_2.r.n = y_3.r.n ∧ y_2.r.cap = y_3.r.cap) ∧ y_2.r.st = y_3.r.st ∧ True) ∧
  (y_3.r.cap * (3 : Nat) ≤ y_2.r.cap * (3 : Nat) ∧ y_3.r.n = y_2.r.n ∧ ∀ (j : Nat), j < y_2.r.n → y_2.r.core j = y_3.r.core j ∧ y_2.r.kind j = y_3.r.kind j ∧ y_2.r.cyc j = y_3.r.cyc j ∧ True) ∧ True) ∧ (icFB x w cores.v
  kind.v).μ y_3 < (icFA x w cores.v kind.v).μ y))) ∧ (decide ((↑y.i : Int) < (↑x.len : Int)) = false → ∀ (v : Int), v = (-1 : Int) → ∀ (v_1 : Int), v_1 = (0 : Int) → (∃ (y_1 : LA), (Inv cores.v y_1.s y_1.r.rs ∧ y_1.k ≤
  y_1.s.n ∧ (y_1.k = (0 : Nat) ∨ y_1.k ≤ w.len)) ∧ ((cores.v = cores.v ∧ ((x.nil = true → x.nil = true) ∧ (x.nil = false → x.nil = false ∧ True ∧ True ∧ (0 : Nat) = (0 : Nat) ∧ x.len = x.len ∧ x.cap = x.cap)) ∧ kind.v =
  kind.v ∧ ((w.nil = true → w.nil = true) ∧ (w.nil = false → w.nil = false ∧ True ∧ True ∧ (0 : Nat) = (0 : Nat) ∧ w.len = w.len ∧ w.cap = w.cap)) ∧ (True ∧ True) ∧ (True ∧ True) ∧ v = leastF y_1.s.clk w.sel y_1.k ∧ v_1 =
  (↑y_1.k : Int) ∧ True) ∧ ((0 : Nat) ≤ (0 : Nat) ∧ x.len = x.len ∧ ∀ (j : Nat), j < x.len → x.core j = x.core j ∧ x.kind j = x.kind j ∧ x.times j = x.times j ∧ x.wait j = x.wait j ∧ True) ∧ ((0 : Nat) ≤ (0 : Nat) ∧ w.len
  = w.len ∧ ∀ (j : Nat), j < w.len → w.w j = w.w j) ∧ ((2 : Nat) ≤ (2 : Nat) ∧ (True ∧ True ∧ (0 : Nat) = (0 : Nat) ∧ y.s.n = y_1.s.n ∧ y.s.n = y_1.s.n) ∧ y.s.st = y_1.s.st ∧ True) ∧ (y_1.s.n * (10 : Nat) ≤ y.s.n * (10 :
  Nat) ∧ y_1.s.n = y.s.n ∧ ∀ (j : Nat), j < y.s.n → y.s.clk j = y_1.s.clk j ∧ ((9 : Nat) = (9 : Nat) ∧ ∀ (j_1 : Nat), j_1 < (9 : Nat) → y.s.by_ j j_1 = y_1.s.by_ j j_1) ∧ True) ∧ ((3 : Nat) ≤ (3 : Nat) ∧ y.r.cores =
  y_1.r.cores ∧ True ∧ y.r.st = y_1.r.st ∧ True) ∧ True) ∧ True) ∧ ∀ (y : LA), Inv cores.v y.s y.r.rs ∧ y.k ≤ y.s.n ∧ (y.k = (0 : Nat) ∨ y.k ≤ w.len) → (decide ((↑y.k : Int) < cores.v) = true → (w.nil = true → w.len = (0 :
  Nat)) ∧ (decide ((↑y.k : Int) < (↑w.len : Int)) = true → (w.nil = true → w.len = (0 : Nat)) ∧ ((0 : Int) ≤ (↑y.k : Int) ∧ (↑y.k : Int) < (↑w.len : Int)) ∧ (0 : Nat) + (↑y.k : Int).toNat < w.len ∧ (w.w ((0 : Nat) + (↑y.k
  : Int).toNat) = true → (decide (leastF y.s.clk w.sel y.k < (0 : Int)) = true → ∀ (v : Int), v = (↑y.k : Int) → ∀ (v_2 : Int), v_2 = IntKind.i64.wrap ((↑y.k : Int) + (1 : Int)) → ∃ (y_1 : LA), (Inv cores.v y_1.s y_1.r.rs
  ∧ y_1.k ≤ y_1.s.n ∧ (y_1.k = (0 : Nat) ∨ y_1.k ≤ w.len)) ∧ ((cores.v = cores.v ∧ ((x.nil = true → x.nil = true) ∧ (x.nil = false → x.nil = false ∧ True ∧ True ∧ (0 : Nat) = (0 : Nat) ∧ x.len = x.len ∧ x.cap = x.cap)) ∧
  kind.v = kind.v ∧ ((w.nil = true → w.nil = true) ∧ (w.nil = false → w.nil = false ∧ True ∧ True ∧ (0 : Nat) = (0 : Nat) ∧ w.len = w.len ∧ w.cap = w.cap)) ∧ (True ∧ True) ∧ (True ∧ True) ∧ v = leastF y_1.s.clk w.sel y_1.k
  ∧ v_2 = (↑y_1.k : Int) ∧ True) ∧ ((0 : Nat) ≤ (0 : Nat) ∧ x.len = x.len ∧ ∀ (j : Nat), j < x.len → x.core j = x.core j ∧ x.kind j = x.kind j ∧ x.times j = x.times j ∧ x.wait j = x.wait j ∧ True) ∧ ((0 : Nat) ≤ (0 : Nat)
  ∧ w.len = w.len ∧ ∀ (j : Nat), j < w.len → w.w j = w.w j) ∧ ((2 : Nat) ≤ (2 : Nat) ∧ (True ∧ True ∧ (0 : Nat) = (0 : Nat) ∧ y.s.n = y_1.s.n ∧ y.s.n = y_1.s.n) ∧ y.s.st = y_1.s.st ∧ True) ∧ (y_1.s.n * (10 : Nat) ≤ y.s.n *
  (10 : Nat) ∧ y_1.s.n = y.s.n ∧ ∀ (j : Nat), j < y.s.n → y.s.clk j = y_1.s.clk j ∧ ((9 : Nat) = (9 : Nat) ∧ ∀ (j_1 : Nat), j_1 < (9 : Nat) → y.s.by_ j j_1 = y_1.s.by_ j j_1) ∧ True) ∧ ((3 : Nat) ≤ (3 : Nat) ∧ y.r.cores =
  y_1.r.cores ∧ True ∧ y.r.st = y_1.r.st ∧ True) ∧ True) ∧ (icLA x w cores.v kind.v).μ y_1 < (icLA x w cores.v kind.v).μ y) ∧ (decide (leastF y.s.clk w.sel y.k < (0 : Int)) = false → (((True ∧ True) ∧ (↑y.k : Int) = (↑y.k
  : Int) ∧ True) ∧ ((3 : Nat) ≤ (3 : Nat) ∧ y.r.cores = y.r.cores ∧ True ∧ y.r.st = y.r.st ∧ True) ∧ True) ∧ (((True ∧ True) ∧ leastF y.s.clk w.sel y.k = leastF y.s.clk w.sel y.k ∧ True) ∧ ((3 : Nat) ≤ (3 : Nat) ∧
  y.r.cores = y.r.cores ∧ True ∧ y.r.st = y.r.st ∧ True) ∧ True) ∧ (decide ((0 : Int) < (0 : Int)) = true → ∀ (v : Int), v = (↑y.k : Int) → ∀ (v_2 : Int), v_2 = IntKind.i64.wrap ((↑y.k : Int) + (1 : Int)) → ∃ (y_1 : LA),
  (Inv cores.v y_1.s y_1.r.rs ∧ y_1.k ≤ y_1.s.n ∧ (y_1.k = (0 : Nat) ∨ y_1.k ≤ w.len)) ∧ ((cores.v = cores.v ∧ ((x.nil = true → x.nil = true) ∧ (x.nil = false → x.nil = false ∧ True ∧ True ∧ (0 : Nat) = (0 : Nat) ∧ x.len =
  x.len ∧ x.cap = x.cap)) ∧ kind.v = kind.v ∧ ((w.nil = true → w.nil = true) ∧ (w.nil = false → w.nil = false ∧ True ∧ True ∧ (0 : Nat) = (0 : Nat) ∧ w.len = w.len ∧ w.cap = w.cap)) ∧ (True ∧ True) ∧ (True ∧ True) ∧ v =
  leastF y_1.s.clk w.sel y_1.k ∧ v_2 = (↑y_1.k : Int) ∧ True) ∧ ((0 : Nat) ≤ (0 : Nat) ∧ x.len = x.len ∧ ∀ (j : Nat), j < x.len → x.core j = x.core j ∧ x.kind j = x.kind j ∧ x.times j = x.times j ∧ x.wait j = x.wait j ∧
  True) ∧ ((0 : Nat) ≤ (0 : Nat) ∧ w.len = w.len ∧ ∀ (j : Nat), j < w.len → w.w j = w.w j) ∧ ((2 : Nat) ≤ (2 : Nat) ∧ (True ∧ True ∧ (0 : Nat) = (0 : Nat) ∧ y.s.n = y_1.s.n ∧ y.s.n = y_1.s.n) ∧ y.s.st = y_1.s.st ∧ True) ∧
  (y_1.s.n * (10 : Nat) ≤ y.s.n * (10 : Nat) ∧ y_1.s.n = y.s.n ∧ ∀ (j : Nat), j < y.s.n → y.s.clk j = y_1.s.clk j ∧ ((9 : Nat) = (9 : Nat) ∧ ∀ (j_1 : Nat), j_1 < (9 : Nat) → y.s.by_ j j_1 = y_1.s.by_ j j_1) ∧ True) ∧ ((3 :
  Nat) ≤ (3 : Nat) ∧ y.r.cores = y_1.r.cores ∧ True ∧ y.r.st = y_1.r.st ∧ True) ∧ True) ∧ (icLA x w cores.v kind.v).μ y_1 < (icLA x w cores.v kind.v).μ y) ∧ (decide ((0 : Int) < (0 : Int)) = false → ∀ (v : Int), v =
  IntKind.i64.wrap ((↑y.k : Int) + (1 : Int)) → ∃ (y_1 : LA), (Inv cores.v y_1.s y_1.r.rs ∧ y_1.k ≤ y_1.s.n ∧ (y_1.k = (0 : Nat) ∨ y_1.k ≤ w.len)) ∧ ((cores.v = cores.v ∧ ((x.nil = true → x.nil = true) ∧ (x.nil = false →
  x.nil = false ∧ True ∧ True ∧ (0 : Nat) = (0 : Nat) ∧ x.len = x.len ∧ x.cap = x.cap)) ∧ kind.v = kind.v ∧ ((w.nil = true → w.nil = true) ∧ (w.nil = false → w.nil = false ∧ True ∧ True ∧ (0 : Nat) = (0 : Nat) ∧ w.len =
  w.len ∧ w.cap = w.cap)) ∧ (True ∧ True) ∧ (True ∧ True) ∧ leastF y.s.clk w.sel y.k = leastF y_1.s.clk w.sel y_1.k ∧ v = (↑y_1.k : Int) ∧ True) ∧ ((0 : Nat) ≤ (0 : Nat) ∧ x.len = x.len ∧ ∀ (j : Nat), j < x.len → x.core j
  = x.core j ∧ x.kind j = x.kind j ∧ x.times j = x.times j ∧ x.wait j = x.wait j ∧ True) ∧ ((0 : Nat) ≤ (0 : Nat) ∧ w.len = w.len ∧ ∀ (j : Nat), j < w.len → w.w j = w.w j) ∧ ((2 : Nat) ≤ (2 : Nat) ∧ (True ∧ True ∧ (0 :
  Nat) = (0 : Nat) ∧ y.s.n = y_1.s.n ∧ y.s.n = y_1.s.n) ∧ y.s.st = y_1.s.st ∧ True) ∧ (y_1.s.n * (10 : Nat) ≤ y.s.n * (10 : Nat) ∧ y_1.s.n = y.s.n ∧ ∀ (j : Nat), j < y.s.n → y.s.clk j = y_1.s.clk j ∧ ((9 : Nat) = (9 : Nat)
  ∧ ∀ (j_1 : Nat), j_1 < (9 : Nat) → y.s.by_ j j_1 = y_1.s.by_ j j_1) ∧ True) ∧ ((3 : Nat) ≤ (3 : Nat) ∧ y.r.cores = y_1.r.cores ∧ True ∧ y.r.st = y_1.r.st ∧ True) ∧ True) ∧ (icLA x w cores.v kind.v).μ y_1 < (icLA x w
  cores.v kind.v).μ y))) ∧ (w.w ((0 : Nat) + (↑y.k : Int).toNat) = false → ∀ (v : Int), v = IntKind.i64.wrap ((↑y.k : Int) + (1 : Int)) → ∃ (y_1 : LA), (Inv cores.v y_1.s y_1.r.rs ∧ y_1.k ≤ y_1.s.n ∧ (y_1.k = (0 : Nat) ∨
  y_1.k ≤ w.len)) ∧ ((cores.v = cores.v ∧ ((x.nil = true → x.nil = true) ∧ (x.nil = false → x.nil = false ∧ True ∧ True ∧ (0 : Nat) = (0 : Nat) ∧ x.len = x.len ∧ x.cap = x.cap)) ∧ kind.v = kind.v ∧ ((w.nil = true → w.nil =
  true) ∧ (w.nil = false → w.nil = false ∧ True ∧ True ∧ (0 : Nat) = (0 : Nat) ∧ w.len = w.len ∧ w.cap = w.cap)) ∧ (True ∧ True) ∧ (True ∧ True) ∧ leastF y.s.clk w.sel y.k = leastF y_1.s.clk w.sel y_1.k ∧ v = (↑y_1.k :
  Int) ∧ True) ∧ ((0 : Nat) ≤ (0 : Nat) ∧ x.len = x.len ∧ ∀ (j : Nat), j < x.len → x.core j = x.core j ∧ x.kind j = x.kind j ∧ x.times j = x.times j ∧ x.wait j = x.wait j ∧ True) ∧ ((0 : Nat) ≤ (0 : Nat) ∧ w.len = w.len ∧
  ∀ (j : Nat), j < w.len → w.w j = w.w j) ∧ ((2 : Nat) ≤ (2 : Nat) ∧ (True ∧ True ∧ (0 : Nat) = (0 : Nat) ∧ y.s.n = y_1.s.n ∧ y.s.n = y_1.s.n) ∧ y.s.st = y_1.s.st ∧ True) ∧ (y_1.s.n * (10 : Nat) ≤ y.s.n * (10 : Nat) ∧
  y_1.s.n = y.s.n ∧ ∀ (j : Nat), j < y.s.n → y.s.clk j = y_1.s.clk j ∧ ((9 : Nat) = (9 : Nat) ∧ ∀ (j_1 : Nat), j_1 < (9 : Nat) → y.s.by_ j j_1 = y_1.s.by_ j j_1) ∧ True) ∧ ((3 : Nat) ≤ (3 : Nat) ∧ y.r.cores = y_1.r.cores ∧
  True ∧ y.r.st = y_1.r.st ∧ True) ∧ True) ∧ (icLA x w cores.v kind.v).μ y_1 < (icLA x w cores.v kind.v).μ y)) ∧ (decide ((↑y.k : Int) < (↑w.len : Int)) = false → (((True ∧ True) ∧ ((w.nil = true → w.nil = true) ∧ (w.nil =
  false → w.nil = false ∧ True ∧ True ∧ (0 : Nat) = (0 : Nat) ∧ w.len = w.len ∧ w.cap = w.cap)) ∧ True) ∧ ((2 : Nat) ≤ (2 : Nat) ∧ (True ∧ True ∧ (0 : Nat) = (0 : Nat) ∧ y.s.n = y.s.n ∧ y.s.n = y.s.n) ∧ y.s.st = y.s.st ∧
  True) ∧ (y.s.n * (10 : Nat) ≤ y.s.n * (10 : Nat) ∧ y.s.n = y.s.n ∧ ∀ (j : Nat), j < y.s.n → y.s.clk j = y.s.clk j ∧ ((9 : Nat) = (9 : Nat) ∧ ∀ (j_1 : Nat), j_1 < (9 : Nat) → y.s.by_ j j_1 = y.s.by_ j j_1) ∧ True) ∧ ((0 :
  Nat) ≤ (0 : Nat) ∧ w.len = w.len ∧ ∀ (j : Nat), j < w.len → w.w j = w.w j) ∧ True) ∧ (w.nil = true → w.len = (0 : Nat)) ∧ (w.len ≤ (1000 : Nat) ∧ y.s.n ≤ (4 : Nat)) ∧ ((leastF (fun (j : Nat) => y.s.clk j) w.sel y.s.n ==
  leastF y.s.clk w.sel y.k) = true → ((kind.v = kind.v ∧ True) ∧ True) ∧ ((kind.v = kind.v ∧ True) ∧ True) ∧ (cores.Ok ∧ x.Ok ∧ kind.Ok ∧ (w.nil = true → w.len = (0 : Nat)) → (cost kind.v == cost kind.v) = true ∧ True ∧
  ((0 : Nat) ≤ (0 : Nat) ∧ x.len = x.len ∧ ∀ (j : Nat), j < x.len → x.core j = x.core j ∧ x.kind j = x.kind j ∧ x.times j = x.times j ∧ x.wait j = x.wait j ∧ True) ∧ ((0 : Nat) ≤ (0 : Nat) ∧ w.len = w.len ∧ ∀ (j : Nat), j
  < w.len → w.w j = w.w j) ∧ True)) ∧ ((leastF (fun (j : Nat) => y.s.clk j) w.sel y.s.n == leastF y.s.clk w.sel y.k) = false → cores.Ok ∧ x.Ok ∧ kind.Ok ∧ (w.nil = true → w.len = (0 : Nat)) → False ∧ True ∧ ((0 : Nat) ≤ (0
  : Nat) ∧ x.len = x.len ∧ ∀ (j : Nat), j < x.len → x.core j = x.core j ∧ x.kind j = x.kind j ∧ x.times j = x.times j ∧ x.wait j = x.wait j ∧ True) ∧ ((0 : Nat) ≤ (0 : Nat) ∧ w.len = w.len ∧ ∀ (j : Nat), j < w.len → w.w j
  = w.w j) ∧ True))) ∧ (decide ((↑y.k : Int) < cores.v) = false → (((True ∧ True) ∧ ((w.nil = true → w.nil = true) ∧ (w.nil = false → w.nil = false ∧ True ∧ True ∧ (0 : Nat) = (0 : Nat) ∧ w.len = w.len ∧ w.cap = w.cap)) ∧
  True) ∧ ((2 : Nat) ≤ (2 : Nat) ∧ (True ∧ True ∧ (0 : Nat) = (0 : Nat) ∧ y.s.n = y.s.n ∧ y.s.n = y.s.n) ∧ y.s.st = y.s.st ∧ True) ∧ (y.s.n * (10 : Nat) ≤ y.s.n * (10 : Nat) ∧ y.s.n = y.s.n ∧ ∀ (j : Nat), j < y.s.n →
  y.s.clk j = y.s.clk j ∧ ((9 : Nat) = (9 : Nat) ∧ ∀ (j_1 : Nat), j_1 < (9 : Nat) → y.s.by_ j j_1 = y.s.by_ j j_1) ∧ True) ∧ ((0 : Nat) ≤ (0 : Nat) ∧ w.len = w.len ∧ ∀ (j : Nat), j < w.len → w.w j = w.w j) ∧ True) ∧ (w.nil
  = true → w.len = (0 : Nat)) ∧ (w.len ≤ (1000 : Nat) ∧ y.s.n ≤ (4 : Nat)) ∧ ((leastF (fun (j : Nat) => y.s.clk j) w.sel y.s.n == leastF y.s.clk w.sel y.k) = true → ((kind.v = kind.v ∧ True) ∧ True) ∧ ((kind.v = kind.v ∧
  True) ∧ True) ∧ (cores.Ok ∧ x.Ok ∧ kind.Ok ∧ (w.nil = true → w.len = (0 : Nat)) → (cost kind.v == cost kind.v) = true ∧ True ∧ ((0 : Nat) ≤ (0 : Nat) ∧ x.len = x.len ∧ ∀ (j : Nat), j < x.len → x.core j = x.core j ∧
  x.kind j = x.kind j ∧ x.times j = x.times j ∧ x.wait j = x.wait j ∧ True) ∧ ((0 : Nat) ≤ (0 : Nat) ∧ w.len = w.len ∧ ∀ (j : Nat), j < w.len → w.w j = w.w j) ∧ True)) ∧ ((leastF (fun (j : Nat) => y.s.clk j) w.sel y.s.n ==
  leastF y.s.clk w.sel y.k) = false → cores.Ok ∧ x.Ok ∧ kind.Ok ∧ (w.nil = true → w.len = (0 : Nat)) → False ∧ True ∧ ((0 : Nat) ≤ (0 : Nat) ∧ x.len = x.len ∧ ∀ (j : Nat), j < x.len → x.core j = x.core j ∧ x.kind j =
  x.kind j ∧ x.times j = x.times j ∧ x.wait j = x.wait j ∧ True) ∧ ((0 : Nat) ≤ (0 : Nat) ∧ w.len = w.len ∧ ∀ (j : Nat), j < w.len → w.w j = w.w j) ∧ True)))) ∧ ∀ (y : IB), y.i ≤ x.len ∧ Inv cores.v y.s y.r ∧ y.r.n ≤ y.i →
  (x.nil = true → x.len = (0 : Nat)) ∧ (decide ((↑y.i : Int) < (↑x.len : Int)) = true → ∃ (g : Nat), (∃ (g_1 : Nat), ((x.nil = true → x.len = (0 : Nat)) ∧ ((0 : Int) ≤ (↑y.i : Int) ∧ (↑y.i : Int) < (↑x.len : Int)) ∧ (0 :
  Nat) + (↑y.i : Int).toNat < x.len ∧ ((∃ (y_1 : IB), (y_1.i = g_1 ∧ g_1 < x.len ∧ x.wait g_1 = true ∧ Inv cores.v y_1.s y_1.r ∧ y_1.r.n ≤ y_1.i) ∧ ((cores.v = cores.v ∧ ((x.nil = true → x.nil = true) ∧ (x.nil = false →
  x.nil = false ∧ True ∧ True ∧ (0 : Nat) = (0 : Nat) ∧ x.len = x.len ∧ x.cap = x.cap)) ∧ kind.v = kind.v ∧ ((w.nil = true → w.nil = true) ∧ (w.nil = false → w.nil = false ∧ True ∧ True ∧ (0 : Nat) = (0 : Nat) ∧ w.len =
  w.len ∧ w.cap = w.cap)) ∧ (True ∧ True) ∧ (True ∧ True) ∧ (↑y.i : Int) = (↑y_1.i : Int) ∧ (True ∧ True) ∧ True) ∧ ((0 : Nat) ≤ (0 : Nat) ∧ x.len = x.len ∧ ∀ (j : Nat), j < x.len → x.core j = x.core j ∧ x.kind j = x.kind
  j ∧ x.times j = x.times j ∧ x.wait j = x.wait j ∧ True) ∧ ((0 : Nat) ≤ (0 : Nat) ∧ w.len = w.len ∧ ∀ (j : Nat), j < w.len → w.w j = w.w j) ∧ ((2 : Nat) ≤ (2 : Nat) ∧ (True ∧ True ∧ (0 : Nat) = (0 : Nat) ∧ y.s.n = y_1.s.n
  ∧ y.s.n = y_1.s.n) ∧ y.s.st = y_1.s.st ∧ True) ∧ (y_1.s.n * (10 : Nat) ≤ y.s.n * (10 : Nat) ∧ y_1.s.n = y.s.n ∧ ∀ (j : Nat), j < y.s.n → y.s.clk j = y_1.s.clk j ∧ ((9 : Nat) = (9 : Nat) ∧ ∀ (j_1 : Nat), j_1 < (9 : Nat) →
  y.s.by_ j j_1 = y_1.s.by_ j j_1) ∧ True) ∧ ((3 : Nat) ≤ (3 : Nat) ∧ y.r.cores = y_1.r.cores ∧ (True ∧ True ∧ (0 : Nat) = (0 : Nat) ∧ y.r.n = y_1.r.n ∧ y.r.cap = y_1.r.cap) ∧ y.r.st = y_1.r.st ∧ True) ∧ (y_1.r.cap * (3 :
  Nat) ≤ y.r.cap * (3 : Nat) ∧ y_1.r.n = y.r.n ∧ ∀ (j : Nat), j < y.r.n → y.r.core j = y_1.r.core j ∧ y.r.kind j = y_1.r.kind j ∧ y.r.cyc j = y_1.r.cyc j ∧ True) ∧ ((4 : Nat) ≤ (4 : Nat) ∧ x.core ((0 : Nat) + (↑y.i :
  Int).toNat) = x.core y_1.i ∧ x.kind ((0 : Nat) + (↑y.i : Int).toNat) = x.kind y_1.i ∧ x.times ((0 : Nat) + (↑y.i : Int).toNat) = x.times y_1.i ∧ x.wait ((0 : Nat) + (↑y.i : Int).toNat) = true ∧ True) ∧ True) ∧ True) ∨ ∃
  (y_1 : IB), (y_1.i = g_1 ∧ g_1 < x.len ∧ x.wait g_1 = false ∧ Inv cores.v y_1.s y_1.r ∧ y_1.r.n ≤ y_1.i) ∧ ((cores.v = cores.v ∧ ((x.nil = true → x.nil = true) ∧ (x.nil = false → x.nil = false ∧ True ∧ True ∧ (0 : Nat) =
  (0 : Nat) ∧ x.len = x.len ∧ x.cap = x.cap)) ∧ kind.v = kind.v ∧ ((w.nil = true → w.nil = true) ∧ (w.nil = false → w.nil = false ∧ True ∧ True ∧ (0 : Nat) = (0 : Nat) ∧ w.len = w.len ∧ w.cap = w.cap)) ∧ (True ∧ True) ∧
  (True ∧ True) ∧ (↑y.i : Int) = (↑y_1.i : Int) ∧ (True ∧ True) ∧ True) ∧ ((0 : Nat) ≤ (0 : Nat) ∧ x.len = x.len ∧ ∀ (j : Nat), j < x.len → x.core j = x.core j ∧ x.kind j = x.kind j ∧ x.times j = x.times j ∧ x.wait j =
  x.wait j ∧ True) ∧ ((0 : Nat) ≤ (0 : Nat) ∧ w.len = w.len ∧ ∀ (j : Nat), j < w.len → w.w j = w.w j) ∧ ((2 : Nat) ≤ (2 : Nat) ∧ (True ∧ True ∧ (0 : Nat) = (0 : Nat) ∧ y.s.n = y_1.s.n ∧ y.s.n = y_1.s.n) ∧ y.s.st = y_1.s.st
  ∧ True) ∧ (y_1.s.n * (10 : Nat) ≤ y.s.n * (10 : Nat) ∧ y_1.s.n = y.s.n ∧ ∀ (j : Nat), j < y.s.n → y.s.clk j = y_1.s.clk j ∧ ((9 : Nat) = (9 : Nat) ∧ ∀ (j_1 : Nat), j_1 < (9 : Nat) → y.s.by_ j j_1 = y_1.s.by_ j j_1) ∧
  True) ∧ ((3 : Nat) ≤ (3 : Nat) ∧ y.r.cores = y_1.r.cores ∧ (True ∧ True ∧ (0 : Nat) = (0 : Nat) ∧ y.r.n = y_1.r.n ∧ y.r.cap = y_1.r.cap) ∧ y.r.st = y_1.r.st ∧ True) ∧ (y_1.r.cap * (3 : Nat) ≤ y.r.cap * (3 : Nat) ∧
  y_1.r.n = y.r.n ∧ ∀ (j : Nat), j < y.r.n → y.r.core j = y_1.r.core j ∧ y.r.kind j = y_1.r.kind j ∧ y.r.cyc j = y_1.r.cyc j ∧ True) ∧ ((4 : Nat) ≤ (4 : Nat) ∧ x.core ((0 : Nat) + (↑y.i : Int).toNat) = x.core y_1.i ∧
  x.kind ((0 : Nat) + (↑y.i : Int).toNat) = x.kind y_1.i ∧ x.times ((0 : Nat) + (↑y.i : Int).toNat) = x.times y_1.i ∧ x.wait ((0 : Nat) + (↑y.i : Int).toNat) = false ∧ True) ∧ True) ∧ True)) ∧ (∀ (y : IB), y.i = g_1 ∧ g_1
  < x.len ∧ x.wait g_1 = true ∧ Inv cores.v y.s y.r ∧ y.r.n ≤ y.i → (((True ∧ True) ∧ x.core y.i = x.core y.i ∧ x.times y.i = x.times y.i ∧ True) ∧ ((2 : Nat) ≤ (2 : Nat) ∧ (True ∧ True ∧ (0 : Nat) = (0 : Nat) ∧ y.s.n =
  y.s.n ∧ y.s.n = y.s.n) ∧ y.s.st = y.s.st ∧ True) ∧ (y.s.n * (10 : Nat) ≤ y.s.n * (10 : Nat) ∧ y.s.n = y.s.n ∧ ∀ (j : Nat), j < y.s.n → y.s.clk j = y.s.clk j ∧ ((9 : Nat) = (9 : Nat) ∧ ∀ (j_1 : Nat), j_1 < (9 : Nat) →
  y.s.by_ j j_1 = y.s.by_ j j_1) ∧ True) ∧ True) ∧ (y.s.Ok ∧ (0 : Int) ≤ x.times y.i ∧ x.times y.i < (18446744073709551616 : Int)) ∧ ∀ (x_2 : Int × MS), x_2 = y.s.wait (x.core y.i) (x.times y.i) → (((True ∧ True) ∧ x.core
  y.i = x.core y.i ∧ x.times y.i = x.times y.i ∧ True) ∧ ((3 : Nat) ≤ (3 : Nat) ∧ y.r.cores = y.r.cores ∧ (True ∧ True ∧ (0 : Nat) = (0 : Nat) ∧ y.r.n = y.r.n ∧ y.r.cap = y.r.cap) ∧ y.r.st = y.r.st ∧ True) ∧ (y.r.cap * (3
  : Nat) ≤ y.r.cap * (3 : Nat) ∧ y.r.n = y.r.n ∧ ∀ (j : Nat), j < y.r.n → y.r.core j = y.r.core j ∧ y.r.kind j = y.r.kind j ∧ y.r.cyc j = y.r.cyc j ∧ True) ∧ True) ∧ (y.r.Ok ∧ (0 : Int) ≤ x.times y.i ∧ x.times y.i <
  (18446744073709551616 : Int)) ∧ (y.r.bad (x.core y.i) → ((x_2.fst != (11 : Int)) = true → cores.Ok ∧ x.Ok ∧ kind.Ok ∧ (w.nil = true → w.len = (0 : Nat)) → False ∧ True ∧ ((0 : Nat) ≤ (0 : Nat) ∧ x.len = x.len ∧ ∀ (j :
  Nat), j < x.len → x.core j = x.core j ∧ x.kind j = x.kind j ∧ x.times j = x.times j ∧ x.wait j = x.wait j ∧ True) ∧ ((0 : Nat) ≤ (0 : Nat) ∧ w.len = w.len ∧ ∀ (j : Nat), j < w.len → w.w j = w.w j) ∧ True) ∧ ((x_2.fst !=
  (11 : Int)) = false → ∃ (y_1 : IB), (y_1.i = g ∧ Inv cores.v y_1.s y_1.r ∧ y_1.r.n ≤ y_1.i + (1 : Nat)) ∧ ((cores.v = cores.v ∧ ((x.nil = true → x.nil = true) ∧ (x.nil = false → x.nil = false ∧ True ∧ True ∧ (0 : Nat) =
  (0 : Nat) ∧ x.len = x.len ∧ x.cap = x.cap)) ∧ kind.v = kind.v ∧ ((w.nil = true → w.nil = true) ∧ (w.nil = false → w.nil = false ∧ True ∧ True ∧ (0 : Nat) = (0 : Nat) ∧ w.len = w.len ∧ w.cap = w.cap)) ∧ (True ∧ True) ∧
  (True ∧ True) ∧ (↑y.i : Int) = (↑y_1.i : Int) ∧ True) ∧ ((0 : Nat) ≤ (0 : Nat) ∧ x.len = x.len ∧ ∀ (j : Nat), j < x.len → x.core j = x.core j ∧ x.kind j = x.kind j ∧ x.times j = x.times j ∧ x.wait j = x.wait j ∧ True) ∧
  ((0 : Nat) ≤ (0 : Nat) ∧ w.len = w.len ∧ ∀ (j : Nat), j < w.len → w.w j = w.w j) ∧ ((2 : Nat) ≤ (2 : Nat) ∧ (True ∧ True ∧ (0 : Nat) = (0 : Nat) ∧ x_2.snd.n = y_1.s.n ∧ x_2.snd.n = y_1.s.n) ∧ x_2.snd.st = y_1.s.st ∧
  True) ∧ (y_1.s.n * (10 : Nat) ≤ y.s.n * (10 : Nat) ∧ y_1.s.n = x_2.snd.n ∧ ∀ (j : Nat), j < x_2.snd.n → x_2.snd.clk j = y_1.s.clk j ∧ ((9 : Nat) = (9 : Nat) ∧ ∀ (j_1 : Nat), j_1 < (9 : Nat) → x_2.snd.by_ j j_1 =
  y_1.s.by_ j j_1) ∧ True) ∧ ((3 : Nat) ≤ (3 : Nat) ∧ y.r.cores = y_1.r.cores ∧ (True ∧ True ∧ (0 : Nat) = (0 : Nat) ∧ y.r.n = y_1.r.n ∧ y.r.cap = y_1.r.cap) ∧ y.r.st = y_1.r.st ∧ True) ∧ (y_1.r.cap * (3 : Nat) ≤ y.r.cap *
  (3 : Nat) ∧ y_1.r.n = y.r.n ∧ ∀ (j : Nat), j < y.r.n → y.r.core j = y_1.r.core j ∧ y.r.kind j = y_1.r.kind j ∧ y.r.cyc j = y_1.r.cyc j ∧ True) ∧ True) ∧ True)) ∧ (¬y.r.bad (x.core y.i) → (y.r.st = true → ((x_2.fst != (22
  : Int)) = true → cores.Ok ∧ x.Ok ∧ kind.Ok ∧ (w.nil = true → w.len = (0 : Nat)) → False ∧ True ∧ ((0 : Nat) ≤ (0 : Nat) ∧ x.len = x.len ∧ ∀ (j : Nat), j < x.len → x.core j = x.core j ∧ x.kind j = x.kind j ∧ x.times j =
  x.times j ∧ x.wait j = x.wait j ∧ True) ∧ ((0 : Nat) ≤ (0 : Nat) ∧ w.len = w.len ∧ ∀ (j : Nat), j < w.len → w.w j = w.w j) ∧ True) ∧ ((x_2.fst != (22 : Int)) = false → ∃ (y_1 : IB), (y_1.i = g ∧ Inv cores.v y_1.s y_1.r ∧
  y_1.r.n ≤ y_1.i + (1 : Nat)) ∧ ((cores.v = cores.v ∧ ((x.nil = true → x.nil = true) ∧ (x.nil = false → x.nil = false ∧ True ∧ True ∧ (0 : Nat) = (0 : Nat) ∧ x.len = x.len ∧ x.cap = x.cap)) ∧ kind.v = kind.v ∧ ((w.nil =
  true → w.nil = true) ∧ (w.nil = false → w.nil = false ∧ True ∧ True ∧ (0 : Nat) = (0 : Nat) ∧ w.len = w.len ∧ w.cap = w.cap)) ∧ (True ∧ True) ∧ (True ∧ True) ∧ (↑y.i : Int) = (↑y_1.i : Int) ∧ True) ∧ ((0 : Nat) ≤ (0 :
  Nat) ∧ x.len = x.len ∧ ∀ (j : Nat), j < x.len → x.core j = x.core j ∧ x.kind j = x.kind j ∧ x.times j = x.times j ∧ x.wait j = x.wait j ∧ True) ∧ ((0 : Nat) ≤ (0 : Nat) ∧ w.len = w.len ∧ ∀ (j : Nat), j < w.len → w.w j =
  w.w j) ∧ ((2 : Nat) ≤ (2 : Nat) ∧ (True ∧ True ∧ (0 : Nat) = (0 : Nat) ∧ x_2.snd.n = y_1.s.n ∧ x_2.snd.n = y_1.s.n) ∧ x_2.snd.st = y_1.s.st ∧ True) ∧ (y_1.s.n * (10 : Nat) ≤ y.s.n * (10 : Nat) ∧ y_1.s.n = x_2.snd.n ∧ ∀
  (j : Nat), j < x_2.snd.n → x_2.snd.clk j = y_1.s.clk j ∧ ((9 : Nat) = (9 : Nat) ∧ ∀ (j_1 : Nat), j_1 < (9 : Nat) → x_2.snd.by_ j j_1 = y_1.s.by_ j j_1) ∧ True) ∧ ((3 : Nat) ≤ (3 : Nat) ∧ y.r.cores = y_1.r.cores ∧ (True ∧
  True ∧ (0 : Nat) = (0 : Nat) ∧ y.r.n = y_1.r.n ∧ y.r.cap = y_1.r.cap) ∧ y.r.st = y_1.r.st ∧ True) ∧ (y_1.r.cap * (3 : Nat) ≤ y.r.cap * (3 : Nat) ∧ y_1.r.n = y.r.n ∧ ∀ (j : Nat), j < y.r.n → y.r.core j = y_1.r.core j ∧
  y.r.kind j = y_1.r.kind j ∧ y.r.cyc j = y_1.r.cyc j ∧ True) ∧ True) ∧ True)) ∧ (¬y.r.st = true → (x.times y.i ≤ y.r.sum (x.core y.i) (-1 : Int) → ((x_2.fst != (0 : Int)) = true → cores.Ok ∧ x.Ok ∧ kind.Ok ∧ (w.nil = true
  → w.len = (0 : Nat)) → False ∧ True ∧ ((0 : Nat) ≤ (0 : Nat) ∧ x.len = x.len ∧ ∀ (j : Nat), j < x.len → x.core j = x.core j ∧ x.kind j = x.kind j ∧ x.times j = x.times j ∧ x.wait j = x.wait j ∧ True) ∧ ((0 : Nat) ≤ (0 :
  Nat) ∧ w.len = w.len ∧ ∀ (j : Nat), j < w.len → w.w j = w.w j) ∧ True) ∧ ((x_2.fst != (0 : Int)) = false → ∃ (y_1 : IB), (y_1.i = g ∧ Inv cores.v y_1.s y_1.r ∧ y_1.r.n ≤ y_1.i + (1 : Nat)) ∧ ((cores.v = cores.v ∧ ((x.nil
  = true → x.nil = true) ∧ (x.nil = false → x.nil = false ∧ True ∧ True ∧ (0 : Nat) = (0 : Nat) ∧ x.len = x.len ∧ x.cap = x.cap)) ∧ kind.v = kind.v ∧ ((w.nil = true → w.nil = true) ∧ (w.nil = false → w.nil = false ∧ True ∧
  True ∧ (0 : Nat) = (0 : Nat) ∧ w.len = w.len ∧ w.cap = w.cap)) ∧ (True ∧ True) ∧ (True ∧ True) ∧ (↑y.i : Int) = (↑y_1.i : Int) ∧ True) ∧ ((0 : Nat) ≤ (0 : Nat) ∧ x.len = x.len ∧ ∀ (j : Nat), j < x.len → x.core j = x.core
  j ∧ x.kind j = x.kind j ∧ x.times j = x.times j ∧ x.wait j = x.wait j ∧ True) ∧ ((0 : Nat) ≤ (0 : Nat) ∧ w.len = w.len ∧ ∀ (j : Nat), j < w.len → w.w j = w.w j) ∧ ((2 : Nat) ≤ (2 : Nat) ∧ (True ∧ True ∧ (0 : Nat) = (0 :
  Nat) ∧ x_2.snd.n = y_1.s.n ∧ x_2.snd.n = y_1.s.n) ∧ x_2.snd.st = y_1.s.st ∧ True) ∧ (y_1.s.n * (10 : Nat) ≤ y.s.n * (10 : Nat) ∧ y_1.s.n = x_2.snd.n ∧ ∀ (j : Nat), j < x_2.snd.n → x_2.snd.clk j = y_1.s.clk j ∧ ((9 : Nat)
  = (9 : Nat) ∧ ∀ (j_1 : Nat), j_1 < (9 : Nat) → x_2.snd.by_ j j_1 = y_1.s.by_ j j_1) ∧ True) ∧ ((3 : Nat) ≤ (3 : Nat) ∧ y.r.cores = y_1.r.cores ∧ (True ∧ True ∧ (0 : Nat) = (0 : Nat) ∧ y.r.n = y_1.r.n ∧ y.r.cap =
  y_1.r.cap) ∧ y.r.st = y_1.r.st ∧ True) ∧ (y_1.r.cap * (3 : Nat) ≤ y.r.cap * (3 : Nat) ∧ y_1.r.n = y.r.n ∧ ∀ (j : Nat), j < y.r.n → y.r.core j = y_1.r.core j ∧ y.r.kind j = y_1.r.kind j ∧ y.r.cyc j = y_1.r.cyc j ∧ True) ∧
  True) ∧ True)) ∧ (¬x.times y.i ≤ y.r.sum (x.core y.i) (-1 : Int) → ∀ (x_3 : Nat), y.r.n + (1 : Nat) ≤ x_3 → ((x_2.fst != if y.r.left (x.core y.i) ≤ x.times y.i - y.r.sum (x.core y.i) (-1 : Int) then (22 : Int) else (0 :
  Int)) = true → cores.Ok ∧ x.Ok ∧ kind.Ok ∧ (w.nil = true → w.len = (0 : Nat)) → False ∧ True ∧ ((0 : Nat) ≤ (0 : Nat) ∧ x.len = x.len ∧ ∀ (j : Nat), j < x.len → x.core j = x.core j ∧ x.kind j = x.kind j ∧ x.times j =
  x.times j ∧ x.wait j = x.wait j ∧ True) ∧ ((0 : Nat) ≤ (0 : Nat) ∧ w.len = w.len ∧ ∀ (j : Nat), j < w.len → w.w j = w.w j) ∧ True) ∧ ((x_2.fst != if y.r.left (x.core y.i) ≤ x.times y.i - y.r.sum (x.core y.i) (-1 : Int)
  then (22 : Int) else (0 : Int)) = false → ∃ (y_1 : IB), (y_1.i = g ∧ Inv cores.v y_1.s y_1.r ∧ y_1.r.n ≤ y_1.i + (1 : Nat)) ∧ ((cores.v = cores.v ∧ ((x.nil = true → x.nil = true) ∧ (x.nil = false → x.nil = false ∧ True ∧
  True ∧ (0 : Nat) = (0 : Nat) ∧ x.len = x.len ∧ x.cap = x.cap)) ∧ kind.v = kind.v ∧ ((w.nil = true → w.nil = true) ∧ (w.nil = false → w.nil = false ∧ True ∧ True ∧ (0 : Nat) = (0 : Nat) ∧ w.len = w.len ∧ w.cap = w.cap)) ∧
  (True ∧ True) ∧ (True ∧ True) ∧ (↑y.i : Int) = (↑y_1.i : Int) ∧ True) ∧ ((0 : Nat) ≤ (0 : Nat) ∧ x.len = x.len ∧ ∀ (j : Nat), j < x.len → x.core j = x.core j ∧ x.kind j = x.kind j ∧ x.times j = x.times j ∧ x.wait j =
  x.wait j ∧ True) ∧ ((0 : Nat) ≤ (0 : Nat) ∧ w.len = w.len ∧ ∀ (j : Nat), j < w.len → w.w j = w.w j) ∧ ((2 : Nat) ≤ (2 : Nat) ∧ (True ∧ True ∧ (0 : Nat) = (0 : Nat) ∧ x_2.snd.n = y_1.s.n ∧ x_2.snd.n = y_1.s.n) ∧
  x_2.snd.st = y_1.s.st ∧ True) ∧ (y_1.s.n * (10 : Nat) ≤ y.s.n * (10 : Nat) ∧ y_1.s.n = x_2.snd.n ∧ ∀ (j : Nat), j < x_2.snd.n → x_2.snd.clk j = y_1.s.clk j ∧ ((9 : Nat) = (9 : Nat) ∧ ∀ (j_1 : Nat), j_1 < (9 : Nat) →
  x_2.snd.by_ j j_1 = y_1.s.by_ j j_1) ∧ True) ∧ ((3 : Nat) ≤ (3 : Nat) ∧ (y.r.on (x.core y.i) (0 : Int) (x.times y.i - y.r.sum (x.core y.i) (-1 : Int)) x_3).cores = y_1.r.cores ∧ (True ∧ True ∧ (0 : Nat) = (0 : Nat) ∧
  (y.r.on (x.core y.i) (0 : Int) (x.times y.i - y.r.sum (x.core y.i) (-1 : Int)) x_3).n = y_1.r.n ∧ (y.r.on (x.core y.i) (0 : Int) (x.times y.i - y.r.sum (x.core y.i) (-1 : Int)) x_3).cap = y_1.r.cap) ∧ (y.r.on (x.core
  y.i) (0 : Int) (x.times y.i - y.r.sum (x.core y.i) (-1 : Int)) x_3).st = y_1.r.st ∧ True) ∧ (y_1.r.cap * (3 : Nat) ≤ (y.r.on (x.core y.i) (0 : Int) (x.times y.i - y.r.sum (x.core y.i) (-1 : Int)) x_3).cap * (3 : Nat) ∧
  y_1.r.n = (y.r.on (x.core y.i) (0 : Int) (x.times y.i - y.r.sum (x.core y.i) (-1 : Int)) x_3).n ∧ ∀ (j : Nat), j < (y.r.on (x.core y.i) (0 : Int) (x.times y.i - y.r.sum (x.core y.i) (-1 : Int)) x_3).n → (y.r.on (x.core
  y.i) (0 : Int) (x.times y.i - y.r.sum (x.core y.i) (-1 : Int)) x_3).core j = y_1.r.core j ∧ (y.r.on (x.core y.i) (0 : Int) (x.times y.i - y.r.sum (x.core y.i) (-1 : Int)) x_3).kind j = y_1.r.kind j ∧ (y.r.on (x.core y.i)
  (0 : Int) (x.times y.i - y.r.sum (x.core y.i) (-1 : Int)) x_3).cyc j = y_1.r.cyc j ∧ True) ∧ True) ∧ True))))) ∧ ∀ (y : IB), y.i = g_1 ∧ g_1 < x.len ∧ x.wait g_1 = false ∧ Inv cores.v y.s y.r ∧ y.r.n ≤ y.i → (((True ∧
  True) ∧ x.core y.i = x.core y.i ∧ x.kind y.i = x.kind y.i ∧ x.times y.i = x.times y.i ∧ True) ∧ ((2 : Nat) ≤ (2 : Nat) ∧ (True ∧ True ∧ (0 : Nat) = (0 : Nat) ∧ y.s.n = y.s.n ∧ y.s.n = y.s.n) ∧ y.s.st = y.s.st ∧ True) ∧
  (y.s.n * (10 : Nat) ≤ y.s.n * (10 : Nat) ∧ y.s.n = y.s.n ∧ ∀ (j : Nat), j < y.s.n → y.s.clk j = y.s.clk j ∧ ((9 : Nat) = (9 : Nat) ∧ ∀ (j_1 : Nat), j_1 < (9 : Nat) → y.s.by_ j j_1 = y.s.by_ j j_1) ∧ True) ∧ True) ∧
  (y.s.Ok ∧ (0 : Int) ≤ x.times y.i ∧ x.times y.i < (18446744073709551616 : Int)) ∧ ∀ (x_2 : Int × MS), x_2 = y.s.charge (x.core y.i) (x.kind y.i) (x.times y.i) → (((True ∧ True) ∧ x.core y.i = x.core y.i ∧ x.kind y.i =
  x.kind y.i ∧ x.times y.i = x.times y.i ∧ True) ∧ ((3 : Nat) ≤ (3 : Nat) ∧ y.r.cores = y.r.cores ∧ (True ∧ True ∧ (0 : Nat) = (0 : Nat) ∧ y.r.n = y.r.n ∧ y.r.cap = y.r.cap) ∧ y.r.st = y.r.st ∧ True) ∧ (y.r.cap * (3 : Nat)
  ≤ y.r.cap * (3 : Nat) ∧ y.r.n = y.r.n ∧ ∀ (j : Nat), j < y.r.n → y.r.core j = y.r.core j ∧ y.r.kind j = y.r.kind j ∧ y.r.cyc j = y.r.cyc j ∧ True) ∧ True) ∧ (y.r.Ok ∧ (0 : Int) ≤ x.times y.i ∧ x.times y.i <
  (18446744073709551616 : Int)) ∧ (y.r.bad (x.core y.i) ∨ cost (x.kind y.i) = (0 : Int) → ((x_2.fst != (11 : Int)) = true → cores.Ok ∧ x.Ok ∧ kind.Ok ∧ (w.nil = true → w.len = (0 : Nat)) → False ∧ True ∧ ((0 : Nat) ≤ (0 :
  Nat) ∧ x.len = x.len ∧ ∀ (j : Nat), j < x.len → x.core j = x.core j ∧ x.kind j = x.kind j ∧ x.times j = x.times j ∧ x.wait j = x.wait j ∧ True) ∧ ((0 : Nat) ≤ (0 : Nat) ∧ w.len = w.len ∧ ∀ (j : Nat), j < w.len → w.w j =
  w.w j) ∧ True) ∧ ((x_2.fst != (11 : Int)) = false → ∃ (y_1 : IB), (y_1.i = g ∧ Inv cores.v y_1.s y_1.r ∧ y_1.r.n ≤ y_1.i + (1 : Nat)) ∧ ((cores.v = cores.v ∧ ((x.nil = true → x.nil = true) ∧ (x.nil = false → x.nil =
  false ∧ True ∧ True ∧ (0 : Nat) = (0 : Nat) ∧ x.len = x.len ∧ x.cap = x.cap)) ∧ kind.v = kind.v ∧ ((w.nil = true → w.nil = true) ∧ (w.nil = false → w.nil = false ∧ True ∧ True ∧ (0 : Nat) = (0 : Nat) ∧ w.len = w.len ∧
  w.cap = w.cap)) ∧ (True ∧ True) ∧ (True ∧ True) ∧ (↑y.i : Int) = (↑y_1.i : Int) ∧ True) ∧ ((0 : Nat) ≤ (0 : Nat) ∧ x.len = x.len ∧ ∀ (j : Nat), j < x.len → x.core j = x.core j ∧ x.kind j = x.kind j ∧ x.times j = x.times
  j ∧ x.wait j = x.wait j ∧ True) ∧ ((0 : Nat) ≤ (0 : Nat) ∧ w.len = w.len ∧ ∀ (j : Nat), j < w.len → w.w j = w.w j) ∧ ((2 : Nat) ≤ (2 : Nat) ∧ (True ∧ True ∧ (0 : Nat) = (0 : Nat) ∧ x_2.snd.n = y_1.s.n ∧ x_2.snd.n =
  y_1.s.n) ∧ x_2.snd.st = y_1.s.st ∧ True) ∧ (y_1.s.n * (10 : Nat) ≤ y.s.n * (10 : Nat) ∧ y_1.s.n = x_2.snd.n ∧ ∀ (j : Nat), j < x_2.snd.n → x_2.snd.clk j = y_1.s.clk j ∧ ((9 : Nat) = (9 : Nat) ∧ ∀ (j_1 : Nat), j_1 < (9 :
  Nat) → x_2.snd.by_ j j_1 = y_1.s.by_ j j_1) ∧ True) ∧ ((3 : Nat) ≤ (3 : Nat) ∧ y.r.cores = y_1.r.cores ∧ (True ∧ True ∧ (0 : Nat) = (0 : Nat) ∧ y.r.n = y_1.r.n ∧ y.r.cap = y_1.r.cap) ∧ y.r.st = y_1.r.st ∧ True) ∧
  (y_1.r.cap * (3 : Nat) ≤ y.r.cap * (3 : Nat) ∧ y_1.r.n = y.r.n ∧ ∀ (j : Nat), j < y.r.n → y.r.core j = y_1.r.core j ∧ y.r.kind j = y_1.r.kind j ∧ y.r.cyc j = y_1.r.cyc j ∧ True) ∧ True) ∧ True)) ∧ (¬(y.r.bad (x.core y.i)
  ∨ cost (x.kind y.i) = (0 : Int)) → (y.r.st = true → ((x_2.fst != (22 : Int)) = true → cores.Ok ∧ x.Ok ∧ kind.Ok ∧ (w.nil = true → w.len = (0 : Nat)) → False ∧ True ∧ ((0 : Nat) ≤ (0 : Nat) ∧ x.len = x.len ∧ ∀ (j : Nat),
  j < x.len → x.core j = x.core j ∧ x.kind j = x.kind j ∧ x.times j = x.times j ∧ x.wait j = x.wait j ∧ True) ∧ ((0 : Nat) ≤ (0 : Nat) ∧ w.len = w.len ∧ ∀ (j : Nat), j < w.len → w.w j = w.w j) ∧ True) ∧ ((x_2.fst != (22 :
  Int)) = false → ∃ (y_1 : IB), (y_1.i = g ∧ Inv cores.v y_1.s y_1.r ∧ y_1.r.n ≤ y_1.i + (1 : Nat)) ∧ ((cores.v = cores.v ∧ ((x.nil = true → x.nil = true) ∧ (x.nil = false → x.nil = false ∧ True ∧ True ∧ (0 : Nat) = (0 :
  Nat) ∧ x.len = x.len ∧ x.cap = x.cap)) ∧ kind.v = kind.v ∧ ((w.nil = true → w.nil = true) ∧ (w.nil = false → w.nil = false ∧ True ∧ True ∧ (0 : Nat) = (0 : Nat) ∧ w.len = w.len ∧ w.cap = w.cap)) ∧ (True ∧ True) ∧ (True ∧
  True) ∧ (↑y.i : Int) = (↑y_1.i : Int) ∧ True) ∧ ((0 : Nat) ≤ (0 : Nat) ∧ x.len = x.len ∧ ∀ (j : Nat), j < x.len → x.core j = x.core j ∧ x.kind j = x.kind j ∧ x.times j = x.times j ∧ x.wait j = x.wait j ∧ True) ∧ ((0 :
  Nat) ≤ (0 : Nat) ∧ w.len = w.len ∧ ∀ (j : Nat), j < w.len → w.w j = w.w j) ∧ ((2 : Nat) ≤ (2 : Nat) ∧ (True ∧ True ∧ (0 : Nat) = (0 : Nat) ∧ x_2.snd.n = y_1.s.n ∧ x_2.snd.n = y_1.s.n) ∧ x_2.snd.st = y_1.s.st ∧ True) ∧
  (y_1.s.n * (10 : Nat) ≤ y.s.n * (10 : Nat) ∧ y_1.s.n = x_2.snd.n ∧ ∀ (j : Nat), j < x_2.snd.n → x_2.snd.clk j = y_1.s.clk j ∧ ((9 : Nat) = (9 : Nat) ∧ ∀ (j_1 : Nat), j_1 < (9 : Nat) → x_2.snd.by_ j j_1 = y_1.s.by_ j j_1)
  ∧ True) ∧ ((3 : Nat) ≤ (3 : Nat) ∧ y.r.cores = y_1.r.cores ∧ (True ∧ True ∧ (0 : Nat) = (0 : Nat) ∧ y.r.n = y_1.r.n ∧ y.r.cap = y_1.r.cap) ∧ y.r.st = y_1.r.st ∧ True) ∧ (y_1.r.cap * (3 : Nat) ≤ y.r.cap * (3 : Nat) ∧
  y_1.r.n = y.r.n ∧ ∀ (j : Nat), j < y.r.n → y.r.core j = y_1.r.core j ∧ y.r.kind j = y_1.r.kind j ∧ y.r.cyc j = y_1.r.cyc j ∧ True) ∧ True) ∧ True)) ∧ (¬y.r.st = true → ∀ (x_3 : Nat), y.r.n + (1 : Nat) ≤ x_3 → ((x_2.fst
  != if y.r.left (x.core y.i) ≤ cost (x.kind y.i) * x.times y.i then (22 : Int) else (0 : Int)) = true → cores.Ok ∧ x.Ok ∧ kind.Ok ∧ (w.nil = true → w.len = (0 : Nat)) → False ∧ True ∧ ((0 : Nat) ≤ (0 : Nat) ∧ x.len =
  x.len ∧ ∀ (j : Nat), j < x.len → x.core j = x.core j ∧ x.kind j = x.kind j ∧ x.times j = x.times j ∧ x.wait j = x.wait j ∧ True) ∧ ((0 : Nat) ≤ (0 : Nat) ∧ w.len = w.len ∧ ∀ (j : Nat), j < w.len → w.w j = w.w j) ∧ True)
  ∧ ((x_2.fst != if y.r.left (x.core y.i) ≤ cost (x.kind y.i) * x.times y.i then (22 : Int) else (0 : Int)) = false → ∃ (y_1 : IB), (y_1.i = g ∧ Inv cores.v y_1.s y_1.r ∧ y_1.r.n ≤ y_1.i + (1 : Nat)) ∧ ((cores.v = cores.v
  ∧ ((x.nil = true → x.nil = true) ∧ (x.nil = false → x.nil = false ∧ True ∧ True ∧ (0 : Nat) = (0 : Nat) ∧ x.len = x.len ∧ x.cap = x.cap)) ∧ kind.v = kind.v ∧ ((w.nil = true → w.nil = true) ∧ (w.nil = false → w.nil =
  false ∧ True ∧ True ∧ (0 : Nat) = (0 : Nat) ∧ w.len = w.len ∧ w.cap = w.cap)) ∧ (True ∧ True) ∧ (True ∧ True) ∧ (↑y.i : Int) = (↑y_1.i : Int) ∧ True) ∧ ((0 : Nat) ≤ (0 : Nat) ∧ x.len = x.len ∧ ∀ (j : Nat), j < x.len →
  x.core j = x.core j ∧ x.kind j = x.kind j ∧ x.times j = x.times j ∧ x.wait j = x.wait j ∧ True) ∧ ((0 : Nat) ≤ (0 : Nat) ∧ w.len = w.len ∧ ∀ (j : Nat), j < w.len → w.w j = w.w j) ∧ ((2 : Nat) ≤ (2 : Nat) ∧ (True ∧ True ∧
  (0 : Nat) = (0 : Nat) ∧ x_2.snd.n = y_1.s.n ∧ x_2.snd.n = y_1.s.n) ∧ x_2.snd.st = y_1.s.st ∧ True) ∧ (y_1.s.n * (10 : Nat) ≤ y.s.n * (10 : Nat) ∧ y_1.s.n = x_2.snd.n ∧ ∀ (j : Nat), j < x_2.snd.n → x_2.snd.clk j =
  y_1.s.clk j ∧ ((9 : Nat) = (9 : Nat) ∧ ∀ (j_1 : Nat), j_1 < (9 : Nat) → x_2.snd.by_ j j_1 = y_1.s.by_ j j_1) ∧ True) ∧ ((3 : Nat) ≤ (3 : Nat) ∧ (y.r.on (x.core y.i) (x.kind y.i) (cost (x.kind y.i) * x.times y.i)
  x_3).cores = y_1.r.cores ∧ (True ∧ True ∧ (0 : Nat) = (0 : Nat) ∧ (y.r.on (x.core y.i) (x.kind y.i) (cost (x.kind y.i) * x.times y.i) x_3).n = y_1.r.n ∧ (y.r.on (x.core y.i) (x.kind y.i) (cost (x.kind y.i) * x.times y.i)
  x_3).cap = y_1.r.cap) ∧ (y.r.on (x.core y.i) (x.kind y.i) (cost (x.kind y.i) * x.times y.i) x_3).st = y_1.r.st ∧ True) ∧ (y_1.r.cap * (3 : Nat) ≤ (y.r.on (x.core y.i) (x.kind y.i) (cost (x.kind y.i) * x.times y.i)
  x_3).cap * (3 : Nat) ∧ y_1.r.n = (y.r.on (x.core y.i) (x.kind y.i) (cost (x.kind y.i) * x.times y.i) x_3).n ∧ ∀ (j : Nat), j < (y.r.on (x.core y.i) (x.kind y.i) (cost (x.kind y.i) * x.times y.i) x_3).n → (y.r.on (x.core
  y.i) (x.kind y.i) (cost (x.kind y.i) * x.times y.i) x_3).core j = y_1.r.core j ∧ (y.r.on (x.core y.i) (x.kind y.i) (cost (x.kind y.i) * x.times y.i) x_3).kind j = y_1.r.kind j ∧ (y.r.on (x.core y.i) (x.kind y.i) (cost
  (x.kind y.i) * x.times y.i) x_3).cyc j = y_1.r.cyc j ∧ True) ∧ True) ∧ True)))) ∧ ∀ (y_1 : IB), y_1.i = g ∧ Inv cores.v y_1.s y_1.r ∧ y_1.r.n ≤ y_1.i + (1 : Nat) → (((True ∧ True) ∧ True) ∧ ((2 : Nat) ≤ (2 : Nat) ∧ (True
  ∧ True ∧ (0 : Nat) = (0 : Nat) ∧ y_1.s.n = y_1.s.n ∧ y_1.s.n = y_1.s.n) ∧ y_1.s.st = y_1.s.st ∧ True) ∧ (y_1.s.n * (10 : Nat) ≤ y_1.s.n * (10 : Nat) ∧ y_1.s.n = y_1.s.n ∧ ∀ (j : Nat), j < y_1.s.n → y_1.s.clk j =
  y_1.s.clk j ∧ ((9 : Nat) = (9 : Nat) ∧ ∀ (j_1 : Nat), j_1 < (9 : Nat) → y_1.s.by_ j j_1 = y_1.s.by_ j j_1) ∧ True) ∧ True) ∧ ((!y_1.s.st == y_1.r.st) = true → cores.Ok ∧ x.Ok ∧ kind.Ok ∧ (w.nil = true → w.len = (0 :
  Nat)) → False ∧ True ∧ ((0 : Nat) ≤ (0 : Nat) ∧ x.len = x.len ∧ ∀ (j : Nat), j < x.len → x.core j = x.core j ∧ x.kind j = x.kind j ∧ x.times j = x.times j ∧ x.wait j = x.wait j ∧ True) ∧ ((0 : Nat) ≤ (0 : Nat) ∧ w.len =
  w.len ∧ ∀ (j : Nat), j < w.len → w.w j = w.w j) ∧ True) ∧ ((!y_1.s.st == y_1.r.st) = false → ∀ (v : Int), v = (-1 : Int) → ∃ (g : Nat), (∃ (y : KB), (Inv cores.v y.s y.r ∧ y.r.n ≤ g + (1 : Nat) ∧ (-1 : Int) ≤ y.k ∧ y.k ≤
  cores.v + (1 : Int)) ∧ ((cores.v = cores.v ∧ ((x.nil = true → x.nil = true) ∧ (x.nil = false → x.nil = false ∧ True ∧ True ∧ (0 : Nat) = (0 : Nat) ∧ x.len = x.len ∧ x.cap = x.cap)) ∧ kind.v = kind.v ∧ ((w.nil = true →
  w.nil = true) ∧ (w.nil = false → w.nil = false ∧ True ∧ True ∧ (0 : Nat) = (0 : Nat) ∧ w.len = w.len ∧ w.cap = w.cap)) ∧ (True ∧ True) ∧ (True ∧ True) ∧ (↑y_1.i : Int) = (↑g : Int) ∧ v = y.k ∧ True) ∧ ((0 : Nat) ≤ (0 :
  Nat) ∧ x.len = x.len ∧ ∀ (j : Nat), j < x.len → x.core j = x.core j ∧ x.kind j = x.kind j ∧ x.times j = x.times j ∧ x.wait j = x.wait j ∧ True) ∧ ((0 : Nat) ≤ (0 : Nat) ∧ w.len = w.len ∧ ∀ (j : Nat), j < w.len → w.w j =
  w.w j) ∧ ((2 : Nat) ≤ (2 : Nat) ∧ (True ∧ True ∧ (0 : Nat) = (0 : Nat) ∧ y_1.s.n = y.s.n ∧ y_1.s.n = y.s.n) ∧ y_1.s.st = y.s.st ∧ True) ∧ (y.s.n * (10 : Nat) ≤ y_1.s.n * (10 : Nat) ∧ y.s.n = y_1.s.n ∧ ∀ (j : Nat), j <
  y_1.s.n → y_1.s.clk j = y.s.clk j ∧ ((9 : Nat) = (9 : Nat) ∧ ∀ (j_1 : Nat), j_1 < (9 : Nat) → y_1.s.by_ j j_1 = y.s.by_ j j_1) ∧ True) ∧ ((3 : Nat) ≤ (3 : Nat) ∧ y_1.r.cores = y.r.cores ∧ (True ∧ True ∧ (0 : Nat) = (0 :
  Nat) ∧ y_1.r.n = y.r.n ∧ y_1.r.cap = y.r.cap) ∧ y_1.r.st = y.r.st ∧ True) ∧ (y.r.cap * (3 : Nat) ≤ y_1.r.cap * (3 : Nat) ∧ y.r.n = y_1.r.n ∧ ∀ (j : Nat), j < y_1.r.n → y_1.r.core j = y.r.core j ∧ y_1.r.kind j = y.r.kind
  j ∧ y_1.r.cyc j = y.r.cyc j ∧ True) ∧ True) ∧ True) ∧ ∀ (y_2 : KB), Inv cores.v y_2.s y_2.r ∧ y_2.r.n ≤ g + (1 : Nat) ∧ (-1 : Int) ≤ y_2.k ∧ y_2.k ≤ cores.v + (1 : Int) → (decide (y_2.k ≤ cores.v) = true → (decide (y_2.k
  ≥ (0 : Int)) = true → (((True ∧ True) ∧ y_2.k = y_2.k ∧ True) ∧ ((2 : Nat) ≤ (2 : Nat) ∧ (True ∧ True ∧ (0 : Nat) = (0 : Nat) ∧ y_2.s.n = y_2.s.n ∧ y_2.s.n = y_2.s.n) ∧ y_2.s.st = y_2.s.st ∧ True) ∧ (y_2.s.n * (10 : Nat)
  ≤ y_2.s.n * (10 : Nat) ∧ y_2.s.n = y_2.s.n ∧ ∀ (j : Nat), j < y_2.s.n → y_2.s.clk j = y_2.s.clk j ∧ ((9 : Nat) = (9 : Nat) ∧ ∀ (j_1 : Nat), j_1 < (9 : Nat) → y_2.s.by_ j j_1 = y_2.s.by_ j j_1) ∧ True) ∧ True) ∧ (((True ∧
  True) ∧ y_2.k = y_2.k ∧ True) ∧ ((3 : Nat) ≤ (3 : Nat) ∧ y_2.r.cores = y_2.r.cores ∧ (True ∧ True ∧ (0 : Nat) = (0 : Nat) ∧ y_2.r.n = y_2.r.n ∧ y_2.r.cap = y_2.r.cap) ∧ y_2.r.st = y_2.r.st ∧ True) ∧ (y_2.r.cap * (3 :
  Nat) ≤ y_2.r.cap * (3 : Nat) ∧ y_2.r.n = y_2.r.n ∧ ∀ (j : Nat), j < y_2.r.n → y_2.r.core j = y_2.r.core j ∧ y_2.r.kind j = y_2.r.kind j ∧ y_2.r.cyc j = y_2.r.cyc j ∧ True) ∧ True) ∧ y_2.r.Ok ∧ ((y_2.s.clkOf y_2.k !=
  y_2.r.sum y_2.k (-1 : Int)) = true → cores.Ok ∧ x.Ok ∧ kind.Ok ∧ (w.nil = true → w.len = (0 : Nat)) → False ∧ True ∧ ((0 : Nat) ≤ (0 : Nat) ∧ x.len = x.len ∧ ∀ (j : Nat), j < x.len → x.core j = x.core j ∧ x.kind j =
  x.kind j ∧ x.times j = x.times j ∧ x.wait j = x.wait j ∧ True) ∧ ((0 : Nat) ≤ (0 : Nat) ∧ w.len = w.len ∧ ∀ (j : Nat), j < w.len → w.w j = w.w j) ∧ True) ∧ ((y_2.s.clkOf y_2.k != y_2.r.sum y_2.k (-1 : Int)) = false →
  (((True ∧ True) ∧ y_2.k = y_2.k ∧ True) ∧ ((2 : Nat) ≤ (2 : Nat) ∧ (True ∧ True ∧ (0 : Nat) = (0 : Nat) ∧ y_2.s.n = y_2.s.n ∧ y_2.s.n = y_2.s.n) ∧ y_2.s.st = y_2.s.st ∧ True) ∧ (y_2.s.n * (10 : Nat) ≤ y_2.s.n * (10 :
  Nat) ∧ y_2.s.n = y_2.s.n ∧ ∀ (j : Nat), j < y_2.s.n → y_2.s.clk j = y_2.s.clk j ∧ ((9 : Nat) = (9 : Nat) ∧ ∀ (j_1 : Nat), j_1 < (9 : Nat) → y_2.s.by_ j j_1 = y_2.s.by_ j j_1) ∧ True) ∧ True) ∧ (((True ∧ True) ∧ y_2.k =
  y_2.k ∧ (0 : Int) = (0 : Int) ∧ True) ∧ ((3 : Nat) ≤ (3 : Nat) ∧ y_2.r.cores = y_2.r.cores ∧ (True ∧ True ∧ (0 : Nat) = (0 : Nat) ∧ y_2.r.n = y_2.r.n ∧ y_2.r.cap = y_2.r.cap) ∧ y_2.r.st = y_2.r.st ∧ True) ∧ (y_2.r.cap *
  (3 : Nat) ≤ y_2.r.cap * (3 : Nat) ∧ y_2.r.n = y_2.r.n ∧ ∀ (j : Nat), j < y_2.r.n → y_2.r.core j = y_2.r.core j ∧ y_2.r.kind j = y_2.r.kind j ∧ y_2.r.cyc j = y_2.r.cyc j ∧ True) ∧ True) ∧ y_2.r.Ok ∧ ((y_2.s.idleOf y_2.k
  != y_2.r.sum y_2.k (if (0 : Int) < (0 : Int) then (0 : Int) else (0 : Int))) = true → cores.Ok ∧ x.Ok ∧ kind.Ok ∧ (w.nil = true → w.len = (0 : Nat)) → False ∧ True ∧ ((0 : Nat) ≤ (0 : Nat) ∧ x.len = x.len ∧ ∀ (j : Nat),
  j < x.len → x.core j = x.core j ∧ x.kind j = x.kind j ∧ x.times j = x.times j ∧ x.wait j = x.wait j ∧ True) ∧ ((0 : Nat) ≤ (0 : Nat) ∧ w.len = w.len ∧ ∀ (j : Nat), j < w.len → w.w j = w.w j) ∧ True) ∧ ((y_2.s.idleOf
  y_2.k != y_2.r.sum y_2.k (if (0 : Int) < (0 : Int) then (0 : Int) else (0 : Int))) = false → (decide (kind.v > (0 : Int)) = true → (((True ∧ True) ∧ y_2.k = y_2.k ∧ kind.v = kind.v ∧ True) ∧ ((2 : Nat) ≤ (2 : Nat) ∧
  (True ∧ True ∧ (0 : Nat) = (0 : Nat) ∧ y_2.s.n = y_2.s.n ∧ y_2.s.n = y_2.s.n) ∧ y_2.s.st = y_2.s.st ∧ True) ∧ (y_2.s.n * (10 : Nat) ≤ y_2.s.n * (10 : Nat) ∧ y_2.s.n = y_2.s.n ∧ ∀ (j : Nat), j < y_2.s.n → y_2.s.clk j =
  y_2.s.clk j ∧ ((9 : Nat) = (9 : Nat) ∧ ∀ (j_1 : Nat), j_1 < (9 : Nat) → y_2.s.by_ j j_1 = y_2.s.by_ j j_1) ∧ True) ∧ True) ∧ (((True ∧ True) ∧ y_2.k = y_2.k ∧ kind.v = kind.v ∧ True) ∧ ((3 : Nat) ≤ (3 : Nat) ∧
  y_2.r.cores = y_2.r.cores ∧ (True ∧ True ∧ (0 : Nat) = (0 : Nat) ∧ y_2.r.n = y_2.r.n ∧ y_2.r.cap = y_2.r.cap) ∧ y_2.r.st = y_2.r.st ∧ True) ∧ (y_2.r.cap * (3 : Nat) ≤ y_2.r.cap * (3 : Nat) ∧ y_2.r.n = y_2.r.n ∧ ∀ (j :
  Nat), j < y_2.r.n → y_2.r.core j = y_2.r.core j ∧ y_2.r.kind j = y_2.r.kind j ∧ y_2.r.cyc j = y_2.r.cyc j ∧ True) ∧ True) ∧ y_2.r.Ok ∧ ((y_2.s.spentOf y_2.k kind.v != y_2.r.sum y_2.k (if kind.v < (0 : Int) then (0 : Int)
  else kind.v)) = true → cores.Ok ∧ x.Ok ∧ kind.Ok ∧ (w.nil = true → w.len = (0 : Nat)) → False ∧ True ∧ ((0 : Nat) ≤ (0 : Nat) ∧ x.len = x.len ∧ ∀ (j : Nat), j < x.len → x.core j = x.core j ∧ x.kind j = x.kind j ∧ x.times
  j = x.times j ∧ x.wait j = x.wait j ∧ True) ∧ ((0 : Nat) ≤ (0 : Nat) ∧ w.len = w.len ∧ ∀ (j : Nat), j < w.len → w.w j = w.w j) ∧ True) ∧ ((y_2.s.spentOf y_2.k kind.v != y_2.r.sum y_2.k (if kind.v < (0 : Int) then (0 :
  Int) else kind.v)) = false → (decide (kind.v ≤ (0 : Int)) = true → (((True ∧ True) ∧ y_2.k = y_2.k ∧ kind.v = kind.v ∧ True) ∧ ((2 : Nat) ≤ (2 : Nat) ∧ (True ∧ True ∧ (0 : Nat) = (0 : Nat) ∧ y_2.s.n = y_2.s.n ∧ y_2.s.n =
  y_2.s.n) ∧ y_2.s.st = y_2.s.st ∧ True) ∧ (y_2.s.n * (10 : Nat) ≤ y_2.s.n * (10 : Nat) ∧ y_2.s.n = y_2.s.n ∧ ∀ (j : Nat), j < y_2.s.n → y_2.s.clk j = y_2.s.clk j ∧ ((9 : Nat) = (9 : Nat) ∧ ∀ (j_1 : Nat), j_1 < (9 : Nat) →
  y_2.s.by_ j j_1 = y_2.s.by_ j j_1) ∧ True) ∧ True) ∧ ((y_2.s.spentOf y_2.k kind.v != (0 : Int)) = true → cores.Ok ∧ x.Ok ∧ kind.Ok ∧ (w.nil = true → w.len = (0 : Nat)) → False ∧ True ∧ ((0 : Nat) ≤ (0 : Nat) ∧ x.len =
  x.len ∧ ∀ (j : Nat), j < x.len → x.core j = x.core j ∧ x.kind j = x.kind j ∧ x.times j = x.times j ∧ x.wait j = x.wait j ∧ True) ∧ ((0 : Nat) ≤ (0 : Nat) ∧ w.len = w.len ∧ ∀ (j : Nat), j < w.len → w.w j = w.w j) ∧ True)
  ∧ ((y_2.s.spentOf y_2.k kind.v != (0 : Int)) = false → ((!decide (y_2.k < cores.v)) = true → (((True ∧ True) ∧ y_2.k = y_2.k ∧ True) ∧ ((2 : Nat) ≤ (2 : Nat) ∧ (True ∧ True ∧ (0 : Nat) = (0 : Nat) ∧ y_2.s.n = y_2.s.n ∧
  y_2.s.n = y_2.s.n) ∧ y_2.s.st = y_2.s.st ∧ True) ∧ (y_2.s.n * (10 : Nat) ≤ y_2.s.n * (10 : Nat) ∧ y_2.s.n = y_2.s.n ∧ ∀ (j : Nat), j < y_2.s.n → y_2.s.clk j = y_2.s.clk j ∧ ((9 : Nat) = (9 : Nat) ∧ ∀ (j_1 : Nat), j_1 <
  (9 : Nat) → y_2.s.by_ j j_1 = y_2.s.by_ j j_1) ∧ True) ∧ True) ∧ ((y_2.s.clkOf y_2.k != (0 : Int)) = true → cores.Ok ∧ x.Ok ∧ kind.Ok ∧ (w.nil = true → w.len = (0 : Nat)) → False ∧ True ∧ ((0 : Nat) ≤ (0 : Nat) ∧ x.len =
  x.len ∧ ∀ (j : Nat), j < x.len → x.core j = x.core j ∧ x.kind j = x.kind j ∧ x.times j = x.times j ∧ x.wait j = x.wait j ∧ True) ∧ ((0 : Nat) ≤ (0 : Nat) ∧ w.len = w.len ∧ ∀ (j : Nat), j < w.len → w.w j = w.w j) ∧ True)
  ∧ ((y_2.s.clkOf y_2.k != (0 : Int)) = false → ∀ (v : Int), v = IntKind.i64.wrap (y_2.k + (1 : Int)) → ∃ (y : KB), (Inv cores.v y.s y.r ∧ y.r.n ≤ g + (1 : Nat) ∧ (-1 : Int) ≤ y.k ∧ y.k ≤ cores.v + (1 : Int)) ∧ ((cores.v =
  cores.v ∧ ((x.nil = true → x.nil = true) ∧ (x.nil = false → x.nil = false ∧ True ∧ True ∧ (0 : Nat) = (0 : Nat) ∧ x.len = x.len ∧ x.cap = x.cap)) ∧ kind.v = kind.v ∧ ((w.nil = true → w.nil = true) ∧ (w.nil = false →
  w.nil = false ∧ True ∧ True ∧ (0 : Nat) = (0 : Nat) ∧ w.len = w.len ∧ w.cap = w.cap)) ∧ (True ∧ True) ∧ (True ∧ True) ∧ (↑g : Int) = (↑g : Int) ∧ v = y.k ∧ True) ∧ ((0 : Nat) ≤ (0 : Nat) ∧ x.len = x.len ∧ ∀ (j : Nat), j
  < x.len → x.core j = x.core j ∧ x.kind j = x.kind j ∧ x.times j = x.times j ∧ x.wait j = x.wait j ∧ True) ∧ ((0 : Nat) ≤ (0 : Nat) ∧ w.len = w.len ∧ ∀ (j : Nat), j < w.len → w.w j = w.w j) ∧ ((2 : Nat) ≤ (2 : Nat) ∧
  (True ∧ True ∧ (0 : Nat) = (0 : Nat) ∧ y_2.s.n = y.s.n ∧ y_2.s.n = y.s.n) ∧ y_2.s.st = y.s.st ∧ True) ∧ (y.s.n * (10 : Nat) ≤ y_2.s.n * (10 : Nat) ∧ y.s.n = y_2.s.n ∧ ∀ (j : Nat), j < y_2.s.n → y_2.s.clk j = y.s.clk j ∧
  ((9 : Nat) = (9 : Nat) ∧ ∀ (j_1 : Nat), j_1 < (9 : Nat) → y_2.s.by_ j j_1 = y.s.by_ j j_1) ∧ True) ∧ ((3 : Nat) ≤ (3 : Nat) ∧ y_2.r.cores = y.r.cores ∧ (True ∧ True ∧ (0 : Nat) = (0 : Nat) ∧ y_2.r.n = y.r.n ∧ y_2.r.cap =
  y.r.cap) ∧ y_2.r.st = y.r.st ∧ True) ∧ (y.r.cap * (3 : Nat) ≤ y_2.r.cap * (3 : Nat) ∧ y.r.n = y_2.r.n ∧ ∀ (j : Nat), j < y_2.r.n → y_2.r.core j = y.r.core j ∧ y_2.r.kind j = y.r.kind j ∧ y_2.r.cyc j = y.r.cyc j ∧ True) ∧
  True) ∧ (icKB x w cores.v kind.v g).μ y < (icKB x w cores.v kind.v g).μ y_2)) ∧ ((!decide (y_2.k < cores.v)) = false → ∀ (v : Int), v = IntKind.i64.wrap (y_2.k + (1 : Int)) → ∃ (y : KB), (Inv cores.v y.s y.r ∧ y.r.n ≤ g
  + (1 : Nat) ∧ (-1 : Int) ≤ y.k ∧ y.k ≤ cores.v + (1 : Int)) ∧ ((cores.v = cores.v ∧ ((x.nil = true → x.nil = true) ∧ (x.nil = false → x.nil = false ∧ True ∧ True ∧ (0 : Nat) = (0 : Nat) ∧ x.len = x.len ∧ x.cap = x.cap))
  ∧ kind.v = kind.v ∧ ((w.nil = true → w.nil = true) ∧ (w.nil = false → w.nil = false ∧ True ∧ True ∧ (0 : Nat) = (0 : Nat) ∧ w.len = w.len ∧ w.cap = w.cap)) ∧ (True ∧ True) ∧ (True ∧ True) ∧ (↑g : Int) = (↑g : Int) ∧ v =
  y.k ∧ True) ∧ ((0 : Nat) ≤ (0 : Nat) ∧ x.len = x.len ∧ ∀ (j : Nat), j < x.len → x.core j = x.core j ∧ x.kind j = x.kind j ∧ x.times j = x.times j ∧ x.wait j = x.wait j ∧ True) ∧ ((0 : Nat) ≤ (0 : Nat) ∧ w.len = w.len ∧ ∀
  (j : Nat), j < w.len → w.w j = w.w j) ∧ ((2 : Nat) ≤ (2 : Nat) ∧ (True ∧ True ∧ (0 : Nat) = (0 : Nat) ∧ y_2.s.n = y.s.n ∧ y_2.s.n = y.s.n) ∧ y_2.s.st = y.s.st ∧ True) ∧ (y.s.n * (10 : Nat) ≤ y_2.s.n * (10 : Nat) ∧ y.s.n
  = y_2.s.n ∧ ∀ (j : Nat), j < y_2.s.n → y_2.s.clk j = y.s.clk j ∧ ((9 : Nat) = (9 : Nat) ∧ ∀ (j_1 : Nat), j_1 < (9 : Nat) → y_2.s.by_ j j_1 = y.s.by_ j j_1) ∧ True) ∧ ((3 : Nat) ≤ (3 : Nat) ∧ y_2.r.cores = y.r.cores ∧
  (True ∧ True ∧ (0 : Nat) = (0 : Nat) ∧ y_2.r.n = y.r.n ∧ y_2.r.cap = y.r.cap) ∧ y_2.r.st = y.r.st ∧ True) ∧ (y.r.cap * (3 : Nat) ≤ y_2.r.cap * (3 : Nat) ∧ y.r.n = y_2.r.n ∧ ∀ (j : Nat), j < y_2.r.n → y_2.r.core j =
  y.r.core j ∧ y_2.r.kind j = y.r.kind j ∧ y_2.r.cyc j = y.r.cyc j ∧ True) ∧ True) ∧ (icKB x w cores.v kind.v g).μ y < (icKB x w cores.v kind.v g).μ y_2))) ∧ (decide (kind.v ≤ (0 : Int)) = false → ((!decide (y_2.k <
  cores.v)) = true → (((True ∧ True) ∧ y_2.k = y_2.k ∧ True) ∧ ((2 : Nat) ≤ (2 : Nat) ∧ (True ∧ True ∧ (0 : Nat) = (0 : Nat) ∧ y_2.s.n = y_2.s.n ∧ y_2.s.n = y_2.s.n) ∧ y_2.s.st = y_2.s.st ∧ True) ∧ (y_2.s.n * (10 : Nat) ≤
  y_2.s.n * (10 : Nat) ∧ y_2.s.n = y_2.s.n ∧ ∀ (j : Nat), j < y_2.s.n → y_2.s.clk j = y_2.s.clk j ∧ ((9 : Nat) = (9 : Nat) ∧ ∀ (j_1 : Nat), j_1 < (9 : Nat) → y_2.s.by_ j j_1 = y_2.s.by_ j j_1) ∧ True) ∧ True) ∧
  ((y_2.s.clkOf y_2.k != (0 : Int)) = true → cores.Ok ∧ x.Ok ∧ kind.Ok ∧ (w.nil = true → w.len = (0 : Nat)) → False ∧ True ∧ ((0 : Nat) ≤ (0 : Nat) ∧ x.len = x.len ∧ ∀ (j : Nat), j < x.len → x.core j = x.core j ∧ x.kind j
  = x.kind j ∧ x.times j = x.times j ∧ x.wait j = x.wait j ∧ True) ∧ ((0 : Nat) ≤ (0 : Nat) ∧ w.len = w.len ∧ ∀ (j : Nat), j < w.len → w.w j = w.w j) ∧ True) ∧ ((y_2.s.clkOf y_2.k != (0 : Int)) = false → ∀ (v : Int), v =
  IntKind.i64.wrap (y_2.k + (1 : Int)) → ∃ (y : KB), (Inv cores.v y.s y.r ∧ y.r.n ≤ g + (1 : Nat) ∧ (-1 : Int) ≤ y.k ∧ y.k ≤ cores.v + (1 : Int)) ∧ ((cores.v = cores.v ∧ ((x.nil = true → x.nil = true) ∧ (x.nil = false →
  x.nil = false ∧ True ∧ True ∧ (0 : Nat) = (0 : Nat) ∧ x.len = x.len ∧ x.cap = x.cap)) ∧ kind.v = kind.v ∧ ((w.nil = true → w.nil = true) ∧ (w.nil = false → w.nil = false ∧ True ∧ True ∧ (0 : Nat) = (0 : Nat) ∧ w.len =
  w.len ∧ w.cap = w.cap)) ∧ (True ∧ True) ∧ (True ∧ True) ∧ (↑g : Int) = (↑g : Int) ∧ v = y.k ∧ True) ∧ ((0 : Nat) ≤ (0 : Nat) ∧ x.len = x.len ∧ ∀ (j : Nat), j < x.len → x.core j = x.core j ∧ x.kind j = x.kind j ∧ x.times
  j = x.times j ∧ x.wait j = x.wait j ∧ True) ∧ ((0 : Nat) ≤ (0 : Nat) ∧ w.len = w.len ∧ ∀ (j : Nat), j < w.len → w.w j = w.w j) ∧ ((2 : Nat) ≤ (2 : Nat) ∧ (True ∧ True ∧ (0 : Nat) = (0 : Nat) ∧ y_2.s.n = y.s.n ∧ y_2.s.n =
  y.s.n) ∧ y_2.s.st = y.s.st ∧ True) ∧ (y.s.n * (10 : Nat) ≤ y_2.s.n * (10 : Nat) ∧ y.s.n = y_2.s.n ∧ ∀ (j : Nat), j < y_2.s.n → y_2.s.clk j = y.s.clk j ∧ ((9 : Nat) = (9 : Nat) ∧ ∀ (j_1 : Nat), j_1 < (9 : Nat) → y_2.s.by_
  j j_1 = y.s.by_ j j_1) ∧ True) ∧ ((3 : Nat) ≤ (3 : Nat) ∧ y_2.r.cores = y.r.cores ∧ (True ∧ True ∧ (0 : Nat) = (0 : Nat) ∧ y_2.r.n = y.r.n ∧ y_2.r.cap = y.r.cap) ∧ y_2.r.st = y.r.st ∧ True) ∧ (y.r.cap * (3 : Nat) ≤
  y_2.r.cap * (3 : Nat) ∧ y.r.n = y_2.r.n ∧ ∀ (j : Nat), j < y_2.r.n → y_2.r.core j = y.r.core j ∧ y_2.r.kind j = y.r.kind j ∧ y_2.r.cyc j = y.r.cyc j ∧ True) ∧ True) ∧ (icKB x w cores.v kind.v g).μ y < (icKB x w cores.v
  kind.v g).μ y_2)) ∧ ((!decide (y_2.k < cores.v)) = false → ∀ (v : Int), v = IntKind.i64.wrap (y_2.k + (1 : Int)) → ∃ (y : KB), (Inv cores.v y.s y.r ∧ y.r.n ≤ g + (1 : Nat) ∧ (-1 : Int) ≤ y.k ∧ y.k ≤ cores.v + (1 : Int))
  ∧ ((cores.v = cores.v ∧ ((x.nil = true → x.nil = true) ∧ (x.nil = false → x.nil = false ∧ True ∧ True ∧ (0 : Nat) = (0 : Nat) ∧ x.len = x.len ∧ x.cap = x.cap)) ∧ kind.v = kind.v ∧ ((w.nil = true → w.nil = true) ∧ (w.nil
  = false → w.nil = false ∧ True ∧ True ∧ (0 : Nat) = (0 : Nat) ∧ w.len = w.len ∧ w.cap = w.cap)) ∧ (True ∧ True) ∧ (True ∧ True) ∧ (↑g : Int) = (↑g : Int) ∧ v = y.k ∧ True) ∧ ((0 : Nat) ≤ (0 : Nat) ∧ x.len = x.len ∧ ∀ (j
  : Nat), j < x.len → x.core j = x.core j ∧ x.kind j = x.kind j ∧ x.times j = x.times j ∧ x.wait j = x.wait j ∧ True) ∧ ((0 : Nat) ≤ (0 : Nat) ∧ w.len = w.len ∧ ∀ (j : Nat), j < w.len → w.w j = w.w j) ∧ ((2 : Nat) ≤ (2 :
  Nat) ∧ (True ∧ True ∧ (0 : Nat) = (0 : Nat) ∧ y_2.s.n = y.s.n ∧ y_2.s.n = y.s.n) ∧ y_2.s.st = y.s.st ∧ True) ∧ (y.s.n * (10 : Nat) ≤ y_2.s.n * (10 : Nat) ∧ y.s.n = y_2.s.n ∧ ∀ (j : Nat), j < y_2.s.n → y_2.s.clk j =
  y.s.clk j ∧ ((9 : Nat) = (9 : Nat) ∧ ∀ (j_1 : Nat), j_1 < (9 : Nat) → y_2.s.by_ j j_1 = y.s.by_ j j_1) ∧ True) ∧ ((3 : Nat) ≤ (3 : Nat) ∧ y_2.r.cores = y.r.cores ∧ (True ∧ True ∧ (0 : Nat) = (0 : Nat) ∧ y_2.r.n = y.r.n ∧
  y_2.r.cap = y.r.cap) ∧ y_2.r.st = y.r.st ∧ True) ∧ (y.r.cap * (3 : Nat) ≤ y_2.r.cap * (3 : Nat) ∧ y.r.n = y_2.r.n ∧ ∀ (j : Nat), j < y_2.r.n → y_2.r.core j = y.r.core j ∧ y_2.r.kind j = y.r.kind j ∧ y_2.r.cyc j = y.r.cyc
  j ∧ True) ∧ True) ∧ (icKB x w cores.v kind.v g).μ y < (icKB x w cores.v kind.v g).μ y_2)))) ∧ (decide (kind.v > (0 : Int)) = false → (decide (kind.v ≤ (0 : Int)) = true → (((True ∧ True) ∧ y_2.k = y_2.k ∧ kind.v = kind.v
  ∧ True) ∧ ((2 : Nat) ≤ (2 : Nat) ∧ (True ∧ True ∧ (0 : Nat) = (0 : Nat) ∧ y_2.s.n = y_2.s.n ∧ y_2.s.n = y_2.s.n) ∧ y_2.s.st = y_2.s.st ∧ True) ∧ (y_2.s.n * (10 : Nat) ≤ y_2.s.n * (10 : Nat) ∧ y_2.s.n = y_2.s.n ∧ ∀ (j :
  Nat), j < y_2.s.n → y_2.s.clk j = y_2.s.clk j ∧ ((9 : Nat) = (9 : Nat) ∧ ∀ (j_1 : Nat), j_1 < (9 : Nat) → y_2.s.by_ j j_1 = y_2.s.by_ j j_1) ∧ True) ∧ True) ∧ ((y_2.s.spentOf y_2.k kind.v != (0 : Int)) = true → cores.Ok
  ∧ x.Ok ∧ kind.Ok ∧ (w.nil = true → w.len = (0 : Nat)) → False ∧ True ∧ ((0 : Nat) ≤ (0 : Nat) ∧ x.len = x.len ∧ ∀ (j : Nat), j < x.len → x.core j = x.core j ∧ x.kind j = x.kind j ∧ x.times j = x.times j ∧ x.wait j =
  x.wait j ∧ True) ∧ ((0 : Nat) ≤ (0 : Nat) ∧ w.len = w.len ∧ ∀ (j : Nat), j < w.len → w.w j = w.w j) ∧ True) ∧ ((y_2.s.spentOf y_2.k kind.v != (0 : Int)) = false → ((!decide (y_2.k < cores.v)) = true → (((True ∧ True) ∧
  y_2.k = y_2.k ∧ True) ∧ ((2 : Nat) ≤ (2 : Nat) ∧ (True ∧ True ∧ (0 : Nat) = (0 : Nat) ∧ y_2.s.n = y_2.s.n ∧ y_2.s.n = y_2.s.n) ∧ y_2.s.st = y_2.s.st ∧ True) ∧ (y_2.s.n * (10 : Nat) ≤ y_2.s.n * (10 : Nat) ∧ y_2.s.n =
  y_2.s.n ∧ ∀ (j : Nat), j < y_2.s.n → y_2.s.clk j = y_2.s.clk j ∧ ((9 : Nat) = (9 : Nat) ∧ ∀ (j_1 : Nat), j_1 < (9 : Nat) → y_2.s.by_ j j_1 = y_2.s.by_ j j_1) ∧ True) ∧ True) ∧ ((y_2.s.clkOf y_2.k != (0 : Int)) = true →
  cores.Ok ∧ x.Ok ∧ kind.Ok ∧ (w.nil = true → w.len = (0 : Nat)) → False ∧ True ∧ ((0 : Nat) ≤ (0 : Nat) ∧ x.len = x.len ∧ ∀ (j : Nat), j < x.len → x.core j = x.core j ∧ x.kind j = x.kind j ∧ x.times j = x.times j ∧ x.wait
  j = x.wait j ∧ True) ∧ ((0 : Nat) ≤ (0 : Nat) ∧ w.len = w.len ∧ ∀ (j : Nat), j < w.len → w.w j = w.w j) ∧ True) ∧ ((y_2.s.clkOf y_2.k != (0 : Int)) = false → ∀ (v : Int), v = IntKind.i64.wrap (y_2.k + (1 : Int)) → ∃ (y :
  KB), (Inv cores.v y.s y.r ∧ y.r.n ≤ g + (1 : Nat) ∧ (-1 : Int) ≤ y.k ∧ y.k ≤ cores.v + (1 : Int)) ∧ ((cores.v = cores.v ∧ ((x.nil = true → x.nil = true) ∧ (x.nil = false → x.nil = false ∧ True ∧ True ∧ (0 : Nat) = (0 :
  Nat) ∧ x.len = x.len ∧ x.cap = x.cap)) ∧ kind.v = kind.v ∧ ((w.nil = true → w.nil = true) ∧ (w.nil = false → w.nil = false ∧ True ∧ True ∧ (0 : Nat) = (0 : Nat) ∧ w.len = w.len ∧ w.cap = w.cap)) ∧ (True ∧ True) ∧ (True ∧
  True) ∧ (↑g : Int) = (↑g : Int) ∧ v = y.k ∧ True) ∧ ((0 : Nat) ≤ (0 : Nat) ∧ x.len = x.len ∧ ∀ (j : Nat), j < x.len → x.core j = x.core j ∧ x.kind j = x.kind j ∧ x.times j = x.times j ∧ x.wait j = x.wait j ∧ True) ∧ ((0
  : Nat) ≤ (0 : Nat) ∧ w.len = w.len ∧ ∀ (j : Nat), j < w.len → w.w j = w.w j) ∧ ((2 : Nat) ≤ (2 : Nat) ∧ (True ∧ True ∧ (0 : Nat) = (0 : Nat) ∧ y_2.s.n = y.s.n ∧ y_2.s.n = y.s.n) ∧ y_2.s.st = y.s.st ∧ True) ∧ (y.s.n * (10
  : Nat) ≤ y_2.s.n * (10 : Nat) ∧ y.s.n = y_2.s.n ∧ ∀ (j : Nat), j < y_2.s.n → y_2.s.clk j = y.s.clk j ∧ ((9 : Nat) = (9 : Nat) ∧ ∀ (j_1 : Nat), j_1 < (9 : Nat) → y_2.s.by_ j j_1 = y.s.by_ j j_1) ∧ True) ∧ ((3 : Nat) ≤ (3
  : Nat) ∧ y_2.r.cores = y.r.cores ∧ (True ∧ True ∧ (0 : Nat) = (0 : Nat) ∧ y_2.r.n = y.r.n ∧ y_2.r.cap = y.r.cap) ∧ y_2.r.st = y.r.st ∧ True) ∧ (y.r.cap * (3 : Nat) ≤ y_2.r.cap * (3 : Nat) ∧ y.r.n = y_2.r.n ∧ ∀ (j : Nat),
  j < y_2.r.n → y_2.r.core j = y.r.core j ∧ y_2.r.kind j = y.r.kind j ∧ y_2.r.cyc j = y.r.cyc j ∧ True) ∧ True) ∧ (icKB x w cores.v kind.v g).μ y < (icKB x w cores.v kind.v g).μ y_2)) ∧ ((!decide (y_2.k < cores.v)) = false
  → ∀ (v : Int), v = IntKind.i64.wrap (y_2.k + (1 : Int)) → ∃ (y : KB), (Inv cores.v y.s y.r ∧ y.r.n ≤ g + (1 : Nat) ∧ (-1 : Int) ≤ y.k ∧ y.k ≤ cores.v + (1 : Int)) ∧ ((cores.v = cores.v ∧ ((x.nil = true → x.nil = true) ∧
  (x.nil = false → x.nil = false ∧ True ∧ True ∧ (0 : Nat) = (0 : Nat) ∧ x.len = x.len ∧ x.cap = x.cap)) ∧ kind.v = kind.v ∧ ((w.nil = true → w.nil = true) ∧ (w.nil = false → w.nil = false ∧ True ∧ True ∧ (0 : Nat) = (0 :
  Nat) ∧ w.len = w.len ∧ w.cap = w.cap)) ∧ (True ∧ True) ∧ (True ∧ True) ∧ (↑g : Int) = (↑g : Int) ∧ v = y.k ∧ True) ∧ ((0 : Nat) ≤ (0 : Nat) ∧ x.len = x.len ∧ ∀ (j : Nat), j < x.len → x.core j = x.core j ∧ x.kind j =
  x.kind j ∧ x.times j = x.times j ∧ x.wait j = x.wait j ∧ True) ∧ ((0 : Nat) ≤ (0 : Nat) ∧ w.len = w.len ∧ ∀ (j : Nat), j < w.len → w.w j = w.w j) ∧ ((2 : Nat) ≤ (2 : Nat) ∧ (True ∧ True ∧ (0 : Nat) = (0 : Nat) ∧ y_2.s.n
  = y.s.n ∧ y_2.s.n = y.s.n) ∧ y_2.s.st = y.s.st ∧ True) ∧ (y.s.n * (10 : Nat) ≤ y_2.s.n * (10 : Nat) ∧ y.s.n = y_2.s.n ∧ ∀ (j : Nat), j < y_2.s.n → y_2.s.clk j = y.s.clk j ∧ ((9 : Nat) = (9 : Nat) ∧ ∀ (j_1 : Nat), j_1 <
  (9 : Nat) → y_2.s.by_ j j_1 = y.s.by_ j j_1) ∧ True) ∧ ((3 : Nat) ≤ (3 : Nat) ∧ y_2.r.cores = y.r.cores ∧ (True ∧ True ∧ (0 : Nat) = (0 : Nat) ∧ y_2.r.n = y.r.n ∧ y_2.r.cap = y.r.cap) ∧ y_2.r.st = y.r.st ∧ True) ∧
  (y.r.cap * (3 : Nat) ≤ y_2.r.cap * (3 : Nat) ∧ y.r.n = y_2.r.n ∧ ∀ (j : Nat), j < y_2.r.n → y_2.r.core j = y.r.core j ∧ y_2.r.kind j = y.r.kind j ∧ y_2.r.cyc j = y.r.cyc j ∧ True) ∧ True) ∧ (icKB x w cores.v kind.v g).μ
  y < (icKB x w cores.v kind.v g).μ y_2))) ∧ (decide (kind.v ≤ (0 : Int)) = false → ((!decide (y_2.k < cores.v)) = true → (((True ∧ True) ∧ y_2.k = y_2.k ∧ True) ∧ ((2 : Nat) ≤ (2 : Nat) ∧ (True ∧ True ∧ (0 : Nat) = (0 :
  Nat) ∧ y_2.s.n = y_2.s.n ∧ y_2.s.n = y_2.s.n) ∧ y_2.s.st = y_2.s.st ∧ True) ∧ (y_2.s.n * (10 : Nat) ≤ y_2.s.n * (10 : Nat) ∧ y_2.s.n = y_2.s.n ∧ ∀ (j : Nat), j < y_2.s.n → y_2.s.clk j = y_2.s.clk j ∧ ((9 : Nat) = (9 :
  Nat) ∧ ∀ (j_1 : Nat), j_1 < (9 : Nat) → y_2.s.by_ j j_1 = y_2.s.by_ j j_1) ∧ True) ∧ True) ∧ ((y_2.s.clkOf y_2.k != (0 : Int)) = true → cores.Ok ∧ x.Ok ∧ kind.Ok ∧ (w.nil = true → w.len = (0 : Nat)) → False ∧ True ∧ ((0
  : Nat) ≤ (0 : Nat) ∧ x.len = x.len ∧ ∀ (j : Nat), j < x.len → x.core j = x.core j ∧ x.kind j = x.kind j ∧ x.times j = x.times j ∧ x.wait j = x.wait j ∧ True) ∧ ((0 : Nat) ≤ (0 : Nat) ∧ w.len = w.len ∧ ∀ (j : Nat), j <
  w.len → w.w j = w.w j) ∧ True) ∧ ((y_2.s.clkOf y_2.k != (0 : Int)) = false → ∀ (v : Int), v = IntKind.i64.wrap (y_2.k + (1 : Int)) → ∃ (y : KB), (Inv cores.v y.s y.r ∧ y.r.n ≤ g + (1 : Nat) ∧ (-1 : Int) ≤ y.k ∧ y.k ≤
  cores.v + (1 : Int)) ∧ ((cores.v = cores.v ∧ ((x.nil = true → x.nil = true) ∧ (x.nil = false → x.nil = false ∧ True ∧ True ∧ (0 : Nat) = (0 : Nat) ∧ x.len = x.len ∧ x.cap = x.cap)) ∧ kind.v = kind.v ∧ ((w.nil = true →
  w.nil = true) ∧ (w.nil = false → w.nil = false ∧ True ∧ True ∧ (0 : Nat) = (0 : Nat) ∧ w.len = w.len ∧ w.cap = w.cap)) ∧ (True ∧ True) ∧ (True ∧ True) ∧ (↑g : Int) = (↑g : Int) ∧ v = y.k ∧ True) ∧ ((0 : Nat) ≤ (0 : Nat)
  ∧ x.len = x.len ∧ ∀ (j : Nat), j < x.len → x.core j = x.core j ∧ x.kind j = x.kind j ∧ x.times j = x.times j ∧ x.wait j = x.wait j ∧ True) ∧ ((0 : Nat) ≤ (0 : Nat) ∧ w.len = w.len ∧ ∀ (j : Nat), j < w.len → w.w j = w.w
  j) ∧ ((2 : Nat) ≤ (2 : Nat) ∧ (True ∧ True ∧ (0 : Nat) = (0 : Nat) ∧ y_2.s.n = y.s.n ∧ y_2.s.n = y.s.n) ∧ y_2.s.st = y.s.st ∧ True) ∧ (y.s.n * (10 : Nat) ≤ y_2.s.n * (10 : Nat) ∧ y.s.n = y_2.s.n ∧ ∀ (j : Nat), j <
  y_2.s.n → y_2.s.clk j = y.s.clk j ∧ ((9 : Nat) = (9 : Nat) ∧ ∀ (j_1 : Nat), j_1 < (9 : Nat) → y_2.s.by_ j j_1 = y.s.by_ j j_1) ∧ True) ∧ ((3 : Nat) ≤ (3 : Nat) ∧ y_2.r.cores = y.r.cores ∧ (True ∧ True ∧ (0 : Nat) = (0 :
  Nat) ∧ y_2.r.n = y.r.n ∧ y_2.r.cap = y.r.cap) ∧ y_2.r.st = y.r.st ∧ True) ∧ (y.r.cap * (3 : Nat) ≤ y_2.r.cap * (3 : Nat) ∧ y.r.n = y_2.r.n ∧ ∀ (j : Nat), j < y_2.r.n → y_2.r.core j = y.r.core j ∧ y_2.r.kind j = y.r.kind
  j ∧ y_2.r.cyc j = y.r.cyc j ∧ True) ∧ True) ∧ (icKB x w cores.v kind.v g).μ y < (icKB x w cores.v kind.v g).μ y_2)) ∧ ((!decide (y_2.k < cores.v)) = false → ∀ (v : Int), v = IntKind.i64.wrap (y_2.k + (1 : Int)) → ∃ (y :
  KB), (Inv cores.v y.s y.r ∧ y.r.n ≤ g + (1 : Nat) ∧ (-1 : Int) ≤ y.k ∧ y.k ≤ cores.v + (1 : Int)) ∧ ((cores.v = cores.v ∧ ((x.nil = true → x.nil = true) ∧ (x.nil = false → x.nil = false ∧ True ∧ True ∧ (0 : Nat) = (0 :
  Nat) ∧ x.len = x.len ∧ x.cap = x.cap)) ∧ kind.v = kind.v ∧ ((w.nil = true → w.nil = true) ∧ (w.nil = false → w.nil = false ∧ True ∧ True ∧ (0 : Nat) = (0 : Nat) ∧ w.len = w.len ∧ w.cap = w.cap)) ∧ (True ∧ True) ∧ (True ∧
  True) ∧ (↑g : Int) = (↑g : Int) ∧ v = y.k ∧ True) ∧ ((0 : Nat) ≤ (0 : Nat) ∧ x.len = x.len ∧ ∀ (j : Nat), j < x.len → x.core j = x.core j ∧ x.kind j = x.kind j ∧ x.times j = x.times j ∧ x.wait j = x.wait j ∧ True) ∧ ((0
  : Nat) ≤ (0 : Nat) ∧ w.len = w.len ∧ ∀ (j : Nat), j < w.len → w.w j = w.w j) ∧ ((2 : Nat) ≤ (2 : Nat) ∧ (True ∧ True ∧ (0 : Nat) = (0 : Nat) ∧ y_2.s.n = y.s.n ∧ y_2.s.n = y.s.n) ∧ y_2.s.st = y.s.st ∧ True) ∧ (y.s.n * (10
  : Nat) ≤ y_2.s.n * (10 : Nat) ∧ y.s.n = y_2.s.n ∧ ∀ (j : Nat), j < y_2.s.n → y_2.s.clk j = y.s.clk j ∧ ((9 : Nat) = (9 : Nat) ∧ ∀ (j_1 : Nat), j_1 < (9 : Nat) → y_2.s.by_ j j_1 = y.s.by_ j j_1) ∧ True) ∧ ((3 : Nat) ≤ (3
  : Nat) ∧ y_2.r.cores = y.r.cores ∧ (True ∧ True ∧ (0 : Nat) = (0 : Nat) ∧ y_2.r.n = y.r.n ∧ y_2.r.cap = y.r.cap) ∧ y_2.r.st = y.r.st ∧ True) ∧ (y.r.cap * (3 : Nat) ≤ y_2.r.cap * (3 : Nat) ∧ y.r.n = y_2.r.n ∧ ∀ (j : Nat),
  j < y_2.r.n → y_2.r.core j = y.r.core j ∧ y_2.r.kind j = y.r.kind j ∧ y_2.r.cyc j = y.r.cyc j ∧ True) ∧ True) ∧ (icKB x w cores.v kind.v g).μ y < (icKB x w cores.v kind.v g).μ y_2)))))) ∧ (decide (y_2.k ≥ (0 : Int)) =
  false → (((True ∧ True) ∧ y_2.k = y_2.k ∧ True) ∧ ((2 : Nat) ≤ (2 : Nat) ∧ (True ∧ True ∧ (0 : Nat) = (0 : Nat) ∧ y_2.s.n = y_2.s.n ∧ y_2.s.n = y_2.s.n) ∧ y_2.s.st = y_2.s.st ∧ True) ∧ (y_2.s.n * (10 : Nat) ≤ y_2.s.n *
  (10 : Nat) ∧ y_2.s.n = y_2.s.n ∧ ∀ (j : Nat), j < y_2.s.n → y_2.s.clk j = y_2.s.clk j ∧ ((9 : Nat) = (9 : Nat) ∧ ∀ (j_1 : Nat), j_1 < (9 : Nat) → y_2.s.by_ j j_1 = y_2.s.by_ j j_1) ∧ True) ∧ True) ∧ (((True ∧ True) ∧
  y_2.k = y_2.k ∧ True) ∧ ((3 : Nat) ≤ (3 : Nat) ∧ y_2.r.cores = y_2.r.cores ∧ (True ∧ True ∧ (0 : Nat) = (0 : Nat) ∧ y_2.r.n = y_2.r.n ∧ y_2.r.cap = y_2.r.cap) ∧ y_2.r.st = y_2.r.st ∧ True) ∧ (y_2.r.cap * (3 : Nat) ≤
  y_2.r.cap * (3 : Nat) ∧ y_2.r.n = y_2.r.n ∧ ∀ (j : Nat), j < y_2.r.n → y_2.r.core j = y_2.r.core j ∧ y_2.r.kind j = y_2.r.kind j ∧ y_2.r.cyc j = y_2.r.cyc j ∧ True) ∧ True) ∧ y_2.r.Ok ∧ ((y_2.s.clkOf y_2.k != y_2.r.sum
  y_2.k (-1 : Int)) = true → cores.Ok ∧ x.Ok ∧ kind.Ok ∧ (w.nil = true → w.len = (0 : Nat)) → False ∧ True ∧ ((0 : Nat) ≤ (0 : Nat) ∧ x.len = x.len ∧ ∀ (j : Nat), j < x.len → x.core j = x.core j ∧ x.kind j = x.kind j ∧
  x.times j = x.times j ∧ x.wait j = x.wait j ∧ True) ∧ ((0 : Nat) ≤ (0 : Nat) ∧ w.len = w.len ∧ ∀ (j : Nat), j < w.len → w.w j = w.w j) ∧ True) ∧ ((y_2.s.clkOf y_2.k != y_2.r.sum y_2.k (-1 : Int)) = false → (((True ∧
  True) ∧ y_2.k = y_2.k ∧ True) ∧ ((2 : Nat) ≤ (2 : Nat) ∧ (True ∧ True ∧ (0 : Nat) = (0 : Nat) ∧ y_2.s.n = y_2.s.n ∧ y_2.s.n = y_2.s.n) ∧ y_2.s.st = y_2.s.st ∧ True) ∧ (y_2.s.n * (10 : Nat) ≤ y_2.s.n * (10 : Nat) ∧
  y_2.s.n = y_2.s.n ∧ ∀ (j : Nat), j < y_2.s.n → y_2.s.clk j = y_2.s.clk j ∧ ((9 : Nat) = (9 : Nat) ∧ ∀ (j_1 : Nat), j_1 < (9 : Nat) → y_2.s.by_ j j_1 = y_2.s.by_ j j_1) ∧ True) ∧ True) ∧ (((True ∧ True) ∧ y_2.k = y_2.k ∧
  (0 : Int) = (0 : Int) ∧ True) ∧ ((3 : Nat) ≤ (3 : Nat) ∧ y_2.r.cores = y_2.r.cores ∧ (True ∧ True ∧ (0 : Nat) = (0 : Nat) ∧ y_2.r.n = y_2.r.n ∧ y_2.r.cap = y_2.r.cap) ∧ y_2.r.st = y_2.r.st ∧ True) ∧ (y_2.r.cap * (3 :
  Nat) ≤ y_2.r.cap * (3 : Nat) ∧ y_2.r.n = y_2.r.n ∧ ∀ (j : Nat), j < y_2.r.n → y_2.r.core j = y_2.r.core j ∧ y_2.r.kind j = y_2.r.kind j ∧ y_2.r.cyc j = y_2.r.cyc j ∧ True) ∧ True) ∧ y_2.r.Ok ∧ ((y_2.s.idleOf y_2.k !=
  y_2.r.sum y_2.k (if (0 : Int) < (0 : Int) then (0 : Int) else (0 : Int))) = true → cores.Ok ∧ x.Ok ∧ kind.Ok ∧ (w.nil = true → w.len = (0 : Nat)) → False ∧ True ∧ ((0 : Nat) ≤ (0 : Nat) ∧ x.len = x.len ∧ ∀ (j : Nat), j <
  x.len → x.core j = x.core j ∧ x.kind j = x.kind j ∧ x.times j = x.times j ∧ x.wait j = x.wait j ∧ True) ∧ ((0 : Nat) ≤ (0 : Nat) ∧ w.len = w.len ∧ ∀ (j : Nat), j < w.len → w.w j = w.w j) ∧ True) ∧ ((y_2.s.idleOf y_2.k !=
  y_2.r.sum y_2.k (if (0 : Int) < (0 : Int) then (0 : Int) else (0 : Int))) = false → (decide (kind.v > (0 : Int)) = true → (((True ∧ True) ∧ y_2.k = y_2.k ∧ kind.v = kind.v ∧ True) ∧ ((2 : Nat) ≤ (2 : Nat) ∧ (True ∧ True
  ∧ (0 : Nat) = (0 : Nat) ∧ y_2.s.n = y_2.s.n ∧ y_2.s.n = y_2.s.n) ∧ y_2.s.st = y_2.s.st ∧ True) ∧ (y_2.s.n * (10 : Nat) ≤ y_2.s.n * (10 : Nat) ∧ y_2.s.n = y_2.s.n ∧ ∀ (j : Nat), j < y_2.s.n → y_2.s.clk j = y_2.s.clk j ∧
  ((9 : Nat) = (9 : Nat) ∧ ∀ (j_1 : Nat), j_1 < (9 : Nat) → y_2.s.by_ j j_1 = y_2.s.by_ j j_1) ∧ True) ∧ True) ∧ (((True ∧ True) ∧ y_2.k = y_2.k ∧ kind.v = kind.v ∧ True) ∧ ((3 : Nat) ≤ (3 : Nat) ∧ y_2.r.cores =
  y_2.r.cores ∧ (True ∧ True ∧ (0 : Nat) = (0 : Nat) ∧ y_2.r.n = y_2.r.n ∧ y_2.r.cap = y_2.r.cap) ∧ y_2.r.st = y_2.r.st ∧ True) ∧ (y_2.r.cap * (3 : Nat) ≤ y_2.r.cap * (3 : Nat) ∧ y_2.r.n = y_2.r.n ∧ ∀ (j : Nat), j <
  y_2.r.n → y_2.r.core j = y_2.r.core j ∧ y_2.r.kind j = y_2.r.kind j ∧ y_2.r.cyc j = y_2.r.cyc j ∧ True) ∧ True) ∧ y_2.r.Ok ∧ ((y_2.s.spentOf y_2.k kind.v != y_2.r.sum y_2.k (if kind.v < (0 : Int) then (0 : Int) else
  kind.v)) = true → cores.Ok ∧ x.Ok ∧ kind.Ok ∧ (w.nil = true → w.len = (0 : Nat)) → False ∧ True ∧ ((0 : Nat) ≤ (0 : Nat) ∧ x.len = x.len ∧ ∀ (j : Nat), j < x.len → x.core j = x.core j ∧ x.kind j = x.kind j ∧ x.times j =
  x.times j ∧ x.wait j = x.wait j ∧ True) ∧ ((0 : Nat) ≤ (0 : Nat) ∧ w.len = w.len ∧ ∀ (j : Nat), j < w.len → w.w j = w.w j) ∧ True) ∧ ((y_2.s.spentOf y_2.k kind.v != y_2.r.sum y_2.k (if kind.v < (0 : Int) then (0 : Int)
  else kind.v)) = false → (decide (kind.v ≤ (0 : Int)) = true → (((True ∧ True) ∧ y_2.k = y_2.k ∧ kind.v = kind.v ∧ True) ∧ ((2 : Nat) ≤ (2 : Nat) ∧ (True ∧ True ∧ (0 : Nat) = (0 : Nat) ∧ y_2.s.n = y_2.s.n ∧ y_2.s.n =
  y_2.s.n) ∧ y_2.s.st = y_2.s.st ∧ True) ∧ (y_2.s.n * (10 : Nat) ≤ y_2.s.n * (10 : Nat) ∧ y_2.s.n = y_2.s.n ∧ ∀ (j : Nat), j < y_2.s.n → y_2.s.clk j = y_2.s.clk j ∧ ((9 : Nat) = (9 : Nat) ∧ ∀ (j_1 : Nat), j_1 < (9 : Nat) →
  y_2.s.by_ j j_1 = y_2.s.by_ j j_1) ∧ True) ∧ True) ∧ ((y_2.s.spentOf y_2.k kind.v != (0 : Int)) = true → cores.Ok ∧ x.Ok ∧ kind.Ok ∧ (w.nil = true → w.len = (0 : Nat)) → False ∧ True ∧ ((0 : Nat) ≤ (0 : Nat) ∧ x.len =
  x.len ∧ ∀ (j : Nat), j < x.len → x.core j = x.core j ∧ x.kind j = x.kind j ∧ x.times j = x.times j ∧ x.wait j = x.wait j ∧ True) ∧ ((0 : Nat) ≤ (0 : Nat) ∧ w.len = w.len ∧ ∀ (j : Nat), j < w.len → w.w j = w.w j) ∧ True)
  ∧ ((y_2.s.spentOf y_2.k kind.v != (0 : Int)) = false → (((True ∧ True) ∧ y_2.k = y_2.k ∧ True) ∧ ((2 : Nat) ≤ (2 : Nat) ∧ (True ∧ True ∧ (0 : Nat) = (0 : Nat) ∧ y_2.s.n = y_2.s.n ∧ y_2.s.n = y_2.s.n) ∧ y_2.s.st =
  y_2.s.st ∧ True) ∧ (y_2.s.n * (10 : Nat) ≤ y_2.s.n * (10 : Nat) ∧ y_2.s.n = y_2.s.n ∧ ∀ (j : Nat), j < y_2.s.n → y_2.s.clk j = y_2.s.clk j ∧ ((9 : Nat) = (9 : Nat) ∧ ∀ (j_1 : Nat), j_1 < (9 : Nat) → y_2.s.by_ j j_1 =
  y_2.s.by_ j j_1) ∧ True) ∧ True) ∧ ((y_2.s.clkOf y_2.k != (0 : Int)) = true → cores.Ok ∧ x.Ok ∧ kind.Ok ∧ (w.nil = true → w.len = (0 : Nat)) → False ∧ True ∧ ((0 : Nat) ≤ (0 : Nat) ∧ x.len = x.len ∧ ∀ (j : Nat), j <
  x.len → x.core j = x.core j ∧ x.kind j = x.kind j ∧ x.times j = x.times j ∧ x.wait j = x.wait j ∧ True) ∧ ((0 : Nat) ≤ (0 : Nat) ∧ w.len = w.len ∧ ∀ (j : Nat), j < w.len → w.w j = w.w j) ∧ True) ∧ ((y_2.s.clkOf y_2.k !=
  (0 : Int)) = false → ∀ (v : Int), v = IntKind.i64.wrap (y_2.k + (1 : Int)) → ∃ (y : KB), (Inv cores.v y.s y.r ∧ y.r.n ≤ g + (1 : Nat) ∧ (-1 : Int) ≤ y.k ∧ y.k ≤ cores.v + (1 : Int)) ∧ ((cores.v = cores.v ∧ ((x.nil = true
  → x.nil = true) ∧ (x.nil = false → x.nil = false ∧ True ∧ True ∧ (0 : Nat) = (0 : Nat) ∧ x.len = x.len ∧ x.cap = x.cap)) ∧ kind.v = kind.v ∧ ((w.nil = true → w.nil = true) ∧ (w.nil = false → w.nil = false ∧ True ∧ True ∧
  (0 : Nat) = (0 : Nat) ∧ w.len = w.len ∧ w.cap = w.cap)) ∧ (True ∧ True) ∧ (True ∧ True) ∧ (↑g : Int) = (↑g : Int) ∧ v = y.k ∧ True) ∧ ((0 : Nat) ≤ (0 : Nat) ∧ x.len = x.len ∧ ∀ (j : Nat), j < x.len → x.core j = x.core j
  ∧ x.kind j = x.kind j ∧ x.times j = x.times j ∧ x.wait j = x.wait j ∧ True) ∧ ((0 : Nat) ≤ (0 : Nat) ∧ w.len = w.len ∧ ∀ (j : Nat), j < w.len → w.w j = w.w j) ∧ ((2 : Nat) ≤ (2 : Nat) ∧ (True ∧ True ∧ (0 : Nat) = (0 :
  Nat) ∧ y_2.s.n = y.s.n ∧ y_2.s.n = y.s.n) ∧ y_2.s.st = y.s.st ∧ True) ∧ (y.s.n * (10 : Nat) ≤ y_2.s.n * (10 : Nat) ∧ y.s.n = y_2.s.n ∧ ∀ (j : Nat), j < y_2.s.n → y_2.s.clk j = y.s.clk j ∧ ((9 : Nat) = (9 : Nat) ∧ ∀ (j_1
  : Nat), j_1 < (9 : Nat) → y_2.s.by_ j j_1 = y.s.by_ j j_1) ∧ True) ∧ ((3 : Nat) ≤ (3 : Nat) ∧ y_2.r.cores = y.r.cores ∧ (True ∧ True ∧ (0 : Nat) = (0 : Nat) ∧ y_2.r.n = y.r.n ∧ y_2.r.cap = y.r.cap) ∧ y_2.r.st = y.r.st ∧
  True) ∧ (y.r.cap * (3 : Nat) ≤ y_2.r.cap * (3 : Nat) ∧ y.r.n = y_2.r.n ∧ ∀ (j : Nat), j < y_2.r.n → y_2.r.core j = y.r.core j ∧ y_2.r.kind j = y.r.kind j ∧ y_2.r.cyc j = y.r.cyc j ∧ True) ∧ True) ∧ (icKB x w cores.v
  kind.v g).μ y < (icKB x w cores.v kind.v g).μ y_2))) ∧ (decide (kind.v ≤ (0 : Int)) = false → (((True ∧ True) ∧ y_2.k = y_2.k ∧ True) ∧ ((2 : Nat) ≤ (2 : Nat) ∧ (True ∧ True ∧ (0 : Nat) = (0 : Nat) ∧ y_2.s.n = y_2.s.n ∧
  y_2.s.n = y_2.s.n) ∧ y_2.s.st = y_2.s.st ∧ True) ∧ (y_2.s.n * (10 : Nat) ≤ y_2.s.n * (10 : Nat) ∧ y_2.s.n = y_2.s.n ∧ ∀ (j : Nat), j < y_2.s.n → y_2.s.clk j = y_2.s.clk j ∧ ((9 : Nat) = (9 : Nat) ∧ ∀ (j_1 : Nat), j_1 <
  (9 : Nat) → y_2.s.by_ j j_1 = y_2.s.by_ j j_1) ∧ True) ∧ True) ∧ ((y_2.s.clkOf y_2.k != (0 : Int)) = true → cores.Ok ∧ x.Ok ∧ kind.Ok ∧ (w.nil = true → w.len = (0 : Nat)) → False ∧ True ∧ ((0 : Nat) ≤ (0 : Nat) ∧ x.len =
  x.len ∧ ∀ (j : Nat), j < x.len → x.core j = x.core j ∧ x.kind j = x.kind j ∧ x.times j = x.times j ∧ x.wait j = x.wait j ∧ True) ∧ ((0 : Nat) ≤ (0 : Nat) ∧ w.len = w.len ∧ ∀ (j : Nat), j < w.len → w.w j = w.w j) ∧ True)
  ∧ ((y_2.s.clkOf y_2.k != (0 : Int)) = false → ∀ (v : Int), v = IntKind.i64.wrap (y_2.k + (1 : Int)) → ∃ (y : KB), (Inv cores.v y.s y.r ∧ y.r.n ≤ g + (1 : Nat) ∧ (-1 : Int) ≤ y.k ∧ y.k ≤ cores.v + (1 : Int)) ∧ ((cores.v =
  cores.v ∧ ((x.nil = true → x.nil = true) ∧ (x.nil = false → x.nil = false ∧ True ∧ True ∧ (0 : Nat) = (0 : Nat) ∧ x.len = x.len ∧ x.cap = x.cap)) ∧ kind.v = kind.v ∧ ((w.nil = true → w.nil = true) ∧ (w.nil = false →
  w.nil = false ∧ True ∧ True ∧ (0 : Nat) = (0 : Nat) ∧ w.len = w.len ∧ w.cap = w.cap)) ∧ (True ∧ True) ∧ (True ∧ True) ∧ (↑g : Int) = (↑g : Int) ∧ v = y.k ∧ True) ∧ ((0 : Nat) ≤ (0 : Nat) ∧ x.len = x.len ∧ ∀ (j : Nat), j
  < x.len → x.core j = x.core j ∧ x.kind j = x.kind j ∧ x.times j = x.times j ∧ x.wait j = x.wait j ∧ True) ∧ ((0 : Nat) ≤ (0 : Nat) ∧ w.len = w.len ∧ ∀ (j : Nat), j < w.len → w.w j = w.w j) ∧ ((2 : Nat) ≤ (2 : Nat) ∧
  (True ∧ True ∧ (0 : Nat) = (0 : Nat) ∧ y_2.s.n = y.s.n ∧ y_2.s.n = y.s.n) ∧ y_2.s.st = y.s.st ∧ True) ∧ (y.s.n * (10 : Nat) ≤ y_2.s.n * (10 : Nat) ∧ y.s.n = y_2.s.n ∧ ∀ (j : Nat), j < y_2.s.n → y_2.s.clk j = y.s.clk j ∧
  ((9 : Nat) = (9 : Nat) ∧ ∀ (j_1 : Nat), j_1 < (9 : Nat) → y_2.s.by_ j j_1 = y.s.by_ j j_1) ∧ True) ∧ ((3 : Nat) ≤ (3 : Nat) ∧ y_2.r.cores = y.r.cores ∧ (True ∧ True ∧ (0 : Nat) = (0 : Nat) ∧ y_2.r.n = y.r.n ∧ y_2.r.cap =
  y.r.cap) ∧ y_2.r.st = y.r.st ∧ True) ∧ (y.r.cap * (3 : Nat) ≤ y_2.r.cap * (3 : Nat) ∧ y.r.n = y_2.r.n ∧ ∀ (j : Nat), j < y_2.r.n → y_2.r.core j = y.r.core j ∧ y_2.r.kind j = y.r.kind j ∧ y_2.r.cyc j = y.r.cyc j ∧ True) ∧
  True) ∧ (icKB x w cores.v kind.v g).μ y < (icKB x w cores.v kind.v g).μ y_2)))) ∧ (decide (kind.v > (0 : Int)) = false → (decide (kind.v ≤ (0 : Int)) = true → (((True ∧ True) ∧ y_2.k = y_2.k ∧ kind.v = kind.v ∧ True) ∧
  ((2 : Nat) ≤ (2 : Nat) ∧ (True ∧ True ∧ (0 : Nat) = (0 : Nat) ∧ y_2.s.n = y_2.s.n ∧ y_2.s.n = y_2.s.n) ∧ y_2.s.st = y_2.s.st ∧ True) ∧ (y_2.s.n * (10 : Nat) ≤ y_2.s.n * (10 : Nat) ∧ y_2.s.n = y_2.s.n ∧ ∀ (j : Nat), j <
  y_2.s.n → y_2.s.clk j = y_2.s.clk j ∧ ((9 : Nat) = (9 : Nat) ∧ ∀ (j_1 : Nat), j_1 < (9 : Nat) → y_2.s.by_ j j_1 = y_2.s.by_ j j_1) ∧ True) ∧ True) ∧ ((y_2.s.spentOf y_2.k kind.v != (0 : Int)) = true → cores.Ok ∧ x.Ok ∧
  kind.Ok ∧ (w.nil = true → w.len = (0 : Nat)) → False ∧ True ∧ ((0 : Nat) ≤ (0 : Nat) ∧ x.len = x.len ∧ ∀ (j : Nat), j < x.len → x.core j = x.core j ∧ x.kind j = x.kind j ∧ x.times j = x.times j ∧ x.wait j = x.wait j ∧
  True) ∧ ((0 : Nat) ≤ (0 : Nat) ∧ w.len = w.len ∧ ∀ (j : Nat), j < w.len → w.w j = w.w j) ∧ True) ∧ ((y_2.s.spentOf y_2.k kind.v != (0 : Int)) = false → (((True ∧ True) ∧ y_2.k = y_2.k ∧ True) ∧ ((2 : Nat) ≤ (2 : Nat) ∧
  (True ∧ True ∧ (0 : Nat) = (0 : Nat) ∧ y_2.s.n = y_2.s.n ∧ y_2.s.n = y_2.s.n) ∧ y_2.s.st = y_2.s.st ∧ True) ∧ (y_2.s.n * (10 : Nat) ≤ y_2.s.n * (10 : Nat) ∧ y_2.s.n = y_2.s.n ∧ ∀ (j : Nat), j < y_2.s.n → y_2.s.clk j =
  y_2.s.clk j ∧ ((9 : Nat) = (9 : Nat) ∧ ∀ (j_1 : Nat), j_1 < (9 : Nat) → y_2.s.by_ j j_1 = y_2.s.by_ j j_1) ∧ True) ∧ True) ∧ ((y_2.s.clkOf y_2.k != (0 : Int)) = true → cores.Ok ∧ x.Ok ∧ kind.Ok ∧ (w.nil = true → w.len =
  (0 : Nat)) → False ∧ True ∧ ((0 : Nat) ≤ (0 : Nat) ∧ x.len = x.len ∧ ∀ (j : Nat), j < x.len → x.core j = x.core j ∧ x.kind j = x.kind j ∧ x.times j = x.times j ∧ x.wait j = x.wait j ∧ True) ∧ ((0 : Nat) ≤ (0 : Nat) ∧
  w.len = w.len ∧ ∀ (j : Nat), j < w.len → w.w j = w.w j) ∧ True) ∧ ((y_2.s.clkOf y_2.k != (0 : Int)) = false → ∀ (v : Int), v = IntKind.i64.wrap (y_2.k + (1 : Int)) → ∃ (y : KB), (Inv cores.v y.s y.r ∧ y.r.n ≤ g + (1 :
  Nat) ∧ (-1 : Int) ≤ y.k ∧ y.k ≤ cores.v + (1 : Int)) ∧ ((cores.v = cores.v ∧ ((x.nil = true → x.nil = true) ∧ (x.nil = false → x.nil = false ∧ True ∧ True ∧ (0 : Nat) = (0 : Nat) ∧ x.len = x.len ∧ x.cap = x.cap)) ∧
  kind.v = kind.v ∧ ((w.nil = true → w.nil = true) ∧ (w.nil = false → w.nil = false ∧ True ∧ True ∧ (0 : Nat) = (0 : Nat) ∧ w.len = w.len ∧ w.cap = w.cap)) ∧ (True ∧ True) ∧ (True ∧ True) ∧ (↑g : Int) = (↑g : Int) ∧ v =
  y.k ∧ True) ∧ ((0 : Nat) ≤ (0 : Nat) ∧ x.len = x.len ∧ ∀ (j : Nat), j < x.len → x.core j = x.core j ∧ x.kind j = x.kind j ∧ x.times j = x.times j ∧ x.wait j = x.wait j ∧ True) ∧ ((0 : Nat) ≤ (0 : Nat) ∧ w.len = w.len ∧ ∀
  (j : Nat), j < w.len → w.w j = w.w j) ∧ ((2 : Nat) ≤ (2 : Nat) ∧ (True ∧ True ∧ (0 : Nat) = (0 : Nat) ∧ y_2.s.n = y.s.n ∧ y_2.s.n = y.s.n) ∧ y_2.s.st = y.s.st ∧ True) ∧ (y.s.n * (10 : Nat) ≤ y_2.s.n * (10 : Nat) ∧ y.s.n
  = y_2.s.n ∧ ∀ (j : Nat), j < y_2.s.n → y_2.s.clk j = y.s.clk j ∧ ((9 : Nat) = (9 : Nat) ∧ ∀ (j_1 : Nat), j_1 < (9 : Nat) → y_2.s.by_ j j_1 = y.s.by_ j j_1) ∧ True) ∧ ((3 : Nat) ≤ (3 : Nat) ∧ y_2.r.cores = y.r.cores ∧
  (True ∧ True ∧ (0 : Nat) = (0 : Nat) ∧ y_2.r.n = y.r.n ∧ y_2.r.cap = y.r.cap) ∧ y_2.r.st = y.r.st ∧ True) ∧ (y.r.cap * (3 : Nat) ≤ y_2.r.cap * (3 : Nat) ∧ y.r.n = y_2.r.n ∧ ∀ (j : Nat), j < y_2.r.n → y_2.r.core j =
  y.r.core j ∧ y_2.r.kind j = y.r.kind j ∧ y_2.r.cyc j = y.r.cyc j ∧ True) ∧ True) ∧ (icKB x w cores.v kind.v g).μ y < (icKB x w cores.v kind.v g).μ y_2))) ∧ (decide (kind.v ≤ (0 : Int)) = false → (((True ∧ True) ∧ y_2.k =
  y_2.k ∧ True) ∧ ((2 : Nat) ≤ (2 : Nat) ∧ (True ∧ True ∧ (0 : Nat) = (0 : Nat) ∧ y_2.s.n = y_2.s.n ∧ y_2.s.n = y_2.s.n) ∧ y_2.s.st = y_2.s.st ∧ True) ∧ (y_2.s.n * (10 : Nat) ≤ y_2.s.n * (10 : Nat) ∧ y_2.s.n = y_2.s.n ∧ ∀
  (j : Nat), j < y_2.s.n → y_2.s.clk j = y_2.s.clk j ∧ ((9 : Nat) = (9 : Nat) ∧ ∀ (j_1 : Nat), j_1 < (9 : Nat) → y_2.s.by_ j j_1 = y_2.s.by_ j j_1) ∧ True) ∧ True) ∧ ((y_2.s.clkOf y_2.k != (0 : Int)) = true → cores.Ok ∧
  x.Ok ∧ kind.Ok ∧ (w.nil = true → w.len = (0 : Nat)) → False ∧ True ∧ ((0 : Nat) ≤ (0 : Nat) ∧ x.len = x.len ∧ ∀ (j : Nat), j < x.len → x.core j = x.core j ∧ x.kind j = x.kind j ∧ x.times j = x.times j ∧ x.wait j = x.wait
  j ∧ True) ∧ ((0 : Nat) ≤ (0 : Nat) ∧ w.len = w.len ∧ ∀ (j : Nat), j < w.len → w.w j = w.w j) ∧ True) ∧ ((y_2.s.clkOf y_2.k != (0 : Int)) = false → ∀ (v : Int), v = IntKind.i64.wrap (y_2.k + (1 : Int)) → ∃ (y : KB), (Inv
  cores.v y.s y.r ∧ y.r.n ≤ g + (1 : Nat) ∧ (-1 : Int) ≤ y.k ∧ y.k ≤ cores.v + (1 : Int)) ∧ ((cores.v = cores.v ∧ ((x.nil = true → x.nil = true) ∧ (x.nil = false → x.nil = false ∧ True ∧ True ∧ (0 : Nat) = (0 : Nat) ∧
  x.len = x.len ∧ x.cap = x.cap)) ∧ kind.v = kind.v ∧ ((w.nil = true → w.nil = true) ∧ (w.nil = false → w.nil = false ∧ True ∧ True ∧ (0 : Nat) = (0 : Nat) ∧ w.len = w.len ∧ w.cap = w.cap)) ∧ (True ∧ True) ∧ (True ∧ True)
  ∧ (↑g : Int) = (↑g : Int) ∧ v = y.k ∧ True) ∧ ((0 : Nat) ≤ (0 : Nat) ∧ x.len = x.len ∧ ∀ (j : Nat), j < x.len → x.core j = x.core j ∧ x.kind j = x.kind j ∧ x.times j = x.times j ∧ x.wait j = x.wait j ∧ True) ∧ ((0 : Nat)
  ≤ (0 : Nat) ∧ w.len = w.len ∧ ∀ (j : Nat), j < w.len → w.w j = w.w j) ∧ ((2 : Nat) ≤ (2 : Nat) ∧ (True ∧ True ∧ (0 : Nat) = (0 : Nat) ∧ y_2.s.n = y.s.n ∧ y_2.s.n = y.s.n) ∧ y_2.s.st = y.s.st ∧ True) ∧ (y.s.n * (10 : Nat)
  ≤ y_2.s.n * (10 : Nat) ∧ y.s.n = y_2.s.n ∧ ∀ (j : Nat), j < y_2.s.n → y_2.s.clk j = y.s.clk j ∧ ((9 : Nat) = (9 : Nat) ∧ ∀ (j_1 : Nat), j_1 < (9 : Nat) → y_2.s.by_ j j_1 = y.s.by_ j j_1) ∧ True) ∧ ((3 : Nat) ≤ (3 : Nat)
  ∧ y_2.r.cores = y.r.cores ∧ (True ∧ True ∧ (0 : Nat) = (0 : Nat) ∧ y_2.r.n = y.r.n ∧ y_2.r.cap = y.r.cap) ∧ y_2.r.st = y.r.st ∧ True) ∧ (y.r.cap * (3 : Nat) ≤ y_2.r.cap * (3 : Nat) ∧ y.r.n = y_2.r.n ∧ ∀ (j : Nat), j <
  y_2.r.n → y_2.r.core j = y.r.core j ∧ y_2.r.kind j = y.r.kind j ∧ y_2.r.cyc j = y.r.cyc j ∧ True) ∧ True) ∧ (icKB x w cores.v kind.v g).μ y < (icKB x w cores.v kind.v g).μ y_2))))))) ∧ (decide (y_2.k ≤ cores.v) = false →
  ∀ (v : Int), v = IntKind.i64.wrap ((↑g : Int) + (1 : Int)) → (∃ (y_3 : IA), (y_3.i ≤ x.len ∧ Inv cores.v y_3.s y_3.r.rs) ∧ ((cores.v = cores.v ∧ ((x.nil = true → x.nil = true) ∧ (x.nil = false → x.nil = false ∧ True ∧
  True ∧ (0 : Nat) = (0 : Nat) ∧ x.len = x.len ∧ x.cap = x.cap)) ∧ kind.v = kind.v ∧ ((w.nil = true → w.nil = true) ∧ (w.nil = false → w.nil = false ∧ True ∧ True ∧ (0 : Nat) = (0 : Nat) ∧ w.len = w.len ∧ w.cap = w.cap)) ∧
  (True ∧ True) ∧ (True ∧ True) ∧ v = (↑y_3.i : Int) ∧ True) ∧ ((0 : Nat) ≤ (0 : Nat) ∧ x.len = x.len ∧ ∀ (j : Nat), j < x.len → x.core j = x.core j ∧ x.kind j = x.kind j ∧ x.times j = x.times j ∧ x.wait j = x.wait j ∧
  True) ∧ ((0 : Nat) ≤ (0 : Nat) ∧ w.len = w.len ∧ ∀ (j : Nat), j < w.len → w.w j = w.w j) ∧ ((2 : Nat) ≤ (2 : Nat) ∧ (True ∧ True ∧ (0 : Nat) = (0 : Nat) ∧ y_2.s.n = y_3.s.n ∧ y_2.s.n = y_3.s.n) ∧ y_2.s.st = y_3.s.st ∧
  True) ∧ (y_3.s.n * (10 : Nat) ≤ y_2.s.n * (10 : Nat) ∧ y_3.s.n = y_2.s.n ∧ ∀ (j : Nat), j < y_2.s.n → y_2.s.clk j = y_3.s.clk j ∧ ((9 : Nat) = (9 : Nat) ∧ ∀ (j_1 : Nat), j_1 < (9 : Nat) → y_2.s.by_ j j_1 = y_3.s.by_ j
  j_1) ∧ True) ∧ ((3 : Nat) ≤ (3 : Nat) ∧ y_2.r.cores = y_3.r.cores ∧ False ∧ y_2.r.st = y_3.r.st ∧ True) ∧ True) ∧ (icFA x w cores.v kind.v).μ y_3 < (icFB x w cores.v kind.v).μ y) ∨ ∃ (y_3 : IB), (y_3.i ≤ x.len ∧ Inv
  cores.v y_3.s y_3.r ∧ y_3.r.n ≤ y_3.i) ∧ ((cores.v = cores.v ∧ ((x.nil = true → x.nil = true) ∧ (x.nil = false → x.nil = false ∧ True ∧ True ∧ (0 : Nat) = (0 : Nat) ∧ x.len = x.len ∧ x.cap = x.cap)) ∧ kind.v = kind.v ∧
  ((w.nil = true → w.nil = true) ∧ (w.nil = false → w.nil = false ∧ True ∧ True ∧ (0 : Nat) = (0 : Nat) ∧ w.len = w.len ∧ w.cap = w.cap)) ∧ (True ∧ True) ∧ (True ∧ True) ∧ v = (↑y_3.i : Int) ∧ True) ∧ ((0 : Nat) ≤ (0 :
  Nat) ∧ x.len = x.len ∧ ∀ (j : Nat), j < x.len → x.core j = x.core j ∧ x.kind j = x.kind j ∧ x.times j = x.times j ∧ x.wait j = x.wait j ∧ True) ∧ ((0 : Nat) ≤ (0 : Nat) ∧ w.len = w.len ∧ ∀ (j : Nat), j < w.len → w.w j =
  w.w j) ∧ ((2 : Nat) ≤ (2 : Nat) ∧ (True ∧ True ∧ (0 : Nat) = (0 : Nat) ∧ y_2.s.n = y_3.s.n ∧ y_2.s.n = y_3.s.n) ∧ y_2.s.st = y_3.s.st ∧ True) ∧ (y_3.s.n * (10 : Nat) ≤ y_2.s.n * (10 : Nat) ∧ y_3.s.n = y_2.s.n ∧ ∀ (j :
  Nat), j < y_2.s.n → y_2.s.clk j = y_3.s.clk j ∧ ((9 : Nat) = (9 : Nat) ∧ ∀ (j_1 : Nat), j_1 < (9 : Nat) → y_2.s.by_ j j_1 = y_3.s.by_ j j_1) ∧ True) ∧ ((3 : Nat) ≤ (3 : Nat) ∧ y_2.r.cores = y_3.r.cores ∧ (True ∧ True ∧
  (0 : Nat) = (0 : Nat) ∧ y_2.r.n = y_3.r.n ∧ y_2.r.cap = y_3.r.cap) ∧ y_2.r.st = y_3.r.st ∧ True) ∧ (y_3.r.cap * (3 : Nat) ≤ y_2.r.cap * (3 : Nat) ∧ y_3.r.n = y_2.r.n ∧ ∀ (j : Nat), j < y_2.r.n → y_2.r.core j = y_3.r.core
  j ∧ y_2.r.kind j = y_3.r.kind j ∧ y_2.r.cyc j = y_3.r.cyc j ∧ True) ∧ True) ∧ (icFB x w cores.v kind.v).μ y_3 < (icFB x w cores.v kind.v).μ y))) ∧ (decide ((↑y.i : Int) < (↑x.len : Int)) = false → ∀ (v : Int), v = (-1 :
  Int) → ∀ (v_1 : Int), v_1 = (0 : Int) → (∃ (y_1 : LB), (Inv cores.v y_1.s y_1.r ∧ y_1.r.n ≤ (1000 : Nat) ∧ y_1.k ≤ y_1.s.n ∧ (y_1.k = (0 : Nat) ∨ y_1.k ≤ w.len)) ∧ ((cores.v = cores.v ∧ ((x.nil = true → x.nil = true) ∧
  (x.nil = false → x.nil = false ∧ True ∧ True ∧ (0 : Nat) = (0 : Nat) ∧ x.len = x.len ∧ x.cap = x.cap)) ∧ kind.v = kind.v ∧ ((w.nil = true → w.nil = true) ∧ (w.nil = false → w.nil = false ∧ True ∧ True ∧ (0 : Nat) = (0 :
  Nat) ∧ w.len = w.len ∧ w.cap = w.cap)) ∧ (True ∧ True) ∧ (True ∧ True) ∧ v = leastF y_1.s.clk w.sel y_1.k ∧ v_1 = (↑y_1.k : Int) ∧ True) ∧ ((0 : Nat) ≤ (0 : Nat) ∧ x.len = x.len ∧ ∀ (j : Nat), j < x.len → x.core j =
  x.core j ∧ x.kind j = x.kind j ∧ x.times j = x.times j ∧ x.wait j = x.wait j ∧ True) ∧ ((0 : Nat) ≤ (0 : Nat) ∧ w.len = w.len ∧ ∀ (j : Nat), j < w.len → w.w j = w.w j) ∧ ((2 : Nat) ≤ (2 : Nat) ∧ (True ∧ True ∧ (0 : Nat)
  = (0 : Nat) ∧ y.s.n = y_1.s.n ∧ y.s.n = y_1.s.n) ∧ y.s.st = y_1.s.st ∧ True) ∧ (y_1.s.n * (10 : Nat) ≤ y.s.n * (10 : Nat) ∧ y_1.s.n = y.s.n ∧ ∀ (j : Nat), j < y.s.n → y.s.clk j = y_1.s.clk j ∧ ((9 : Nat) = (9 : Nat) ∧ ∀
  (j_1 : Nat), j_1 < (9 : Nat) → y.s.by_ j j_1 = y_1.s.by_ j j_1) ∧ True) ∧ ((3 : Nat) ≤ (3 : Nat) ∧ y.r.cores = y_1.r.cores ∧ (True ∧ True ∧ (0 : Nat) = (0 : Nat) ∧ y.r.n = y_1.r.n ∧ y.r.cap = y_1.r.cap) ∧ y.r.st =
  y_1.r.st ∧ True) ∧ (y_1.r.cap * (3 : Nat) ≤ y.r.cap * (3 : Nat) ∧ y_1.r.n = y.r.n ∧ ∀ (j : Nat), j < y.r.n → y.r.core j = y_1.r.core j ∧ y.r.kind j = y_1.r.kind j ∧ y.r.cyc j = y_1.r.cyc j ∧ True) ∧ True) ∧ True) ∧ ∀ (y
  : LB), Inv cores.v y.s y.r ∧ y.r.n ≤ (1000 : Nat) ∧ y.k ≤ y.s.n ∧ (y.k = (0 : Nat) ∨ y.k ≤ w.len) → (decide ((↑y.k : Int) < cores.v) = true → (w.nil = true → w.len = (0 : Nat)) ∧ (decide ((↑y.k : Int) < (↑w.len : Int)) =
  true → (w.nil = true → w.len = (0 : Nat)) ∧ ((0 : Int) ≤ (↑y.k : Int) ∧ (↑y.k : Int) < (↑w.len : Int)) ∧ (0 : Nat) + (↑y.k : Int).toNat < w.len ∧ (w.w ((0 : Nat) + (↑y.k : Int).toNat) = true → (decide (leastF y.s.clk
  w.sel y.k < (0 : Int)) = true → ∀ (v : Int), v = (↑y.k : Int) → ∀ (v_2 : Int), v_2 = IntKind.i64.wrap ((↑y.k : Int) + (1 : Int)) → ∃ (y_1 : LB), (Inv cores.v y_1.s y_1.r ∧ y_1.r.n ≤ (1000 : Nat) ∧ y_1.k ≤ y_1.s.n ∧
  (y_1.k = (0 : Nat) ∨ y_1.k ≤ w.len)) ∧ ((cores.v = cores.v ∧ ((x.nil = true → x.nil = true) ∧ (x.nil = false → x.nil = false ∧ True ∧ True ∧ (0 : Nat) = (0 : Nat) ∧ x.len = x.len ∧ x.cap = x.cap)) ∧ kind.v = kind.v ∧
  ((w.nil = true → w.nil = true) ∧ (w.nil = false → w.nil = false ∧ True ∧ True ∧ (0 : Nat) = (0 : Nat) ∧ w.len = w.len ∧ w.cap = w.cap)) ∧ (True ∧ True) ∧ (True ∧ True) ∧ v = leastF y_1.s.clk w.sel y_1.k ∧ v_2 = (↑y_1.k :
  Int) ∧ True) ∧ ((0 : Nat) ≤ (0 : Nat) ∧ x.len = x.len ∧ ∀ (j : Nat), j < x.len → x.core j = x.core j ∧ x.kind j = x.kind j ∧ x.times j = x.times j ∧ x.wait j = x.wait j ∧ True) ∧ ((0 : Nat) ≤ (0 : Nat) ∧ w.len = w.len ∧
  ∀ (j : Nat), j < w.len → w.w j = w.w j) ∧ ((2 : Nat) ≤ (2 : Nat) ∧ (True ∧ True ∧ (0 : Nat) = (0 : Nat) ∧ y.s.n = y_1.s.n ∧ y.s.n = y_1.s.n) ∧ y.s.st = y_1.s.st ∧ True) ∧ (y_1.s.n * (10 : Nat) ≤ y.s.n * (10 : Nat) ∧
  y_1.s.n = y.s.n ∧ ∀ (j : Nat), j < y.s.n → y.s.clk j = y_1.s.clk j ∧ ((9 : Nat) = (9 : Nat) ∧ ∀ (j_1 : Nat), j_1 < (9 : Nat) → y.s.by_ j j_1 = y_1.s.by_ j j_1) ∧ True) ∧ ((3 : Nat) ≤ (3 : Nat) ∧ y.r.cores = y_1.r.cores ∧
  (True ∧ True ∧ (0 : Nat) = (0 : Nat) ∧ y.r.n = y_1.r.n ∧ y.r.cap = y_1.r.cap) ∧ y.r.st = y_1.r.st ∧ True) ∧ (y_1.r.cap * (3 : Nat) ≤ y.r.cap * (3 : Nat) ∧ y_1.r.n = y.r.n ∧ ∀ (j : Nat), j < y.r.n → y.r.core j =
  y_1.r.core j ∧ y.r.kind j = y_1.r.kind j ∧ y.r.cyc j = y_1.r.cyc j ∧ True) ∧ True) ∧ (icLB x w cores.v kind.v).μ y_1 < (icLB x w cores.v kind.v).μ y) ∧ (decide (leastF y.s.clk w.sel y.k < (0 : Int)) = false → (((True ∧
  True) ∧ (↑y.k : Int) = (↑y.k : Int) ∧ True) ∧ ((3 : Nat) ≤ (3 : Nat) ∧ y.r.cores = y.r.cores ∧ (True ∧ True ∧ (0 : Nat) = (0 : Nat) ∧ y.r.n = y.r.n ∧ y.r.cap = y.r.cap) ∧ y.r.st = y.r.st ∧ True) ∧ (y.r.cap * (3 : Nat) ≤
  y.r.cap * (3 : Nat) ∧ y.r.n = y.r.n ∧ ∀ (j : Nat), j < y.r.n → y.r.core j = y.r.core j ∧ y.r.kind j = y.r.kind j ∧ y.r.cyc j = y.r.cyc j ∧ True) ∧ True) ∧ y.r.Ok ∧ (((True ∧ True) ∧ leastF y.s.clk w.sel y.k = leastF
  y.s.clk w.sel y.k ∧ True) ∧ ((3 : Nat) ≤ (3 : Nat) ∧ y.r.cores = y.r.cores ∧ (True ∧ True ∧ (0 : Nat) = (0 : Nat) ∧ y.r.n = y.r.n ∧ y.r.cap = y.r.cap) ∧ y.r.st = y.r.st ∧ True) ∧ (y.r.cap * (3 : Nat) ≤ y.r.cap * (3 :
  Nat) ∧ y.r.n = y.r.n ∧ ∀ (j : Nat), j < y.r.n → y.r.core j = y.r.core j ∧ y.r.kind j = y.r.kind j ∧ y.r.cyc j = y.r.cyc j ∧ True) ∧ True) ∧ y.r.Ok ∧ (decide (y.r.sum (↑y.k : Int) (-1 : Int) < y.r.sum (leastF y.s.clk
  w.sel y.k) (-1 : Int)) = true → ∀ (v : Int), v = (↑y.k : Int) → ∀ (v_2 : Int), v_2 = IntKind.i64.wrap ((↑y.k : Int) + (1 : Int)) → ∃ (y_1 : LB), (Inv cores.v y_1.s y_1.r ∧ y_1.r.n ≤ (1000 : Nat) ∧ y_1.k ≤ y_1.s.n ∧
  (y_1.k = (0 : Nat) ∨ y_1.k ≤ w.len)) ∧ ((cores.v = cores.v ∧ ((x.nil = true → x.nil = true) ∧ (x.nil = false → x.nil = false ∧ True ∧ True ∧ (0 : Nat) = (0 : Nat) ∧ x.len = x.len ∧ x.cap = x.cap)) ∧ kind.v = kind.v ∧
  ((w.nil = true → w.nil = true) ∧ (w.nil = false → w.nil = false ∧ True ∧ True ∧ (0 : Nat) = (0 : Nat) ∧ w.len = w.len ∧ w.cap = w.cap)) ∧ (True ∧ True) ∧ (True ∧ True) ∧ v = leastF y_1.s.clk w.sel y_1.k ∧ v_2 = (↑y_1.k :
  Int) ∧ True) ∧ ((0 : Nat) ≤ (0 : Nat) ∧ x.len = x.len ∧ ∀ (j : Nat), j < x.len → x.core j = x.core j ∧ x.kind j = x.kind j ∧ x.times j = x.times j ∧ x.wait j = x.wait j ∧ True) ∧ ((0 : Nat) ≤ (0 : Nat) ∧ w.len = w.len ∧
  ∀ (j : Nat), j < w.len → w.w j = w.w j) ∧ ((2 : Nat) ≤ (2 : Nat) ∧ (True ∧ True ∧ (0 : Nat) = (0 : Nat) ∧ y.s.n = y_1.s.n ∧ y.s.n = y_1.s.n) ∧ y.s.st = y_1.s.st ∧ True) ∧ (y_1.s.n * (10 : Nat) ≤ y.s.n * (10 : Nat) ∧
  y_1.s.n = y.s.n ∧ ∀ (j : Nat), j < y.s.n → y.s.clk j = y_1.s.clk j ∧ ((9 : Nat) = (9 : Nat) ∧ ∀ (j_1 : Nat), j_1 < (9 : Nat) → y.s.by_ j j_1 = y_1.s.by_ j j_1) ∧ True) ∧ ((3 : Nat) ≤ (3 : Nat) ∧ y.r.cores = y_1.r.cores ∧
  (True ∧ True ∧ (0 : Nat) = (0 : Nat) ∧ y.r.n = y_1.r.n ∧ y.r.cap = y_1.r.cap) ∧ y.r.st = y_1.r.st ∧ True) ∧ (y_1.r.cap * (3 : Nat) ≤ y.r.cap * (3 : Nat) ∧ y_1.r.n = y.r.n ∧ ∀ (j : Nat), j < y.r.n → y.r.core j =
  y_1.r.core j ∧ y.r.kind j = y_1.r.kind j ∧ y.r.cyc j = y_1.r.cyc j ∧ True) ∧ True) ∧ (icLB x w cores.v kind.v).μ y_1 < (icLB x w cores.v kind.v).μ y) ∧ (decide (y.r.sum (↑y.k : Int) (-1 : Int) < y.r.sum (leastF y.s.clk
  w.sel y.k) (-1 : Int)) = false → ∀ (v : Int), v = IntKind.i64.wrap ((↑y.k : Int) + (1 : Int)) → ∃ (y_1 : LB), (Inv cores.v y_1.s y_1.r ∧ y_1.r.n ≤ (1000 : Nat) ∧ y_1.k ≤ y_1.s.n ∧ (y_1.k = (0 : Nat) ∨ y_1.k ≤ w.len)) ∧
  ((cores.v = cores.v ∧ ((x.nil = true → x.nil = true) ∧ (x.nil = false → x.nil = false ∧ True ∧ True ∧ (0 : Nat) = (0 : Nat) ∧ x.len = x.len ∧ x.cap = x.cap)) ∧ kind.v = kind.v ∧ ((w.nil = true → w.nil = true) ∧ (w.nil =
  false → w.nil = false ∧ True ∧ True ∧ (0 : Nat) = (0 : Nat) ∧ w.len = w.len ∧ w.cap = w.cap)) ∧ (True ∧ True) ∧ (True ∧ True) ∧ leastF y.s.clk w.sel y.k = leastF y_1.s.clk w.sel y_1.k ∧ v = (↑y_1.k : Int) ∧ True) ∧ ((0 :
  Nat) ≤ (0 : Nat) ∧ x.len = x.len ∧ ∀ (j : Nat), j < x.len → x.core j = x.core j ∧ x.kind j = x.kind j ∧ x.times j = x.times j ∧ x.wait j = x.wait j ∧ True) ∧ ((0 : Nat) ≤ (0 : Nat) ∧ w.len = w.len ∧ ∀ (j : Nat), j <
  w.len → w.w j = w.w j) ∧ ((2 : Nat) ≤ (2 : Nat) ∧ (True ∧ True ∧ (0 : Nat) = (0 : Nat) ∧ y.s.n = y_1.s.n ∧ y.s.n = y_1.s.n) ∧ y.s.st = y_1.s.st ∧ True) ∧ (y_1.s.n * (10 : Nat) ≤ y.s.n * (10 : Nat) ∧ y_1.s.n = y.s.n ∧ ∀
  (j : Nat), j < y.s.n → y.s.clk j = y_1.s.clk j ∧ ((9 : Nat) = (9 : Nat) ∧ ∀ (j_1 : Nat), j_1 < (9 : Nat) → y.s.by_ j j_1 = y_1.s.by_ j j_1) ∧ True) ∧ ((3 : Nat) ≤ (3 : Nat) ∧ y.r.cores = y_1.r.cores ∧ (True ∧ True ∧ (0 :
  Nat) = (0 : Nat) ∧ y.r.n = y_1.r.n ∧ y.r.cap = y_1.r.cap) ∧ y.r.st = y_1.r.st ∧ True) ∧ (y_1.r.cap * (3 : Nat) ≤ y.r.cap * (3 : Nat) ∧ y_1.r.n = y.r.n ∧ ∀ (j : Nat), j < y.r.n → y.r.core j = y_1.r.core j ∧ y.r.kind j =
  y_1.r.kind j ∧ y.r.cyc j = y_1.r.cyc j ∧ True) ∧ True) ∧ (icLB x w cores.v kind.v).μ y_1 < (icLB x w cores.v kind.v).μ y))) ∧ (w.w ((0 : Nat) + (↑y.k : Int).toNat) = false → ∀ (v : Int), v = IntKind.i64.wrap ((↑y.k :
  Int) + (1 : Int)) → ∃ (y_1 : LB), (Inv cores.v y_1.s y_1.r ∧ y_1.r.n ≤ (1000 : Nat) ∧ y_1.k ≤ y_1.s.n ∧ (y_1.k = (0 : Nat) ∨ y_1.k ≤ w.len)) ∧ ((cores.v = cores.v ∧ ((x.nil = true → x.nil = true) ∧ (x.nil = false → x.nil
  = false ∧ True ∧ True ∧ (0 : Nat) = (0 : Nat) ∧ x.len = x.len ∧ x.cap = x.cap)) ∧ kind.v = kind.v ∧ ((w.nil = true → w.nil = true) ∧ (w.nil = false → w.nil = false ∧ True ∧ True ∧ (0 : Nat) = (0 : Nat) ∧ w.len = w.len ∧
  w.cap = w.cap)) ∧ (True ∧ True) ∧ (True ∧ True) ∧ leastF y.s.clk w.sel y.k = leastF y_1.s.clk w.sel y_1.k ∧ v = (↑y_1.k : Int) ∧ True) ∧ ((0 : Nat) ≤ (0 : Nat) ∧ x.len = x.len ∧ ∀ (j : Nat), j < x.len → x.core j = x.core
  j ∧ x.kind j = x.kind j ∧ x.times j = x.times j ∧ x.wait j = x.wait j ∧ True) ∧ ((0 : Nat) ≤ (0 : Nat) ∧ w.len = w.len ∧ ∀ (j : Nat), j < w.len → w.w j = w.w j) ∧ ((2 : Nat) ≤ (2 : Nat) ∧ (True ∧ True ∧ (0 : Nat) = (0 :
  Nat) ∧ y.s.n = y_1.s.n ∧ y.s.n = y_1.s.n) ∧ y.s.st = y_1.s.st ∧ True) ∧ (y_1.s.n * (10 : Nat) ≤ y.s.n * (10 : Nat) ∧ y_1.s.n = y.s.n ∧ ∀ (j : Nat), j < y.s.n → y.s.clk j = y_1.s.clk j ∧ ((9 : Nat) = (9 : Nat) ∧ ∀ (j_1 :
  Nat), j_1 < (9 : Nat) → y.s.by_ j j_1 = y_1.s.by_ j j_1) ∧ True) ∧ ((3 : Nat) ≤ (3 : Nat) ∧ y.r.cores = y_1.r.cores ∧ (True ∧ True ∧ (0 : Nat) = (0 : Nat) ∧ y.r.n = y_1.r.n ∧ y.r.cap = y_1.r.cap) ∧ y.r.st = y_1.r.st ∧
  True) ∧ (y_1.r.cap * (3 : Nat) ≤ y.r.cap * (3 : Nat) ∧ y_1.r.n = y.r.n ∧ ∀ (j : Nat), j < y.r.n → y.r.core j = y_1.r.core j ∧ y.r.kind j = y_1.r.kind j ∧ y.r.cyc j = y_1.r.cyc j ∧ True) ∧ True) ∧ (icLB x w cores.v
  kind.v).μ y_1 < (icLB x w cores.v kind.v).μ y)) ∧ (decide ((↑y.k : Int) < (↑w.len : Int)) = false → (((True ∧ True) ∧ ((w.nil = true → w.nil = true) ∧ (w.nil = false → w.nil = false ∧ True ∧ True ∧ (0 : Nat) = (0 : Nat)
  ∧ w.len = w.len ∧ w.cap = w.cap)) ∧ True) ∧ ((2 : Nat) ≤ (2 : Nat) ∧ (True ∧ True ∧ (0 : Nat) = (0 : Nat) ∧ y.s.n = y.s.n ∧ y.s.n = y.s.n) ∧ y.s.st = y.s.st ∧ True) ∧ (y.s.n * (10 : Nat) ≤ y.s.n * (10 : Nat) ∧ y.s.n =
  y.s.n ∧ ∀ (j : Nat), j < y.s.n → y.s.clk j = y.s.clk j ∧ ((9 : Nat) = (9 : Nat) ∧ ∀ (j_1 : Nat), j_1 < (9 : Nat) → y.s.by_ j j_1 = y.s.by_ j j_1) ∧ True) ∧ ((0 : Nat) ≤ (0 : Nat) ∧ w.len = w.len ∧ ∀ (j : Nat), j < w.len
  → w.w j = w.w j) ∧ True) ∧ (w.nil = true → w.len = (0 : Nat)) ∧ (w.len ≤ (1000 : Nat) ∧ y.s.n ≤ (4 : Nat)) ∧ ((leastF (fun (j : Nat) => y.s.clk j) w.sel y.s.n == leastF y.s.clk w.sel y.k) = true → ((kind.v = kind.v ∧
  True) ∧ True) ∧ ((kind.v = kind.v ∧ True) ∧ True) ∧ (cores.Ok ∧ x.Ok ∧ kind.Ok ∧ (w.nil = true → w.len = (0 : Nat)) → (cost kind.v == cost kind.v) = true ∧ True ∧ ((0 : Nat) ≤ (0 : Nat) ∧ x.len = x.len ∧ ∀ (j : Nat), j <
  x.len → x.core j = x.core j ∧ x.kind j = x.kind j ∧ x.times j = x.times j ∧ x.wait j = x.wait j ∧ True) ∧ ((0 : Nat) ≤ (0 : Nat) ∧ w.len = w.len ∧ ∀ (j : Nat), j < w.len → w.w j = w.w j) ∧ True)) ∧ ((leastF (fun (j :
  Nat) => y.s.clk j) w.sel y.s.n == leastF y.s.clk w.sel y.k) = false → cores.Ok ∧ x.Ok ∧ kind.Ok ∧ (w.nil = true → w.len = (0 : Nat)) → False ∧ True ∧ ((0 : Nat) ≤ (0 : Nat) ∧ x.len = x.len ∧ ∀ (j : Nat), j < x.len →
  x.core j = x.core j ∧ x.kind j = x.kind j ∧ x.times j = x.times j ∧ x.wait j = x.wait j ∧ True) ∧ ((0 : Nat) ≤ (0 : Nat) ∧ w.len = w.len ∧ ∀ (j : Nat), j < w.len → w.w j = w.w j) ∧ True))) ∧ (decide ((↑y.k : Int) <
  cores.v) = false → (((True ∧ True) ∧ ((w.nil = true → w.nil = true) ∧ (w.nil = false → w.nil = false ∧ True ∧ True ∧ (0 : Nat) = (0 : Nat) ∧ w.len = w.len ∧ w.cap = w.cap)) ∧ True) ∧ ((2 : Nat) ≤ (2 : Nat) ∧ (True ∧ True
  ∧ (0 : Nat) = (0 : Nat) ∧ y.s.n = y.s.n ∧ y.s.n = y.s.n) ∧ y.s.st = y.s.st ∧ True) ∧ (y.s.n * (10 : Nat) ≤ y.s.n * (10 : Nat) ∧ y.s.n = y.s.n ∧ ∀ (j : Nat), j < y.s.n → y.s.clk j = y.s.clk j ∧ ((9 : Nat) = (9 : Nat) ∧ ∀
  (j_1 : Nat), j_1 < (9 : Nat) → y.s.by_ j j_1 = y.s.by_ j j_1) ∧ True) ∧ ((0 : Nat) ≤ (0 : Nat) ∧ w.len = w.len ∧ ∀ (j : Nat), j < w.len → w.w j = w.w j) ∧ True) ∧ (w.nil = true → w.len = (0 : Nat)) ∧ (w.len ≤ (1000 :
  Nat) ∧ y.s.n ≤ (4 : Nat)) ∧ ((leastF (fun (j : Nat) => y.s.clk j) w.sel y.s.n == leastF y.s.clk w.sel y.k) = true → ((kind.v = kind.v ∧ True) ∧ True) ∧ ((kind.v = kind.v ∧ True) ∧ True) ∧ (cores.Ok ∧ x.Ok ∧ kind.Ok ∧
  (w.nil = true → w.len = (0 : Nat)) → (cost kind.v == cost kind.v) = true ∧ True ∧ ((0 : Nat) ≤ (0 : Nat) ∧ x.len = x.len ∧ ∀ (j : Nat), j < x.len → x.core j = x.core j ∧ x.kind j = x.kind j ∧ x.times j = x.times j ∧
  x.wait j = x.wait j ∧ True) ∧ ((0 : Nat) ≤ (0 : Nat) ∧ w.len = w.len ∧ ∀ (j : Nat), j < w.len → w.w j = w.w j) ∧ True)) ∧ ((leastF (fun (j : Nat) => y.s.clk j) w.sel y.s.n == leastF y.s.clk w.sel y.k) = false → cores.Ok
  ∧ x.Ok ∧ kind.Ok ∧ (w.nil = true → w.len = (0 : Nat)) → False ∧ True ∧ ((0 : Nat) ≤ (0 : Nat) ∧ x.len = x.len ∧ ∀ (j : Nat), j < x.len → x.core j = x.core j ∧ x.kind j = x.kind j ∧ x.times j = x.times j ∧ x.wait j =
  x.wait j ∧ True) ∧ ((0 : Nat) ≤ (0 : Nat) ∧ w.len = w.len ∧ ∀ (j : Nat), j < w.len → w.w j = w.w j) ∧ True))))))) ∧ (¬((1 : Int) ≤ cores.v ∧ cores.v ≤ (4 : Int)) → ∀ (v : Int), v = (11 : Int) → (decide (cores.v < (1 :
  Int)) = true → ((v == (11 : Int)) = true → cores.Ok ∧ x.Ok ∧ kind.Ok ∧ (w.nil = true → w.len = (0 : Nat)) → True ∧ True ∧ ((0 : Nat) ≤ (0 : Nat) ∧ x.len = x.len ∧ ∀ (j : Nat), j < x.len → x.core j = x.core j ∧ x.kind j =
  x.kind j ∧ x.times j = x.times j ∧ x.wait j = x.wait j ∧ True) ∧ ((0 : Nat) ≤ (0 : Nat) ∧ w.len = w.len ∧ ∀ (j : Nat), j < w.len → w.w j = w.w j) ∧ True) ∧ ((v == (11 : Int)) = false → cores.Ok ∧ x.Ok ∧ kind.Ok ∧ (w.nil
  = true → w.len = (0 : Nat)) → False ∧ True ∧ ((0 : Nat) ≤ (0 : Nat) ∧ x.len = x.len ∧ ∀ (j : Nat), j < x.len → x.core j = x.core j ∧ x.kind j = x.kind j ∧ x.times j = x.times j ∧ x.wait j = x.wait j ∧ True) ∧ ((0 : Nat)
  ≤ (0 : Nat) ∧ w.len = w.len ∧ ∀ (j : Nat), j < w.len → w.w j = w.w j) ∧ True)) ∧ (decide (cores.v < (1 : Int)) = false → (decide (cores.v > (4 : Int)) = true → ((v == (11 : Int)) = true → cores.Ok ∧ x.Ok ∧ kind.Ok ∧
  (w.nil = true → w.len = (0 : Nat)) → True ∧ True ∧ ((0 : Nat) ≤ (0 : Nat) ∧ x.len = x.len ∧ ∀ (j : Nat), j < x.len → x.core j = x.core j ∧ x.kind j = x.kind j ∧ x.times j = x.times j ∧ x.wait j = x.wait j ∧ True) ∧ ((0 :
  Nat) ≤ (0 : Nat) ∧ w.len = w.len ∧ ∀ (j : Nat), j < w.len → w.w j = w.w j) ∧ True) ∧ ((v == (11 : Int)) = false → cores.Ok ∧ x.Ok ∧ kind.Ok ∧ (w.nil = true → w.len = (0 : Nat)) → False ∧ True ∧ ((0 : Nat) ≤ (0 : Nat) ∧
  x.len = x.len ∧ ∀ (j : Nat), j < x.len → x.core j = x.core j ∧ x.kind j = x.kind j ∧ x.times j = x.times j ∧ x.wait j = x.wait j ∧ True) ∧ ((0 : Nat) ≤ (0 : Nat) ∧ w.len = w.len ∧ ∀ (j : Nat), j < w.len → w.w j = w.w j)
  ∧ True)) ∧ (decide (cores.v > (4 : Int)) = false → ((v != (0 : Int)) = true → cores.Ok ∧ x.Ok ∧ kind.Ok ∧ (w.nil = true → w.len = (0 : Nat)) → False ∧ True ∧ ((0 : Nat) ≤ (0 : Nat) ∧ x.len = x.len ∧ ∀ (j : Nat), j <
  x.len → x.core j = x.core j ∧ x.kind j = x.kind j ∧ x.times j = x.times j ∧ x.wait j = x.wait j ∧ True) ∧ ((0 : Nat) ≤ (0 : Nat) ∧ w.len = w.len ∧ ∀ (j : Nat), j < w.len → w.w j = w.w j) ∧ True) ∧ ((v != (0 : Int)) =
  false → cores.Ok ∧ x.Ok ∧ kind.Ok ∧ (w.nil = true → w.len = (0 : Nat)) → False ∧ True ∧ ((0 : Nat) ≤ (0 : Nat) ∧ x.len = x.len ∧ ∀ (j : Nat), j < x.len → x.core j = x.core j ∧ x.kind j = x.kind j ∧ x.times j = x.times j
  ∧ x.wait j = x.wait j ∧ True) ∧ ((0 : Nat) ≤ (0 : Nat) ∧ w.len = w.len ∧ ∀ (j : Nat), j < w.len → w.w j = w.w j) ∧ True)))))) := by
  intro cores x kind w hh
  simp only [and_true] at hh
  obtain ⟨hc, hx, hk, hw⟩ := hh
  have hx1 := hx.1
  simp only [true_and, and_true, eq_self, Nat.le_refl, decide_eq_true_eq, decide_eq_false_iff_not, beq_iff_eq, beq_eq_false_iff_ne, implies_true, and_self, bne_iff_ne, Int.not_lt, Int.not_le, ge_iff_le, gt_iff_lt, ne_eq, Nat.zero_add, Int.toNat_natCast, IntKind.wrap_i64, Bool.not_eq_true, bne_eq_false_iff_eq, Bool.not_eq_true', Bool.not_eq_false']
  simp only [hc, hx, hk, eq_true hw, eq_true hx1, imp_self, not_true_eq_false, true_and, and_true, imp_false, Decidable.not_not, and_false, exists_false, or_false, false_or, false_and]
  intro h60 h20
  have hcb : i64 cores.v := hc
  refine ⟨fun hcv m hm v hv => ?main, fun hcv v hv => by omega⟩
  refine ⟨by omega, fun _ => ⟨by omega, fun _ => ⟨hv, fun _ v hv => ⟨?start, ?A, ?B⟩⟩⟩⟩
  case start =>
    subst hm
    exact ⟨⟨0, MS.new cores.v, ⟨cores.v, false⟩⟩, ⟨Nat.zero_le _, Inv.new hcv⟩, hv, ⟨rfl, rfl⟩, ⟨Nat.le_refl _, rfl, fun _ _ => ⟨rfl, fun _ _ => rfl⟩⟩, rfl, rfl⟩
  case A =>
    rintro y ⟨hy, hI⟩
    refine ⟨fun hlt => ⟨y.i, ⟨y.i, ⟨by first | omega | (dsimp only; omega), by first | omega | (dsimp only; omega), ?D⟩, ?W, ?C⟩, ?CA, ?CB⟩, fun hge v hv v1 hv1 => ⟨?L0, ?L⟩⟩
    case D =>
      have hb : x.wait y.i = true ∨ x.wait y.i = false := by cases x.wait y.i <;> simp
      rcases hb with hb | hb
      · exact .inl ⟨⟨y.i, y.s, y.r⟩, ⟨rfl, by first | omega | (dsimp only; omega), hb, hI⟩, by simp [hb]⟩
      · exact .inr ⟨⟨y.i, y.s, y.r⟩, ⟨rfl, by first | omega | (dsimp only; omega), hb, hI⟩, by simp [hb]⟩
    case W =>
      rintro z ⟨hz, hzl, hzw, hJ⟩
      have hTu : 0 ≤ x.times z.i ∧ x.times z.i < 18446744073709551616 := (hx.2.2 z.i).2.2
      refine ⟨⟨hJ.ok, hTu⟩, fun q hq => ⟨hTu, fun hbd => ?_, fun hbd => ⟨fun hs => ?_, fun hs => ⟨fun ht => ?_, fun ht cap hcap => ?_⟩⟩⟩⟩
      · rw [MS.wait_bad (hJ.bad hbd)] at hq
        subst hq
        exact ⟨rfl, fun _ => ⟨⟨z.i, z.s, z.r⟩, ⟨hz, hJ⟩, rfl, ⟨rfl, rfl⟩, ⟨Nat.le_refl _, rfl, fun _ _ => ⟨rfl, fun _ _ => rfl⟩⟩, rfl, rfl⟩⟩
      · rw [MS.wait_st (hJ.nbad hbd) (hJ.st1 hs)] at hq
        subst hq
        exact ⟨rfl, fun _ => ⟨⟨z.i, z.s, z.r⟩, ⟨hz, hJ⟩, rfl, ⟨rfl, rfl⟩, ⟨Nat.le_refl _, rfl, fun _ _ => ⟨rfl, fun _ _ => rfl⟩⟩, rfl, rfl⟩⟩
      · rw [MS.wait_ok (hJ.nbad hbd) (hJ.st1 hs) (by rw [← hJ.clk1 hbd]; exact ht)] at hq
        subst hq
        exact ⟨rfl, fun _ => ⟨⟨z.i, z.s, z.r⟩, ⟨hz, hJ⟩, rfl, ⟨rfl, rfl⟩, ⟨Nat.le_refl _, rfl, fun _ _ => ⟨rfl, fun _ _ => rfl⟩⟩, rfl, rfl⟩⟩
      · obtain ⟨s1, e1, e2, e3⟩ := hJ.won hbd hs ht hcap
        simp only [R0.sum0, Int.sub_zero] at e1 e2
        rw [e1] at hq
        subst hq
        exact ⟨rfl, fun _ => ⟨⟨z.i, s1, _⟩, ⟨hz, e2, Nat.succ_le_succ (Nat.zero_le _)⟩, rfl, ⟨rfl, rfl⟩, ⟨Nat.le_of_eq (by rw [e3]), rfl, fun _ _ => ⟨rfl, fun _ _ => rfl⟩⟩, ⟨rfl, ⟨rfl, rfl⟩, rfl⟩, Nat.le_refl _, rfl, fun _ _ => ⟨rfl, rfl, rfl⟩⟩⟩
    case C =>
      rintro z ⟨hz, hzl, hzw, hJ⟩
      have hTu : 0 ≤ x.times z.i ∧ x.times z.i < 18446744073709551616 := (hx.2.2 z.i).2.2
      refine ⟨⟨hJ.ok, hTu⟩, fun q hq => ⟨hTu, fun hbd => ?_, fun hbd => ⟨fun hs => ?_, fun hs cap hcap => ?_⟩⟩⟩
      · rw [hJ.cbad hbd] at hq
        subst hq
        exact ⟨rfl, fun _ => ⟨⟨z.i, z.s, z.r⟩, ⟨hz, hJ⟩, rfl, ⟨rfl, rfl⟩, ⟨Nat.le_refl _, rfl, fun _ _ => ⟨rfl, fun _ _ => rfl⟩⟩, rfl, rfl⟩⟩
      · rw [hJ.cst hbd hs] at hq
        subst hq
        exact ⟨rfl, fun _ => ⟨⟨z.i, z.s, z.r⟩, ⟨hz, hJ⟩, rfl, ⟨rfl, rfl⟩, ⟨Nat.le_refl _, rfl, fun _ _ => ⟨rfl, fun _ _ => rfl⟩⟩, rfl, rfl⟩⟩
      · obtain ⟨s1, e1, e2, e3⟩ := hJ.con hbd hs hTu.1 hcap
        rw [e1] at hq
        subst hq
        exact ⟨rfl, fun _ => ⟨⟨z.i, s1, _⟩, ⟨hz, e2, Nat.succ_le_succ (Nat.zero_le _)⟩, rfl, ⟨rfl, rfl⟩, ⟨Nat.le_of_eq (by rw [e3]), rfl, fun _ _ => ⟨rfl, fun _ _ => rfl⟩⟩, ⟨rfl, ⟨rfl, rfl⟩, rfl⟩, Nat.le_refl _, rfl, fun _ _ => ⟨rfl, rfl, rfl⟩⟩⟩
    case CA =>
      rintro z ⟨hz, hJ⟩
      refine ⟨hJ.st.symm, fun _ v hv => ⟨z.i, ⟨⟨z.s, z.r, -1⟩, ⟨hJ, by first | omega | (dsimp only; omega), by first | omega | (dsimp only; omega)⟩, ⟨rfl, hv⟩, ⟨rfl, rfl⟩, ⟨Nat.le_refl _, rfl, fun _ _ => ⟨rfl, fun _ _ => rfl⟩⟩, rfl, rfl⟩, ?_⟩⟩
      rintro u ⟨hJ2, hk1, hk2⟩
      obtain ⟨a1, a2, a3, a4, a5, a6⟩ := hJ2.asks u.k kind.v
      simp only [R0.sum0] at a1 a2 a3
      refine ⟨fun hk3 => ?_, fun hk3 v hv => ⟨⟨z.i + 1, u.s, u.r⟩, ⟨by first | omega | (dsimp only; omega), hJ2⟩, ⟨by first | omega | (dsimp only; omega), ⟨rfl, rfl⟩, ⟨Nat.le_refl _, rfl, fun _ _ => ⟨rfl, fun _ _ => rfl⟩⟩, rfl, rfl⟩, by show x.len - (z.i + 1) < x.len - y.i; omega⟩⟩
      repeat' (with_reducible first | apply And.intro | intro _)
      all_goals first | exact a1 | exact a2 | exact a4 (by assumption) | exact a3 (by assumption) | exact a5 (by assumption) | exact a6 (by assumption) | exact ⟨⟨u.s, u.r, u.k + 1⟩, ⟨hJ2, by first | omega | (dsimp only; omega), by first | omega | (dsimp only; omega)⟩, ⟨by first | omega | (dsimp only; omega), ⟨rfl, rfl⟩, ⟨Nat.le_refl _, rfl, fun _ _ => ⟨rfl, fun _ _ => rfl⟩⟩, rfl, rfl⟩, by show (cores.v + 1 - (u.k + 1)).toNat < (cores.v + 1 - u.k).toNat; omega⟩
    case CB =>
      rintro z ⟨hz, hJ, hzn⟩
      refine ⟨hJ.st.symm, fun _ v hv => ⟨z.i, ⟨⟨z.s, z.r, -1⟩, ⟨hJ, by first | omega | (dsimp only; omega), by first | omega | (dsimp only; omega), by first | omega | (dsimp only; omega)⟩, ⟨rfl, hv⟩, ⟨rfl, rfl⟩, ⟨Nat.le_refl _, rfl, fun _ _ => ⟨rfl, fun _ _ => rfl⟩⟩, ⟨rfl, ⟨rfl, rfl⟩, rfl⟩, Nat.le_refl _, rfl, fun _ _ => ⟨rfl, rfl, rfl⟩⟩, ?_⟩⟩
      rintro u ⟨hJ2, hun, hk1, hk2⟩
      obtain ⟨a1, a2, a3, a4, a5, a6⟩ := hJ2.asks u.k kind.v
      refine ⟨fun hk3 => ?_, fun hk3 v hv => ⟨⟨z.i + 1, u.s, u.r⟩, ⟨by first | omega | (dsimp only; omega), hJ2, by first | omega | (dsimp only; omega)⟩, ⟨by first | omega | (dsimp only; omega), ⟨rfl, rfl⟩, ⟨Nat.le_refl _, rfl, fun _ _ => ⟨rfl, fun _ _ => rfl⟩⟩, ⟨rfl, ⟨rfl, rfl⟩, rfl⟩, Nat.le_refl _, rfl, fun _ _ => ⟨rfl, rfl, rfl⟩⟩, by show x.len - (z.i + 1) < x.len - y.i; omega⟩⟩
      repeat' (with_reducible first | apply And.intro | intro _)
      all_goals first | exact a1 | exact a2 | exact a4 (by assumption) | exact a3 (by assumption) | exact a5 (by assumption) | exact a6 (by assumption) | exact hJ2.rok (by first | omega | (dsimp only; omega)) | exact ⟨⟨u.s, u.r, u.k + 1⟩, ⟨hJ2, by first | omega | (dsimp only; omega), by first | omega | (dsimp only; omega), by first | omega | (dsimp only; omega)⟩, ⟨by first | omega | (dsimp only; omega), ⟨rfl, rfl⟩, ⟨Nat.le_refl _, rfl, fun _ _ => ⟨rfl, fun _ _ => rfl⟩⟩, ⟨rfl, ⟨rfl, rfl⟩, rfl⟩, Nat.le_refl _, rfl, fun _ _ => ⟨rfl, rfl, rfl⟩⟩, by show (cores.v + 1 - (u.k + 1)).toNat < (cores.v + 1 - u.k).toNat; omega⟩
    case L0 => exact ⟨⟨y.s, y.r, 0⟩, ⟨hI, Nat.zero_le _, .inl rfl⟩, ⟨hv, hv1⟩, ⟨rfl, rfl⟩, ⟨Nat.le_refl _, rfl, fun _ _ => ⟨rfl, fun _ _ => rfl⟩⟩, rfl, rfl⟩
    case L =>
      rintro z ⟨hJ, hk1, hk2⟩
      have hn := hJ.n
      have hn4 := hJ.n4
      refine ⟨fun hlt => ⟨fun hlw => ⟨by first | omega | (dsimp only; omega), by first | omega | (dsimp only; omega), fun hw => ?_, fun hw => ?_⟩, fun hlw => ⟨by first | omega | (dsimp only; omega), least_end hk1 hk2 (.inl (by first | omega | (dsimp only; omega)))⟩⟩, fun hlt => ⟨by first | omega | (dsimp only; omega), least_end hk1 hk2 (.inr (by first | omega | (dsimp only; omega)))⟩⟩
      · have hl := (hJ.least w hlt).2 hw (by first | omega | (dsimp only; omega))
        refine ⟨fun h0 v hv v2 hv2 => ?_, fun h0 => ⟨fun hc v hv v2 hv2 => ?_, fun hc v2 hv2 => ?_⟩⟩
        · exact ⟨⟨z.s, z.r, z.k + 1⟩, ⟨hJ, by first | omega | (dsimp only; omega), .inr (by first | omega | (dsimp only; omega))⟩, ⟨⟨hv.trans (hl.1 h0).symm, by first | omega | (dsimp only; omega)⟩, ⟨rfl, rfl⟩, ⟨Nat.le_refl _, rfl, fun _ _ => ⟨rfl, fun _ _ => rfl⟩⟩, rfl, rfl⟩, by show z.s.n - (z.k + 1) < z.s.n - z.k; omega⟩
        · exact ⟨⟨z.s, z.r, z.k + 1⟩, ⟨hJ, by first | omega | (dsimp only; omega), .inr (by first | omega | (dsimp only; omega))⟩, ⟨⟨hv.trans ((hl.2 h0).1 hc).symm, by first | omega | (dsimp only; omega)⟩, ⟨rfl, rfl⟩, ⟨Nat.le_refl _, rfl, fun _ _ => ⟨rfl, fun _ _ => rfl⟩⟩, rfl, rfl⟩, by show z.s.n - (z.k + 1) < z.s.n - z.k; omega⟩
        · exact ⟨⟨z.s, z.r, z.k + 1⟩, ⟨hJ, by first | omega | (dsimp only; omega), .inr (by first | omega | (dsimp only; omega))⟩, ⟨⟨((hl.2 h0).2 hc).symm, by first | omega | (dsimp only; omega)⟩, ⟨rfl, rfl⟩, ⟨Nat.le_refl _, rfl, fun _ _ => ⟨rfl, fun _ _ => rfl⟩⟩, rfl, rfl⟩, by show z.s.n - (z.k + 1) < z.s.n - z.k; omega⟩
      · have hl := (hJ.least w hlt).1 hw
        intro v2 hv2
        exact ⟨⟨z.s, z.r, z.k + 1⟩, ⟨hJ, by first | omega | (dsimp only; omega), .inr (by first | omega | (dsimp only; omega))⟩, ⟨⟨hl.symm, by first | omega | (dsimp only; omega)⟩, ⟨rfl, rfl⟩, ⟨Nat.le_refl _, rfl, fun _ _ => ⟨rfl, fun _ _ => rfl⟩⟩, rfl, rfl⟩, by show z.s.n - (z.k + 1) < z.s.n - z.k; omega⟩
  case B =>
    rintro y ⟨hy, hI, hyn⟩
    refine ⟨fun hlt => ⟨y.i, ⟨y.i, ⟨by first | omega | (dsimp only; omega), by first | omega | (dsimp only; omega), ?D⟩, ?W, ?C⟩, ?CB⟩, fun hge v hv v1 hv1 => ⟨?L0, ?L⟩⟩
    case D =>
      have hb : x.wait y.i = true ∨ x.wait y.i = false := by cases x.wait y.i <;> simp
      rcases hb with hb | hb
      · exact .inl ⟨⟨y.i, y.s, y.r⟩, ⟨rfl, by first | omega | (dsimp only; omega), hb, hI, hyn⟩, by simp [hb]⟩
      · exact .inr ⟨⟨y.i, y.s, y.r⟩, ⟨rfl, by first | omega | (dsimp only; omega), hb, hI, hyn⟩, by simp [hb]⟩
    case W =>
      rintro z ⟨hz, hzl, hzw, hJ, hzn⟩
      have hTu : 0 ≤ x.times z.i ∧ x.times z.i < 18446744073709551616 := (hx.2.2 z.i).2.2
      refine ⟨⟨hJ.ok, hTu⟩, fun q hq => ⟨⟨hJ.rok (by first | omega | (dsimp only; omega)), hTu⟩, fun hbd => ?_, fun hbd => ⟨fun hs => ?_, fun hs => ⟨fun ht => ?_, fun ht cap hcap => ?_⟩⟩⟩⟩
      · rw [MS.wait_bad (hJ.bad hbd)] at hq
        subst hq
        exact ⟨rfl, fun _ => ⟨⟨z.i, z.s, z.r⟩, ⟨hz, hJ, by first | omega | (dsimp only; omega)⟩, rfl, ⟨rfl, rfl⟩, ⟨Nat.le_refl _, rfl, fun _ _ => ⟨rfl, fun _ _ => rfl⟩⟩, ⟨rfl, ⟨rfl, rfl⟩, rfl⟩, Nat.le_refl _, rfl, fun _ _ => ⟨rfl, rfl, rfl⟩⟩⟩
      · rw [MS.wait_st (hJ.nbad hbd) (hJ.st1 hs)] at hq
        subst hq
        exact ⟨rfl, fun _ => ⟨⟨z.i, z.s, z.r⟩, ⟨hz, hJ, by first | omega | (dsimp only; omega)⟩, rfl, ⟨rfl, rfl⟩, ⟨Nat.le_refl _, rfl, fun _ _ => ⟨rfl, fun _ _ => rfl⟩⟩, ⟨rfl, ⟨rfl, rfl⟩, rfl⟩, Nat.le_refl _, rfl, fun _ _ => ⟨rfl, rfl, rfl⟩⟩⟩
      · rw [MS.wait_ok (hJ.nbad hbd) (hJ.st1 hs) (by rw [← hJ.clk1 hbd]; exact ht)] at hq
        subst hq
        exact ⟨rfl, fun _ => ⟨⟨z.i, z.s, z.r⟩, ⟨hz, hJ, by first | omega | (dsimp only; omega)⟩, rfl, ⟨rfl, rfl⟩, ⟨Nat.le_refl _, rfl, fun _ _ => ⟨rfl, fun _ _ => rfl⟩⟩, ⟨rfl, ⟨rfl, rfl⟩, rfl⟩, Nat.le_refl _, rfl, fun _ _ => ⟨rfl, rfl, rfl⟩⟩⟩
      · obtain ⟨s1, e1, e2, e3⟩ := hJ.won hbd hs ht hcap
        rw [e1] at hq
        subst hq
        exact ⟨rfl, fun _ => ⟨⟨z.i, s1, _⟩, ⟨hz, e2, by show z.r.n + 1 ≤ z.i + 1; omega⟩, rfl, ⟨rfl, rfl⟩, ⟨Nat.le_of_eq (by rw [e3]), rfl, fun _ _ => ⟨rfl, fun _ _ => rfl⟩⟩, ⟨rfl, ⟨rfl, rfl⟩, rfl⟩, Nat.le_refl _, rfl, fun _ _ => ⟨rfl, rfl, rfl⟩⟩⟩
    case C =>
      rintro z ⟨hz, hzl, hzw, hJ, hzn⟩
      have hTu : 0 ≤ x.times z.i ∧ x.times z.i < 18446744073709551616 := (hx.2.2 z.i).2.2
      refine ⟨⟨hJ.ok, hTu⟩, fun q hq => ⟨⟨hJ.rok (by first | omega | (dsimp only; omega)), hTu⟩, fun hbd => ?_, fun hbd => ⟨fun hs => ?_, fun hs cap hcap => ?_⟩⟩⟩
      · rw [hJ.cbad hbd] at hq
        subst hq
        exact ⟨rfl, fun _ => ⟨⟨z.i, z.s, z.r⟩, ⟨hz, hJ, by first | omega | (dsimp only; omega)⟩, rfl, ⟨rfl, rfl⟩, ⟨Nat.le_refl _, rfl, fun _ _ => ⟨rfl, fun _ _ => rfl⟩⟩, ⟨rfl, ⟨rfl, rfl⟩, rfl⟩, Nat.le_refl _, rfl, fun _ _ => ⟨rfl, rfl, rfl⟩⟩⟩
      · rw [hJ.cst hbd hs] at hq
        subst hq
        exact ⟨rfl, fun _ => ⟨⟨z.i, z.s, z.r⟩, ⟨hz, hJ, by first | omega | (dsimp only; omega)⟩, rfl, ⟨rfl, rfl⟩, ⟨Nat.le_refl _, rfl, fun _ _ => ⟨rfl, fun _ _ => rfl⟩⟩, ⟨rfl, ⟨rfl, rfl⟩, rfl⟩, Nat.le_refl _, rfl, fun _ _ => ⟨rfl, rfl, rfl⟩⟩⟩
      · obtain ⟨s1, e1, e2, e3⟩ := hJ.con hbd hs hTu.1 hcap
        rw [e1] at hq
        subst hq
        exact ⟨rfl, fun _ => ⟨⟨z.i, s1, _⟩, ⟨hz, e2, by show z.r.n + 1 ≤ z.i + 1; omega⟩, rfl, ⟨rfl, rfl⟩, ⟨Nat.le_of_eq (by rw [e3]), rfl, fun _ _ => ⟨rfl, fun _ _ => rfl⟩⟩, ⟨rfl, ⟨rfl, rfl⟩, rfl⟩, Nat.le_refl _, rfl, fun _ _ => ⟨rfl, rfl, rfl⟩⟩⟩
    case CB =>
      rintro z ⟨hz, hJ, hzn⟩
      refine ⟨hJ.st.symm, fun _ v hv => ⟨z.i, ⟨⟨z.s, z.r, -1⟩, ⟨hJ, by first | omega | (dsimp only; omega), by first | omega | (dsimp only; omega), by first | omega | (dsimp only; omega)⟩, ⟨rfl, hv⟩, ⟨rfl, rfl⟩, ⟨Nat.le_refl _, rfl, fun _ _ => ⟨rfl, fun _ _ => rfl⟩⟩, ⟨rfl, ⟨rfl, rfl⟩, rfl⟩, Nat.le_refl _, rfl, fun _ _ => ⟨rfl, rfl, rfl⟩⟩, ?_⟩⟩
      rintro u ⟨hJ2, hun, hk1, hk2⟩
      obtain ⟨a1, a2, a3, a4, a5, a6⟩ := hJ2.asks u.k kind.v
      refine ⟨fun hk3 => ?_, fun hk3 v hv => ⟨⟨z.i + 1, u.s, u.r⟩, ⟨by first | omega | (dsimp only; omega), hJ2, by first | omega | (dsimp only; omega)⟩, ⟨by first | omega | (dsimp only; omega), ⟨rfl, rfl⟩, ⟨Nat.le_refl _, rfl, fun _ _ => ⟨rfl, fun _ _ => rfl⟩⟩, ⟨rfl, ⟨rfl, rfl⟩, rfl⟩, Nat.le_refl _, rfl, fun _ _ => ⟨rfl, rfl, rfl⟩⟩, by show x.len - (z.i + 1) < x.len - y.i; omega⟩⟩
      repeat' (with_reducible first | apply And.intro | intro _)
      all_goals first | exact a1 | exact a2 | exact a4 (by assumption) | exact a3 (by assumption) | exact a5 (by assumption) | exact a6 (by assumption) | exact hJ2.rok (by first | omega | (dsimp only; omega)) | exact ⟨⟨u.s, u.r, u.k + 1⟩, ⟨hJ2, by first | omega | (dsimp only; omega), by first | omega | (dsimp only; omega), by first | omega | (dsimp only; omega)⟩, ⟨by first | omega | (dsimp only; omega), ⟨rfl, rfl⟩, ⟨Nat.le_refl _, rfl, fun _ _ => ⟨rfl, fun _ _ => rfl⟩⟩, ⟨rfl, ⟨rfl, rfl⟩, rfl⟩, Nat.le_refl _, rfl, fun _ _ => ⟨rfl, rfl, rfl⟩⟩, by show (cores.v + 1 - (u.k + 1)).toNat < (cores.v + 1 - u.k).toNat; omega⟩
    case L0 => exact ⟨⟨y.s, y.r, 0⟩, ⟨hI, by first | omega | (dsimp only; omega), Nat.zero_le _, .inl rfl⟩, ⟨hv, hv1⟩, ⟨rfl, rfl⟩, ⟨Nat.le_refl _, rfl, fun _ _ => ⟨rfl, fun _ _ => rfl⟩⟩, ⟨rfl, ⟨rfl, rfl⟩, rfl⟩, Nat.le_refl _, rfl, fun _ _ => ⟨rfl, rfl, rfl⟩⟩
    case L =>
      rintro z ⟨hJ, hzn, hk1, hk2⟩
      have hn := hJ.n
      have hn4 := hJ.n4
      refine ⟨fun hlt => ⟨fun hlw => ⟨by first | omega | (dsimp only; omega), by first | omega | (dsimp only; omega), fun hw => ?_, fun hw => ?_⟩, fun hlw => ⟨by first | omega | (dsimp only; omega), least_end hk1 hk2 (.inl (by first | omega | (dsimp only; omega)))⟩⟩, fun hlt => ⟨by first | omega | (dsimp only; omega), least_end hk1 hk2 (.inr (by first | omega | (dsimp only; omega)))⟩⟩
      · have hl := (hJ.least w hlt).2 hw (by first | omega | (dsimp only; omega))
        refine ⟨fun h0 v hv v2 hv2 => ?_, fun h0 => ⟨hJ.rok (by omega), hJ.rok (by omega), fun hc v hv v2 hv2 => ?_, fun hc v2 hv2 => ?_⟩⟩
        · exact ⟨⟨z.s, z.r, z.k + 1⟩, ⟨hJ, by first | omega | (dsimp only; omega), by first | omega | (dsimp only; omega), .inr (by first | omega | (dsimp only; omega))⟩, ⟨⟨hv.trans (hl.1 h0).symm, by first | omega | (dsimp only; omega)⟩, ⟨rfl, rfl⟩, ⟨Nat.le_refl _, rfl, fun _ _ => ⟨rfl, fun _ _ => rfl⟩⟩, ⟨rfl, ⟨rfl, rfl⟩, rfl⟩, Nat.le_refl _, rfl, fun _ _ => ⟨rfl, rfl, rfl⟩⟩, by show z.s.n - (z.k + 1) < z.s.n - z.k; omega⟩
        · exact ⟨⟨z.s, z.r, z.k + 1⟩, ⟨hJ, by first | omega | (dsimp only; omega), by first | omega | (dsimp only; omega), .inr (by first | omega | (dsimp only; omega))⟩, ⟨⟨hv.trans ((hl.2 h0).1 hc).symm, by first | omega | (dsimp only; omega)⟩, ⟨rfl, rfl⟩, ⟨Nat.le_refl _, rfl, fun _ _ => ⟨rfl, fun _ _ => rfl⟩⟩, ⟨rfl, ⟨rfl, rfl⟩, rfl⟩, Nat.le_refl _, rfl, fun _ _ => ⟨rfl, rfl, rfl⟩⟩, by show z.s.n - (z.k + 1) < z.s.n - z.k; omega⟩
        · exact ⟨⟨z.s, z.r, z.k + 1⟩, ⟨hJ, by first | omega | (dsimp only; omega), by first | omega | (dsimp only; omega), .inr (by first | omega | (dsimp only; omega))⟩, ⟨⟨((hl.2 h0).2 hc).symm, by first | omega | (dsimp only; omega)⟩, ⟨rfl, rfl⟩, ⟨Nat.le_refl _, rfl, fun _ _ => ⟨rfl, fun _ _ => rfl⟩⟩, ⟨rfl, ⟨rfl, rfl⟩, rfl⟩, Nat.le_refl _, rfl, fun _ _ => ⟨rfl, rfl, rfl⟩⟩, by show z.s.n - (z.k + 1) < z.s.n - z.k; omega⟩
      · have hl := (hJ.least w hlt).1 hw
        intro v2 hv2
        exact ⟨⟨z.s, z.r, z.k + 1⟩, ⟨hJ, by first | omega | (dsimp only; omega), by first | omega | (dsimp only; omega), .inr (by first | omega | (dsimp only; omega))⟩, ⟨⟨hl.symm, by first | omega | (dsimp only; omega)⟩, ⟨rfl, rfl⟩, ⟨Nat.le_refl _, rfl, fun _ _ => ⟨rfl, fun _ _ => rfl⟩⟩, ⟨rfl, ⟨rfl, rfl⟩, rfl⟩, Nat.le_refl _, rfl, fun _ _ => ⟨rfl, rfl, rfl⟩⟩, by show z.s.n - (z.k + 1) < z.s.n - z.k; omega⟩

def calls_C (x : (JI × CS × JI × WS)) : Cfg := { Γ := Go.Sx.look tIC, names := true, loops := icL (x.2.1) (x.2.2.2) (x.1).v (x.2.2.1).v, cuts := icK (x.2.1) (x.2.2.2) (x.1).v (x.2.2.1).v, mode := icM, locks := icLk, left := true }
theorem calls_al (x : (JI × CS × JI × WS)) : Shown (icP.vc Try.prog (calls_C x) Try.f3 x) := ⟨@Eq.mp _ _ (by kernel_rfl) (calls_vc (x.1) (x.2.1) (x.2.2.1) (x.2.2.2))⟩
theorem calls_ok : SpOk Try.prog 3 icP.sp := @Pat.okS _ icP Try.prog calls_C 3 Try.f3 (fun x => cfg_tab rfl tIC_ok) (by kernel_rfl) Try.func3 (fun _ => rfl) calls_al
end Go.Proofs.Ytglbonfohmdcnaa
