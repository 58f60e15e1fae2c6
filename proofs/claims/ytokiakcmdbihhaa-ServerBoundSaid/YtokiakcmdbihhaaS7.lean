import Derived.Test.YtokiakcmdbihhaaS6
open Go Go.Sx Go.Proofs
set_option maxRecDepth 100000
namespace Go.Proofs.Ytokiakcmdbihhaa

/-- Times are times. -/
def InA (l : Chs) : Prop := ∀ p ∈ l, 0 ≤ p.1 ∧ p.1 ≤ 4611686018427387904
def L1 (t now : Int) (l : Chs) : Chs := if dueL t l ≤ now then wakeL now l else l
def cI (q c : Int) : Int := if q < c then q else c
theorem charge_def (q t now c : Int) (l : Chs) : chargeL q t now c l = laysL (takeL t (cI q c) (L1 t now l)).1 (takeL t (cI q c) (L1 t now l)).2 := rfl
structure ChOk (s : SS) (now c : Int) : Prop where
  sm : s.x.Sm
  one : 1 ≤ s.x.len
  t0 : 0 ≤ s.t
  t1 : s.t ≤ 1099511627776
  n0 : 0 ≤ now
  n1 : now ≤ 4611686018427387904
  c0 : 0 ≤ c
  q0 : 0 ≤ s.q
  q1 : s.q ≤ totL s.x.L
  ia : InA s.x.L
theorem wake_InA {now : Int} (h0 : 0 ≤ now) (h1 : now ≤ 4611686018427387904) {l : Chs} (h : InA l) : InA (wakeL now l) := by
  unfold wakeL
  split
  · exact h
  · intro p hp
    rcases List.mem_cons.1 hp with rfl | hp
    · exact ⟨h0, h1⟩
    · exact h p (List.mem_of_mem_drop hp)
theorem L1_facts {s : SS} {now c : Int} (h : ChOk s now c) : InL (L1 s.t now s.x.L) ∧ totL (L1 s.t now s.x.L) = totL s.x.L ∧ (L1 s.t now s.x.L).length ≤ 8 ∧ InA (L1 s.t now s.x.L) := by
  have hsm := h.sm
  obtain ⟨h1, h2, h3, h4⟩ := hsm
  have h1' := h.one
  unfold L1
  split
  · obtain ⟨g1, g2, g3, g4⟩ := wake_In (now := now) h3
    rw [CR.L_len] at g3
    exact ⟨g1, g2, by omega, wake_InA h.n0 h.n1 h.ia⟩
  · exact ⟨h3, rfl, by rw [CR.L_len]; exact h2, h.ia⟩
def chgP : Pat (SS × Int × Int) where
  view | [.ptr r 0 [], .int .u64 n, .int .u64 c], H => some (viewS r H, n, c) | _, _ => none
  args x := [p0 0, .int .u64 x.2.1, .int .u64 x.2.2]
  H x := x.1.H
  out x := .need (ChOk x.1 x.2.1 x.2.2) (.any (fun y : CR => y.Ok ∧ y.L = chargeL x.1.q x.1.t x.2.1 x.2.2 x.1.x.L) fun y => .ret (.int .u64 (cI x.1.q x.2.2)) (x.1.H2 y))
def chgA (s : SS) (n c : Int) : Fam where
  α := CR
  I y := y.Ok ∧ y.L = L1 s.t n s.x.L
  st y := { sl := mkSl 96 [(0, p0 0), (1, .int .u64 n), (2, .int .u64 (cI s.q c)), (7, .nils), (8, .int .u64 (cI s.q c))], H := s.H2 y }
  μ y := y.len + (if 0 < cI s.q c then 1 else 0)
/-- Where the charge stands. -/
structure StL (s : SS) (n c : Int) (y : CR) (B : Chs) (l : Int) : Prop where
  ok : y.Ok
  inl : InL y.L
  ia : InA y.L
  l0 : 0 ≤ l
  l1 : l ≤ totL y.L
  tot : totL y.L ≤ 4398046511104
  zl : B.length + y.len ≤ 8 ∨ (l = 0 ∧ y.len ≤ 8 ∧ B.length + y.len ≤ 9)
  e1 : B ++ (takeL s.t l y.L).1 = (takeL s.t (cI s.q c) (L1 s.t n s.x.L)).1
  e2 : (takeL s.t l y.L).2 = (takeL s.t (cI s.q c) (L1 s.t n s.x.L)).2
def dropR (y : CR) (m : Int) : CR := ⟨if y.cap = 1 then y.lo else y.lo + 1, y.len - 1, y.cap - 1, y.N, fun j => if j = y.lo then y.a y.lo else y.a j, fun j => if j = y.lo then y.b y.lo - m else y.b j⟩
def cutR (y : CR) (m : Int) : CR := ⟨y.lo, y.len, y.cap, y.N, fun j => if j = y.lo then y.a y.lo else y.a j, fun j => if j = y.lo then y.b y.lo - m else y.b j⟩
theorem CR.L_cons {y : CR} (h : 1 ≤ y.len) : y.L = (y.a y.lo, y.b y.lo) :: y.L.drop 1 := by
  apply List.ext_getElem?
  intro j
  cases j with
  | zero => rw [CR.L_get, if_pos (by omega)]; rfl
  | succ j => rw [List.getElem?_cons_succ, List.getElem?_drop, Nat.add_comm 1 j]
theorem dropR_L {y : CR} (hy : y.Ok) (h0 : 1 ≤ y.len) (m : Int) : (dropR y m).Ok ∧ (dropR y m).L = y.L.drop 1 := by
  have h1 := hy.1
  have h2 := hy.2
  refine ⟨⟨?_, ?_⟩, CR.L_eq ?_ fun j hj => ?_⟩
  · simp only [dropR]; split <;> omega
  · simp only [dropR]; omega
  · rw [List.length_drop, CR.L_len]; rfl
  · have hj : j < y.len - 1 := hj
    rw [List.getElem?_drop, CR.L_get, if_pos (by omega)]
    simp only [dropR]
    have hc : ¬ y.cap = 1 := by omega
    rw [if_neg hc, if_neg (by omega), if_neg (by omega), show y.lo + 1 + j = y.lo + (1 + j) by omega]
theorem cutR_L {y : CR} (hy : y.Ok) (h : 1 ≤ y.len) (m : Int) : (cutR y m).Ok ∧ (cutR y m).L = (y.a y.lo, y.b y.lo - m) :: y.L.drop 1 := by
  refine ⟨hy, CR.L_eq ?_ fun j hj => ?_⟩
  · rw [List.length_cons, List.length_drop, CR.L_len]
    show y.len = _
    omega
  · have hj : j < y.len := hj
    cases j with
    | zero => simp [cutR]
    | succ j =>
      rw [List.getElem?_cons_succ, List.getElem?_drop, CR.L_get, if_pos (by omega)]
      simp only [cutR]
      rw [if_neg (by omega), if_neg (by omega), show y.lo + (j + 1) = y.lo + (1 + j) by omega]
theorem StL.one {s : SS} {n c : Int} {y : CR} {B : Chs} {l : Int} (h : StL s n c y B l) (hl : 0 < l) : 1 ≤ y.len := by
  rcases Nat.eq_zero_or_pos y.len with h0 | h0
  · exfalso
    have h1 := h.l1
    have h2 : y.L = [] := List.eq_nil_of_length_eq_zero (by rw [CR.L_len]; exact h0)
    rw [h2] at h1
    simp only [totL] at h1
    omega
  · exact h0
theorem StL.hd {s : SS} {n c : Int} {y : CR} {B : Chs} {l : Int} (h : StL s n c y B l) (hl : 0 < l) : (0 ≤ y.a y.lo ∧ y.a y.lo ≤ 4611686018427387904) ∧ 1 ≤ y.b y.lo ∧ y.b y.lo ≤ 4398046511104 := by
  have h1 := h.one hl
  have hc := CR.L_cons h1
  have hm : (y.a y.lo, y.b y.lo) ∈ y.L := by rw [hc]; exact List.mem_cons_self
  have h2 := CR.snd_le h.inl h.tot (j := 0) (by omega)
  exact ⟨h.ia _ hm, h2⟩
theorem StL.drop {s : SS} {n c : Int} {y : CR} {B : Chs} {l : Int} (h : StL s n c y B l) (hl : 0 < l) (hb : y.b y.lo ≤ l) :
    StL s n c (dropR y (y.b y.lo)) (B ++ [(cutI (y.a y.lo + s.t), y.b y.lo)]) (l - y.b y.lo) := by
  have h1 := h.one hl
  obtain ⟨h2, h3⟩ := h.hd hl
  obtain ⟨d1, d2⟩ := dropR_L h.ok h1 (y.b y.lo)
  have hc := CR.L_cons h1
  have ht : totL y.L = y.b y.lo + totL (y.L.drop 1) := by rw [hc]; rfl
  have k1 := h.l1
  have k2 := h.tot
  have hT : takeL s.t l y.L = ((cutI (y.a y.lo + s.t), y.b y.lo) :: (takeL s.t (l - y.b y.lo) (y.L.drop 1)).1, (takeL s.t (l - y.b y.lo) (y.L.drop 1)).2) := by
    conv => lhs; rw [hc]
    simp only [takeL]
    rw [if_neg (by omega), if_neg (by omega)]
  have z := h.zl
  have e0 : (dropR y (y.b y.lo)).len = y.len - 1 := rfl
  refine ⟨d1, by rw [d2]; exact drop_In h.inl 1, by rw [d2]; exact fun p hp => h.ia p (List.mem_of_mem_drop hp), by omega, by rw [d2]; omega, by rw [d2]; omega, ?_, ?_, ?_⟩
  · rw [e0, List.length_append, List.length_singleton]; omega
  · rw [d2, ← h.e1, hT, List.append_assoc]; rfl
  · rw [d2, ← h.e2, hT]
theorem StL.cut {s : SS} {n c : Int} {y : CR} {B : Chs} {l : Int} (h : StL s n c y B l) (hl : 0 < l) (hb : l < y.b y.lo) :
    StL s n c (cutR y l) (B ++ [(cutI (y.a y.lo + s.t), l)]) 0 := by
  have h1 := h.one hl
  obtain ⟨h2, h3⟩ := h.hd hl
  obtain ⟨d1, d2⟩ := cutR_L h.ok h1 l
  have hc := CR.L_cons h1
  have ht : totL y.L = y.b y.lo + totL (y.L.drop 1) := by rw [hc]; rfl
  have k1 := h.l1
  have k2 := h.tot
  have hT : takeL s.t l y.L = ([(cutI (y.a y.lo + s.t), l)], (y.a y.lo, y.b y.lo - l) :: y.L.drop 1) := by
    conv => lhs; rw [hc]
    simp only [takeL]
    rw [if_neg (by omega), if_pos hb]
  have hdr := drop_In h.inl 1
  have hr := h.inl.rise
  rw [hc] at hr
  have z := h.zl
  have e0 : (cutR y l).len = y.len := rfl
  have hq := (sumN_bd hdr.pos 0).2
  simp only [sumN] at hq
  have hT0 : takeL s.t 0 ((y.a y.lo, y.b y.lo - l) :: y.L.drop 1) = ([], (y.a y.lo, y.b y.lo - l) :: y.L.drop 1) := by
    simp only [takeL]; rfl
  have hIn : InL ((y.a y.lo, y.b y.lo - l) :: y.L.drop 1) := ⟨⟨hr.1, hr.2⟩, fun p hp => by
    rcases List.mem_cons.1 hp with rfl | hp
    · dsimp only; omega
    · exact hdr.pos p hp⟩
  have hIa : InA ((y.a y.lo, y.b y.lo - l) :: y.L.drop 1) := fun p hp => by
    rcases List.mem_cons.1 hp with rfl | hp
    · exact h2
    · exact h.ia p (List.mem_of_mem_drop hp)
  refine ⟨d1, by rw [d2]; exact hIn, by rw [d2]; exact hIa, Int.le_refl _, by rw [d2]; simp only [totL]; omega, by rw [d2]; simp only [totL]; omega, .inr ⟨rfl, ?_, ?_⟩, ?_, ?_⟩
  · rw [e0]; omega
  · rw [e0, List.length_append, List.length_singleton]; omega
  · rw [d2, hT0, ← h.e1, hT]
    simp
  · rw [d2, hT0, ← h.e2, hT]
structure CB where
  y : CR
  z : CR
  l : Int
structure ChB (s : SS) (n c : Int) (w : CB) : Prop where
  st : StL s n c w.y w.z.L w.l
  zo : w.z.Ok
  z0 : w.z.lo = 0
  zN : w.z.N = w.z.len
def app1 (z : CR) (a b : Int) (cap : Nat) : CR := ⟨0, z.len + 1, cap, z.len + 1, fun j => if j < z.len then z.a j else a, fun j => if j < z.len then z.b j else b⟩
theorem app1_L {z : CR} (h : z.lo = 0) (a b : Int) (cap : Nat) : (app1 z a b cap).L = z.L ++ [(a, b)] := by
  refine CR.L_eq (by rw [List.length_append, CR.L_len]; rfl) fun j hj => ?_
  have hj : j < z.len + 1 := hj
  simp only [app1, Nat.zero_add]
  by_cases c : j < z.len
  · rw [List.getElem?_append_left (by rw [CR.L_len]; exact c), CR.L_get, if_pos c, if_pos c, if_pos c, h, Nat.zero_add]
  · rw [List.getElem?_append_right (by rw [CR.L_len]; omega), CR.L_len, show j - z.len = 0 by omega, if_neg c, if_neg c]
    rfl
theorem take0 (t : Int) (l : Chs) : takeL t 0 l = ([], l) := by
  cases l with
  | nil => rfl
  | cons x l => obtain ⟨a, b⟩ := x; simp only [takeL]; rfl
def chgB (s : SS) (n c : Int) : Fam where
  α := CB
  I w := ChB s n c w
  st w := { sl := mkSl 96 [(0, p0 0), (1, .int .u64 n), (2, .int .u64 (cI s.q c)), (7, w.z.v 3), (8, .int .u64 w.l)], H := s.H2 w.y ++ [w.z.reg] }
  μ w := w.y.len + (if 0 < w.l then 1 else 0)
def lpA (s : SS) (n c : Int) : Fam where
  α := CR
  I y := y.Ok ∧ y.L = chargeL s.q s.t n c s.x.L
  st y := { sl := mkSl 96 [(0, p0 0), (2, .int .u64 (cI s.q c)), (82, .nils), (83, .int .i64 0), (84, .int .i64 0)], H := s.H2 y }
  μ _ := 0
structure CL where
  y : CR
  z : CR
  i : Nat
structure ChL (s : SS) (n c : Int) (w : CL) : Prop where
  ok : w.y.Ok
  ln : w.y.len ≤ 8
  inl : InL w.y.L
  tot : totL w.y.L + totL (w.z.L.drop w.i) ≤ 4398046511104
  zo : w.z.Ok
  z0 : w.z.lo = 0
  zN : w.z.N = w.z.len
  zl : w.z.len ≤ 9
  zp : posL w.z.L
  il : w.i ≤ w.z.len
  e : laysL (w.z.L.drop w.i) w.y.L = chargeL s.q s.t n c s.x.L
def lpB (s : SS) (n c : Int) : Fam where
  α := CL
  I w := ChL s n c w
  st w := { sl := mkSl 96 [(0, p0 0), (2, .int .u64 (cI s.q c)), (82, w.z.v 3), (83, .int .i64 w.z.len), (84, .int .i64 w.i)], H := s.H2 w.y ++ [w.z.reg] }
  μ w := w.z.len - w.i
def chgCut (s : SS) (n c : Int) : Fam where
  α := CR
  I y := y.Ok ∧ y.L = L1 s.t n s.x.L
  st y := { sl := mkSl 96 [(0, p0 0), (1, .int .u64 n), (2, .int .u64 c)], H := s.H2 y }
  μ _ := 0
def chgM : Nat → Nat
  | 10 => 1
  | _ => 0
def chgK : Nat → List Nat
  | 10 => [0, 2]
  | _ => []
def chgLoops (s : SS) (n c : Int) : Nat → Gam
  | 6 => .l [chgA s n c, chgB s n c]
  | 15 => .l [lpA s n c, lpB s n c]
  | _ => .l []
def tChg : Tab := [(22, cutP.sp), (41, dlP.sp), (42, wakeP.sp), (43, layP.sp)]
theorem tChg_ok : TabOk Try.prog tChg := (tab_cons cut_ok (tab_cons dl_ok (tab_cons wake_ok (tab_cons lay_ok tab_nil))))

theorem chg_vc : ∀ (s : SS) (n c : Int), ChOk s n c ∧ True → ∀ (v : Int), v = (0 : Int) → ((((True ∧ True) ∧ n = n ∧ True) ∧ ((4 : Nat) ≤ (4 : Nat) ∧ (s.q = s.q ∧ s.t = s.t ∧ s.b = s.b ∧ True) ∧ (True ∧ True ∧ s.x.lo = s.x.lo ∧ s.x.len =
  s.x.len ∧ s.x.cap = s.x.cap) ∧ True) ∧ ((0 : Nat) ≤ (s.x.lo + s.x.cap) * (2 : Nat) ∧ s.x.N = s.x.N ∧ ∀ (j : Nat), j < s.x.N → s.x.a j = s.x.a j ∧ s.x.b j = s.x.b j ∧ True) ∧ True) ∧ (s.x.Ok ∧ (1 : Nat) ≤ s.x.len ∧ ((0 :
  Int) ≤ s.x.a s.x.lo ∧ s.x.a s.x.lo ≤ (4611686018427387904 : Int)) ∧ (0 : Int) ≤ s.t ∧ s.t ≤ (1099511627776 : Int)) ∧ (decide (dueL s.t s.x.L ≤ n) = true → (((True ∧ True) ∧ n = n ∧ True) ∧ ((4 : Nat) ≤ (4 : Nat) ∧ (s.q =
  s.q ∧ s.t = s.t ∧ s.b = s.b ∧ True) ∧ (True ∧ True ∧ s.x.lo = s.x.lo ∧ s.x.len = s.x.len ∧ s.x.cap = s.x.cap) ∧ True) ∧ ((s.x.lo + s.x.cap) * (2 : Nat) ≤ (s.x.lo + s.x.cap) * (2 : Nat) ∧ s.x.N = s.x.N ∧ ∀ (j : Nat), j <
  s.x.N → s.x.a j = s.x.a j ∧ s.x.b j = s.x.b j ∧ True) ∧ True) ∧ s.x.Sm ∧ ∀ (x : CR), x.Ok ∧ x.L = wakeL n s.x.L → ∃ (y : CR), (y.Ok ∧ y.L = L1 s.t n s.x.L) ∧ (((True ∧ True) ∧ n = n ∧ c = c ∧ True) ∧ ((4 : Nat) ≤ (4 :
  Nat) ∧ (s.q = s.q ∧ s.t = s.t ∧ s.b = s.b ∧ True) ∧ (True ∧ True ∧ x.lo = y.lo ∧ x.len = y.len ∧ x.cap = y.cap) ∧ True) ∧ (0 : Nat) = (0 : Nat) ∧ ((y.lo + y.cap) * (2 : Nat) ≤ (x.lo + x.cap) * (2 : Nat) ∧ y.N = x.N ∧ ∀
  (j : Nat), j < x.N → x.a j = y.a j ∧ x.b j = y.b j ∧ True) ∧ True) ∧ True) ∧ (decide (dueL s.t s.x.L ≤ n) = false → ∃ (y : CR), (y.Ok ∧ y.L = L1 s.t n s.x.L) ∧ (((True ∧ True) ∧ n = n ∧ c = c ∧ True) ∧ ((4 : Nat) ≤ (4 :
  Nat) ∧ (s.q = s.q ∧ s.t = s.t ∧ s.b = s.b ∧ True) ∧ (True ∧ True ∧ s.x.lo = y.lo ∧ s.x.len = y.len ∧ s.x.cap = y.cap) ∧ True) ∧ (0 : Nat) = (0 : Nat) ∧ ((y.lo + y.cap) * (2 : Nat) ≤ (s.x.lo + s.x.cap) * (2 : Nat) ∧ y.N =
  s.x.N ∧ ∀ (j : Nat), j < s.x.N → s.x.a j = y.a j ∧ s.x.b j = y.b j ∧ True) ∧ True) ∧ True)) ∧ ∀ (y : CR), y.Ok ∧ y.L = L1 s.t n s.x.L → ∀ (v : Int), (v = if s.q < c then s.q else c) → ∀ (v_1 : Int), v_1 = v → ((∃ (y_1 :
  CR), (y_1.Ok ∧ y_1.L = L1 s.t n s.x.L) ∧ (((True ∧ True) ∧ n = n ∧ v = cI s.q c ∧ True ∧ v_1 = cI s.q c ∧ True) ∧ ((4 : Nat) ≤ (4 : Nat) ∧ (s.q = s.q ∧ s.t = s.t ∧ s.b = s.b ∧ True) ∧ (True ∧ True ∧ y.lo = y_1.lo ∧ y.len
  = y_1.len ∧ y.cap = y_1.cap) ∧ True) ∧ (0 : Nat) = (0 : Nat) ∧ ((y_1.lo + y_1.cap) * (2 : Nat) ≤ (y.lo + y.cap) * (2 : Nat) ∧ y_1.N = y.N ∧ ∀ (j : Nat), j < y.N → y.a j = y_1.a j ∧ y.b j = y_1.b j ∧ True) ∧ True) ∧ True)
  ∨ ∃ (y : CB), (chgB s n c).I y ∧ False ∧ True) ∧ (∀ (y : CR), y.Ok ∧ y.L = L1 s.t n s.x.L → (decide (cI s.q c > (0 : Int)) = true → ((0 : Int) ≤ (0 : Int) ∧ (0 : Int) < (↑y.len : Int)) ∧ y.lo + Int.toNat (0 : Int) < y.N
  ∧ ∀ (v : Int), (v = if y.b (y.lo + Int.toNat (0 : Int)) < cI s.q c then y.b (y.lo + Int.toNat (0 : Int)) else cI s.q c) → ∀ (v_2 : Int), v_2 = IntKind.u64.wrap (cI s.q c - v) → y.lo + Int.toNat (0 : Int) < y.N ∧
  ((IntKind.u64.wrap (y.a (y.lo + Int.toNat (0 : Int)) + s.t) = IntKind.u64.wrap (y.a (y.lo + Int.toNat (0 : Int)) + s.t) ∧ True) ∧ True) ∧ (1 : Nat) ≤ (1 : Nat) ∧ ((1 : Nat) = (0 : Nat) → y.lo + Int.toNat (0 : Int) < y.N
  ∧ y.lo + Int.toNat (0 : Int) < y.N ∧ y.lo + Int.toNat (0 : Int) < y.N ∧ (((bif (y.lo + Int.toNat (0 : Int)).beq (y.lo + Int.toNat (0 : Int)) then IntKind.u64.wrap (y.b (y.lo + Int.toNat (0 : Int)) - v) else y.b (y.lo +
  Int.toNat (0 : Int))) == (0 : Int)) = true → ((0 : Int) ≤ (1 : Int) ∧ (1 : Int) ≤ (↑y.len : Int)) ∧ ((∃ (y_1 : CR), (y_1.Ok ∧ y_1.L = L1 s.t n s.x.L) ∧ (((True ∧ True) ∧ n = n ∧ cI s.q c = cI s.q c ∧ True ∧ v_2 = cI s.q
  c ∧ True) ∧ ((4 : Nat) ≤ (4 : Nat) ∧ (s.q = s.q ∧ s.t = s.t ∧ s.b = s.b ∧ True) ∧ (True ∧ True ∧ (if y.cap = Int.toNat (1 : Int) then y.lo else y.lo + Int.toNat (1 : Int)) = y_1.lo ∧ y.len - Int.toNat (1 : Int) = y_1.len
  ∧ y.cap - Int.toNat (1 : Int) = y_1.cap) ∧ True) ∧ (0 : Nat) = (0 : Nat) ∧ ((y_1.lo + y_1.cap) * (2 : Nat) ≤ (y.lo + y.cap) * (2 : Nat) ∧ y_1.N = y.N ∧ ∀ (j : Nat), j < y.N → (bif j.beq (y.lo + Int.toNat (0 : Int)) then
  y.a (y.lo + Int.toNat (0 : Int)) else y.a j) = y_1.a j ∧ (bif j.beq (y.lo + Int.toNat (0 : Int)) then IntKind.u64.wrap (y.b (y.lo + Int.toNat (0 : Int)) - v) else y.b j) = y_1.b j ∧ True) ∧ True) ∧ (chgA s n c).μ y_1 <
  (chgA s n c).μ y) ∨ ∃ (y_1 : CB), (chgB s n c).I y_1 ∧ False ∧ (chgB s n c).μ y_1 < (chgA s n c).μ y)) ∧ (((bif (y.lo + Int.toNat (0 : Int)).beq (y.lo + Int.toNat (0 : Int)) then IntKind.u64.wrap (y.b (y.lo + Int.toNat
  (0 : Int)) - v) else y.b (y.lo + Int.toNat (0 : Int))) == (0 : Int)) = false → (∃ (y_1 : CR), (y_1.Ok ∧ y_1.L = L1 s.t n s.x.L) ∧ (((True ∧ True) ∧ n = n ∧ cI s.q c = cI s.q c ∧ True ∧ v_2 = cI s.q c ∧ True) ∧ ((4 : Nat)
  ≤ (4 : Nat) ∧ (s.q = s.q ∧ s.t = s.t ∧ s.b = s.b ∧ True) ∧ (True ∧ True ∧ y.lo = y_1.lo ∧ y.len = y_1.len ∧ y.cap = y_1.cap) ∧ True) ∧ (0 : Nat) = (0 : Nat) ∧ ((y_1.lo + y_1.cap) * (2 : Nat) ≤ (y.lo + y.cap) * (2 : Nat)
  ∧ y_1.N = y.N ∧ ∀ (j : Nat), j < y.N → (bif j.beq (y.lo + Int.toNat (0 : Int)) then y.a (y.lo + Int.toNat (0 : Int)) else y.a j) = y_1.a j ∧ (bif j.beq (y.lo + Int.toNat (0 : Int)) then IntKind.u64.wrap (y.b (y.lo +
  Int.toNat (0 : Int)) - v) else y.b j) = y_1.b j ∧ True) ∧ True) ∧ (chgA s n c).μ y_1 < (chgA s n c).μ y) ∨ ∃ (y_1 : CB), (chgB s n c).I y_1 ∧ False ∧ (chgB s n c).μ y_1 < (chgA s n c).μ y)) ∧ ((1 : Nat) ≠ (0 : Nat) → (16
  : Nat) ≤ (140737488355328 : Nat) ∧ (1 : Nat) ≤ (9223372036854775807 : Nat) ∧ ∀ (cap : Nat), (1 : Nat) ≤ cap → y.lo + Int.toNat (0 : Int) < y.N ∧ y.lo + Int.toNat (0 : Int) < y.N ∧ y.lo + Int.toNat (0 : Int) < y.N ∧
  (((bif (y.lo + Int.toNat (0 : Int)).beq (y.lo + Int.toNat (0 : Int)) then IntKind.u64.wrap (y.b (y.lo + Int.toNat (0 : Int)) - v) else y.b (y.lo + Int.toNat (0 : Int))) == (0 : Int)) = true → ((0 : Int) ≤ (1 : Int) ∧ (1
  : Int) ≤ (↑y.len : Int)) ∧ ((∃ (y_1 : CR), (y_1.Ok ∧ y_1.L = L1 s.t n s.x.L) ∧ (((True ∧ True) ∧ n = n ∧ cI s.q c = cI s.q c ∧ False ∧ v_2 = cI s.q c ∧ True) ∧ ((4 : Nat) ≤ (4 : Nat) ∧ (s.q = s.q ∧ s.t = s.t ∧ s.b = s.b
  ∧ True) ∧ (True ∧ True ∧ (if y.cap = Int.toNat (1 : Int) then y.lo else y.lo + Int.toNat (1 : Int)) = y_1.lo ∧ y.len - Int.toNat (1 : Int) = y_1.len ∧ y.cap - Int.toNat (1 : Int) = y_1.cap) ∧ True) ∧ (0 : Nat) = (0 :
  Nat) ∧ ((y_1.lo + y_1.cap) * (2 : Nat) ≤ (y.lo + y.cap) * (2 : Nat) ∧ y_1.N = y.N ∧ ∀ (j : Nat), j < y.N → (bif j.beq (y.lo + Int.toNat (0 : Int)) then y.a (y.lo + Int.toNat (0 : Int)) else y.a j) = y_1.a j ∧ (bif j.beq
  (y.lo + Int.toNat (0 : Int)) then IntKind.u64.wrap (y.b (y.lo + Int.toNat (0 : Int)) - v) else y.b j) = y_1.b j ∧ True) ∧ True) ∧ (chgA s n c).μ y_1 < (chgA s n c).μ y) ∨ ∃ (y_1 : CB), (chgB s n c).I y_1 ∧ (((True ∧
  True) ∧ n = n ∧ cI s.q c = cI s.q c ∧ (True ∧ True ∧ (0 : Nat) = y_1.z.lo ∧ (1 : Nat) = y_1.z.len ∧ cap = y_1.z.cap) ∧ v_2 = y_1.l ∧ True) ∧ ((4 : Nat) ≤ (4 : Nat) ∧ (s.q = s.q ∧ s.t = s.t ∧ s.b = s.b ∧ True) ∧ (True ∧
  True ∧ (if y.cap = Int.toNat (1 : Int) then y.lo else y.lo + Int.toNat (1 : Int)) = y_1.y.lo ∧ y.len - Int.toNat (1 : Int) = y_1.y.len ∧ y.cap - Int.toNat (1 : Int) = y_1.y.cap) ∧ True) ∧ (0 : Nat) = (0 : Nat) ∧
  ((y_1.y.lo + y_1.y.cap) * (2 : Nat) ≤ (y.lo + y.cap) * (2 : Nat) ∧ y_1.y.N = y.N ∧ ∀ (j : Nat), j < y.N → (bif j.beq (y.lo + Int.toNat (0 : Int)) then y.a (y.lo + Int.toNat (0 : Int)) else y.a j) = y_1.y.a j ∧ (bif j.beq
  (y.lo + Int.toNat (0 : Int)) then IntKind.u64.wrap (y.b (y.lo + Int.toNat (0 : Int)) - v) else y.b j) = y_1.y.b j ∧ True) ∧ ((y_1.z.lo + y_1.z.cap) * (2 : Nat) ≤ cap * (2 : Nat) ∧ y_1.z.N = (1 : Nat) ∧ ∀ (j : Nat), j <
  (1 : Nat) → cutI (IntKind.u64.wrap (y.a (y.lo + Int.toNat (0 : Int)) + s.t)) = y_1.z.a j ∧ v = y_1.z.b j ∧ True) ∧ True) ∧ (chgB s n c).μ y_1 < (chgA s n c).μ y)) ∧ (((bif (y.lo + Int.toNat (0 : Int)).beq (y.lo +
  Int.toNat (0 : Int)) then IntKind.u64.wrap (y.b (y.lo + Int.toNat (0 : Int)) - v) else y.b (y.lo + Int.toNat (0 : Int))) == (0 : Int)) = false → (∃ (y_1 : CR), (y_1.Ok ∧ y_1.L = L1 s.t n s.x.L) ∧ (((True ∧ True) ∧ n = n
  ∧ cI s.q c = cI s.q c ∧ False ∧ v_2 = cI s.q c ∧ True) ∧ ((4 : Nat) ≤ (4 : Nat) ∧ (s.q = s.q ∧ s.t = s.t ∧ s.b = s.b ∧ True) ∧ (True ∧ True ∧ y.lo = y_1.lo ∧ y.len = y_1.len ∧ y.cap = y_1.cap) ∧ True) ∧ (0 : Nat) = (0 :
  Nat) ∧ ((y_1.lo + y_1.cap) * (2 : Nat) ≤ (y.lo + y.cap) * (2 : Nat) ∧ y_1.N = y.N ∧ ∀ (j : Nat), j < y.N → (bif j.beq (y.lo + Int.toNat (0 : Int)) then y.a (y.lo + Int.toNat (0 : Int)) else y.a j) = y_1.a j ∧ (bif j.beq
  (y.lo + Int.toNat (0 : Int)) then IntKind.u64.wrap (y.b (y.lo + Int.toNat (0 : Int)) - v) else y.b j) = y_1.b j ∧ True) ∧ True) ∧ (chgA s n c).μ y_1 < (chgA s n c).μ y) ∨ ∃ (y_1 : CB), (chgB s n c).I y_1 ∧ (((True ∧
  True) ∧ n = n ∧ cI s.q c = cI s.q c ∧ (True ∧ True ∧ (0 : Nat) = y_1.z.lo ∧ (1 : Nat) = y_1.z.len ∧ cap = y_1.z.cap) ∧ v_2 = y_1.l ∧ True) ∧ ((4 : Nat) ≤ (4 : Nat) ∧ (s.q = s.q ∧ s.t = s.t ∧ s.b = s.b ∧ True) ∧ (True ∧
  True ∧ y.lo = y_1.y.lo ∧ y.len = y_1.y.len ∧ y.cap = y_1.y.cap) ∧ True) ∧ (0 : Nat) = (0 : Nat) ∧ ((y_1.y.lo + y_1.y.cap) * (2 : Nat) ≤ (y.lo + y.cap) * (2 : Nat) ∧ y_1.y.N = y.N ∧ ∀ (j : Nat), j < y.N → (bif j.beq (y.lo
  + Int.toNat (0 : Int)) then y.a (y.lo + Int.toNat (0 : Int)) else y.a j) = y_1.y.a j ∧ (bif j.beq (y.lo + Int.toNat (0 : Int)) then IntKind.u64.wrap (y.b (y.lo + Int.toNat (0 : Int)) - v) else y.b j) = y_1.y.b j ∧ True)
  ∧ ((y_1.z.lo + y_1.z.cap) * (2 : Nat) ≤ cap * (2 : Nat) ∧ y_1.z.N = (1 : Nat) ∧ ∀ (j : Nat), j < (1 : Nat) → cutI (IntKind.u64.wrap (y.a (y.lo + Int.toNat (0 : Int)) + s.t)) = y_1.z.a j ∧ v = y_1.z.b j ∧ True) ∧ True) ∧
  (chgB s n c).μ y_1 < (chgA s n c).μ y))) ∧ (decide (cI s.q c > (0 : Int)) = false → ((∃ (y_1 : CR), (y_1.Ok ∧ y_1.L = chargeL s.q s.t n c s.x.L) ∧ (((True ∧ True) ∧ cI s.q c = cI s.q c ∧ True ∧ (0 : Int) = (0 : Int) ∧ (0
  : Int) = (0 : Int) ∧ True) ∧ ((4 : Nat) ≤ (4 : Nat) ∧ (s.q = s.q ∧ s.t = s.t ∧ s.b = s.b ∧ True) ∧ (True ∧ True ∧ y.lo = y_1.lo ∧ y.len = y_1.len ∧ y.cap = y_1.cap) ∧ True) ∧ (0 : Nat) = (0 : Nat) ∧ ((y_1.lo + y_1.cap) *
  (2 : Nat) ≤ (y.lo + y.cap) * (2 : Nat) ∧ y_1.N = y.N ∧ ∀ (j : Nat), j < y.N → y.a j = y_1.a j ∧ y.b j = y_1.b j ∧ True) ∧ True) ∧ True) ∨ ∃ (y : CL), (lpB s n c).I y ∧ False ∧ True) ∧ (∀ (y : CR), y.Ok ∧ y.L = chargeL
  s.q s.t n c s.x.L → (decide ((0 : Int) < (0 : Int)) = true → False) ∧ (decide ((0 : Int) < (0 : Int)) = false → ∀ (v : Int), v = cI s.q c → ChOk s n c → ∃ (x : CR), (x.Ok ∧ x.L = chargeL s.q s.t n c s.x.L) ∧ v = cI s.q c
  ∧ True ∧ ((4 : Nat) ≤ (4 : Nat) ∧ (s.q = s.q ∧ s.t = s.t ∧ s.b = s.b ∧ True) ∧ (True ∧ True ∧ y.lo = x.lo ∧ y.len = x.len ∧ y.cap = x.cap) ∧ True) ∧ (0 : Nat) = (0 : Nat) ∧ ((x.lo + x.cap) * (2 : Nat) ≤ (y.lo + y.cap) *
  (2 : Nat) ∧ x.N = y.N ∧ ∀ (j : Nat), j < y.N → y.a j = x.a j ∧ y.b j = x.b j ∧ True) ∧ True)) ∧ ∀ (y : CL), (lpB s n c).I y → (decide ((↑y.i : Int) < (↑y.z.len : Int)) = true → ((0 : Int) ≤ (↑y.i : Int) ∧ (↑y.i : Int) <
  (↑y.z.len : Int)) ∧ y.z.lo + (↑y.i : Int).toNat < y.z.N ∧ (((True ∧ True) ∧ y.z.a (y.z.lo + (↑y.i : Int).toNat) = y.z.a (y.z.lo + (↑y.i : Int).toNat) ∧ y.z.b (y.z.lo + (↑y.i : Int).toNat) = y.z.b (y.z.lo + (↑y.i :
  Int).toNat) ∧ True) ∧ ((4 : Nat) ≤ (4 : Nat) ∧ (s.q = s.q ∧ s.t = s.t ∧ s.b = s.b ∧ True) ∧ (True ∧ True ∧ y.y.lo = y.y.lo ∧ y.y.len = y.y.len ∧ y.y.cap = y.y.cap) ∧ True) ∧ ((y.y.lo + y.y.cap) * (2 : Nat) ≤ (y.y.lo +
  y.y.cap) * (2 : Nat) ∧ y.y.N = y.y.N ∧ ∀ (j : Nat), j < y.y.N → y.y.a j = y.y.a j ∧ y.y.b j = y.y.b j ∧ True) ∧ True) ∧ (y.y.Sm ∧ (1 : Int) ≤ y.z.b (y.z.lo + (↑y.i : Int).toNat) ∧ y.z.b (y.z.lo + (↑y.i : Int).toNat) ≤
  (4398046511104 : Int)) ∧ ∀ (x : CR), x.Ok ∧ x.L = layL (y.z.a (y.z.lo + (↑y.i : Int).toNat)) (y.z.b (y.z.lo + (↑y.i : Int).toNat)) y.y.L → (∃ (y_1 : CR), (y_1.Ok ∧ y_1.L = chargeL s.q s.t n c s.x.L) ∧ (((True ∧ True) ∧
  cI s.q c = cI s.q c ∧ False ∧ (↑y.z.len : Int) = (0 : Int) ∧ IntKind.i64.wrap ((↑y.i : Int) + (1 : Int)) = (0 : Int) ∧ True) ∧ ((4 : Nat) ≤ (4 : Nat) ∧ (s.q = s.q ∧ s.t = s.t ∧ s.b = s.b ∧ True) ∧ (True ∧ True ∧ x.lo =
  y_1.lo ∧ x.len = y_1.len ∧ x.cap = y_1.cap) ∧ True) ∧ (0 : Nat) = (0 : Nat) ∧ ((y_1.lo + y_1.cap) * (2 : Nat) ≤ (x.lo + x.cap) * (2 : Nat) ∧ y_1.N = x.N ∧ ∀ (j : Nat), j < x.N → x.a j = y_1.a j ∧ x.b j = y_1.b j ∧ True)
  ∧ True) ∧ (lpA s n c).μ y_1 < (lpB s n c).μ y) ∨ ∃ (y_1 : CL), (lpB s n c).I y_1 ∧ (((True ∧ True) ∧ cI s.q c = cI s.q c ∧ (True ∧ True ∧ y.z.lo = y_1.z.lo ∧ y.z.len = y_1.z.len ∧ y.z.cap = y_1.z.cap) ∧ (↑y.z.len : Int)
  = (↑y_1.z.len : Int) ∧ IntKind.i64.wrap ((↑y.i : Int) + (1 : Int)) = (↑y_1.i : Int) ∧ True) ∧ ((4 : Nat) ≤ (4 : Nat) ∧ (s.q = s.q ∧ s.t = s.t ∧ s.b = s.b ∧ True) ∧ (True ∧ True ∧ x.lo = y_1.y.lo ∧ x.len = y_1.y.len ∧
  x.cap = y_1.y.cap) ∧ True) ∧ (0 : Nat) = (0 : Nat) ∧ ((y_1.y.lo + y_1.y.cap) * (2 : Nat) ≤ (x.lo + x.cap) * (2 : Nat) ∧ y_1.y.N = x.N ∧ ∀ (j : Nat), j < x.N → x.a j = y_1.y.a j ∧ x.b j = y_1.y.b j ∧ True) ∧ ((y_1.z.lo +
  y_1.z.cap) * (2 : Nat) ≤ (y.z.lo + y.z.cap) * (2 : Nat) ∧ y_1.z.N = y.z.N ∧ ∀ (j : Nat), j < y.z.N → y.z.a j = y_1.z.a j ∧ y.z.b j = y_1.z.b j ∧ True) ∧ True) ∧ (lpB s n c).μ y_1 < (lpB s n c).μ y) ∧ (decide ((↑y.i :
  Int) < (↑y.z.len : Int)) = false → ∀ (v : Int), v = cI s.q c → ChOk s n c → ∃ (x : CR), (x.Ok ∧ x.L = chargeL s.q s.t n c s.x.L) ∧ v = cI s.q c ∧ True ∧ ((4 : Nat) ≤ (4 : Nat) ∧ (s.q = s.q ∧ s.t = s.t ∧ s.b = s.b ∧ True)
  ∧ (True ∧ True ∧ y.y.lo = x.lo ∧ y.y.len = x.len ∧ y.y.cap = x.cap) ∧ True) ∧ (0 : Nat) = (0 : Nat) ∧ ((x.lo + x.cap) * (2 : Nat) ≤ (y.y.lo + y.y.cap) * (2 : Nat) ∧ x.N = y.y.N ∧ ∀ (j : Nat), j < y.y.N → y.y.a j = x.a j
  ∧ y.y.b j = x.b j ∧ True) ∧ True))) ∧ ∀ (y : CB), (chgB s n c).I y → (decide (y.l > (0 : Int)) = true → ((0 : Int) ≤ (0 : Int) ∧ (0 : Int) < (↑y.y.len : Int)) ∧ y.y.lo + Int.toNat (0 : Int) < y.y.N ∧ ∀ (v : Int), (v = if
  y.y.b (y.y.lo + Int.toNat (0 : Int)) < y.l then y.y.b (y.y.lo + Int.toNat (0 : Int)) else y.l) → ∀ (v_2 : Int), v_2 = IntKind.u64.wrap (y.l - v) → y.y.lo + Int.toNat (0 : Int) < y.y.N ∧ ((IntKind.u64.wrap (y.y.a (y.y.lo
  + Int.toNat (0 : Int)) + s.t) = IntKind.u64.wrap (y.y.a (y.y.lo + Int.toNat (0 : Int)) + s.t) ∧ True) ∧ True) ∧ (1 : Nat) ≤ (1 : Nat) ∧ (y.z.lo = (0 : Nat) ∧ y.z.len ≤ y.z.N ∧ y.z.len ≤ y.z.cap ∧ y.z.cap * (2 : Nat) ≤
  (y.z.lo + y.z.cap) * (2 : Nat) ∧ (y.z.len + (1 : Nat)) * (16 : Nat) ≤ (140737488355328 : Nat) ∧ y.z.len + (1 : Nat) ≤ (9223372036854775807 : Nat) ∧ (∀ (_ : Nat), (2 : Nat) = (2 : Nat)) ∧ ∀ (_ : Nat), (2 : Nat) = (2 :
  Nat)) ∧ ∀ (cap' : Nat), y.z.len + (1 : Nat) ≤ cap' → y.y.lo + Int.toNat (0 : Int) < y.y.N ∧ y.y.lo + Int.toNat (0 : Int) < y.y.N ∧ y.y.lo + Int.toNat (0 : Int) < y.y.N ∧ (((bif (y.y.lo + Int.toNat (0 : Int)).beq (y.y.lo
  + Int.toNat (0 : Int)) then IntKind.u64.wrap (y.y.b (y.y.lo + Int.toNat (0 : Int)) - v) else y.y.b (y.y.lo + Int.toNat (0 : Int))) == (0 : Int)) = true → ((0 : Int) ≤ (1 : Int) ∧ (1 : Int) ≤ (↑y.y.len : Int)) ∧ ((∃ (y_1
  : CR), (y_1.Ok ∧ y_1.L = L1 s.t n s.x.L) ∧ (((True ∧ True) ∧ n = n ∧ cI s.q c = cI s.q c ∧ False ∧ v_2 = cI s.q c ∧ True) ∧ ((4 : Nat) ≤ (4 : Nat) ∧ (s.q = s.q ∧ s.t = s.t ∧ s.b = s.b ∧ True) ∧ (True ∧ True ∧ (if y.y.cap
  = Int.toNat (1 : Int) then y.y.lo else y.y.lo + Int.toNat (1 : Int)) = y_1.lo ∧ y.y.len - Int.toNat (1 : Int) = y_1.len ∧ y.y.cap - Int.toNat (1 : Int) = y_1.cap) ∧ True) ∧ (0 : Nat) = (0 : Nat) ∧ ((y_1.lo + y_1.cap) *
  (2 : Nat) ≤ (y.y.lo + y.y.cap) * (2 : Nat) ∧ y_1.N = y.y.N ∧ ∀ (j : Nat), j < y.y.N → (bif j.beq (y.y.lo + Int.toNat (0 : Int)) then y.y.a (y.y.lo + Int.toNat (0 : Int)) else y.y.a j) = y_1.a j ∧ (bif j.beq (y.y.lo +
  Int.toNat (0 : Int)) then IntKind.u64.wrap (y.y.b (y.y.lo + Int.toNat (0 : Int)) - v) else y.y.b j) = y_1.b j ∧ True) ∧ True) ∧ (chgA s n c).μ y_1 < (chgB s n c).μ y) ∨ ∃ (y_1 : CB), (chgB s n c).I y_1 ∧ (((True ∧ True)
  ∧ n = n ∧ cI s.q c = cI s.q c ∧ (True ∧ True ∧ (0 : Nat) = y_1.z.lo ∧ y.z.len + (1 : Nat) = y_1.z.len ∧ cap' = y_1.z.cap) ∧ v_2 = y_1.l ∧ True) ∧ ((4 : Nat) ≤ (4 : Nat) ∧ (s.q = s.q ∧ s.t = s.t ∧ s.b = s.b ∧ True) ∧
  (True ∧ True ∧ (if y.y.cap = Int.toNat (1 : Int) then y.y.lo else y.y.lo + Int.toNat (1 : Int)) = y_1.y.lo ∧ y.y.len - Int.toNat (1 : Int) = y_1.y.len ∧ y.y.cap - Int.toNat (1 : Int) = y_1.y.cap) ∧ True) ∧ (0 : Nat) = (0
  : Nat) ∧ ((y_1.y.lo + y_1.y.cap) * (2 : Nat) ≤ (y.y.lo + y.y.cap) * (2 : Nat) ∧ y_1.y.N = y.y.N ∧ ∀ (j : Nat), j < y.y.N → (bif j.beq (y.y.lo + Int.toNat (0 : Int)) then y.y.a (y.y.lo + Int.toNat (0 : Int)) else y.y.a j)
  = y_1.y.a j ∧ (bif j.beq (y.y.lo + Int.toNat (0 : Int)) then IntKind.u64.wrap (y.y.b (y.y.lo + Int.toNat (0 : Int)) - v) else y.y.b j) = y_1.y.b j ∧ True) ∧ ((y_1.z.lo + y_1.z.cap) * (2 : Nat) ≤ cap' * (2 : Nat) ∧
  y_1.z.N = y.z.len + (1 : Nat) ∧ ∀ (j : Nat), j < y.z.len + (1 : Nat) → (j.blt y.z.len = true → y.z.a j = y_1.z.a j ∧ y.z.b j = y_1.z.b j ∧ True) ∧ (j.blt y.z.len = false → cutI (IntKind.u64.wrap (y.y.a (y.y.lo +
  Int.toNat (0 : Int)) + s.t)) = y_1.z.a j ∧ v = y_1.z.b j ∧ True)) ∧ True) ∧ (chgB s n c).μ y_1 < (chgB s n c).μ y)) ∧ (((bif (y.y.lo + Int.toNat (0 : Int)).beq (y.y.lo + Int.toNat (0 : Int)) then IntKind.u64.wrap (y.y.b
  (y.y.lo + Int.toNat (0 : Int)) - v) else y.y.b (y.y.lo + Int.toNat (0 : Int))) == (0 : Int)) = false → (∃ (y_1 : CR), (y_1.Ok ∧ y_1.L = L1 s.t n s.x.L) ∧ (((True ∧ True) ∧ n = n ∧ cI s.q c = cI s.q c ∧ False ∧ v_2 = cI
  s.q c ∧ True) ∧ ((4 : Nat) ≤ (4 : Nat) ∧ (s.q = s.q ∧ s.t = s.t ∧ s.b = s.b ∧ True) ∧ (True ∧ True ∧ y.y.lo = y_1.lo ∧ y.y.len = y_1.len ∧ y.y.cap = y_1.cap) ∧ True) ∧ (0 : Nat) = (0 : Nat) ∧ ((y_1.lo + y_1.cap) * (2 :
  Nat) ≤ (y.y.lo + y.y.cap) * (2 : Nat) ∧ y_1.N = y.y.N ∧ ∀ (j : Nat), j < y.y.N → (bif j.beq (y.y.lo + Int.toNat (0 : Int)) then y.y.a (y.y.lo + Int.toNat (0 : Int)) else y.y.a j) = y_1.a j ∧ (bif j.beq (y.y.lo +
  Int.toNat (0 : Int)) then IntKind.u64.wrap (y.y.b (y.y.lo + Int.toNat (0 : Int)) - v) else y.y.b j) = y_1.b j ∧ True) ∧ True) ∧ (chgA s n c).μ y_1 < (chgB s n c).μ y) ∨ ∃ (y_1 : CB), (chgB s n c).I y_1 ∧ (((True ∧ True)
  ∧ n = n ∧ cI s.q c = cI s.q c ∧ (True ∧ True ∧ (0 : Nat) = y_1.z.lo ∧ y.z.len + (1 : Nat) = y_1.z.len ∧ cap' = y_1.z.cap) ∧ v_2 = y_1.l ∧ True) ∧ ((4 : Nat) ≤ (4 : Nat) ∧ (s.q = s.q ∧ s.t = s.t ∧ s.b = s.b ∧ True) ∧
  (True ∧ True ∧ y.y.lo = y_1.y.lo ∧ y.y.len = y_1.y.len ∧ y.y.cap = y_1.y.cap) ∧ True) ∧ (0 : Nat) = (0 : Nat) ∧ ((y_1.y.lo + y_1.y.cap) * (2 : Nat) ≤ (y.y.lo + y.y.cap) * (2 : Nat) ∧ y_1.y.N = y.y.N ∧ ∀ (j : Nat), j <
  y.y.N → (bif j.beq (y.y.lo + Int.toNat (0 : Int)) then y.y.a (y.y.lo + Int.toNat (0 : Int)) else y.y.a j) = y_1.y.a j ∧ (bif j.beq (y.y.lo + Int.toNat (0 : Int)) then IntKind.u64.wrap (y.y.b (y.y.lo + Int.toNat (0 :
  Int)) - v) else y.y.b j) = y_1.y.b j ∧ True) ∧ ((y_1.z.lo + y_1.z.cap) * (2 : Nat) ≤ cap' * (2 : Nat) ∧ y_1.z.N = y.z.len + (1 : Nat) ∧ ∀ (j : Nat), j < y.z.len + (1 : Nat) → (j.blt y.z.len = true → y.z.a j = y_1.z.a j ∧
  y.z.b j = y_1.z.b j ∧ True) ∧ (j.blt y.z.len = false → cutI (IntKind.u64.wrap (y.y.a (y.y.lo + Int.toNat (0 : Int)) + s.t)) = y_1.z.a j ∧ v = y_1.z.b j ∧ True)) ∧ True) ∧ (chgB s n c).μ y_1 < (chgB s n c).μ y)) ∧ (decide
  (y.l > (0 : Int)) = false → ((∃ (y_1 : CR), (y_1.Ok ∧ y_1.L = chargeL s.q s.t n c s.x.L) ∧ (((True ∧ True) ∧ cI s.q c = cI s.q c ∧ False ∧ (↑y.z.len : Int) = (0 : Int) ∧ (0 : Int) = (0 : Int) ∧ True) ∧ ((4 : Nat) ≤ (4 :
  Nat) ∧ (s.q = s.q ∧ s.t = s.t ∧ s.b = s.b ∧ True) ∧ (True ∧ True ∧ y.y.lo = y_1.lo ∧ y.y.len = y_1.len ∧ y.y.cap = y_1.cap) ∧ True) ∧ (0 : Nat) = (0 : Nat) ∧ ((y_1.lo + y_1.cap) * (2 : Nat) ≤ (y.y.lo + y.y.cap) * (2 :
  Nat) ∧ y_1.N = y.y.N ∧ ∀ (j : Nat), j < y.y.N → y.y.a j = y_1.a j ∧ y.y.b j = y_1.b j ∧ True) ∧ True) ∧ True) ∨ ∃ (y_1 : CL), (lpB s n c).I y_1 ∧ (((True ∧ True) ∧ cI s.q c = cI s.q c ∧ (True ∧ True ∧ y.z.lo = y_1.z.lo ∧
  y.z.len = y_1.z.len ∧ y.z.cap = y_1.z.cap) ∧ (↑y.z.len : Int) = (↑y_1.z.len : Int) ∧ (0 : Int) = (↑y_1.i : Int) ∧ True) ∧ ((4 : Nat) ≤ (4 : Nat) ∧ (s.q = s.q ∧ s.t = s.t ∧ s.b = s.b ∧ True) ∧ (True ∧ True ∧ y.y.lo =
  y_1.y.lo ∧ y.y.len = y_1.y.len ∧ y.y.cap = y_1.y.cap) ∧ True) ∧ (0 : Nat) = (0 : Nat) ∧ ((y_1.y.lo + y_1.y.cap) * (2 : Nat) ≤ (y.y.lo + y.y.cap) * (2 : Nat) ∧ y_1.y.N = y.y.N ∧ ∀ (j : Nat), j < y.y.N → y.y.a j = y_1.y.a
  j ∧ y.y.b j = y_1.y.b j ∧ True) ∧ ((y_1.z.lo + y_1.z.cap) * (2 : Nat) ≤ (y.z.lo + y.z.cap) * (2 : Nat) ∧ y_1.z.N = y.z.N ∧ ∀ (j : Nat), j < y.z.N → y.z.a j = y_1.z.a j ∧ y.z.b j = y_1.z.b j ∧ True) ∧ True) ∧ True) ∧ (∀
  (y : CR), y.Ok ∧ y.L = chargeL s.q s.t n c s.x.L → (decide ((0 : Int) < (0 : Int)) = true → False) ∧ (decide ((0 : Int) < (0 : Int)) = false → ∀ (v : Int), v = cI s.q c → ChOk s n c → ∃ (x : CR), (x.Ok ∧ x.L = chargeL
  s.q s.t n c s.x.L) ∧ v = cI s.q c ∧ True ∧ ((4 : Nat) ≤ (4 : Nat) ∧ (s.q = s.q ∧ s.t = s.t ∧ s.b = s.b ∧ True) ∧ (True ∧ True ∧ y.lo = x.lo ∧ y.len = x.len ∧ y.cap = x.cap) ∧ True) ∧ (0 : Nat) = (0 : Nat) ∧ ((x.lo +
  x.cap) * (2 : Nat) ≤ (y.lo + y.cap) * (2 : Nat) ∧ x.N = y.N ∧ ∀ (j : Nat), j < y.N → y.a j = x.a j ∧ y.b j = x.b j ∧ True) ∧ True)) ∧ ∀ (y : CL), (lpB s n c).I y → (decide ((↑y.i : Int) < (↑y.z.len : Int)) = true → ((0 :
  Int) ≤ (↑y.i : Int) ∧ (↑y.i : Int) < (↑y.z.len : Int)) ∧ y.z.lo + (↑y.i : Int).toNat < y.z.N ∧ (((True ∧ True) ∧ y.z.a (y.z.lo + (↑y.i : Int).toNat) = y.z.a (y.z.lo + (↑y.i : Int).toNat) ∧ y.z.b (y.z.lo + (↑y.i :
  Int).toNat) = y.z.b (y.z.lo + (↑y.i : Int).toNat) ∧ True) ∧ ((4 : Nat) ≤ (4 : Nat) ∧ (s.q = s.q ∧ s.t = s.t ∧ s.b = s.b ∧ True) ∧ (True ∧ True ∧ y.y.lo = y.y.lo ∧ y.y.len = y.y.len ∧ y.y.cap = y.y.cap) ∧ True) ∧ ((y.y.lo
  + y.y.cap) * (2 : Nat) ≤ (y.y.lo + y.y.cap) * (2 : Nat) ∧ y.y.N = y.y.N ∧ ∀ (j : Nat), j < y.y.N → y.y.a j = y.y.a j ∧ y.y.b j = y.y.b j ∧ True) ∧ True) ∧ (y.y.Sm ∧ (1 : Int) ≤ y.z.b (y.z.lo + (↑y.i : Int).toNat) ∧ y.z.b
  (y.z.lo + (↑y.i : Int).toNat) ≤ (4398046511104 : Int)) ∧ ∀ (x : CR), x.Ok ∧ x.L = layL (y.z.a (y.z.lo + (↑y.i : Int).toNat)) (y.z.b (y.z.lo + (↑y.i : Int).toNat)) y.y.L → (∃ (y_1 : CR), (y_1.Ok ∧ y_1.L = chargeL s.q s.t
  n c s.x.L) ∧ (((True ∧ True) ∧ cI s.q c = cI s.q c ∧ False ∧ (↑y.z.len : Int) = (0 : Int) ∧ IntKind.i64.wrap ((↑y.i : Int) + (1 : Int)) = (0 : Int) ∧ True) ∧ ((4 : Nat) ≤ (4 : Nat) ∧ (s.q = s.q ∧ s.t = s.t ∧ s.b = s.b ∧
  True) ∧ (True ∧ True ∧ x.lo = y_1.lo ∧ x.len = y_1.len ∧ x.cap = y_1.cap) ∧ True) ∧ (0 : Nat) = (0 : Nat) ∧ ((y_1.lo + y_1.cap) * (2 : Nat) ≤ (x.lo + x.cap) * (2 : Nat) ∧ y_1.N = x.N ∧ ∀ (j : Nat), j < x.N → x.a j =
  y_1.a j ∧ x.b j = y_1.b j ∧ True) ∧ True) ∧ (lpA s n c).μ y_1 < (lpB s n c).μ y) ∨ ∃ (y_1 : CL), (lpB s n c).I y_1 ∧ (((True ∧ True) ∧ cI s.q c = cI s.q c ∧ (True ∧ True ∧ y.z.lo = y_1.z.lo ∧ y.z.len = y_1.z.len ∧
  y.z.cap = y_1.z.cap) ∧ (↑y.z.len : Int) = (↑y_1.z.len : Int) ∧ IntKind.i64.wrap ((↑y.i : Int) + (1 : Int)) = (↑y_1.i : Int) ∧ True) ∧ ((4 : Nat) ≤ (4 : Nat) ∧ (s.q = s.q ∧ s.t = s.t ∧ s.b = s.b ∧ True) ∧ (True ∧ True ∧
  x.lo = y_1.y.lo ∧ x.len = y_1.y.len ∧ x.cap = y_1.y.cap) ∧ True) ∧ (0 : Nat) = (0 : Nat) ∧ ((y_1.y.lo + y_1.y.cap) * (2 : Nat) ≤ (x.lo + x.cap) * (2 : Nat) ∧ y_1.y.N = x.N ∧ ∀ (j : Nat), j < x.N → x.a j = y_1.y.a j ∧ x.b
  j = y_1.y.b j ∧ True) ∧ ((y_1.z.lo + y_1.z.cap) * (2 : Nat) ≤ (y.z.lo + y.z.cap) * (2 : Nat) ∧ y_1.z.N = y.z.N ∧ ∀ (j : Nat), j < y.z.N → y.z.a j = y_1.z.a j ∧ y.z.b j = y_1.z.b j ∧ True) ∧ True) ∧ (lpB s n c).μ y_1 <
  (lpB s n c).μ y) ∧ (decide ((↑y.i : Int) < (↑y.z.len : Int)) = false → ∀ (v : Int), v = cI s.q c → ChOk s n c → ∃ (x : CR), (x.Ok ∧ x.L = chargeL s.q s.t n c s.x.L) ∧ v = cI s.q c ∧ True ∧ ((4 : Nat) ≤ (4 : Nat) ∧ (s.q =
  s.q ∧ s.t = s.t ∧ s.b = s.b ∧ True) ∧ (True ∧ True ∧ y.y.lo = x.lo ∧ y.y.len = x.len ∧ y.y.cap = x.cap) ∧ True) ∧ (0 : Nat) = (0 : Nat) ∧ ((x.lo + x.cap) * (2 : Nat) ≤ (y.y.lo + y.y.cap) * (2 : Nat) ∧ x.N = y.y.N ∧ ∀ (j
  : Nat), j < y.y.N → y.y.a j = x.a j ∧ y.y.b j = x.b j ∧ True) ∧ True)) := by
  simp only [true_and, and_true, eq_self, Nat.le_refl, decide_eq_true_eq, decide_eq_false_iff_not, beq_iff_eq, beq_eq_false_iff_ne, implies_true, and_self, Int.not_lt, Int.not_le, gt_iff_lt, ne_eq, Int.toNat_natCast, cond_nbeq, nblt_true, nblt_false, IntKind.wrap_u64, IntKind.wrap_i64, if_true]
  rintro s n c hok _ rfl
  have h0 := hok
  obtain ⟨sm, one, t0, t1, n0, n1, c0, q0, q1, ia⟩ := h0
  have sm0 := sm
  obtain ⟨sm1, sm2, sm3, sm4⟩ := sm0
  have hcI : 0 ≤ cI s.q c ∧ cI s.q c ≤ s.q := by unfold cI; split <;> omega
  have ha0 : 0 ≤ s.x.a s.x.lo ∧ s.x.a s.x.lo ≤ 4611686018427387904 := ia (s.x.a s.x.lo, s.x.b s.x.lo) (by rw [CR.L_cons one]; exact List.mem_cons_self)
  obtain ⟨f1, f2, f3, f4⟩ := L1_facts hok
  have stA : ∀ y : CR, y.Ok → y.L = L1 s.t n s.x.L → StL s n c y [] (cI s.q c) := fun y hy hyL => by
    have hyl : y.len ≤ 8 := by rw [← CR.L_len, hyL]; exact f3
    exact ⟨hy, by rw [hyL]; exact f1, by rw [hyL]; exact f4, hcI.1, by rw [hyL, f2]; omega, by rw [hyL, f2]; exact sm4, .inl (by simpa using hyl), by rw [hyL]; rfl, by rw [hyL]⟩
  have muA : ∀ y : CR, (chgA s n c).μ y = y.len + (if 0 < cI s.q c then 1 else 0) := fun _ => rfl
  have muB : ∀ w : CB, (chgB s n c).μ w = w.y.len + (if 0 < w.l then 1 else 0) := fun _ => rfl
  have muL : ∀ w : CL, (lpB s n c).μ w = w.z.len - w.i := fun _ => rfl
  have iB : ∀ w : CB, (chgB s n c).I w = ChB s n c w := fun _ => rfl
  have iL : ∀ w : CL, (lpB s n c).I w = ChL s n c w := fun _ => rfl
  have z0 : Int.toNat (0 : Int) = 0 := rfl
  have z1 : Int.toNat (1 : Int) = 1 := rfl
  simp only [muA, muB, muL, iB, iL, z0, z1, Nat.add_zero]
  -- the second loop
  have loop : ∀ y : CL, ChL s n c y → (y.i < y.z.len → y.y.Sm ∧ 1 ≤ y.z.b (y.z.lo + y.i) ∧ y.z.b (y.z.lo + y.i) ≤ 4398046511104 ∧ ∀ x : CR, x.Ok ∧ x.L = layL (y.z.a (y.z.lo + y.i)) (y.z.b (y.z.lo + y.i)) y.y.L → ChL s n c ⟨x, y.z, y.i + 1⟩) ∧ (y.z.len ≤ y.i → y.y.L = chargeL s.q s.t n c s.x.L) := fun y hy => by
    obtain ⟨g1, g2, g3, g4, g5, g6, g7, g8, g9, g10, g11⟩ := hy
    refine ⟨fun hlt => ?_, fun hge => ?_⟩
    · have hd : y.z.L.drop y.i = (y.z.a (y.z.lo + y.i), y.z.b (y.z.lo + y.i)) :: y.z.L.drop (y.i + 1) := by
        have hl : y.i < y.z.L.length := by rw [CR.L_len]; exact hlt
        rw [List.drop_eq_getElem_cons hl]
        congr 1
        have := y.z.L_get y.i
        rw [if_pos hlt, List.getElem?_eq_getElem hl] at this
        simpa using this
      rw [hd] at g4 g11
      simp only [totL] at g4
      have hb := g9 (y.z.a (y.z.lo + y.i), y.z.b (y.z.lo + y.i)) (List.mem_of_mem_drop (by rw [hd]; exact List.mem_cons_self))
      dsimp only at hb
      have p1 := (sumN_bd g3.pos 0).2
      have p2 := (sumN_bd (l := y.z.L.drop (y.i + 1)) (fun p hp => g9 p (List.mem_of_mem_drop hp)) 0).2
      simp only [sumN] at p1 p2
      refine ⟨⟨g1, g2, g3, by omega⟩, hb, by omega, fun x hx => ?_⟩
      obtain ⟨r1, r2, r3, r4⟩ := lay_In (t := y.z.a (y.z.lo + y.i)) (m := y.z.b (y.z.lo + y.i)) g3 hb
      rw [CR.L_len] at r3
      rw [← hx.2] at r1 r2 r3
      rw [CR.L_len] at r3
      exact ⟨hx.1, r3 g2, r1, by dsimp only; omega, g5, g6, g7, g8, g9, by dsimp only; omega, by rw [← g11]; simp only [laysL]; rw [hx.2]⟩
    · have hd : y.z.L.drop y.i = [] := List.drop_eq_nil_of_le (by rw [CR.L_len]; exact hge)
      rw [hd] at g11
      exact g11
  have rest : (∀ y : CR, y.Ok ∧ y.L = chargeL s.q s.t n c s.x.L → ((0 : Int) < 0 → False)) := fun y _ h => absurd h (Int.lt_irrefl 0)
  refine ⟨⟨by omega, ⟨sm1, one, ha0, t0, t1⟩, fun hd => ⟨sm, fun x hx => ⟨x, ⟨hx.1, ?_⟩, ⟨rfl, rfl, rfl⟩, Nat.le_refl _, rfl, fun j _ => ⟨rfl, rfl⟩⟩⟩, fun hd => ⟨s.x, ⟨sm1, ?_⟩, ⟨rfl, rfl, rfl⟩, Nat.le_refl _, rfl, fun j _ => ⟨rfl, rfl⟩⟩⟩, fun y hy v hv v1 hv1 => ⟨.inl ⟨y, hy, ⟨hv, hv1.trans hv⟩, ⟨rfl, rfl, rfl⟩, Nat.le_refl _, rfl, fun j _ => ⟨rfl, rfl⟩⟩, ?_, ?_⟩⟩
  · rw [hx.2]; unfold L1; rw [if_pos hd]
  · unfold L1; rw [if_neg (by omega)]
  · intro y hy
    have st := stA y hy.1 hy.2
    refine ⟨fun hl => ?_, fun hl => ⟨?_, ?_, ?_⟩⟩
    · obtain ⟨⟨d1, d2⟩, d3, d4⟩ := st.hd hl
      have d5 := st.one hl
      have d6 := st.ok.1
      have d7 := st.ok.2
      have e0 : (y.a y.lo + s.t) % 18446744073709551616 = y.a y.lo + s.t := by omega
      simp only [e0]
      refine ⟨by omega, by omega, fun v hv v2 hv2 => ⟨by omega, fun h => absurd h (by decide), fun _ => ⟨by decide, by decide, fun cap hcap => ⟨by omega, by omega, by omega, fun he => ?_, fun hne => ?_⟩⟩⟩⟩
      · have hb : y.b y.lo ≤ cI s.q c := by split at hv <;> omega
        have hvb : v = y.b y.lo := by split at hv <;> omega
        subst hvb
        refine ⟨by omega, .inr ⟨⟨dropR y (y.b y.lo), ⟨0, 1, cap, 1, fun _ => cutI (y.a y.lo + s.t), fun _ => y.b y.lo⟩, cI s.q c - y.b y.lo⟩, ⟨st.drop hl hb, ⟨by dsimp only; omega, hcap⟩, rfl, rfl⟩, ⟨⟨⟨rfl, rfl, rfl⟩, by dsimp only; omega⟩, ⟨rfl, rfl, rfl⟩, ⟨?_, rfl, fun j hj => ⟨rfl, ?_⟩⟩, by dsimp only; omega, rfl, fun j hj => ⟨rfl, rfl⟩⟩, ?_⟩⟩
        · simp only [dropR]; split <;> omega
        · simp only [dropR]; split <;> omega
        · simp only [dropR]
          rw [if_pos hl]
          split <;> omega
      · have hb : cI s.q c < y.b y.lo := by split at hv <;> omega
        have hvb : v = cI s.q c := by split at hv <;> omega
        subst hvb
        refine .inr ⟨⟨cutR y (cI s.q c), ⟨0, 1, cap, 1, fun _ => cutI (y.a y.lo + s.t), fun _ => cI s.q c⟩, 0⟩, ⟨st.cut hl hb, ⟨by dsimp only; omega, hcap⟩, rfl, rfl⟩, ⟨⟨⟨rfl, rfl, rfl⟩, by dsimp only; omega⟩, ⟨rfl, rfl, rfl⟩, ⟨Nat.le_refl _, rfl, fun j hj => ⟨rfl, ?_⟩⟩, by dsimp only; omega, rfl, fun j hj => ⟨rfl, rfl⟩⟩, ?_⟩
        · simp only [cutR]; split <;> omega
        · simp only [cutR]
          rw [if_pos hl, if_neg (by decide)]
          omega
    · have e : cI s.q c = 0 := by omega
      refine .inl ⟨y, ⟨hy.1, ?_⟩, ⟨rfl, rfl, rfl⟩, Nat.le_refl _, rfl, fun j _ => ⟨rfl, rfl⟩⟩
      rw [charge_def, e, take0, hy.2]
      rfl
    · intro y hy
      exact ⟨fun h => absurd h (by decide), fun _ v hv _ => ⟨y, hy, hv, ⟨rfl, rfl, rfl⟩, Nat.le_refl _, rfl, fun j _ => ⟨rfl, rfl⟩⟩⟩
    · intro y hy
      obtain ⟨k1, k2⟩ := loop y hy
      have q1 := hy.z0
      have q2 := hy.zN
      have q3 := hy.zl
      have q4 := hy.il
      refine ⟨fun hlt => ?_, fun hge v hv _ => ⟨y.y, ⟨hy.ok, k2 (by omega)⟩, hv, ⟨rfl, rfl, rfl⟩, Nat.le_refl _, rfl, fun j _ => ⟨rfl, rfl⟩⟩⟩
      obtain ⟨m1, m2, m3, m4⟩ := k1 (by omega)
      exact ⟨by omega, by omega, ⟨m1, m2, m3⟩, fun x hx => .inr ⟨⟨x, y.z, y.i + 1⟩, m4 x hx, ⟨⟨⟨rfl, rfl, rfl⟩, rfl, by dsimp only; omega⟩, ⟨rfl, rfl, rfl⟩, ⟨Nat.le_refl _, rfl, fun j _ => ⟨rfl, rfl⟩⟩, Nat.le_refl _, rfl, fun j _ => ⟨rfl, rfl⟩⟩, by dsimp only; omega⟩⟩
  · intro y hy
    obtain ⟨st, zo, zz0, zN⟩ := hy
    have zo2 := zo.2
    have hlen := st.zl
    rw [CR.L_len] at hlen
    refine ⟨fun hl => ?_, fun hl => ⟨?_, ?_, ?_⟩⟩
    · obtain ⟨⟨d1, d2⟩, d3, d4⟩ := st.hd hl
      have d5 := st.one hl
      have d6 := st.ok.1
      have d7 := st.ok.2
      have d8 := st.l1
      have d9 := st.tot
      have e0 : (y.y.a y.y.lo + s.t) % 18446744073709551616 = y.y.a y.y.lo + s.t := by omega
      simp only [e0]
      refine ⟨by omega, by omega, fun v hv v2 hv2 => ⟨by omega, ⟨zz0, by omega, zo2, by omega, by omega, by omega⟩, fun cap hcap => ⟨by omega, by omega, by omega, fun he => ?_, fun hne => ?_⟩⟩⟩
      · have hb : y.y.b y.y.lo ≤ y.l := by split at hv <;> omega
        have hvb : v = y.y.b y.y.lo := by split at hv <;> omega
        subst hvb
        refine ⟨by omega, .inr ⟨⟨dropR y.y (y.y.b y.y.lo), app1 y.z (cutI (y.y.a y.y.lo + s.t)) (y.y.b y.y.lo) cap, y.l - y.y.b y.y.lo⟩, ⟨by dsimp only; rw [app1_L zz0]; exact st.drop hl hb, ⟨by simp only [app1]; omega, hcap⟩, rfl, rfl⟩, ⟨⟨⟨rfl, rfl, rfl⟩, by dsimp only; omega⟩, ⟨rfl, rfl, rfl⟩, ⟨?_, rfl, fun j hj => ⟨rfl, ?_⟩⟩, by simp only [app1]; omega, rfl, fun j hj => ⟨fun h => ?_, fun h => ?_⟩⟩, ?_⟩⟩
        · simp only [dropR]; split <;> omega
        · simp only [dropR]; split <;> omega
        · simp only [app1]; rw [if_pos h, if_pos h]; exact ⟨rfl, rfl⟩
        · simp only [app1]; rw [if_neg (by omega), if_neg (by omega)]; exact ⟨rfl, rfl⟩
        · simp only [dropR]
          rw [if_pos hl]
          split <;> omega
      · have hb : y.l < y.y.b y.y.lo := by split at hv <;> omega
        have hvb : v = y.l := by split at hv <;> omega
        subst hvb
        refine .inr ⟨⟨cutR y.y y.l, app1 y.z (cutI (y.y.a y.y.lo + s.t)) y.l cap, 0⟩, ⟨by dsimp only; rw [app1_L zz0]; exact st.cut hl hb, ⟨by simp only [app1]; omega, hcap⟩, rfl, rfl⟩, ⟨⟨⟨rfl, rfl, rfl⟩, by dsimp only; omega⟩, ⟨rfl, rfl, rfl⟩, ⟨Nat.le_refl _, rfl, fun j hj => ⟨rfl, ?_⟩⟩, by simp only [app1]; omega, rfl, fun j hj => ⟨fun h => ?_, fun h => ?_⟩⟩, ?_⟩
        · simp only [cutR]; split <;> omega
        · simp only [app1]; rw [if_pos h, if_pos h]; exact ⟨rfl, rfl⟩
        · simp only [app1]; rw [if_neg (by omega), if_neg (by omega)]; exact ⟨rfl, rfl⟩
        · simp only [cutR]
          rw [if_pos hl, if_neg (by decide)]
          omega
    · have e : y.l = 0 := by have := st.l0; omega
      have e1 := st.e1
      have e2 := st.e2
      rw [e, take0] at e1 e2
      dsimp only at e1 e2
      rw [List.append_nil] at e1
      have hB := take_In (t := s.t) (l := L1 s.t n s.x.L) (left := cI s.q c) f1 hcI.1 (by rw [f2]; omega)
      rw [← e1, ← e2] at hB
      obtain ⟨b1, b2, b3, b4, b5, b6⟩ := hB
      have hyl : y.y.len ≤ 8 := by rw [← CR.L_len]; omega
      refine .inr ⟨⟨y.y, y.z, 0⟩, ⟨st.ok, hyl, st.inl, ?_, zo, zz0, zN, by dsimp only; omega, b1, Nat.zero_le _, ?_⟩, ⟨⟨rfl, rfl, rfl⟩, rfl, rfl⟩, ⟨rfl, rfl, rfl⟩, ⟨Nat.le_refl _, rfl, fun j _ => ⟨rfl, rfl⟩⟩, Nat.le_refl _, rfl, fun j _ => ⟨rfl, rfl⟩⟩
      · dsimp only
        rw [List.drop_zero, b2, b4, f2]
        omega
      · dsimp only
        rw [List.drop_zero, charge_def, ← e1, ← e2]
    · intro y hy
      exact ⟨fun h => absurd h (by decide), fun _ v hv _ => ⟨y, hy, hv, ⟨rfl, rfl, rfl⟩, Nat.le_refl _, rfl, fun j _ => ⟨rfl, rfl⟩⟩⟩
    · intro y hy
      obtain ⟨k1, k2⟩ := loop y hy
      have q1 := hy.z0
      have q2 := hy.zN
      have q3 := hy.zl
      have q4 := hy.il
      refine ⟨fun hlt => ?_, fun hge v hv _ => ⟨y.y, ⟨hy.ok, k2 (by omega)⟩, hv, ⟨rfl, rfl, rfl⟩, Nat.le_refl _, rfl, fun j _ => ⟨rfl, rfl⟩⟩⟩
      obtain ⟨m1, m2, m3, m4⟩ := k1 (by omega)
      exact ⟨by omega, by omega, ⟨m1, m2, m3⟩, fun x hx => .inr ⟨⟨x, y.z, y.i + 1⟩, m4 x hx, ⟨⟨⟨rfl, rfl, rfl⟩, rfl, by dsimp only; omega⟩, ⟨rfl, rfl, rfl⟩, ⟨Nat.le_refl _, rfl, fun j _ => ⟨rfl, rfl⟩⟩, Nat.le_refl _, rfl, fun j _ => ⟨rfl, rfl⟩⟩, by dsimp only; omega⟩⟩

def chg_C (x : (SS × Int × Int)) : Cfg := { Γ := Go.Sx.look tChg, names := true, loops := chgLoops (x.1) (x.2.1) (x.2.2), cuts := onlyAt 3 [chgCut (x.1) (x.2.1) (x.2.2)], mode := chgM, locks := chgK }
theorem chg_al (x : (SS × Int × Int)) : Shown (chgP.vc Try.prog (chg_C x) Try.f39 x) := ⟨@Eq.mp _ _ (by kernel_rfl) (chg_vc (x.1) (x.2.1) (x.2.2))⟩
theorem chg_ok : SpOk Try.prog 39 chgP.sp := @Pat.okS _ chgP Try.prog chg_C 39 Try.f39 (fun x => cfg_tab rfl tChg_ok) (by kernel_rfl) Try.func39 (fun _ => rfl) chg_al
end Go.Proofs.Ytokiakcmdbihhaa
