import Derived.Test.YtglbonfohmdcnaaSxSpec
import Derived.Test.YtglbonfohmdcnaaMNum
import Derived.Test.YtglbonfohmdcnaaWide2
open Go Go.Sx Go.Proofs
set_option maxRecDepth 100000
namespace Go.Proofs.Ytglbonfohmdcnaa

/-- A meter. -/
structure MS where
  clk : Nat → Int
  by_ : Nat → Nat → Int
  n : Nat
  st : Bool
def upI (f : Nat → Int) (c : Nat) (v : Int) : Nat → Int := fun j => if j = c then v else f j
def MS.on (s : MS) (c k : Nat) (cyc : Int) : MS :=
  let x := min cyc (4611686018427387904 - s.clk c)
  { s with clk := upI s.clk c (s.clk c + x), by_ := fun j k' => if j = c ∧ k' = k then s.by_ c k + x else s.by_ j k', st := decide (cyc ≥ 4611686018427387904 - s.clk c) }
def psum (f : Nat → Int) : Nat → Int
  | 0 => 0
  | n + 1 => psum f n + f n
def MS.Ok (s : MS) : Prop := ∀ j, j < s.n → (0 ≤ s.clk j ∧ s.clk j ≤ 4611686018427387904) ∧ (∀ k, k < 9 → 0 ≤ s.by_ j k) ∧ psum (s.by_ j) 9 = s.clk j
theorem psum_le {f : Nat → Int} {n : Nat} (h : ∀ k, k < n → 0 ≤ f k) : ∀ m, m ≤ n → 0 ≤ psum f m ∧ psum f m ≤ psum f n := by
  induction n with
  | zero => intro m hm; have : m = 0 := by omega
            subst this; exact ⟨Int.le_refl _, Int.le_refl _⟩
  | succ n ih =>
    intro m hm
    have ih := ih (fun k hk => h k (by omega))
    have h0 := h n (by omega)
    have h1 := (ih n (by omega)).1
    have e : psum f (n + 1) = psum f n + f n := rfl
    rcases Nat.lt_or_ge n m with h2 | h2
    · have : m = n + 1 := by omega
      subst this
      omega
    · have := ih m h2
      omega
theorem psum_one {f : Nat → Int} {n : Nat} (h : ∀ k, k < n → 0 ≤ f k) {k : Nat} (hk : k < n) : f k ≤ psum f n := by
  have h1 := psum_le h (k + 1) (by omega)
  have h2 := (psum_le h k (by omega)).1
  have e : psum f (k + 1) = psum f k + f k := rfl
  omega
theorem psum_upd {f g : Nat → Int} {c : Nat} {x : Int} (h : ∀ k, g k = if k = c then f c + x else f k) : ∀ n, psum g n = psum f n + if c < n then x else 0
  | 0 => rfl
  | n + 1 => by
    have e1 : psum f (n + 1) = psum f n + f n := rfl
    have e2 : psum g (n + 1) = psum g n + g n := rfl
    have ih := psum_upd h n
    have hn := h n
    rw [e1, e2, ih, hn]
    by_cases hc : n = c
    · subst hc; simp; omega
    · rw [if_neg hc]; split <;> split <;> omega
theorem psum_congr {f g : Nat → Int} (h : ∀ k, g k = f k) : ∀ n, psum g n = psum f n
  | 0 => rfl
  | n + 1 => by
    show psum g n + g n = psum f n + f n
    rw [psum_congr h n, h]
theorem MS.Ok.on {s : MS} (h : s.Ok) {c k : Nat} {y : Int} (hc : c < s.n) (hk : k < 9) (hy : 0 ≤ y) : (s.on c k y).Ok := by
  intro j hj
  have hj : j < s.n := hj
  obtain ⟨⟨h1, h2⟩, h3, h4⟩ := h j hj
  obtain ⟨⟨g1, g2⟩, g3, g4⟩ := h c hc
  simp only [MS.on, upI]
  refine ⟨by split <;> omega, fun k' hk' => ?_, ?_⟩
  · have := h3 k' hk'
    have := g3 k hk
    split <;> omega
  · by_cases e : j = c
    · subst e
      rw [psum_upd (f := s.by_ j) (c := k) (x := min y (4611686018427387904 - s.clk j)) (fun k' => by simp), if_pos rfl, if_pos hk, h4]
    · rw [if_neg e, psum_congr (f := s.by_ j) (fun k' => by simp [e]), h4]
theorem MS.Ok.le {s : MS} (h : s.Ok) {c k : Nat} (hc : c < s.n) (hk : k < 9) : 0 ≤ s.by_ c k ∧ s.by_ c k ≤ s.clk c := by
  obtain ⟨_, h3, h4⟩ := h c hc
  exact ⟨h3 k hk, by rw [← h4]; exact psum_one h3 hk⟩
def costF : Nat → Int
  | 1 => 1 | 2 => 2 | 3 => 3 | 4 => 20 | 5 => 50 | 6 => 30 | 7 => 40 | 8 => 64 | _ => 0
def cost (k : Int) : Int := if 1 ≤ k ∧ k ≤ 8 then costF k.toNat else 0
theorem cost_bd (k : Int) : 0 ≤ cost k ∧ cost k ≤ 64 ∧ (¬ cost k = 0 → 1 ≤ k ∧ k ≤ 8) := by
  have h : ∀ j, 0 ≤ costF j ∧ costF j ≤ 64 := fun j => by
    rcases j with _|_|_|_|_|_|_|_|_|j <;> first | decide | exact ⟨Int.le_refl 0, by show (0:Int) ≤ 64; decide⟩
  unfold cost
  have := h k.toNat
  split <;> omega
def MS.charge (s : MS) (c k t : Int) : Int × MS :=
  if ¬ (0 ≤ c ∧ c < s.n) ∨ cost k = 0 then (11, s) else if s.st then (22, s) else
  let s' := s.on c.toNat k.toNat (cost k * t)
  (if s'.st then 22 else 0, s')
def MS.wait (s : MS) (c t : Int) : Int × MS :=
  if ¬ (0 ≤ c ∧ c < s.n) then (11, s) else if s.st then (22, s) else if t ≤ s.clk c.toNat then (0, s) else
  let s' := s.on c.toNat 0 (t - s.clk c.toNat)
  (if s'.st then 22 else 0, s')
def MS.clkOf (s : MS) (c : Int) : Int := if 0 ≤ c ∧ c < (s.n : Int) then s.clk c.toNat else 0
def MS.idleOf (s : MS) (c : Int) : Int := if 0 ≤ c ∧ c < (s.n : Int) then s.by_ c.toNat 0 else 0
def MS.spentOf (s : MS) (c k : Int) : Int := if (0 ≤ c ∧ c < (s.n : Int)) ∧ ¬ cost k = 0 then s.by_ c.toNat k.toNat else 0
def MS.new (c : Int) : MS := ⟨fun _ => 0, fun _ _ => 0, c.toNat, false⟩
def coreT (clk : Int) (by_ : Nat → Int) : T := .cons (.int .u64 clk) (.cons (.arr 9 1 (fun k => .int .u64 (by_ k))) .nil)
def MS.HT (s : MS) (r : Nat) : List Reg :=
  [newReg 48 (.cons (.slice r 0 [] 0 10 s.n s.n) (.cons (.bool s.st) .nil)), rowReg 52 s.n 10 s.n (fun j => coreT (s.clk j) (s.by_ j))]
abbrev MS.H (s : MS) : List Reg := s.HT 1

def costsP : Pat Unit where
  view | [], _ => some () | _, _ => none
  args _ := []
  H _ := []
  out _ := .retq (.arr 9 1 (fun j => .int .u64 (costF j)))
theorem costs_vc : True → ((9 : Nat) = (9 : Nat) ∧ ∀ (j : Nat), j < (9 : Nat) → (bif j.beq (0 : Nat) then (0 : Int) else bif j.beq (1 : Nat) then (1 : Int) else bif j.beq (2 : Nat) then (2 : Int) else bif j.beq (3 : Nat) then (3 : Int)
  else bif j.beq (4 : Nat) then (20 : Int) else bif j.beq (5 : Nat) then (50 : Int) else bif j.beq (6 : Nat) then (30 : Int) else bif j.beq (7 : Nat) then (40 : Int) else (64 : Int)) = costF j) ∧ True ∧ True := by
  simp only [true_and, and_true, eq_self, true_implies, and_self, cond_nbeq]
  intro j hj
  rcases j with _|_|_|_|_|_|_|_|_|j <;> first | rfl | omega

def costs_C (_ : Unit) : Cfg := { Γ := Go.Sx.look [], names := true }
theorem costs_al (x : Unit) : Shown (costsP.vc Try.prog (costs_C x) Try.f28 x) := ⟨@Eq.mp _ _ (by kernel_rfl) (costs_vc )⟩
theorem costs_ok : SpOk Try.prog 28 costsP.sp := @Pat.okS _ costsP Try.prog costs_C 28 Try.f28 (fun x => cfg_nil rfl) (by kernel_rfl) Try.func28 (fun _ => rfl) costs_al
def tCost : Tab := [(28, costsP.sp)]
theorem tCost_ok : TabOk Try.prog tCost := (tab_cons costs_ok tab_nil)

def costP : Pat Int where
  view | [.int .i64 k], _ => some k | _, _ => none
  args k := [.int .i64 k]
  H _ := []
  out k := .retq (.int .u64 (cost k))
theorem cost_vc : ∀ (k : Int), True → ∀ (v : Int), v = (0 : Int) → (decide (k < (1 : Int)) = true → ∀ (v : Int), v = (0 : Int) → v = cost k ∧ True ∧ True) ∧ (decide (k < (1 : Int)) = false → (decide (k > (8 : Int)) = true → ∀ (v : Int), v
  = (0 : Int) → v = cost k ∧ True ∧ True) ∧ (decide (k > (8 : Int)) = false → (True ∧ True) ∧ ((0 : Int) ≤ k ∧ k < (↑(9 : Nat) : Int)) ∧ ∀ (v : Int), v = costF k.toNat → v = cost k ∧ True ∧ True)) := by
  simp only [true_and, and_true, decide_eq_true_eq, decide_eq_false_iff_not, true_implies, and_self, Int.not_lt, gt_iff_lt, forall_eq]
  unfold cost
  exact fun k => ⟨fun h => by rw [if_neg (by omega)], fun h => ⟨fun h2 => by rw [if_neg (by omega)], fun h2 => ⟨by omega, by rw [if_pos (by omega)]⟩⟩⟩

def cost_C (_ : Int) : Cfg := { Γ := Go.Sx.look tCost, names := true }
theorem cost_al (x : Int) : Shown (costP.vc Try.prog (cost_C x) Try.f20 x) := ⟨@Eq.mp _ _ (by kernel_rfl) (cost_vc x)⟩
theorem cost_ok : SpOk Try.prog 20 costP.sp := @Pat.okS _ costP Try.prog cost_C 20 Try.f20 (fun x => cfg_tab rfl tCost_ok) (by kernel_rfl) Try.func20 (fun _ => rfl) cost_al
theorem rcost_vc : ∀ (k : Int), True → ∀ (v : Int), v = (0 : Int) → (decide (k < (1 : Int)) = true → ∀ (v : Int), v = (0 : Int) → v = cost k ∧ True ∧ True) ∧ (decide (k < (1 : Int)) = false → (decide (k > (8 : Int)) = true → ∀ (v : Int), v
  = (0 : Int) → v = cost k ∧ True ∧ True) ∧ (decide (k > (8 : Int)) = false → ((0 : Int) ≤ k ∧ k < (↑(9 : Nat) : Int)) ∧ (0 : Nat) + k.toNat < (9 : Nat) ∧ ∀ (v : Int), (v = bif ((0 : Nat) + k.toNat).beq (0 : Nat) then (0 :
  Int) else bif ((0 : Nat) + k.toNat).beq (1 : Nat) then (1 : Int) else bif ((0 : Nat) + k.toNat).beq (2 : Nat) then (2 : Int) else bif ((0 : Nat) + k.toNat).beq (3 : Nat) then (3 : Int) else bif ((0 : Nat) + k.toNat).beq
  (4 : Nat) then (20 : Int) else bif ((0 : Nat) + k.toNat).beq (5 : Nat) then (50 : Int) else bif ((0 : Nat) + k.toNat).beq (6 : Nat) then (30 : Int) else bif ((0 : Nat) + k.toNat).beq (7 : Nat) then (40 : Int) else (64 :
  Int)) → v = cost k ∧ True ∧ True)) := by
  simp only [and_true, decide_eq_true_eq, decide_eq_false_iff_not, true_implies, and_self, Int.not_lt, gt_iff_lt, Nat.zero_add, cond_nbeq, forall_eq]
  unfold cost
  refine fun k => ⟨fun h => by rw [if_neg (by omega)], fun h => ⟨fun h2 => by rw [if_neg (by omega)], fun h2 => ⟨by omega, by omega, ?_⟩⟩⟩
  rw [if_pos (show 1 ≤ k ∧ k ≤ 8 by omega)]
  have hk : k.toNat < 9 := by omega
  clear h h2
  generalize k.toNat = j at *
  rcases j with _|_|_|_|_|_|_|_|_|j <;> first | rfl | omega

def rcost_C (_ : Int) : Cfg := { Γ := Go.Sx.look [], names := true }
theorem rcost_al (x : Int) : Shown (costP.vc Try.prog (rcost_C x) Try.f21 x) := ⟨@Eq.mp _ _ (by kernel_rfl) (rcost_vc x)⟩
theorem rcost_ok : SpOk Try.prog 21 costP.sp := @Pat.okS _ costP Try.prog rcost_C 21 Try.f21 (fun x => cfg_nil rfl) (by kernel_rfl) Try.func21 (fun _ => rfl) rcost_al
def viewM (r : Nat) (H : List Reg) : MS :=
  let t := regC H r
  let a := regC H (tRef (tAt t 0))
  ⟨fun j => tInt (tAt (tArr a j) 0), fun j k => tInt (tArr (tAt (tArr a j) 1) k), tLen (tAt t 0), tBool (tAt t 1)⟩
def thereP : Pat (MS × Int) where
  view | [.ptr r 0 [], .int .i64 c], H => some (viewM r H, c) | _, _ => none
  args x := [.ptr 0 0 [], .int .i64 x.2]
  H x := x.1.H
  out x := .retq (.bool (decide (0 ≤ x.2 ∧ x.2 < (x.1.n : Int))))
theorem there_vc : ∀ (s : MS) (c : Int), True → (decide (c ≥ (0 : Int)) = true → decide (c < (↑s.n : Int)) = decide ((0 : Int) ≤ c ∧ c < (↑s.n : Int)) ∧ True ∧ ((2 : Nat) ≤ (2 : Nat) ∧ (True ∧ True ∧ (0 : Nat) = (0 : Nat) ∧ s.n = s.n ∧ s.n
  = s.n) ∧ s.st = s.st ∧ True) ∧ (s.n * (10 : Nat) ≤ s.n * (10 : Nat) ∧ s.n = s.n ∧ ∀ (j : Nat), j < s.n → s.clk j = s.clk j ∧ ((9 : Nat) = (9 : Nat) ∧ ∀ (j_1 : Nat), j_1 < (9 : Nat) → s.by_ j j_1 = s.by_ j j_1) ∧ True) ∧
  True) ∧ (decide (c ≥ (0 : Int)) = false → decide ((0 : Int) ≤ c ∧ c < (↑s.n : Int)) = false ∧ True ∧ ((2 : Nat) ≤ (2 : Nat) ∧ (True ∧ True ∧ (0 : Nat) = (0 : Nat) ∧ s.n = s.n ∧ s.n = s.n) ∧ s.st = s.st ∧ True) ∧ (s.n *
  (10 : Nat) ≤ s.n * (10 : Nat) ∧ s.n = s.n ∧ ∀ (j : Nat), j < s.n → s.clk j = s.clk j ∧ ((9 : Nat) = (9 : Nat) ∧ ∀ (j_1 : Nat), j_1 < (9 : Nat) → s.by_ j j_1 = s.by_ j j_1) ∧ True) ∧ True) := by
  simp only [and_true, eq_self, Nat.le_refl, decide_eq_true_eq, decide_eq_false_iff_not, implies_true, true_implies, and_self, Int.not_le, ge_iff_le]
  intro s c
  exact ⟨fun h => by simp [h], fun h => by omega⟩

def there_C (_ : (MS × Int)) : Cfg := { Γ := Go.Sx.look [], names := true }
theorem there_al (x : (MS × Int)) : Shown (thereP.vc Try.prog (there_C x) Try.f22 x) := ⟨@Eq.mp _ _ (by kernel_rfl) (there_vc (x.1) (x.2))⟩
theorem there_ok : SpOk Try.prog 22 thereP.sp := @Pat.okS _ thereP Try.prog there_C 22 Try.f22 (fun x => cfg_nil rfl) (by kernel_rfl) Try.func22 (fun _ => rfl) there_al
def onP : Pat (MS × Nat × Nat × Int) where
  view | [.ptr r 0 [], .int .i64 c, .int .i64 k, .int .u64 y], H => some (viewM r H, c.toNat, k.toNat, y) | _, _ => none
  args x := [.ptr 0 0 [], .int .i64 x.2.1, .int .i64 x.2.2.1, .int .u64 x.2.2.2]
  H x := x.1.H
  out x := .need (x.1.Ok ∧ x.2.1 < x.1.n ∧ x.2.2.1 < 9 ∧ 0 ≤ x.2.2.2) (.ret (.int .i64 (bif (x.1.on x.2.1 x.2.2.1 x.2.2.2).st then 22 else 0)) (x.1.on x.2.1 x.2.2.1 x.2.2.2).H)
theorem on_vc : ∀ (s : MS) (c k : Nat) (y : Int), (s.Ok ∧ c < s.n ∧ k < (9 : Nat) ∧ (0 : Int) ≤ y) ∧ True → ∀ (v : Int), v = (0 : Int) → ((0 : Int) ≤ (↑c : Int) ∧ (↑c : Int) < (↑s.n : Int)) ∧ (0 : Nat) + (↑c : Int).toNat < s.n ∧ ∀ (v :
  Int), v = IntKind.u64.wrap ((4611686018427387904 : Int) - s.clk ((0 : Nat) + (↑c : Int).toNat)) → ∀ (v_1 : Int), (v_1 = if v < y then v else y) → (0 : Nat) + (↑c : Int).toNat < s.n ∧ (0 : Nat) + (↑c : Int).toNat < s.n ∧
  ((0 : Int) ≤ (↑k : Int) ∧ (↑k : Int) < (↑(9 : Nat) : Int)) ∧ (0 : Nat) + (↑c : Int).toNat < s.n ∧ (↑k : Int).toNat < (9 : Nat) ∧ ((0 : Int) ≤ (↑k : Int) ∧ (↑k : Int) < (↑(9 : Nat) : Int)) ∧ (0 : Nat) + (↑c : Int).toNat <
  s.n ∧ (↑k : Int).toNat < (9 : Nat) ∧ (decide (y ≥ v) = true → ∀ (v_2 : Int), v_2 = (22 : Int) → s.Ok ∧ c < s.n ∧ k < (9 : Nat) ∧ (0 : Int) ≤ y → (v_2 = bif (s.on c k y).st then (22 : Int) else (0 : Int)) ∧ True ∧ ((2 :
  Nat) ≤ (2 : Nat) ∧ (True ∧ True ∧ (0 : Nat) = (0 : Nat) ∧ s.n = (s.on c k y).n ∧ s.n = (s.on c k y).n) ∧ decide (y ≥ v) = (s.on c k y).st ∧ True) ∧ ((s.on c k y).n * (10 : Nat) ≤ s.n * (10 : Nat) ∧ (s.on c k y).n = s.n ∧
  ∀ (j : Nat), j < s.n → (bif j.beq ((0 : Nat) + (↑c : Int).toNat) then bif ((0 : Nat) + (↑c : Int).toNat).beq ((0 : Nat) + (↑c : Int).toNat) then IntKind.u64.wrap (s.clk ((0 : Nat) + (↑c : Int).toNat) + v_1) else s.clk
  ((0 : Nat) + (↑c : Int).toNat) else bif j.beq ((0 : Nat) + (↑c : Int).toNat) then IntKind.u64.wrap (s.clk ((0 : Nat) + (↑c : Int).toNat) + v_1) else s.clk j) = (s.on c k y).clk j ∧ ((9 : Nat) = (9 : Nat) ∧ ∀ (j_1 : Nat),
  j_1 < (9 : Nat) → (bif j.beq ((0 : Nat) + (↑c : Int).toNat) then bif j_1.beq (↑k : Int).toNat then IntKind.u64.wrap ((bif ((0 : Nat) + (↑c : Int).toNat).beq ((0 : Nat) + (↑c : Int).toNat) then s.by_ ((0 : Nat) + (↑c :
  Int).toNat) (↑k : Int).toNat else s.by_ ((0 : Nat) + (↑c : Int).toNat) (↑k : Int).toNat) + v_1) else bif ((0 : Nat) + (↑c : Int).toNat).beq ((0 : Nat) + (↑c : Int).toNat) then s.by_ ((0 : Nat) + (↑c : Int).toNat) j_1
  else s.by_ ((0 : Nat) + (↑c : Int).toNat) j_1 else bif j.beq ((0 : Nat) + (↑c : Int).toNat) then s.by_ ((0 : Nat) + (↑c : Int).toNat) j_1 else s.by_ j j_1) = (s.on c k y).by_ j j_1) ∧ True) ∧ True) ∧ (decide (y ≥ v) =
  false → ∀ (v_2 : Int), v_2 = (0 : Int) → s.Ok ∧ c < s.n ∧ k < (9 : Nat) ∧ (0 : Int) ≤ y → (v_2 = bif (s.on c k y).st then (22 : Int) else (0 : Int)) ∧ True ∧ ((2 : Nat) ≤ (2 : Nat) ∧ (True ∧ True ∧ (0 : Nat) = (0 : Nat)
  ∧ s.n = (s.on c k y).n ∧ s.n = (s.on c k y).n) ∧ decide (y ≥ v) = (s.on c k y).st ∧ True) ∧ ((s.on c k y).n * (10 : Nat) ≤ s.n * (10 : Nat) ∧ (s.on c k y).n = s.n ∧ ∀ (j : Nat), j < s.n → (bif j.beq ((0 : Nat) + (↑c :
  Int).toNat) then bif ((0 : Nat) + (↑c : Int).toNat).beq ((0 : Nat) + (↑c : Int).toNat) then IntKind.u64.wrap (s.clk ((0 : Nat) + (↑c : Int).toNat) + v_1) else s.clk ((0 : Nat) + (↑c : Int).toNat) else bif j.beq ((0 :
  Nat) + (↑c : Int).toNat) then IntKind.u64.wrap (s.clk ((0 : Nat) + (↑c : Int).toNat) + v_1) else s.clk j) = (s.on c k y).clk j ∧ ((9 : Nat) = (9 : Nat) ∧ ∀ (j_1 : Nat), j_1 < (9 : Nat) → (bif j.beq ((0 : Nat) + (↑c :
  Int).toNat) then bif j_1.beq (↑k : Int).toNat then IntKind.u64.wrap ((bif ((0 : Nat) + (↑c : Int).toNat).beq ((0 : Nat) + (↑c : Int).toNat) then s.by_ ((0 : Nat) + (↑c : Int).toNat) (↑k : Int).toNat else s.by_ ((0 : Nat)
  + (↑c : Int).toNat) (↑k : Int).toNat) + v_1) else bif ((0 : Nat) + (↑c : Int).toNat).beq ((0 : Nat) + (↑c : Int).toNat) then s.by_ ((0 : Nat) + (↑c : Int).toNat) j_1 else s.by_ ((0 : Nat) + (↑c : Int).toNat) j_1 else bif
  j.beq ((0 : Nat) + (↑c : Int).toNat) then s.by_ ((0 : Nat) + (↑c : Int).toNat) j_1 else s.by_ j j_1) = (s.on c k y).by_ j j_1) ∧ True) ∧ True) := by
  simp only [true_and, and_true, eq_self, Nat.le_refl, decide_eq_true_eq, decide_eq_false_iff_not, and_self, Int.not_le, ge_iff_le, Nat.zero_add, Int.toNat_natCast, cond_nbeq, IntKind.wrap_u64, if_true]
  rintro s c k y ⟨hok, hc, hk, hy⟩
  obtain ⟨h4, h5⟩ := MS.Ok.le hok hc hk
  obtain ⟨⟨h1, h2⟩, -⟩ := hok c hc
  clear hok
  try dsimp only
  repeat' (with_reducible first | assumption | apply And.intro | intro _)
  all_goals (try simp only [MS.on, upI, cond_dec, decide_eq_decide] at *)
  all_goals (first | omega | ((repeat' (first | omega | split)) <;> (try dsimp only) <;> (try (first | omega | contradiction | (subst_vars; first | rfl | omega) | (simp_all; done) | (simp_all; omega)))))

def on_C (_ : (MS × Nat × Nat × Int)) : Cfg := { Γ := Go.Sx.look [], names := true }
theorem on_al (x : (MS × Nat × Nat × Int)) : Shown (onP.vc Try.prog (on_C x) Try.f23 x) := ⟨@Eq.mp _ _ (by kernel_rfl) (on_vc (x.1) (x.2.1) (x.2.2.1) (x.2.2.2))⟩
theorem on_ok : SpOk Try.prog 23 onP.sp := @Pat.okS _ onP Try.prog on_C 23 Try.f23 (fun x => cfg_nil rfl) (by kernel_rfl) Try.func23 (fun _ => rfl) on_al

def tMeter : Tab := [(22, thereP.sp), (20, costP.sp), (25, mulP.sp), (23, onP.sp)]
theorem tMeter_ok : TabOk Try.prog tMeter := (tab_cons there_ok (tab_cons cost_ok (tab_cons mul64_ok (tab_cons on_ok tab_nil))))

def newP : Pat Int where
  view | [.int .i64 c], _ => some c | _, _ => none
  args c := [.int .i64 c]
  H _ := []
  out c := .br (1 ≤ c ∧ c ≤ 4) (.any (fun s : MS => s = MS.new c) fun s => .ret (.tup (.cons (p0 0) (.cons (.int .i64 0) .nil))) s.H) (.retq (.tup (.cons .nilp (.cons (.int .i64 11) .nil))))
theorem new_vc : ∀ (c : Int), True → ∀ (v : Int), v = (0 : Int) → (decide (c < (1 : Int)) = true → ∀ (v : Int), v = (11 : Int) → ((1 : Int) ≤ c ∧ c ≤ (4 : Int) → ∃ (x : MS), x = MS.new c ∧ (False ∧ v = (0 : Int) ∧ True) ∧ False) ∧ (¬((1
  : Int) ≤ c ∧ c ≤ (4 : Int)) → (True ∧ v = (11 : Int) ∧ True) ∧ True ∧ True)) ∧ (decide (c < (1 : Int)) = false → (decide (c > (4 : Int)) = true → ∀ (v : Int), v = (11 : Int) → ((1 : Int) ≤ c ∧ c ≤ (4 : Int) → ∃ (x : MS),
  x = MS.new c ∧ (False ∧ v = (0 : Int) ∧ True) ∧ False) ∧ (¬((1 : Int) ≤ c ∧ c ≤ (4 : Int)) → (True ∧ v = (11 : Int) ∧ True) ∧ True ∧ True)) ∧ (decide (c > (4 : Int)) = false → ((0 : Int) ≤ c ∧ c ≤ c ∧ c ≤
  (9223372036854775807 : Int) ∧ (↑(80 : Nat) : Int) * c ≤ (281474976710656 : Int)) ∧ ∀ (v : Int), v = (0 : Int) → ((1 : Int) ≤ c ∧ c ≤ (4 : Int) → ∃ (x : MS), x = MS.new c ∧ ((True ∧ True) ∧ v = (0 : Int) ∧ True) ∧ True ∧
  ((2 : Nat) ≤ (2 : Nat) ∧ (True ∧ True ∧ (0 : Nat) = (0 : Nat) ∧ c.toNat = x.n ∧ c.toNat = x.n) ∧ x.st = false ∧ True) ∧ (x.n * (10 : Nat) ≤ c.toNat * (10 : Nat) ∧ x.n = c.toNat ∧ ∀ (j : Nat), j < c.toNat → (0 : Int) =
  x.clk j ∧ ((9 : Nat) = (9 : Nat) ∧ ∀ (j_1 : Nat), j_1 < (9 : Nat) → (0 : Int) = x.by_ j j_1) ∧ True) ∧ True) ∧ (¬((1 : Int) ≤ c ∧ c ≤ (4 : Int)) → (False ∧ v = (11 : Int) ∧ True) ∧ True ∧ True))) := by
  simp only [true_and, and_true, eq_self, Nat.le_refl, decide_eq_true_eq, decide_eq_false_iff_not, true_implies, and_self, Int.not_lt, gt_iff_lt, exists_eq_left]
  intro c
  try dsimp only
  repeat' (with_reducible first | assumption | apply And.intro | intro _)
  all_goals (try simp only [MS.new] at *)
  all_goals (first | omega | ((repeat' (first | omega | split)) <;> (try dsimp only) <;> (try (first | omega | contradiction | (subst_vars; first | rfl | omega) | (simp_all; done) | (simp_all; omega)))))

def new_C (_ : Int) : Cfg := { Γ := Go.Sx.look [], names := true }
theorem new_al (x : Int) : Shown (newP.vc Try.prog (new_C x) Try.f8 x) := ⟨@Eq.mp _ _ (by kernel_rfl) (new_vc x)⟩
theorem new_ok : SpOk Try.prog 8 newP.sp := @Pat.okS _ newP Try.prog new_C 8 Try.f8 (fun x => cfg_nil rfl) (by kernel_rfl) Try.func8 (fun _ => rfl) new_al
def clockP : Pat (MS × Int) where
  view | [.ptr r 0 [], .int .i64 c], H => some (viewM r H, c) | _, _ => none
  args x := [.ptr 0 0 [], .int .i64 x.2]
  H x := x.1.H
  out x := .retq (.int .u64 (x.1.clkOf x.2))
theorem clock_vc : ∀ (s : MS) (c : Int), True → ∀ (v : Int), v = (0 : Int) → (((True ∧ True) ∧ c = c ∧ True) ∧ ((2 : Nat) ≤ (2 : Nat) ∧ (True ∧ True ∧ (0 : Nat) = (0 : Nat) ∧ s.n = s.n ∧ s.n = s.n) ∧ s.st = s.st ∧ True) ∧ (s.n * (10 : Nat)
  ≤ s.n * (10 : Nat) ∧ s.n = s.n ∧ ∀ (j : Nat), j < s.n → s.clk j = s.clk j ∧ ((9 : Nat) = (9 : Nat) ∧ ∀ (j_1 : Nat), j_1 < (9 : Nat) → s.by_ j j_1 = s.by_ j j_1) ∧ True) ∧ True) ∧ ((!decide ((0 : Int) ≤ c ∧ c < (↑s.n :
  Int))) = true → ∀ (v : Int), v = (0 : Int) → v = s.clkOf c ∧ True ∧ ((2 : Nat) ≤ (2 : Nat) ∧ (True ∧ True ∧ (0 : Nat) = (0 : Nat) ∧ s.n = s.n ∧ s.n = s.n) ∧ s.st = s.st ∧ True) ∧ (s.n * (10 : Nat) ≤ s.n * (10 : Nat) ∧
  s.n = s.n ∧ ∀ (j : Nat), j < s.n → s.clk j = s.clk j ∧ ((9 : Nat) = (9 : Nat) ∧ ∀ (j_1 : Nat), j_1 < (9 : Nat) → s.by_ j j_1 = s.by_ j j_1) ∧ True) ∧ True) ∧ ((!decide ((0 : Int) ≤ c ∧ c < (↑s.n : Int))) = false → ((0 :
  Int) ≤ c ∧ c < (↑s.n : Int)) ∧ (0 : Nat) + c.toNat < s.n ∧ ∀ (v : Int), v = s.clk ((0 : Nat) + c.toNat) → v = s.clkOf c ∧ True ∧ ((2 : Nat) ≤ (2 : Nat) ∧ (True ∧ True ∧ (0 : Nat) = (0 : Nat) ∧ s.n = s.n ∧ s.n = s.n) ∧
  s.st = s.st ∧ True) ∧ (s.n * (10 : Nat) ≤ s.n * (10 : Nat) ∧ s.n = s.n ∧ ∀ (j : Nat), j < s.n → s.clk j = s.clk j ∧ ((9 : Nat) = (9 : Nat) ∧ ∀ (j_1 : Nat), j_1 < (9 : Nat) → s.by_ j j_1 = s.by_ j j_1) ∧ True) ∧ True) := by
  simp only [true_and, and_true, eq_self, Nat.le_refl, decide_eq_true_eq, decide_eq_false_iff_not, implies_true, true_implies, and_self, Nat.zero_add, Bool.not_eq_true', Bool.not_eq_false']
  intro s c
  try dsimp only
  repeat' (with_reducible first | assumption | apply And.intro | intro _)
  all_goals (try simp only [MS.clkOf] at *)
  all_goals (first | omega | ((repeat' (first | omega | split)) <;> (try dsimp only) <;> (try (first | omega | contradiction | (subst_vars; first | rfl | omega) | (simp_all; done) | (simp_all; omega)))))

def clock_C (_ : (MS × Int)) : Cfg := { Γ := Go.Sx.look tMeter, names := true }
theorem clock_al (x : (MS × Int)) : Shown (clockP.vc Try.prog (clock_C x) Try.f14 x) := ⟨@Eq.mp _ _ (by kernel_rfl) (clock_vc (x.1) (x.2))⟩
theorem clock_ok : SpOk Try.prog 14 clockP.sp := @Pat.okS _ clockP Try.prog clock_C 14 Try.f14 (fun x => cfg_tab rfl tMeter_ok) (by kernel_rfl) Try.func14 (fun _ => rfl) clock_al
def idleP : Pat (MS × Int) where
  view | [.ptr r 0 [], .int .i64 c], H => some (viewM r H, c) | _, _ => none
  args x := [.ptr 0 0 [], .int .i64 x.2]
  H x := x.1.H
  out x := .retq (.int .u64 (x.1.idleOf x.2))
theorem idle_vc : ∀ (s : MS) (c : Int), True → ∀ (v : Int), v = (0 : Int) → (((True ∧ True) ∧ c = c ∧ True) ∧ ((2 : Nat) ≤ (2 : Nat) ∧ (True ∧ True ∧ (0 : Nat) = (0 : Nat) ∧ s.n = s.n ∧ s.n = s.n) ∧ s.st = s.st ∧ True) ∧ (s.n * (10 : Nat)
  ≤ s.n * (10 : Nat) ∧ s.n = s.n ∧ ∀ (j : Nat), j < s.n → s.clk j = s.clk j ∧ ((9 : Nat) = (9 : Nat) ∧ ∀ (j_1 : Nat), j_1 < (9 : Nat) → s.by_ j j_1 = s.by_ j j_1) ∧ True) ∧ True) ∧ ((!decide ((0 : Int) ≤ c ∧ c < (↑s.n :
  Int))) = true → ∀ (v : Int), v = (0 : Int) → v = s.idleOf c ∧ True ∧ ((2 : Nat) ≤ (2 : Nat) ∧ (True ∧ True ∧ (0 : Nat) = (0 : Nat) ∧ s.n = s.n ∧ s.n = s.n) ∧ s.st = s.st ∧ True) ∧ (s.n * (10 : Nat) ≤ s.n * (10 : Nat) ∧
  s.n = s.n ∧ ∀ (j : Nat), j < s.n → s.clk j = s.clk j ∧ ((9 : Nat) = (9 : Nat) ∧ ∀ (j_1 : Nat), j_1 < (9 : Nat) → s.by_ j j_1 = s.by_ j j_1) ∧ True) ∧ True) ∧ ((!decide ((0 : Int) ≤ c ∧ c < (↑s.n : Int))) = false → ((0 :
  Int) ≤ c ∧ c < (↑s.n : Int)) ∧ ((0 : Int) ≤ (0 : Int) ∧ (0 : Int) < (↑(9 : Nat) : Int)) ∧ (0 : Nat) + c.toNat < s.n ∧ Int.toNat (0 : Int) < (9 : Nat) ∧ ∀ (v : Int), v = s.by_ ((0 : Nat) + c.toNat) (Int.toNat (0 : Int)) →
  v = s.idleOf c ∧ True ∧ ((2 : Nat) ≤ (2 : Nat) ∧ (True ∧ True ∧ (0 : Nat) = (0 : Nat) ∧ s.n = s.n ∧ s.n = s.n) ∧ s.st = s.st ∧ True) ∧ (s.n * (10 : Nat) ≤ s.n * (10 : Nat) ∧ s.n = s.n ∧ ∀ (j : Nat), j < s.n → s.clk j =
  s.clk j ∧ ((9 : Nat) = (9 : Nat) ∧ ∀ (j_1 : Nat), j_1 < (9 : Nat) → s.by_ j j_1 = s.by_ j j_1) ∧ True) ∧ True) := by
  simp only [true_and, and_true, eq_self, Nat.le_refl, decide_eq_true_eq, decide_eq_false_iff_not, implies_true, true_implies, and_self, Nat.zero_add, Bool.not_eq_true', Bool.not_eq_false']
  intro s c
  try dsimp only
  repeat' (with_reducible first | assumption | apply And.intro | intro _)
  all_goals (try simp only [MS.idleOf] at *)
  all_goals (first | omega | ((repeat' (first | omega | split)) <;> (try dsimp only) <;> (try (first | omega | contradiction | (subst_vars; first | rfl | omega) | (simp_all; done) | (simp_all; omega)))))

def idle_C (_ : (MS × Int)) : Cfg := { Γ := Go.Sx.look tMeter, names := true }
theorem idle_al (x : (MS × Int)) : Shown (idleP.vc Try.prog (idle_C x) Try.f16 x) := ⟨@Eq.mp _ _ (by kernel_rfl) (idle_vc (x.1) (x.2))⟩
theorem idle_ok : SpOk Try.prog 16 idleP.sp := @Pat.okS _ idleP Try.prog idle_C 16 Try.f16 (fun x => cfg_tab rfl tMeter_ok) (by kernel_rfl) Try.func16 (fun _ => rfl) idle_al
def spentP : Pat (MS × Int × Int) where
  view | [.ptr r 0 [], .int .i64 c, .int .i64 k], H => some (viewM r H, c, k) | _, _ => none
  args x := [.ptr 0 0 [], .int .i64 x.2.1, .int .i64 x.2.2]
  H x := x.1.H
  out x := .retq (.int .u64 (x.1.spentOf x.2.1 x.2.2))
theorem spent_vc : ∀ (s : MS) (c k : Int), True → ∀ (v : Int), v = (0 : Int) → (((True ∧ True) ∧ c = c ∧ True) ∧ ((2 : Nat) ≤ (2 : Nat) ∧ (True ∧ True ∧ (0 : Nat) = (0 : Nat) ∧ s.n = s.n ∧ s.n = s.n) ∧ s.st = s.st ∧ True) ∧ (s.n * (10 :
  Nat) ≤ s.n * (10 : Nat) ∧ s.n = s.n ∧ ∀ (j : Nat), j < s.n → s.clk j = s.clk j ∧ ((9 : Nat) = (9 : Nat) ∧ ∀ (j_1 : Nat), j_1 < (9 : Nat) → s.by_ j j_1 = s.by_ j j_1) ∧ True) ∧ True) ∧ ((!decide ((0 : Int) ≤ c ∧ c < (↑s.n
  : Int))) = true → ∀ (v : Int), v = (0 : Int) → v = s.spentOf c k ∧ True ∧ ((2 : Nat) ≤ (2 : Nat) ∧ (True ∧ True ∧ (0 : Nat) = (0 : Nat) ∧ s.n = s.n ∧ s.n = s.n) ∧ s.st = s.st ∧ True) ∧ (s.n * (10 : Nat) ≤ s.n * (10 :
  Nat) ∧ s.n = s.n ∧ ∀ (j : Nat), j < s.n → s.clk j = s.clk j ∧ ((9 : Nat) = (9 : Nat) ∧ ∀ (j_1 : Nat), j_1 < (9 : Nat) → s.by_ j j_1 = s.by_ j j_1) ∧ True) ∧ True) ∧ ((!decide ((0 : Int) ≤ c ∧ c < (↑s.n : Int))) = false →
  ((k = k ∧ True) ∧ True) ∧ ((cost k == (0 : Int)) = true → ∀ (v : Int), v = (0 : Int) → v = s.spentOf c k ∧ True ∧ ((2 : Nat) ≤ (2 : Nat) ∧ (True ∧ True ∧ (0 : Nat) = (0 : Nat) ∧ s.n = s.n ∧ s.n = s.n) ∧ s.st = s.st ∧
  True) ∧ (s.n * (10 : Nat) ≤ s.n * (10 : Nat) ∧ s.n = s.n ∧ ∀ (j : Nat), j < s.n → s.clk j = s.clk j ∧ ((9 : Nat) = (9 : Nat) ∧ ∀ (j_1 : Nat), j_1 < (9 : Nat) → s.by_ j j_1 = s.by_ j j_1) ∧ True) ∧ True) ∧ ((cost k == (0
  : Int)) = false → ((0 : Int) ≤ c ∧ c < (↑s.n : Int)) ∧ ((0 : Int) ≤ k ∧ k < (↑(9 : Nat) : Int)) ∧ (0 : Nat) + c.toNat < s.n ∧ k.toNat < (9 : Nat) ∧ ∀ (v : Int), v = s.by_ ((0 : Nat) + c.toNat) k.toNat → v = s.spentOf c k
  ∧ True ∧ ((2 : Nat) ≤ (2 : Nat) ∧ (True ∧ True ∧ (0 : Nat) = (0 : Nat) ∧ s.n = s.n ∧ s.n = s.n) ∧ s.st = s.st ∧ True) ∧ (s.n * (10 : Nat) ≤ s.n * (10 : Nat) ∧ s.n = s.n ∧ ∀ (j : Nat), j < s.n → s.clk j = s.clk j ∧ ((9 :
  Nat) = (9 : Nat) ∧ ∀ (j_1 : Nat), j_1 < (9 : Nat) → s.by_ j j_1 = s.by_ j j_1) ∧ True) ∧ True)) := by
  simp only [true_and, and_true, eq_self, Nat.le_refl, decide_eq_true_eq, decide_eq_false_iff_not, beq_iff_eq, beq_eq_false_iff_ne, implies_true, true_implies, and_self, ne_eq, Nat.zero_add, Bool.not_eq_true', Bool.not_eq_false']
  intro s c k
  have hk := cost_bd k
  try dsimp only
  repeat' (with_reducible first | assumption | apply And.intro | intro _)
  all_goals (try simp only [MS.spentOf] at *)
  all_goals (first | omega | ((repeat' (first | omega | split)) <;> (try dsimp only) <;> (try (first | omega | contradiction | (subst_vars; first | rfl | omega) | (simp_all; done) | (simp_all; omega)))))

def spent_C (_ : (MS × Int × Int)) : Cfg := { Γ := Go.Sx.look tMeter, names := true }
theorem spent_al (x : (MS × Int × Int)) : Shown (spentP.vc Try.prog (spent_C x) Try.f18 x) := ⟨@Eq.mp _ _ (by kernel_rfl) (spent_vc (x.1) (x.2.1) (x.2.2))⟩
theorem spent_ok : SpOk Try.prog 18 spentP.sp := @Pat.okS _ spentP Try.prog spent_C 18 Try.f18 (fun x => cfg_tab rfl tMeter_ok) (by kernel_rfl) Try.func18 (fun _ => rfl) spent_al
def stoppedP : Pat MS where
  view | [.ptr r 0 []], H => some (viewM r H) | _, _ => none
  args _ := [.ptr 0 0 []]
  H x := x.H
  out x := .retq (.bool x.st)
theorem stopped_vc : ∀ (s : MS), True → s.st = s.st ∧ True ∧ ((2 : Nat) ≤ (2 : Nat) ∧ (True ∧ True ∧ (0 : Nat) = (0 : Nat) ∧ s.n = s.n ∧ s.n = s.n) ∧ s.st = s.st ∧ True) ∧ (s.n * (10 : Nat) ≤ s.n * (10 : Nat) ∧ s.n = s.n ∧ ∀ (j : Nat), j <
  s.n → s.clk j = s.clk j ∧ ((9 : Nat) = (9 : Nat) ∧ ∀ (j_1 : Nat), j_1 < (9 : Nat) → s.by_ j j_1 = s.by_ j j_1) ∧ True) ∧ True := by
  simp only [eq_self, Nat.le_refl, implies_true, and_self]
  try exact fun _ => trivial

def stopped_C (_ : MS) : Cfg := { Γ := Go.Sx.look [], names := true }
theorem stopped_al (x : MS) : Shown (stoppedP.vc Try.prog (stopped_C x) Try.f13 x) := ⟨@Eq.mp _ _ (by kernel_rfl) (stopped_vc x)⟩
theorem stopped_ok : SpOk Try.prog 13 stoppedP.sp := @Pat.okS _ stoppedP Try.prog stopped_C 13 Try.f13 (fun x => cfg_nil rfl) (by kernel_rfl) Try.func13 (fun _ => rfl) stopped_al
def chargeP : Pat (MS × Int × Int × Int) where
  view | [.ptr r 0 [], .int .i64 c, .int .i64 k, .int .u64 y], H => some (viewM r H, c, k, y) | _, _ => none
  args x := [.ptr 0 0 [], .int .i64 x.2.1, .int .i64 x.2.2.1, .int .u64 x.2.2.2]
  H x := x.1.H
  out x := .need (x.1.Ok ∧ u64 x.2.2.2) (.any (fun r : Int × MS => r = x.1.charge x.2.1 x.2.2.1 x.2.2.2) fun r => .ret (.int .i64 r.1) r.2.H)
theorem charge_vc : ∀ (s : MS) (c k y : Int), (s.Ok ∧ (0 : Int) ≤ y ∧ y < (18446744073709551616 : Int)) ∧ True → ∀ (v : Int), v = (0 : Int) → ((k = k ∧ True) ∧ True) ∧ ∀ (v : Int), v = cost k → (((True ∧ True) ∧ c = c ∧ True) ∧ ((2 : Nat) ≤
  (2 : Nat) ∧ (True ∧ True ∧ (0 : Nat) = (0 : Nat) ∧ s.n = s.n ∧ s.n = s.n) ∧ s.st = s.st ∧ True) ∧ (s.n * (10 : Nat) ≤ s.n * (10 : Nat) ∧ s.n = s.n ∧ ∀ (j : Nat), j < s.n → s.clk j = s.clk j ∧ ((9 : Nat) = (9 : Nat) ∧ ∀
  (j_1 : Nat), j_1 < (9 : Nat) → s.by_ j j_1 = s.by_ j j_1) ∧ True) ∧ True) ∧ ((!decide ((0 : Int) ≤ c ∧ c < (↑s.n : Int))) = true → ∀ (v : Int), v = (11 : Int) → s.Ok ∧ (0 : Int) ≤ y ∧ y < (18446744073709551616 : Int) → ∃
  (x : Int × MS), x = s.charge c k y ∧ v = x.fst ∧ True ∧ ((2 : Nat) ≤ (2 : Nat) ∧ (True ∧ True ∧ (0 : Nat) = (0 : Nat) ∧ s.n = x.snd.n ∧ s.n = x.snd.n) ∧ s.st = x.snd.st ∧ True) ∧ (x.snd.n * (10 : Nat) ≤ s.n * (10 : Nat)
  ∧ x.snd.n = s.n ∧ ∀ (j : Nat), j < s.n → s.clk j = x.snd.clk j ∧ ((9 : Nat) = (9 : Nat) ∧ ∀ (j_1 : Nat), j_1 < (9 : Nat) → s.by_ j j_1 = x.snd.by_ j j_1) ∧ True) ∧ True) ∧ ((!decide ((0 : Int) ≤ c ∧ c < (↑s.n : Int))) =
  false → ((v == (0 : Int)) = true → ∀ (v : Int), v = (11 : Int) → s.Ok ∧ (0 : Int) ≤ y ∧ y < (18446744073709551616 : Int) → ∃ (x : Int × MS), x = s.charge c k y ∧ v = x.fst ∧ True ∧ ((2 : Nat) ≤ (2 : Nat) ∧ (True ∧ True ∧
  (0 : Nat) = (0 : Nat) ∧ s.n = x.snd.n ∧ s.n = x.snd.n) ∧ s.st = x.snd.st ∧ True) ∧ (x.snd.n * (10 : Nat) ≤ s.n * (10 : Nat) ∧ x.snd.n = s.n ∧ ∀ (j : Nat), j < s.n → s.clk j = x.snd.clk j ∧ ((9 : Nat) = (9 : Nat) ∧ ∀ (j_1
  : Nat), j_1 < (9 : Nat) → s.by_ j j_1 = x.snd.by_ j j_1) ∧ True) ∧ True) ∧ ((v == (0 : Int)) = false → (s.st = true → ∀ (v : Int), v = (22 : Int) → s.Ok ∧ (0 : Int) ≤ y ∧ y < (18446744073709551616 : Int) → ∃ (x : Int ×
  MS), x = s.charge c k y ∧ v = x.fst ∧ True ∧ ((2 : Nat) ≤ (2 : Nat) ∧ (True ∧ True ∧ (0 : Nat) = (0 : Nat) ∧ s.n = x.snd.n ∧ s.n = x.snd.n) ∧ s.st = x.snd.st ∧ True) ∧ (x.snd.n * (10 : Nat) ≤ s.n * (10 : Nat) ∧ x.snd.n =
  s.n ∧ ∀ (j : Nat), j < s.n → s.clk j = x.snd.clk j ∧ ((9 : Nat) = (9 : Nat) ∧ ∀ (j_1 : Nat), j_1 < (9 : Nat) → s.by_ j j_1 = x.snd.by_ j j_1) ∧ True) ∧ True) ∧ (s.st = false → ((v = v ∧ y = y ∧ True) ∧ True) ∧ (((0 :
  Int) ≤ v ∧ v < (18446744073709551616 : Int)) ∧ (0 : Int) ≤ y ∧ y < (18446744073709551616 : Int)) ∧ ∀ (v_1 : Int), v_1 = v * y / (18446744073709551616 : Int) → ∀ (v_2 : Int), v_2 = v * y % (18446744073709551616 : Int) →
  (decide (v_1 > (0 : Int)) = true → ∀ (v : Int), v = (4611686018427387904 : Int) → (((True ∧ True) ∧ c = (↑c.toNat : Int) ∧ k = (↑k.toNat : Int) ∧ v = v ∧ True) ∧ ((2 : Nat) ≤ (2 : Nat) ∧ (True ∧ True ∧ (0 : Nat) = (0 :
  Nat) ∧ s.n = s.n ∧ s.n = s.n) ∧ s.st = s.st ∧ True) ∧ (s.n * (10 : Nat) ≤ s.n * (10 : Nat) ∧ s.n = s.n ∧ ∀ (j : Nat), j < s.n → s.clk j = s.clk j ∧ ((9 : Nat) = (9 : Nat) ∧ ∀ (j_1 : Nat), j_1 < (9 : Nat) → s.by_ j j_1 =
  s.by_ j j_1) ∧ True) ∧ True) ∧ (s.Ok ∧ c.toNat < s.n ∧ k.toNat < (9 : Nat) ∧ (0 : Int) ≤ v) ∧ ∀ (v_3 : Int), (v_3 = bif (s.on c.toNat k.toNat v).st then (22 : Int) else (0 : Int)) → s.Ok ∧ (0 : Int) ≤ y ∧ y <
  (18446744073709551616 : Int) → ∃ (x : Int × MS), x = s.charge c k y ∧ v_3 = x.fst ∧ True ∧ ((2 : Nat) ≤ (2 : Nat) ∧ (True ∧ True ∧ (0 : Nat) = (0 : Nat) ∧ (s.on c.toNat k.toNat v).n = x.snd.n ∧ (s.on c.toNat k.toNat v).n
  = x.snd.n) ∧ (s.on c.toNat k.toNat v).st = x.snd.st ∧ True) ∧ (x.snd.n * (10 : Nat) ≤ s.n * (10 : Nat) ∧ x.snd.n = (s.on c.toNat k.toNat v).n ∧ ∀ (j : Nat), j < (s.on c.toNat k.toNat v).n → (s.on c.toNat k.toNat v).clk j
  = x.snd.clk j ∧ ((9 : Nat) = (9 : Nat) ∧ ∀ (j_1 : Nat), j_1 < (9 : Nat) → (s.on c.toNat k.toNat v).by_ j j_1 = x.snd.by_ j j_1) ∧ True) ∧ True) ∧ (decide (v_1 > (0 : Int)) = false → (((True ∧ True) ∧ c = (↑c.toNat : Int)
  ∧ k = (↑k.toNat : Int) ∧ v_2 = v_2 ∧ True) ∧ ((2 : Nat) ≤ (2 : Nat) ∧ (True ∧ True ∧ (0 : Nat) = (0 : Nat) ∧ s.n = s.n ∧ s.n = s.n) ∧ s.st = s.st ∧ True) ∧ (s.n * (10 : Nat) ≤ s.n * (10 : Nat) ∧ s.n = s.n ∧ ∀ (j : Nat),
  j < s.n → s.clk j = s.clk j ∧ ((9 : Nat) = (9 : Nat) ∧ ∀ (j_1 : Nat), j_1 < (9 : Nat) → s.by_ j j_1 = s.by_ j j_1) ∧ True) ∧ True) ∧ (s.Ok ∧ c.toNat < s.n ∧ k.toNat < (9 : Nat) ∧ (0 : Int) ≤ v_2) ∧ ∀ (v : Int), (v = bif
  (s.on c.toNat k.toNat v_2).st then (22 : Int) else (0 : Int)) → s.Ok ∧ (0 : Int) ≤ y ∧ y < (18446744073709551616 : Int) → ∃ (x : Int × MS), x = s.charge c k y ∧ v = x.fst ∧ True ∧ ((2 : Nat) ≤ (2 : Nat) ∧ (True ∧ True ∧
  (0 : Nat) = (0 : Nat) ∧ (s.on c.toNat k.toNat v_2).n = x.snd.n ∧ (s.on c.toNat k.toNat v_2).n = x.snd.n) ∧ (s.on c.toNat k.toNat v_2).st = x.snd.st ∧ True) ∧ (x.snd.n * (10 : Nat) ≤ s.n * (10 : Nat) ∧ x.snd.n = (s.on
  c.toNat k.toNat v_2).n ∧ ∀ (j : Nat), j < (s.on c.toNat k.toNat v_2).n → (s.on c.toNat k.toNat v_2).clk j = x.snd.clk j ∧ ((9 : Nat) = (9 : Nat) ∧ ∀ (j_1 : Nat), j_1 < (9 : Nat) → (s.on c.toNat k.toNat v_2).by_ j j_1 =
  x.snd.by_ j j_1) ∧ True) ∧ True)))) := by
  simp only [true_and, and_true, eq_self, Nat.le_refl, decide_eq_true_eq, decide_eq_false_iff_not, beq_iff_eq, beq_eq_false_iff_ne, implies_true, and_self, Int.not_lt, gt_iff_lt, ne_eq, exists_eq_left, Bool.not_eq_true', Bool.not_eq_false']
  rintro s c k y ⟨hok, hy, hy'⟩
  have hk := cost_bd k
  rintro v0 hv0 _ rfl
  by_cases hth : 0 ≤ c ∧ c < s.n
  · by_cases h0 : cost k = 0
    · have e : s.charge c k y = (11, s) := by unfold MS.charge; rw [if_pos (.inr h0)]
      try dsimp only
      repeat' (with_reducible first | assumption | apply And.intro | intro _)
      all_goals (try simp only [e] at *)
      all_goals (first | omega | ((repeat' (first | omega | split)) <;> (try dsimp only) <;> (try (first | omega | contradiction | (subst_vars; first | rfl | omega) | (simp_all; done) | (simp_all; omega)))))
    · cases hst : s.st with
      | true =>
        have e : s.charge c k y = (22, s) := by unfold MS.charge; rw [if_neg (by omega), if_pos hst]
        try dsimp only
        repeat' (with_reducible first | assumption | apply And.intro | intro _)
        all_goals (try simp only [e] at *)
        all_goals (first | omega | ((repeat' (first | omega | split)) <;> (try dsimp only) <;> (try (first | omega | contradiction | (subst_vars; first | rfl | omega) | (simp_all; done) | (simp_all; omega)))))
      | false =>
        have e : s.charge c k y = (if (s.on c.toNat k.toNat (cost k * y)).st then 22 else 0, s.on c.toNat k.toNat (cost k * y)) := by unfold MS.charge; rw [if_neg (by omega), if_neg (by simp [hst])]
        rw [e]
        obtain ⟨⟨h1, h2⟩, -⟩ := hok c.toNat (by omega)
        have hp0 : 0 ≤ cost k * y := Int.mul_nonneg hk.1 hy
        generalize hp : cost k * y = p at *
        try dsimp only
        repeat' (with_reducible first | assumption | apply And.intro | intro _)
        all_goals (try simp only [MS.on, upI, cond_dec, decide_eq_decide] at *)
        all_goals (first | omega | ((repeat' (first | omega | split)) <;> (try dsimp only) <;> (try (first | omega | contradiction | (subst_vars; first | rfl | omega) | (simp_all; done) | (simp_all; omega)))))
  · have e : s.charge c k y = (11, s) := by unfold MS.charge; rw [if_pos (.inl hth)]
    try dsimp only
    repeat' (with_reducible first | assumption | apply And.intro | intro _)
    all_goals (try simp only [e] at *)
    all_goals (first | omega | ((repeat' (first | omega | split)) <;> (try dsimp only) <;> (try (first | omega | contradiction | (subst_vars; first | rfl | omega) | (simp_all; done) | (simp_all; omega)))))

def charge_C (_ : (MS × Int × Int × Int)) : Cfg := { Γ := Go.Sx.look tMeter, names := true }
theorem charge_al (x : (MS × Int × Int × Int)) : Shown (chargeP.vc Try.prog (charge_C x) Try.f11 x) := ⟨@Eq.mp _ _ (by kernel_rfl) (charge_vc (x.1) (x.2.1) (x.2.2.1) (x.2.2.2))⟩
theorem charge_ok : SpOk Try.prog 11 chargeP.sp := @Pat.okS _ chargeP Try.prog charge_C 11 Try.f11 (fun x => cfg_tab rfl tMeter_ok) (by kernel_rfl) Try.func11 (fun _ => rfl) charge_al
def waitP : Pat (MS × Int × Int) where
  view | [.ptr r 0 [], .int .i64 c, .int .u64 y], H => some (viewM r H, c, y) | _, _ => none
  args x := [.ptr 0 0 [], .int .i64 x.2.1, .int .u64 x.2.2]
  H x := x.1.H
  out x := .need (x.1.Ok ∧ u64 x.2.2) (.any (fun r : Int × MS => r = x.1.wait x.2.1 x.2.2) fun r => .ret (.int .i64 r.1) r.2.H)
theorem wait_vc : ∀ (s : MS) (c y : Int), (s.Ok ∧ (0 : Int) ≤ y ∧ y < (18446744073709551616 : Int)) ∧ True → ∀ (v : Int), v = (0 : Int) → (((True ∧ True) ∧ c = c ∧ True) ∧ ((2 : Nat) ≤ (2 : Nat) ∧ (True ∧ True ∧ (0 : Nat) = (0 : Nat) ∧
  s.n = s.n ∧ s.n = s.n) ∧ s.st = s.st ∧ True) ∧ (s.n * (10 : Nat) ≤ s.n * (10 : Nat) ∧ s.n = s.n ∧ ∀ (j : Nat), j < s.n → s.clk j = s.clk j ∧ ((9 : Nat) = (9 : Nat) ∧ ∀ (j_1 : Nat), j_1 < (9 : Nat) → s.by_ j j_1 = s.by_ j
  j_1) ∧ True) ∧ True) ∧ ((!decide ((0 : Int) ≤ c ∧ c < (↑s.n : Int))) = true → ∀ (v : Int), v = (11 : Int) → s.Ok ∧ (0 : Int) ≤ y ∧ y < (18446744073709551616 : Int) → ∃ (x : Int × MS), x = s.wait c y ∧ v = x.fst ∧ True ∧
  ((2 : Nat) ≤ (2 : Nat) ∧ (True ∧ True ∧ (0 : Nat) = (0 : Nat) ∧ s.n = x.snd.n ∧ s.n = x.snd.n) ∧ s.st = x.snd.st ∧ True) ∧ (x.snd.n * (10 : Nat) ≤ s.n * (10 : Nat) ∧ x.snd.n = s.n ∧ ∀ (j : Nat), j < s.n → s.clk j =
  x.snd.clk j ∧ ((9 : Nat) = (9 : Nat) ∧ ∀ (j_1 : Nat), j_1 < (9 : Nat) → s.by_ j j_1 = x.snd.by_ j j_1) ∧ True) ∧ True) ∧ ((!decide ((0 : Int) ≤ c ∧ c < (↑s.n : Int))) = false → (s.st = true → ∀ (v : Int), v = (22 : Int)
  → s.Ok ∧ (0 : Int) ≤ y ∧ y < (18446744073709551616 : Int) → ∃ (x : Int × MS), x = s.wait c y ∧ v = x.fst ∧ True ∧ ((2 : Nat) ≤ (2 : Nat) ∧ (True ∧ True ∧ (0 : Nat) = (0 : Nat) ∧ s.n = x.snd.n ∧ s.n = x.snd.n) ∧ s.st =
  x.snd.st ∧ True) ∧ (x.snd.n * (10 : Nat) ≤ s.n * (10 : Nat) ∧ x.snd.n = s.n ∧ ∀ (j : Nat), j < s.n → s.clk j = x.snd.clk j ∧ ((9 : Nat) = (9 : Nat) ∧ ∀ (j_1 : Nat), j_1 < (9 : Nat) → s.by_ j j_1 = x.snd.by_ j j_1) ∧
  True) ∧ True) ∧ (s.st = false → ((0 : Int) ≤ c ∧ c < (↑s.n : Int)) ∧ (0 : Nat) + c.toNat < s.n ∧ (decide (y ≤ s.clk ((0 : Nat) + c.toNat)) = true → ∀ (v : Int), v = (0 : Int) → s.Ok ∧ (0 : Int) ≤ y ∧ y <
  (18446744073709551616 : Int) → ∃ (x : Int × MS), x = s.wait c y ∧ v = x.fst ∧ True ∧ ((2 : Nat) ≤ (2 : Nat) ∧ (True ∧ True ∧ (0 : Nat) = (0 : Nat) ∧ s.n = x.snd.n ∧ s.n = x.snd.n) ∧ s.st = x.snd.st ∧ True) ∧ (x.snd.n *
  (10 : Nat) ≤ s.n * (10 : Nat) ∧ x.snd.n = s.n ∧ ∀ (j : Nat), j < s.n → s.clk j = x.snd.clk j ∧ ((9 : Nat) = (9 : Nat) ∧ ∀ (j_1 : Nat), j_1 < (9 : Nat) → s.by_ j j_1 = x.snd.by_ j j_1) ∧ True) ∧ True) ∧ (decide (y ≤ s.clk
  ((0 : Nat) + c.toNat)) = false → ((0 : Int) ≤ c ∧ c < (↑s.n : Int)) ∧ (0 : Nat) + c.toNat < s.n ∧ (((True ∧ True) ∧ c = (↑c.toNat : Int) ∧ (0 : Int) = (↑(Int.toNat (0 : Int)) : Int) ∧ IntKind.u64.wrap (y - s.clk ((0 :
  Nat) + c.toNat)) = IntKind.u64.wrap (y - s.clk ((0 : Nat) + c.toNat)) ∧ True) ∧ ((2 : Nat) ≤ (2 : Nat) ∧ (True ∧ True ∧ (0 : Nat) = (0 : Nat) ∧ s.n = s.n ∧ s.n = s.n) ∧ s.st = s.st ∧ True) ∧ (s.n * (10 : Nat) ≤ s.n * (10
  : Nat) ∧ s.n = s.n ∧ ∀ (j : Nat), j < s.n → s.clk j = s.clk j ∧ ((9 : Nat) = (9 : Nat) ∧ ∀ (j_1 : Nat), j_1 < (9 : Nat) → s.by_ j j_1 = s.by_ j j_1) ∧ True) ∧ True) ∧ (s.Ok ∧ c.toNat < s.n ∧ Int.toNat (0 : Int) < (9 :
  Nat) ∧ (0 : Int) ≤ IntKind.u64.wrap (y - s.clk ((0 : Nat) + c.toNat))) ∧ ∀ (v : Int), (v = bif (s.on c.toNat (Int.toNat (0 : Int)) (IntKind.u64.wrap (y - s.clk ((0 : Nat) + c.toNat)))).st then (22 : Int) else (0 : Int))
  → s.Ok ∧ (0 : Int) ≤ y ∧ y < (18446744073709551616 : Int) → ∃ (x : Int × MS), x = s.wait c y ∧ v = x.fst ∧ True ∧ ((2 : Nat) ≤ (2 : Nat) ∧ (True ∧ True ∧ (0 : Nat) = (0 : Nat) ∧ (s.on c.toNat (Int.toNat (0 : Int))
  (IntKind.u64.wrap (y - s.clk ((0 : Nat) + c.toNat)))).n = x.snd.n ∧ (s.on c.toNat (Int.toNat (0 : Int)) (IntKind.u64.wrap (y - s.clk ((0 : Nat) + c.toNat)))).n = x.snd.n) ∧ (s.on c.toNat (Int.toNat (0 : Int))
  (IntKind.u64.wrap (y - s.clk ((0 : Nat) + c.toNat)))).st = x.snd.st ∧ True) ∧ (x.snd.n * (10 : Nat) ≤ s.n * (10 : Nat) ∧ x.snd.n = (s.on c.toNat (Int.toNat (0 : Int)) (IntKind.u64.wrap (y - s.clk ((0 : Nat) +
  c.toNat)))).n ∧ ∀ (j : Nat), j < (s.on c.toNat (Int.toNat (0 : Int)) (IntKind.u64.wrap (y - s.clk ((0 : Nat) + c.toNat)))).n → (s.on c.toNat (Int.toNat (0 : Int)) (IntKind.u64.wrap (y - s.clk ((0 : Nat) + c.toNat)))).clk
  j = x.snd.clk j ∧ ((9 : Nat) = (9 : Nat) ∧ ∀ (j_1 : Nat), j_1 < (9 : Nat) → (s.on c.toNat (Int.toNat (0 : Int)) (IntKind.u64.wrap (y - s.clk ((0 : Nat) + c.toNat)))).by_ j j_1 = x.snd.by_ j j_1) ∧ True) ∧ True))) := by
  simp only [true_and, and_true, eq_self, Nat.le_refl, decide_eq_true_eq, decide_eq_false_iff_not, implies_true, and_self, Int.not_le, Nat.zero_add, IntKind.wrap_u64, exists_eq_left, Bool.not_eq_true', Bool.not_eq_false']
  rintro s c y ⟨hok, hy, hy'⟩
  by_cases hth : 0 ≤ c ∧ c < s.n
  · obtain ⟨⟨h1, h2⟩, -⟩ := hok c.toNat (by omega)
    cases hst : s.st with
    | true =>
      have e : s.wait c y = (22, s) := by unfold MS.wait; rw [if_neg (by omega), if_pos hst]
      try dsimp only
      repeat' (with_reducible first | assumption | apply And.intro | intro _)
      all_goals (try simp only [e] at *)
      all_goals (first | omega | ((repeat' (first | omega | split)) <;> (try dsimp only) <;> (try (first | omega | contradiction | (subst_vars; first | rfl | omega) | (simp_all; done) | (simp_all; omega)))))
    | false =>
      by_cases hle : y ≤ s.clk c.toNat
      · have e : s.wait c y = (0, s) := by unfold MS.wait; rw [if_neg (by omega), if_neg (by simp [hst]), if_pos hle]
        try dsimp only
        repeat' (with_reducible first | assumption | apply And.intro | intro _)
        all_goals (try simp only [e] at *)
        all_goals (first | omega | ((repeat' (first | omega | split)) <;> (try dsimp only) <;> (try (first | omega | contradiction | (subst_vars; first | rfl | omega) | (simp_all; done) | (simp_all; omega)))))
      · have e : s.wait c y = (if (s.on c.toNat 0 (y - s.clk c.toNat)).st then 22 else 0, s.on c.toNat 0 (y - s.clk c.toNat)) := by unfold MS.wait; rw [if_neg (by omega), if_neg (by simp [hst]), if_neg hle]
        rw [e]
        have e2 : (y - s.clk c.toNat) % 18446744073709551616 = y - s.clk c.toNat := by omega
        rw [e2]
        try dsimp only
        repeat' (with_reducible first | assumption | apply And.intro | intro _)
        all_goals (try simp only [MS.on, upI, cond_dec] at *)
        all_goals (first | omega | ((repeat' (first | omega | split)) <;> (try dsimp only) <;> (try (first | omega | contradiction | (subst_vars; first | rfl | omega) | (simp_all; done) | (simp_all; omega)))))
  · have e : s.wait c y = (11, s) := by unfold MS.wait; rw [if_pos hth]
    try dsimp only
    repeat' (with_reducible first | assumption | apply And.intro | intro _)
    all_goals (try simp only [e] at *)
    all_goals (first | omega | ((repeat' (first | omega | split)) <;> (try dsimp only) <;> (try (first | omega | contradiction | (subst_vars; first | rfl | omega) | (simp_all; done) | (simp_all; omega)))))

def wait_C (_ : (MS × Int × Int)) : Cfg := { Γ := Go.Sx.look tMeter, names := true }
theorem wait_al (x : (MS × Int × Int)) : Shown (waitP.vc Try.prog (wait_C x) Try.f9 x) := ⟨@Eq.mp _ _ (by kernel_rfl) (wait_vc (x.1) (x.2.1) (x.2.2))⟩
theorem wait_ok : SpOk Try.prog 9 waitP.sp := @Pat.okS _ waitP Try.prog wait_C 9 Try.f9 (fun x => cfg_tab rfl tMeter_ok) (by kernel_rfl) Try.func9 (fun _ => rfl) wait_al
