import Derived.Test.YtijpjhelgggmfaaC1
open Go Go.Sx Go.Proofs
set_option maxRecDepth 100000
namespace Go.Proofs.Ytijpjhelgggmfaa

def ps (f : Nat → Int) : Nat → Int
  | 0 => 0
  | n + 1 => ps f n + f n
def pp (f : Nat → Int) : Nat → Int
  | 0 => 1
  | n + 1 => pp f n * f n
theorem ps_congr {f g : Nat → Int} : ∀ {n : Nat}, (∀ j, j < n → f j = g j) → ps f n = ps g n
  | 0, _ => rfl
  | n + 1, h => by
    simp only [ps]
    rw [ps_congr fun j hj => h j (by omega), h n (by omega)]
theorem pp_congr {f g : Nat → Int} : ∀ {n : Nat}, (∀ j, j < n → f j = g j) → pp f n = pp g n
  | 0, _ => rfl
  | n + 1, h => by
    simp only [pp]
    rw [pp_congr fun j hj => h j (by omega), h n (by omega)]
theorem ps_add (f : Nat → Int) (a : Nat) : ∀ b, ps f (a + b) = ps f a + ps (fun j => f (a + j)) b
  | 0 => by simp [ps]
  | b + 1 => by
    rw [← Nat.add_assoc]
    simp only [ps]
    rw [ps_add f a b]; omega
theorem pp_add (f : Nat → Int) (a : Nat) : ∀ b, pp f (a + b) = pp f a * pp (fun j => f (a + j)) b
  | 0 => by simp [pp]
  | b + 1 => by
    rw [← Nat.add_assoc]
    simp only [pp]
    rw [pp_add f a b, Int.mul_assoc]
theorem ps_mul (f : Nat → Int) (c : Int) : ∀ n, ps (fun j => f j * c) n = ps f n * c
  | 0 => by simp [ps]
  | n + 1 => by simp only [ps]; rw [ps_mul f c n, Int.add_mul]
theorem ps_le {f g : Nat → Int} : ∀ {n : Nat}, (∀ j, j < n → f j ≤ g j) → ps f n ≤ ps g n
  | 0, _ => Int.le_refl _
  | n + 1, h => by
    have h1 := ps_le (f := f) (g := g) (n := n) fun j hj => h j (by omega)
    have h2 := h n (by omega)
    simp only [ps]; omega
theorem LL.dem_ps (l : LL) (t : Int) : ∀ m, l.dem t m = ps (fun j => (t + l.sl j) / l.t j * l.q j) m
  | 0 => rfl
  | m + 1 => by simp only [LL.dem, ps]; rw [l.dem_ps t m]
theorem LL.use_ps (l : LL) (w : Int) : ∀ m, l.use w m = ps (fun j => w / l.t j * l.q j) m
  | 0 => rfl
  | m + 1 => by simp only [LL.use, ps]; rw [l.use_ps w m]
theorem LL.slk_ps (l : LL) (w : Int) : ∀ m, l.slk w m = ps (fun j => w / l.t j * l.q j * l.sl j) m
  | 0 => rfl
  | m + 1 => by simp only [LL.slk, ps]; rw [l.slk_ps w m]
theorem LL.prod_pp (l : LL) : ∀ m, l.prod m = pp l.t m
  | 0 => rfl
  | m + 1 => by simp only [LL.prod, pp]; rw [l.prod_pp m]
/-- One element struck. -/
def cut (f : Nat → Int) (a : Nat) : Nat → Int := fun j => if j < a then f j else f (j + 1)
theorem ps_cut (f : Nat → Int) {a n : Nat} (h : a < n) : ps f n = ps (cut f a) (n - 1) + f a := by
  obtain ⟨d, rfl⟩ := Nat.exists_eq_add_of_le (show a + 1 ≤ n by omega)
  rw [show a + 1 + d - 1 = a + d by omega, ps_add f (a + 1) d, ps_add (cut f a) a d]
  have e1 : ps (cut f a) a = ps f a := ps_congr fun j hj => if_pos hj
  have e2 : ps (fun j => cut f a (a + j)) d = ps (fun j => f (a + 1 + j)) d := ps_congr fun j _ => by
    show (if a + j < a then _ else _) = _
    rw [if_neg (by omega), show a + j + 1 = a + 1 + j by omega]
  rw [e1, e2]
  simp only [ps]
  omega
theorem pp_cut (f : Nat → Int) {a n : Nat} (h : a < n) : pp f n = pp (cut f a) (n - 1) * f a := by
  obtain ⟨d, rfl⟩ := Nat.exists_eq_add_of_le (show a + 1 ≤ n by omega)
  rw [show a + 1 + d - 1 = a + d by omega, pp_add f (a + 1) d, pp_add (cut f a) a d]
  have e1 : pp (cut f a) a = pp f a := pp_congr fun j hj => if_pos hj
  have e2 : pp (fun j => cut f a (a + j)) d = pp (fun j => f (a + 1 + j)) d := pp_congr fun j _ => by
    show (if a + j < a then _ else _) = _
    rw [if_neg (by omega), show a + j + 1 = a + 1 + j by omega]
  rw [e1, e2]
  simp only [pp]
  rw [Int.mul_right_comm]
/-- Turned round. -/
def rot (f : Nat → Int) (n a : Nat) : Nat → Int := fun j => if j < n - a then f (a + j) else f (j - (n - a))
theorem ps_rot (f : Nat → Int) {a n : Nat} (h : a ≤ n) : ps (rot f n a) n = ps f n := by
  obtain ⟨d, rfl⟩ := Nat.exists_eq_add_of_le h
  rw [ps_add f a d, show ps (rot f (a + d) a) (a + d) = ps (rot f (a + d) a) (d + a) by rw [Nat.add_comm], ps_add _ d a]
  have e1 : ps (rot f (a + d) a) d = ps (fun j => f (a + j)) d := ps_congr fun j hj => if_pos (by omega)
  have e2 : ps (fun j => rot f (a + d) a (d + j)) a = ps f a := ps_congr fun j _ => by
    show (if d + j < a + d - a then _ else _) = _
    rw [if_neg (by omega), show d + j - (a + d - a) = j by omega]
  rw [e1, e2]; omega
theorem pp_rot (f : Nat → Int) {a n : Nat} (h : a ≤ n) : pp (rot f n a) n = pp f n := by
  obtain ⟨d, rfl⟩ := Nat.exists_eq_add_of_le h
  rw [pp_add f a d, show pp (rot f (a + d) a) (a + d) = pp (rot f (a + d) a) (d + a) by rw [Nat.add_comm], pp_add _ d a]
  have e1 : pp (rot f (a + d) a) d = pp (fun j => f (a + j)) d := pp_congr fun j hj => if_pos (by omega)
  have e2 : pp (fun j => rot f (a + d) a (d + j)) a = pp f a := pp_congr fun j _ => by
    show (if d + j < a + d - a then _ else _) = _
    rw [if_neg (by omega), show d + j - (a + d - a) = j by omega]
  rw [e1, e2, Int.mul_comm]
def LL.less (l : LL) (a : Nat) : LL := ⟨l.n - 1, cut l.k a, cut l.q a, cut l.t a⟩
def LL.turn (l : LL) (a : Nat) : LL := ⟨l.n, rot l.k l.n a, rot l.q l.n a, rot l.t l.n a⟩
def LL.small (l : LL) (a : Nat) : LL := ⟨l.n, l.k, fun j => if j = a then l.q j - 1 else l.q j, l.t⟩
theorem LL.less_sl (l : LL) (a j : Nat) : (l.less a).sl j = cut l.sl a j := by
  unfold LL.sl LL.less cut
  dsimp only
  split <;> rfl
theorem LL.turn_sl (l : LL) (a j : Nat) : (l.turn a).sl j = rot l.sl l.n a j := by
  unfold LL.sl LL.turn rot
  dsimp only
  split <;> rfl
theorem LL.Ok.less {l : LL} (h : l.Ok) {a : Nat} (ha : a < l.n) : (l.less a).Ok := by
  have hr := h.r
  have hra := hr.2 a ha
  unfold rightE at hra
  have hr' : (l.less a).right := by
    refine ⟨by show l.n - 1 ≤ 8; have := hr.1; omega, fun j hj => ?_⟩
    have hj : j < l.n - 1 := hj
    show rightE (cut l.k a j) (cut l.q a j) (cut l.t a j)
    unfold cut
    split
    · exact hr.2 j (by omega)
    · exact hr.2 (j + 1) (by omega)
  obtain ⟨b1, b2, b3⟩ := LL.US_bd hr
  obtain ⟨c1, c2, c3⟩ := LL.US_bd hr'
  have eW : l.W = (l.less a).W * l.t a := by
    unfold LL.W
    rw [l.prod_pp, (l.less a).prod_pp]
    exact pp_cut l.t ha
  have hdv : ∀ j, j < l.n - 1 → cut l.t a j ∣ (l.less a).W := fun j hj => (l.less a).dvd (l.n - 1) j hj
  have hWa : l.W / l.t a = (l.less a).W := by rw [eW]; exact Int.mul_ediv_cancel _ (by omega)
  have hU : l.U = (l.less a).U * l.t a + (l.less a).W * l.q a := by
    unfold LL.U
    rw [l.use_ps, (l.less a).use_ps, ps_cut _ ha, hWa]
    congr 1
    rw [← ps_mul]
    refine ps_congr fun j hj => ?_
    have hd := hdv j hj
    show cut (fun j => l.W / l.t j * l.q j) a j = (l.less a).W / cut l.t a j * cut l.q a j * l.t a
    rw [eW]
    unfold cut at hd ⊢
    split
    · rename_i h; rw [if_pos h] at hd; dsimp only; rw [Int.mul_ediv_assoc' _ hd, Int.mul_right_comm]
    · rename_i h; rw [if_neg h] at hd; dsimp only; rw [Int.mul_ediv_assoc' _ hd, Int.mul_right_comm]
  have hS : l.S = (l.less a).S * l.t a + (l.less a).W * l.q a * l.sl a := by
    unfold LL.S
    rw [l.slk_ps, (l.less a).slk_ps, ps_cut _ ha, hWa]
    congr 1
    rw [← ps_mul]
    refine ps_congr fun j hj => ?_
    have hd := hdv j hj
    rw [l.less_sl]
    show cut (fun j => l.W / l.t j * l.q j * l.sl j) a j = (l.less a).W / cut l.t a j * cut l.q a j * cut l.sl a j * l.t a
    rw [eW]
    unfold cut at hd ⊢
    split
    · rename_i h; rw [if_pos h] at hd; dsimp only; rw [Int.mul_ediv_assoc' _ hd, Int.mul_right_comm _ (l.t a) (l.q j), Int.mul_right_comm _ (l.t a) (l.sl j)]
    · rename_i h; rw [if_neg h] at hd; dsimp only; rw [Int.mul_ediv_assoc' _ hd, Int.mul_right_comm _ (l.t a) (l.q (j + 1)), Int.mul_right_comm _ (l.t a) (l.sl (j + 1))]
  have hs0 : 0 ≤ l.sl a := by unfold LL.sl; split <;> omega
  have p1 : 0 ≤ (l.less a).W * l.q a := Int.mul_nonneg (by omega) (by omega)
  refine h.mono hr' ?_ ?_ fun t ht => ?_
  · rw [hU]
    have e : (l.less a).U * l.W = (l.less a).U * l.t a * (l.less a).W := by rw [eW, Int.mul_comm (l.less a).W, Int.mul_assoc]
    rw [e]
    exact Int.mul_le_mul_of_nonneg_right (by omega) (by omega)
  · rw [hS]
    have e : (l.less a).S * l.W = (l.less a).S * l.t a * (l.less a).W := by rw [eW, Int.mul_comm (l.less a).W, Int.mul_assoc]
    rw [e]
    have p2 := Int.mul_nonneg p1 hs0
    exact Int.mul_le_mul_of_nonneg_right (by omega) (by omega)
  · rw [l.dem_ps, (l.less a).dem_ps, ps_cut _ ha]
    have e : ps (fun j => (t + (l.less a).sl j) / (l.less a).t j * (l.less a).q j) (l.less a).n = ps (cut (fun j => (t + l.sl j) / l.t j * l.q j) a) (l.n - 1) := ps_congr fun j _ => by
      rw [l.less_sl]
      show (t + cut l.sl a j) / cut l.t a j * cut l.q a j = _
      unfold cut
      split <;> rfl
    rw [e]
    have : 0 ≤ (t + l.sl a) / l.t a * l.q a := Int.mul_nonneg (Int.ediv_nonneg (by omega) (by omega)) (by omega)
    omega
theorem LL.Ok.turn {l : LL} (h : l.Ok) {a : Nat} (ha : a ≤ l.n) : (l.turn a).Ok := by
  have hr := h.r
  have hr' : (l.turn a).right := by
    refine ⟨hr.1, fun j hj => ?_⟩
    have hj : j < l.n := hj
    show rightE (rot l.k l.n a j) (rot l.q l.n a j) (rot l.t l.n a j)
    unfold rot
    split
    · exact hr.2 _ (by omega)
    · exact hr.2 _ (by omega)
  have eW : (l.turn a).W = l.W := by
    unfold LL.W
    rw [l.prod_pp, (l.turn a).prod_pp]
    exact pp_rot l.t ha
  have hU : (l.turn a).U = l.U := by
    unfold LL.U
    rw [l.use_ps, (l.turn a).use_ps, eW, ← ps_rot (fun j => l.W / l.t j * l.q j) ha]
    refine ps_congr fun j _ => ?_
    show l.W / rot l.t l.n a j * rot l.q l.n a j = _
    unfold rot
    split <;> rfl
  have hS : (l.turn a).S = l.S := by
    unfold LL.S
    rw [l.slk_ps, (l.turn a).slk_ps, eW, ← ps_rot (fun j => l.W / l.t j * l.q j * l.sl j) ha]
    refine ps_congr fun j _ => ?_
    rw [l.turn_sl]
    show l.W / rot l.t l.n a j * rot l.q l.n a j * rot l.sl l.n a j = _
    unfold rot
    split <;> rfl
  refine h.mono hr' (by rw [hU, eW]; exact Int.le_refl _) (by rw [hS, eW]; exact Int.le_refl _) fun t ht => ?_
  rw [l.dem_ps, (l.turn a).dem_ps, ← ps_rot (fun j => (t + l.sl j) / l.t j * l.q j) ha]
  refine Int.le_of_eq (ps_congr fun j _ => ?_)
  rw [l.turn_sl]
  show (t + rot l.sl l.n a j) / rot l.t l.n a j * rot l.q l.n a j = _
  unfold rot
  split <;> rfl
theorem LL.Ok.small {l : LL} (h : l.Ok) {a : Nat} (ha : a < l.n) (hk : l.k a = 1) (hq : 2 ≤ l.q a) : (l.small a).Ok := by
  have hr := h.r
  have hr' : (l.small a).right := by
    refine ⟨hr.1, fun j hj => ?_⟩
    have h1 := hr.2 j hj
    show rightE (l.k j) (if j = a then l.q j - 1 else l.q j) (l.t j)
    unfold rightE at *
    split
    · rename_i e; subst e; omega
    · exact h1
  have hsl : ∀ j, (l.small a).sl j = l.sl j := fun j => by
    unfold LL.sl LL.small
    dsimp only
    by_cases e : j = a
    · subst e; rw [if_pos hk, if_pos hk]
    · rw [if_neg e]
  have hW : (l.small a).W = l.W := by unfold LL.W; rw [l.prod_pp, (l.small a).prod_pp]; rfl
  obtain ⟨b1, b2, b3⟩ := LL.US_bd hr
  have hqle : ∀ j, (l.small a).q j ≤ l.q j := fun j => by
    show (if j = a then l.q j - 1 else l.q j) ≤ _
    split <;> omega
  have ht0 : ∀ j, j < l.n → 1 ≤ l.t j := fun j hj => by have := hr.2 j hj; unfold rightE at this; omega
  have hs0 : ∀ j, j < l.n → 0 ≤ l.sl j := fun j hj => by have := hr.2 j hj; unfold rightE at this; unfold LL.sl; split <;> omega
  refine h.mono hr' ?_ ?_ fun t ht => ?_
  · rw [hW]
    refine Int.mul_le_mul_of_nonneg_right ?_ (by omega)
    unfold LL.U
    rw [l.use_ps, (l.small a).use_ps, hW]
    exact ps_le fun j hj => Int.mul_le_mul_of_nonneg_left (hqle j) (Int.ediv_nonneg (by omega) (by have := ht0 j hj; show 0 ≤ l.t j; omega))
  · rw [hW]
    refine Int.mul_le_mul_of_nonneg_right ?_ (by omega)
    unfold LL.S
    rw [l.slk_ps, (l.small a).slk_ps, hW]
    refine ps_le fun j hj => ?_
    rw [hsl]
    exact Int.mul_le_mul_of_nonneg_right (Int.mul_le_mul_of_nonneg_left (hqle j) (Int.ediv_nonneg (by omega) (by have := ht0 j hj; show 0 ≤ l.t j; omega))) (hs0 j hj)
  · rw [l.dem_ps, (l.small a).dem_ps]
    refine ps_le fun j hj => ?_
    rw [hsl]
    exact Int.mul_le_mul_of_nonneg_left (hqle j) (Int.ediv_nonneg (by have := hs0 j hj; omega) (by have := ht0 j hj; show 0 ≤ l.t j; omega))
end Go.Proofs.Ytijpjhelgggmfaa
