import Derived.Test.YtokiakcmdbihhaaS3
open Go Go.Sx Go.Proofs
set_option maxRecDepth 100000
namespace Go.Proofs.Ytokiakcmdbihhaa

def frT (q t b : Int) : T := .cons (.int .u64 q) (.cons (.int .u64 t) (.cons (.int .u64 b) .nil))
def cutI (t : Int) : Int := if t < 4611686018427387904 then t else 4611686018427387904
def atI (b now : Int) : Int := cutI (if now < b then b else now)
def cutP : Pat Int where
  view | [.int .u64 t], _ => some t | _, _ => none
  args x := [.int .u64 x]
  H _ := []
  out x := .retq (.int .u64 (cutI x))
theorem cut_vc : ∀ (t : Int), True → ∀ (v : Int), v = (0 : Int) → ∀ (v : Int), (v = if (4611686018427387904 : Int) < t then (4611686018427387904 : Int) else t) → v = cutI t ∧ True ∧ True := by
  simp only [and_true, true_implies, and_self]
  intro t _ _ v hv
  unfold cutI
  try dsimp only
  repeat' (with_reducible first | assumption | apply And.intro | intro _)
  all_goals (try simp only [cond_dec, decide_eq_decide] at *)
  all_goals (first | omega | ((repeat' (first | omega | split)) <;> (try dsimp only) <;> (try (first | omega | contradiction | (subst_vars; first | rfl | omega) | (simp_all; done) | (simp_all; omega)))))

def cut_C (_ : Int) : Cfg := { Γ := Go.Sx.look [], names := true }
theorem cut_al (x : Int) : Shown (cutP.vc Try.prog (cut_C x) Try.f22 x) := ⟨@Eq.mp _ _ (by kernel_rfl) (cut_vc x)⟩
theorem cut_ok : SpOk Try.prog 22 cutP.sp := @Pat.okS _ cutP Try.prog cut_C 22 Try.f22 (fun x => cfg_nil rfl) (by kernel_rfl) Try.func22 (fun _ => rfl) cut_al
def tCut : Tab := [(22, cutP.sp)]
theorem tCut_ok : TabOk Try.prog tCut := (tab_cons cut_ok tab_nil)

def atP : Pat (Int × Int × Int × Int) where
  view | [.cons (.int .u64 q) (.cons (.int .u64 t) (.cons (.int .u64 b) .nil)), .int .u64 n], _ => some (q, t, b, n) | _, _ => none
  args x := [frT x.1 x.2.1 x.2.2.1, .int .u64 x.2.2.2]
  H _ := []
  out x := .retq (.int .u64 (atI x.2.2.1 x.2.2.2))
theorem at__vc : ∀ (_ _ b n : Int), True → ∀ (v : Int), v = (0 : Int) → ((((if n < b then b else n) = if n < b then b else n) ∧ True) ∧ True) ∧ ∀ (v : Int), v = cutI (if n < b then b else n) → v = atI b n ∧ True ∧ True := by
  simp only [true_and, and_true, eq_self, true_implies, and_self]
  intro q t b n _ _ v hv
  unfold atI
  try dsimp only
  repeat' (with_reducible first | assumption | apply And.intro | intro _)
  all_goals (try simp only [cond_dec, decide_eq_decide] at *)
  all_goals (first | omega | ((repeat' (first | omega | split)) <;> (try dsimp only) <;> (try (first | omega | contradiction | (subst_vars; first | rfl | omega) | (simp_all; done) | (simp_all; omega)))))

def at__C (_ : (Int × Int × Int × Int)) : Cfg := { Γ := Go.Sx.look tCut, names := true }
theorem at__al (x : (Int × Int × Int × Int)) : Shown (atP.vc Try.prog (at__C x) Try.f21 x) := ⟨@Eq.mp _ _ (by kernel_rfl) (at__vc (x.1) (x.2.1) (x.2.2.1) (x.2.2.2))⟩
theorem at__ok : SpOk Try.prog 21 atP.sp := @Pat.okS _ atP Try.prog at__C 21 Try.f21 (fun x => cfg_tab rfl tCut_ok) (by kernel_rfl) Try.func21 (fun _ => rfl) at__al
/-! ## chunks -/
def totL : Chs → Int
  | [] => 0
  | (_, b) :: l => b + totL l
def posL (l : Chs) : Prop := ∀ p ∈ l, 1 ≤ p.2
/-- They rise. -/
def riseL : Chs → Prop
  | [] => True
  | (a, _) :: l => (∀ p ∈ l, a < p.1) ∧ riseL l
def wakeN (now : Int) : Chs → Nat
  | [] => 0
  | (a, _) :: l => if a ≤ now then wakeN now l + 1 else 0
def sumN : Nat → Chs → Int
  | 0, _ => 0
  | _ + 1, [] => 0
  | n + 1, (_, b) :: l => b + sumN n l
def wakeL (now : Int) (l : Chs) : Chs := if wakeN now l = 0 then l else (now, sumN (wakeN now l) l) :: l.drop (wakeN now l)
def insL (t m : Int) : Chs → Chs
  | [] => [(t, m)]
  | (a, b) :: l => if a < t then (a, b) :: insL t m l else if a = t then (a, b + m) :: l else (t, m) :: (a, b) :: l
def fstD (p : Option (Int × Int)) : Int := (p.getD (0, 0)).1
def sndD (p : Option (Int × Int)) : Int := (p.getD (0, 0)).2
def merge2 (l : Chs) : Chs := l.take (l.length - 2) ++ [(fstD l[l.length - 1]?, sndD l[l.length - 2]? + sndD l[l.length - 1]?)]
def trimL (l : Chs) : Chs := if 8 < l.length then merge2 l else l
def layL (t m : Int) (l : Chs) : Chs := trimL (insL t m l)
def takeL (t : Int) : Int → Chs → Chs × Chs
  | _, [] => ([], [])
  | left, (a, b) :: l => if left ≤ 0 then ([], (a, b) :: l) else if left < b then ([(cutI (a + t), left)], (a, b - left) :: l) else ((cutI (a + t), b) :: (takeL t (left - b) l).1, (takeL t (left - b) l).2)
def laysL : Chs → Chs → Chs
  | [], l => l
  | (a, b) :: k, l => laysL k (layL a b l)
def dueL (t : Int) (l : Chs) : Int := cutI (fstD l[0]? + t)
def chargeL (q t now c : Int) (l : Chs) : Chs :=
  let l1 := if dueL t l ≤ now then wakeL now l else l
  let r := takeL t (if q < c then q else c) l1
  laysL r.1 r.2
def lbN (t : Int) : Chs → Nat
  | [] => 0
  | (a, _) :: l => if a < t then lbN t l + 1 else 0
theorem wakeN_le (now : Int) : ∀ l : Chs, wakeN now l ≤ l.length
  | [] => Nat.le_refl _
  | (a, b) :: l => by
    have := wakeN_le now l
    simp only [wakeN, List.length_cons]; split <;> omega
theorem wakeN_low {now : Int} : ∀ {l : Chs} (k : Nat), k ≤ wakeN now l → ∀ a b, l[k]? = some (a, b) → a ≤ now → k + 1 ≤ wakeN now l
  | [], k, _, a, b, h, _ => by simp at h
  | (a', b') :: l, 0, _, a, b, h, ha => by
    simp only [List.getElem?_cons_zero, Option.some.injEq, Prod.mk.injEq] at h
    simp only [wakeN, h.1, if_pos ha]; omega
  | (a', b') :: l, k + 1, hk, a, b, h, ha => by
    simp only [wakeN] at hk ⊢
    split at hk
    · rename_i h1
      rw [if_pos h1]
      have := wakeN_low (l := l) k (by omega) a b (by simpa using h) ha
      omega
    · omega
theorem wakeN_high {now : Int} : ∀ {l : Chs} (k : Nat), k ≤ wakeN now l → (∀ a b, l[k]? = some (a, b) → now < a) → wakeN now l = k
  | [], k, h, _ => by simp only [wakeN] at h ⊢; omega
  | (a', b') :: l, 0, _, h => by
    have := h a' b' rfl
    simp only [wakeN]; rw [if_neg (by omega)]
  | (a', b') :: l, k + 1, hk, h => by
    simp only [wakeN] at hk ⊢
    split at hk
    · rename_i h1
      rw [if_pos h1, wakeN_high (l := l) k (by omega) (fun a b e => h a b (by simpa using e))]
    · omega
theorem sumN_succ : ∀ {l : Chs} {k : Nat} {a b : Int}, l[k]? = some (a, b) → sumN (k + 1) l = sumN k l + b
  | [], k, a, b, h => by simp at h
  | (a', b') :: l, 0, a, b, h => by
    simp only [List.getElem?_cons_zero, Option.some.injEq, Prod.mk.injEq] at h
    simp only [sumN, h.2]; omega
  | (a', b') :: l, k + 1, a, b, h => by
    have := sumN_succ (l := l) (k := k) (a := a) (b := b) (by simpa using h)
    simp only [sumN] at this ⊢; omega
theorem sumN_bd : ∀ {l : Chs}, posL l → ∀ k, 0 ≤ sumN k l ∧ sumN k l ≤ totL l
  | [], _, k => by cases k <;> simp [sumN, totL]
  | (a, b) :: l, h, 0 => by
    have h1 := (sumN_bd (l := l) (fun p hp => h p (List.mem_cons_of_mem _ hp)) 0).2
    have h2 := h (a, b) List.mem_cons_self
    simp only [sumN, totL] at h1 h2 ⊢; omega
  | (a, b) :: l, h, k + 1 => by
    have h1 := sumN_bd (l := l) (fun p hp => h p (List.mem_cons_of_mem _ hp)) k
    have h2 := h (a, b) List.mem_cons_self
    simp only [sumN, totL] at h1 h2 ⊢; omega
theorem sumN_drop : ∀ (k : Nat) (l : Chs), sumN k l + totL (l.drop k) = totL l
  | 0, l => by simp [sumN]
  | k + 1, [] => by simp [sumN, totL]
  | k + 1, (a, b) :: l => by
    have := sumN_drop k l
    simp only [sumN, List.drop_succ_cons, totL] at this ⊢; omega
theorem rise_lt : ∀ {l : Chs}, riseL l → ∀ (i j : Nat) (p r : Int × Int), i < j → l[i]? = some p → l[j]? = some r → p.1 < r.1
  | [], _, i, j, p, r, _, h, _ => by simp at h
  | (a, b) :: l, h, 0, j + 1, p, r, _, hp, hr => by
    simp only [List.getElem?_cons_zero, Option.some.injEq] at hp
    rw [← hp]
    exact h.1 r (List.mem_of_getElem? (by simpa using hr))
  | (a, b) :: l, h, i + 1, j + 1, p, r, hij, hp, hr => rise_lt h.2 i j p r (by omega) (by simpa using hp) (by simpa using hr)
  | _, _, i, 0, _, _, h, _, _ => by omega
theorem lbN_low {t : Int} : ∀ {l : Chs} (j : Nat) (p : Int × Int), j < lbN t l → l[j]? = some p → p.1 < t
  | [], j, p, h, _ => by simp [lbN] at h
  | (a, b) :: l, 0, p, h, hp => by
    simp only [List.getElem?_cons_zero, Option.some.injEq] at hp
    simp only [lbN] at h
    split at h
    · rw [← hp]; assumption
    · omega
  | (a, b) :: l, j + 1, p, h, hp => by
    simp only [lbN] at h
    split at h
    · exact lbN_low (l := l) j p (by omega) (by simpa using hp)
    · omega
theorem lbN_at {t : Int} : ∀ {l : Chs} (p : Int × Int), l[lbN t l]? = some p → t ≤ p.1
  | [], p, h => by simp [lbN] at h
  | (a, b) :: l, p, h => by
    simp only [lbN] at h
    split at h
    · exact lbN_at (l := l) p (by simpa using h)
    · simp only [List.getElem?_cons_zero, Option.some.injEq] at h
      rw [← h]; dsimp only; omega
theorem lbN_le (t : Int) : ∀ l : Chs, lbN t l ≤ l.length
  | [] => Nat.le_refl _
  | (a, b) :: l => by
    have := lbN_le t l
    simp only [lbN, List.length_cons]; split <;> omega
theorem insL_there {t m : Int} : ∀ {l : Chs} {b : Int}, l[lbN t l]? = some (t, b) → insL t m l = l.set (lbN t l) (t, b + m)
  | [], b, h => by simp [lbN] at h
  | (a, b') :: l, b, h => by
    simp only [lbN, insL] at h ⊢
    split at h
    · rename_i h1
      rw [if_pos h1, if_pos h1, List.set_cons_succ, insL_there (by simpa using h)]
    · rename_i h1
      simp only [List.getElem?_cons_zero, Option.some.injEq, Prod.mk.injEq] at h
      rw [if_neg h1, if_pos h.1, if_neg h1, List.set_cons_zero, h.1, h.2]
theorem insL_not {t m : Int} : ∀ {l : Chs}, (∀ b, l[lbN t l]? ≠ some (t, b)) → insL t m l = l.take (lbN t l) ++ (t, m) :: l.drop (lbN t l)
  | [], _ => rfl
  | (a, b) :: l, h => by
    simp only [lbN, insL] at h ⊢
    split at h
    · rename_i h1
      rw [if_pos h1, if_pos h1, List.take_succ_cons, List.drop_succ_cons, List.cons_append, insL_not (fun b => by simpa using h b)]
    · rename_i h1
      have h2 : a ≠ t := fun e => h b (by simp [e])
      rw [if_neg h1, if_neg h2, if_neg h1]
      rfl
theorem insL_len {t m : Int} : ∀ l : Chs, l.length ≤ (insL t m l).length ∧ (insL t m l).length ≤ l.length + 1 ∧ 1 ≤ (insL t m l).length
  | [] => by simp [insL]
  | (a, b) :: l => by
    have := insL_len (t := t) (m := m) l
    simp only [insL, List.length_cons]
    split
    · simp only [List.length_cons]; omega
    · split <;> simp only [List.length_cons] <;> omega
theorem insL_mem {t m : Int} : ∀ {l : Chs} {p : Int × Int}, p ∈ insL t m l → (p.1 = t ∨ ∃ r ∈ l, r.1 = p.1)
  | [], p, h => by simp [insL] at h; exact .inl (by rw [h])
  | (a, b) :: l, p, h => by
    simp only [insL] at h
    split at h
    · rcases List.mem_cons.1 h with rfl | h
      · exact .inr ⟨_, List.mem_cons_self, rfl⟩
      · rcases insL_mem h with h | ⟨r, hr, e⟩
        · exact .inl h
        · exact .inr ⟨r, List.mem_cons_of_mem _ hr, e⟩
    · split at h
      · rcases List.mem_cons.1 h with rfl | h
        · exact .inr ⟨_, List.mem_cons_self, rfl⟩
        · exact .inr ⟨p, List.mem_cons_of_mem _ h, rfl⟩
      · rcases List.mem_cons.1 h with rfl | h
        · exact .inl rfl
        · exact .inr ⟨p, h, rfl⟩
theorem insL_rise {t m : Int} : ∀ {l : Chs}, riseL l → riseL (insL t m l)
  | [], _ => ⟨fun p hp => by simp at hp, trivial⟩
  | (a, b) :: l, h => by
    simp only [insL]
    split
    · rename_i h1
      refine ⟨fun p hp => ?_, insL_rise h.2⟩
      rcases insL_mem hp with e | ⟨r, hr, e⟩
      · omega
      · have := h.1 r hr; omega
    · rename_i h1
      split
      · exact ⟨h.1, h.2⟩
      · rename_i h2
        refine ⟨fun p hp => ?_, h⟩
        rcases List.mem_cons.1 hp with rfl | hp
        · dsimp only; omega
        · have := h.1 p hp; omega
theorem insL_pos {t m : Int} (hm : 1 ≤ m) : ∀ {l : Chs}, posL l → posL (insL t m l)
  | [], _ => fun p hp => by simp [insL] at hp; rw [hp]; exact hm
  | (a, b) :: l, h => by
    have hb := h (a, b) List.mem_cons_self
    have hl : posL l := fun p hp => h p (List.mem_cons_of_mem _ hp)
    simp only [insL]
    split
    · intro p hp
      rcases List.mem_cons.1 hp with rfl | hp
      · exact hb
      · exact insL_pos hm hl p hp
    · split
      · intro p hp
        rcases List.mem_cons.1 hp with rfl | hp
        · dsimp only at hb ⊢; omega
        · exact hl p hp
      · intro p hp
        rcases List.mem_cons.1 hp with rfl | hp
        · exact hm
        · exact h p hp
theorem insL_tot {t m : Int} : ∀ l : Chs, totL (insL t m l) = totL l + m
  | [] => by simp [insL, totL]
  | (a, b) :: l => by
    have := insL_tot (t := t) (m := m) l
    simp only [insL]
    split
    · simp only [totL, this]; omega
    · split <;> simp only [totL] <;> omega
theorem tot_app : ∀ (k l : Chs), totL (k ++ l) = totL k + totL l
  | [], l => by simp [totL]
  | (a, b) :: k, l => by
    have := tot_app k l
    simp only [List.cons_append, totL, this]; omega
theorem split2 {l : Chs} (h : 2 ≤ l.length) : ∃ p x y, l = p ++ [x, y] := by
  refine ⟨l.take (l.length - 2), l[l.length - 2], l[l.length - 1], ?_⟩
  apply List.ext_getElem?
  intro j
  by_cases h1 : j < l.length - 2
  · rw [List.getElem?_append_left (by simp; omega), List.getElem?_take_of_lt h1]
  · rw [List.getElem?_append_right (by simp; omega)]
    have e : (l.take (l.length - 2)).length = l.length - 2 := by simp
    rw [e]
    by_cases h2 : j = l.length - 2
    · subst h2; rw [Nat.sub_self]; simp
    · by_cases h3 : j = l.length - 1
      · subst h3; rw [show l.length - 1 - (l.length - 2) = 1 by omega]; simp
      · rw [List.getElem?_eq_none (by omega), List.getElem?_eq_none (by simp; omega)]
theorem merge2_app (p : Chs) (x y : Int × Int) : merge2 (p ++ [x, y]) = p ++ [(y.1, x.2 + y.2)] := by
  unfold merge2 fstD sndD
  have e : (p ++ [x, y]).length = p.length + 2 := by simp
  rw [e, show p.length + 2 - 2 = p.length by omega, show p.length + 2 - 1 = p.length + 1 by omega]
  rw [List.getElem?_append_right (by omega), List.getElem?_append_right (by omega), Nat.sub_self, show p.length + 1 - p.length = 1 by omega]
  simp
theorem rise_app : ∀ {p l : Chs}, riseL (p ++ l) ↔ riseL p ∧ riseL l ∧ ∀ a ∈ p, ∀ b ∈ l, a.1 < b.1
  | [], l => by simp [riseL]
  | (a, b) :: p, l => by
    simp only [List.cons_append, riseL, rise_app (p := p) (l := l)]
    constructor
    · rintro ⟨h1, h2, h3, h4⟩
      refine ⟨⟨fun q hq => h1 q (List.mem_append_left _ hq), h2⟩, h3, fun q hq r hr => ?_⟩
      rcases List.mem_cons.1 hq with rfl | hq
      · exact h1 r (List.mem_append_right _ hr)
      · exact h4 q hq r hr
    · rintro ⟨⟨h1, h2⟩, h3, h4⟩
      refine ⟨fun q hq => ?_, h2, h3, fun q hq r hr => h4 q (List.mem_cons_of_mem _ hq) r hr⟩
      rcases List.mem_append.1 hq with hq | hq
      · exact h1 q hq
      · exact h4 _ List.mem_cons_self q hq
/-- What a server's chunks are. -/
structure InL (l : Chs) : Prop where
  rise : riseL l
  pos : posL l
theorem trim_In {l : Chs} (h : InL l) : InL (trimL l) ∧ totL (trimL l) = totL l ∧ (l.length ≤ 9 → (trimL l).length ≤ 8) ∧ (1 ≤ l.length → 1 ≤ (trimL l).length) := by
  unfold trimL
  split
  · obtain ⟨p, x, y, rfl⟩ := split2 (l := l) (by omega)
    obtain ⟨r1, r2, r3⟩ := rise_app.1 h.rise
    rw [merge2_app]
    have hx := h.pos x (by simp)
    have hy := h.pos y (by simp)
    refine ⟨⟨rise_app.2 ⟨r1, ⟨fun q hq => by simp at hq, trivial⟩, fun a ha b hb => ?_⟩, fun q hq => ?_⟩, ?_, ?_, ?_⟩
    · simp only [List.mem_singleton] at hb
      rw [hb]
      exact r3 a ha y (by simp)
    · rcases List.mem_append.1 hq with hq | hq
      · exact h.pos q (by simp [hq])
      · simp only [List.mem_singleton] at hq
        rw [hq]; dsimp only; omega
    · rw [tot_app, tot_app]
      simp only [totL]; omega
    · simp
    · simp
  · refine ⟨h, rfl, fun _ => by omega, id⟩
theorem lay_In {t m : Int} {l : Chs} (h : InL l) (hm : 1 ≤ m) : InL (layL t m l) ∧ totL (layL t m l) = totL l + m ∧ (l.length ≤ 8 → (layL t m l).length ≤ 8) ∧ 1 ≤ (layL t m l).length := by
  obtain ⟨h1, h2, h3, h4⟩ := trim_In (l := insL t m l) ⟨insL_rise h.rise, insL_pos hm h.pos⟩
  have := insL_len (t := t) (m := m) l
  unfold layL
  exact ⟨h1, by rw [h2, insL_tot], fun h => h3 (by omega), h4 (by omega)⟩
theorem lays_In : ∀ {k l : Chs}, InL l → posL k → l.length ≤ 8 → InL (laysL k l) ∧ totL (laysL k l) = totL l + totL k ∧ (laysL k l).length ≤ 8 ∧ (1 ≤ k.length ∨ 1 ≤ l.length → 1 ≤ (laysL k l).length)
  | [], l, h, _, hl => ⟨h, by simp [laysL, totL], hl, fun h => by rcases h with h | h; simp at h; exact h⟩
  | (a, b) :: k, l, h, hk, hl => by
    obtain ⟨h1, h2, h3, h4⟩ := lay_In (t := a) h (hk (a, b) List.mem_cons_self)
    obtain ⟨g1, g2, g3, g4⟩ := lays_In (k := k) h1 (fun p hp => hk p (List.mem_cons_of_mem _ hp)) (h3 hl)
    simp only [laysL, totL]
    exact ⟨g1, by rw [g2, h2]; dsimp only; omega, g3, fun _ => g4 (.inr h4)⟩
theorem drop_In {l : Chs} (h : InL l) (k : Nat) : InL (l.drop k) := by
  refine ⟨?_, fun p hp => h.pos p (List.mem_of_mem_drop hp)⟩
  have := h.rise
  rw [← List.take_append_drop k l] at this
  exact (rise_app.1 this).2.1
theorem wake_In {now : Int} {l : Chs} (h : InL l) : InL (wakeL now l) ∧ totL (wakeL now l) = totL l ∧ (wakeL now l).length ≤ max l.length 1 ∧ (1 ≤ l.length → 1 ≤ (wakeL now l).length) := by
  unfold wakeL
  split
  · exact ⟨h, rfl, by omega, id⟩
  · rename_i hk
    have hle := wakeN_le now l
    have hd := drop_In h (wakeN now l)
    refine ⟨⟨⟨fun p hp => ?_, hd.rise⟩, fun p hp => ?_⟩, ?_, ?_, ?_⟩
    · obtain ⟨j, hj⟩ := List.mem_iff_getElem?.1 hp
      rw [List.getElem?_drop] at hj
      rcases Int.lt_or_le now p.1 with h1 | h1
      · exact h1
      · exfalso
        have hs := h.rise
        by_cases h0 : j = 0
        · subst h0
          have := wakeN_low (now := now) (l := l) (wakeN now l) (Nat.le_refl _) p.1 p.2 (by simpa using hj) h1
          omega
        · have hlt : wakeN now l < l.length := by have := (List.getElem?_eq_some_iff.1 hj).1; omega
          have h3 := rise_lt hs (wakeN now l) (wakeN now l + j) _ p (by omega) (List.getElem?_eq_getElem hlt) hj
          have := wakeN_low (now := now) (l := l) (wakeN now l) (Nat.le_refl _) _ _ (by rw [List.getElem?_eq_getElem hlt]) (by omega)
          omega
    · rcases List.mem_cons.1 hp with rfl | hp
      · obtain ⟨p, hp⟩ : ∃ p, l[0]? = some p := ⟨l[0], List.getElem?_eq_getElem (by omega)⟩
        have h1 := sumN_succ (l := l) (k := 0) (a := p.1) (b := p.2) hp
        have h2 := h.pos p (List.mem_of_getElem? hp)
        have h3 : ∀ k, sumN 1 l ≤ sumN (k + 1) l := by
          intro k
          cases l with
          | nil => simp at hp
          | cons x l =>
            have := (sumN_bd (l := l) (fun p hp => h.pos p (List.mem_cons_of_mem _ hp)) k).1
            obtain ⟨a, b⟩ := x
            simp only [sumN]; omega
        have h4 := h3 (wakeN now l - 1)
        rw [show wakeN now l - 1 + 1 = wakeN now l by omega] at h4
        simp only [sumN, Nat.zero_add] at h1
        dsimp only; omega
      · exact hd.pos p hp
    · simp only [totL]
      exact sumN_drop _ _
    · simp only [List.length_cons, List.length_drop]; omega
    · intro _; simp
theorem take_In {t : Int} : ∀ {l : Chs} {left : Int}, InL l → 0 ≤ left → left ≤ totL l → posL (takeL t left l).1 ∧ totL (takeL t left l).1 = left ∧ InL (takeL t left l).2 ∧ totL (takeL t left l).2 = totL l - left ∧ (takeL t left l).2.length ≤ l.length ∧ (∀ p ∈ (takeL t left l).2, ∃ r ∈ l, r.1 = p.1)
  | [], left, h, h0, h1 => by
    simp only [totL] at h1
    have : left = 0 := by omega
    subst this
    exact ⟨fun p hp => by simp [takeL] at hp, rfl, h, by simp [takeL, totL], Nat.le_refl _, fun p hp => by simp [takeL] at hp⟩
  | (a, b) :: l, left, h, h0, h1 => by
    have hb : 1 ≤ b := h.pos (a, b) List.mem_cons_self
    have hl : InL l := ⟨h.rise.2, fun p hp => h.pos p (List.mem_cons_of_mem _ hp)⟩
    simp only [totL] at h1
    simp only [takeL]
    split
    · have : left = 0 := by omega
      subst this
      exact ⟨fun p hp => by simp at hp, rfl, h, by simp only [totL]; omega, Nat.le_refl _, fun p hp => ⟨p, hp, rfl⟩⟩
    · split
      · refine ⟨fun p hp => ?_, by simp only [totL]; omega, ⟨⟨h.rise.1, hl.rise⟩, fun p hp => ?_⟩, by simp only [totL]; omega, by simp, fun p hp => ?_⟩
        · simp only [List.mem_singleton] at hp
          rw [hp]; dsimp only; omega
        · rcases List.mem_cons.1 hp with rfl | hp
          · dsimp only; omega
          · exact hl.pos p hp
        · rcases List.mem_cons.1 hp with rfl | hp
          · exact ⟨(a, b), List.mem_cons_self, rfl⟩
          · exact ⟨p, List.mem_cons_of_mem _ hp, rfl⟩
      · obtain ⟨g1, g2, g3, g4, g5, g6⟩ := take_In (t := t) (left := left - b) hl (by omega) (by omega)
        refine ⟨fun p hp => ?_, by simp only [totL, g2]; omega, g3, by rw [g4]; simp only [totL]; omega, by simp only [List.length_cons]; omega, fun p hp => ?_⟩
        · rcases List.mem_cons.1 hp with rfl | hp
          · exact hb
          · exact g1 p hp
        · obtain ⟨r, hr, e⟩ := g6 p hp
          exact ⟨r, List.mem_cons_of_mem _ hr, e⟩
theorem CR.rise {x : CR} (h : riseL x.L) : riseF x.at_ x.len := by
  intro i j hij hj
  have h1 := x.L_get i
  have h2 := x.L_get j
  rw [if_pos (by omega)] at h1
  rw [if_pos hj] at h2
  exact rise_lt h i j _ _ hij h1 h2
theorem CR.lb {x : CR} (h : riseL x.L) (t : Int) : lbF x.at_ t x.len = lbN t x.L := by
  have hl := lbN_le t x.L
  rw [CR.L_len] at hl
  refine lbF_of (CR.rise h) hl (fun j hj => ?_) fun j h1 h2 => ?_
  · have h1 := x.L_get j
    rw [if_pos (by omega)] at h1
    exact lbN_low j _ hj h1
  · have h3 := x.L_get (lbN t x.L)
    rw [if_pos (by omega)] at h3
    have h4 := lbN_at _ h3
    by_cases e : j = lbN t x.L
    · subst e; exact h4
    · have h5 := x.L_get j
      rw [if_pos h2] at h5
      have := rise_lt h (lbN t x.L) j _ _ (by omega) h3 h5
      show t ≤ x.a (x.lo + j)
      dsimp only at this h4
      omega

end Go.Proofs.Ytokiakcmdbihhaa
