import Derived.Test.YtjofnajamlmllaaDoorSxMem
import Derived.Test.YtjofnajamlmllaaDoorSxGlob
namespace Go.Sx

/-! ## The heap -/
def Reg.has (g : Reg) (i : Nat) : Prop :=
  match g.pl with
  | true => i = 0
  | false => i < g.fam
def atL (c : Nat → T) (i : Nat) : List (Nat × T) → T
  | [] => c i
  | (i0, t) :: l => if i = i0 then t else atL c i l
def Reg.at (g : Reg) (i : Nat) : T :=
  match g.pl with
  | true => g.c i
  | false => atL g.c i g.log

abbrev wc (w : World) (b : Nat) : Cells := fun k => w.cell? ⟨b, k, none⟩

theorem wc_of_heap' {w w' : World} {b : Nat} (h : w'.heap[b]? = w.heap[b]?) : wc w' b = wc w b := by
  funext k
  simp only [wc, World.cell?, h]

structure HOk (ρ : Rho) (H : List Reg) (w : World) : Prop where
  holds : ∀ r g i, getReg H r = some g → g.has i → Good H.length (g.at i) ∧ Holds ρ (wc w (ρ r i).1) (g.at i) (ρ r i).2
  own : ∀ r g i, getReg H r = some g → g.has i → g.own = true → (ρ r i).2 = 0 ∧ ∃ arr, w.heap[(ρ r i).1]? = some (.cells arr g.el (0, 0)) ∧ g.tot i ≤ arr.size
  lt : ∀ r g i, getReg H r = some g → g.has i → (ρ r i).1 < w.heap.size
  apart : ∀ r g i r' g' i', getReg H r = some g → g.has i → g.own = true → getReg H r' = some g' → g'.has i' → (ρ r i).1 = (ρ r' i').1 → r = r' ∧ i = i'

structure Ctx where
  ρ : Rho
  H : List Reg
  w : World

/-- A block that is the call's own: it is new, or one of the caller's owned ones. -/
def Ctx.mine (c : Ctx) (b : Nat) : Prop :=
  c.w.heap.size ≤ b ∨ ∃ r0 g0 i0, getReg c.H r0 = some g0 ∧ g0.own = true ∧ g0.has i0 ∧ (c.ρ r0 i0).1 = b

structure WRel (c : Ctx) (ρ : Rho) (H : List Reg) (w : World) : Prop where
  hok : HOk ρ H w
  len : c.H.length ≤ H.length
  agree : ∀ r, r < c.H.length → ρ r = c.ρ r
  old : ∀ r g, r < c.H.length → getReg H r = some g → ∃ g0, getReg c.H r = some g0 ∧ (g.own = true → g0.own = true) ∧ ∀ i, g.has i → g0.has i
  new : ∀ r g i, c.H.length ≤ r → getReg H r = some g → g.has i → c.mine (ρ r i).1
  os : w.os = c.w.os
  tape : w.tape = c.w.tape
  out : w.output = c.w.output
  size : c.w.heap.size ≤ w.heap.size
  shape : ∀ b, b < c.w.heap.size → w.shape? b = c.w.shape? b
  frame : ∀ b, b < c.w.heap.size → (∀ r g i, getReg c.H r = some g → g.own = true → g.has i → (c.ρ r i).1 ≠ b) → w.heap[b]? = c.w.heap[b]?

def GoodS (n : Nat) : T → Prop
  | .raw _ => True
  | .tup ts => Good n ts
  | t => Good n t

def SlOk (ρ : Rho) (n : Nat) : T → Value → Prop
  | .top, _ => True
  | t, v => val ρ t = v ∧ GoodS n t

structure SlotsOk (ρ : Rho) (n : Nat) (sl : Sl) (tmps : Array Value) : Prop where
  len : sl.n = tmps.size
  at_ : ∀ k, SlOk ρ n (sl.get k) (tmps.getD k undef)

theorem good_S {n : Nat} {t : T} (h : Good n t) : GoodS n t := by
  cases t <;> first | exact h | exact h.elim

theorem SlOk.of_good {ρ : Rho} {n : Nat} {t : T} (h : Good n t) : SlOk ρ n t (val ρ t) := by
  cases t <;> first | exact h.elim | exact ⟨rfl, h⟩

theorem GoodS.mono {n m : Nat} (h : n ≤ m) {t : T} (g : GoodS n t) : GoodS m t := by
  cases t <;> first | exact trivial | exact Good.mono h g

theorem cvS_agree {ρ ρ' : Rho} {n : Nat} (h : ∀ r, r < n → ρ' r = ρ r) {t : T} (g : GoodS n t) : val ρ' t = val ρ t := by
  cases t with
  | raw v => rfl
  | tup ts =>
    have g' : Good n ts := g
    simp only [Sx.val, T.cv, cv_agree h g']
  | _ => exact congrArg CV.v (cv_agree h (t := _) g)

theorem SlOk.agree {ρ ρ' : Rho} {n n' : Nat} (h : ∀ r, r < n → ρ' r = ρ r) (hn : n ≤ n') {t : T} {v : Value} (q : SlOk ρ n t v) : SlOk ρ' n' t v := by
  cases t with
  | top => exact trivial
  | _ => exact ⟨(cvS_agree h q.2).trans q.1, GoodS.mono hn q.2⟩

theorem SlotsOk.agree {ρ ρ' : Rho} {n n' : Nat} (h : ∀ r, r < n → ρ' r = ρ r) (hn : n ≤ n') {sl : Sl} {tmps : Array Value} (q : SlotsOk ρ n sl tmps) : SlotsOk ρ' n' sl tmps :=
  ⟨q.len, fun k => (q.at_ k).agree h hn⟩

/-! ### lists -/
theorem getReg_eq (H : List Reg) (r : Nat) : getReg H r = H[r]? := by
  induction H generalizing r with
  | nil => rfl
  | cons g l ih => cases r with
    | zero => rfl
    | succ r => simp only [getReg, ih, List.getElem?_cons_succ]
theorem setReg_eq (H : List Reg) (r : Nat) (g : Reg) : setReg H r g = H.set r g := by
  induction H generalizing r with
  | nil => rfl
  | cons x l ih => cases r with
    | zero => rfl
    | succ r => simp only [setReg, ih, List.set_cons_succ]
theorem getSl_eq (l : List T) (k : Nat) : getSl l k = (l[k]?).getD .top := by
  induction l generalizing k with
  | nil => rfl
  | cons t l ih => cases k with
    | zero => rfl
    | succ k => simp only [getSl, ih, List.getElem?_cons_succ]
theorem setSl_eq (l : List T) (k : Nat) (t : T) : setSl l k t = l.set k t := by
  induction l generalizing k with
  | nil => rfl
  | cons x l ih => cases k with
    | zero => rfl
    | succ k => simp only [setSl, ih, List.set_cons_succ]

theorem getReg_lt {H : List Reg} {r : Nat} {g : Reg} (h : getReg H r = some g) : r < H.length := by
  rw [getReg_eq] at h
  exact (List.getElem?_eq_some_iff.1 h).1

theorem Tr.get_set {v : T} : ∀ (d k : Nat) (t : Tr) (j : Nat), (Tr.set v d k t).get d j = t.get d j ∨ (j = k ∧ (Tr.set v d k t).get d j = v)
  | 0, k, t, j => by
    cases k with
    | zero =>
      cases t with
      | two l r => exact .inl rfl
      | nil =>
        cases j with
        | zero => exact .inr ⟨rfl, rfl⟩
        | succ j => exact .inl rfl
      | leaf w =>
        cases j with
        | zero => exact .inr ⟨rfl, rfl⟩
        | succ j => exact .inl rfl
    | succ k => exact .inl rfl
  | d + 1, k, t, j => by
    have key : ∀ l r : Tr, (match Nat.ble (Nat.pow 2 d) k with
      | true => Tr.two l (Tr.set v d (Nat.sub k (Nat.pow 2 d)) r)
      | false => Tr.two (Tr.set v d k l) r).get (d + 1) j = (Tr.two l r).get (d + 1) j ∨ (j = k ∧ (match Nat.ble (Nat.pow 2 d) k with
      | true => Tr.two l (Tr.set v d (Nat.sub k (Nat.pow 2 d)) r)
      | false => Tr.two (Tr.set v d k l) r).get (d + 1) j = v) := by
      intro l r
      cases hk : Nat.ble (Nat.pow 2 d) k <;> cases hj : Nat.ble (Nat.pow 2 d) j <;> simp only [Tr.get, hj]
      · exact Tr.get_set d k l j
      · exact .inl trivial
      · exact .inl trivial
      · rcases Tr.get_set d (Nat.sub k (Nat.pow 2 d)) r (Nat.sub j (Nat.pow 2 d)) with h | ⟨h1, h2⟩
        · exact .inl h
        · have a1 := Nat.le_of_ble_eq_true hk
          have a2 := Nat.le_of_ble_eq_true hj
          refine .inr ⟨?_, h2⟩
          have h1 : j - Nat.pow 2 d = k - Nat.pow 2 d := h1
          omega
    cases t with
    | two l r => exact key l r
    | nil =>
      have e : (Tr.two .nil .nil).get (d + 1) j = Tr.nil.get (d + 1) j := by
        cases hj : Nat.ble (Nat.pow 2 d) j <;> simp only [Tr.get, hj]
      rw [← e]
      exact key .nil .nil
    | leaf w => exact .inl rfl

theorem Tr.get_self {v : T} : ∀ (d k : Nat) (t : Tr), (Tr.set v d k t).get d k = v ∨ (Tr.set v d k t).get d k = .top
  | 0, k, t => by
    cases k with
    | zero => cases t <;> first | exact .inl rfl | exact .inr rfl
    | succ k => cases t <;> exact .inr rfl
  | d + 1, k, t => by
    have key : ∀ l r : Tr, (match Nat.ble (Nat.pow 2 d) k with
      | true => Tr.two l (Tr.set v d (Nat.sub k (Nat.pow 2 d)) r)
      | false => Tr.two (Tr.set v d k l) r).get (d + 1) k = v ∨ (match Nat.ble (Nat.pow 2 d) k with
      | true => Tr.two l (Tr.set v d (Nat.sub k (Nat.pow 2 d)) r)
      | false => Tr.two (Tr.set v d k l) r).get (d + 1) k = .top := by
      intro l r
      cases hk : Nat.ble (Nat.pow 2 d) k <;> simp only [Tr.get, hk]
      · exact Tr.get_self d k l
      · exact Tr.get_self d _ r
    cases t with
    | two l r => exact key l r
    | nil => exact key .nil .nil
    | leaf w => exact .inr rfl

theorem Sl.get_ne (s : Sl) {k j : Nat} (v : T) (h : j ≠ k) : (s.set k v).get j = s.get j := by
  obtain ⟨n, d, t⟩ := s
  cases hb : Nat.ble n k
  · simp only [Sl.set, hb, Sl.get]
    rcases Tr.get_set d k t j with q | ⟨q1, q2⟩
    · exact q
    · exact absurd q1 h
  · simp only [Sl.set, hb]

theorem Sl.get_self (s : Sl) {k : Nat} (v : T) (h : k < s.n) : (s.set k v).get k = v ∨ (s.set k v).get k = .top := by
  obtain ⟨n, d, t⟩ := s
  have hb : Nat.ble n k = false := by
    cases hb : Nat.ble n k
    · rfl
    · have := Nat.le_of_ble_eq_true hb
      have h : k < n := h
      omega
  simp only [Sl.set, hb, Sl.get]
  exact Tr.get_self d k t

theorem Sl.set_ge (s : Sl) {k : Nat} (v : T) (h : s.n ≤ k) : s.set k v = s := by
  obtain ⟨n, d, t⟩ := s
  have hb : Nat.ble n k = true := Nat.ble_eq_true_of_le h
  simp only [Sl.set, hb]

theorem Sl.set_n (s : Sl) (k : Nat) (v : T) : (s.set k v).n = s.n := by
  obtain ⟨n, d, t⟩ := s
  cases h : Nat.ble n k <;> simp only [Sl.set, h]

theorem SlotsOk.set {ρ : Rho} {n : Nat} {sl : Sl} {xs : Array Value} (q : SlotsOk ρ n sl xs) {d : Nat} {t : T} {v : Value} (h : SlOk ρ n t v) : SlotsOk ρ n (sl.set d t) (xs.setIfInBounds d v) := by
  refine ⟨by simp [Sl.set_n, q.len], fun k => ?_⟩
  have hk := q.at_ k
  have hq := q.len
  by_cases hd : k = d
  · subst hd
    by_cases hl : k < sl.n
    · have hl' : k < xs.size := by omega
      rcases sl.get_self t hl with e | e
      · rw [e]
        simpa [hl'] using h
      · rw [e]
        exact trivial
    · rw [sl.set_ge t (by omega)]
      rw [Array.setIfInBounds_eq_of_size_le (by omega)]
      exact hk
  · have e : (xs.setIfInBounds d v).getD k undef = xs.getD k undef := by simp [Array.getElem?_setIfInBounds_ne (Ne.symm hd)]
    rw [e, sl.get_ne t hd]
    exact hk

theorem SlotsOk.put {ρ : Rho} {n : Nat} {sl : Sl} {a : Act} {d : Option Tmp} {t : T} {v : Value} (q : SlotsOk ρ n sl a.tmps) (h : SlOk ρ n t v) (s : S) (hs : s.sl = sl) (H : List Reg) :
    SlotsOk ρ n (s.put d t H).sl (a.put d v).tmps := by
  subst hs
  cases d with
  | none => exact q
  | some d => exact q.set h

theorem SlotsOk.skip {ρ : Rho} {n : Nat} {sl : Sl} {a : Act} {d : Option Tmp} {v : Value} (q : SlotsOk ρ n sl a.tmps) (s : S) (hs : s.sl = sl) (H : List Reg) :
    SlotsOk ρ n (s.put d .top H).sl (a.put d v).tmps := q.put (t := .top) trivial s hs H

/-- A slot whose Bool has become known. -/
theorem SlotsOk.known {ρ : Rho} {n : Nat} {sl : Sl} {tmps : Array Value} (q : SlotsOk ρ n sl tmps) {d : Nat} {t t' : T} (h : sl.get d = t) (h' : ∀ v, SlOk ρ n t v → SlOk ρ n t' v) :
    SlotsOk ρ n (sl.set d t') tmps := by
  refine ⟨by simp [Sl.set_n, q.len], fun k => ?_⟩
  have hk := q.at_ k
  by_cases hd : k = d
  · subst hd
    rw [h] at hk
    by_cases hl : k < sl.n
    · rcases sl.get_self t' hl with e | e
      · rw [e]
        exact h' _ hk
      · rw [e]
        exact trivial
    · rw [sl.set_ge t' (by omega), h]
      exact hk
  · rw [sl.get_ne t' hd]
    exact hk

/-- New slots, filled. -/
theorem slNew_ok {ρ : Rho} {n m : Nat} {xs : Array Value} (h : xs.size = m) : SlotsOk ρ n (slNew m) xs := ⟨h.symm, fun _ => trivial⟩
theorem slFill_ok {ρ : Rho} {n : Nat} {xs : Array Value} : ∀ {l : List T} {k : Nat} {s : Sl}, SlotsOk ρ n s xs → (∀ i (h : i < l.length), SlOk ρ n l[i] (xs.getD (k + i) undef)) → SlotsOk ρ n (slFill l k s) xs
  | [], k, s, h, _ => h
  | t :: l, k, s, h, g => by
    refine slFill_ok (l := l) (k := k + 1) ?_ (fun i hi => ?_)
    · have q := h.set (d := k) (g 0 (by simp))
      simp only [Nat.add_zero] at q
      have e : xs.setIfInBounds k (xs.getD k undef) = xs := by
        apply Array.ext (by simp)
        intro i h1 h2
        rw [Array.getElem_setIfInBounds]
        split
        · rename_i hi
          subst hi
          simp [h2]
        · rfl
      rw [e] at q
      exact q
    · have := g (i + 1) (by simp; omega)
      simp only [List.getElem_cons_succ] at this
      rw [show k + 1 + i = k + (i + 1) by omega]
      exact this

/-! ### reading -/
theorem regK_spec {K : T → Prop} {c : Nat → T} {i : Nat} : ∀ {l : List (Nat × T)}, regK K c i l → K (atL c i l)
  | [], h => h
  | (i0, t) :: l, h => by
    simp only [atL]
    by_cases e : i = i0
    · rw [if_pos e]; exact h.1 e
    · rw [if_neg e]; exact regK_spec (h.2 e)

theorem getPtr_spec {ρ : Rho} {H : List Reg} {w : World} {K : Reg → T → T → Prop} {r i : Nat} {p : List St} (hk : HOk ρ H w) (h : getPtr H K (.ptr r i p)) :
    ∃ g t, getReg H r = some g ∧ g.has i ∧ K g (g.at i) t ∧ Good H.length t ∧ off p + t.size ≤ (g.at i).size ∧ Holds ρ (wc w (ρ r i).1) t ((ρ r i).2 + off p) ∧ getK (K g (g.at i)) p (g.at i) := by
  simp only [getPtr] at h
  split at h
  · rename_i g hg
    cases hpl : g.pl with
    | true =>
      simp only [hpl] at h
      split at h
      · have hh : g.has 0 := by simp [Reg.has, hpl]
        obtain ⟨gd, hd⟩ := hk.holds r g 0 hg hh
        have e : g.at 0 = g.c 0 := by simp [Reg.at, hpl]
        rw [e] at gd hd
        obtain ⟨t, k, g1, l1, q1⟩ := getK_spec (ρ := ρ) (m := wc w (ρ r 0).1) (o := (ρ r 0).2) gd h
        exact ⟨g, t, hg, hh, by rw [e]; exact k, g1, by rw [e]; exact l1, q1 hd, by rw [e]; exact h⟩
      · exact h.elim
    | false =>
      simp only [hpl] at h
      have hh : g.has i := by simp only [Reg.has, hpl]; exact h.1
      have e : g.at i = atL g.c i g.log := by simp [Reg.at, hpl]
      have h1 := regK_spec h.2
      rw [← e] at h1
      obtain ⟨gd, hd⟩ := hk.holds r g i hg hh
      obtain ⟨t, k, g1, l1, q1⟩ := getK_spec (ρ := ρ) (m := wc w (ρ r i).1) (o := (ρ r i).2) gd h1
      exact ⟨g, t, hg, hh, k, g1, l1, q1 hd, h1⟩
  · exact h.elim

/-! ### a new block -/
def ext (ρ : Rho) (r : Nat) (b : Nat) : Rho := fun r' => if r' = r then fun _ => (b, 0) else ρ r'
theorem ext_old {ρ : Rho} {r b r' : Nat} (h : r' < r) : ext ρ r b r' = ρ r' := by simp [ext]; omega
theorem ext_new {ρ : Rho} {r b : Nat} : ext ρ r b r = fun _ => (b, 0) := by simp [ext]

theorem getReg_app {H : List Reg} {g g' : Reg} {r : Nat} (h : getReg (H ++ [g]) r = some g') : (r < H.length ∧ getReg H r = some g') ∨ (r = H.length ∧ g' = g) := by
  rw [getReg_eq] at h
  by_cases hr : r < H.length
  · rw [List.getElem?_append_left hr] at h
    exact .inl ⟨hr, by rw [getReg_eq]; exact h⟩
  · rw [List.getElem?_append_right (by omega)] at h
    have : r - H.length = 0 := by
      rcases Nat.eq_zero_or_pos (r - H.length) with h0 | h0
      · exact h0
      · rw [List.getElem?_eq_none (by simp; omega)] at h; cases h
    rw [this] at h
    simp at h
    exact .inr ⟨by omega, h.symm⟩

theorem wc_alloc {w : World} {o : Obj} {b : Nat} (h : b < w.heap.size) : wc (w.alloc o) b = wc w b := funext fun k => World.cell?_alloc_lt w o ⟨b, k, none⟩ h

theorem HOk.alloc {ρ : Rho} {H : List Reg} {w : World} (h : HOk ρ H w) {cs : Array Value} {el : TypeId} {g : Reg} (hpl : g.pl = true) (hown : g.own = true) (hel : g.el = el)
    (ht : g.tot 0 ≤ cs.size) (hg : Good H.length (g.c 0)) (hc : ∀ k, k < (g.c 0).size → cs[k]? = (cells ρ (g.c 0))[k]?) :
    HOk (ext ρ H.length w.heap.size) (H ++ [g]) (w.alloc (.cells cs el)) := by
  have hag : ∀ r, r < H.length → ext ρ H.length w.heap.size r = ρ r := fun r hr => ext_old hr
  have hz : (w.alloc (.cells cs el)).heap.size = w.heap.size + 1 := by simp
  have hat : g.at 0 = g.c 0 := by simp [Reg.at, hpl]
  refine ⟨fun r g' i e hi => ?_, fun r g' i e hi ho => ?_, fun r g' i e hi => ?_, fun r g1 i r' g2 i' e1 h1 ho e2 h2 hb => ?_⟩
  · rcases getReg_app e with ⟨hr, e'⟩ | ⟨rfl, rfl⟩
    · obtain ⟨gd, hd⟩ := h.holds r g' i e' hi
      have hlt := h.lt r g' i e' hi
      rw [hag r hr]
      refine ⟨gd.mono (by simp), ?_⟩
      rw [wc_alloc hlt]
      exact holds_agree hag gd hd
    · have : i = 0 := by simpa [Reg.has, hpl] using hi
      subst this
      rw [hat, ext_new]
      refine ⟨hg.mono (by simp), ?_⟩
      refine holds_agree hag hg (holds_of_cells hg fun k hk => ?_)
      rw [← hc k hk, Nat.zero_add]
      exact World.cell?_alloc_new w cs el k
  · rcases getReg_app e with ⟨hr, e'⟩ | ⟨rfl, rfl⟩
    · obtain ⟨h0, arr, ha, hl⟩ := h.own r g' i e' hi ho
      have hlt := h.lt r g' i e' hi
      rw [hag r hr]
      exact ⟨h0, arr, by rw [heap_alloc_old w _ hlt]; exact ha, hl⟩
    · have : i = 0 := by simpa [Reg.has, hpl] using hi
      subst this
      rw [ext_new]
      exact ⟨rfl, cs, by rw [heap_alloc_new, hel], ht⟩
  · rcases getReg_app e with ⟨hr, e'⟩ | ⟨rfl, rfl⟩
    · have hlt := h.lt r g' i e' hi
      rw [hag r hr, hz]; omega
    · rw [ext_new, hz]; exact Nat.lt_succ_self _
  · rcases getReg_app e1 with ⟨hr, e1'⟩ | ⟨rfl, rfl⟩ <;> rcases getReg_app e2 with ⟨hr', e2'⟩ | ⟨rfl, rfl⟩
    · rw [hag r hr, hag r' hr'] at hb
      exact h.apart r g1 i r' g2 i' e1' h1 ho e2' h2 hb
    · have hlt := h.lt r g1 i e1' h1
      rw [hag r hr, ext_new] at hb
      simp only at hb
      omega
    · have hlt := h.lt r' g2 i' e2' h2
      rw [hag r' hr', ext_new] at hb
      simp only at hb
      omega
    · have hi : i = 0 := by simpa [Reg.has, hpl] using h1
      have hi' : i' = 0 := by simpa [Reg.has, hpl] using h2
      exact ⟨rfl, by omega⟩

theorem WRel.alloc {c : Ctx} {ρ : Rho} {H : List Reg} {w : World} (h : WRel c ρ H w) {cs : Array Value} {el : TypeId} {g : Reg} (hpl : g.pl = true) (hown : g.own = true) (hel : g.el = el)
    (ht : g.tot 0 ≤ cs.size) (hg : Good H.length (g.c 0)) (hc : ∀ k, k < (g.c 0).size → cs[k]? = (cells ρ (g.c 0))[k]?) :
    WRel c (ext ρ H.length w.heap.size) (H ++ [g]) (w.alloc (.cells cs el)) := by
  have hl := h.len
  have hs := h.size
  refine ⟨h.hok.alloc hpl hown hel ht hg hc, by simp; omega, fun r hr => by rw [ext_old (by omega)]; exact h.agree r hr, fun r g' hr e => ?_, fun r g' i hr e hi => ?_,
    h.os, h.tape, h.out, by simp; omega, fun b hb => ?_, fun b hb hno => ?_⟩
  · rcases getReg_app e with ⟨hr', e'⟩ | ⟨rfl, rfl⟩
    · exact h.old r g' hr e'
    · omega
  · rcases getReg_app e with ⟨hr', e'⟩ | ⟨rfl, rfl⟩
    · rw [ext_old hr']; exact h.new r g' i hr e' hi
    · rw [ext_new]; exact .inl hs
  · have : (w.alloc (.cells cs el)).shape? b = w.shape? b := by simp only [World.shape?, heap_alloc_old w _ (show b < w.heap.size by omega)]
    rw [this]
    exact h.shape b hb
  · rw [heap_alloc_old w _ (by omega)]
    exact h.frame b hb hno

/-! ### a store -/
theorem getReg_set {H : List Reg} {r r' : Nat} {g g' : Reg} (h : getReg (setReg H r g) r' = some g') : (r' = r ∧ g' = g ∧ r < H.length) ∨ (r' ≠ r ∧ getReg H r' = some g') := by
  rw [getReg_eq, setReg_eq] at h
  by_cases e : r = r'
  · subst e
    have hl : r < H.length := by have := (List.getElem?_eq_some_iff.1 h).1; simpa using this
    simp [hl] at h
    exact .inl ⟨rfl, h.symm, hl⟩
  · rw [List.getElem?_set_ne e] at h
    exact .inr ⟨Ne.symm e, by rw [getReg_eq]; exact h⟩

theorem regSet_has {g : Reg} {i : Nat} {t : T} {i' : Nat} : (regSet g i t).has i' ↔ g.has i' := by
  unfold regSet Reg.has
  cases h : g.pl <;> simp
theorem regSet_own {g : Reg} {i : Nat} {t : T} : (regSet g i t).own = g.own := by unfold regSet; cases h : g.pl <;> rfl
theorem regSet_el {g : Reg} {i : Nat} {t : T} : (regSet g i t).el = g.el := by unfold regSet; cases h : g.pl <;> rfl
theorem regSet_tot {g : Reg} {i : Nat} {t : T} : (regSet g i t).tot = g.tot := by unfold regSet; cases h : g.pl <;> rfl
theorem regSet_at {g : Reg} {i : Nat} {t : T} {i' : Nat} (hi : g.has i) (hi' : g.has i') : (regSet g i t).at i' = if i' = i then t else g.at i' := by
  unfold regSet Reg.at
  cases h : g.pl with
  | true =>
    have h1 : i = 0 := by simpa [Reg.has, h] using hi
    have h2 : i' = 0 := by simpa [Reg.has, h] using hi'
    simp [h1, h2]
  | false => simp [atL]

/-- The cells of one owned block are others from 'lo' on. -/
theorem HOk.write {ρ : Rho} {H : List Reg} {w : World} (h : HOk ρ H w) {r i : Nat} {g : Reg} (hg : getReg H r = some g) (hi : g.has i) (ho : g.own = true) {t : T} {cs arr : Array Value}
    (ha : w.heap[(ρ r i).1]? = some (.cells arr g.el (0, 0))) (hz : cs.size = arr.size) (gt : Good H.length t) (ht : Holds ρ (fun k => cs[k]?) t 0) :
    HOk ρ (setReg H r (regSet g i t)) (w.setRow (ρ r i).1 cs) := by
  have hlen : (setReg H r (regSet g i t)).length = H.length := by simp [setReg_eq]
  have hcell : ∀ b, b ≠ (ρ r i).1 → wc (w.setRow (ρ r i).1 cs) b = wc w b := fun b hb => funext fun k => cell_setRow_other w _ cs ⟨b, k, none⟩ hb
  have hsame : wc (w.setRow (ρ r i).1 cs) (ρ r i).1 = fun k => cs[k]? := funext fun k => cell_setRow_same w _ k arr cs g.el (0, 0) ha
  refine ⟨fun r' g' i' e hi' => ?_, fun r' g' i' e hi' ho' => ?_, fun r' g' i' e hi' => ?_, fun r1 g1 i1 r2 g2 i2 e1 h1 o1 e2 h2 hb => ?_⟩
  · rw [hlen]
    rcases getReg_set e with ⟨rfl, rfl, _⟩ | ⟨hne, e'⟩
    · rw [regSet_has] at hi'
      rw [regSet_at hi hi']
      by_cases hii : i' = i
      · subst hii
        rw [if_pos rfl, hsame, (h.own _ _ _ hg hi ho).1]
        exact ⟨gt, ht⟩
      · rw [if_neg hii]
        have hb : (ρ r' i').1 ≠ (ρ r' i).1 := fun hb => hii (h.apart _ _ _ _ _ _ hg hi ho hg hi' hb.symm).2.symm
        rw [hcell _ hb]
        exact h.holds _ _ _ hg hi'
    · have hb : (ρ r' i').1 ≠ (ρ r i).1 := fun hb => hne (h.apart _ _ _ _ _ _ hg hi ho e' hi' hb.symm).1.symm
      rw [hcell _ hb]
      exact h.holds _ _ _ e' hi'
  · rcases getReg_set e with ⟨rfl, rfl, _⟩ | ⟨hne, e'⟩
    · rw [regSet_has] at hi'
      rw [regSet_el, regSet_tot]
      obtain ⟨h0, arr', ha', hl⟩ := h.own _ _ _ hg hi' ho
      by_cases hii : i' = i
      · subst hii
        refine ⟨h0, cs, setRow_heap w _ arr cs g.el (0, 0) ha, ?_⟩
        rw [ha] at ha'
        simp only [Option.some.injEq, Obj.cells.injEq] at ha'
        rw [hz, ha'.1]
        exact hl
      · have hb : (ρ r' i').1 ≠ (ρ r' i).1 := fun hb => hii (h.apart _ _ _ _ _ _ hg hi ho hg hi' hb.symm).2.symm
        exact ⟨h0, arr', by rw [setRow_other w _ _ cs hb]; exact ha', hl⟩
    · have hb : (ρ r' i').1 ≠ (ρ r i).1 := fun hb => hne (h.apart _ _ _ _ _ _ hg hi ho e' hi' hb.symm).1.symm
      obtain ⟨h0, arr', ha', hl⟩ := h.own _ _ _ e' hi' ho'
      exact ⟨h0, arr', by rw [setRow_other w _ _ cs hb]; exact ha', hl⟩
  · rw [setRow_size]
    rcases getReg_set e with ⟨rfl, rfl, _⟩ | ⟨hne, e'⟩
    · rw [regSet_has] at hi'
      exact h.lt _ _ _ hg hi'
    · exact h.lt _ _ _ e' hi'
  · have k1 : ∃ g, getReg H r1 = some g ∧ g.has i1 ∧ g.own = true := by
      rcases getReg_set e1 with ⟨rfl, rfl, _⟩ | ⟨hne, e'⟩
      · exact ⟨g, hg, regSet_has.1 h1, ho⟩
      · exact ⟨g1, e', h1, o1⟩
    have k2 : ∃ g, getReg H r2 = some g ∧ g.has i2 := by
      rcases getReg_set e2 with ⟨rfl, rfl, _⟩ | ⟨hne, e'⟩
      · exact ⟨g, hg, regSet_has.1 h2⟩
      · exact ⟨g2, e', h2⟩
    obtain ⟨a1, b1, c1, d1⟩ := k1
    obtain ⟨a2, b2, c2⟩ := k2
    exact h.apart _ _ _ _ _ _ b1 c1 d1 b2 c2 hb

theorem WRel.write {c : Ctx} {ρ : Rho} {H : List Reg} {w : World} (h : WRel c ρ H w) {r i : Nat} {g : Reg} (hg : getReg H r = some g) (hi : g.has i) (ho : g.own = true) {t : T} {cs arr : Array Value}
    (ha : w.heap[(ρ r i).1]? = some (.cells arr g.el (0, 0))) (hz : cs.size = arr.size) (gt : Good H.length t) (ht : Holds ρ (fun k => cs[k]?) t 0) :
    WRel c ρ (setReg H r (regSet g i t)) (w.setRow (ρ r i).1 cs) := by
  have hlen : (setReg H r (regSet g i t)).length = H.length := by simp [setReg_eq]
  refine ⟨h.hok.write hg hi ho ha hz gt ht, by rw [hlen]; exact h.len, h.agree, fun r' g' hr e => ?_, fun r' g' i' hr e hi' => ?_, h.os, h.tape, h.out, by rw [setRow_size]; exact h.size, fun b hb => ?_, fun b hb hno => ?_⟩
  · rcases getReg_set e with ⟨rfl, rfl, _⟩ | ⟨hne, e'⟩
    · obtain ⟨g0, k1, k2, k3⟩ := h.old _ _ hr hg
      exact ⟨g0, k1, by rw [regSet_own]; exact k2, fun i' hi' => k3 i' (regSet_has.1 hi')⟩
    · exact h.old _ _ hr e'
  · rcases getReg_set e with ⟨rfl, rfl, _⟩ | ⟨hne, e'⟩
    · exact h.new _ _ _ hr hg (regSet_has.1 hi')
    · exact h.new _ _ _ hr e' hi'
  · have : (w.setRow (ρ r i).1 cs).shape? b = w.shape? b := by
      by_cases e : b = (ρ r i).1
      · subst e
        simp only [World.shape?, setRow_heap w _ arr cs g.el (0, 0) ha, ha, hz]
      · simp only [World.shape?, setRow_other w _ _ cs e]
    rw [this]
    exact h.shape b hb
  · have hne : b ≠ (ρ r i).1 := by
      intro e
      by_cases hr : r < c.H.length
      · obtain ⟨g0, k1, k2, k3⟩ := h.old _ _ hr hg
        refine hno r g0 i k1 (k2 ho) (k3 i hi) ?_
        rw [← h.agree r hr]
        exact e.symm
      · rcases h.new r g i (by omega) hg hi with h1 | ⟨r0, g0, i0, a1, a2, a3, a4⟩
        · omega
        · exact hno r0 g0 i0 a1 a2 a3 (by rw [a4]; exact e.symm)
    rw [setRow_other w _ _ cs hne]
    exact h.frame b hb hno

/-- A draw from the tape. -/
theorem WRel.drawn {c : Ctx} {ρ : Rho} {H : List Reg} {w : World} (h : WRel c ρ H w) (n : Nat) : WRel c ρ H { w with drawn := n } :=
  ⟨⟨h.hok.holds, h.hok.own, h.hok.lt, h.hok.apart⟩, h.len, h.agree, h.old, h.new, h.os, h.tape, h.out, h.size, h.shape, h.frame⟩

theorem WRel.trans {c : Ctx} {ρ ρ' : Rho} {H H' : List Reg} {w w' : World} (h : WRel c ρ H w) (h' : WRel ⟨ρ, H, w⟩ ρ' H' w') : WRel c ρ' H' w' := by
  have hl := h.len
  have hl' : H.length ≤ H'.length := h'.len
  have hsz := h.size
  have hsz' : w.heap.size ≤ w'.heap.size := h'.size
  refine ⟨h'.hok, Nat.le_trans h.len h'.len, fun r hr => ?_, fun r g hr e => ?_, fun r g i hr e hi => ?_, h'.os.trans h.os, h'.tape.trans h.tape, h'.out.trans h.out, Nat.le_trans h.size h'.size, fun b hb => (h'.shape b (by show b < w.heap.size; omega)).trans (h.shape b hb), fun b hb hno => ?_⟩
  · have h1 : ρ' r = ρ r := h'.agree r (by show r < H.length; omega)
    rw [h1]
    exact h.agree r hr
  · obtain ⟨g0, a1, a2, a3⟩ := h'.old r g (by show r < H.length; omega) e
    obtain ⟨g1, b1, b2, b3⟩ := h.old r g0 hr a1
    exact ⟨g1, b1, fun q => b2 (a2 q), fun i q => b3 i (a3 i q)⟩
  · by_cases hr' : r < H.length
    · obtain ⟨g0, a1, a2, a3⟩ := h'.old r g hr' e
      have h1 : ρ' r = ρ r := h'.agree r hr'
      rw [h1]
      exact h.new r g0 i hr a1 (a3 i hi)
    · rcases h'.new r g i (by show H.length ≤ r; omega) e hi with h1 | ⟨r0, g0, i0, a1, a2, a3, a4⟩
      · exact .inl (Nat.le_trans hsz h1)
      · have a4 : (ρ r0 i0).1 = (ρ' r i).1 := a4
        rw [← a4]
        by_cases hr0 : r0 < c.H.length
        · obtain ⟨g1, b1, b2, b3⟩ := h.old r0 g0 hr0 a1
          exact .inr ⟨r0, g1, i0, b1, b2 a2, b3 i0 a3, by rw [h.agree r0 hr0]⟩
        · exact h.new r0 g0 i0 (by omega) a1 a3
  · have h1 : w'.heap[b]? = w.heap[b]? := h'.frame b (by show b < w.heap.size; omega) (fun r g i e ho hi hb' => by
      have hb' : (ρ r i).1 = b := hb'
      by_cases hr : r < c.H.length
      · obtain ⟨g0, a1, a2, a3⟩ := h.old r g hr e
        exact hno r g0 i a1 (a2 ho) (a3 i hi) (by rw [← h.agree r hr]; exact hb')
      · rcases h.new r g i (by omega) e hi with h2 | ⟨r0, g0, i0, a1, a2, a3, a4⟩
        · omega
        · exact hno r0 g0 i0 a1 a2 a3 (by rw [a4]; exact hb'))
    rw [h1]
    exact h.frame b hb hno

theorem WRel.refl {ρ : Rho} {H : List Reg} {w : World} (h : HOk ρ H w) : WRel ⟨ρ, H, w⟩ ρ H w :=
  ⟨h, Nat.le_refl _, fun _ _ => rfl, fun r g _ e => ⟨g, e, id, fun _ => id⟩, fun r g i hr e _ => by have := getReg_lt e; have hr : H.length ≤ r := hr; omega, rfl, rfl, rfl, Nat.le_refl _, fun _ _ => rfl, fun _ _ _ => rfl⟩

/-- Another valuation that agrees where there are regions. -/
theorem HOk.agree {ρ ρ' : Rho} {H : List Reg} {w : World} (h : HOk ρ H w) (e : ∀ r, r < H.length → ρ' r = ρ r) : HOk ρ' H w := by
  refine ⟨fun r g i hg hi => ?_, fun r g i hg hi ho => ?_, fun r g i hg hi => ?_, fun r g i r' g' i' h1 h2 h3 h4 h5 hb => ?_⟩
  · obtain ⟨a, b⟩ := h.holds r g i hg hi
    rw [e r (getReg_lt hg)]
    exact ⟨a, holds_agree e a b⟩
  · rw [e r (getReg_lt hg)]; exact h.own r g i hg hi ho
  · rw [e r (getReg_lt hg)]; exact h.lt r g i hg hi
  · rw [e r (getReg_lt h1), e r' (getReg_lt h4)] at hb
    exact h.apart r g i r' g' i' h1 h2 h3 h4 h5 hb

theorem WRel.agree' {c : Ctx} {ρ ρ' : Rho} {H : List Reg} {w : World} (h : WRel c ρ H w) (e : ∀ r, r < H.length → ρ' r = ρ r) : WRel c ρ' H w :=
  ⟨h.hok.agree e, h.len, fun r hr => (e r (Nat.lt_of_lt_of_le hr h.len)).trans (h.agree r hr), h.old, fun r g i hr hg hi => by rw [e r (getReg_lt hg)]; exact h.new r g i hr hg hi,
    h.os, h.tape, h.out, h.size, h.shape, h.frame⟩

/-- What is known of the package variables; no owned region is one of them. -/
def GOk (ρ : Rho) (H : List Reg) (w : World) : Prop :=
  ∀ x ∈ globs, (∃ o, w.heap[x.1]? = some o ∧ x.2 o) ∧ ∀ r g i, getReg H r = some g → g.has i → g.own = true → (ρ r i).1 ≠ x.1
theorem GOk.nil (h : globs = []) (ρ : Rho) (H : List Reg) (w : World) : GOk ρ H w := fun x hx => by rw [h] at hx; cases hx

/-! ### a block handed on: the old name dies, a new one comes -/
theorem dead_has {i : Nat} : ¬ dead.has i := by simp [Reg.has, dead]

/-- A region dies. -/
theorem HOk.kill {ρ : Rho} {H : List Reg} {w : World} (h : HOk ρ H w) (r : Nat) : HOk ρ (setReg H r dead) w := by
  have hlen : (setReg H r dead).length = H.length := by simp [setReg_eq]
  have key : ∀ r' g i, getReg (setReg H r dead) r' = some g → g.has i → r' ≠ r ∧ getReg H r' = some g := by
    intro r' g i e hi
    rcases getReg_set e with ⟨_, rfl, _⟩ | h1
    · exact absurd hi dead_has
    · exact h1
  refine ⟨fun r' g i e hi => ?_, fun r' g i e hi ho => ?_, fun r' g i e hi => ?_, fun r1 g1 i1 r2 g2 i2 e1 h1 ho e2 h2 hb => ?_⟩
  · rw [hlen]; exact h.holds _ _ _ (key _ _ _ e hi).2 hi
  · exact h.own _ _ _ (key _ _ _ e hi).2 hi ho
  · exact h.lt _ _ _ (key _ _ _ e hi).2 hi
  · exact h.apart _ _ _ _ _ _ (key _ _ _ e1 h1).2 h1 ho (key _ _ _ e2 h2).2 h2 hb

theorem WRel.kill {c : Ctx} {ρ : Rho} {H : List Reg} {w : World} (h : WRel c ρ H w) (r : Nat) : WRel c ρ (setReg H r dead) w := by
  have hlen : (setReg H r dead).length = H.length := by simp [setReg_eq]
  refine ⟨h.hok.kill r, by rw [hlen]; exact h.len, h.agree, fun r' g hr e => ?_, fun r' g i hr e hi => ?_, h.os, h.tape, h.out, h.size, h.shape, h.frame⟩
  · rcases getReg_set e with ⟨rfl, rfl, hl⟩ | ⟨_, h1⟩
    · obtain ⟨g, hg⟩ : ∃ g, getReg H r' = some g := ⟨H[r'], by rw [getReg_eq]; exact List.getElem?_eq_getElem hl⟩
      obtain ⟨g0, a1, _, _⟩ := h.old r' g hr hg
      exact ⟨g0, a1, fun q => by simp [dead] at q, fun i hi => absurd hi dead_has⟩
    · exact h.old _ _ hr h1
  · rcases getReg_set e with ⟨_, rfl, _⟩ | ⟨_, h1⟩
    · exact absurd hi dead_has
    · exact h.new _ _ _ hr h1 hi

/-- A block that no living region names gets a name. -/
theorem HOk.name {ρ : Rho} {H : List Reg} {w : World} (h : HOk ρ H w) {b : Nat} {arr : Array Value} {g : Reg} (hpl : g.pl = true) (hb : w.heap[b]? = some (.cells arr g.el (0, 0)))
    (hfree : ∀ r g' i, getReg H r = some g' → g'.has i → (ρ r i).1 ≠ b) (ht : g.tot 0 ≤ arr.size) (hg : Good H.length (g.c 0)) (hc : Holds ρ (fun k => arr[k]?) (g.c 0) 0) :
    HOk (ext ρ H.length b) (H ++ [g]) w := by
  have hag : ∀ r, r < H.length → ext ρ H.length b r = ρ r := fun r hr => ext_old hr
  have hat : g.at 0 = g.c 0 := by simp [Reg.at, hpl]
  have hbl : b < w.heap.size := (Array.getElem?_eq_some_iff.1 hb).1
  have hwc : wc w b = fun k => arr[k]? := funext fun k => by simp [wc, World.cell?, hb]
  have h0 : ∀ {i}, g.has i → i = 0 := fun hi => by simpa [Reg.has, hpl] using hi
  refine ⟨fun r g' i e hi => ?_, fun r g' i e hi ho => ?_, fun r g' i e hi => ?_, fun r g1 i r' g2 i' e1 h1 ho e2 h2 hbb => ?_⟩
  · rcases getReg_app e with ⟨hr, e'⟩ | ⟨rfl, rfl⟩
    · obtain ⟨gd, hd⟩ := h.holds r g' i e' hi
      rw [hag r hr]
      exact ⟨gd.mono (by simp), holds_agree hag gd hd⟩
    · have := h0 hi
      subst this
      rw [hat, ext_new, hwc]
      exact ⟨hg.mono (by simp), holds_agree hag hg hc⟩
  · rcases getReg_app e with ⟨hr, e'⟩ | ⟨rfl, rfl⟩
    · rw [hag r hr]; exact h.own r g' i e' hi ho
    · have := h0 hi
      subst this
      rw [ext_new]
      exact ⟨rfl, arr, hb, ht⟩
  · rcases getReg_app e with ⟨hr, e'⟩ | ⟨rfl, rfl⟩
    · rw [hag r hr]; exact h.lt r g' i e' hi
    · rw [ext_new]; exact hbl
  · rcases getReg_app e1 with ⟨hr, e1'⟩ | ⟨rfl, rfl⟩ <;> rcases getReg_app e2 with ⟨hr', e2'⟩ | ⟨rfl, rfl⟩
    · rw [hag r hr, hag r' hr'] at hbb
      exact h.apart r g1 i r' g2 i' e1' h1 ho e2' h2 hbb
    · rw [hag r hr, ext_new] at hbb
      exact absurd hbb (hfree r g1 i e1' h1)
    · rw [hag r' hr', ext_new] at hbb
      exact absurd hbb.symm (hfree r' g2 i' e2' h2)
    · exact ⟨rfl, (h0 h1).trans (h0 h2).symm⟩

theorem WRel.name {c : Ctx} {ρ : Rho} {H : List Reg} {w : World} (h : WRel c ρ H w) {b : Nat} {arr : Array Value} {g : Reg} (hpl : g.pl = true) (hb : w.heap[b]? = some (.cells arr g.el (0, 0)))
    (hfree : ∀ r g' i, getReg H r = some g' → g'.has i → (ρ r i).1 ≠ b) (ht : g.tot 0 ≤ arr.size) (hg : Good H.length (g.c 0)) (hc : Holds ρ (fun k => arr[k]?) (g.c 0) 0) (hm : c.mine b) :
    WRel c (ext ρ H.length b) (H ++ [g]) w := by
  have hl := h.len
  refine ⟨h.hok.name hpl hb hfree ht hg hc, by simp; omega, fun r hr => by rw [ext_old (by omega)]; exact h.agree r hr, fun r g' hr e => ?_, fun r g' i hr e hi => ?_, h.os, h.tape, h.out, h.size, h.shape, h.frame⟩
  · rcases getReg_app e with ⟨hr', e'⟩ | ⟨rfl, rfl⟩
    · exact h.old r g' hr e'
    · omega
  · rcases getReg_app e with ⟨hr', e'⟩ | ⟨rfl, rfl⟩
    · rw [ext_old hr']; exact h.new r g' i hr e' hi
    · rw [ext_new]; exact hm

/-- An owned block is the call's own. -/
theorem WRel.mine {c : Ctx} {ρ : Rho} {H : List Reg} {w : World} (h : WRel c ρ H w) {r i : Nat} {g : Reg} (hg : getReg H r = some g) (hi : g.has i) (ho : g.own = true) : c.mine (ρ r i).1 := by
  by_cases hr : r < c.H.length
  · obtain ⟨g0, a1, a2, a3⟩ := h.old r g hr hg
    exact .inr ⟨r, g0, i, a1, a2 ho, a3 i hi, by rw [h.agree r hr]⟩
  · exact h.new r g i (by omega) hg hi

/-- It stays so. -/
theorem WRel.gok {c : Ctx} {ρ : Rho} {H : List Reg} {w : World} (h : WRel c ρ H w) (hG : GOk c.ρ c.H c.w) : GOk ρ H w := fun x hx => by
  obtain ⟨⟨o, ho, hp⟩, hn⟩ := hG x hx
  have hlt : x.1 < c.w.heap.size := (Array.getElem?_eq_some_iff.1 ho).1
  refine ⟨⟨o, by rw [h.frame x.1 hlt fun r g i e hown hi => hn r g i e hi hown]; exact ho, hp⟩, fun r g i e hi hown hb => ?_⟩
  rcases h.mine e hi hown with h1 | ⟨r0, g0, i0, a1, a2, a3, a4⟩
  · omega
  · exact hn r0 g0 i0 a1 a3 a2 (a4.trans hb)

/-- THE BLOCK OF A PLAIN OWNED REGION, WRITTEN ANEW, UNDER A NEW NAME. -/
theorem WRel.hand {c : Ctx} {ρ : Rho} {H : List Reg} {w : World} (h : WRel c ρ H w) {r : Nat} {g g' : Reg} (hg : getReg H r = some g) (hp : g.pl = true) (ho : g.own = true) {cs arr : Array Value} (ha : w.heap[(ρ r 0).1]? = some (.cells arr g.el (0, 0)))
    (hz : cs.size = arr.size) (hpl : g'.pl = true) (hel : g'.el = g.el) (ht : g'.tot 0 ≤ cs.size) (gt : Good H.length (g'.c 0)) (hc : Holds ρ (fun k => cs[k]?) (g'.c 0) 0) :
    WRel c (ext ρ H.length (ρ r 0).1) (setReg H r dead ++ [g']) (w.setRow (ρ r 0).1 cs) := by
  have h0 : g.has 0 := by simp [Reg.has, hp]
  have hlen : (setReg H r dead).length = H.length := by simp [setReg_eq]
  have hmine := h.mine hg h0 ho
  -- first the write (of nothing that is known), then the death, then the name
  have hw : WRel c ρ (setReg H r (regSet g 0 .nil)) (w.setRow (ρ r 0).1 cs) := h.write hg h0 ho ha hz (t := .nil) trivial trivial
  have hk := hw.kill r
  have e : setReg (setReg H r (regSet g 0 .nil)) r dead = setReg H r dead := by simp [setReg_eq]
  rw [e] at hk
  rw [← hlen]
  refine hk.name hpl (by rw [hel]; exact setRow_heap w _ arr cs g.el (0, 0) ha) (fun r' g1 i e1 hi hb => ?_) ht (by rw [hlen]; exact gt) hc hmine
  rcases getReg_set e1 with ⟨_, rfl, _⟩ | ⟨hne, e1'⟩
  · exact absurd hi dead_has
  · exact hne (h.hok.apart _ _ _ _ _ _ hg h0 ho e1' hi hb.symm).1.symm

end Go.Sx
