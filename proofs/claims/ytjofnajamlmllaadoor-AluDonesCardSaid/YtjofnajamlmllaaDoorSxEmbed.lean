import Derived.Test.YtjofnajamlmllaaDoorSxTop
namespace Go.Sx

/-! ## What is told of a small heap, told of a greater one -/
def renRef (σ : List Src) (n m : Nat) (q i : Nat) : Nat × Nat :=
  match Nat.blt q m with
  | true => match getSrc σ q with
    | .none => (0, 0)
    | .gone r => (r, i)
    | .pl r => (r, i)
    | .fam r => (r, i)
    | .mem r i0 => (r, i0)
  | false => (n + (q - m), i)

def ren (σ : List Src) (n m : Nat) : T → T
  | .ptr q i p => .ptr (renRef σ n m q i).1 (renRef σ n m q i).2 p
  | .slice q i p lo sz len cap => .slice (renRef σ n m q i).1 (renRef σ n m q i).2 p lo sz len cap
  | .fn f c => .fn f (ren σ n m c)
  | .iface t v => .iface t (ren σ n m v)
  | .cons h t => .cons (ren σ n m h) (ren σ n m t)
  | .arr k sz f => .arr k sz (fun j => ren σ n m (f j))
  | .tup ts => .tup (ren σ n m ts)
  | .ite b x y => .ite b (ren σ n m x) (ren σ n m y)
  | .int k a => .int k a
  | .bool b => .bool b
  | .tt => .tt
  | .ff => .ff
  | .str s => .str s
  | .nilp => .nilp
  | .nils => .nils
  | .nilf => .nilf
  | .nili => .nili
  | .nil => .nil
  | .top => .top
  | .raw v => .raw v

def renR (σ : List Src) (n m : Nat) : R → R
  | .ret v => .ret (ren σ n m v)
  | .pan v => .pan (ren σ n m v)

def renReg (σ : List Src) (n m : Nat) (g : Reg) : Reg :=
  { g with c := fun i => ren σ n m (g.c i), log := g.log.map fun x => (x.1, ren σ n m x.2) }

def ownOf : Option Reg → Bool
  | some g => g.own
  | none => false

/-- What a plain region becomes. -/
def plNew (σ : List Src) (n m : Nat) (g' g : Reg) : Reg :=
  match g'.pl with
  | true => { g with c := fun _ => ren σ n m (g'.c 0) }
  | false => dead

/-- One of the caller's regions, behind the call. -/
def mergeStep (σ : List Src) (n m : Nat) (own : Bool) (g' : Option Reg) (x : Src) (acc : List Reg) : List Reg :=
  match g' with
  | some g' => match own with
    | true => match x with
      | .pl r => match getReg acc r with
        | some g => setReg acc r (plNew σ n m g' g)
        | none => acc
      | .mem r i => match getReg acc r with
        | some g => setReg acc r (regSet g i (ren σ n m (g'.c 0)))
        | none => acc
      | _ => acc
    | false => acc
  | none => acc

/-- The caller's regions, behind the call. -/
def mergeL (σ : List Src) (n m : Nat) (Hp H' : List Reg) : Nat → List Src → List Reg → List Reg
  | _, [], acc => acc
  | q, x :: l, acc => mergeL σ n m Hp H' (q + 1) l (mergeStep σ n m (ownOf (getReg Hp q)) (getReg H' q) x acc)

def dropR : Nat → List Reg → List Reg
  | 0, l => l
  | _ + 1, [] => []
  | n + 1, _ :: l => dropR n l

def mapReg (σ : List Src) (n m : Nat) : List Reg → List Reg
  | [] => []
  | g :: l => renReg σ n m g :: mapReg σ n m l

def merge (σ : List Src) (H Hp H' : List Reg) : List Reg :=
  mergeL σ H.length Hp.length Hp H' 0 σ H ++ mapReg σ H.length Hp.length (dropR Hp.length H')

/-- The flags fit. -/
def mergeOne (own : Bool) (g' : Option Reg) (x : Src) : Bool :=
  match own, g' with
  | false, some _ => true
  | true, some g' => match x with
    | .pl _ => (g'.own && g'.pl) || (!g'.pl && Nat.beq g'.fam 0)
    | .mem _ _ => g'.own && g'.pl
    | _ => false
  | _, none => false

def mergeOk (Hp H' : List Reg) : Nat → List Src → Bool
  | _, [] => true
  | q, x :: l => mergeOne (ownOf (getReg Hp q)) (getReg H' q) x && mergeOk Hp H' (q + 1) l

def renOut (σ : List Src) (H Hp : List Reg) : Out → Out
  | .fail => .fail
  | .need p o => .need p (renOut σ H Hp o)
  | .br p a b => .br p (renOut σ H Hp a) (renOut σ H Hp b)
  | .retq v => .retq (ren σ H.length Hp.length v)
  | .ret v H' => match mergeOk Hp H' 0 σ with
    | true => .ret (ren σ H.length Hp.length v) (merge σ H Hp H')
    | false => .fail
  | .pan v H' => match mergeOk Hp H' 0 σ with
    | true => .pan (ren σ H.length Hp.length v) (merge σ H Hp H')
    | false => .fail
  | .any p o => .any p fun x => renOut σ H Hp (o x)

/-- A told thing, used of other arguments and another heap. -/
def emb (σ : List Src) (args : List T) (H : List Reg) (args' : List T) (Hp : List Reg) (o : Out) : Out :=
  match srcOk σ with
  | true => .need (leSl σ args args' ∧ leHs σ H σ Hp) (renOut σ H Hp o)
  | false => .fail

section
variable {P : Program}

theorem le_back {σ : List Src} {ρ : Rho} {n : Nat} {m : Cells} {t t' : T} {o : Nat} (h : le σ t t') (g : Good n t) (q : Holds (rhoOf σ ρ) m t' o) : Holds ρ m t o := by
  obtain ⟨g', s', c', _⟩ := le_spec (ρ := ρ) h g
  refine holds_of_cells g fun k hk => ?_
  have := holds_cells g' q k (by omega)
  rw [this]
  simp only [cells, c']

theorem ren_size {σ : List Src} {n m : Nat} : ∀ {t : T}, (ren σ n m t).size = t.size := by
  intro t
  induction t with
  | cons x y ih1 ih2 => simp only [ren, T.size, ih1, ih2]
  | ite b x y ih1 ih2 => simp only [ren, T.size, ih1]
  | _ => rfl

theorem ren_spec {σ : List Src} {n m k n' : Nat} {ρ' ρp : Rho} (href : ∀ q i, q < k → pla ρ' (renRef σ n m q i).1 (renRef σ n m q i).2 = pla ρp q i ∧ (renRef σ n m q i).1 < n') :
    ∀ {t : T}, Good k t → Good n' (ren σ n m t) ∧ (ren σ n m t).size = t.size ∧ (ren σ n m t).cv ρ' = t.cv ρp ∧ ∀ (mm : Cells) (o : Nat), Holds ρp mm t o → Holds ρ' mm (ren σ n m t) o := by
  intro t
  induction t with
  | ptr q i p =>
    intro g
    obtain ⟨h1, h2⟩ := href q i g
    refine ⟨h2, rfl, by simp only [ren, T.cv, h1], fun mm o hh => ?_⟩
    simp only [ren, Holds, h1] at hh ⊢
    exact hh
  | slice q i p lo sz len cap =>
    intro g
    obtain ⟨h1, h2⟩ := href q i g
    refine ⟨h2, rfl, by simp only [ren, T.cv, h1], fun mm o hh => ?_⟩
    simp only [ren, Holds, h1] at hh ⊢
    exact hh
  | fn f c ih =>
    intro g
    obtain ⟨g1, _, c1, _⟩ := ih g
    refine ⟨g1, rfl, by simp only [ren, T.cv, c1], fun mm o hh => ?_⟩
    simp only [ren, Holds, c1] at hh ⊢
    exact hh
  | iface ty v ih =>
    intro g
    obtain ⟨g1, _, c1, _⟩ := ih g
    refine ⟨g1, rfl, by simp only [ren, T.cv, c1], fun mm o hh => ?_⟩
    simp only [ren, Holds, c1] at hh ⊢
    exact hh
  | cons x y ih1 ih2 =>
    intro g
    obtain ⟨g1, s1, c1, q1⟩ := ih1 g.1
    obtain ⟨g2, s2, c2, q2⟩ := ih2 g.2
    refine ⟨⟨g1, g2⟩, by simp only [ren, T.size, s1, s2], by simp only [ren, T.cv, c1, c2], fun mm o hh => ⟨q1 mm o hh.1, ?_⟩⟩
    rw [s1]
    exact q2 mm _ hh.2
  | arr a sz f ih =>
    intro g
    refine ⟨fun j hj => ?_, rfl, ?_, fun mm o hh j hj => (ih j (g j hj).2).2.2.2 mm _ (hh j hj)⟩
    · obtain ⟨g1, s1, _, _⟩ := ih j (g j hj).2
      exact ⟨s1.trans (g j hj).1, g1⟩
    · have e : (List.range a).flatMap (fun j => ((ren σ n m (f j)).cv ρ').cells) = (List.range a).flatMap (fun j => ((f j).cv ρp).cells) := by
        rw [List.flatMap_def, List.flatMap_def, List.map_congr_left fun j hj => by rw [(ih j (g j (List.mem_range.1 hj)).2).2.2.1]]
      simp only [ren, T.cv, e]
  | ite b x y ih1 ih2 =>
    intro g
    have hs : ∀ t : T, (ren σ n m t).size = t.size := fun t => ren_size
    cases b with
    | true =>
      obtain ⟨g1, s1, c1, q1⟩ := ih1 (g.2.1 rfl)
      exact ⟨⟨by rw [hs, hs]; exact g.1, fun _ => g1, fun e => by cases e⟩, s1, c1, fun mm o hh => ⟨fun e => q1 mm o (hh.1 e), fun e => by cases e⟩⟩
    | false =>
      obtain ⟨g2, s2, c2, q2⟩ := ih2 (g.2.2 rfl)
      exact ⟨⟨by rw [hs, hs]; exact g.1, (fun e => by cases e), fun _ => g2⟩, by simp only [ren, T.size, hs], c2, fun mm o hh => ⟨(fun e => by cases e), fun e => q2 mm o (hh.2 e)⟩⟩
  | top => intro g; exact g.elim
  | tup ts _ => intro g; exact g.elim
  | raw v => intro g; exact g.elim
  | _ => intro g; exact ⟨trivial, rfl, rfl, fun _ _ hh => hh⟩

theorem ren_S {σ : List Src} {n m k n' : Nat} {ρ' ρp : Rho} (href : ∀ q i, q < k → pla ρ' (renRef σ n m q i).1 (renRef σ n m q i).2 = pla ρp q i ∧ (renRef σ n m q i).1 < n') {t : T} (g : GoodS k t) :
    val ρ' (ren σ n m t) = val ρp t ∧ GoodS n' (ren σ n m t) := by
  cases t with
  | raw v => exact ⟨rfl, trivial⟩
  | tup ts =>
    obtain ⟨g1, _, c1, _⟩ := ren_spec href (t := ts) g
    exact ⟨by simp only [Sx.val, ren, T.cv, c1], g1⟩
  | _ =>
    obtain ⟨g1, _, c1, _⟩ := ren_spec href (t := _) g
    exact ⟨by simp only [Sx.val, c1], good_S g1⟩

theorem dropR_eq (n : Nat) (l : List Reg) : dropR n l = l.drop n := by
  induction n generalizing l with
  | zero => rfl
  | succ n ih => cases l with
    | nil => rfl
    | cons g l => simp only [dropR, ih, List.drop_succ_cons]
theorem mapReg_eq (σ : List Src) (n m : Nat) (l : List Reg) : mapReg σ n m l = l.map (renReg σ n m) := by
  induction l with
  | nil => rfl
  | cons g l ih => simp only [mapReg, ih, List.map_cons]

theorem renReg_has {σ : List Src} {n m : Nat} {g : Reg} {i : Nat} : (renReg σ n m g).has i ↔ g.has i := Iff.rfl
theorem renReg_at {σ : List Src} {n m : Nat} {g : Reg} {i : Nat} : (renReg σ n m g).at i = ren σ n m (g.at i) := by
  have key : ∀ l : List (Nat × T), atL (fun i => ren σ n m (g.c i)) i (l.map fun x => (x.1, ren σ n m x.2)) = ren σ n m (atL g.c i l) := by
    intro l
    induction l with
    | nil => rfl
    | cons x l ih =>
      simp only [List.map_cons, atL, ih]
      split <;> rfl
  unfold Reg.at renReg
  cases h : g.pl with
  | true => rfl
  | false => exact key g.log

theorem mergeStep_far {σ : List Src} {n m : Nat} {own : Bool} {g' : Option Reg} {x : Src} {acc : List Reg} {r0 : Nat} (h : srcKey x = some r0) :
    (mergeStep σ n m own g' x acc).length = acc.length ∧ ∀ r, r0 ≠ r → getReg (mergeStep σ n m own g' x acc) r = getReg acc r := by
  have hset : ∀ (r : Nat) (g : Reg), r0 = r → (setReg acc r g).length = acc.length ∧ ∀ r', r0 ≠ r' → getReg (setReg acc r g) r' = getReg acc r' := by
    intro r g e
    subst e
    refine ⟨by simp [setReg_eq], fun r' hne => ?_⟩
    rw [setReg_eq, getReg_eq, getReg_eq, List.getElem?_set_ne hne]
  cases g' with
  | none => exact ⟨rfl, fun _ _ => rfl⟩
  | some g' =>
    simp only [mergeStep]
    cases own with
    | false => exact ⟨rfl, fun _ _ => rfl⟩
    | true =>
      cases x with
      | none => exact ⟨rfl, fun _ _ => rfl⟩
      | gone r => exact ⟨rfl, fun _ _ => rfl⟩
      | fam r => exact ⟨rfl, fun _ _ => rfl⟩
      | pl r =>
        have : r0 = r := by simp [srcKey] at h; exact h.symm
        simp only
        split
        · exact hset r _ this
        · exact ⟨rfl, fun _ _ => rfl⟩
      | mem r i =>
        have : r0 = r := by simp [srcKey] at h; exact h.symm
        simp only
        split
        · exact hset r _ this
        · exact ⟨rfl, fun _ _ => rfl⟩

/-- What a region has become. -/
def merged (σ : List Src) (n m : Nat) (own : Bool) (g' : Option Reg) (x : Src) (g : Option Reg) : Option Reg :=
  match g' with
  | some g' => match own with
    | true => match x with
      | .pl _ => g.map (plNew σ n m g')
      | .mem _ i => g.map fun g => regSet g i (ren σ n m (g'.c 0))
      | _ => g
    | false => g
  | none => g

theorem mergeStep_same {σ : List Src} {n m : Nat} {own : Bool} {g' : Option Reg} {x : Src} {acc : List Reg} {r0 : Nat} (h : srcKey x = some r0) : getReg (mergeStep σ n m own g' x acc) r0 = merged σ n m own g' x (getReg acc r0) := by
  have hset : ∀ (g g1 : Reg), getReg acc r0 = some g → getReg (setReg acc r0 g1) r0 = some g1 := by
    intro g g1 hg
    have hl := getReg_lt hg
    rw [setReg_eq, getReg_eq]
    simp [hl]
  cases g' with
  | none => rfl
  | some g' =>
    simp only [mergeStep, merged]
    cases own with
    | false => rfl
    | true =>
      cases x with
      | none => rfl
      | gone r => rfl
      | fam r => rfl
      | pl r =>
        have : r = r0 := by simp [srcKey] at h; exact h
        subst this
        simp only
        cases hg : getReg acc r with
        | none => simp [hg]
        | some g => simp only [Option.map_some]; exact hset g _ hg
      | mem r i =>
        have : r = r0 := by simp [srcKey] at h; exact h
        subst this
        simp only
        cases hg : getReg acc r with
        | none => simp [hg]
        | some g => simp only [Option.map_some]; exact hset g _ hg

/-- A region that is not named stays. -/
theorem mergeL_get {σ : List Src} {n m : Nat} {Hp H' : List Reg} : ∀ {l : List Src} {q : Nat} {acc : List Reg}, srcOk l = true → (mergeL σ n m Hp H' q l acc).length = acc.length ∧
    ∀ r, (∀ (j : Nat) (x : Src), l[j]? = some x → srcKey x ≠ some r) → getReg (mergeL σ n m Hp H' q l acc) r = getReg acc r
  | [], q, acc, _ => ⟨rfl, fun _ _ => rfl⟩
  | x :: l, q, acc, h => by
    simp only [srcOk] at h
    split at h
    · rename_i r0 hr0
      simp only [Bool.and_eq_true] at h
      simp only [mergeL]
      obtain ⟨i1, i2⟩ := mergeL_get (σ := σ) (n := n) (m := m) (Hp := Hp) (H' := H') (l := l) (q := q + 1) (acc := mergeStep σ n m (ownOf (getReg Hp q)) (getReg H' q) x acc) h.2
      obtain ⟨s1, s2⟩ := mergeStep_far (σ := σ) (n := n) (m := m) (own := ownOf (getReg Hp q)) (g' := getReg H' q) (acc := acc) hr0
      refine ⟨i1.trans s1, fun r hr => ?_⟩
      rw [i2 r (fun j y hy => hr (j + 1) y (by simpa using hy))]
      exact s2 r (fun e => hr 0 x rfl (by rw [hr0, e]))
    · cases h

theorem mergeL_at {σ : List Src} {n m : Nat} {Hp H' : List Reg} : ∀ {l : List Src} {q : Nat} {acc : List Reg}, srcOk l = true → ∀ (j : Nat) (x : Src) (r : Nat), l[j]? = some x → srcKey x = some r →
    getReg (mergeL σ n m Hp H' q l acc) r = merged σ n m (ownOf (getReg Hp (q + j))) (getReg H' (q + j)) x (getReg acc r)
  | [], q, acc, _, j, x, r, hx, _ => by simp at hx
  | y :: l, q, acc, h, j, x, r, hx, hr => by
    simp only [srcOk] at h
    split at h
    · rename_i r0 hr0
      simp only [Bool.and_eq_true] at h
      simp only [mergeL]
      cases j with
      | zero =>
        simp at hx
        subst hx
        have : r0 = r := by rw [hr0] at hr; simpa using hr
        subst this
        rw [(mergeL_get (l := l) (q := q + 1) h.2).2 r0 (fun j x hx e => srcNew_spec h.1 j x r0 hx e rfl), Nat.add_zero]
        exact mergeStep_same hr0
      | succ j =>
        have hx' : l[j]? = some x := by simpa using hx
        rw [mergeL_at (l := l) (q := q + 1) h.2 j x r hx' hr, show q + 1 + j = q + (j + 1) by omega, (mergeStep_far hr0).2 r (srcNew_spec h.1 j x r hx' hr)]
    · cases h

theorem mergeOk_at {Hp H' : List Reg} : ∀ {l : List Src} {q : Nat}, mergeOk Hp H' q l = true → ∀ (j : Nat) (x : Src), l[j]? = some x → ∃ g', getReg H' (q + j) = some g' ∧
    (ownOf (getReg Hp (q + j)) = true → (g'.own = true ∧ g'.pl = true ∧ ((∃ r, x = .pl r) ∨ ∃ r i, x = .mem r i)) ∨ (g'.pl = false ∧ g'.fam = 0 ∧ ∃ r, x = .pl r))
  | [], q, _, j, x, hx => by simp at hx
  | y :: l, q, h, j, x, hx => by
    simp only [mergeOk, Bool.and_eq_true] at h
    cases j with
    | zero =>
      simp at hx
      subst hx
      have h1 := h.1
      rw [Nat.add_zero]
      unfold mergeOne at h1
      split at h1
      · rename_i g' ho hg'
        exact ⟨g', hg', fun e => by rw [ho] at e; cases e⟩
      · rename_i g' ho hg'
        refine ⟨g', hg', fun _ => ?_⟩
        split at h1
        · simp only [Bool.or_eq_true, Bool.and_eq_true, Bool.not_eq_true'] at h1
          rcases h1 with h1 | h1
          · exact .inl ⟨h1.1, h1.2, .inl ⟨_, rfl⟩⟩
          · exact .inr ⟨h1.1, beq_nat h1.2, _, rfl⟩
        · simp only [Bool.and_eq_true] at h1; exact .inl ⟨h1.1, h1.2, .inr ⟨_, _, rfl⟩⟩
        · cases h1
      · cases h1
    | succ j =>
      obtain ⟨g', a, b⟩ := mergeOk_at h.2 j x (by simpa using hx)
      rw [show q + (j + 1) = q + 1 + j by omega]
      exact ⟨g', a, b⟩

/-! ### where a region of the small heap lies -/
def rho0 : Rho := fun r i => (r, i)
abbrev srcAt (σ : List Src) (q i : Nat) : Nat × Nat := rhoOf σ rho0 q i

theorem renRef_low {σ : List Src} {n m q i : Nat} (h : q < m) : renRef σ n m q i = srcAt σ q i := by
  unfold renRef srcAt rhoOf rho0
  rw [show Nat.blt q m = true from by simpa [Nat.blt_eq] using h]
  simp only
  cases getSrc σ q <;> rfl
theorem renRef_high {σ : List Src} {n m q i : Nat} (h : m ≤ q) : renRef σ n m q i = (n + (q - m), i) := by
  unfold renRef
  have : Nat.blt q m = false := by
    cases e : Nat.blt q m with
    | false => rfl
    | true => rw [Nat.blt_eq] at e; omega
  rw [this]
theorem rhoOf_at {σ : List Src} {ρ : Rho} {q : Nat} (i : Nat) (h : getSrc σ q ≠ .none) : rhoOf σ ρ q i = ρ (srcAt σ q i).1 (srcAt σ q i).2 := by
  unfold srcAt rhoOf rho0
  cases e : getSrc σ q with
  | none => exact absurd e h
  | _ => rfl

theorem leSl_args {σ : List Src} {ρ : Rho} {n : Nat} : ∀ {l l' : List T}, leSl σ l l' → noTop l' = true → (∀ t ∈ l, Good n t) → l'.map (val (rhoOf σ ρ)) = l.map (val ρ) ∧ ∀ t ∈ l', Good σ.length t
  | [], [], _, _, _ => ⟨rfl, fun _ h => by simp at h⟩
  | t :: l, t' :: l', h, hn, hg => by
    have h1 : le σ t t' ∧ leSl σ l l' ∧ noTop l' = true := by
      cases t' <;> simp only [leSl, noTop] at h hn <;> first | exact ⟨h.1, h.2, hn⟩ | cases hn
    obtain ⟨g1, _, c1, _⟩ := le_spec (ρ := ρ) h1.1 (hg t (by simp))
    obtain ⟨i1, i2⟩ := leSl_args (σ := σ) (ρ := ρ) (n := n) (l := l) (l' := l') h1.2.1 h1.2.2 (fun u hu => hg u (by simp [hu]))
    refine ⟨by simp only [List.map_cons, i1, Sx.val, c1], fun u hu => ?_⟩
    simp only [List.mem_cons] at hu
    rcases hu with rfl | hu
    · exact g1
    · exact i2 u hu
  | [], _ :: _, h, _, _ | _ :: _, [], h, _, _ => by simp [leSl] at h

theorem srcHi_zero {H : List Reg} : ∀ {l : List Src}, srcOk l = true → srcHi H 0 l = true
  | [], _ => rfl
  | x :: l, h => by
    simp only [srcOk] at h
    split at h
    · rename_i r hr
      simp only [Bool.and_eq_true] at h
      cases x <;> first | (cases hr; done) | simp only [srcHi, srcKey, srcHi_zero h.2, Nat.ble_eq, Bool.and_true, Bool.or_eq_true, Nat.zero_le, true_or]
    · cases h

theorem shape_cells {w w' : World} {b : Nat} {arr arr' : Array Value} {e e' : TypeId} (h : w'.shape? b = w.shape? b) (h1 : w.heap[b]? = some (.cells arr e (0, 0))) (h2 : w'.heap[b]? = some (.cells arr' e' (0, 0))) :
    e' = e ∧ arr'.size = arr.size := by
  simp only [World.shape?, h1, h2] at h
  simpa using h

theorem wc_of_heap {w w' : World} {b : Nat} (h : w'.heap[b]? = w.heap[b]?) : wc w' b = wc w b := by
  funext k
  simp only [wc, World.cell?, h]

theorem renOut_wp {σ : List Src} {H Hp : List Reg} {K : R → List Reg → Prop} : ∀ {o : Out}, (renOut σ H Hp o).wp false H K →
    o.wp false Hp (fun r H' => (H' = Hp ∧ K (renR σ H.length Hp.length r) H) ∨ (mergeOk Hp H' 0 σ = true ∧ K (renR σ H.length Hp.length r) (merge σ H Hp H')))
  | .fail, h => h
  | .need p o, h => ⟨h.1, renOut_wp h.2⟩
  | .br p a b, h => ⟨fun e => renOut_wp (h.1 e), fun e => renOut_wp (h.2 e)⟩
  | .retq v, h => .inl ⟨rfl, h⟩
  | .ret v H', h => by
    simp only [renOut] at h
    split at h
    · rename_i hm; exact .inr ⟨hm, h⟩
    · exact h.elim
  | .pan v H', h => by
    simp only [renOut] at h
    split at h
    · rename_i hm; exact .inr ⟨hm, h⟩
    · exact h.elim
  | .any p o, h => fun x hx => renOut_wp (h x hx)

/-- How the small heap lies in the greater one. -/
structure Lies (σ : List Src) (ρ : Rho) (H Hp : List Reg) (w : World) : Prop where
  ok : srcOk σ = true
  len : σ.length = Hp.length
  hok : HOk ρ H w
  src : ∀ q g', getReg Hp q = some g' → ∃ x, σ[q]? = some x ∧ leReg σ H x g'

theorem Lies.at {σ : List Src} {ρ : Rho} {H Hp : List Reg} {w : World} (L : Lies σ ρ H Hp w) {q : Nat} {g' : Reg} (hq : getReg Hp q = some g') {i : Nat} (hi : g'.has i) :
    ∃ x g, σ[q]? = some x ∧ srcKey x = some (srcAt σ q i).1 ∧ getReg H (srcAt σ q i).1 = some g ∧ g.has (srcAt σ q i).2 ∧ rhoOf σ ρ q i = ρ (srcAt σ q i).1 (srcAt σ q i).2 ∧
      (g'.own = true → g.own = true) ∧ g.el = g'.el ∧ g'.tot i ≤ g.tot (srcAt σ q i).2 ∧ le σ (g.at (srcAt σ q i).2) (g'.at i) := by
  obtain ⟨x, hx, hr⟩ := L.src q g' hq
  have hgs : getSrc σ q = x := by rw [getSrc_eq, hx]; rfl
  obtain ⟨r, g, i0, a1, a2, a3, a4, a5, a6, a7, a8, _⟩ := leReg_spec (ρ := rho0) hr hgs hi
  have e : srcAt σ q i = (r, i0) := a4
  have hn : getSrc σ q ≠ .none := by rw [hgs]; intro h; rw [h] at a1; simp [srcKey] at a1
  refine ⟨x, g, hx, ?_⟩
  rw [rhoOf_at i hn, e]
  exact ⟨a1, a2, a3, rfl, a5, a6, a7, a8⟩

/-- One place, one name. -/
theorem Lies.one {σ : List Src} {ρ : Rho} {H Hp : List Reg} {w : World} (L : Lies σ ρ H Hp w) {q q' : Nat} {g g' : Reg} (hq : getReg Hp q = some g) (hq' : getReg Hp q' = some g') {i i' : Nat} (hi : g.has i) (hi' : g'.has i')
    (h : (srcAt σ q i).1 = (srcAt σ q' i').1) : q = q' := by
  obtain ⟨x, _, a1, a2, _⟩ := L.at hq hi
  obtain ⟨y, _, b1, b2, _⟩ := L.at hq' hi'
  exact (srcOk_spec L.ok).2 q q' x y _ a1 b1 a2 (by rw [b2, h])

/-- What no owned region of the small heap names stays. -/
theorem Lies.still {σ : List Src} {ρ : Rho} {H Hp : List Reg} {w : World} (L : Lies σ ρ H Hp w) {ρp : Rho} {H' : List Reg} {w' : World} (hw : WRel ⟨rhoOf σ ρ, Hp, w⟩ ρp H' w')
    {r i : Nat} {g : Reg} (hr : getReg H r = some g) (hi : g.has i) (hno : ∀ q g' i', getReg Hp q = some g' → g'.has i' → g'.own = true → srcAt σ q i' ≠ (r, i)) : w'.heap[(ρ r i).1]? = w.heap[(ρ r i).1]? := by
  refine hw.frame _ (L.hok.lt r g i hr hi) fun q g' i' hq ho hi' hb => ?_
  obtain ⟨x, g2, _, _, a3, a4, a5, a6, _⟩ := L.at hq hi'
  have hb : (rhoOf σ ρ q i').1 = (ρ r i).1 := hb
  rw [a5] at hb
  obtain ⟨e1, e2⟩ := L.hok.apart _ _ _ _ _ _ a3 a4 (a6 ho) hr hi hb
  exact hno q g' i' hq hi' ho (Prod.ext e1 e2)

theorem Lies.start {σ : List Src} {ρ : Rho} {H Hp : List Reg} {w : World} (hok : srcOk σ = true) (h2 : leHs σ H σ Hp) (hk : HOk ρ H w) : Lies σ ρ H Hp w ∧ HOk (rhoOf σ ρ) Hp w := by
  obtain ⟨l1, l2⟩ := leHs_get h2
  refine ⟨⟨hok, l1, hk, l2⟩, ?_⟩
  have hw : WRel ⟨ρ, [], { w with heap := #[] }⟩ ρ H w := by
    refine ⟨hk, Nat.zero_le _, fun r hr => ?_, fun r g hr => ?_, fun r g i _ _ _ => .inl (Nat.zero_le _), rfl, rfl, rfl, Nat.zero_le _, fun b hb => ?_, fun b hb => ?_⟩
    · exact absurd hr (Nat.not_lt_zero _)
    · exact absurd hr (Nat.not_lt_zero _)
    · exact absurd hb (Nat.not_lt_zero _)
    · exact absurd hb (Nat.not_lt_zero _)
  have hl : leS σ 0 ⟨sl0, H⟩ ⟨sl0, Hp⟩ := by
    unfold leS
    have e : (srcOkG σ && srcId H 0 0 0 σ) = true := by
      simp only [srcId, srcOkG_of hok, srcHi_zero hok, Bool.and_self]
    simp only [e]
    exact ⟨trivial, leHs_R h2⟩
  exact (leS_rel (c := ⟨ρ, [], { w with heap := #[] }⟩) (s := ⟨sl0, H⟩) (s' := ⟨sl0, Hp⟩) hl hw).1.hok

theorem Lies.low {σ : List Src} {ρ : Rho} {H Hp : List Reg} {w : World} (L : Lies σ ρ H Hp w) {q : Nat} (h : q < Hp.length) (i : Nat) : (srcAt σ q i).1 < H.length ∧ rhoOf σ ρ q i = ρ (srcAt σ q i).1 (srcAt σ q i).2 := by
  obtain ⟨g', hg'⟩ : ∃ g', getReg Hp q = some g' := ⟨Hp[q], by rw [getReg_eq]; exact List.getElem?_eq_getElem h⟩
  obtain ⟨x, hx, hr⟩ := L.src q g' hg'
  have hgs : getSrc σ q = x := by rw [getSrc_eq, hx]; rfl
  have look : ∀ r i0, srcAt σ q i = (r, i0) → (∃ g, getReg H r = some g) → getSrc σ q ≠ .none → (srcAt σ q i).1 < H.length ∧ rhoOf σ ρ q i = ρ (srcAt σ q i).1 (srcAt σ q i).2 := by
    rintro r i0 e ⟨g, hg⟩ hn
    refine ⟨?_, rhoOf_at i hn⟩
    rw [e]
    exact getReg_lt hg
  unfold leReg at hr
  cases x with
  | none => exact hr.elim
  | gone r =>
    obtain ⟨r1, h1⟩ := (srcOk_spec L.ok).1 q _ hx
    cases h1
  | pl r =>
    simp only at hr
    split at hr
    · rename_i g hg; exact look r i (by simp only [srcAt, rhoOf, hgs, rho0]) ⟨g, hg⟩ (by rw [hgs]; simp)
    · exact hr.elim
  | fam r =>
    simp only at hr
    split at hr
    · rename_i g hg; exact look r i (by simp only [srcAt, rhoOf, hgs, rho0]) ⟨g, hg⟩ (by rw [hgs]; simp)
    · exact hr.elim
  | mem r i0 =>
    simp only at hr
    split at hr
    · rename_i g hg; exact look r i0 (by simp only [srcAt, rhoOf, hgs, rho0]) ⟨g, hg⟩ (by rw [hgs]; simp)
    · exact hr.elim

/-- Behind a call that has changed nothing. -/
theorem Lies.quiet {σ : List Src} {ρ : Rho} {H Hp : List Reg} {w : World} (L : Lies σ ρ H Hp w) {ρp : Rho} {w' : World} (hw : WRel ⟨rhoOf σ ρ, Hp, w⟩ ρp Hp w') : WRel ⟨ρ, H, w⟩ ρ H w' := by
  have hl : ∀ {b}, b < w.heap.size → b < w'.heap.size := fun h => Nat.lt_of_lt_of_le h hw.size
  have hag : ∀ q, q < Hp.length → ρp q = rhoOf σ ρ q := hw.agree
  -- the pattern's owned regions, seen from outside
  have key : ∀ r g i, getReg H r = some g → g.has i → (∃ q g' i', getReg Hp q = some g' ∧ g'.has i' ∧ g'.own = true ∧ srcAt σ q i' = (r, i)) ∨ w'.heap[(ρ r i).1]? = w.heap[(ρ r i).1]? := by
    intro r g i hr hi
    by_cases h : ∃ q g' i', getReg Hp q = some g' ∧ g'.has i' ∧ g'.own = true ∧ srcAt σ q i' = (r, i)
    · exact .inl h
    · exact .inr (L.still hw hr hi fun q g' i' h1 h2 h3 h4 => h ⟨q, g', i', h1, h2, h3, h4⟩)
  refine ⟨⟨fun r g i hr hi => ?_, fun r g i hr hi ho => ?_, fun r g i hr hi => hl (L.hok.lt r g i hr hi), L.hok.apart⟩, Nat.le_refl _, fun _ _ => rfl, fun r g _ e => ⟨g, e, id, fun _ => id⟩,
    fun r g i hr e _ => by have := getReg_lt e; have hr : H.length ≤ r := hr; omega, hw.os, hw.tape, hw.out, hw.size, hw.shape, fun b hb hno => ?_⟩
  · obtain ⟨gd, hd⟩ := L.hok.holds r g i hr hi
    refine ⟨gd, ?_⟩
    rcases key r g i hr hi with ⟨q, g', i', k1, k2, k3, k4⟩ | h
    · obtain ⟨x, g2, _, _, a3, a4, a5, a6, _, _, a9⟩ := L.at k1 k2
      rw [k4] at a3 a4 a5 a9
      have : g2 = g := by rw [hr] at a3; simpa using a3.symm
      subst this
      obtain ⟨gp, hp⟩ := hw.hok.holds q g' i' k1 k2
      have hq := hag q (getReg_lt k1)
      rw [hq, a5] at hp
      refine le_back a9 gd ?_
      have := holds_agree (ρ := ρp) (ρ' := rhoOf σ ρ) (n := Hp.length) (fun r hr => (hag r hr).symm) gp hp
      exact this
    · rw [wc_of_heap h]; exact hd
  · obtain ⟨h0, arr, ha, ht⟩ := L.hok.own r g i hr hi ho
    refine ⟨h0, ?_⟩
    rcases key r g i hr hi with ⟨q, g', i', k1, k2, k3, k4⟩ | h
    · obtain ⟨x, g2, _, _, a3, a4, a5, a6, a7, _⟩ := L.at k1 k2
      rw [k4] at a3 a5
      have : g2 = g := by rw [hr] at a3; simpa using a3.symm
      subst this
      obtain ⟨_, arr', ha', _⟩ := hw.hok.own q g' i' k1 k2 k3
      rw [hag q (getReg_lt k1), a5] at ha'
      obtain ⟨e1, e2⟩ := shape_cells (hw.shape _ (L.hok.lt _ _ _ hr hi)) ha ha'
      exact ⟨arr', by rw [ha', e1], by rw [e2]; exact ht⟩
    · exact ⟨arr, by rw [h]; exact ha, ht⟩
  · refine hw.frame b hb fun q g' i' hq ho hi' hb' => ?_
    obtain ⟨x, g2, _, _, a3, a4, a5, a6, _⟩ := L.at hq hi'
    have hb' : (rhoOf σ ρ q i').1 = b := hb'
    rw [a5] at hb'
    exact hno _ g2 _ a3 (a6 ho) a4 hb'

/-! ### behind a call that has changed the heap -/
def rhoM (ρ ρp : Rho) (n m : Nat) : Rho := fun r => if r < n then ρ r else ρp (m + (r - n))

theorem merge_len {σ : List Src} {H Hp H' : List Reg} (hok : srcOk σ = true) : (merge σ H Hp H').length = H.length + (H'.length - Hp.length) := by
  simp only [merge, List.length_append, mapReg_eq, dropR_eq, List.length_map, List.length_drop]
  rw [(mergeL_get hok).1]

theorem merge_high {σ : List Src} {H Hp H' : List Reg} (hok : srcOk σ = true) {r : Nat} {g : Reg} (hr : H.length ≤ r) (h : getReg (merge σ H Hp H') r = some g) :
    ∃ g0, getReg H' (Hp.length + (r - H.length)) = some g0 ∧ g = renReg σ H.length Hp.length g0 := by
  have hl : (mergeL σ H.length Hp.length Hp H' 0 σ H).length = H.length := (mergeL_get hok).1
  rw [getReg_eq, merge, List.getElem?_append_right (by rw [hl]; exact hr), hl, mapReg_eq, dropR_eq, List.getElem?_map, List.getElem?_drop] at h
  cases e : H'[Hp.length + (r - H.length)]? with
  | none => rw [e] at h; simp at h
  | some g0 =>
    rw [e] at h
    simp only [Option.map_some, Option.some.injEq] at h
    exact ⟨g0, by rw [getReg_eq]; exact e, h.symm⟩

theorem merge_low {σ : List Src} {H Hp H' : List Reg} (hok : srcOk σ = true) {r : Nat} (hr : r < H.length) : getReg (merge σ H Hp H') r = getReg (mergeL σ H.length Hp.length Hp H' 0 σ H) r := by
  have hl : (mergeL σ H.length Hp.length Hp H' 0 σ H).length = H.length := (mergeL_get hok).1
  rw [getReg_eq, getReg_eq, merge, List.getElem?_append_left (by rw [hl]; exact hr)]

theorem Lies.loud {σ : List Src} {ρ : Rho} {H Hp : List Reg} {w : World} (L : Lies σ ρ H Hp w) {ρp : Rho} {H' : List Reg} {w' : World} (hw : WRel ⟨rhoOf σ ρ, Hp, w⟩ ρp H' w') (hm : mergeOk Hp H' 0 σ = true) :
    WRel ⟨ρ, H, w⟩ (rhoM ρ ρp H.length Hp.length) (merge σ H Hp H') w' ∧
    ∀ q i, q < H'.length → pla (rhoM ρ ρp H.length Hp.length) (renRef σ H.length Hp.length q i).1 (renRef σ H.length Hp.length q i).2 = pla ρp q i ∧ (renRef σ H.length Hp.length q i).1 < (merge σ H Hp H').length := by
  have hok := L.ok
  have hlen : Hp.length ≤ H'.length := hw.len
  have hl : ∀ {b}, b < w.heap.size → b < w'.heap.size := fun h => Nat.lt_of_lt_of_le h hw.size
  have hag : ∀ q, q < Hp.length → ρp q = rhoOf σ ρ q := hw.agree
  have hlow : ∀ r, r < H.length → rhoM ρ ρp H.length Hp.length r = ρ r := fun r hr => by simp only [rhoM, if_pos hr]
  have hhigh : ∀ r, H.length ≤ r → rhoM ρ ρp H.length Hp.length r = ρp (Hp.length + (r - H.length)) := fun r hr => by simp only [rhoM, if_neg (Nat.not_lt.2 hr)]
  have hml : (merge σ H Hp H').length = H.length + (H'.length - Hp.length) := merge_len hok
  have href : ∀ q i, q < H'.length → pla (rhoM ρ ρp H.length Hp.length) (renRef σ H.length Hp.length q i).1 (renRef σ H.length Hp.length q i).2 = pla ρp q i ∧ (renRef σ H.length Hp.length q i).1 < (merge σ H Hp H').length := by
    intro q i hq
    rcases Nat.lt_or_ge q Hp.length with h | h
    · rw [renRef_low h]
      obtain ⟨h3, hv⟩ := L.low h i
      refine ⟨?_, by rw [hml]; omega⟩
      have e : rhoM ρ ρp H.length Hp.length (srcAt σ q i).1 (srcAt σ q i).2 = ρp q i := by
        rw [hlow _ h3, hag q h, hv]
      funext k
      simp only [pla, e]
    · rw [renRef_high h]
      refine ⟨?_, by rw [hml]; omega⟩
      have e : rhoM ρ ρp H.length Hp.length (H.length + (q - Hp.length)) = ρp q := by
        rw [hhigh _ (by omega), show Hp.length + (H.length + (q - Hp.length) - H.length) = q by omega]
      funext k
      simp only [pla, e]
  refine ⟨?_, href⟩
  -- an old region: what it was, and either it has changed or not
  have key : ∀ r g1, r < H.length → getReg (merge σ H Hp H') r = some g1 → ∃ g, getReg H r = some g ∧ (g1.own = true → g.own = true) ∧ (∀ i, g1.has i → g1.el = g.el ∧ g1.tot = g.tot) ∧ (∀ i, g1.has i → g.has i) ∧
      ∀ i, g1.has i → ((∀ q g2 i', getReg Hp q = some g2 → g2.has i' → g2.own = true → srcAt σ q i' ≠ (r, i)) ∧ g1.at i = g.at i) ∨
        (∃ q g' gq, getReg Hp q = some gq ∧ gq.has 0 ∧ gq.own = true ∧ getReg H' q = some g' ∧ g'.has 0 ∧ g'.own = true ∧ ρp q 0 = ρ r i ∧ g1.at i = ren σ H.length Hp.length (g'.at 0)) := by
    intro r g1 hr h1
    rw [merge_low hok hr] at h1
    by_cases hk : ∃ (j : Nat) (x : Src), σ[j]? = some x ∧ srcKey x = some r
    · obtain ⟨j, x, hx, hxr⟩ := hk
      have hj : j < Hp.length := by rw [← L.len]; exact (List.getElem?_eq_some_iff.1 hx).1
      obtain ⟨gq, hgq⟩ : ∃ g', getReg Hp j = some g' := ⟨Hp[j], by rw [getReg_eq]; exact List.getElem?_eq_getElem hj⟩
      rw [mergeL_at hok j x r hx hxr, Nat.zero_add] at h1
      obtain ⟨g', hg', hfl⟩ := mergeOk_at hm j x hx
      rw [Nat.zero_add] at hg' hfl
      have hgs : getSrc σ j = x := by rw [getSrc_eq, hx]; rfl
      have ho : ownOf (getReg Hp j) = gq.own := by rw [hgq]; rfl
      rw [ho] at h1 hfl
      simp only [merged, hg'] at h1
      have same : ∀ {i : Nat}, gq.own = false → ∀ {q g2 i'}, getReg Hp q = some g2 → g2.has i' → g2.own = true → srcAt σ q i' ≠ (r, i) := by
        intro i ho' q g2 i' hq hi' ho2 e
        obtain ⟨y, _, b1, b2, _⟩ := L.at hq hi'
        rw [e] at b2
        have : q = j := (srcOk_spec hok).2 q j y x r b1 hx b2 hxr
        subst this
        rw [hgq] at hq
        simp only [Option.some.injEq] at hq
        subst hq
        rw [ho'] at ho2
        cases ho2
      cases hoq : gq.own with
      | false =>
        rw [hoq] at h1
        simp only at h1
        exact ⟨g1, h1, id, fun _ _ => ⟨rfl, rfl⟩, fun _ => id, fun i hi => .inl ⟨fun q g2 i' hq hi' ho2 => same hoq hq hi' ho2, rfl⟩⟩
      | true =>
        rw [hoq] at h1
        obtain ⟨x', hx', hlr⟩ := L.src j gq hgq
        rw [hx] at hx'
        simp only [Option.some.injEq] at hx'
        subst hx'
        rcases hfl hoq with ⟨f1, f2, f3⟩ | ⟨f1, f2, r', rfl⟩
        rotate_left
        · have : r' = r := by simpa [srcKey] using hxr
          subst this
          simp only at h1
          cases hg : getReg H r' with
          | none => rw [hg] at h1; cases h1
          | some g =>
            rw [hg] at h1
            simp only [Option.map_some, Option.some.injEq, plNew, f1] at h1
            subst h1
            exact ⟨g, rfl, fun h => by simp [dead] at h, fun i hi => absurd hi dead_has, fun i hi => absurd hi dead_has, fun i hi => absurd hi dead_has⟩
        have hg'0 : g'.has 0 := by simp [Reg.has, f2]
        have hat' : g'.at 0 = g'.c 0 := by simp [Reg.at, f2]
        rcases f3 with ⟨r', rfl⟩ | ⟨r', i0, rfl⟩
        · have : r' = r := by simpa [srcKey] using hxr
          subst this
          simp only at h1
          unfold leReg at hlr
          simp only at hlr
          split at hlr
          · rename_i g hg
            split at hlr
            · rename_i p1 p2 p3 p4
              rw [hg] at h1
              simp only [Option.map_some, Option.some.injEq, plNew, f2] at h1
              subst h1
              refine ⟨g, hg, id, fun _ _ => ⟨rfl, rfl⟩, fun i hi => hi, fun i hi => .inr ⟨j, g', gq, hgq, by simp [Reg.has, p1], hoq, hg', hg'0, f1, ?_, ?_⟩⟩
              · have hi0 : i = 0 := by simpa [Reg.has, p2] using hi
                subst hi0
                rw [hag j hj]
                simp only [rhoOf, hgs]
              · rw [hat']
                simp only [Reg.at, p2]
            · exact hlr.elim
          · exact hlr.elim
        · have : r' = r := by simpa [srcKey] using hxr
          subst this
          simp only at h1
          unfold leReg at hlr
          simp only at hlr
          split at hlr
          · rename_i g hg
            split at hlr
            · rename_i p1 p2 p3 p4
              rw [hg] at h1
              simp only [Option.map_some, Option.some.injEq] at h1
              subst h1
              have hq0 : gq.has 0 := by simp [Reg.has, p1]
              have hi0 : g.has i0 := by simp only [Reg.has, p2]; exact hlr.1
              refine ⟨g, hg, fun h => by rw [regSet_own] at h; exact h, fun _ _ => ⟨regSet_el, regSet_tot⟩, fun i hi => regSet_has.1 hi, fun i hi => ?_⟩
              have hi := regSet_has.1 hi
              rw [regSet_at hi0 hi]
              by_cases hii : i = i0
              · subst hii
                refine .inr ⟨j, g', gq, hgq, hq0, hoq, hg', hg'0, f1, ?_, by rw [if_pos rfl, hat']⟩
                rw [hag j hj]
                simp only [rhoOf, hgs]
              · refine .inl ⟨fun q g2 i' hq hi' ho2 e => ?_, by rw [if_neg hii]⟩
                have h1 : j = q := L.one hgq hq hq0 hi' (by rw [e]; simp only [srcAt, rhoOf, hgs, rho0])
                subst h1
                have : srcAt σ j i' = (r', i0) := by simp only [srcAt, rhoOf, hgs, rho0]
                rw [this] at e
                simp only [Prod.mk.injEq, true_and] at e
                exact hii e.symm
            · exact hlr.elim
          · exact hlr.elim
    · rw [(mergeL_get hok).2 r fun j x hx e => hk ⟨j, x, hx, e⟩] at h1
      refine ⟨g1, h1, id, fun _ _ => ⟨rfl, rfl⟩, fun _ => id, fun i hi => .inl ⟨fun q g2 i' hq hi' ho2 e => ?_, rfl⟩⟩
      obtain ⟨y, _, b1, b2, _⟩ := L.at hq hi'
      rw [e] at b2
      exact hk ⟨q, y, b1, b2⟩
  refine ⟨⟨fun r g i hr hi => ?_, fun r g i hr hi ho => ?_, fun r g i hr hi => ?_, fun r1 g1 i1 r2 g2 i2 e1 h1 ho e2 h2 hb => ?_⟩, by rw [hml]; exact Nat.le_add_right _ _, fun r hr => hlow r hr, fun r g hr e => ?_,
    fun r g i hr e hi => ?_, hw.os, hw.tape, hw.out, hw.size, hw.shape, fun b hb hno => ?_⟩
  · rcases Nat.lt_or_ge r H.length with h | h
    · obtain ⟨g0, k1, k2, k3, k5, k6⟩ := key r g h hr
      have hi0 := k5 i hi
      rw [hlow r h]
      obtain ⟨gd, hd⟩ := L.hok.holds r g0 i k1 hi0
      rcases k6 i hi with ⟨a, b⟩ | ⟨q, g', gq, b1, b2, b3, b4, b5, b6, b7, b8⟩
      · rw [b, wc_of_heap (L.still hw k1 hi0 a)]
        refine ⟨gd.mono (by rw [hml]; exact Nat.le_add_right _ _), holds_agree (fun r hr => hlow r hr) gd hd⟩
      · obtain ⟨gp, hp⟩ := hw.hok.holds q g' 0 b4 b5
        obtain ⟨c1, _, _, c4⟩ := ren_spec href gp
        rw [b8]
        refine ⟨c1, ?_⟩
        rw [b7] at hp
        exact c4 _ _ hp
    · obtain ⟨g0, k1, rfl⟩ := merge_high hok h hr
      rw [renReg_at, hhigh r h]
      obtain ⟨gp, hp⟩ := hw.hok.holds _ g0 i k1 hi
      obtain ⟨c1, _, _, c4⟩ := ren_spec href gp
      exact ⟨c1, c4 _ _ hp⟩
  · rcases Nat.lt_or_ge r H.length with h | h
    · obtain ⟨g0, k1, k2, k3, k5, k6⟩ := key r g h hr
      have hi0 := k5 i hi
      rw [hlow r h, (k3 i hi).1, (k3 i hi).2]
      obtain ⟨h0, arr, ha, ht⟩ := L.hok.own r g0 i k1 hi0 (k2 ho)
      refine ⟨h0, ?_⟩
      rcases k6 i hi with ⟨a, _⟩ | ⟨q, g', gq, b1, b2, b3, b4, b5, b6, b7, _⟩
      · exact ⟨arr, by rw [L.still hw k1 hi0 a]; exact ha, ht⟩
      · obtain ⟨_, arr', ha', _⟩ := hw.hok.own q g' 0 b4 b5 b6
        rw [b7] at ha'
        obtain ⟨e1, e2⟩ := shape_cells (hw.shape _ (L.hok.lt _ _ _ k1 hi0)) ha ha'
        exact ⟨arr', by rw [ha', e1], by rw [e2]; exact ht⟩
    · obtain ⟨g0, k1, rfl⟩ := merge_high hok h hr
      rw [hhigh r h]
      exact hw.hok.own _ g0 i k1 hi ho
  · rcases Nat.lt_or_ge r H.length with h | h
    · obtain ⟨g0, k1, _, _, k5, _⟩ := key r g h hr
      rw [hlow r h]
      exact hl (L.hok.lt r g0 i k1 (k5 i hi))
    · obtain ⟨g0, k1, rfl⟩ := merge_high hok h hr
      rw [hhigh r h]
      exact hw.hok.lt _ g0 i k1 hi
  · have far : ∀ r g i r' g' i', r < H.length → getReg (merge σ H Hp H') r = some g → g.has i → H.length ≤ r' → getReg (merge σ H Hp H') r' = some g' → g'.has i' →
        (rhoM ρ ρp H.length Hp.length r i).1 ≠ (rhoM ρ ρp H.length Hp.length r' i').1 := by
      intro r g i r' g' i' h hr hi h' hr' hi' hb'
      obtain ⟨g0, k1, _, _, k5, k6⟩ := key r g h hr
      obtain ⟨g0', k1', rfl⟩ := merge_high hok h' hr'
      rw [hlow r h, hhigh r' h'] at hb'
      have hi0 := k5 i hi
      have a := L.hok.lt r g0 i k1 hi0
      rcases hw.new _ g0' i' (by show Hp.length ≤ _; omega) k1' hi' with b | ⟨q0, gq0, j0, c1, c2, c3, c4⟩
      · have b : w.heap.size ≤ _ := b
        omega
      · have c4 : (rhoOf σ ρ q0 j0).1 = _ := c4
        obtain ⟨x, g2, _, _, a3, a4, a5, a6, _⟩ := L.at c1 c3
        rw [← hb', a5] at c4
        obtain ⟨e1, e2⟩ := L.hok.apart _ _ _ _ _ _ a3 a4 (a6 c2) k1 hi0 c4
        rcases k6 i hi with ⟨d, _⟩ | ⟨q, g', gq, b1, b2, b3, b4, b5, b6, b7, _⟩
        · exact d q0 gq0 j0 c1 c3 c2 (Prod.ext e1 e2)
        · rw [← b7] at hb'
          have := (hw.hok.apart _ _ _ _ _ _ b4 b5 b6 k1' hi' hb').1
          have := getReg_lt b1
          omega
    rcases Nat.lt_or_ge r1 H.length with h | h <;> rcases Nat.lt_or_ge r2 H.length with h' | h'
    · obtain ⟨a1, k1, k2, _, k5, _⟩ := key r1 g1 h e1
      obtain ⟨a2, l1, _, _, l5, _⟩ := key r2 g2 h' e2
      rw [hlow r1 h, hlow r2 h'] at hb
      exact L.hok.apart _ _ _ _ _ _ k1 (k5 i1 h1) (k2 ho) l1 (l5 i2 h2) hb
    · exact absurd hb (far r1 g1 i1 r2 g2 i2 h e1 h1 h' e2 h2)
    · exact absurd hb.symm (far r2 g2 i2 r1 g1 i1 h' e2 h2 h e1 h1)
    · obtain ⟨a1, k1, rfl⟩ := merge_high hok h e1
      obtain ⟨a2, l1, rfl⟩ := merge_high hok h' e2
      rw [hhigh r1 h, hhigh r2 h'] at hb
      obtain ⟨x, y⟩ := hw.hok.apart _ _ _ _ _ _ k1 h1 ho l1 h2 hb
      exact ⟨by omega, y⟩
  · obtain ⟨g0, k1, k2, _, k5, _⟩ := key r g hr e
    exact ⟨g0, k1, k2, k5⟩
  · obtain ⟨g0, k1, rfl⟩ := merge_high hok hr e
    rw [hhigh r hr]
    rcases hw.new _ g0 i (by show Hp.length ≤ _; have : H.length ≤ r := hr; omega) k1 hi with b | ⟨q0, gq0, j0, c1, c2, c3, c4⟩
    · exact .inl b
    · have c4 : (rhoOf σ ρ q0 j0).1 = _ := c4
      obtain ⟨x, g2, _, _, a3, a4, a5, a6, _⟩ := L.at c1 c3
      exact .inr ⟨_, g2, _, a3, a6 c2, a4, by rw [← c4, a5]⟩
  · refine hw.frame b hb fun q g' i' hq ho hi' hb' => ?_
    obtain ⟨x, g2, _, _, a3, a4, a5, a6, _⟩ := L.at hq hi'
    have hb' : (rhoOf σ ρ q i').1 = b := hb'
    rw [a5] at hb'
    exact hno _ g2 _ a3 (a6 ho) a4 hb'

/-- WHAT IS TOLD OF A SMALL HEAP, USED OF A GREATER ONE. -/
theorem Spec.emb {f : FuncId} {σ : List Src} {args args' : List T} {H Hp : List Reg} {o : Out} {K : R → List Reg → Prop} (hn : noTop args' = true) (hp : ∀ K', o.wp false Hp K' → Spec P f args' Hp K')
    (h : (emb σ args H args' Hp o).wp false H K) : Spec P f args H K := by
  unfold Go.Sx.emb at h
  split at h
  · rename_i hok
    obtain ⟨⟨h1, h2⟩, h3⟩ := h
    intro ρ w hk hG hg
    obtain ⟨L, hkp⟩ := Lies.start (w := w) hok h2 hk
    have hGp : GOk (rhoOf σ ρ) Hp w := fun x hx => by
      obtain ⟨g1, g2⟩ := hG x hx
      refine ⟨g1, fun q g' i' hq hi' ho hb => ?_⟩
      obtain ⟨x', gg, _, _, a3, a4, a5, a6, _⟩ := L.at hq hi'
      rw [a5] at hb
      exact g2 _ gg _ a3 a4 (a6 ho) hb
    obtain ⟨e1, e2⟩ := leSl_args (ρ := ρ) h1 hn hg
    have hS := hp _ (renOut_wp h3) (rhoOf σ ρ) w hkp hGp (by rw [← L.len]; exact e2)
    rw [e1] at hS
    refine hS.mono ?_
    rintro e w' ⟨r, ρp, H', hK, hw, hr⟩
    rcases hK with ⟨rfl, hK⟩ | ⟨hm, hK⟩
    · have hw' := L.quiet hw
      refine ⟨_, ρ, H, hK, hw', ?_⟩
      have hlo : ∀ q i, q < H'.length → pla ρ (renRef σ H.length H'.length q i).1 (renRef σ H.length H'.length q i).2 = pla ρp q i ∧ (renRef σ H.length H'.length q i).1 < H.length := by
        intro q i hq
        rw [renRef_low hq]
        obtain ⟨a, b⟩ := L.low hq i
        refine ⟨?_, a⟩
        have hag : ρp q = rhoOf σ ρ q := hw.agree q hq
        funext k
        simp only [pla, ← b, hag]
      cases r with
      | ret v =>
        obtain ⟨rfl, hg'⟩ := hr
        obtain ⟨c1, c2⟩ := ren_S hlo hg'
        exact ⟨by rw [c1], c2⟩
      | pan v =>
        obtain ⟨rfl, hg'⟩ := hr
        obtain ⟨c1, _⟩ := ren_S hlo (good_S hg')
        exact ⟨by rw [c1], (ren_spec hlo hg').1⟩
    · obtain ⟨hw', href⟩ := L.loud hw hm
      refine ⟨_, _, _, hK, hw', ?_⟩
      cases r with
      | ret v =>
        obtain ⟨rfl, hg'⟩ := hr
        obtain ⟨c1, c2⟩ := ren_S href hg'
        exact ⟨by rw [c1], c2⟩
      | pan v =>
        obtain ⟨rfl, hg'⟩ := hr
        obtain ⟨c1, _⟩ := ren_S href (good_S hg')
        exact ⟨by rw [c1], (ren_spec href hg').1⟩
  · exact h.elim

end
end Go.Sx
