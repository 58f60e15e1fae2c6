import Derived.Test.YtjofnajamlmllaaDoorSxWalk
namespace Go.Sx

/-! ## Out of one state another -/
def rhoOf (σ : List Src) (ρ : Rho) : Rho := fun r' i' =>
  match getSrc σ r' with
  | .none => (0, 0)
  | .gone r => ρ r i'
  | .pl r => ρ r i'
  | .fam r => ρ r i'
  | .mem r i => ρ r i

theorem getSrc_eq (σ : List Src) (r : Nat) : getSrc σ r = (σ[r]?).getD .none := by
  induction σ generalizing r with
  | nil => rfl
  | cons x l ih => cases r with
    | zero => rfl
    | succ r => simp only [getSrc, ih, List.getElem?_cons_succ]

theorem getSrc_lt {σ : List Src} {r : Nat} (h : getSrc σ r ≠ .none) : r < σ.length := by
  rw [getSrc_eq] at h
  rcases Nat.lt_or_ge r σ.length with h1 | h1
  · exact h1
  · rw [List.getElem?_eq_none h1] at h
    exact absurd rfl h

theorem leRef_spec {σ : List Src} {ρ : Rho} {r i r' i' : Nat} (h : leRef σ r i r' i') : r' < σ.length ∧ rhoOf σ ρ r' i' = ρ r i := by
  unfold leRef at h
  unfold rhoOf
  split at h
  · exact h.elim
  · exact h.elim
  · rename_i r0 hr
    split at h
    · rename_i hb
      have hb := beq_nat hb
      subst hb
      exact ⟨getSrc_lt (by rw [hr]; simp), by rw [hr]⟩
    · exact h.elim
  · rename_i r0 hr
    split at h
    · rename_i hb
      have hb := beq_nat hb
      subst hb
      exact ⟨getSrc_lt (by rw [hr]; simp), by rw [hr, h]⟩
    · exact h.elim
  · rename_i r0 i0 hr
    split at h
    · rename_i hb
      have hb := beq_nat hb
      subst hb
      exact ⟨getSrc_lt (by rw [hr]; simp), by rw [hr, h]⟩
    · exact h.elim

theorem leP_spec : ∀ {p p' : List St}, leP p p' → off p' = off p
  | [], [], _ => rfl
  | .f o :: p, .f o' :: p', h => by
    simp only [leP] at h
    split at h
    · rename_i hb
      have hb := beq_nat hb
      subst hb
      simp only [off, leP_spec h]
    · exact h.elim
  | .x j sz :: p, .x j' sz' :: p', h => by
    simp only [leP] at h
    split at h
    · rename_i hb
      have hb := beq_nat hb
      subst hb
      obtain ⟨rfl, h⟩ := h
      simp only [off, leP_spec h]
    · exact h.elim
  | [], _ :: _, h | _ :: _, [], h | .f _ :: _, .x .. :: _, h | .x .. :: _, .f _ :: _, h => by simp [leP] at h

/-- What is wanted holds. -/
theorem le_spec {σ : List Src} {ρ : Rho} {n : Nat} : ∀ {t t' : T}, le σ t t' → Good n t → Good σ.length t' ∧ t'.size = t.size ∧ t'.cv (rhoOf σ ρ) = t.cv ρ ∧ ∀ (m : Cells) (o : Nat), Holds ρ m t o → Holds (rhoOf σ ρ) m t' o := by
  intro t
  induction t with
  | int k a =>
    intro t' h _
    simp only [le] at h
    split at h
    · split at h
      · rename_i hk; have := kEq_eq hk; subst this; subst h; exact ⟨trivial, rfl, rfl, fun _ _ q => q⟩
      · exact h.elim
    · exact h.elim
  | bool a =>
    intro t' h _
    simp only [le] at h
    split at h <;> first | (subst h; exact ⟨trivial, rfl, rfl, fun _ _ q => q⟩) | exact h.elim
  | tt =>
    intro t' h _
    simp only [le] at h
    split at h <;> first | (subst h; exact ⟨trivial, rfl, rfl, fun _ _ q => q⟩) | exact ⟨trivial, rfl, rfl, fun _ _ q => q⟩ | exact h.elim
  | ff =>
    intro t' h _
    simp only [le] at h
    split at h <;> first | (subst h; exact ⟨trivial, rfl, rfl, fun _ _ q => q⟩) | exact ⟨trivial, rfl, rfl, fun _ _ q => q⟩ | exact h.elim
  | str a => intro t' h _; simp only [le] at h; split at h <;> first | (subst h; exact ⟨trivial, rfl, rfl, fun _ _ q => q⟩) | exact h.elim
  | ptr r i p =>
    intro t' h _
    simp only [le] at h
    split at h
    · obtain ⟨h1, h2⟩ := leRef_spec (ρ := ρ) h.1
      have h3 := leP_spec h.2
      refine ⟨h1, rfl, by simp only [T.cv, pla, h2, h3], fun m o q => ?_⟩
      simp only [Holds, pla, h2, h3] at q ⊢
      exact q
    · exact h.elim
  | nilp => intro t' h _; simp only [le] at h; split at h <;> first | exact ⟨trivial, rfl, rfl, fun _ _ q => q⟩ | exact h.elim
  | slice r i p lo sz len cap =>
    intro t' h _
    simp only [le] at h
    split at h
    · split at h
      · rename_i hb
        have hb := beq_nat hb
        subst hb
        obtain ⟨h0, hp, rfl, rfl, rfl⟩ := h
        obtain ⟨h1, h2⟩ := leRef_spec (ρ := ρ) h0
        have h3 := leP_spec hp
        refine ⟨h1, rfl, by simp only [T.cv, pla, h2, h3], fun m o q => ?_⟩
        simp only [Holds, pla, h2, h3] at q ⊢
        exact q
      · exact h.elim
    · split at h
      · rename_i hb
        have hb := beq_nat hb
        subst hb
        obtain ⟨rfl, h0, hp, rfl, rfl, rfl⟩ := h
        obtain ⟨h1, h2⟩ := leRef_spec (ρ := ρ) h0
        have h3 := leP_spec hp
        refine ⟨⟨rfl, (fun e => nomatch e), fun _ => h1⟩, rfl, by simp only [T.cv, pla, h2, h3, cond_false], fun m o q => ⟨(fun e => nomatch e), fun _ => ?_⟩⟩
        simp only [Holds, pla, h2, h3] at q ⊢
        exact q
      · exact h.elim
    · exact h.elim
  | nils =>
    intro t' h _
    simp only [le] at h
    split at h
    · exact ⟨trivial, rfl, rfl, fun _ _ q => q⟩
    · subst h
      exact ⟨⟨rfl, fun _ => trivial, (fun e => nomatch e)⟩, rfl, rfl, fun m o q => ⟨fun _ => q, (fun e => nomatch e)⟩⟩
    · exact h.elim
  | fn f c ih =>
    intro t' h g
    simp only [le] at h
    split at h
    · split at h
      · rename_i hb
        have hb := beq_nat hb
        subst hb
        obtain ⟨g1, _, c1, _⟩ := ih h g
        refine ⟨g1, rfl, by simp only [T.cv, c1], fun m o q => ?_⟩
        simp only [Holds, c1] at q ⊢
        exact q
      · exact h.elim
    · exact h.elim
  | nilf => intro t' h _; simp only [le] at h; split at h <;> first | exact ⟨trivial, rfl, rfl, fun _ _ q => q⟩ | exact h.elim
  | iface ty v ih =>
    intro t' h g
    simp only [le] at h
    split at h
    · split at h
      · rename_i hb
        have hb := beq_nat hb
        subst hb
        obtain ⟨g1, _, c1, _⟩ := ih h g
        refine ⟨g1, rfl, by simp only [T.cv, c1], fun m o q => ?_⟩
        simp only [Holds, c1] at q ⊢
        exact q
      · exact h.elim
    · exact h.elim
  | nili => intro t' h _; simp only [le] at h; split at h <;> first | exact ⟨trivial, rfl, rfl, fun _ _ q => q⟩ | exact h.elim
  | nil => intro t' h _; simp only [le] at h; split at h <;> first | exact ⟨trivial, rfl, rfl, fun _ _ q => q⟩ | exact h.elim
  | cons x y ih1 ih2 =>
    intro t' h g
    simp only [le] at h
    split at h
    · obtain ⟨g1, s1, c1, q1⟩ := ih1 h.1 g.1
      obtain ⟨g2, s2, c2, q2⟩ := ih2 h.2 g.2
      refine ⟨⟨g1, g2⟩, by simp only [T.size, s1, s2], by simp only [T.cv, c1, c2], fun m o q => ⟨q1 m o q.1, ?_⟩⟩
      rw [s1]
      exact q2 m _ q.2
    · exact h.elim
  | arr k sz f ih =>
    intro t' h g
    have hq : ∃ f', t' = .arr k sz f' ∧ ∀ j, j < k → le σ (f j) (f' j) := by
      rw [le.eq_def] at h
      cases t' with
      | arr n' sz' f' =>
        simp only at h
        split at h
        · rename_i hb
          have hb := beq_nat hb
          subst hb
          obtain ⟨rfl, h⟩ := h
          exact ⟨f', rfl, h⟩
        · exact h.elim
      | _ => exact h.elim
    clear h
    obtain ⟨f', rfl, h⟩ := hq
    refine ⟨fun j hj => ?_, rfl, ?_, fun m o q j hj => (ih j (h j hj) (g j hj).2).2.2.2 m _ (q j hj)⟩
    · obtain ⟨g1, s1, _, _⟩ := ih j (h j hj) (g j hj).2
      exact ⟨s1.trans (g j hj).1, g1⟩
    · have e : (List.range k).flatMap (fun j => ((f' j).cv (rhoOf σ ρ)).cells) = (List.range k).flatMap (fun j => ((f j).cv ρ).cells) := by
        rw [List.flatMap_def, List.flatMap_def, List.map_congr_left fun j hj => by rw [(ih j (h j (List.mem_range.1 hj)) (g j (List.mem_range.1 hj)).2).2.2.1]]
      simp only [T.cv, e]
  | ite b x y ih1 ih2 =>
    intro t' h g
    simp only [le] at h
    have gen : ∀ {t' : T}, (b = true → le σ x t') ∧ (b = false → le σ y t') → Good σ.length t' ∧ t'.size = (T.ite b x y).size ∧ t'.cv (rhoOf σ ρ) = (T.ite b x y).cv ρ ∧ ∀ (m : Cells) (o : Nat), Holds ρ m (T.ite b x y) o → Holds (rhoOf σ ρ) m t' o := by
      intro t' h
      cases b with
      | true =>
        obtain ⟨g1, s1, c1, q1⟩ := ih1 (h.1 rfl) (g.2.1 rfl)
        exact ⟨g1, s1, c1, fun m o q => q1 m o (q.1 rfl)⟩
      | false =>
        obtain ⟨g1, s1, c1, q1⟩ := ih2 (h.2 rfl) (g.2.2 rfl)
        exact ⟨g1, by simp only [T.size, s1]; exact g.1.symm, c1, fun m o q => q1 m o (q.2 rfl)⟩
    split at h
    · rename_i b' u' y'
      split at h
      · split at h
        · rename_i hb
          have hb := beq_nat hb
          obtain ⟨rfl, h⟩ := h
          cases b with
          | true =>
            obtain ⟨g1, s1, c1, q1⟩ := ih1 (h.1 rfl) (g.2.1 rfl)
            exact ⟨⟨hb, fun _ => g1, (fun e => nomatch e)⟩, s1, c1, fun m o q => ⟨fun _ => q1 m o (q.1 rfl), (fun e => nomatch e)⟩⟩
          | false =>
            obtain ⟨g1, s1, c1, q1⟩ := ih2 (h.2 rfl) (g.2.2 rfl)
            exact ⟨⟨hb, (fun e => nomatch e), fun _ => g1⟩, hb.trans (s1.trans g.1.symm), c1, fun m o q => ⟨(fun e => nomatch e), fun _ => q1 m o (q.2 rfl)⟩⟩
        · exact h.elim
      · exact gen h
    · exact gen h
  | top => intro t' h g; exact g.elim
  | tup ts _ => intro t' h g; exact g.elim
  | raw v => intro t' h g; exact g.elim

theorem leS_slot {σ : List Src} {ρ : Rho} {n : Nat} {t t' : T} {v : Value} (h : le σ t t') (hs : SlOk ρ n t v) : SlOk (rhoOf σ ρ) σ.length t' v := by
  cases t with
  | top => simp [le] at h
  | raw u =>
    simp only [le] at h
    split at h
    · subst h; exact ⟨hs.1, trivial⟩
    · exact h.elim
  | tup ts =>
    simp only [le] at h
    split at h
    · rename_i ts'
      obtain ⟨g1, _, c1, _⟩ := le_spec (ρ := ρ) (n := n) h hs.2
      refine ⟨?_, g1⟩
      rw [← hs.1]
      simp only [Sx.val, T.cv, c1]
    · exact h.elim
  | _ =>
    obtain ⟨hv, hg⟩ := hs
    obtain ⟨g1, _, c1, _⟩ := le_spec (ρ := ρ) (n := n) h hg
    rw [← hv]
    simp only [Sx.val]
    rw [← c1]
    exact SlOk.of_good g1

theorem leTr_rest {σ : List Src} {s : Sl} : ∀ {t : Tr} {d o : Nat} {K : Prop}, leTr σ s t d o K → K
  | .nil, _, _, _, h => h
  | .leaf v, _, _, _, h => by
    simp only [leTr] at h
    split at h
    · exact h
    · exact h.2
  | .two l r, _, _, _, h => leTr_rest (t := r) (leTr_rest (t := l) h)

theorem leTr_get {σ : List Src} {s : Sl} : ∀ {t : Tr} {d o : Nat} {K : Prop}, leTr σ s t d o K → ∀ k, t.get d k = .top ∨ le σ (s.get (o + k)) (t.get d k)
  | .nil, _, _, _, _, _ => .inl rfl
  | .leaf v, d, o, K, h, k => by
    cases d with
    | succ d => exact .inl rfl
    | zero => cases k with
      | succ k => exact .inl rfl
      | zero =>
        simp only [leTr] at h
        split at h
        · exact .inl rfl
        · exact .inr h.1
  | .two l r, d, o, K, h, k => by
    cases d with
    | zero => exact .inl rfl
    | succ d =>
      have h : leTr σ s l d o (leTr σ s r d (o + Nat.pow 2 d) K) := h
      cases hb : Nat.ble (Nat.pow 2 d) k <;> simp only [Tr.get, hb]
      · exact leTr_get h k
      · have := leTr_get (leTr_rest h) (Nat.sub k (Nat.pow 2 d))
        have e : o + Nat.pow 2 d + Nat.sub k (Nat.pow 2 d) = o + k := by
          have := Nat.le_of_ble_eq_true hb
          have e : Nat.sub k (Nat.pow 2 d) = k - Nat.pow 2 d := rfl
          rw [e]
          omega
        rw [e] at this
        exact this

theorem leSls_spec {σ : List Src} {s s' : Sl} (h : leSls σ s s') : s'.n = s.n ∧ ∀ k, s'.get k = .top ∨ le σ (s.get k) (s'.get k) := by
  unfold leSls at h
  split at h
  · rename_i hn
    refine ⟨Nat.eq_of_beq_eq_true hn, fun k => ?_⟩
    have := leTr_get h k
    rw [Nat.zero_add] at this
    exact this
  · exact h.elim

theorem leHs_get {σ : List Src} {H : List Reg} : ∀ {l : List Src} {H' : List Reg}, leHs σ H l H' → l.length = H'.length ∧ ∀ r g', getReg H' r = some g' → ∃ x, l[r]? = some x ∧ leReg σ H x g'
  | [], [], _ => ⟨rfl, fun r g' h => by simp [getReg] at h⟩
  | x :: l, g :: H', h => by
    obtain ⟨i1, i2⟩ := leHs_get (l := l) (H' := H') h.2
    refine ⟨by simp [i1], fun r g' hr => ?_⟩
    cases r with
    | zero => simp only [getReg, Option.some.injEq] at hr; subst hr; exact ⟨x, rfl, h.1⟩
    | succ r => simpa using i2 r g' hr
  | [], _ :: _, h | _ :: _, [], h => by simp [leHs] at h

/-- What a region of the wanted heap comes from. -/
theorem leReg_spec {σ : List Src} {H : List Reg} {ρ : Rho} {x : Src} {g' : Reg} (h : leReg σ H x g') {r' : Nat} (hx : getSrc σ r' = x) {i' : Nat} (hi' : g'.has i') :
    ∃ r g i, srcKey x = some r ∧ getReg H r = some g ∧ g.has i ∧ rhoOf σ ρ r' i' = ρ r i ∧ (g'.own = true → g.own = true) ∧ g.el = g'.el ∧ g'.tot i' ≤ g.tot i ∧ le σ (g.at i) (g'.at i') ∧
      ((∃ r0, x = .pl r0 ∨ x = .fam r0) → i = i' ∧ ∀ j, g'.has j → g.has j) := by
  unfold leReg at h
  have hown : ∀ {a b : Bool}, (!a || b) = true → a = true → b = true := by intro a b; cases a <;> cases b <;> simp
  split at h
  · exact h.elim
  · split at h
    · rename_i p1 p2
      simp only [Reg.has, p1] at hi'
      omega
    · exact h.elim
  · rename_i r
    split at h
    · rename_i g hg
      split at h
      · rename_i p1 p2 p3 p4
        have h0 : i' = 0 := by simpa [Reg.has, p1] using hi'
        subst h0
        refine ⟨r, g, 0, rfl, hg, by simp [Reg.has, p2], by simp [rhoOf, hx], hown p3, beq_nat p4, h.1, ?_, fun _ => ⟨rfl, fun j hj => ?_⟩⟩
        · simpa [Reg.at, p1, p2] using h.2
        · simp only [Reg.has, p1] at hj; simp only [Reg.has, p2]; exact hj
      · exact h.elim
    · exact h.elim
  · rename_i r
    split at h
    · rename_i g hg
      split at h
      · rename_i p1 p2 p3 p4
        split at h
        · rename_i hlog
          have h0 : i' < g'.fam := by simpa [Reg.has, p1] using hi'
          obtain ⟨h1, h2⟩ := h
          obtain ⟨h3, h4⟩ := h2 i' h0
          refine ⟨r, g, i', rfl, hg, by simp only [Reg.has, p2]; omega, by simp [rhoOf, hx], hown p3, beq_nat p4, h3, ?_, fun _ => ⟨rfl, fun j hj => ?_⟩⟩
          · have := regK_spec h4
            simpa [Reg.at, p1, p2, hlog, atL] using this
          · simp only [Reg.has, p1] at hj; simp only [Reg.has, p2]; omega
        · exact h.elim
      · exact h.elim
    · exact h.elim
  · rename_i r i
    split at h
    · rename_i g hg
      split at h
      · rename_i p1 p2 p3 p4
        have h0 : i' = 0 := by simpa [Reg.has, p1] using hi'
        subst h0
        obtain ⟨h1, h2, h3⟩ := h
        refine ⟨r, g, i, rfl, hg, by simp only [Reg.has, p2]; exact h1, by simp [rhoOf, hx], hown p3, beq_nat p4, h2, ?_, fun ⟨r0, h⟩ => by rcases h with h | h <;> cases h⟩
        have := regK_spec h3
        simpa [Reg.at, p1, p2] using this
      · exact h.elim
    · exact h.elim
/-- Whatever holds the one holds the other. -/
def Sub (σ : List Src) (t t' : T) : Prop := ∀ (ρ : Rho) (n : Nat), Good n t → Good σ.length t' ∧ ∀ (m : Cells) (o : Nat), Holds ρ m t o → Holds (rhoOf σ ρ) m t' o
theorem le_sub {σ : List Src} {t t' : T} (h : le σ t t') : Sub σ t t' := fun ρ n g => by
  obtain ⟨e1, _, _, e4⟩ := le_spec (ρ := ρ) h g
  exact ⟨e1, e4⟩
theorem leC_sub {σ : List Src} {k : Nat} {t t' : T} (h : leC σ k t t') : Sub σ t t' := by
  unfold leC at h
  split at h
  · split at h
    · split at h
      · split at h
        · rename_i hb
          have hb := beq_nat hb
          subst hb
          intro ρ n g
          refine ⟨fun j hj => ?_, fun m o hh j hj => ?_⟩
          · obtain ⟨g1, g2⟩ := g j (by omega)
            obtain ⟨e1, e2, _, _⟩ := le_spec (ρ := ρ) (h.2 j hj) g2
            exact ⟨e2.trans g1, e1⟩
          · obtain ⟨g1, g2⟩ := g j (by omega)
            obtain ⟨_, _, _, e4⟩ := le_spec (ρ := ρ) (h.2 j hj) g2
            exact e4 _ _ (hh j (by omega))
        · exact h.elim
      · exact le_sub h
    · exact le_sub h
  · exact le_sub h
theorem le_leC {σ : List Src} {k : Nat} {t t' : T} (h : le σ t t') : leC σ k t t' := by
  unfold leC
  split
  · split
    · split
      · simp only [le] at h
        split at h
        · have e := h.1
          exact ⟨Nat.le_of_eq e, fun j hj => h.2 j (e ▸ hj)⟩
        · exact h.elim
      · exact h
    · exact h
  · exact h
theorem leReg_R {σ : List Src} {H : List Reg} {x : Src} {g' : Reg} (h : leReg σ H x g') : leRegR σ H x g' := by
  cases x with
  | pl r =>
    unfold leReg at h
    unfold leRegR
    simp only at h ⊢
    split at h
    · rename_i g hg
      split at h
      · exact ⟨h.1, le_leC h.2⟩
      · exact h.elim
    · exact h.elim
  | _ => exact h
theorem leHsR_get {σ : List Src} {H : List Reg} : ∀ {l : List Src} {H' : List Reg}, leHsR σ H l H' → l.length = H'.length ∧ ∀ r g', getReg H' r = some g' → ∃ x, l[r]? = some x ∧ leRegR σ H x g'
  | [], [], _ => ⟨rfl, fun r g' h => by simp [getReg] at h⟩
  | x :: l, g :: H', h => by
    obtain ⟨i1, i2⟩ := leHsR_get (l := l) (H' := H') h.2
    refine ⟨by simp [i1], fun r g' hr => ?_⟩
    cases r with
    | zero => simp only [getReg, Option.some.injEq] at hr; subst hr; exact ⟨x, rfl, h.1⟩
    | succ r => simpa using i2 r g' hr
  | [], _ :: _, h | _ :: _, [], h => by simp [leHsR] at h

theorem leHs_R {σ : List Src} {H : List Reg} : ∀ {l : List Src} {H' : List Reg}, leHs σ H l H' → leHsR σ H l H'
  | [], [], _ => trivial
  | x :: l, g :: l', h => ⟨leReg_R h.1, leHs_R h.2⟩
  | [], _ :: _, h | _ :: _, [], h => by simp [leHs] at h
theorem leRegR_spec {σ : List Src} {H : List Reg} {ρ : Rho} {x : Src} {g' : Reg} (h : leRegR σ H x g') {r' : Nat} (hx : getSrc σ r' = x) {i' : Nat} (hi' : g'.has i') :
    ∃ r g i, srcKey x = some r ∧ getReg H r = some g ∧ g.has i ∧ rhoOf σ ρ r' i' = ρ r i ∧ (g'.own = true → g.own = true) ∧ g.el = g'.el ∧ g'.tot i' ≤ g.tot i ∧ Sub σ (g.at i) (g'.at i') ∧
      ((∃ r0, x = .pl r0 ∨ x = .fam r0) → i = i' ∧ ∀ j, g'.has j → g.has j) := by
  have lift : leReg σ H x g' → _ := fun h => leReg_spec (ρ := ρ) h hx hi'
  have hown : ∀ {a b : Bool}, (!a || b) = true → a = true → b = true := by intro a b; cases a <;> cases b <;> simp
  cases x with
  | pl r =>
    unfold leRegR at h
    simp only at h
    split at h
    · rename_i g hg
      split at h
      · rename_i p1 p2 p3 p4
        have h0 : i' = 0 := by simpa [Reg.has, p1] using hi'
        subst h0
        refine ⟨r, g, 0, rfl, hg, by simp [Reg.has, p2], by simp [rhoOf, hx], hown p3, beq_nat p4, h.1, ?_, fun _ => ⟨rfl, fun j hj => ?_⟩⟩
        · have := leC_sub h.2
          simpa [Reg.at, p1, p2] using this
        · simp only [Reg.has, p1] at hj; simp only [Reg.has, p2]; exact hj
      · exact h.elim
    · exact h.elim
  | _ =>
    obtain ⟨r, g, i, a1, a2, a3, a4, a5, a6, a7, a8, a9⟩ := lift h
    exact ⟨r, g, i, a1, a2, a3, a4, a5, a6, a7, le_sub a8, a9⟩


theorem srcNew_spec {r : Nat} : ∀ {l : List Src}, srcNew r l = true → ∀ (k : Nat) (x : Src) (r' : Nat), l[k]? = some x → srcKey x = some r' → r ≠ r'
  | [], _, k, x, r', h, _ => by simp at h
  | y :: l, h, k, x, r', hk, hx => by
    simp only [srcNew] at h
    cases k with
    | zero =>
      simp at hk
      subst hk
      rw [hx] at h
      simp only [Bool.and_eq_true, Bool.not_eq_true'] at h
      intro e
      subst e
      rw [Nat.beq_refl] at h
      cases h.1
    | succ k =>
      have : srcNew r l = true := by
        split at h
        · simp only [Bool.and_eq_true] at h; exact h.2
        · exact h
      exact srcNew_spec this k x r' (by simpa using hk) hx

theorem srcOk_spec : ∀ {l : List Src}, srcOk l = true → (∀ (k : Nat) (x : Src), l[k]? = some x → ∃ r, srcKey x = some r) ∧ ∀ (k k' : Nat) (x x' : Src) (r : Nat), l[k]? = some x → l[k']? = some x' → srcKey x = some r → srcKey x' = some r → k = k'
  | [], _ => ⟨fun k x h => by simp at h, fun k k' x x' r h => by simp at h⟩
  | y :: l, h => by
    simp only [srcOk] at h
    split at h
    · rename_i r0 hr0
      simp only [Bool.and_eq_true] at h
      obtain ⟨i1, i2⟩ := srcOk_spec h.2
      refine ⟨fun k x hk => ?_, fun k k' x x' r hk hk' hx hx' => ?_⟩
      · cases k with
        | zero => simp at hk; subst hk; exact ⟨r0, hr0⟩
        | succ k => exact i1 k x (by simpa using hk)
      · cases k with
        | zero =>
          simp at hk
          subst hk
          cases k' with
          | zero => rfl
          | succ k' =>
            have : r0 = r := by rw [hr0] at hx; simpa using hx
            subst this
            exact absurd rfl (srcNew_spec h.1 k' x' r0 (by simpa using hk') hx')
        | succ k =>
          cases k' with
          | zero =>
            simp at hk'
            subst hk'
            have : r0 = r := by rw [hr0] at hx'; simpa using hx'
            subst this
            exact absurd rfl (srcNew_spec h.1 k x r0 (by simpa using hk) hx)
          | succ k' => rw [i2 k k' x x' r (by simpa using hk) (by simpa using hk') hx hx']
    · cases h

theorem srcOkG_spec : ∀ {l : List Src}, srcOkG l = true → (∀ (k : Nat) (x : Src), l[k]? = some x → (∃ r, x = .gone r) ∨ ∃ r, srcKey x = some r) ∧ ∀ (k k' : Nat) (x x' : Src) (r : Nat), l[k]? = some x → l[k']? = some x' → srcKey x = some r → srcKey x' = some r → k = k'
  | [], _ => ⟨fun k x h => by simp at h, fun k k' x x' r h => by simp at h⟩
  | y :: l, h => by
    simp only [srcOkG] at h
    split at h
    · rename_i r1
      obtain ⟨i1, i2⟩ := srcOkG_spec h
      refine ⟨fun k x hk => ?_, fun k k' x x' r hk hk' hx hx' => ?_⟩
      · cases k with
        | zero => simp at hk; subst hk; exact .inl ⟨r1, rfl⟩
        | succ k => exact i1 k x (by simpa using hk)
      · cases k with
        | zero => simp at hk; subst hk; simp [srcKey] at hx
        | succ k =>
          cases k' with
          | zero => simp at hk'; subst hk'; simp [srcKey] at hx'
          | succ k' => rw [i2 k k' x x' r (by simpa using hk) (by simpa using hk') hx hx']
    · split at h
      · rename_i r0 hr0
        simp only [Bool.and_eq_true] at h
        obtain ⟨i1, i2⟩ := srcOkG_spec h.2
        refine ⟨fun k x hk => ?_, fun k k' x x' r hk hk' hx hx' => ?_⟩
        · cases k with
          | zero => simp at hk; subst hk; exact .inr ⟨r0, hr0⟩
          | succ k => exact i1 k x (by simpa using hk)
        · cases k with
          | zero =>
            simp at hk
            subst hk
            cases k' with
            | zero => rfl
            | succ k' =>
              have : r0 = r := by rw [hr0] at hx; simpa using hx
              subst this
              exact absurd rfl (srcNew_spec h.1 k' x' r0 (by simpa using hk') hx')
          | succ k =>
            cases k' with
            | zero =>
              simp at hk'
              subst hk'
              have : r0 = r := by rw [hr0] at hx'; simpa using hx'
              subst this
              exact absurd rfl (srcNew_spec h.1 k x r0 (by simpa using hk) hx)
            | succ k' => rw [i2 k k' x x' r (by simpa using hk) (by simpa using hk') hx hx']
      · cases h

theorem srcOkG_of {l : List Src} (h : srcOk l = true) : srcOkG l = true := by
  induction l with
  | nil => rfl
  | cons x l ih =>
    simp only [srcOk] at h
    split at h
    · rename_i r hr
      simp only [Bool.and_eq_true] at h
      simp only [srcOkG]
      split
      · exact ih h.2
      · rw [hr]
        simp only [h.1, ih h.2, Bool.and_self]
    · cases h

theorem srcHi_spec {H : List Reg} {n0 : Nat} : ∀ {l : List Src}, srcHi H n0 l = true → ∀ (k : Nat) (x : Src) (r : Nat), l[k]? = some x → srcKey x = some r → n0 ≤ r ∨ ownAt H r = true
  | [], _, k, x, r, h, _ => by simp at h
  | y :: l, h, k, x, r, hk, hx => by
    simp only [srcHi, Bool.and_eq_true] at h
    cases k with
    | zero =>
      simp at hk
      subst hk
      have h1 := h.1
      split at h1
      · simp [srcKey] at hx
      · rw [hx] at h1
        simp only [Bool.or_eq_true] at h1
        exact h1.imp Nat.le_of_ble_eq_true id
    | succ k => exact srcHi_spec h.2 k x r (by simpa using hk) hx

theorem srcId_spec {H : List Reg} {n0 : Nat} : ∀ {n k : Nat} {l : List Src}, srcId H n0 n k l = true →
    n ≤ l.length ∧ (∀ j, j < n → l[j]? = some (.pl (k + j)) ∨ l[j]? = some (.fam (k + j)) ∨ (l[j]? = some (.gone (k + j)) ∧ ∃ g, getReg H (k + j) = some g)) ∧ ∀ (j : Nat) (x : Src) (r : Nat), n ≤ j → l[j]? = some x → srcKey x = some r → n0 ≤ r ∨ ownAt H r = true
  | 0, k, l, h => ⟨Nat.zero_le _, fun j hj => absurd hj (by omega), fun j x r _ hx hr => srcHi_spec (l := l) (by cases l <;> exact h) j x r hx hr⟩
  | n + 1, k, x :: l, h => by
    simp only [srcId, Bool.and_eq_true] at h
    obtain ⟨i1, i2, i3⟩ := srcId_spec (n := n) (k := k + 1) (l := l) h.2
    refine ⟨by simp; omega, fun j hj => ?_, fun j y r hj hy hr => ?_⟩
    · cases j with
      | zero =>
        have h1 := h.1
        split at h1
        · simp only [Bool.and_eq_true] at h1
          have := beq_nat h1.1
          subst this
          exact .inl rfl
        · simp only [Bool.and_eq_true] at h1
          have := beq_nat h1.1
          subst this
          exact .inr (.inl rfl)
        · rename_i g hg
          have := beq_nat h1
          subst this
          exact .inr (.inr ⟨rfl, g, hg⟩)
        · cases h1
      | succ j =>
        have := i2 j (by omega)
        rw [show k + 1 + j = k + (j + 1) by omega] at this
        simpa using this
    · cases j with
      | zero => omega
      | succ j => exact i3 j y r (by omega) (by simpa using hy) hr
  | n + 1, k, [], h => by simp [srcId] at h

/-- OUT OF A STATE ANOTHER. -/
theorem leS_rel {σ : List Src} {c : Ctx} {ρ : Rho} {s s' : S} {w : World} (h : leS σ c.H.length s s') (hw : WRel c ρ s.H w) : WRel c (rhoOf σ ρ) s'.H w ∧ leSls σ s.sl s'.sl ∧ σ.length = s'.H.length := by
  unfold leS at h
  split at h
  · rename_i hb
    simp only [Bool.and_eq_true] at hb
    obtain ⟨k1, k2⟩ := srcOkG_spec hb.1
    obtain ⟨d1, d2, d3⟩ := srcId_spec hb.2
    obtain ⟨hsl, hH⟩ := h
    obtain ⟨l1, l2⟩ := leHsR_get hH
    -- what a region of s' comes from
    have src : ∀ r' g', getReg s'.H r' = some g' → ∀ i', g'.has i' → ∃ x r g i, σ[r']? = some x ∧ srcKey x = some r ∧ getReg s.H r = some g ∧ g.has i ∧ rhoOf σ ρ r' i' = ρ r i ∧ (g'.own = true → g.own = true) ∧
        g.el = g'.el ∧ g'.tot i' ≤ g.tot i ∧ Sub σ (g.at i) (g'.at i') ∧ ((∃ r0, x = .pl r0 ∨ x = .fam r0) → i = i' ∧ ∀ j, g'.has j → g.has j) := by
      intro r' g' hg' i' hi'
      obtain ⟨x, hx, hr⟩ := l2 r' g' hg'
      obtain ⟨r, g, i, a1, a2, a3, a4, a5, a6, a7, a8, a9⟩ := leRegR_spec (ρ := ρ) hr (r' := r') (by rw [getSrc_eq, hx]; rfl) hi'
      exact ⟨x, r, g, i, hx, a1, a2, a3, a4, a5, a6, a7, a8, a9⟩
    have low : ∀ r', r' < c.H.length → (σ[r']? = some (.pl r') ∨ σ[r']? = some (.fam r') ∨ (σ[r']? = some (.gone r') ∧ ∃ g, getReg s.H r' = some g)) ∧ rhoOf σ ρ r' = ρ r' := by
      intro r' hr'
      have := d2 r' hr'
      rw [Nat.zero_add] at this
      refine ⟨this, funext fun i => ?_⟩
      unfold rhoOf
      rw [getSrc_eq]
      rcases this with h | h | ⟨h, _⟩ <;> rw [h] <;> rfl
    refine ⟨⟨⟨fun r' g' i' hg' hi' => ?_, fun r' g' i' hg' hi' ho => ?_, fun r' g' i' hg' hi' => ?_, fun r1 g1 i1 r2 g2 i2 hg1 h1 ho hg2 h2 hbk => ?_⟩, by rw [← l1]; exact d1, fun r hr => ?_, fun r' g' hr' hg' => ?_, fun r' g' i' hr' hg' hi' => ?_,
      hw.os, hw.tape, hw.out, hw.size, hw.shape, hw.frame⟩, hsl, l1⟩
    · obtain ⟨x, r, g, i, b0, b1, b2, b3, b4, b5, b6, b7, b8, _⟩ := src r' g' hg' i' hi'
      obtain ⟨gd, hd⟩ := hw.hok.holds r g i b2 b3
      obtain ⟨e1, e4⟩ := b8 ρ _ gd
      rw [b4, ← l1]
      exact ⟨e1, e4 _ _ hd⟩
    · obtain ⟨x, r, g, i, b0, b1, b2, b3, b4, b5, b6, b7, b8, _⟩ := src r' g' hg' i' hi'
      obtain ⟨f1, arr, f2, f3⟩ := hw.hok.own r g i b2 b3 (b5 ho)
      rw [b4, ← b6]
      exact ⟨f1, arr, f2, Nat.le_trans b7 f3⟩
    · obtain ⟨x, r, g, i, b0, b1, b2, b3, b4, _⟩ := src r' g' hg' i' hi'
      rw [b4]
      exact hw.hok.lt r g i b2 b3
    · obtain ⟨x, r, g, i, b0, b1, b2, b3, b4, b5, b6, b7, b8, b9⟩ := src r1 g1 hg1 i1 h1
      obtain ⟨y, r', g', i', e0, e1, e2, e3, e4, e5, e6, e7, e8, e9⟩ := src r2 g2 hg2 i2 h2
      rw [b4, e4] at hbk
      obtain ⟨q1, q2⟩ := hw.hok.apart r g i r' g' i' b2 b3 (b5 ho) e2 e3 hbk
      subst q1 q2
      have hr : r1 = r2 := k2 r1 r2 x y r b0 e0 b1 e1
      subst hr
      have hxy : x = y := by rw [b0] at e0; simpa using e0
      subst hxy
      have hgg : g1 = g2 := by rw [hg1] at hg2; simpa using hg2
      subst hgg
      refine ⟨rfl, ?_⟩
      cases x with
      | pl r0 => exact (b9 ⟨r0, .inl rfl⟩).1.symm.trans (e9 ⟨r0, .inl rfl⟩).1
      | fam r0 => exact (b9 ⟨r0, .inr rfl⟩).1.symm.trans (e9 ⟨r0, .inr rfl⟩).1
      | none => simp [srcKey] at b1
      | gone r0 => simp [srcKey] at b1
      | mem r0 i0 =>
        obtain ⟨x', hx', hr'⟩ := l2 r1 g1 hg1
        rw [b0] at hx'
        simp only [Option.some.injEq] at hx'
        subst hx'
        have hpl : g1.pl = true := by
          unfold leRegR leReg at hr'
          simp only at hr'
          split at hr'
          · split at hr'
            · assumption
            · exact hr'.elim
          · exact hr'.elim
        have z1 : i1 = 0 := by simpa [Reg.has, hpl] using h1
        have z2 : i2 = 0 := by simpa [Reg.has, hpl] using h2
        rw [z1, z2]
    · rw [(low r hr).2]; exact hw.agree r hr
    · obtain ⟨x, hx, hr⟩ := l2 r' g' hg'
      have hlow := (low r' hr').1
      have hxx : x = .pl r' ∨ x = .fam r' ∨ (x = .gone r' ∧ ∃ g, getReg s.H r' = some g) := by
        rcases hlow with h | h | ⟨h, hg⟩ <;> rw [hx] at h <;> simp only [Option.some.injEq] at h
        · exact .inl h
        · exact .inr (.inl h)
        · exact .inr (.inr ⟨h, hg⟩)
      -- a member is not wanted here
      have hreg : ∃ g, getReg s.H r' = some g ∧ (g'.own = true → g.own = true) ∧ ∀ j, g'.has j → g.has j := by
        have hown : ∀ {a b : Bool}, (!a || b) = true → a = true → b = true := by intro a b; cases a <;> cases b <;> simp
        rcases hxx with rfl | rfl | ⟨rfl, g, hg⟩
        · unfold leRegR at hr
          simp only at hr
          split at hr
          · rename_i g hg
            split at hr
            · rename_i p1 p2 p3 p4
              exact ⟨g, hg, hown p3, fun j hj => by simp only [Reg.has, p1] at hj; simp only [Reg.has, p2]; exact hj⟩
            · exact hr.elim
          · exact hr.elim
        · unfold leRegR leReg at hr
          simp only at hr
          split at hr
          · rename_i g hg
            split at hr
            · rename_i p1 p2 p3 p4
              split at hr
              · exact ⟨g, hg, hown p3, fun j hj => by simp only [Reg.has, p1] at hj; simp only [Reg.has, p2]; omega⟩
              · exact hr.elim
            · exact hr.elim
          · exact hr.elim
        · unfold leRegR leReg at hr
          simp only at hr
          split at hr
          · rename_i p1 p2
            refine ⟨g, hg, fun h => ?_, fun j hj => ?_⟩
            · rw [p2] at h; cases h
            · simp only [Reg.has, p1] at hj; omega
          · exact hr.elim
      obtain ⟨g, hg, o1, o2⟩ := hreg
      obtain ⟨g0, a1, a2, a3⟩ := hw.old r' g hr' hg
      exact ⟨g0, a1, fun q => a2 (o1 q), fun j q => a3 j (o2 j q)⟩
    · obtain ⟨x, r, g, i, b0, b1, b2, b3, b4, _⟩ := src r' g' hg' i' hi'
      rw [b4]
      by_cases hrn : c.H.length ≤ r
      · exact hw.new r g i hrn b2 b3
      · rcases d3 r' x r hr' b0 b1 with h1 | h1
        · exact absurd h1 hrn
        · unfold ownAt at h1
          rw [b2] at h1
          exact hw.mine b2 b3 h1
  · exact h.elim

end Go.Sx
