import Derived.Test.YtjofnajamlmllaaDoorSxDefs
namespace Go.Sx

/-! ## What the walk's values say -/
structure CV where
  cells : List Value
  vals : List Value
  v : Value

def sc (v : Value) : CV := ⟨[v], [], v⟩

abbrev Rho := Nat → Nat → Nat × Nat

def pla (ρ : Rho) (r i n : Nat) : Addr := ⟨(ρ r i).1, (ρ r i).2 + n, none⟩

def off : List St → Nat
  | [] => 0
  | .f o :: p => o + off p
  | .x j sz :: p => j * sz + off p

def T.cv (ρ : Rho) : T → CV
  | .top => sc undef
  | .int k n => sc (.int k n)
  | .bool b => sc (.bool b)
  | .tt => sc (.bool true)
  | .ff => sc (.bool false)
  | .str s => sc (.string s)
  | .ptr r i p => sc (.pointer (some (pla ρ r i (off p))))
  | .nilp => sc (.pointer none)
  | .slice r i p lo sz len cap => sc (.slice (some (pla ρ r i (off p + lo * sz))) len cap)
  | .nils => sc (.slice none 0 0)
  | .fn f c => sc (.func (.func f) #[] (c.cv ρ).vals.toArray)
  | .nilf => sc .nilFunc
  | .iface t v => sc (.iface t (v.cv ρ).v)
  | .nili => sc .nilIface
  | .nil => ⟨[], [], .agg #[]⟩
  | .cons h t => ⟨(h.cv ρ).cells ++ (t.cv ρ).cells, (h.cv ρ).v :: (t.cv ρ).vals, .agg ((h.cv ρ).cells ++ (t.cv ρ).cells).toArray⟩
  | .arr n _ f => ⟨(List.range n).flatMap (fun j => ((f j).cv ρ).cells), [], .agg ((List.range n).flatMap (fun j => ((f j).cv ρ).cells)).toArray⟩
  | .tup ts => sc (.tuple (ts.cv ρ).vals.toArray)
  | .raw v => sc v
  | .ite b x y => bif b then x.cv ρ else y.cv ρ

abbrev val (ρ : Rho) (t : T) : Value := (t.cv ρ).v
abbrev cells (ρ : Rho) (t : T) : List Value := (t.cv ρ).cells

/-- Its regions are below n; its sizes are right. -/
def Good (n : Nat) : T → Prop
  | .ptr r _ _ => r < n
  | .slice r _ _ _ _ _ _ => r < n
  | .fn _ c => Good n c
  | .iface _ v => Good n v
  | .cons h t => Good n h ∧ Good n t
  | .arr m sz f => ∀ j, j < m → (f j).size = sz ∧ Good n (f j)
  | .ite b x y => x.size = y.size ∧ (b = true → Good n x) ∧ (b = false → Good n y)
  | .top => False
  | .tup _ => False
  | .raw _ => False
  | _ => True

abbrev Cells := Nat → Option Value

/-- Cells, from 'o' on, hold 't'. -/
def Holds (ρ : Rho) (m : Cells) : T → Nat → Prop
  | .nil, _ => True
  | .cons h t, o => Holds ρ m h o ∧ Holds ρ m t (o + h.size)
  | .arr n sz f, o => ∀ j, j < n → Holds ρ m (f j) (o + j * sz)
  | .ite c x y, o => (c = true → Holds ρ m x o) ∧ (c = false → Holds ρ m y o)
  | .top, _ => False
  | .tup _, _ => False
  | .raw _, _ => False
  | .int k n, o => m o = some (.int k n)
  | .bool b, o => m o = some (.bool b)
  | .tt, o => m o = some (.bool true)
  | .ff, o => m o = some (.bool false)
  | .str s, o => m o = some (.string s)
  | .ptr r i p, o => m o = some (.pointer (some (pla ρ r i (off p))))
  | .nilp, o => m o = some (.pointer none)
  | .slice r i p lo sz len cap, o => m o = some (.slice (some (pla ρ r i (off p + lo * sz))) len cap)
  | .nils, o => m o = some (.slice none 0 0)
  | .fn f c, o => m o = some (.func (.func f) #[] (c.cv ρ).vals.toArray)
  | .nilf, o => m o = some .nilFunc
  | .iface t v, o => m o = some (.iface t (v.cv ρ).v)
  | .nili, o => m o = some .nilIface

theorem Good.mono {n m : Nat} (h : n ≤ m) : ∀ {t : T}, Good n t → Good m t
  | .ptr .., g => Nat.lt_of_lt_of_le g h
  | .slice .., g => Nat.lt_of_lt_of_le g h
  | .fn _ c, g => Good.mono h (t := c) g
  | .iface _ v, g => Good.mono h (t := v) g
  | .cons .., g => ⟨Good.mono h g.1, Good.mono h g.2⟩
  | .arr .., g => fun j hj => ⟨(g j hj).1, Good.mono h (g j hj).2⟩
  | .ite .., g => ⟨g.1, fun e => Good.mono h (g.2.1 e), fun e => Good.mono h (g.2.2 e)⟩
  | .top, g | .tup _, g | .raw _, g => g.elim
  | .int .., _ | .bool _, _ | .tt, _ | .ff, _ | .str _, _ | .nilp, _ | .nils, _ | .nilf, _ | .nili, _ | .nil, _ => trivial

theorem cv_agree {ρ ρ' : Rho} {n : Nat} (h : ∀ r, r < n → ρ' r = ρ r) : ∀ {t : T}, Good n t → t.cv ρ' = t.cv ρ
  | .ptr r i p, g => by simp only [T.cv, pla, h r g]
  | .slice r i p lo sz len cap, g => by simp only [T.cv, pla, h r g]
  | .fn _ c, g => by simp only [T.cv, cv_agree h (t := c) g]
  | .iface _ v, g => by simp only [T.cv, cv_agree h (t := v) g]
  | .cons .., g => by simp only [T.cv, cv_agree h g.1, cv_agree h g.2]
  | .arr n sz f, g => by
    have e : (List.range n).flatMap (fun j => ((f j).cv ρ').cells) = (List.range n).flatMap (fun j => ((f j).cv ρ).cells) := by
      rw [List.flatMap_def, List.flatMap_def, List.map_congr_left fun j hj => by rw [cv_agree h (g j (List.mem_range.1 hj)).2]]
    simp only [T.cv, e]
  | .ite b x y, g => by
    cases b with
    | true => exact cv_agree (t := x) h (g.2.1 rfl)
    | false => exact cv_agree (t := y) h (g.2.2 rfl)
  | .top, g | .tup _, g | .raw _, g => g.elim
  | .int .., _ | .bool _, _ | .tt, _ | .ff, _ | .str _, _ | .nilp, _ | .nils, _ | .nilf, _ | .nili, _ | .nil, _ => rfl

theorem holds_agree {ρ ρ' : Rho} {n : Nat} {m : Cells} (h : ∀ r, r < n → ρ' r = ρ r) : ∀ {t : T} {o : Nat}, Good n t → Holds ρ m t o → Holds ρ' m t o
  | .ptr r i p, o, g, q => by simpa only [Holds, pla, h r g] using q
  | .slice r i p lo sz len cap, o, g, q => by simpa only [Holds, pla, h r g] using q
  | .fn _ c, o, g, q => by simpa only [Holds, cv_agree h (t := c) g] using q
  | .iface _ v, o, g, q => by simpa only [Holds, cv_agree h (t := v) g] using q
  | .cons .., o, g, q => ⟨holds_agree h g.1 q.1, holds_agree h g.2 q.2⟩
  | .arr n sz f, o, g, q => fun j hj => holds_agree h (g j hj).2 (q j hj)
  | .ite b x y, o, g, q => ⟨fun e => holds_agree h (g.2.1 e) (q.1 e), fun e => holds_agree h (g.2.2 e) (q.2 e)⟩
  | .tup _, _, _, q | .top, _, _, q | .int .., _, _, q | .bool _, _, _, q | .tt, _, _, q | .ff, _, _, q | .str _, _, _, q | .nilp, _, _, q | .nils, _, _, q | .nilf, _, _, q
  | .nili, _, _, q | .nil, _, _, q | .raw _, _, _, q => q

theorem mul_step {j n sz : Nat} (h : j < n) : j * sz + sz ≤ n * sz := by
  have := Nat.mul_le_mul_right sz (show j + 1 ≤ n from h)
  rw [Nat.add_mul, Nat.one_mul] at this
  exact this

theorem holds_congr {ρ : Rho} {n : Nat} {m m' : Cells} : ∀ {t : T} {o : Nat}, Good n t → (∀ k, o ≤ k → k < o + t.size → m' k = m k) → Holds ρ m t o → Holds ρ m' t o
  | .cons x y, o, g, e, q => by
    simp only [T.size] at e
    exact ⟨holds_congr g.1 (fun k h1 h2 => e k h1 (by omega)) q.1, holds_congr g.2 (fun k h1 h2 => e k (by omega) (by omega)) q.2⟩
  | .arr n sz f, o, g, e, q => fun j hj => by
    have hs := (g j hj).1
    have := mul_step (sz := sz) hj
    simp only [T.size] at e
    exact holds_congr (g j hj).2 (fun k h1 h2 => e k (by omega) (by omega)) (q j hj)
  | .ite b x y, o, g, e, q => ⟨fun c => holds_congr (g.2.1 c) e (q.1 c), fun c => holds_congr (g.2.2 c) (fun k h1 h2 => e k h1 (by rw [T.size, g.1]; exact h2)) (q.2 c)⟩
  | .nil, _, _, _, _ => trivial
  | .top, _, _, _, q => q.elim
  | .tup _, _, _, _, q => q.elim
  | .raw _, _, _, _, q => q.elim
  | .int .., o, _, e, q | .bool _, o, _, e, q | .tt, o, _, e, q | .ff, o, _, e, q | .str _, o, _, e, q | .nilp, o, _, e, q | .nils, o, _, e, q | .nilf, o, _, e, q
  | .nili, o, _, e, q | .ptr .., o, _, e, q | .slice .., o, _, e, q | .fn .., o, _, e, q | .iface .., o, _, e, q => (e o (Nat.le_refl _) (by simp [T.size])).trans q

theorem flatMap_len {α β : Type} {sz : Nat} (f : α → List β) : ∀ l : List α, (∀ a ∈ l, (f a).length = sz) → (l.flatMap f).length = l.length * sz
  | [], _ => by simp
  | a :: l, h => by
    rw [List.flatMap_cons, List.length_append, h a List.mem_cons_self, flatMap_len f l (fun b hb => h b (List.mem_cons_of_mem _ hb)), List.length_cons, Nat.add_mul]
    omega

theorem cells_len {ρ : Rho} {n : Nat} : ∀ {t : T}, Good n t → (cells ρ t).length = t.size
  | .cons .., g => by simp only [cells, T.cv, T.size, List.length_append]; rw [← cells_len g.1, ← cells_len g.2]
  | .arr m sz f, g => by
    simp only [cells, T.cv, T.size]
    rw [flatMap_len (sz := sz) _ _ (fun j hj => by have := g j (List.mem_range.1 hj); rw [← this.1]; exact cells_len this.2), List.length_range]
  | .ite b x y, g => by
    simp only [cells, T.cv, T.size]
    cases b
    · rw [g.1]; exact cells_len (g.2.2 rfl)
    · exact cells_len (g.2.1 rfl)
  | .nil, _ => rfl
  | .top, g | .tup _, g | .raw _, g => g.elim
  | .ptr .., _ | .slice .., _ | .fn .., _ | .iface .., _
  | .int .., _ | .bool _, _ | .tt, _ | .ff, _ | .str _, _ | .nilp, _ | .nils, _ | .nilf, _ | .nili, _ => rfl

theorem flatMap_get {α β : Type} {sz : Nat} (f : α → List β) : ∀ (l : List α) (j k : Nat) (a : α), (∀ a ∈ l, (f a).length = sz) → l[j]? = some a → k < sz → (l.flatMap f)[j * sz + k]? = (f a)[k]?
  | [], _, _, _, _, h, _ => by simp at h
  | b :: l, 0, k, a, hs, h, hk => by
    simp at h; subst h
    rw [List.flatMap_cons, Nat.zero_mul, Nat.zero_add, List.getElem?_append_left (by rw [hs _ List.mem_cons_self]; exact hk)]
  | b :: l, j + 1, k, a, hs, h, hk => by
    rw [List.flatMap_cons, List.getElem?_append_right (by rw [hs _ List.mem_cons_self, Nat.add_mul]; omega), hs _ List.mem_cons_self]
    have := flatMap_get f l j k a (fun c hc => hs c (List.mem_cons_of_mem _ hc)) (by simpa using h) hk
    rw [← this]
    congr 1
    rw [Nat.add_mul]; omega

/-- The cells, one by one. -/
theorem holds_cells {ρ : Rho} {n : Nat} {m : Cells} : ∀ {t : T} {o : Nat}, Good n t → Holds ρ m t o → ∀ k, k < t.size → m (o + k) = (cells ρ t)[k]?
  | .cons x y, o, g, q, k, hk => by
    simp only [T.size] at hk
    simp only [cells, T.cv]
    by_cases hx : k < x.size
    · rw [List.getElem?_append_left (by have := cells_len (ρ := ρ) g.1; simp only [cells] at this; omega)]
      exact holds_cells g.1 q.1 k hx
    · have hl := cells_len (ρ := ρ) g.1
      simp only [cells] at hl
      rw [List.getElem?_append_right (by omega), hl]
      have := holds_cells g.2 q.2 (k - x.size) (by omega)
      rw [show o + x.size + (k - x.size) = o + k by omega] at this
      exact this
  | .arr n sz f, o, g, q, k, hk => by
    simp only [T.size] at hk
    have h0 : 0 < sz := by
      rcases Nat.eq_zero_or_pos sz with h | h
      · subst h; simp at hk
      · exact h
    have hj : k / sz < n := Nat.div_lt_of_lt_mul (by rw [Nat.mul_comm]; exact hk)
    have hm : k % sz < sz := Nat.mod_lt _ h0
    have e : k = k / sz * sz + k % sz := by rw [Nat.mul_comm]; exact (Nat.div_add_mod k sz).symm
    have hlen : ∀ j ∈ List.range n, (((f j).cv ρ).cells).length = sz := fun j hj => by
      have := g j (List.mem_range.1 hj); rw [← this.1]; exact cells_len this.2
    have h1 := holds_cells (g _ hj).2 (q _ hj) (k % sz) (by rw [(g _ hj).1]; exact hm)
    simp only [cells, T.cv]
    have h2 := flatMap_get (fun j => ((f j).cv ρ).cells) (List.range n) (k / sz) (k % sz) (k / sz) hlen (by simp [hj]) hm
    rw [← e] at h2
    rw [h2, ← h1]
    congr 1
    omega
  | .ite b x y, o, g, q, k, hk => by
    simp only [cells, T.cv]
    cases b
    · exact holds_cells (g.2.2 rfl) (q.2 rfl) k (by rw [← g.1]; exact hk)
    · exact holds_cells (g.2.1 rfl) (q.1 rfl) k hk
  | .nil, _, _, _, _, hk => absurd hk (by simp [T.size])
  | .top, _, _, q, _, _ => q.elim
  | .tup _, _, _, q, _, _ => q.elim
  | .raw _, _, _, q, _, _ => q.elim
  | .int .., o, _, q, k, hk | .bool _, o, _, q, k, hk | .tt, o, _, q, k, hk | .ff, o, _, q, k, hk | .str _, o, _, q, k, hk | .nilp, o, _, q, k, hk
  | .nils, o, _, q, k, hk | .nilf, o, _, q, k, hk | .nili, o, _, q, k, hk | .ptr .., o, _, q, k, hk | .slice .., o, _, q, k, hk | .fn .., o, _, q, k, hk
  | .iface .., o, _, q, k, hk => by
    have : k = 0 := by simp [T.size] at hk; exact hk
    subst this
    exact q

/-- ... and back. -/
theorem holds_of_cells {ρ : Rho} {n : Nat} {m : Cells} : ∀ {t : T} {o : Nat}, Good n t → (∀ k, k < t.size → m (o + k) = (cells ρ t)[k]?) → Holds ρ m t o
  | .cons x y, o, g, e => by
    have hl := cells_len (ρ := ρ) g.1
    simp only [T.size, cells, T.cv] at e hl
    refine ⟨holds_of_cells g.1 fun k hk => ?_, holds_of_cells g.2 fun k hk => ?_⟩
    · rw [e k (by omega), List.getElem?_append_left (by omega)]
    · have := e (x.size + k) (by omega)
      rw [List.getElem?_append_right (by omega), hl, show x.size + k - x.size = k by omega, show o + (x.size + k) = o + x.size + k by omega] at this
      exact this
  | .arr n sz f, o, g, e => fun j hj => by
    have hlen : ∀ j ∈ List.range n, (((f j).cv ρ).cells).length = sz := fun j hj => by
      have := g j (List.mem_range.1 hj); rw [← this.1]; exact cells_len this.2
    refine holds_of_cells (g j hj).2 fun k hk => ?_
    rw [(g j hj).1] at hk
    have hs := mul_step (sz := sz) hj
    have := e (j * sz + k) (by simp only [T.size]; omega)
    simp only [cells, T.cv] at this
    rw [flatMap_get (fun j => ((f j).cv ρ).cells) (List.range n) j k j hlen (by simp [hj]) hk, show o + (j * sz + k) = o + j * sz + k by omega] at this
    exact this
  | .ite b x y, o, g, e => by
    simp only [T.size, cells, T.cv] at e
    refine ⟨fun h => ?_, fun h => ?_⟩ <;> subst h
    · exact holds_of_cells (g.2.1 rfl) e
    · exact holds_of_cells (g.2.2 rfl) (by rw [← g.1]; exact e)
  | .nil, _, _, _ => trivial
  | .top, _, g, _ | .tup _, _, g, _ | .raw _, _, g, _ => g.elim
  | .int .., o, _, e | .bool _, o, _, e | .tt, o, _, e | .ff, o, _, e | .str _, o, _, e | .nilp, o, _, e
  | .nils, o, _, e | .nilf, o, _, e | .nili, o, _, e | .ptr .., o, _, e | .slice .., o, _, e | .fn .., o, _, e
  | .iface .., o, _, e => e 0 (by simp [T.size])

/-! ## The way down -/
theorem getF_spec {ρ : Rho} {n : Nat} {m : Cells} : ∀ {t t' : T} {o o' : Nat}, Good n t → t.getF o' = some t' →
    Good n t' ∧ o' + t'.size ≤ t.size ∧ (Holds ρ m t o → Holds ρ m t' (o + o')) ∧ (∀ k, k < t'.size → (cells ρ t)[o' + k]? = (cells ρ t')[k]?)
  | .cons h u, t', o, 0, g, e => by
    simp only [T.getF, Option.some.injEq] at e
    subst e
    refine ⟨g.1, by simp only [T.size]; omega, fun q => q.1, fun k hk => ?_⟩
    have := cells_len (ρ := ρ) g.1
    simp only [cells, T.cv] at *
    rw [Nat.zero_add, List.getElem?_append_left (by omega)]
  | .cons h u, t', o, o' + 1, g, e => by
    simp only [T.getF] at e
    by_cases hs : h.size ≤ o' + 1
    · rw [if_pos hs] at e
      obtain ⟨g1, l1, q1, c1⟩ := getF_spec (ρ := ρ) (m := m) (o := o + h.size) g.2 e
      have hl := cells_len (ρ := ρ) g.1
      refine ⟨g1, by simp only [T.size]; omega, fun q => ?_, fun k hk => ?_⟩
      · have := q1 q.2
        rw [show o + h.size + (o' + 1 - h.size) = o + (o' + 1) by omega] at this
        exact this
      · simp only [cells, T.cv] at *
        rw [List.getElem?_append_right (by omega), hl, ← c1 k hk]
        congr 1
        omega
    · rw [if_neg hs] at e
      cases e
  | .nil, _, _, _, _, e | .top, _, _, _, _, e | .int .., _, _, _, _, e | .bool _, _, _, _, _, e | .tt, _, _, _, _, e | .ff, _, _, _, _, e | .str _, _, _, _, _, e | .ptr .., _, _, _, _, e
  | .nilp, _, _, _, _, e | .slice .., _, _, _, _, e | .nils, _, _, _, _, e | .fn .., _, _, _, _, e | .nilf, _, _, _, _, e | .iface .., _, _, _, _, e | .nili, _, _, _, _, e | .arr .., _, _, _, _, e
  | .tup _, _, _, _, _, e | .raw _, _, _, _, _, e | .ite .., _, _, _, _, e => by simp [T.getF] at e

theorem beq_nat {a b : Nat} (h : Nat.beq a b = true) : a = b := Nat.eq_of_beq_eq_true h

/-- What lies at a path's end. -/
theorem getK_spec {ρ : Rho} {n : Nat} {m : Cells} {K : T → Prop} : ∀ {p : List St} {t : T} {o : Nat}, Good n t → getK K p t →
    ∃ t', K t' ∧ Good n t' ∧ off p + t'.size ≤ t.size ∧ (Holds ρ m t o → Holds ρ m t' (o + off p))
  | [], t, o, g, h => ⟨t, h, g, by simp [off], fun q => q⟩
  | .f o' :: p, t, o, g, h => by
    simp only [getK] at h
    split at h
    · rename_i u hu
      obtain ⟨g1, l1, q1, _⟩ := getF_spec (ρ := ρ) (m := m) (o := o) g hu
      obtain ⟨t', k, g2, l2, q2⟩ := getK_spec (ρ := ρ) (m := m) (o := o + o') g1 h
      exact ⟨t', k, g2, by simp only [off]; omega, fun q => by rw [off, ← Nat.add_assoc]; exact q2 (q1 q)⟩
    · exact h.elim
  | .x j sz :: p, t, o, g, h => by
    simp only [getK] at h
    split at h
    · rename_i k sz' f
      split at h
      · rename_i hb
        have hb := beq_nat hb
        subst hb
        obtain ⟨hj, h⟩ := h
        have gj := g j hj
        obtain ⟨t', k', g2, l2, q2⟩ := getK_spec (ρ := ρ) (m := m) (o := o + j * sz) gj.2 h
        have := mul_step (sz := sz) hj
        rw [gj.1] at l2
        exact ⟨t', k', g2, by simp only [off, T.size]; omega, fun q => by rw [off, ← Nat.add_assoc]; exact q2 (q j hj)⟩
      · exact h.elim
    · exact h.elim

theorem getK_mono {K K' : T → Prop} (h : ∀ t, K t → K' t) : ∀ {p : List St} {t : T}, getK K p t → getK K' p t
  | [], t, q => h t q
  | .f o :: p, t, q => by
    simp only [getK] at q ⊢
    split at q
    · exact getK_mono h q
    · exact q.elim
  | .x j sz :: p, t, q => by
    simp only [getK] at q ⊢
    split at q
    · rename_i n sz' f
      cases hb : Nat.beq sz sz' with
      | true => simp only [hb] at q ⊢; exact ⟨q.1, getK_mono h q.2⟩
      | false => simp only [hb] at q
    · exact q.elim

/-! ## Two values in one -/
theorem kEq_eq {k k' : IntKind} (h : kEq k k' = true) : k = k' := by
  cases k <;> cases k' <;> first | rfl | (simp [kEq] at h)

theorem sel_size {c : Bool} : ∀ {x y : T}, x.size = y.size → (x.sel c y).size = x.size := by
  intro x
  induction x with
  | cons h t ih1 ih2 =>
    intro y e
    cases y with
    | cons h' t' =>
      simp only [T.sel]
      split
      · rename_i hb
        have hb := beq_nat hb
        simp only [T.size] at e ⊢
        rw [ih1 hb, ih2 (by omega)]
      · simp [T.size]
    | _ => simp [T.sel, T.size]
  | arr n sz f ih =>
    intro y e
    cases y with
    | arr n' sz' f' =>
      simp only [T.sel]
      split <;> simp [T.size]
    | _ => simp [T.sel, T.size]
  | int k a => intro y e; cases y <;> simp only [T.sel] <;> (try split) <;> simp [T.size]
  | bool a => intro y e; cases y <;> simp [T.sel, T.size]
  | tt => intro y e; cases y <;> simp [T.sel, T.size]
  | ff => intro y e; cases y <;> simp [T.sel, T.size]
  | nil => intro y e; cases y <;> simp [T.sel, T.size]
  | nilp => intro y e; cases y <;> simp [T.sel, T.size]
  | str a => intro y e; cases y <;> simp [T.sel, T.size]
  | _ => intro y e; simp [T.sel, T.size]

theorem sel_good {n : Nat} {c : Bool} : ∀ {x y : T}, x.size = y.size → Good n x → Good n y → Good n (x.sel c y) := by
  intro x
  induction x with
  | cons h t ih1 ih2 =>
    intro y e gx gy
    cases y with
    | cons h' t' =>
      simp only [T.sel]
      split
      · rename_i hb
        have hb := beq_nat hb
        simp only [T.size] at e
        exact ⟨ih1 hb gx.1 gy.1, ih2 (by omega) gx.2 gy.2⟩
      · exact ⟨e, fun _ => gx, fun _ => gy⟩
    | _ => first | exact gy.elim | exact ⟨e, fun _ => gx, fun _ => gy⟩
  | arr n sz f ih =>
    intro y e gx gy
    cases y with
    | arr n' sz' f' =>
      simp only [T.sel]
      split
      · rename_i hb
        simp only [Bool.and_eq_true] at hb
        have h1 := beq_nat hb.1
        have h2 := beq_nat hb.2
        subst h1 h2
        intro j hj
        have hs : (f j).size = (f' j).size := by rw [(gx j hj).1, (gy j hj).1]
        exact ⟨by rw [sel_size hs]; exact (gx j hj).1, ih j hs (gx j hj).2 (gy j hj).2⟩
      · exact ⟨e, fun _ => gx, fun _ => gy⟩
    | _ => first | exact gy.elim | exact ⟨e, fun _ => gx, fun _ => gy⟩
  | int k a => intro y e gx gy; cases y <;> simp only [T.sel] <;> (try split) <;> first | exact gy.elim | exact trivial | exact ⟨e, fun _ => gx, fun _ => gy⟩
  | bool a => intro y e gx gy; cases y <;> first | exact gy.elim | exact trivial | exact ⟨e, fun _ => gx, fun _ => gy⟩
  | tt => intro y e gx gy; cases y <;> first | exact gy.elim | exact trivial | exact ⟨e, fun _ => gx, fun _ => gy⟩
  | ff => intro y e gx gy; cases y <;> first | exact gy.elim | exact trivial | exact ⟨e, fun _ => gx, fun _ => gy⟩
  | nil => intro y e gx gy; cases y <;> first | exact gy.elim | exact trivial | exact ⟨e, fun _ => gx, fun _ => gy⟩
  | nilp => intro y e gx gy; cases y <;> first | exact gy.elim | exact trivial | exact ⟨e, fun _ => gx, fun _ => gy⟩
  | str a => intro y e gx gy; cases y <;> first | exact gy.elim | exact trivial | exact ⟨e, fun _ => gx, fun _ => gy⟩
  | top => intro y e gx gy; exact gx.elim
  | tup _ _ => intro y e gx gy; exact gx.elim
  | raw _ => intro y e gx gy; exact gx.elim
  | _ => intro y e gx gy; exact ⟨e, fun _ => gx, fun _ => gy⟩

theorem sel_holds {ρ : Rho} {n : Nat} {m : Cells} {c : Bool} : ∀ {x y : T} {o : Nat}, x.size = y.size → Good n x → Good n y → (c = true → Holds ρ m x o) → (c = false → Holds ρ m y o) → Holds ρ m (x.sel c y) o := by
  intro x
  induction x with
  | cons h t ih1 ih2 =>
    intro y o e gx gy hx hy
    cases y with
    | cons h' t' =>
      simp only [T.sel]
      split
      · rename_i hb
        have hb := beq_nat hb
        simp only [T.size] at e
        refine ⟨ih1 hb gx.1 gy.1 (fun k => (hx k).1) (fun k => (hy k).1), ih2 (by omega) gx.2 gy.2 (fun k => ?_) (fun k => ?_)⟩
        · rw [sel_size hb]; exact (hx k).2
        · rw [sel_size hb, hb]; exact (hy k).2
      · exact ⟨hx, hy⟩
    | _ => first | exact gy.elim | exact ⟨hx, hy⟩
  | arr n sz f ih =>
    intro y o e gx gy hx hy
    cases y with
    | arr n' sz' f' =>
      simp only [T.sel]
      split
      · rename_i hb
        simp only [Bool.and_eq_true] at hb
        have h1 := beq_nat hb.1
        have h2 := beq_nat hb.2
        subst h1 h2
        intro j hj
        exact ih j (by rw [(gx j hj).1, (gy j hj).1]) (gx j hj).2 (gy j hj).2 (fun k => hx k j hj) (fun k => hy k j hj)
      · exact ⟨hx, hy⟩
    | _ => first | exact gy.elim | exact ⟨hx, hy⟩
  | int k a =>
    intro y o e gx gy hx hy
    cases y <;> simp only [T.sel]
    case int k' b =>
      split
      · rename_i hk
        have := kEq_eq hk
        subst this
        cases c
        · exact hy rfl
        · exact hx rfl
      · exact ⟨hx, hy⟩
    all_goals first | exact gy.elim | exact ⟨hx, hy⟩
  | bool a =>
    intro y o e gx gy hx hy
    cases y <;> simp only [T.sel] <;> first | exact gy.elim | (cases c <;> first | exact hy rfl | exact hx rfl; done) | exact ⟨hx, hy⟩
  | tt =>
    intro y o e gx gy hx hy
    cases y <;> simp only [T.sel] <;> first | exact gy.elim | (cases c <;> first | exact hy rfl | exact hx rfl; done) | exact ⟨hx, hy⟩
  | ff =>
    intro y o e gx gy hx hy
    cases y <;> simp only [T.sel] <;> first | exact gy.elim | (cases c <;> first | exact hy rfl | exact hx rfl; done) | exact ⟨hx, hy⟩
  | nil => intro y o e gx gy hx hy; cases y <;> first | exact gy.elim | exact trivial | exact ⟨hx, hy⟩
  | nilp => intro y o e gx gy hx hy; cases y <;> simp only [T.sel] <;> first | exact gy.elim | (cases c <;> first | exact hy rfl | exact hx rfl; done) | exact ⟨hx, hy⟩
  | str a => intro y o e gx gy hx hy; cases y <;> simp only [T.sel] <;> first | exact gy.elim | (cases c <;> first | exact hy rfl | exact hx rfl; done) | exact ⟨hx, hy⟩
  | top => intro y o e gx gy; exact gx.elim
  | tup _ _ => intro y o e gx gy; exact gx.elim
  | raw _ => intro y o e gx gy; exact gx.elim
  | _ => intro y o e gx gy hx hy; exact ⟨hx, hy⟩

/-! ## A store -/
theorem setF_spec {ρ : Rho} {n : Nat} {m m' : Cells} {g : T → T} : ∀ {t t' : T} {o o' : Nat}, Good n t → t.getF o' = some t' → Good n (g t') → (g t').size = t'.size →
    (∀ k, ¬ (o + o' ≤ k ∧ k < o + o' + t'.size) → m' k = m k) → (Holds ρ m t' (o + o') → Holds ρ m' (g t') (o + o')) →
    Good n (t.setF o' g) ∧ (t.setF o' g).size = t.size ∧ (Holds ρ m t o → Holds ρ m' (t.setF o' g) o)
  | .cons h u, t', o, 0, gd, e, gg, gs, hm, hv => by
    simp only [T.getF, Option.some.injEq] at e
    subst e
    refine ⟨⟨gg, gd.2⟩, by simp only [T.setF, T.size, gs], fun q => ⟨hv q.1, ?_⟩⟩
    rw [gs]
    exact holds_congr gd.2 (fun k h1 h2 => hm k (by omega)) q.2
  | .cons h u, t', o, o' + 1, gd, e, gg, gs, hm, hv => by
    simp only [T.getF] at e
    by_cases hs : h.size ≤ o' + 1
    · rw [if_pos hs] at e
      have e1 : o + h.size + (o' + 1 - h.size) = o + (o' + 1) := by omega
      obtain ⟨g1, l1, q1⟩ := setF_spec (ρ := ρ) (m := m) (m' := m') (o := o + h.size) gd.2 e gg gs (by rw [e1]; exact hm) (by rw [e1]; exact hv)
      refine ⟨⟨gd.1, g1⟩, by simp only [T.setF, T.size, l1], fun q => ⟨?_, q1 q.2⟩⟩
      exact holds_congr gd.1 (fun k h1 h2 => hm k (by omega)) q.1
    · rw [if_neg hs] at e
      cases e
  | .nil, _, _, _, _, e, _, _, _, _ | .top, _, _, _, _, e, _, _, _, _ | .int .., _, _, _, _, e, _, _, _, _ | .bool _, _, _, _, _, e, _, _, _, _ | .tt, _, _, _, _, e, _, _, _, _
  | .ff, _, _, _, _, e, _, _, _, _ | .str _, _, _, _, _, e, _, _, _, _ | .ptr .., _, _, _, _, e, _, _, _, _ | .nilp, _, _, _, _, e, _, _, _, _ | .slice .., _, _, _, _, e, _, _, _, _
  | .nils, _, _, _, _, e, _, _, _, _ | .fn .., _, _, _, _, e, _, _, _, _ | .nilf, _, _, _, _, e, _, _, _, _ | .iface .., _, _, _, _, e, _, _, _, _ | .nili, _, _, _, _, e, _, _, _, _
  | .arr .., _, _, _, _, e, _, _, _, _ | .tup _, _, _, _, _, e, _, _, _, _ | .raw _, _, _, _, _, e, _, _, _, _ | .ite .., _, _, _, _, e, _, _, _, _ => by simp [T.getF] at e

theorem upd_spec {ρ : Rho} {n : Nat} {m m' : Cells} {v : T} (gv : Good n v) : ∀ {p : List St} {t : T} {o : Nat}, Good n t → getK (fun old => old.size = v.size) p t →
    (∀ k, ¬ (o + off p ≤ k ∧ k < o + off p + v.size) → m' k = m k) → Holds ρ m' v (o + off p) →
    Good n (upd v p t) ∧ (upd v p t).size = t.size ∧ (Holds ρ m t o → Holds ρ m' (upd v p t) o)
  | [], t, o, g, h, hm, hv => ⟨gv, h.symm, fun _ => hv⟩
  | .f o' :: p, t, o, g, h, hm, hv => by
    simp only [getK] at h
    split at h
    · rename_i u hu
      obtain ⟨g1, l1, _, _⟩ := getF_spec (ρ := ρ) (m := m) (o := o) g hu
      obtain ⟨t', k, _, l2, _⟩ := getK_spec (ρ := ρ) (m := m) (o := o + o') g1 h
      obtain ⟨gu, su, qu⟩ := upd_spec gv (o := o + o') g1 h (by simpa only [off, Nat.add_assoc] using hm) (by simpa only [off, Nat.add_assoc] using hv)
      rw [k] at l2
      exact setF_spec g hu gu su (fun k hk => hm k (by simp only [off]; omega)) qu
    · exact h.elim
  | .x j sz :: p, t, o, g, h, hm, hv => by
    simp only [getK] at h
    split at h
    · rename_i k sz' f
      split at h
      · rename_i hb
        have hb := beq_nat hb
        subst hb
        obtain ⟨hj, h⟩ := h
        have gj := g j hj
        obtain ⟨t', k', _, l2, _⟩ := getK_spec (ρ := ρ) (m := m) (o := o + j * sz) gj.2 h
        obtain ⟨gu, su, qu⟩ := upd_spec gv (o := o + j * sz) gj.2 h (by simpa only [off, Nat.add_assoc] using hm) (by simpa only [off, Nat.add_assoc] using hv)
        rw [k', gj.1] at l2
        rw [gj.1] at su
        refine ⟨fun i hi => ⟨?_, ?_⟩, by simp only [upd, T.size], fun q i hi => ?_⟩
        · rw [sel_size (by rw [su, (g i hi).1])]; exact su
        · exact sel_good (by rw [su, (g i hi).1]) gu (g i hi).2
        · refine sel_holds (by rw [su, (g i hi).1]) gu (g i hi).2 (fun c => ?_) (fun c => ?_)
          · have := beq_nat c
            subst this
            exact qu (q i hi)
          · refine holds_congr (g i hi).2 (fun k h1 h2 => hm k ?_) (q i hi)
            have hne : i ≠ j := fun e => by subst e; rw [Nat.beq_refl] at c; cases c
            rw [(g i hi).1] at h2
            simp only [off]
            rcases Nat.lt_or_gt_of_ne hne with hlt | hgt
            · have := mul_step (sz := sz) hlt; omega
            · have := mul_step (sz := sz) hgt; omega
      · exact h.elim
    · exact h.elim

end Go.Sx
