import Derived.Test.YtjofnajamlmllaaDoorSxOps3
namespace Go.Sx

section
variable {P : Program} {C : Cfg} {q : Bool} {c : Ctx} {ρ : Rho} {s : S} {a : Act} {o : Oper} {K : R → List Reg → Prop}

/-! ### fill -/
theorem fold_get (off : Nat) : ∀ (l : List Value) (k : Nat) (cs : Array Value), off + k + l.length ≤ cs.size →
    (((l.zipIdx k).foldl (fun cs (x : Value × Nat) => cs.setIfInBounds (off + x.2) x.1) cs).size = cs.size) ∧
    ∀ m, ((l.zipIdx k).foldl (fun cs (x : Value × Nat) => cs.setIfInBounds (off + x.2) x.1) cs)[m]? = if off + k ≤ m ∧ m < off + k + l.length then l[m - (off + k)]? else cs[m]?
  | [], k, cs, _ => ⟨rfl, fun m => by simp only [List.zipIdx_nil, List.foldl_nil, List.length_nil]; rw [if_neg (by omega)]⟩
  | v :: l, k, cs, h => by
    simp only [List.length_cons] at h
    obtain ⟨h1, h2⟩ := fold_get off l (k + 1) (cs.setIfInBounds (off + k) v) (by simp; omega)
    refine ⟨by simpa [List.zipIdx_cons] using h1, fun m => ?_⟩
    have h2 := h2 m
    simp only [List.zipIdx_cons, List.foldl_cons, List.length_cons]
    rw [h2]
    by_cases e : m = off + k
    · subst e
      rw [if_neg (by omega), if_pos (by omega)]
      have : off + k < cs.size := by omega
      simp [this]
    · rw [Array.getElem?_setIfInBounds_ne (Ne.symm e)]
      by_cases hb : off + (k + 1) ≤ m ∧ m < off + (k + 1) + l.length
      · rw [if_pos hb, if_pos (by omega), show m - (off + k) = (m - (off + (k + 1))) + 1 by omega, List.getElem?_cons_succ]
      · rw [if_neg hb, if_neg (by omega)]

theorem fold_splice {off : Nat} {vs cs : Array Value} (h : off + vs.size ≤ cs.size) :
    vs.zipIdx.foldl (fun cs (x : Value × Nat) => cs.setIfInBounds (off + x.2) x.1) cs = splice cs off vs.toList := by
  have e : vs.zipIdx.foldl (fun cs (x : Value × Nat) => cs.setIfInBounds (off + x.2) x.1) cs = (vs.toList.zipIdx 0).foldl (fun cs (x : Value × Nat) => cs.setIfInBounds (off + x.2) x.1) cs := by
    rw [← Array.foldl_toList, Array.toList_zipIdx]
  rw [e]
  apply Array.ext_getElem?
  intro m
  rw [(fold_get off vs.toList 0 cs (by simpa using h)).2 m, splice_get (by simpa using h)]
  simp

theorem fill_step {place : Nat → Option (Nat × Nat)} {cs : Array Value} {i o sz : Nat} {v : Value} {rest : List (Nat × Value)} (hp : place i = some (o, sz)) (hv : v.cells.size = sz) (hl : o + sz ≤ cs.size) :
    Instr.fill place cs ((i, v) :: rest) = Instr.fill place (splice cs o v.cells.toList) rest := by
  unfold Instr.fill
  simp only [hp]
  rw [if_neg (by simp; omega), ← fold_splice (by omega)]
  cases rest <;> rfl

theorem cells_of_holds {n : Nat} {t : T} {l : List Value} (g : Good n t) (h : Holds ρ (fun k => l[k]?) t 0) (hl : l.length = t.size) : l = cells ρ t := by
  apply List.ext_getElem?
  intro k
  by_cases hk : k < t.size
  · have := holds_cells g h k hk
    rw [Nat.zero_add] at this
    exact this
  · rw [List.getElem?_eq_none (by omega), List.getElem?_eq_none (by rw [cells_len g]; omega)]

theorem holds_of_list {n : Nat} {t : T} {l : List Value} (g : Good n t) (h : l = cells ρ t) : Holds ρ (fun k => l[k]?) t 0 :=
  holds_of_cells g fun k _ => by rw [Nat.zero_add, h]

theorem parts_map {parts : Array (Nat × Operand)} : (parts.map fun (i, x) => (i, a.eval x)).toList = parts.toList.map fun x => (x.1, a.eval x.2) := by
  rw [Array.toList_map]

theorem setParts_spec (hs : SlotsOk ρ s.H.length s.sl a.tmps) {off : Nat → Option (Nat × Nat)} : ∀ {parts : List (Nat × Operand)} {acc v : T} {cs : Array Value}, setParts s off parts acc = some v → Good s.H.length acc →
    cs.toList = cells ρ acc → ∃ cs', Instr.fill off cs (parts.map fun x => (x.1, a.eval x.2)) = some cs' ∧ Good s.H.length v ∧ cs'.toList = cells ρ v
  | [], acc, v, cs, h, g, e => by
    simp only [setParts, Option.some.injEq] at h
    subst h
    exact ⟨cs, rfl, g, e⟩
  | (i, x) :: l, acc, v, cs, h, g, e => by
    simp only [setParts] at h
    split at h
    · rename_i o' sz hoff
      split at h
      · rename_i old hold
        split at h
        · rename_i hb
          simp only [Bool.and_eq_true] at hb
          obtain ⟨⟨hb1, hb2⟩, hb3⟩ := hb
          have hb1 := beq_nat hb1
          have hb2 := beq_nat hb2
          obtain ⟨hv, hg⟩ := storable_good (read_ok hs x) hb3
          have hlen := cells_len (ρ := ρ) hg
          have hcs : cs.size = acc.size := by rw [← Array.length_toList, e, cells_len g]
          obtain ⟨g1, l1, _, _⟩ := getF_spec (ρ := ρ) (m := fun _ => none) (o := 0) g hold
          have hcv := cells_of_val (ρ := ρ) hg
          have hsz : (a.eval x).cells.size = sz := by rw [← hv, ← Array.length_toList, hcv, hlen, hb2]
          have hsp := splice_get (cs := cs) (o := o') (vs := cells ρ (s.read x)) (by omega)
          obtain ⟨g2, s2, q2⟩ := setF_spec (ρ := ρ) (m := fun k => cs[k]?) (m' := fun k => (splice cs o' (cells ρ (s.read x)))[k]?) (g := fun _ => s.read x) (o := 0) g hold hg (by omega)
            (fun k hk => by
              show (splice cs o' (cells ρ (s.read x)))[k]? = cs[k]?
              rw [hsp k, if_neg (by omega)])
            (fun _ => by
              rw [Nat.zero_add]
              refine holds_of_cells hg fun k hk => ?_
              show (splice cs o' (cells ρ (s.read x)))[o' + k]? = _
              rw [hsp, if_pos (by omega)]
              congr 1
              omega)
          have hc1 : Holds ρ (fun k => cs[k]?) acc 0 := by
            have := holds_of_list g e
            simpa only [Array.getElem?_toList] using this
          have hz2 : (splice cs o' (cells ρ (s.read x))).size = cs.size := splice_size (by omega)
          obtain ⟨cs', hf, gv, ev⟩ := setParts_spec hs (cs := splice cs o' (cells ρ (s.read x))) h g2 (cells_of_holds g2 (by
            have := q2 hc1
            simpa only [Array.getElem?_toList] using this) (by rw [Array.length_toList, hz2, hcs, s2]))
          refine ⟨cs', ?_, gv, ev⟩
          simp only [List.map_cons]
          rw [fill_step hoff hsz (by omega), ← hv, hcv]
          exact hf
        · cases h
      · cases h
    · cases h

theorem infoAll_spec : ∀ {l : List Field}, infoAll P l = true → ∀ f ∈ l, ∃ i, P.info? f.type = some i
  | [], _, f, hf => by simp at hf
  | g :: l, h, f, hf => by
    simp only [infoAll, Bool.and_eq_true] at h
    rcases List.mem_cons.1 hf with rfl | hf
    · exact Option.isSome_iff_exists.1 h.1
    · exact infoAll_spec h.2 f hf

theorem places_run {fs : Array Field} (h : infoAll P fs.toList = true) (w : World) :
    (fs.mapM fun f => do pure (f.offset, ← sizeOf f.type) : Sem (Array (Nat × Nat))).run P w = .ok (fs.map fun f => (f.offset, P.cellsOf f.type)) w := by
  have key : ∀ (l : List Field), infoAll P l = true → (l.mapM fun f => do pure (f.offset, ← sizeOf f.type) : Sem (List (Nat × Nat))).run P w = .ok (l.map fun f => (f.offset, P.cellsOf f.type)) w := by
    intro l
    induction l with
    | nil => intro _; rfl
    | cons f l ih =>
      intro h
      simp only [infoAll, Bool.and_eq_true] at h
      obtain ⟨i, hi⟩ := Option.isSome_iff_exists.1 h.1
      simp only [List.mapM_cons, Sem.run_bind, run_sizeOf w hi, Result.andThen_ok, Sem.run_pure, ih h.2, List.map_cons]
  have h1 := key fs.toList h
  have e : (fs.mapM fun f => do pure (f.offset, ← sizeOf f.type) : Sem (Array (Nat × Nat))) = (do let l ← (fs.toList.mapM fun f => do pure (f.offset, ← sizeOf f.type)); pure l.toArray) := by
    rw [Array.mapM_eq_mapM_toList]
    rfl
  rw [e, Sem.run_bind, h1]
  simp only [Result.andThen_ok, Sem.run_pure]
  congr 1
  rw [← Array.toList_map]

/-- Elements, one by one. -/
def ElemsOk (ρ : Rho) (n sz : Nat) (cs : Array Value) (l : List T) : Prop :=
  (∀ t ∈ l, Good n t ∧ t.size = sz) ∧ cs.toList = l.flatMap (cells ρ)

theorem elems_get {n sz : Nat} {cs : Array Value} {l : List T} (h : ElemsOk ρ n sz cs l) {j k : Nat} {t : T} (ht : l[j]? = some t) (hk : k < sz) : cs[j * sz + k]? = (cells ρ t)[k]? := by
  rw [← Array.getElem?_toList, h.2]
  exact flatMap_get (cells ρ) l j k t (fun u hu => by rw [cells_len (h.1 u hu).1]; exact (h.1 u hu).2) ht hk

theorem elems_size {n sz : Nat} {cs : Array Value} {l : List T} (h : ElemsOk ρ n sz cs l) : cs.size = l.length * sz := by
  rw [← Array.length_toList, h.2]
  exact flatMap_len (cells ρ) l (fun u hu => by rw [cells_len (h.1 u hu).1]; exact (h.1 u hu).2)

theorem elems_of {n sz : Nat} {cs : Array Value} {l : List T} (hg : ∀ t ∈ l, Good n t ∧ t.size = sz) (hz : cs.size = l.length * sz) (h0 : sz ≠ 0)
    (h : ∀ j t k, l[j]? = some t → k < sz → cs[j * sz + k]? = (cells ρ t)[k]?) : ElemsOk ρ n sz cs l := by
  refine ⟨hg, ?_⟩
  have hl : (l.flatMap (cells ρ)).length = l.length * sz := flatMap_len (cells ρ) l (fun u hu => by rw [cells_len (hg u hu).1]; exact (hg u hu).2)
  apply List.ext_getElem?
  intro m
  by_cases hm : m < l.length * sz
  · have hj : m / sz < l.length := Nat.div_lt_of_lt_mul (by rw [Nat.mul_comm]; exact hm)
    have hk : m % sz < sz := Nat.mod_lt _ (by omega)
    have e : m = m / sz * sz + m % sz := by rw [Nat.mul_comm]; exact (Nat.div_add_mod m sz).symm
    have ht : l[m / sz]? = some l[m / sz] := List.getElem?_eq_getElem hj
    rw [e, Array.getElem?_toList, h _ _ _ ht hk, flatMap_get (cells ρ) l _ _ _ (fun u hu => by rw [cells_len (hg u hu).1]; exact (hg u hu).2) ht hk]
  · rw [List.getElem?_eq_none (by rw [Array.length_toList]; omega), List.getElem?_eq_none (by omega)]

theorem setElems_spec (hs : SlotsOk ρ s.H.length s.sl a.tmps) {n sz : Nat} (h0 : sz ≠ 0) : ∀ {parts : List (Nat × Operand)} {l l' : List T} {cs : Array Value}, setElems s n sz parts l = some l' → l.length = n → ElemsOk ρ s.H.length sz cs l →
    ∃ cs', Instr.fill (fun i => some (i * sz, sz)) cs (parts.map fun x => (x.1, a.eval x.2)) = some cs' ∧ ElemsOk ρ s.H.length sz cs' l' ∧ l'.length = n
  | [], l, l', cs, h, hn, e => by
    simp only [setElems, Option.some.injEq] at h
    subst h
    exact ⟨cs, rfl, e, hn⟩
  | (i, x) :: ps, l, l', cs, h, hn, e => by
    simp only [setElems] at h
    split at h
    · rename_i hb
      simp only [Bool.and_eq_true] at hb
      obtain ⟨⟨hb1, hb2⟩, hb3⟩ := hb
      have hb1 : i < n := by
        unfold Nat.blt at hb1
        exact Nat.le_of_ble_eq_true hb1
      have hb2 := beq_nat hb2
      obtain ⟨hv, hg⟩ := storable_good (read_ok hs x) hb3
      have hlen := cells_len (ρ := ρ) hg
      have hcv := cells_of_val (ρ := ρ) hg
      have hsz : (a.eval x).cells.size = sz := by rw [← hv, ← Array.length_toList, hcv, hlen, hb2]
      have hz := elems_size e
      have hstep := mul_step (sz := sz) hb1
      have hin : i * sz + sz ≤ cs.size := by rw [hz, hn]; exact hstep
      have hsp := splice_get (cs := cs) (o := i * sz) (vs := cells ρ (s.read x)) (by omega)
      have e' : ElemsOk ρ s.H.length sz (splice cs (i * sz) (cells ρ (s.read x))) (setSl l i (s.read x)) := by
        rw [setSl_eq]
        refine elems_of (fun t ht => ?_) (by rw [splice_size (by omega), hz, List.length_set]) h0 (fun j t k ht hk => ?_)
        · rcases List.mem_or_eq_of_mem_set ht with ht | rfl
          · exact e.1 t ht
          · exact ⟨hg, hb2⟩
        · rw [hsp]
          by_cases hij : i = j
          · subst hij
            have hil : i < l.length := by omega
            simp [hil] at ht
            subst ht
            rw [if_pos (by omega)]
            congr 1
            omega
          · rw [List.getElem?_set_ne hij] at ht
            rw [if_neg, elems_get e ht hk]
            rcases Nat.lt_or_gt_of_ne hij with hlt | hgt
            · have := mul_step (sz := sz) hlt; omega
            · have := mul_step (sz := sz) hgt; omega
      obtain ⟨cs', hf, r1, r2⟩ := setElems_spec hs h0 h (by rw [setSl_eq, List.length_set]; exact hn) e'
      refine ⟨cs', ?_, r1, r2⟩
      simp only [List.map_cons]
      rw [fill_step rfl hsz hin, ← hv, hcv]
      exact hf
    · cases h

theorem rowOf_spec {n sz : Nat} {m : Cells} : ∀ {l : List T} {k : Nat}, l ≠ [] → (∀ t ∈ l, Good n t ∧ t.size = sz) → ∀ j, Good n (rowOf k l j) ∧ (rowOf k l j).size = sz ∧
    ∀ t o, k ≤ j → l[j - k]? = some t → Holds ρ m t o → Holds ρ m (rowOf k l j) o
  | [], _, h, _, _ => absurd rfl h
  | [t], k, _, hg, j => ⟨(hg t List.mem_cons_self).1, (hg t List.mem_cons_self).2, fun u o hk hu hh => by
      have : j - k = 0 := by
        rcases Nat.eq_zero_or_pos (j - k) with h | h
        · exact h
        · rw [List.getElem?_eq_none (by simp; omega)] at hu; cases hu
      rw [this] at hu
      simp at hu
      subst hu
      exact hh⟩
  | t :: u :: l, k, _, hg, j => by
    obtain ⟨g1, s1, h1⟩ := rowOf_spec (l := u :: l) (k := k + 1) (by simp) (fun x hx => hg x (List.mem_cons_of_mem _ hx)) j
    obtain ⟨gt, st⟩ := hg t List.mem_cons_self
    have hs : t.size = (rowOf (k + 1) (u :: l) j).size := by rw [st, s1]
    show Good n (T.sel (Nat.beq j k) t (rowOf (k + 1) (u :: l) j)) ∧ (T.sel (Nat.beq j k) t (rowOf (k + 1) (u :: l) j)).size = sz ∧ _
    refine ⟨sel_good hs gt g1, by rw [sel_size hs]; exact st, fun v o hk hv hh => ?_⟩
    show Holds ρ m (T.sel (Nat.beq j k) t (rowOf (k + 1) (u :: l) j)) o
    refine sel_holds hs gt g1 (fun hb => ?_) (fun hb => ?_)
    · have := beq_nat hb
      subst this
      simp at hv
      subst hv
      exact hh
    · have hne : j ≠ k := fun e => by subst e; rw [Nat.beq_refl] at hb; cases hb
      refine h1 v o (by omega) ?_ hh
      rw [show j - k = (j - (k + 1)) + 1 by omega, List.getElem?_cons_succ] at hv
      exact hv

theorem row_good {n sz : Nat} {cs : Array Value} {l : List T} (h : ElemsOk ρ n sz cs l) : Good n (.arr l.length sz (rowOf 0 l)) ∧ cs.toList = cells ρ (.arr l.length sz (rowOf 0 l)) := by
  by_cases he : l = []
  · subst he
    refine ⟨fun j hj => absurd hj (by simp), ?_⟩
    have := h.2
    simp [cells, T.cv] at this ⊢
    exact this
  · have hg : Good n (.arr l.length sz (rowOf 0 l)) := fun j _ => by
      obtain ⟨g, s, _⟩ := rowOf_spec (ρ := ρ) (m := fun _ => none) (k := 0) he h.1 j
      exact ⟨s, g⟩
    refine ⟨hg, cells_of_holds hg (fun j hj => ?_) (by rw [Array.length_toList, elems_size h]; rfl)⟩
    have ht : l[j]? = some l[j] := List.getElem?_eq_getElem hj
    obtain ⟨g, s, hh⟩ := rowOf_spec (ρ := ρ) (m := fun k => cs.toList[k]?) (k := 0) he h.1 j
    refine hh l[j] _ (Nat.zero_le _) (by simp) (holds_of_cells (h.1 _ (List.getElem_mem hj)).1 fun k hk => ?_)
    rw [(h.1 _ (List.getElem_mem hj)).2] at hk
    show cs.toList[0 + j * sz + k]? = _
    rw [Nat.zero_add, Array.getElem?_toList]
    exact elems_get h ht hk

theorem op_build (hs : SlotsOk ρ s.H.length s.sl a.tmps) {t : TypeId} {parts : Array (Nat × Operand)} (ho : o.op = .build t parts) (h : opK P C q s K o) : PureStep P c ρ s a o K := by
  simp only [opK, ho] at h
  split at h
  · rename_i z fs hz hu
    split at h
    · rename_i hinf
      split at h
      · rename_i v hp
        obtain ⟨i, zv, hi, hzv, hg, hc, _, _⟩ := zeroOf_spec (ρ := ρ) (n := s.H.length) hz
        obtain ⟨cs', hf, gv, ev⟩ := setParts_spec hs (cs := zv.cells) hp hg hc
        have hval : K (R.ret v) s.H ∧ val ρ v = .agg (cells ρ v).toArray := by
          split at h
          · exact ⟨h, rfl⟩
          · exact ⟨h, rfl⟩
          · exact h.elim
        refine ⟨v, _, hval.1, SlOk.of_good gv, fun w _ => ?_⟩
        have hf' : Instr.fill (fun x => (fs.map fun f => (f.offset, P.cellsOf f.type))[x]?) zv.cells (parts.map fun (i, x) => (i, a.eval x)).toList = some cs' := by
          rw [parts_map, ← hf]
          congr 1
          funext x
          simp
        simp only [execOp, ho, Instr.build, Sem.run_bind, zeroValue, run_typeInfo w hi, hzv, Sem.run_pure, Result.andThen_ok, run_underlying hu, places_run hinf, hf', hval.2, ← ev]
      · exact h.elim
    · exact h.elim
  · rename_i z n e hz hu
    split at h
    · rename_i n' sz f
      split at h
      · rename_i hb
        simp only [Bool.and_eq_true, Bool.not_eq_true'] at hb
        obtain ⟨⟨hb1, hb2⟩, hb3⟩ := hb
        have hb1 := beq_nat hb1
        have hb2 := beq_nat hb2
        have h0 : sz ≠ 0 := fun e => by rw [e] at hb3; cases hb3
        subst hb1
        split at h
        · rename_i l hp
          obtain ⟨i, zv, hi, hzv, hg, hc, _, _⟩ := zeroOf_spec (ρ := ρ) (n := s.H.length) hz
          have hg : Good s.H.length (.arr n sz f) := hg
          have e0 : ElemsOk ρ s.H.length sz zv.cells ((List.range n).map f) := by
            refine ⟨fun t ht => ?_, ?_⟩
            · obtain ⟨j, hj, rfl⟩ := List.mem_map.1 ht
              exact ⟨(hg j (List.mem_range.1 hj)).2, (hg j (List.mem_range.1 hj)).1⟩
            · rw [hc, List.flatMap_map]
              rfl
          obtain ⟨cs', hf, r1, r2⟩ := setElems_spec hs h0 (cs := zv.cells) hp (by simp) e0
          obtain ⟨g1, e1⟩ := row_good r1
          rw [r2] at g1 e1
          refine ⟨_, _, h, SlOk.of_good g1, fun w _ => ?_⟩
          obtain ⟨inf, hinf⟩ := info_of_cells (P := P) (t := e) (by rw [← hb2]; exact h0)
          have hf' : Instr.fill (fun i => some (i * P.cellsOf e, P.cellsOf e)) zv.cells (parts.map fun (i, x) => (i, a.eval x)).toList = some cs' := by
            rw [parts_map, ← hf, hb2]
          simp only [execOp, ho, Instr.build, Sem.run_bind, zeroValue, run_typeInfo w hi, hzv, Sem.run_pure, Result.andThen_ok, run_underlying hu, run_sizeOf w hinf, hf']
          have : val ρ (.arr n sz (rowOf 0 l)) = .agg (cells ρ (.arr n sz (rowOf 0 l))).toArray := rfl
          rw [this, ← e1]
        · exact h.elim
      · exact h.elim
    · exact h.elim
  · exact h.elim

/-- A new row of elements. -/
theorem row_step {el : TypeId} {x : T} {len cap : Nat} {cs : Array Value} {sz : Nat} {w : World} (hw : WRel c ρ s.H w) (hg : Good s.H.length x) (hc : ∀ k, k < x.size → cs[k]? = (cells ρ x)[k]?) {tt : Nat} (htt : tt ≤ cs.size)
    (hrun : (execOp a.eval o).run P w = .ok (.value (.slice (some ⟨w.heap.size, 0, none⟩) len cap)) (w.alloc (.cells cs el)))
    (hK : K (.ret (.slice s.H.length 0 [] 0 sz len cap)) (s.H ++ [{ own := true, pl := true, fam := 1, el := el, tot := fun _ => tt, c := fun _ => x }])) : EffStep P c ρ s a o K w := by
  refine ⟨_, _, ext ρ s.H.length w.heap.size, _, _, hK, hrun, ⟨_, .inl rfl, ?_, ?_⟩, ?_, fun r hr => ext_old hr, by simp⟩
  · simp only [Sx.val, T.cv, sc, pla, ext_new, off, Nat.add_zero, Nat.zero_mul]
  · show s.H.length < (s.H ++ [_]).length
    simp
  · exact hw.alloc (g := { own := true, pl := true, fam := 1, el := el, tot := fun _ => tt, c := fun _ => x }) rfl rfl rfl htt hg hc

theorem repT_eq (z : T) (n : Nat) : repT z n = List.replicate n z := by
  induction n with
  | zero => rfl
  | succ n ih => simp only [repT, ih, List.replicate_succ]

theorem rowZ_good {n sz : Nat} {cs : Array Value} {l : List T} (z : T) (h : ElemsOk ρ n sz cs l) : Good n (.arr l.length sz (rowZ z l)) ∧ cs.toList = cells ρ (.arr l.length sz (rowZ z l)) := by
  have h1 := row_good h
  cases l with
  | nil =>
    refine ⟨fun j hj => absurd hj (by simp), ?_⟩
    have := h1.2
    simp [cells, T.cv] at this ⊢
    exact this
  | cons t l => exact h1

theorem op_buildSlice (hs : SlotsOk ρ s.H.length s.sl a.tmps) {w : World} (hr : WRel c ρ s.H w) {t : TypeId} {n : Nat} {parts : Array (Nat × Operand)} (ho : o.op = .buildSlice t n parts) (h : opK P C q s K o) :
    q = false ∧ EffStep P c ρ s a o K w := by
  simp only [opK, ho] at h
  split at h
  · rename_i e hu
    split at h
    · rename_i z hz
      split at h
      · rename_i l hb hp
        simp only [Bool.and_eq_true, Bool.not_eq_true'] at hb
        have h0 : z.size ≠ 0 := fun e => by rw [e] at hb; simp at hb
        have h16 : n * z.size ≤ 16777216 := Nat.le_of_ble_eq_true hb.2
        obtain ⟨i, zv, hi, hzv, hg, hc, hsi, hce⟩ := zeroOf_spec (ρ := ρ) (n := s.H.length) hz
        have hlz := cells_len (ρ := ρ) hg
        have hzs : zv.cells.size = z.size := by rw [← Array.length_toList, hc, hlz]
        have hmk : ∀ j k, j < n → k < z.size → (madeCells zv.cells (n * z.size))[j * z.size + k]? = (cells ρ z)[k]? := by
          intro j k hj hk
          have hst := mul_step (sz := z.size) hj
          have hm : (j * z.size + k) % z.size = k := by rw [Nat.mul_comm, Nat.mul_add_mod, Nat.mod_eq_of_lt hk]
          have hlt : j * z.size + k < n * z.size := by omega
          simp only [madeCells, Array.getElem?_map, Array.getElem?_range, hlt, if_true, Option.map_some, hzs, hm]
          rw [← hc, Array.getElem?_toList, getElem?_pos zv.cells k (by omega), getElem!_pos zv.cells k (by omega)]
        have e0 : ElemsOk ρ s.H.length z.size (madeCells zv.cells (n * z.size)) (repT z n) := by
          rw [repT_eq]
          refine elems_of (fun t ht => ?_) (by rw [size_madeCells, List.length_replicate]) h0 (fun j t k ht hk => ?_)
          · rw [(List.mem_replicate.1 ht).2]; exact ⟨hg, rfl⟩
          · have hj : j < n := by have := (List.getElem?_eq_some_iff.1 ht).1; simpa using this
            simp [hj] at ht
            subst ht
            exact hmk j k hj hk
        obtain ⟨cs', hf, r1, r2⟩ := setElems_spec hs h0 hp (by rw [repT_eq, List.length_replicate]) e0
        obtain ⟨g1, e1⟩ := rowZ_good z r1
        rw [r2] at g1 e1
        have hl1 := cells_len (ρ := ρ) g1
        have hcz : cs'.size = n * z.size := by rw [elems_size r1, r2]
        refine ⟨rfl, row_step hr g1 (cs := cs') (fun k hk => by rw [← e1, Array.getElem?_toList]) (tt := n * z.size) (by omega) ?_ h⟩
        have hf' : Instr.fill (fun i => some (i * z.size, z.size)) (madeCells zv.cells (n * z.size)) (parts.map fun (i, x) => (i, a.eval x)).toList = some cs' := by
          rw [parts_map, ← hf]
        have hsz : (sizeOf e).run P w = .ok z.size w := by rw [run_sizeOf w hi, hce]
        have hzr : (zeroValue e).run P w = .ok zv w := by
          simp only [zeroValue, Sem.run_bind, run_typeInfo w hi, Result.andThen_ok, hzv, Sem.run_pure]
        have hng : ¬ (n * z.size > 2 ^ 24) := by
          have : (2 : Nat) ^ 24 = 16777216 := by decide
          omega
        simp only [execOp, ho, Instr.buildSlice, Sem.run_bind, run_underlying hu, Result.andThen_ok, hsz, if_neg hng, Sem.run_pure]
        by_cases hn0 : n * z.size = 0
        · have hn : n = 0 := by
            rcases Nat.mul_eq_zero.1 hn0 with h | h
            · exact h
            · exact absurd h h0
          have hmz : (Array.range (n * z.size)).map (fun k => (#[] : Array Value)[k % (#[] : Array Value).size]!) = madeCells zv.cells (n * z.size) := by
            rw [hn0]; simp [madeCells]
          rw [hn0] at hmz hf'
          simp only [hn0, if_true, Sem.run_bind, Sem.run_pure, Result.andThen_ok]
          rw [hmz, hf']
          rfl
        · simp only [if_neg hn0, Sem.run_bind, hzr, Sem.run_pure, Result.andThen_ok]
          have hmz : (Array.range (n * z.size)).map (fun k => zv.cells[k % zv.cells.size]!) = madeCells zv.cells (n * z.size) := rfl
          rw [hmz, hf']
          rfl
      · exact h.elim
    · exact h.elim
  · exact h.elim

theorem op_makeSlice (hs : SlotsOk ρ s.H.length s.sl a.tmps) {w : World} (hr : WRel c ρ s.H w) {t : TypeId} {x y : Operand} (ho : o.op = .makeSlice t x y) (h : opK P C q s K o) :
    q = false ∧ EffStep P c ρ s a o K w := by
  simp only [opK, ho] at h
  obtain ⟨ta, h1, hx⟩ := force_spec h (read_ok hs x)
  clear h
  obtain ⟨tb, h, hy⟩ := force_spec h1 (read_ok hs y)
  clear h1
  split at h
  · rename_i l cp e hl hcp hu
    obtain ⟨kl, rfl⟩ := intOf_some hl
    obtain ⟨kc, rfl⟩ := intOf_some hcp
    split at h
    · rename_i z hz
      split at h
      · exact h.elim
      · rename_i hb
        have h0 : z.size ≠ 0 := fun e => by rw [e] at hb; cases hb
        obtain ⟨⟨b0, b1, b2, b3⟩, h⟩ := h
        obtain ⟨i, zv, hi, hzv, hg, hc, hsi, hce⟩ := zeroOf_spec (ρ := ρ) (n := s.H.length) hz
        have hlz := cells_len (ρ := ρ) hg
        have hzs : zv.cells.size = z.size := by rw [← Array.length_toList, hc, hlz]
        obtain ⟨hxv, _⟩ := hx
        obtain ⟨hyv, _⟩ := hy
        have hbytes : (i.bytes : Int) * cp ≤ 281474976710656 := by
          have : P.bytesOf e = i.bytes := by simp [Program.bytesOf, hi]
          rw [← this]; exact b3
        have hm := run_make (P := P) w t e i zv hu hi hzv kl kc l cp b0 b1 hbytes b2
        have hga : Good s.H.length (.arr cp.toNat z.size (fun _ => z)) := fun j hj => ⟨rfl, hg⟩
        refine ⟨rfl, row_step hr hga (cs := madeCells zv.cells (cp.toNat * z.size)) (fun k hk => ?_) (tt := cp.toNat * z.size) (Nat.le_of_eq (size_madeCells _ _).symm) ?_ h⟩
        · simp only [T.size] at hk
          have hj : k / z.size < cp.toNat := Nat.div_lt_of_lt_mul (by rw [Nat.mul_comm]; exact hk)
          have hk2 : k % z.size < z.size := Nat.mod_lt _ (by omega)
          have ek : k = k / z.size * z.size + k % z.size := by rw [Nat.mul_comm]; exact (Nat.div_add_mod k z.size).symm
          have h1 : (cells ρ (.arr cp.toNat z.size fun _ => z))[k]? = (cells ρ z)[k % z.size]? := by
            simp only [cells, T.cv]
            rw [ek]
            have := flatMap_get (fun _ => ((z.cv ρ).cells)) (List.range cp.toNat) (k / z.size) (k % z.size) (k / z.size) (fun _ _ => hlz) (by simp [hj]) hk2
            rw [this]
            congr 1
            rw [Nat.mul_comm, Nat.mul_add_mod, Nat.mod_mod]
          rw [h1]
          simp only [madeCells, Array.getElem?_map, Array.getElem?_range, hk, if_true, Option.map_some, hzs]
          rw [← hc, Array.getElem?_toList, getElem?_pos zv.cells _ (by omega), getElem!_pos zv.cells _ (by omega)]
        · rw [hsi]
          simp only [execOp, ho, ← hxv, ← hyv, Sx.val, T.cv, sc, Sem.run_bind, hm, Result.andThen_ok, Sem.run_pure]
    · exact h.elim
  · exact h.elim

end
end Go.Sx
