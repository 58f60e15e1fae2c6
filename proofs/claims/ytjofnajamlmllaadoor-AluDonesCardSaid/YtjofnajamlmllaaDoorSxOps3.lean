import Derived.Test.YtjofnajamlmllaaDoorSxOps2
namespace Go.Sx

/-- What an operation with an effect comes to. -/
def EffStep (P : Program) (c : Ctx) (ρ : Rho) (s : S) (a : Act) (o : Oper) (K : R → List Reg → Prop) (w : World) : Prop :=
  ∃ v H ρ' w' n, K (.ret v) H ∧ (execOp a.eval o).run P w = .ok n w' ∧ (∃ u, (n = .value u ∨ n = .skip ∧ u = undef) ∧ SlOk ρ' H.length v u) ∧ WRel c ρ' H w' ∧ (∀ r, r < s.H.length → ρ' r = ρ r) ∧ s.H.length ≤ H.length

section
variable {P : Program} {C : Cfg} {q : Bool} {c : Ctx} {ρ : Rho} {s : S} {a : Act} {o : Oper} {K : R → List Reg → Prop}

/-! ### zero values -/
theorem match_cells {ρ : Rho} {n : Nat} : ∀ {t : T} {l r : List Value}, matchCells t l = some r → Good n t ∧ l = cells ρ t ++ r := by
  intro t
  induction t with
  | int k x =>
    intro l r h
    simp only [matchCells] at h
    split at h
    · split at h
      · rename_i hb
        simp only [Bool.and_eq_true, decide_eq_true_eq] at hb
        have := kEq_eq hb.1
        subst this
        simp only [Option.some.injEq] at h
        subst h
        rw [← hb.2]
        exact ⟨trivial, rfl⟩
      · cases h
    · cases h
  | ff => intro l r h; simp only [matchCells] at h; split at h <;> first | (simp only [Option.some.injEq] at h; subst h; exact ⟨trivial, rfl⟩) | cases h
  | str b =>
    intro l r h
    simp only [matchCells] at h
    split at h
    · rename_i s' r'
      split at h
      · rename_i hb
        simp only [Bool.and_eq_true, decide_eq_true_eq] at hb
        simp only [Option.some.injEq] at h
        subst h
        refine ⟨trivial, ?_⟩
        have e : s' = b := by
          cases s' with | mk x => cases b with | mk y =>
          congr 1
          have h1 : x.size = 0 := hb.2
          have h2 : y.size = 0 := hb.1
          rw [Array.size_eq_zero_iff] at h1 h2
          rw [h1, h2]
        rw [e]
        rfl
      · cases h
    · cases h
  | nilp => intro l r h; simp only [matchCells] at h; split at h <;> first | (simp only [Option.some.injEq] at h; subst h; exact ⟨trivial, rfl⟩) | cases h
  | nils => intro l r h; simp only [matchCells] at h; split at h <;> first | (simp only [Option.some.injEq] at h; subst h; exact ⟨trivial, rfl⟩) | cases h
  | nilf => intro l r h; simp only [matchCells] at h; split at h <;> first | (simp only [Option.some.injEq] at h; subst h; exact ⟨trivial, rfl⟩) | cases h
  | nili => intro l r h; simp only [matchCells] at h; split at h <;> first | (simp only [Option.some.injEq] at h; subst h; exact ⟨trivial, rfl⟩) | cases h
  | nil => intro l r h; simp only [matchCells, Option.some.injEq] at h; subst h; exact ⟨trivial, rfl⟩
  | cons x y ih1 ih2 =>
    intro l r h
    simp only [matchCells] at h
    cases h1 : matchCells x l with
    | none => simp [h1] at h
    | some m =>
      rw [h1] at h
      obtain ⟨g1, e1⟩ := ih1 h1
      obtain ⟨g2, e2⟩ := ih2 h
      exact ⟨⟨g1, g2⟩, by rw [e1, e2]; simp [cells, T.cv]⟩
  | arr m sz f ih =>
    intro l r h
    simp only [matchCells] at h
    have key : ∀ (js : List Nat) (l r : List Value), js.foldl (fun acc j => acc.bind fun l => match Nat.beq (f j).size sz with | true => matchCells (f j) l | false => none) (some l) = some r →
        (∀ j ∈ js, (f j).size = sz ∧ Good n (f j)) ∧ l = js.flatMap (fun j => cells ρ (f j)) ++ r := by
      intro js
      induction js with
      | nil => intro l r h; simp only [List.foldl_nil, Option.some.injEq] at h; subst h; exact ⟨fun j hj => by simp at hj, rfl⟩
      | cons j js ihj =>
        intro l r h
        simp only [List.foldl_cons, Option.bind_some] at h
        cases hb : Nat.beq (f j).size sz with
        | false =>
          simp only [hb] at h
          have : ∀ js : List Nat, js.foldl (fun acc j => acc.bind fun l => match Nat.beq (f j).size sz with | true => matchCells (f j) l | false => none) (none : Option (List Value)) = none := by
            intro js
            induction js with
            | nil => rfl
            | cons j js ih => simpa only [List.foldl_cons, Option.bind_none] using ih
          rw [this] at h
          cases h
        | true =>
          simp only [hb] at h
          cases hm : matchCells (f j) l with
          | none =>
            rw [hm] at h
            have : ∀ js : List Nat, js.foldl (fun acc j => acc.bind fun l => match Nat.beq (f j).size sz with | true => matchCells (f j) l | false => none) (none : Option (List Value)) = none := by
              intro js
              induction js with
              | nil => rfl
              | cons j js ih => simpa only [List.foldl_cons, Option.bind_none] using ih
            rw [this] at h
            cases h
          | some l' =>
            rw [hm] at h
            obtain ⟨g1, e1⟩ := ih j hm
            obtain ⟨g2, e2⟩ := ihj _ _ h
            refine ⟨fun i hi => ?_, by rw [e1, e2, List.flatMap_cons, List.append_assoc]⟩
            rcases List.mem_cons.1 hi with rfl | hi
            · exact ⟨beq_nat hb, g1⟩
            · exact g2 i hi
    obtain ⟨g, e⟩ := key _ _ _ h
    exact ⟨fun j hj => g j (List.mem_range.2 hj), by rw [e]; rfl⟩
  | _ => intro l r h; simp [matchCells] at h

theorem zeroOf_spec {n : Nat} {t : TypeId} {z : T} (h : zeroOf P t = some z) :
    ∃ i v, P.info? t = some i ∧ i.zero = some v ∧ Good n z ∧ v.cells.toList = cells ρ z ∧ z.size = i.size ∧ P.cellsOf t = z.size := by
  unfold zeroOf at h
  split at h
  · rename_i z' i hz hi
    split at h
    · rename_i v hv
      split at h
      · rename_i hm
        split at h
        · rename_i hb
          simp only [Option.some.injEq] at h
          subst h
          obtain ⟨g, e⟩ := match_cells (ρ := ρ) (n := n) hm
          have hb := beq_nat hb
          exact ⟨i, v, hi, hv, g, by rw [e, List.append_nil], hb, by simp [Program.cellsOf, hi, hb]⟩
        · cases h
      · cases h
    · cases h
  · cases h

theorem newVar_run {t : TypeId} {v : Value} {w : World} : (newVar t v).run P w = .ok ⟨w.heap.size, 0, none⟩ (w.alloc (.cells v.cells t)) := rfl

/-- A new variable. -/
theorem new_step {t : TypeId} {x : T} {v : Value} {w : World} (hw : WRel c ρ s.H w) (hg : Good s.H.length x) (hc : v.cells.toList = cells ρ x)
    (hrun : (execOp a.eval o).run P w = .ok (.value (.pointer (some ⟨w.heap.size, 0, none⟩))) (w.alloc (.cells v.cells t)))
    (hK : K (.ret (.ptr s.H.length 0 [])) (s.H ++ [newReg t x])) : EffStep P c ρ s a o K w := by
  have hl : v.cells.size = x.size := by rw [← Array.length_toList, hc, cells_len hg]
  refine ⟨_, _, ext ρ s.H.length w.heap.size, _, _, hK, hrun, ⟨_, .inl rfl, ?_, ?_⟩, ?_, fun r hr => ext_old hr, by simp⟩
  · simp only [Sx.val, T.cv, sc, pla, ext_new, off, Nat.add_zero]
  · show s.H.length < (s.H ++ [newReg t x]).length
    simp
  · refine hw.alloc (g := newReg t x) rfl rfl rfl (by simp [newReg, hl]) hg (fun k hk => ?_)
    show v.cells[k]? = (cells ρ x)[k]?
    rw [← hc, Array.getElem?_toList]

theorem op_alloc {w : World} (hr : WRel c ρ s.H w) {t : TypeId} (ho : o.op = .alloc t) (h : opK P C q s K o) : q = false ∧ EffStep P c ρ s a o K w := by
  simp only [opK, ho] at h
  split at h
  · rename_i z hz
    obtain ⟨i, v, hi, hv, hg, hc, _, _⟩ := zeroOf_spec (ρ := ρ) (n := s.H.length) hz
    refine ⟨rfl, new_step hr hg hc ?_ h⟩
    simp only [execOp, ho, Instr.alloc, Sem.run_bind, zeroValue, run_typeInfo w hi, Result.andThen_ok, hv, Sem.run_pure, newVar_run]
  · exact h.elim

theorem cells_of_val {n : Nat} {ρ : Rho} : ∀ {x : T}, Good n x → (val ρ x).cells.toList = cells ρ x
  | .ite b x y, g => by
    cases b with
    | true => exact cells_of_val (x := x) (g.2.1 rfl)
    | false => exact cells_of_val (x := y) (g.2.2 rfl)
  | .top, g | .tup _, g | .raw _, g => g.elim
  | .nil, _ | .cons .., _ | .arr .., _ | .int .., _ | .bool _, _ | .tt, _ | .ff, _ | .str _, _ | .nilp, _ | .nils, _ | .nilf, _ | .nili, _ | .ptr .., _ | .slice .., _ | .fn .., _ | .iface .., _ => rfl

theorem op_box (hs : SlotsOk ρ s.H.length s.sl a.tmps) {w : World} (hr : WRel c ρ s.H w) {t : TypeId} {x : Operand} (ho : o.op = .box t x) (h : opK P C q s K o) : q = false ∧ EffStep P c ρ s a o K w := by
  simp only [opK, ho] at h
  split at h
  · rename_i hst
    obtain ⟨hv, hg⟩ := storable_good (read_ok hs x) hst
    refine ⟨rfl, new_step hr hg (cells_of_val hg) ?_ h⟩
    simp only [execOp, ho, ← hv, Instr.box, Sem.run_bind, newVar_run, Result.andThen_ok, Sem.run_pure]
  · exact h.elim

theorem oneCell_cells {n : Nat} {ρ : Rho} : ∀ {x : T}, Good n x → ∀ v ∈ cells ρ x, v.oneCell' = true
  | .ite b x y, g => by
    cases b with
    | true => exact oneCell_cells (x := x) (g.2.1 rfl)
    | false => exact oneCell_cells (x := y) (g.2.2 rfl)
  | .top, g | .tup _, g | .raw _, g => g.elim
  | .nil, _ => fun v hv => by simp [cells, T.cv] at hv
  | .cons x y, g => fun v hv => by
    simp only [cells, T.cv, List.mem_append] at hv
    rcases hv with hv | hv
    · exact oneCell_cells g.1 v hv
    · exact oneCell_cells g.2 v hv
  | .arr m sz f, g => fun v hv => by
    simp only [cells, T.cv, List.mem_flatMap, List.mem_range] at hv
    obtain ⟨j, hj, hv⟩ := hv
    exact oneCell_cells (g j hj).2 v hv
  | .int .., _ | .bool _, _ | .tt, _ | .ff, _ | .str _, _ | .nilp, _ | .nils, _ | .nilf, _ | .nili, _ | .ptr .., _ | .slice .., _ | .fn .., _ | .iface .., _ => fun v hv => by
    simp only [cells, T.cv, sc, List.mem_singleton] at hv
    subst hv
    rfl

/-- Cells, with others from 'o' on. -/
def splice (cs : Array Value) (o : Nat) (vs : List Value) : Array Value := (cs.toList.take o ++ vs ++ cs.toList.drop (o + vs.length)).toArray
theorem splice_size {cs : Array Value} {o : Nat} {vs : List Value} (h : o + vs.length ≤ cs.size) : (splice cs o vs).size = cs.size := by
  simp [splice]
  omega
theorem splice_get {cs : Array Value} {o : Nat} {vs : List Value} (h : o + vs.length ≤ cs.size) (k : Nat) : (splice cs o vs)[k]? = if o ≤ k ∧ k < o + vs.length then vs[k - o]? else cs[k]? := by
  simp only [splice, List.getElem?_toArray]
  have hl : (cs.toList.take o).length = o := by simp; omega
  by_cases h1 : o ≤ k
  · by_cases h2 : k < o + vs.length
    · rw [if_pos ⟨h1, h2⟩, List.append_assoc, List.getElem?_append_right (by omega), hl, List.getElem?_append_left (by omega)]
    · rw [if_neg (by omega), List.getElem?_append_right (by simp; omega), List.getElem?_drop]
      simp only [List.length_append, hl]
      rw [show o + vs.length + (k - (o + vs.length)) = k by omega, Array.getElem?_toList]
  · rw [if_neg (by omega), List.append_assoc, List.getElem?_append_left (by omega), List.getElem?_take_of_lt (by omega), Array.getElem?_toList]

theorem holds_in {n : Nat} {t : T} {arr : Array Value} {o : Nat} (g : Good n t) (h : Holds ρ (fun k => arr[k]?) t o) (hp : 0 < t.size) : o + t.size ≤ arr.size := by
  have h1 := holds_cells g h (t.size - 1) (by omega)
  have hl := cells_len (ρ := ρ) g
  rw [List.getElem?_eq_getElem (by omega)] at h1
  have := (Array.getElem?_eq_some_iff.1 h1).1
  omega

theorem storeK_spec {H : List Reg} {w : World} (hk : HOk ρ H w) {v : T} {L : List Reg → Prop} {r i : Nat} {p : List St} (h : storeK H v L (.ptr r i p)) (gv : Good H.length v) :
    ∃ g t arr, getReg H r = some g ∧ g.has i ∧ g.own = true ∧ w.heap[(ρ r i).1]? = some (.cells arr g.el (0, 0)) ∧ off p + v.size ≤ arr.size ∧ (ρ r i).2 = 0 ∧
      Good H.length t ∧ Holds ρ (fun k => (splice arr (off p) (cells ρ v))[k]?) t 0 ∧ L (setReg H r (regSet g i t)) := by
  simp only [storeK] at h
  obtain ⟨g, old, hg, hi, hL, hgo, hle, hold, hgk⟩ := getPtr_spec hk h
  have h2 : ∀ old : T, (match g.own && Nat.beq old.size v.size && !(Nat.beq v.size 0) with
      | true => L (setReg H r (regSet g i (upd v p (g.at i))))
      | false => False) → g.own = true ∧ old.size = v.size ∧ v.size ≠ 0 ∧ L (setReg H r (regSet g i (upd v p (g.at i)))) := by
    intro old hL
    split at hL
    · rename_i hb
      simp only [Bool.and_eq_true, Bool.not_eq_true'] at hb
      exact ⟨hb.1.1, beq_nat hb.1.2, fun e => by rw [e] at hb; simp at hb, hL⟩
    · exact hL.elim
  obtain ⟨ho, hsz, hnz, hL⟩ := h2 old hL
  obtain ⟨h0, arr, ha, htot⟩ := hk.own r g i hg hi ho
  obtain ⟨gd, hd⟩ := hk.holds r g i hg hi
  have hwc : wc w (ρ r i).1 = fun k => arr[k]? := funext fun k => by simp [wc, World.cell?, ha]
  rw [hwc, h0] at hd hold
  rw [Nat.zero_add] at hold
  have hlen := cells_len (ρ := ρ) gv
  have hin : off p + v.size ≤ arr.size := by rw [← hsz]; exact holds_in hgo hold (by omega)
  have hget := splice_get (cs := arr) (o := off p) (vs := cells ρ v) (by omega)
  have hup := upd_spec (ρ := ρ) (m := fun k => arr[k]?) (m' := fun k => (splice arr (off p) (cells ρ v))[k]?) (v := v) gv (p := p) (t := g.at i) (o := 0) gd
    (getK_mono (fun t ht => (h2 t ht).2.1) hgk)
    (fun k hk => by
      show (splice arr (off p) (cells ρ v))[k]? = arr[k]?
      rw [hget k, if_neg (by omega)])
    (by
      rw [Nat.zero_add]
      refine holds_of_cells gv fun k hk => ?_
      show (splice arr (off p) (cells ρ v))[off p + k]? = _
      rw [hget, if_pos (by omega)]
      congr 1
      omega)
  exact ⟨g, _, arr, hg, hi, ho, ha, hin, h0, hup.1, hup.2.2 hd, hL⟩

theorem op_store (hs : SlotsOk ρ s.H.length s.sl a.tmps) {w : World} (hr : WRel c ρ s.H w) {t : TypeId} {x y : Operand} (ho : o.op = .store t x y) (h : opK P C q s K o) : q = false ∧ EffStep P c ρ s a o K w := by
  simp only [opK, ho] at h
  split at h
  · rename_i hst
    simp only [Bool.and_eq_true] at hst
    obtain ⟨hv, hg⟩ := storable_good (read_ok hs y) hst.1
    have hz := beq_nat hst.2
    obtain ⟨ta, h1, hx⟩ := force_spec h (read_ok hs x)
    clear h
    cases ta with
    | ptr r i p =>
      obtain ⟨g, t', arr, hgr, hi, hown, ha, hin, h0, gt, ht, hL⟩ := storeK_spec hr.hok h1 hg
      obtain ⟨hxv, _⟩ := hx
      have hlen := cells_len (ρ := ρ) hg
      have hne : P.cellsOf t ≠ 0 := by
        rw [← hz]
        intro e
        simp only [storeK] at h1
        obtain ⟨_, _, _, _, hL', _⟩ := getPtr_spec hr.hok h1
        rw [e] at hL'
        simp at hL'
      obtain ⟨inf, hinf⟩ := info_of_cells hne
      have hadr : pla ρ r i (off p) = ⟨(ρ r i).1, off p, none⟩ := by simp [pla, h0]
      have hsto := run_storeCells_at (P := P) (ρ r i).1 (off p) g.el (cells ρ (s.read y)) 0 arr w ha (by rw [hlen]; omega) (oneCell_cells hg)
      have hrun : (execOp a.eval o).run P w = .ok .skip (w.setRow (ρ r i).1 (splice arr (off p) (cells ρ (s.read y)))) := by
        have hcs := cells_of_val (ρ := ρ) hg
        have hsize : (val ρ (s.read y)).cells.size = P.cellsOf t := by rw [← Array.length_toList, hcs, hlen, hz]
        simp only [execOp, ho, ← hxv, ← hv, Sx.val, T.cv, sc, Instr.storeAt, Instr.sureAddr, Sem.run_bind, Sem.run_pure, Result.andThen_ok, storeVar, run_sizeOf w hinf]
        simp only [Sx.val] at hsize hcs
        rw [hsize]
        simp only [ne_eq, not_true_eq_false, if_false, hcs, hadr]
        simp only [Nat.add_zero] at hsto
        simp only [hsto, Result.andThen_ok, splice]
      refine ⟨rfl, _, _, ρ, _, _, hL, hrun, ⟨undef, .inr ⟨rfl, rfl⟩, rfl, trivial⟩, ?_, fun _ _ => rfl, by simp [setReg_eq]⟩
      exact hr.write hgr hi hown ha (splice_size (by rw [hlen]; omega)) gt ht
    | _ => exact h1.elim
  · exact h.elim

end
end Go.Sx
