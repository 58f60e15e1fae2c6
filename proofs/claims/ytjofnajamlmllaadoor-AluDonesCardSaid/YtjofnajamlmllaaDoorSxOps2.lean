import Derived.Test.YtjofnajamlmllaaDoorSxOps
namespace Go.Sx

section
variable {P : Program} {C : Cfg} {q : Bool} {c : Ctx} {ρ : Rho} {s : S} {a : Act} {o : Oper} {K : R → List Reg → Prop}

theorem intOf_some {t : T} {j : Int} (h : intOf t = some j) : ∃ k, t = .int k j := by
  unfold intOf at h
  split at h
  · simp only [Option.some.injEq] at h
    subst h
    exact ⟨_, rfl⟩
  · cases h

theorem op_index (hs : SlotsOk ρ s.H.length s.sl a.tmps) {t : TypeId} {x y : Operand} (ho : o.op = .index t x y) (h : opK P C q s K o) : PureStep P c ρ s a o K := by
  simp only [opK, ho] at h
  obtain ⟨ta, h1, hx⟩ := force_spec h (read_ok hs x)
  clear h
  obtain ⟨tb, h, hy⟩ := force_spec h1 (read_ok hs y)
  clear h1
  split at h
  · rename_i j hj
    obtain ⟨k, rfl⟩ := intOf_some hj
    obtain ⟨hyv, _⟩ := hy
    split at h
    · rename_i n sz f n' e hu
      split at h
      · rename_i hz
        simp only [Bool.and_eq_true] at hz
        have h1 := beq_nat hz.1
        have h2 := beq_nat hz.2
        subst h1 h2
        obtain ⟨⟨hj0, hj1⟩, h⟩ := h
        obtain ⟨hv, hg⟩ := hx
        have hg : Good s.H.length (.arr n (P.cellsOf e) f) := hg
        have hjn : j.toNat < n := by omega
        obtain ⟨hsz, hgj⟩ := hg j.toNat hjn
        have key : ∃ u', K (R.ret u') s.H ∧ Good s.H.length u' ∧ fitsT P e u' = true ∧ cells ρ u' = cells ρ (f j.toNat) ∧ u'.size = (f j.toNat).size := by
          obtain ⟨u', k1, k2, k3⟩ := forceP_any h hgj
          split at k1
          · rename_i hf; exact ⟨u', k1, k2, hf, (k3 ρ).1, (k3 ρ).2.1⟩
          · exact k1.elim
        obtain ⟨u', k1, k2, k3, k4, k5⟩ := key
        refine ⟨_, _, k1, SlOk.of_good k2, fun w _ => ?_⟩
        obtain ⟨_, hfz, hfd⟩ := fits_spec k3
        have hinf : ∃ i, P.info? e = some i := by
          rcases hfd with ⟨_, d, hd, _⟩ | ⟨_, d, hd, _⟩ <;> exact info_of_underlying hd
        obtain ⟨inf, hinf⟩ := hinf
        have hv' : a.eval x = .agg (cells ρ (.arr n (P.cellsOf e) f)).toArray := hv.symm
        have hlen : ∀ j ∈ List.range n, (((f j).cv ρ).cells).length = P.cellsOf e := fun j hj => by
          have := hg j (List.mem_range.1 hj); rw [← this.1]; exact cells_len this.2
        have hp := part_run (P := P) (ρ := ρ) k2 k3 (cs := (cells ρ (.arr n (P.cellsOf e) f)).toArray) (o := j.toNat * P.cellsOf e) (fun k hk => by
          rw [k5, hsz] at hk
          rw [k4]
          simp only [List.getElem?_toArray, cells, T.cv]
          exact flatMap_get (fun j => ((f j).cv ρ).cells) (List.range n) j.toNat k j.toNat hlen (by simp [hjn]) hk) w
        simp only [execOp, ho, hv', ← hyv, Sx.val, T.cv, sc, Instr.index, Sem.run_bind, asIntOf, Sem.run_pure, run_underlying hu, Result.andThen_ok, if_pos (And.intro hj0 hj1), run_sizeOf w hinf]
        rw [hp]
        rfl
      · exact h.elim
    · rename_i b hu
      obtain ⟨⟨hj0, hj1⟩, h⟩ := h
      obtain ⟨hv, hg⟩ := hx
      refine ⟨_, _, h, ⟨rfl, trivial⟩, fun w _ => ?_⟩
      have hjn : j.toNat < b.size := by omega
      have hb : (if 0 ≤ j then b[j.toNat]? else none) = some (b.data.getD j.toNat 0) := by
        rw [if_pos hj0]
        have hjn' : j.toNat < b.data.size := hjn
        rw [getElem?_pos b j.toNat hjn]
        simp only [Option.some.injEq, Array.getD_eq_getD_getElem?, getElem?_pos b.data j.toNat hjn', Option.getD_some]
        rfl
      simp only [execOp, ho, ← hv, ← hyv, Sx.val, T.cv, sc, Instr.index, Sem.run_bind, asIntOf, Sem.run_pure, run_underlying hu, Result.andThen_ok, hb]
      rfl
    · exact h.elim
  · exact h.elim

theorem asIntOf_run {ρ : Rho} {t : T} {v : Value} {n : Nat} {j : Int} (h : intOf t = some j) (hv : SlOk ρ n t v) (w : World) : ∃ k, (asIntOf v).run P w = .ok (k, j) w := by
  obtain ⟨k, rfl⟩ := intOf_some h
  obtain ⟨rfl, _⟩ := hv
  exact ⟨k, rfl⟩

theorem sliceBound_run {v : Value} {k : IntKind} {j : Int} {y : Nat} {code : BoundsCode} {w : World} (h : (asIntOf v).run P w = .ok (k, j) w) (hb : 0 ≤ j ∧ j ≤ (y : Int)) :
    (Instr.sliceBound v y code).run P w = .ok j.toNat w := by
  simp only [Instr.sliceBound, Sem.run_bind, h, Result.andThen_ok, if_pos hb, Sem.run_pure]

/-- A bound that is there, or not. -/
def Bnd (P : Program) (v : Option Value) (l : Option Int) (w : World) : Prop :=
  match v, l with
  | none, none => True
  | some v, some j => ∃ k, (asIntOf v).run P w = .ok (k, j) w
  | _, _ => False

theorem bnd_of {n : Nat} {x : Option Operand} {l : Option Int} (hs : SlotsOk ρ n s.sl a.tmps) (h : boundOf (x.map s.read) = some l) (w : World) : Bnd P (x.map a.eval) l w := by
  cases x with
  | none => simp only [Option.map_none, boundOf, Option.some.injEq] at h; subst h; exact trivial
  | some x =>
    simp only [Option.map_some, boundOf] at h
    split at h
    · rename_i j hj
      simp only [Option.some.injEq] at h
      subst h
      exact asIntOf_run hj (read_ok hs x) w
    · cases h

theorem bounds_run {isS : Bool} {len cap : Nat} {lo hi mx : Option Value} {l h m : Option Int} {w : World} (h1 : Bnd P lo l w) (h2 : Bnd P hi h w) (h3 : Bnd P mx m w)
    (b3 : ∀ j, m = some j → 0 ≤ j ∧ j ≤ (cap : Int)) (b2 : ∀ j, h = some j → 0 ≤ j ∧ j ≤ (match m with | some x => x | none => (cap : Int)))
    (b1 : ∀ j, l = some j → 0 ≤ j ∧ j ≤ (match h with | some x => x | none => (len : Int))) (hm : m.isSome = true → h.isSome = true) :
    (Instr.sliceBounds isS len cap lo hi mx).run P w = .ok ((match l with | some x => x.toNat | none => 0), (match h with | some x => x.toNat | none => len), (match m with | some x => x.toNat | none => cap)) w := by
  cases mx with
  | none =>
    cases m with
    | some m => exact h3.elim
    | none =>
      cases hi with
      | none =>
        cases h with
        | some _ => exact h2.elim
        | none =>
          cases lo with
          | none =>
            cases l with
            | some _ => exact h1.elim
            | none => simp only [Instr.sliceBounds, Sem.run_bind, Sem.run_pure, Result.andThen_ok]
          | some vl =>
            cases l with
            | none => exact h1.elim
            | some l =>
              obtain ⟨k, hk⟩ := h1
              simp only [Instr.sliceBounds, Sem.run_bind, Sem.run_pure, Result.andThen_ok, sliceBound_run hk (b1 l rfl)]
      | some vh =>
        cases h with
        | none => exact h2.elim
        | some h =>
          obtain ⟨kh, hkh⟩ := h2
          have e2 := b2 h rfl
          simp only at e2
          cases lo with
          | none =>
            cases l with
            | some _ => exact h1.elim
            | none => simp only [Instr.sliceBounds, Sem.run_bind, Sem.run_pure, Result.andThen_ok, sliceBound_run hkh e2]
          | some vl =>
            cases l with
            | none => exact h1.elim
            | some l =>
              obtain ⟨k, hk⟩ := h1
              have e1 := b1 l rfl
              simp only at e1
              have e1' : 0 ≤ l ∧ l ≤ ((h.toNat : Nat) : Int) := by omega
              simp only [Instr.sliceBounds, Sem.run_bind, Sem.run_pure, Result.andThen_ok, sliceBound_run hkh e2, sliceBound_run hk e1']
  | some vm =>
    cases m with
    | none => exact h3.elim
    | some m =>
      obtain ⟨km, hkm⟩ := h3
      have e3 := b3 m rfl
      cases hi with
      | none =>
        cases h with
        | some _ => exact h2.elim
        | none => cases hm rfl
      | some vh =>
        cases h with
        | none => exact h2.elim
        | some h =>
          obtain ⟨kh, hkh⟩ := h2
          have e2 := b2 h rfl
          simp only at e2
          have e2' : 0 ≤ h ∧ h ≤ ((m.toNat : Nat) : Int) := by omega
          cases lo with
          | none =>
            cases l with
            | some _ => exact h1.elim
            | none => simp only [Instr.sliceBounds, Sem.run_bind, Sem.run_pure, Result.andThen_ok, sliceBound_run hkm e3, sliceBound_run hkh e2']
          | some vl =>
            cases l with
            | none => exact h1.elim
            | some l =>
              obtain ⟨k, hk⟩ := h1
              have e1 := b1 l rfl
              simp only at e1
              have e1' : 0 ≤ l ∧ l ≤ ((h.toNat : Nat) : Int) := by omega
              simp only [Instr.sliceBounds, Sem.run_bind, Sem.run_pure, Result.andThen_ok, sliceBound_run hkm e3, sliceBound_run hkh e2', sliceBound_run hk e1']

theorem slice_addr {r i : Nat} {p : List St} {lo0 sz : Nat} (l m : Nat) :
    (if m = l then some (pla ρ r i (off p + lo0 * sz)) else (some (pla ρ r i (off p + lo0 * sz))).map (·.add (l * sz))) = some (pla ρ r i (off p + (if m = l then lo0 else lo0 + l) * sz)) := by
  by_cases h : m = l
  · simp [h]
  · simp only [if_neg h, Option.map_some, pla_add, Nat.add_mul, Nat.add_assoc]
theorem slice_addr0 {r i : Nat} {p : List St} {lo0 sz : Nat} (m : Nat) :
    (if m = 0 then some (pla ρ r i (off p + lo0 * sz)) else (some (pla ρ r i (off p + lo0 * sz))).map (·.add (0 * sz))) = some (pla ρ r i (off p + lo0 * sz)) := by
  by_cases h : m = 0
  · simp [h]
  · simp [h, Addr.add]

theorem op_slice_at (hs : SlotsOk ρ s.H.length s.sl a.tmps) {t : TypeId} {x : Operand} {lo hi mx : Option Operand} (ho : o.op = .slice t x lo hi mx) {L : T → Prop} {ta : T} (hx : SlOk ρ s.H.length ta (a.eval x))
    (h1 : sliceOp P t L ta (lo.map s.read) (hi.map s.read) (mx.map s.read)) : ∃ v u, L v ∧ SlOk ρ s.H.length v u ∧ ∀ w, WRel c ρ s.H w → (execOp a.eval o).run P w = .ok (.value u) w := by
  unfold sliceOp at h1
  split at h1
  · rename_i l h m hl hh hm
    have B1 := fun w => bnd_of (P := P) hs hl w
    have B2 := fun w => bnd_of (P := P) hs hh w
    have B3 := fun w => bnd_of (P := P) hs hm w
    clear hl hh hm
    split at h1
    · rename_i r i p lo0 sz n cap e hu
      split at h1
      · rename_i hz
        simp only [Bool.and_eq_true, Bool.not_eq_true'] at hz
        have hz1 := beq_nat hz.1
        have hz2 : sz ≠ 0 := fun e => by rw [e] at hz; simp at hz
        subst hz1
        obtain ⟨inf, hinf⟩ := info_of_cells hz2
        obtain ⟨hv, hg⟩ := hx
        have hg : r < s.H.length := hg
        have fin : ∀ (w : World) (ll hn mn : Nat), (Instr.sliceBounds true n cap (lo.map a.eval) (hi.map a.eval) (mx.map a.eval)).run P w = .ok (ll, hn, mn) w →
            (execOp a.eval o).run P w = .ok (.value (.slice (if mn = ll then some (pla ρ r i (off p + lo0 * P.cellsOf e)) else (some (pla ρ r i (off p + lo0 * P.cellsOf e))).map (·.add (ll * P.cellsOf e))) (hn - ll) (mn - ll))) w := by
          intro w ll hn mn hb
          simp only [execOp, ho, ← hv, Sx.val, T.cv, sc, Instr.sliceAt, Instr.slice, Sem.run_bind, run_underlying hu, Result.andThen_ok, hb, run_sizeOf w hinf, Sem.run_pure]
        split at h1
        · refine ⟨_, _, h1, ⟨rfl, hg⟩, fun w _ => ?_⟩
          rw [fin w _ _ _ (bounds_run (B1 w) (B2 w) (B3 w) (fun _ h => by cases h) (fun _ h => by cases h) (fun _ h => by cases h) (fun h => by cases h))]
          simp only [slice_addr0, Nat.sub_zero]; rfl
        · refine ⟨_, _, h1.2, ⟨rfl, hg⟩, fun w _ => ?_⟩
          rw [fin w _ _ _ (bounds_run (B1 w) (B2 w) (B3 w) (fun _ h => by cases h) (fun _ h => by cases h; exact h1.1) (fun _ h => by cases h) (fun h => by cases h))]
          simp only [slice_addr0, Nat.sub_zero]; rfl
        · refine ⟨_, _, h1.2, ⟨rfl, hg⟩, fun w _ => ?_⟩
          rw [fin w _ _ _ (bounds_run (B1 w) (B2 w) (B3 w) (fun _ h => by cases h) (fun _ h => by cases h) (fun _ h => by cases h; exact h1.1) (fun h => by cases h))]
          simp only [slice_addr]; rfl
        · refine ⟨_, _, h1.2, ⟨rfl, hg⟩, fun w _ => ?_⟩
          rw [fin w _ _ _ (bounds_run (B1 w) (B2 w) (B3 w) (fun _ h => by cases h) (fun _ h => by cases h; exact h1.1.1) (fun _ h => by cases h; exact h1.1.2) (fun h => by cases h))]
          simp only [slice_addr]; rfl
        · refine ⟨_, _, h1.2, ⟨rfl, hg⟩, fun w _ => ?_⟩
          rw [fin w _ _ _ (bounds_run (B1 w) (B2 w) (B3 w) (fun _ h => by cases h; exact h1.1.1) (fun _ h => by cases h; exact h1.1.2) (fun _ h => by cases h) (fun _ => rfl))]
          simp only [slice_addr0, Nat.sub_zero]; rfl
        · exact h1.elim
      · exact h1.elim
    · rename_i e hu
      split at h1
      · rename_i hz
        have hz : P.cellsOf e ≠ 0 := fun e' => by rw [e'] at hz; cases hz
        obtain ⟨inf, hinf⟩ := info_of_cells hz
        obtain ⟨hv, hg⟩ := hx
        have fin : ∀ (w : World), (Instr.sliceBounds true 0 0 (lo.map a.eval) (hi.map a.eval) (mx.map a.eval)).run P w = .ok (0, 0, 0) w → (execOp a.eval o).run P w = .ok (.value (.slice none 0 0)) w := by
          intro w hb
          simp only [execOp, ho, ← hv, Sx.val, T.cv, sc, Instr.sliceAt, Instr.slice, Sem.run_bind, run_underlying hu, Result.andThen_ok, hb, run_sizeOf w hinf, Sem.run_pure]; rfl
        have z0 : ∀ j : Int, j = 0 → 0 ≤ j ∧ j ≤ ((0 : Nat) : Int) := fun j h => by omega
        split at h1
        · refine ⟨_, _, h1, ⟨rfl, hg⟩, fun w _ => ?_⟩
          exact fin w (bounds_run (B1 w) (B2 w) (B3 w) (fun _ h => by cases h) (fun _ h => by cases h) (fun _ h => by cases h) (fun h => by cases h))
        · obtain ⟨rfl, h1⟩ := h1
          refine ⟨_, _, h1, ⟨rfl, hg⟩, fun w _ => ?_⟩
          exact fin w (bounds_run (B1 w) (B2 w) (B3 w) (fun _ h => by cases h) (fun _ h => by cases h; exact z0 _ rfl) (fun _ h => by cases h) (fun h => by cases h))
        · obtain ⟨rfl, h1⟩ := h1
          refine ⟨_, _, h1, ⟨rfl, hg⟩, fun w _ => ?_⟩
          exact fin w (bounds_run (B1 w) (B2 w) (B3 w) (fun _ h => by cases h) (fun _ h => by cases h) (fun _ h => by cases h; exact z0 _ rfl) (fun h => by cases h))
        · obtain ⟨⟨rfl, rfl⟩, h1⟩ := h1
          refine ⟨_, _, h1, ⟨rfl, hg⟩, fun w _ => ?_⟩
          exact fin w (bounds_run (B1 w) (B2 w) (B3 w) (fun _ h => by cases h) (fun _ h => by cases h; exact z0 _ rfl) (fun _ h => by cases h; exact z0 _ rfl) (fun h => by cases h))
        · obtain ⟨⟨rfl, rfl⟩, h1⟩ := h1
          refine ⟨_, _, h1, ⟨rfl, hg⟩, fun w _ => ?_⟩
          exact fin w (bounds_run (B1 w) (B2 w) (B3 w) (fun _ h => by cases h; exact z0 _ rfl) (fun _ h => by cases h; exact z0 _ rfl) (fun _ h => by cases h) (fun _ => rfl))
        · exact h1.elim
      · exact h1.elim
    · rename_i r i p n e hu
      split at h1
      · rename_i hz
        have hz : P.cellsOf e ≠ 0 := fun e' => by rw [e'] at hz; cases hz
        obtain ⟨inf, hinf⟩ := info_of_cells hz
        obtain ⟨hv, hg⟩ := hx
        split at h1
        · refine ⟨_, _, h1, ⟨rfl, hg⟩, fun w _ => ?_⟩
          have hb := bounds_run (isS := false) (len := n) (cap := n) (B1 w) (B2 w) (B3 w) (fun _ h => by cases h) (fun _ h => by cases h) (fun _ h => by cases h) (fun h => by cases h)
          simp only [execOp, ho, ← hv, Sx.val, T.cv, sc, Instr.sliceAt, Sem.run_bind, run_underlying hu, Result.andThen_ok, Instr.sureAddr, hb, run_sizeOf w hinf, Sem.run_pure, Nat.zero_mul, Addr.add_zero', ite_self, Nat.sub_zero, Nat.add_zero]
        · exact h1.elim
      · exact h1.elim
    · rename_i b hu
      obtain ⟨hv, hg⟩ := hx
      have hmx : ∀ w, Bnd P (mx.map a.eval) none w → mx = none := by
        intro w h
        cases mx with
        | none => rfl
        | some m => exact h.elim
      have fin : ∀ (w : World) (ll hn mn : Nat), mx = none → (Instr.sliceBounds false b.size b.size (lo.map a.eval) (hi.map a.eval) (mx.map a.eval)).run P w = .ok (ll, hn, mn) w →
          (execOp a.eval o).run P w = .ok (.value (.string (b.extract ll hn))) w := by
        intro w ll hn mn hm hb
        subst hm
        simp only [Option.map_none] at hb
        simp only [execOp, ho, ← hv, Sx.val, T.cv, sc, Instr.sliceAt, Instr.slice, Sem.run_bind, run_underlying hu, Result.andThen_ok, Option.map_none, Option.isSome_none, Bool.false_eq_true, if_false, Sem.run_pure, hb]
      split at h1
      · refine ⟨_, _, h1, ⟨rfl, hg⟩, fun w _ => ?_⟩
        exact fin w _ _ _ (hmx w (B3 w)) (bounds_run (B1 w) (B2 w) (B3 w) (fun _ h => by cases h) (fun _ h => by cases h) (fun _ h => by cases h) (fun h => by cases h))
      · refine ⟨_, _, h1.2, ⟨rfl, hg⟩, fun w _ => ?_⟩
        exact fin w _ _ _ (hmx w (B3 w)) (bounds_run (B1 w) (B2 w) (B3 w) (fun _ h => by cases h) (fun _ h => by cases h; exact h1.1) (fun _ h => by cases h) (fun h => by cases h))
      · refine ⟨_, _, h1.2, ⟨rfl, hg⟩, fun w _ => ?_⟩
        exact fin w _ _ _ (hmx w (B3 w)) (bounds_run (B1 w) (B2 w) (B3 w) (fun _ h => by cases h) (fun _ h => by cases h) (fun _ h => by cases h; exact h1.1) (fun h => by cases h))
      · refine ⟨_, _, h1.2, ⟨rfl, hg⟩, fun w _ => ?_⟩
        exact fin w _ _ _ (hmx w (B3 w)) (bounds_run (B1 w) (B2 w) (B3 w) (fun _ h => by cases h) (fun _ h => by cases h; exact h1.1.1) (fun _ h => by cases h; exact h1.1.2) (fun h => by cases h))
      · exact h1.elim
    · exact h1.elim
  · exact h1.elim

/-! ### arguments -/
theorem argsT_ok (hs : SlotsOk ρ s.H.length s.sl a.tmps) {xs : Array Operand} (h : noTop (argsT s xs) = true) :
    (∀ t ∈ argsT s xs, Good s.H.length t) ∧ (xs.map a.eval).toList = (argsT s xs).map (val ρ) := by
  have key : ∀ l : List Operand, noTop (l.map s.read) = true → (∀ t ∈ l.map s.read, Good s.H.length t) ∧ l.map a.eval = (l.map s.read).map (val ρ) := by
    intro l
    induction l with
    | nil => exact fun _ => ⟨fun t h => by simp at h, rfl⟩
    | cons x l ih =>
      intro h
      simp only [List.map_cons] at h
      have h1 : noTop [s.read x] = true ∧ noTop (l.map s.read) = true := by
        unfold noTop at h
        split at h <;> simp_all [noTop]
      obtain ⟨hv, hg⟩ := (read_ok hs x).good' h1.1
      obtain ⟨i1, i2⟩ := ih h1.2
      refine ⟨fun t ht => ?_, by simp only [List.map_cons, hv, i2]⟩
      simp only [List.map_cons, List.mem_cons] at ht
      rcases ht with rfl | ht
      · exact hg
      · exact i1 t ht
  have := key xs.toList h
  exact ⟨this.1, by rw [Array.toList_map]; exact this.2⟩

theorem consL_ok {n : Nat} : ∀ {l : List T}, (∀ t ∈ l, Good n t) → Good n (l.foldr .cons .nil) ∧ ((l.foldr .cons .nil : T).cv ρ).vals = l.map (val ρ)
  | [], _ => ⟨trivial, rfl⟩
  | t :: l, h => by
    obtain ⟨i1, i2⟩ := consL_ok (l := l) (fun u hu => h u (List.mem_cons_of_mem _ hu))
    exact ⟨⟨h t List.mem_cons_self, i1⟩, by simp only [List.foldr_cons, T.cv, i2, List.map_cons]⟩

theorem op_makeFunc (hs : SlotsOk ρ s.H.length s.sl a.tmps) {fn : Fn} {first caps : Array Operand} (ho : o.op = .makeFunc fn first caps) (h : opK P C q s K o) : PureStep P c ρ s a o K := by
  simp only [opK, ho] at h
  split at h
  · rename_i f hf hn
    obtain ⟨g1, g2⟩ := argsT_ok hs hn
    obtain ⟨c1, c2⟩ := consL_ok (ρ := ρ) g1
    refine ⟨_, _, h, ⟨rfl, c1⟩, fun w _ => ?_⟩
    have e1 : first = #[] := by simpa using hf
    have e2 : caps.map a.eval = ((argsT s caps).map (val ρ)).toArray := by rw [← g2]
    simp [execOp, ho, e1, e2, Instr.makeFunc, Sx.val, T.cv, sc, c2]
  · exact h.elim

/-! ### builtins -/
theorem two_args {xs : Array Operand} {x y : Operand} (h : xs.toList = [x, y]) : xs = #[x, y] := by
  rw [← xs.toArray_toList, h]
theorem one_arg {xs : Array Operand} {x : Operand} (h : xs.toList = [x]) : xs = #[x] := by
  rw [← xs.toArray_toList, h]

theorem ats_get {ats : Array TypeId} {d : TypeDesc} (h : (ats.toList[0]?).bind P.underlying = some d) : ∃ t, ats[0]? = some t ∧ P.underlying t = some d := by
  cases h0 : ats.toList[0]? with
  | none => simp [h0] at h
  | some t =>
    rw [h0] at h
    exact ⟨t, by simpa using h0, h⟩

theorem slice_nils {t : TypeId} {r i : Nat} {p : List St} {lo0 sz n cap : Nat} {lo hi mx : Option T} {L L' : T → Prop} (hz : zb (boundOf lo) ∧ zb (boundOf hi) ∧ zb (boundOf mx)) (hL : ∀ u, L u → L' .nils)
    (h : sliceOp P t L (.slice r i p lo0 sz n cap) lo hi mx) : sliceOp P t L' .nils lo hi mx := by
  unfold sliceOp at h ⊢
  split at h
  · rename_i l hh m hl hhi hm
    rw [hl, hhi, hm] at hz
    simp only [zb] at hz
    split at h
    · rename_i e he hu
      injection he with _ _ _ _ e5 _ _
      simp only [hu]
      split at h
      · rename_i hb
        simp only [Bool.and_eq_true, Bool.not_eq_true'] at hb
        have hb1 := beq_nat hb.1
        have hb2 := hb.2
        rw [hb1] at hb2
        simp only [hb2]
        split at h
        · exact hL _ h
        · exact ⟨hz.2.1, hL _ h.2⟩
        · exact ⟨hz.1, hL _ h.2⟩
        · exact ⟨⟨hz.2.1, hz.1⟩, hL _ h.2⟩
        · exact ⟨⟨hz.2.2, hz.2.1⟩, hL _ h.2⟩
        · exact h.elim
      · exact h.elim
    · rename_i e _; cases e
    · rename_i e _; cases e
    · rename_i e _; cases e
    · exact h.elim
  · exact h.elim

theorem op_slice (hs : SlotsOk ρ s.H.length s.sl a.tmps) {t : TypeId} {x : Operand} {lo hi mx : Option Operand} (ho : o.op = .slice t x lo hi mx) (h : opK P C q s K o) : PureStep P c ρ s a o K := by
  simp only [opK, ho] at h
  have hx := read_ok hs x
  unfold sliceOpN at h
  split at h
  · rename_i b r i p lo0 sz n cap hx0
    rw [hx0] at hx
    obtain ⟨hv, hg⟩ := hx
    have hg : (1 : Nat) = 1 ∧ (b = true → True) ∧ (b = false → r < s.H.length) := hg
    cases b with
    | false =>
      obtain ⟨v, u, hL, hs', hr⟩ := op_slice_at hs ho (ta := .slice r i p lo0 sz n cap) ⟨hv, hg.2.2 rfl⟩ h.2
      split at hL
      · exact ⟨_, u, hL, ⟨hs'.1, ⟨rfl, ⟨(fun e => nomatch e), fun _ => hs'.2⟩⟩⟩, hr⟩
      · exact hL.elim
    | true =>
      have h1 := slice_nils (L' := fun u => u = .nils ∧ ∃ r i p lo sz n c, K (.ret (.ite true .nils (.slice r i p lo sz n c))) s.H) (h.1 rfl) (fun u hu => by
        split at hu
        · exact ⟨rfl, _, _, _, _, _, _, _, hu⟩
        · exact hu.elim) h.2
      obtain ⟨v, u, ⟨rfl, _, _, _, _, _, _, _, hL⟩, hs', hr⟩ := op_slice_at hs ho (ta := .nils) ⟨hv, trivial⟩ h1
      exact ⟨_, u, hL, ⟨hs'.1, ⟨rfl, ⟨fun _ => trivial, fun e => nomatch e⟩⟩⟩, hr⟩
  · obtain ⟨ta, h1, hx⟩ := force_spec h hx
    exact op_slice_at hs ho hx h1

theorem op_builtin (hs : SlotsOk ρ s.H.length s.sl a.tmps) {cl : Call} {b : Builtin} (ho : o.op = .call cl) (hb : cl.callee = .builtin b) (hna : b ≠ .append) (hnc : b ≠ .copy) (hnl : b ≠ .clear) (h : opK P C q s K o) : PureStep P c ρ s a o K := by
  obtain ⟨callee, args, ats⟩ := cl
  simp only at hb
  subst hb
  simp only [opK, ho] at h
  split at h
  · rename_i x hargs
    have hargs := one_arg hargs
    subst hargs
    have h := forceN_force (fun r i p lo sz c h => by
      split at h
      · rename_i e hu
        injection e with _ _ _ _ _ e6 _
        subst e6
        simp only [hu]; exact h
      · rename_i e _; cases e
      · rename_i e _; cases e
      · rename_i hu; simp only [hu]; exact h
      · exact h.elim) h
    obtain ⟨ta, h1, hx⟩ := force_spec h (read_ok hs x)
    clear h
    have E : ∀ (w : World), (execOp a.eval o).run P w = ((Builtin.len_ ats o.type #[a.eval x]).run P w).andThen fun v w' => .ok (.value v) w' := by
      intro w
      simp only [execOp, ho, resolve, invoke, builtin, Sem.run_bind, Sem.run_pure, Result.andThen_ok, List.map_toArray, List.map_cons, List.map_nil]
    split at h1
    · rename_i r i p lo sz n cap e hu
      obtain ⟨t, ht, hu⟩ := ats_get hu
      obtain ⟨hv, hg⟩ := hx
      refine ⟨_, _, h1, ⟨rfl, trivial⟩, fun w _ => ?_⟩
      rw [E, ← hv]
      have h0 : (#[val ρ (T.slice r i p lo sz n cap)] : Array Value)[0]? = some (val ρ (T.slice r i p lo sz n cap)) := rfl
      simp only [Builtin.len_, ht, h0, Sem.run_bind, run_underlying hu, Result.andThen_ok]; rfl
    · rename_i e hu
      obtain ⟨t, ht, hu⟩ := ats_get hu
      obtain ⟨hv, hg⟩ := hx
      refine ⟨_, _, h1, ⟨rfl, trivial⟩, fun w _ => ?_⟩
      rw [E, ← hv]
      have h0 : (#[val ρ T.nils] : Array Value)[0]? = some (val ρ T.nils) := rfl
      simp only [Builtin.len_, ht, h0, Sem.run_bind, run_underlying hu, Result.andThen_ok]; rfl
    · rename_i b hu
      obtain ⟨t, ht, hu⟩ := ats_get hu
      obtain ⟨hv, hg⟩ := hx
      refine ⟨_, _, h1, ⟨rfl, trivial⟩, fun w _ => ?_⟩
      rw [E, ← hv]
      have h0 : (#[val ρ (T.str b)] : Array Value)[0]? = some (val ρ (T.str b)) := rfl
      simp only [Builtin.len_, ht, h0, Sem.run_bind, run_underlying hu, Result.andThen_ok]; rfl
    · rename_i n e hu
      obtain ⟨t, ht, hu⟩ := ats_get hu
      refine ⟨_, _, h1, ⟨rfl, trivial⟩, fun w _ => ?_⟩
      rw [E]
      have h0 : (#[a.eval x] : Array Value)[0]? = some (a.eval x) := rfl
      simp only [Builtin.len_, ht, h0, Sem.run_bind, run_underlying hu, Result.andThen_ok]; rfl
    · exact h1.elim
  · rename_i x hargs
    have hargs := one_arg hargs
    subst hargs
    obtain ⟨ta, h1, hx⟩ := force_spec h (read_ok hs x)
    clear h
    have E : ∀ (w : World), (execOp a.eval o).run P w = ((Builtin.cap_ ats o.type #[a.eval x]).run P w).andThen fun v w' => .ok (.value v) w' := by
      intro w
      simp only [execOp, ho, resolve, invoke, builtin, Sem.run_bind, Sem.run_pure, Result.andThen_ok, List.map_toArray, List.map_cons, List.map_nil]
    split at h1
    · rename_i r i p lo sz n cap e hu
      obtain ⟨t, ht, hu⟩ := ats_get hu
      obtain ⟨hv, hg⟩ := hx
      refine ⟨_, _, h1, ⟨rfl, trivial⟩, fun w _ => ?_⟩
      rw [E, ← hv]
      have h0 : (#[val ρ (T.slice r i p lo sz n cap)] : Array Value)[0]? = some (val ρ (T.slice r i p lo sz n cap)) := rfl
      simp only [Builtin.cap_, ht, h0, Sem.run_bind, run_underlying hu, Result.andThen_ok]; rfl
    · rename_i e hu
      obtain ⟨t, ht, hu⟩ := ats_get hu
      obtain ⟨hv, hg⟩ := hx
      refine ⟨_, _, h1, ⟨rfl, trivial⟩, fun w _ => ?_⟩
      rw [E, ← hv]
      have h0 : (#[val ρ T.nils] : Array Value)[0]? = some (val ρ T.nils) := rfl
      simp only [Builtin.cap_, ht, h0, Sem.run_bind, run_underlying hu, Result.andThen_ok]; rfl
    · exact h1.elim
  · exact absurd rfl hna
  · exact absurd rfl hnc
  · exact absurd rfl hnl
  · rename_i x y hargs
    have hargs := two_args hargs
    subst hargs
    obtain ⟨ta, h1, hx⟩ := force_spec h (read_ok hs x)
    clear h
    obtain ⟨tb, h2, hy⟩ := force_spec h1 (read_ok hs y)
    clear h1
    split at h2
    · obtain ⟨hv, _⟩ := hx
      obtain ⟨hv', _⟩ := hy
      refine ⟨_, _, h2, ⟨rfl, trivial⟩, fun w _ => ?_⟩
      simp only [execOp, ho, resolve, invoke, builtin, Sem.run_bind, Sem.run_pure, Result.andThen_ok, List.map_toArray, List.map_cons, List.map_nil, ← hv, ← hv', Sx.val, T.cv, sc]; rfl
    · exact h2.elim
  · rename_i x y hargs
    have hargs := two_args hargs
    subst hargs
    obtain ⟨ta, h1, hx⟩ := force_spec h (read_ok hs x)
    clear h
    obtain ⟨tb, h2, hy⟩ := force_spec h1 (read_ok hs y)
    clear h1
    split at h2
    · obtain ⟨hv, _⟩ := hx
      obtain ⟨hv', _⟩ := hy
      refine ⟨_, _, h2, ⟨rfl, trivial⟩, fun w _ => ?_⟩
      simp only [execOp, ho, resolve, invoke, builtin, Sem.run_bind, Sem.run_pure, Result.andThen_ok, List.map_toArray, List.map_cons, List.map_nil, ← hv, ← hv', Sx.val, T.cv, sc]; rfl
    · exact h2.elim
  · exact h.elim

end
end Go.Sx
