import Derived.Test.YtjofnajamlmllaaDoorSxSpec
import Derived.ProofKit
import Derived.HandedShaped
import Derived.Carry
import Derived.Deep.Slices
import Derived.OpenShut
import Derived.ChangeCalls
namespace Go.Sx
open Go.ChangeShapes Go.WideShapes Go.RowKit Go.Deep

/-! ## What comes in, as the walk's values -/
def fieldsB (P : Program) (fl : TypeId → Bool) : List Field → Nat → Nat → Bool
  | [], o, tot => Nat.beq o tot
  | f :: l, o, tot => Nat.beq f.offset o && fl f.type && fieldsB P fl l (o + P.cellsOf f.type) tot

/-- Does a type lead to no memory? -/
def flatB (P : Program) : Nat → TypeId → Bool
  | 0, _ => false
  | d + 1, t => match P.underlying t with
    | some .bool | some (.int _) | some .string => Nat.beq (P.cellsOf t) 1
    | some (.struct fs) => fieldsB P (flatB P d) fs.toList 0 (P.cellsOf t)
    | some (.array n e) => flatB P d e && Nat.beq (P.cellsOf t) (n * P.cellsOf e)
    | _ => false

def FOkL : List (T → Prop) → T → Prop
  | [], u => u = .nil
  | p :: l, u => ∃ h r, u = .cons h r ∧ p h ∧ FOkL l r

/-- A value of such a type. -/
def FOk (P : Program) : Nat → TypeId → T → Prop
  | 0, _, _ => False
  | d + 1, t, u => match P.underlying t with
    | some .bool => ∃ b, u = .bool b
    | some (.int k) => ∃ n, u = .int k n ∧ k.min ≤ n ∧ n ≤ k.max
    | some .string => ∃ s : ByteArray, u = .str s ∧ s.size ≤ 9223372036854775807
    | some (.struct fs) => FOkL (fs.toList.map fun f => FOk P d f.type) u
    | some (.array n e) => ∃ f, u = .arr n (P.cellsOf e) f ∧ ∀ j, j < n → FOk P d e (f j)
    | _ => False

section
variable {H : Type} {enc : TypeId × Value → H} {P : Program} {w : World} {base : Nat} {spare : Nat → Bool} {held : Bool}

theorem wf_has {k : IntKind} {n : Int} (h : (Lit.int k n).wf = true) : k.min ≤ n ∧ n ≤ k.max := by
  simpa [Lit.wf] using h

theorem flat_fields {fl : TypeId → Bool} {ok : TypeId → T → Prop} {rd : TypeId → List Value → Option (DataW H × List MemPlace)}
    (hfl : ∀ t cs x, fl t = true → rd t cs = some x → ∃ u, ok t u ∧ (∀ n, Good n u) ∧ u.size = P.cellsOf t ∧ cs.length = P.cellsOf t ∧ ∀ ρ, cells ρ u = cs) {cs : List Value} :
    ∀ (l : List Field) (o : Nat), fieldsB P fl l o cs.length = true → (∀ f ∈ l, ∃ x, rd f.type ((cs.drop f.offset).take (P.cellsOf f.type)) = some x) →
      ∃ u, FOkL (l.map fun f => ok f.type) u ∧ (∀ n, Good n u) ∧ o + u.size = cs.length ∧ ∀ ρ, cells ρ u = cs.drop o
  | [], o, hb, _ => by
    have := beq_nat hb
    subst this
    exact ⟨.nil, rfl, fun _ => trivial, rfl, fun ρ => by simp [cells, T.cv]⟩
  | f :: l, o, hb, hr => by
    simp only [fieldsB, Bool.and_eq_true] at hb
    obtain ⟨⟨h1, h2⟩, h3⟩ := hb
    have h1 := beq_nat h1
    obtain ⟨x, hx⟩ := hr f List.mem_cons_self
    obtain ⟨h, k1, g1, s1, l1, c1⟩ := hfl _ _ _ h2 hx
    obtain ⟨r, k2, g2, s2, c2⟩ := flat_fields hfl l _ h3 (fun g hg => hr g (List.mem_cons_of_mem _ hg))
    refine ⟨.cons h r, ⟨h, r, rfl, k1, k2⟩, fun n => ⟨g1 n, g2 n⟩, by simp only [T.size]; omega, fun ρ => ?_⟩
    have e1 := c1 ρ
    have e2 := c2 ρ
    simp only [cells] at e1 e2
    simp only [cells, T.cv, e1, e2, h1]
    rw [← List.drop_drop]
    exact List.take_append_drop _ _

theorem flat_rows {cs : List Value} {sz : Nat} : ∀ {n : Nat}, cs.length = n * sz → (List.range n).flatMap (fun j => (cs.drop (j * sz)).take sz) = cs := by
  intro n h
  apply List.ext_getElem?
  intro k
  by_cases h0 : sz = 0
  · subst h0
    have : cs = [] := List.length_eq_zero_iff.1 (by omega)
    subst this
    rw [List.flatMap_eq_nil_iff.2 (by simp)]
  by_cases hk : k < n * sz
  · have hj : k / sz < n := Nat.div_lt_of_lt_mul (by rw [Nat.mul_comm]; exact hk)
    have hm : k % sz < sz := Nat.mod_lt _ (by omega)
    have ek : k = k / sz * sz + k % sz := by rw [Nat.mul_comm]; exact (Nat.div_add_mod k sz).symm
    rw [ek]
    have hl : ∀ a ∈ List.range n, ((cs.drop (a * sz)).take sz).length = sz := fun a ha => by
      have := mul_step (sz := sz) (List.mem_range.1 ha)
      simp; omega
    rw [flatMap_get _ _ (k / sz) (k % sz) (k / sz) hl (by simp [hj]) hm, List.getElem?_take, if_pos hm, List.getElem?_drop]
  · have hl := flatMap_len (sz := sz) (fun j => (cs.drop (j * sz)).take sz) (List.range n) (fun a ha => by
      have := mul_step (sz := sz) (List.mem_range.1 ha)
      simp; omega)
    rw [List.length_range] at hl
    rw [List.getElem?_eq_none (by omega), List.getElem?_eq_none (by omega)]

theorem flat_open : ∀ (d : Nat) {t : TypeId} {fuel : Nat} {cs : List Value} {x : DataW H × List MemPlace}, flatB P d t = true → DataW.trod enc P w base spare held fuel t cs = some x →
    ∃ u, FOk P d t u ∧ (∀ n, Good n u) ∧ u.size = P.cellsOf t ∧ cs.length = P.cellsOf t ∧ ∀ ρ, cells ρ u = cs
  | 0, _, _, _, _, h, _ => by cases h
  | d + 1, t, fuel, cs, x, h, hr => by
    simp only [flatB] at h
    simp only [FOk]
    cases hu : P.underlying t with
    | none => rw [hu] at h; cases h
    | some D =>
      rw [hu] at h
      cases D with
      | bool =>
        obtain ⟨b, rfl, _⟩ := DataW.trod_bool hu hr
        have := beq_nat h
        exact ⟨.bool b, ⟨b, rfl⟩, fun _ => trivial, this.symm, this.symm, fun _ => rfl⟩
      | int k =>
        obtain ⟨n, rfl, _, hw⟩ := DataW.trod_int hu hr
        have := beq_nat h
        exact ⟨.int k n, ⟨n, rfl, wf_has hw⟩, fun _ => trivial, this.symm, this.symm, fun _ => rfl⟩
      | string =>
        obtain ⟨s, rfl, _, hs⟩ := DataW.trod_string hu hr
        have := beq_nat h
        exact ⟨.str s, ⟨s, rfl, by unfold maxLen at hs; omega⟩, fun _ => trivial, this.symm, this.symm, fun _ => rfl⟩
      | struct fs =>
        obtain ⟨xs, n, rfl, _, hl, hxs, hf⟩ := DataW.trod_struct hu hr
        have h : fieldsB P (flatB P d) fs.toList 0 cs.length = true := by rw [hl]; exact h
        obtain ⟨u, k1, k2, k3, k4⟩ := flat_fields (ok := FOk P d) (rd := DataW.trod enc P w base spare held n) (fun t cs x a b => flat_open d a b) fs.toList 0 h (fun f hf' => by
          obtain ⟨i, hi⟩ := List.mem_iff_getElem?.1 hf'
          have hi' : fs[i]? = some f := by simpa using hi
          have := hf i f hi'
          have hlt : i < xs.length := by rw [hxs]; exact (Array.getElem?_eq_some_iff.1 hi').1
          rw [List.getElem?_eq_getElem hlt] at this
          exact ⟨_, this⟩)
        exact ⟨u, k1, k2, by omega, hl, fun ρ => by simpa using k4 ρ⟩
      | array n e =>
        obtain ⟨xs, m, rfl, _, hl, hxs, hf⟩ := DataW.trod_array hu hr
        simp only [Bool.and_eq_true] at h
        obtain ⟨h1, h2⟩ := h
        have h2 := beq_nat h2
        have hex : ∀ j, ∃ u, j < n → FOk P d e u ∧ (∀ n, Good n u) ∧ u.size = P.cellsOf e ∧ ∀ ρ, cells ρ u = (cs.drop (j * P.cellsOf e)).take (P.cellsOf e) := fun j => by
          by_cases hj : j < n
          · have := hf j hj
            rw [List.getElem?_eq_getElem (by omega)] at this
            obtain ⟨u, a1, a2, a3, a4, a5⟩ := flat_open d h1 this
            exact ⟨u, fun _ => ⟨a1, a2, a3, a5⟩⟩
          · exact ⟨.nil, fun h => absurd h hj⟩
        obtain ⟨f, hf'⟩ := Classical.axiomOfChoice hex
        refine ⟨.arr n (P.cellsOf e) f, ⟨f, rfl, fun j hj => (hf' j hj).1⟩, fun k j hj => ⟨(hf' j hj).2.2.1, (hf' j hj).2.1 k⟩, h2.symm, hl, fun ρ => ?_⟩
        rw [← flat_rows (n := n) (by rw [hl, h2] : cs.length = n * P.cellsOf e)]
        simp only [cells, T.cv]
        rw [List.flatMap_def, List.flatMap_def, List.map_congr_left fun j hj => (hf' j (List.mem_range.1 hj)).2.2.2 ρ]
      | _ => cases h

theorem arg_flat {d : Nat} {r : Reach} {b0 : Nat} {t : TypeId} {v : Value} {D : DataW H} {ps : List MemPlace} (hb : flatB P d t = true) (hval : Value.okWide P w r b0 t v) (hd : DataW.Trod enc P w base spare held t v D ps) :
    ∃ u, FOk P d t u ∧ (∀ n, Good n u) ∧ ∀ ρ, val ρ u = v := by
  obtain ⟨fuel, hf⟩ := hd
  obtain ⟨u, k1, k2, k3, k4, k5⟩ := flat_open d hb hf
  refine ⟨u, k1, k2, fun ρ => ?_⟩
  have h5 := k5 ρ
  cases d with
  | zero => cases hb
  | succ d =>
    simp only [FOk] at k1
    cases hu : P.underlying t with
    | none => rw [hu] at k1; exact k1.elim
    | some D' =>
      rw [hu] at k1
      cases D' with
      | bool =>
        obtain ⟨b, rfl⟩ := okWide_bool hu hval
        obtain ⟨b', rfl⟩ := k1
        simpa [cells, Sx.val, T.cv, sc, Value.cells] using h5
      | int k =>
        obtain ⟨b, rfl⟩ := okWide_int hu hval
        obtain ⟨b', rfl, _⟩ := k1
        simpa [cells, Sx.val, T.cv, sc, Value.cells] using h5
      | string =>
        obtain ⟨b, rfl⟩ := okWide_string hu hval
        obtain ⟨b', rfl, _⟩ := k1
        simpa [cells, Sx.val, T.cv, sc, Value.cells] using h5
      | struct fs =>
        obtain ⟨cs, rfl, _⟩ := okWide_struct hu hval
        have h5 : cells ρ u = cs.toList := h5
        have : val ρ u = .agg (cells ρ u).toArray := by
          simp only at k1
          generalize (fs.toList.map fun f => FOk P d f.type) = l at k1
          cases l with
          | nil => have k1 : u = .nil := k1; subst k1; rfl
          | cons p l => obtain ⟨a, b, rfl, _⟩ := k1; rfl
        rw [this, h5]
      | array n e =>
        simp only [Value.okWide, hu] at hval
        obtain ⟨cs, rfl, _⟩ := hval
        have h5 : cells ρ u = cs.toList := h5
        obtain ⟨f, rfl, _⟩ := k1
        have : val ρ (.arr n (P.cellsOf e) f) = .agg (cells ρ (.arr n (P.cellsOf e) f)).toArray := rfl
        rw [this, h5]
      | _ => exact k1.elim

theorem fok_i64 {n : Int} (h : IntKind.i64.min ≤ n ∧ n ≤ IntKind.i64.max) : -9223372036854775808 ≤ n ∧ n < 9223372036854775808 := by
  have : IntKind.i64.min = -9223372036854775808 ∧ IntKind.i64.max = 9223372036854775807 := by decide
  omega
theorem fok_u64 {n : Int} (h : IntKind.u64.min ≤ n ∧ n ≤ IntKind.u64.max) : 0 ≤ n ∧ n < 18446744073709551616 := by
  have : IntKind.u64.min = 0 ∧ IntKind.u64.max = 18446744073709551615 := by decide
  omega
theorem fok_u32 {n : Int} (h : IntKind.u32.min ≤ n ∧ n ≤ IntKind.u32.max) : 0 ≤ n ∧ n < 4294967296 := by
  have : IntKind.u32.min = 0 ∧ IntKind.u32.max = 4294967295 := by decide
  omega
theorem fok_u8 {n : Int} (h : IntKind.u8.min ≤ n ∧ n ≤ IntKind.u8.max) : 0 ≤ n ∧ n < 256 := by
  have : IntKind.u8.min = 0 ∧ IntKind.u8.max = 255 := by decide
  omega

/-- A slice of such values. -/
theorem arg_slice {d : Nat} {r : Reach} {b0 : Nat} {t e : TypeId} {v : Value} {D : DataW H} {ps : List MemPlace} (hu : P.underlying t = some (.slice e)) (hb : flatB P d e = true) (hval : Value.okWide P w r b0 t v)
    (hd : DataW.Trod enc P w base spare held t v D ps) (hw : 0 < w.heap.size) :
    ∃ (b : Bool) (len cap : Nat) (f : Nat → T) (pl : Nat × Nat), (b = true → len = 0) ∧ len ≤ 9223372036854775807 ∧ len ≤ cap ∧ (∀ j, j < len → FOk P d e (f j) ∧ (∀ n, Good n (f j)) ∧ (f j).size = P.cellsOf e) ∧ pl.1 < w.heap.size ∧
      (∀ ρ j, j < len → Holds ρ (wc w pl.1) (f j) (pl.2 + j * P.cellsOf e)) ∧ v = (bif b then .slice none 0 0 else .slice (some ⟨pl.1, pl.2, none⟩) len cap) := by
  obtain ⟨a0, len0, cap0, rfl⟩ := okWide_slice hu hval
  obtain ⟨fuel, hf⟩ := hd
  rcases open_slice hu hf with ⟨h1, _⟩ | ⟨a, len, cap, m, n, Dd, Pl, h1, _, hl, hm, hmm, _, hall⟩
  · have h1 : [Value.slice a0 len0 cap0] = [.slice none 0 0] := h1
    injection h1 with h1
    exact ⟨true, 0, 0, fun _ => .nil, (0, 0), fun _ => rfl, by omega, by omega, fun j hj => absurd hj (by omega), hw, fun ρ j hj => absurd hj (by omega), h1⟩
  · have h1 : [Value.slice a0 len0 cap0] = [.slice (some a) len cap] := h1
    injection h1 with h1
    have hsp : a.spot = none ∧ a.block < w.heap.size := by
      rw [h1] at hval
      simp only [Value.okWide, hu, Cell.okWide, Cell.ok] at hval
      obtain ⟨_, _, _, h2, row, cl, h3, _⟩ := hval
      refine ⟨h2, ?_⟩
      rcases Nat.lt_or_ge a.block w.heap.size with h | h
      · exact h
      · exfalso
        simp [World.shape?, Array.getElem?_eq_none h] at h3
    obtain ⟨ab, ao, as⟩ := a
    obtain ⟨rfl, hlt⟩ := hsp
    have hle : len ≤ m := by rw [hmm]; split <;> omega
    have hex : ∀ j, ∃ u, j < len → FOk P d e u ∧ (∀ n, Good n u) ∧ u.size = P.cellsOf e ∧ ∀ ρ, Holds ρ (wc w ab) u (ao + j * P.cellsOf e) := fun j => by
      by_cases hj : j < len
      · obtain ⟨cs, hc, ht⟩ := hall j (by omega)
        obtain ⟨_, hcl, hat⟩ := World.cells?_some hc
        obtain ⟨u, a1, a2, a3, a4, a5⟩ := flat_open d hb ht
        refine ⟨u, fun _ => ⟨a1, a2, a3, fun ρ => holds_of_cells (a2 0) fun k hk => ?_⟩⟩
        rw [a5 ρ, ← hat k (by omega)]
        rw [Addr.add_lit, Addr.add_lit]
      · exact ⟨.nil, fun h => absurd h hj⟩
    obtain ⟨f, hf'⟩ := Classical.axiomOfChoice hex
    refine ⟨false, len, cap, f, (ab, ao), (fun h => nomatch h), by unfold maxLen at hm; omega, hl, fun j hj => ⟨(hf' j hj).1, (hf' j hj).2.1, (hf' j hj).2.2.1⟩, hlt, fun ρ j hj => (hf' j hj).2.2.2 ρ, h1⟩

theorem trodAll_below {W W' : World} (hl : laidOutB P = true) (hb : Below W.heap.size W W') {sp : Nat → Bool} : ∀ {ts : List TypeId} {vs : List Value} {ds : List (DataW H)} {ps : List MemPlace},
    (∀ t ∈ ts, P.readableRec t = true ∧ t < P.types.size) → DataW.TrodAll enc P W 0 (fun _ => true) true ts vs ds ps → (∀ x ∈ ps, x.block < W.heap.size) → (∀ x ∈ ps, sp x.block = true) → DataW.TrodAll enc P W' 0 sp true ts vs ds ps
  | [], [], [], ps, _, h, _, _ => h
  | t :: ts, v :: vs, d :: ds, ps, hr, ⟨p, q, h1, h2, e⟩, hlt, hsp => by
    subst e
    exact ⟨p, q, WideElems.Trod_stays hl (hr t List.mem_cons_self).1 (hr t List.mem_cons_self).2 h1 (fun x hx => hb.same (hlt x (List.mem_append_left _ hx))) (fun x hx => hsp x (List.mem_append_left _ hx)),
      trodAll_below hl hb (fun t ht => hr t (List.mem_cons_of_mem _ ht)) h2 (fun x hx => hlt x (List.mem_append_right _ hx)) (fun x hx => hsp x (List.mem_append_right _ hx)), rfl⟩
  | [], [], _ :: _, _, _, h, _, _ => h.elim
  | [], _ :: _, _, _, _, h, _, _ => h.elim
  | _ :: _, [], _, _, _, h, _, _ => h.elim
  | _ :: _, _ :: _, [], _, _, h, _, _ => h.elim

/-- What is known of the arguments, in the walk's words. -/
def Opens (P : Program) (W : World) (args : List Value) (f : FuncId) : Prop :=
  ∃ (ρ : Rho) (Hh : List Reg) (ts : List T), HOk ρ Hh W ∧ GOk ρ Hh W ∧ (∀ g ∈ Hh, g.own = false) ∧ ts.map (val ρ) = args ∧ (∀ t ∈ ts, Good Hh.length t) ∧ Spec P f ts Hh (fun r _ => r = .ret .tt)

/-- A law that answers true leaves all as it was. -/
theorem law_post {f : FuncId} {fn : Func} {s : ChangeSpec} {apart fresh handsOn again : Bool} {W : World} {args : Array Value} {ds gs : List (DataW H)} {before : List MemPlace} {tb : TypeId}
    (hl : laidOutB P = true) (hv : s.vars = []) (hr : ∀ t ∈ fn.params.toList, P.readableRec t = true ∧ t < P.types.size) (hres : fn.resultTypes = #[tb]) (htb : P.underlying tb = some .bool)
    (hs : ∀ ds : List (DataW H), ds.length = fn.params.size → s.fn H ds = { results := [.lit (.bool true)], args := ds })
    (hW : DataW.Whole enc P fn.params.toList s.vars apart W args.toList ds gs before) (hO : Opens P W args.toList f) :
    Calls P f args W fun e W' => ∃ v, e = .returned v ∧ s.post enc P fn apart fresh handsOn again W args v W' := by
  obtain ⟨ρ, Hh, ts, hk, hG, hown, hts, hg, hsp⟩ := hO
  have e : (ts.map (val ρ)).toArray = args := by rw [hts]
  have h := hsp ρ W hk hG hg
  rw [e] at h
  refine h.mono fun e W' ⟨r, ρ', H', hr', hw, hret⟩ => ?_
  subst hr'
  obtain ⟨rfl, _⟩ := hret
  have hb : Below W.heap.size W W' := ⟨hw.os, hw.tape, hw.out, hw.size, fun b hb => hw.frame b hb fun r g i hg ho => by
    have hg : getReg Hh r = some g := hg
    rw [getReg_eq] at hg
    rw [hown g (List.mem_of_getElem? hg)] at ho
    cases ho⟩
  have hlt : ∀ p ∈ before, p.block < W.heap.size := fun p hp => hW.lt p hp
  have hW0 := hW
  obtain ⟨p, q, hA, hV, hpq, hz, hn⟩ := hW
  rw [hv] at hV
  have hgs : gs = [] ∧ q = [] := by
    cases gs with
    | nil => exact ⟨rfl, hV⟩
    | cons g gs => exact hV.elim
  obtain ⟨rfl, rfl⟩ := hgs
  rw [List.append_nil] at hpq
  subst hpq
  have hlen : ds.length = fn.params.size := by
    have := (trodAll_length hA).2
    simpa using this
  have hfn := hs ds hlen
  have hargs : ∀ sp : Nat → Bool, (∀ x ∈ before, sp x.block = true) → DataW.TrodAll enc P W' 0 sp true fn.params.toList args.toList ds before := fun sp h => trodAll_below hl hb hr hA hlt h
  have hres1 : ∀ (b : Nat) (sp : Nat → Bool) (hd : Bool), DataW.TrodAll enc P W' b sp hd fn.resultTypes.toList ((val ρ' T.tt).resultList fn.resultTypes.size) [.lit (.bool true)] [] := fun b sp hd => by
    rw [hres]
    exact ⟨[], [], shut_bool htb true, rfl, rfl⟩
  have hvars : ∀ sp : Nat → Bool, DataW.TrodVars enc P W' sp s.vars [] [] := fun sp => by rw [hv]; exact rfl
  refine ⟨_, rfl, ds, [], before, [], before, [], hW0, ?_, ?_, ?_, World.keptBut_mono (fun p hp => ⟨hp, .inr (.inl hp)⟩) (hb.frame (· ∈ before)), fun _ => ⟨?_, _, _, before, ⟨[] ++ before, [], trodAll_append (hargs _ fun _ _ => rfl) (hres1 _ _ _), hvars _, by simp, ?_, ?_⟩, fun p hp _ => hp⟩⟩
  · rw [List.append_nil, hfn]; exact hres1 _ _ _
  · rw [List.append_nil, hfn]; exact hargs _ fun x hx => by simpa using hlt x hx
  · rw [List.append_nil, hfn]; exact hvars _
  · exact ok_one hres rfl (okWide_bool_mk htb true)
  · intro b off hp
    rw [hb.frozen (hlt _ hp)]
    exact hz b off hp
  · intro ha
    exact hn ha

/-- Regions that nobody writes. -/
theorem hok_ro {W : World} (l : List (Reg × (Nat × Nat))) (h : ∀ x ∈ l, x.1.own = false ∧ x.1.pl = true ∧ (∀ n, Good n (x.1.c 0)) ∧ x.2.1 < W.heap.size ∧ ∀ ρ, Holds ρ (wc W x.2.1) (x.1.c 0) x.2.2) :
    HOk (fun r _ => ((l[r]?).map (·.2)).getD (0, 0)) (l.map (·.1)) W ∧ ∀ g ∈ l.map (·.1), g.own = false := by
  have key : ∀ r g, getReg (l.map (·.1)) r = some g → ∃ x ∈ l, l[r]? = some x ∧ x.1 = g := fun r g hg => by
    rw [getReg_eq, List.getElem?_map] at hg
    obtain ⟨x, h1, h2⟩ := Option.map_eq_some_iff.1 hg
    exact ⟨x, List.mem_of_getElem? h1, h1, h2⟩
  refine ⟨⟨fun r g i hg hi => ?_, fun r g i hg hi ho => ?_, fun r g i hg hi => ?_, fun r g i r' g' i' hg hi ho _ _ _ => ?_⟩, fun g hg => ?_⟩
  · obtain ⟨x, hx, e, rfl⟩ := key r g hg
    obtain ⟨_, h2, h3, h4, h5⟩ := h x hx
    have hi0 : i = 0 := by simpa [Reg.has, h2] using hi
    have ha : x.1.at i = x.1.c 0 := by simp [Reg.at, h2, hi0]
    rw [ha, e]
    exact ⟨h3 _, h5 _⟩
  · obtain ⟨x, hx, _, rfl⟩ := key r g hg
    rw [(h x hx).1] at ho; cases ho
  · obtain ⟨x, hx, e, rfl⟩ := key r g hg
    rw [e]
    exact (h x hx).2.2.2.1
  · obtain ⟨x, hx, _, rfl⟩ := key r g hg
    rw [(h x hx).1] at ho; cases ho
  · obtain ⟨x, hx, rfl⟩ := List.mem_map.1 hg
    exact (h x hx).1

theorem shaped_pos {W : World} (h : W.ShapedOpen P) : 0 < W.heap.size := by
  have hk : P.globals.size < (begin P (fun _ _ => 0) default).world.heap.size := by
    simp only [begin, Array.size_push, Array.size_mapIdx]
    omega
  obtain ⟨o, _, ho, _⟩ := h.2 P.globals.size (Nat.le_refl _) hk
  have := (Array.getElem?_eq_some_iff.1 ho).1
  omega
end
end Go.Sx

namespace Go.Sx
open Go Go.RowKit Go.ChangeShapes Go.WideShapes
theorem trodAll_five {H : Type} {enc : TypeId × Value → H} {P : Program} {w : World} {base : Nat} {spare : Nat → Bool} {held : Bool} {t0 t1 t2 t3 t4 : TypeId} {args : Array Value} {ds : List (DataW H)} {ps : List MemPlace} (h : DataW.TrodAll enc P w base spare held [t0, t1, t2, t3, t4] args.toList ds ps) :
    ∃ v0 v1 v2 v3 v4 d0 d1 d2 d3 d4 p0 p1 p2 p3 p4, args = #[v0, v1, v2, v3, v4] ∧ ds = [d0, d1, d2, d3, d4] ∧ ps = p0 ++ p1 ++ p2 ++ p3 ++ p4 ∧ DataW.Trod enc P w base spare held t0 v0 d0 p0 ∧ DataW.Trod enc P w base spare held t1 v1 d1 p1 ∧ DataW.Trod enc P w base spare held t2 v2 d2 p2 ∧ DataW.Trod enc P w base spare held t3 v3 d3 p3 ∧ DataW.Trod enc P w base spare held t4 v4 d4 p4 := by
  obtain ⟨v, vs, d, ds', p, q, hargs, rfl, rfl, hd, hrest⟩ := trodAll_cons h
  obtain ⟨v', vs', d', ds'', p', q', rfl, rfl, rfl, hd', hrest'⟩ := trodAll_cons hrest
  obtain ⟨v'', vs'', d'', ds''', p'', q'', rfl, rfl, rfl, hd'', hrest''⟩ := trodAll_cons hrest'
  obtain ⟨v3, vs3, d3, ds3, p3, q3, rfl, rfl, rfl, hd3, hrest3⟩ := trodAll_cons hrest''
  obtain ⟨v4, vs4, d4, ds4, p4, q4, rfl, rfl, rfl, hd4, hrest4⟩ := trodAll_cons hrest3
  obtain ⟨rfl, rfl, rfl⟩ := trodAll_nil hrest4
  exact ⟨v, v', v'', v3, v4, d, d', d'', d3, d4, p, p', p'', p3, p4, by cases args; simp_all, rfl, by simp, hd, hd', hd'', hd3, hd4⟩
theorem trodAll_six {H : Type} {enc : TypeId × Value → H} {P : Program} {w : World} {base : Nat} {spare : Nat → Bool} {held : Bool} {t0 t1 t2 t3 t4 t5 : TypeId} {args : Array Value} {ds : List (DataW H)} {ps : List MemPlace} (h : DataW.TrodAll enc P w base spare held [t0, t1, t2, t3, t4, t5] args.toList ds ps) :
    ∃ v0 v1 v2 v3 v4 v5 d0 d1 d2 d3 d4 d5 p0 p1 p2 p3 p4 p5, args = #[v0, v1, v2, v3, v4, v5] ∧ ds = [d0, d1, d2, d3, d4, d5] ∧ ps = p0 ++ p1 ++ p2 ++ p3 ++ p4 ++ p5 ∧ DataW.Trod enc P w base spare held t0 v0 d0 p0 ∧ DataW.Trod enc P w base spare held t1 v1 d1 p1 ∧ DataW.Trod enc P w base spare held t2 v2 d2 p2 ∧ DataW.Trod enc P w base spare held t3 v3 d3 p3 ∧ DataW.Trod enc P w base spare held t4 v4 d4 p4 ∧ DataW.Trod enc P w base spare held t5 v5 d5 p5 := by
  obtain ⟨v, vs, d, ds', p, q, hargs, rfl, rfl, hd, hrest⟩ := trodAll_cons h
  obtain ⟨v', vs', d', ds'', p', q', rfl, rfl, rfl, hd', hrest'⟩ := trodAll_cons hrest
  obtain ⟨v'', vs'', d'', ds''', p'', q'', rfl, rfl, rfl, hd'', hrest''⟩ := trodAll_cons hrest'
  obtain ⟨v3, vs3, d3, ds3, p3, q3, rfl, rfl, rfl, hd3, hrest3⟩ := trodAll_cons hrest''
  obtain ⟨v4, vs4, d4, ds4, p4, q4, rfl, rfl, rfl, hd4, hrest4⟩ := trodAll_cons hrest3
  obtain ⟨v5, vs5, d5, ds5, p5, q5, rfl, rfl, rfl, hd5, hrest5⟩ := trodAll_cons hrest4
  obtain ⟨rfl, rfl, rfl⟩ := trodAll_nil hrest5
  exact ⟨v, v', v'', v3, v4, v5, d, d', d'', d3, d4, d5, p, p', p'', p3, p4, p5, by cases args; simp_all, rfl, by simp, hd, hd', hd'', hd3, hd4, hd5⟩
end Go.Sx
