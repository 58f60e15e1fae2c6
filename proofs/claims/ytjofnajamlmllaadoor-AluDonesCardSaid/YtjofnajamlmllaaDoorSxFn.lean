import Derived.Test.YtjofnajamlmllaaDoorSxCode
import Derived.Test.YtjofnajamlmllaaDoorSxMix
namespace Go.Sx

def Rel (c : Ctx) (s : S) (a : Act) (w : World) : Prop :=
  a.defers = [] ∧ ∃ ρ, WRel c ρ s.H w ∧ SlotsOk ρ s.H.length s.sl a.tmps

def RelX (c : Ctx) (x : X) (s : S) (e : Exit) (a : Act) (w : World) : Prop :=
  a.defers = [] ∧ ∃ ρ, WRel c ρ s.H w ∧ SlotsOk ρ s.H.length s.sl a.tmps ∧ match x with
    | .normal => e = .normal
    | .exit i => e = .exit i
    | .ret => e = .ret
    | .pan v => e = .panic [{ v := val ρ v, recovered := false }] ∧ Good s.H.length v

theorem leS_Rel {σ : List Src} {c : Ctx} {s s' : S} {a : Act} {w : World} (h : leS σ c.H.length s s') (hr : Rel c s a w) : Rel c s' a w := by
  obtain ⟨hd, ρ, hw, hs⟩ := hr
  obtain ⟨h1, h2, h3⟩ := leS_rel h hw
  refine ⟨hd, rhoOf σ ρ, h1, ?_⟩
  obtain ⟨l1, l2⟩ := leSls_spec h2
  refine ⟨l1.trans hs.len, fun k => ?_⟩
  rw [← h3]
  rcases l2 k with e | e
  · rw [e]
    exact trivial
  · exact leS_slot e (hs.at_ k)

theorem famsK_spec {n0 : Nat} {s : S} {m : Option Nat} : ∀ {l : List Fam}, famsK n0 s m l → ∃ f ∈ l, ∃ y, f.I y ∧ (∃ σ, leS σ n0 s (f.st y)) ∧ (∀ k, m = some k → f.μ y < k)
  | [], h => h.elim
  | [f], h => by
    obtain ⟨y, h1, h2, h3⟩ := h
    exact ⟨f, List.mem_cons_self, y, h1, ⟨_, h2⟩, fun k hk => by subst hk; exact h3⟩
  | f :: g :: l, h => by
    rcases h with ⟨y, h1, h2, h3⟩ | h
    · exact ⟨f, List.mem_cons_self, y, h1, ⟨_, h2⟩, fun k hk => by subst hk; exact h3⟩
    · obtain ⟨f', hf, r⟩ := famsK_spec (l := g :: l) h
      exact ⟨f', List.mem_cons_of_mem _ hf, r⟩

theorem famsAll_spec {K : S → Nat → Prop} : ∀ {l : List Fam}, famsAll K l → ∀ f ∈ l, ∀ y, f.I y → K (f.st y) (f.μ y)
  | [], _, f, hf => by simp at hf
  | [g], h, f, hf => by
    simp only [List.mem_singleton] at hf
    subst hf
    exact h
  | g :: g' :: l, h, f, hf => by
    rcases List.mem_cons.1 hf with rfl | hf
    · exact h.1
    · exact famsAll_spec (l := g' :: l) h.2 f hf

section
variable {P : Program} {C : Cfg} {c : Ctx}

theorem Rel.step {ρ ρ' : Rho} {s : S} {a : Act} {w' : World} {H : List Reg} {v : T} {u : Value} {d : Option Tmp} (hd : a.defers = []) (hs : SlotsOk ρ s.H.length s.sl a.tmps)
    (hw : WRel c ρ' H w') (hag : ∀ r, r < s.H.length → ρ' r = ρ r) (hl : s.H.length ≤ H.length) (hv : SlOk ρ' H.length v u) : Rel c (s.put d v H) (a.put d u) w' := by
  have hs' := hs.agree hag hl
  refine ⟨by cases d <;> exact hd, ρ', ?_, ?_⟩
  · have : (s.put d v H).H = H := by cases d <;> rfl
    rw [this]; exact hw
  · have : (s.put d v H).H = H := by cases d <;> rfl
    rw [this]
    exact hs'.put hv s rfl H

/-- The guard: what it asks for is known, or becomes so. -/
theorem wanted_of {ops : Array Oper} {o oj : Oper} {j d : Nat} {w : Bool} {tmps : Array Value} {ρ : Rho} {n : Nat} {t : T} (hg : o.guard = some (j, w)) (hj : ops[j]? = some oj) (hd : oj.dst = some d) (hs : SlOk ρ n t (tmps.getD d undef)) :
    (∀ b, val ρ t = .bool b → (t ≠ .top) → Region.wanted o (yielded ops tmps) = (b == w)) ∧ (∀ ts, t = .tup ts → Region.wanted o (yielded ops tmps) = false) := by
  constructor
  · intro b hb hne
    have h1 : tmps.getD d undef = .bool b := by
      cases t <;> first | exact absurd rfl hne | exact hs.1.symm.trans hb
    have h2 : tmps[d]? = some (.bool b) := by
      cases h : tmps[d]? with
      | none => simp [h, undef] at h1
      | some v => simp [h] at h1; rw [h1]
    simp only [Region.wanted, hg, yielded, hj, Option.bind_some, hd, h2]
    cases b <;> cases w <;> rfl
  · intro ts e
    subst e
    have h1 : tmps.getD d undef = .tuple (ts.cv ρ).vals.toArray := hs.1.symm
    have h2 : yielded ops tmps j = none := by
      simp only [yielded, hj, Option.bind_some, hd]
      cases h : tmps[d]? with
      | none => rfl
      | some v => simp [h] at h1; rw [h1]
    simp only [Region.wanted, hg, h2]
    rfl

/-- A REGION, in its own order. -/
theorem ops_sound (hC : CfgAt P C c) {ops : Array Oper} {K : X → S → Prop} {Q : Exit → Act → World → Prop} (hQ : ∀ x s e a w, K x s → RelX c x s e a w → Q e a w) :
    ∀ (l : List Oper) (s : S) (a : Act) (w : World), opsK P C false ops.toList K l s → Rel c s a w → wpList P ops Q l a w
  | [], s, a, w, h, hr => hQ .normal s .normal a w h ⟨hr.1, hr.2.elim fun ρ ⟨h1, h2⟩ => ⟨ρ, h1, h2, rfl⟩⟩
  | o :: rest, s, a, w, h, hr => by
    have ih := ops_sound (ops := ops) hC hQ rest
    -- the operation is carried out
    have go : ∀ s, Rel c s a w → opK P C false s (fun r H => match r with
        | .ret v => opsK P C false ops.toList K rest (s.put o.dst v H)
        | .pan v => K (.pan v) { s with H }) o → o.wp P a w (wpList P ops Q rest) Q := by
      intro s hr h
      obtain ⟨hd, ρ, hw, hs⟩ := hr
      refine op_end hC hs hw h _ _ (fun v H ρ' w' u hk hw' hag hl hv => ?_) (fun v H ρ' w' hk hw' hag hl hv => ?_)
      · exact ih _ _ _ hk (Rel.step hd hs hw' hag hl hv)
      · exact hQ (.pan v) { s with H } _ a w' hk ⟨hd, ρ', hw', hs.agree hag hl, rfl, hv⟩
    have skip : ∀ s, Rel c s a w → opsK P C false ops.toList K rest (s.put o.dst (.tup .nil) s.H) → wpList P ops Q rest (a.put o.dst undef) w := by
      intro s hr h
      obtain ⟨hd, ρ, hw, hs⟩ := hr
      exact ih _ _ _ h (Rel.step hd hs hw (fun _ _ => rfl) (Nat.le_refl _) ⟨rfl, trivial⟩)
    unfold wpList
    simp only [opsK] at h
    split at h
    · rename_i hg
      rw [if_pos (by simp [Region.wanted, hg])]
      exact .inl (go s hr h)
    · rename_i j wn hg
      split at h
      · rename_i oj hj
        have hj : ops[j]? = some oj := by simpa using hj
        split at h
        · rename_i d hdst
          obtain ⟨hd, ρ, hw, hs⟩ := hr
          have hslot := hs.at_ d
          split at h
          · rename_i e
            rw [e] at hslot
            rw [if_pos (show Region.wanted o (yielded ops a.tmps) = true from (wanted_of hg hj hdst hslot).1 true rfl (by simp))]
            exact .inl (go s ⟨hd, ρ, hw, hs⟩ h)
          · rename_i e
            rw [e] at hslot
            rw [if_pos (show Region.wanted o (yielded ops a.tmps) = true from (wanted_of hg hj hdst hslot).1 false rfl (by simp))]
            exact .inl (go s ⟨hd, ρ, hw, hs⟩ h)
          · rename_i e
            rw [e] at hslot
            rw [if_neg (by rw [(wanted_of hg hj hdst hslot).1 true rfl (by simp)]; decide)]
            exact skip s ⟨hd, ρ, hw, hs⟩ h
          · rename_i e
            rw [e] at hslot
            rw [if_neg (by rw [(wanted_of hg hj hdst hslot).1 false rfl (by simp)]; decide)]
            exact skip s ⟨hd, ρ, hw, hs⟩ h
          · rename_i b e
            rw [e] at hslot
            have hk : SlotsOk ρ s.H.length (s.sl.set d (bif b then .tt else .ff)) a.tmps := hs.known e (fun v hv => by cases b <;> exact ⟨hv.1, trivial⟩)
            cases b with
            | true =>
              rw [if_pos (show Region.wanted o (yielded ops a.tmps) = true from (wanted_of hg hj hdst hslot).1 true rfl (by simp))]
              exact .inl (go { s with sl := s.sl.set d .tt } ⟨hd, ρ, hw, hk⟩ (h.1 rfl))
            | false =>
              rw [if_neg (by rw [(wanted_of hg hj hdst hslot).1 false rfl (by simp)]; decide)]
              exact skip { s with sl := s.sl.set d .ff } ⟨hd, ρ, hw, hk⟩ (h.2 rfl)
          · rename_i b e
            rw [e] at hslot
            have hk : SlotsOk ρ s.H.length (s.sl.set d (bif b then .tt else .ff)) a.tmps := hs.known e (fun v hv => by cases b <;> exact ⟨hv.1, trivial⟩)
            cases b with
            | true =>
              rw [if_neg (by rw [(wanted_of hg hj hdst hslot).1 true rfl (by simp)]; decide)]
              exact skip { s with sl := s.sl.set d .tt } ⟨hd, ρ, hw, hk⟩ (h.1 rfl)
            | false =>
              rw [if_pos (show Region.wanted o (yielded ops a.tmps) = true from (wanted_of hg hj hdst hslot).1 false rfl (by simp))]
              exact .inl (go { s with sl := s.sl.set d .ff } ⟨hd, ρ, hw, hk⟩ (h.2 rfl))
          · rename_i ts e
            rw [e] at hslot
            rw [if_neg (by rw [(wanted_of hg hj hdst hslot).2 _ rfl]; simp)]
            exact skip s ⟨hd, ρ, hw, hs⟩ h
          · exact h.elim
        · exact h.elim
      · exact h.elim

/-- A REGION THAT DRAWS ITS ORDER: its operations leave the heap alone. -/
theorem opsq_sound (hC : CfgAt P C c) {ops : Array Oper} {ρ : Rho} {H : List Reg} {w0 : World} (hw0 : WRel c ρ H w0) {K : X → S → Prop} {Q : Exit → Act → World → Prop} (hQ : ∀ x s e a w, K x s → RelX c x s e a w → Q e a w) :
    ∀ (l : List Oper) (s : S) (a : Act), s.H = H → opsK P C true ops.toList K l s → a.defers = [] → SlotsOk ρ H.length s.sl a.tmps →
      wpQuiet P ops (fun w => WRel c ρ H w) (fun a' => ∀ w', WRel c ρ H w' → Q .normal a' w') l a
  | [], s, a, e, h, hd, hs => fun w' hw' => hQ .normal s .normal a w' h ⟨hd, ρ, by rw [e]; exact hw', by rw [e]; exact hs, rfl⟩
  | o :: rest, s, a, e, h, hd, hs => by
    have ih := opsq_sound (ops := ops) hC hw0 hQ rest
    have go : ∀ s : S, s.H = H → SlotsOk ρ H.length s.sl a.tmps → opK P C true s (fun r H => match r with
        | .ret v => opsK P C true ops.toList K rest (s.put o.dst v H)
        | .pan v => K (.pan v) { s with H }) o → o.quiet P a (fun w => WRel c ρ H w) (wpQuiet P ops (fun w => WRel c ρ H w) (fun a' => ∀ w', WRel c ρ H w' → Q .normal a' w') rest) := by
      intro s e hs h
      subst e
      obtain ⟨v, u, hk, hv, hq⟩ := op_quiet hC hs hw0 h
      refine ⟨u, hq, ih _ _ (by cases o.dst <;> rfl) hk (by cases o.dst <;> exact hd) ?_⟩
      exact hs.put hv s rfl s.H
    have skip : ∀ s : S, s.H = H → SlotsOk ρ H.length s.sl a.tmps → opsK P C true ops.toList K rest (s.put o.dst (.tup .nil) s.H) →
        wpQuiet P ops (fun w => WRel c ρ H w) (fun a' => ∀ w', WRel c ρ H w' → Q .normal a' w') rest (a.put o.dst undef) := by
      intro s e hs h
      subst e
      exact ih _ _ (by cases o.dst <;> rfl) h (by cases o.dst <;> exact hd) (hs.put (t := .tup .nil) ⟨rfl, trivial⟩ s rfl s.H)
    unfold wpQuiet
    simp only [opsK] at h
    split at h
    · rename_i hg
      rw [if_pos (by simp [Region.wanted, hg])]
      exact go s e hs h
    · rename_i j wn hg
      split at h
      · rename_i oj hj
        have hj : ops[j]? = some oj := by simpa using hj
        split at h
        · rename_i d hdst
          have hslot := hs.at_ d
          split at h
          · rename_i e'
            rw [e'] at hslot
            rw [if_pos (show Region.wanted o (yielded ops a.tmps) = true from (wanted_of hg hj hdst hslot).1 true rfl (by simp))]
            exact go s e hs h
          · rename_i e'
            rw [e'] at hslot
            rw [if_pos (show Region.wanted o (yielded ops a.tmps) = true from (wanted_of hg hj hdst hslot).1 false rfl (by simp))]
            exact go s e hs h
          · rename_i e'
            rw [e'] at hslot
            rw [if_neg (by rw [(wanted_of hg hj hdst hslot).1 true rfl (by simp)]; decide)]
            exact skip s e hs h
          · rename_i e'
            rw [e'] at hslot
            rw [if_neg (by rw [(wanted_of hg hj hdst hslot).1 false rfl (by simp)]; decide)]
            exact skip s e hs h
          · rename_i b e'
            rw [e'] at hslot
            have hk : SlotsOk ρ H.length (s.sl.set d (bif b then .tt else .ff)) a.tmps := hs.known e' (fun v hv => by cases b <;> exact ⟨hv.1, trivial⟩)
            cases b with
            | true =>
              rw [if_pos (show Region.wanted o (yielded ops a.tmps) = true from (wanted_of hg hj hdst hslot).1 true rfl (by simp))]
              exact go { s with sl := s.sl.set d .tt } e hk (h.1 rfl)
            | false =>
              rw [if_neg (by rw [(wanted_of hg hj hdst hslot).1 false rfl (by simp)]; decide)]
              exact skip { s with sl := s.sl.set d .ff } e hk (h.2 rfl)
          · rename_i b e'
            rw [e'] at hslot
            have hk : SlotsOk ρ H.length (s.sl.set d (bif b then .tt else .ff)) a.tmps := hs.known e' (fun v hv => by cases b <;> exact ⟨hv.1, trivial⟩)
            cases b with
            | true =>
              rw [if_neg (by rw [(wanted_of hg hj hdst hslot).1 true rfl (by simp)]; decide)]
              exact skip { s with sl := s.sl.set d .tt } e hk (h.1 rfl)
            | false =>
              rw [if_pos (show Region.wanted o (yielded ops a.tmps) = true from (wanted_of hg hj hdst hslot).1 false rfl (by simp))]
              exact go { s with sl := s.sl.set d .ff } e hk (h.2 rfl)
          · rename_i ts e'
            rw [e'] at hslot
            rw [if_neg (by rw [(wanted_of hg hj hdst hslot).2 _ rfl]; simp)]
            exact skip s e hs h
          · exact h.elim
        · exact h.elim
      · exact h.elim

theorem wpQuiet_mono {ops : Array Oper} {C : World → Prop} {Q Q' : Act → Prop} (h : ∀ a, Q a → Q' a) : ∀ {l : List Oper} {a : Act}, wpQuiet P ops C Q l a → wpQuiet P ops C Q' l a
  | [], _, q => h _ q
  | o :: l, a, q => by
    unfold wpQuiet at *
    split
    · rename_i hw
      rw [if_pos hw] at q
      exact Oper.quiet_mono (fun a' => wpQuiet_mono h) q
    · rename_i hw
      rw [if_neg hw] at q
      exact wpQuiet_mono h q

/-! ## a region in whatever order -/
theorem lockH_get {l : List Nat} : ∀ {H : List Reg} {k r : Nat}, getReg (lockH l k H) r = (getReg H r).map fun g => match memN (k + r) l with
    | true => { g with own := false }
    | false => g
  | [], k, r => by cases r <;> rfl
  | g :: H, k, 0 => rfl
  | g :: H, k, r + 1 => by
    simp only [lockH, getReg]
    rw [lockH_get, show k + 1 + r = k + (r + 1) by omega]
theorem lockH_len {l : List Nat} : ∀ {H : List Reg} {k : Nat}, (lockH l k H).length = H.length
  | [], _ => rfl
  | _ :: H, k => by simp only [lockH, List.length_cons, lockH_len]

theorem unlockH_len {l : List Nat} : ∀ {H0 H : List Reg} {k : Nat}, H0.length ≤ H.length → (unlockH l k H0 H).length = H.length
  | [], _, _, _ => by simp only [unlockH]
  | _ :: _, [], _, h => by simp at h
  | _ :: H0, _ :: H, k, h => by simp only [unlockH, List.length_cons, unlockH_len (H0 := H0) (H := H) (by simpa using h)]
theorem unlockH_high {l : List Nat} : ∀ {H0 H : List Reg} {k r : Nat}, H0.length ≤ r → H0.length ≤ H.length → getReg (unlockH l k H0 H) r = getReg H r
  | [], _, _, _, _, _ => by simp only [unlockH]
  | _ :: _, [], _, _, _, h => by simp at h
  | _ :: H0, _ :: H, k, 0, h, _ => by simp at h
  | _ :: H0, _ :: H, k, r + 1, h, h' => by
    simp only [unlockH, getReg]
    exact unlockH_high (by simpa using h) (by simpa using h')
theorem unlockH_low {l : List Nat} : ∀ {H0 H : List Reg} {k r : Nat} {g0 : Reg}, getReg H0 r = some g0 → getReg (unlockH l k H0 H) r = (getReg H r).map fun g => match memN (k + r) l with
    | true => { g with own := g0.own, el := g0.el, tot := g0.tot }
    | false => g
  | [], _, _, r, _, h => by cases r <;> cases h
  | _ :: _, [], _, r, _, _ => by cases r <;> simp only [unlockH, getReg, Option.map_none]
  | _ :: H0, _ :: H, k, 0, g0, h => by
    simp only [getReg, Option.some.injEq] at h
    subst h
    rfl
  | _ :: H0, _ :: H, k, r + 1, g0, h => by
    simp only [unlockH, getReg]
    rw [unlockH_low (H0 := H0) (H := H) (by simpa [getReg] using h), show k + 1 + r = k + (r + 1) by omega]

theorem stH_len : ∀ {H0 H : List Reg}, (stH H0 H).length = H.length
  | _, [] => by unfold stH; rfl
  | [], _ :: H => by simp only [stH, List.length_cons, stH_len (H0 := []) (H := H)]
  | _ :: H0, _ :: H => by simp only [stH, List.length_cons, stH_len (H0 := H0) (H := H)]
theorem stH_get : ∀ {H0 H : List Reg} {r : Nat} {g : Reg} {i : Nat}, getReg (stH H0 H) r = some g → g.has i → getReg H r = some g ∧ ∃ g0, getReg H0 r = some g0 ∧ g0.own = false
  | _, [], r, g, i, h, _ => by unfold stH at h; cases h
  | [], _ :: H, 0, g, i, h, hi => by
    simp only [stH, getReg, Option.some.injEq] at h
    subst h
    exact absurd hi dead_has
  | [], _ :: H, r + 1, g, i, h, hi => by
    simp only [stH, getReg] at h
    obtain ⟨_, g0, h2, _⟩ := stH_get h hi
    cases h2
  | g0 :: H0, g1 :: H, 0, g, i, h, hi => by
    simp only [stH, getReg, Option.some.injEq] at h
    cases ho : g0.own with
    | true => rw [ho] at h; subst h; exact absurd hi dead_has
    | false => rw [ho] at h; subst h; exact ⟨rfl, g0, rfl, ho⟩
  | g0 :: H0, g1 :: H, r + 1, g, i, h, hi => by
    simp only [stH, getReg] at h
    exact stH_get (H0 := H0) (H := H) h hi

/-- The worlds that have what is not owned as it was. -/
structure Kept (ρ : Rho) (H0 : List Reg) (w0 w : World) : Prop where
  os : w.os = w0.os
  tape : w.tape = w0.tape
  out : w.output = w0.output
  heap : ∀ r g i, getReg H0 r = some g → g.own = false → g.has i → w.heap[(ρ r i).1]? = w0.heap[(ρ r i).1]?

theorem kept_of {ρ ρ' : Rho} {H0 H : List Reg} {w0 w : World} (hk : HOk ρ H0 w0) (h : WRel ⟨ρ, H0, w0⟩ ρ' H w) : Kept ρ H0 w0 w := by
  refine ⟨h.os, h.tape, h.out, fun r g i hg ho hi => h.frame _ (hk.lt r g i hg hi) fun r' g' i' hg' ho' hi' hb => ?_⟩
  have hb : (ρ r' i').1 = (ρ r i).1 := hb
  obtain ⟨rfl, _⟩ := hk.apart _ _ _ _ _ _ hg' hi' ho' hg hi hb
  rw [hg] at hg'
  simp only [Option.some.injEq] at hg'
  subst hg'
  rw [ho] at ho'
  cases ho'

theorem stH_ok {ρ ρ' : Rho} {H0 H : List Reg} {w0 w w' : World} (hk : HOk ρ H0 w0) (h : WRel ⟨ρ, H0, w0⟩ ρ' H w) (hw' : Kept ρ H0 w0 w') : HOk ρ' (stH H0 H) w' := by
  have hw := kept_of hk h
  have key : ∀ r g i, getReg (stH H0 H) r = some g → g.has i → getReg H r = some g ∧ g.own = false ∧ w'.heap[(ρ' r i).1]? = w.heap[(ρ' r i).1]? := by
    intro r g i hg hi
    obtain ⟨h1, g0, h2, h3⟩ := stH_get hg hi
    have hr : r < H0.length := getReg_lt h2
    obtain ⟨g0', a1, a2, a3⟩ := h.old r g hr h1
    have a1 : getReg H0 r = some g0' := a1
    rw [h2] at a1
    simp only [Option.some.injEq] at a1
    subst a1
    have hag : ρ' r = ρ r := h.agree r hr
    rw [hag, hw'.heap r g0 i h2 h3 (a3 i hi), hw.heap r g0 i h2 h3 (a3 i hi)]
    refine ⟨h1, ?_, rfl⟩
    cases e : g.own with
    | false => rfl
    | true => rw [a2 e] at h3; cases h3
  refine ⟨fun r g i hg hi => ?_, fun r g i hg hi ho => ?_, fun r g i hg hi => ?_, fun r g i r' g' i' hg hi ho _ _ _ => ?_⟩
  · obtain ⟨h1, _, h3⟩ := key r g i hg hi
    obtain ⟨a, b⟩ := h.hok.holds r g i h1 hi
    rw [stH_len, wc_of_heap' h3]
    exact ⟨a, b⟩
  · obtain ⟨_, h2, _⟩ := key r g i hg hi
    rw [h2] at ho; cases ho
  · obtain ⟨h1, _, h3⟩ := key r g i hg hi
    have hlt := h.hok.lt r g i h1 hi
    rw [Array.getElem?_eq_getElem hlt] at h3
    exact (Array.getElem?_eq_some_iff.1 h3).1
  · obtain ⟨_, h2, _⟩ := key r g i hg hi
    rw [h2] at ho; cases ho

/-- Behind the region: what was locked is owned again. -/
theorem unlock_rel {ρ ρ' : Rho} {l : List Nat} {H0 H : List Reg} {w0 w : World} (hk : HOk ρ H0 w0) (h : WRel ⟨ρ, lockH l 0 H0, w0⟩ ρ' H w) (hkl : HOk ρ (lockH l 0 H0) w0) : WRel ⟨ρ, H0, w0⟩ ρ' (unlockH l 0 H0 H) w := by
  have hll : (lockH l 0 H0).length = H0.length := lockH_len
  have hlen : H0.length ≤ H.length := by have := h.len; simp only [lockH_len] at this; exact this
  have hul : (unlockH l 0 H0 H).length = H.length := unlockH_len hlen
  have hw := kept_of hkl h
  have lk : ∀ r g0, getReg H0 r = some g0 → ∃ gl, getReg (lockH l 0 H0) r = some gl ∧ (∀ i, gl.has i ↔ g0.has i) ∧ (gl.own = true → g0.own = true ∧ memN r l = false) ∧ (memN r l = true → gl.own = false) := by
    intro r g0 hg
    have := lockH_get (l := l) (H := H0) (k := 0) (r := r)
    rw [hg, Nat.zero_add] at this
    cases hm : memN r l with
    | true =>
      rw [hm] at this
      exact ⟨_, this, fun i => Iff.rfl, (fun q => by cases q), fun _ => rfl⟩
    | false =>
      rw [hm] at this
      exact ⟨_, this, fun i => Iff.rfl, fun q => ⟨q, rfl⟩, fun q => by cases q⟩
  have lk' : ∀ r gl, getReg (lockH l 0 H0) r = some gl → ∃ g0, getReg H0 r = some g0 := by
    intro r gl hg
    have := lockH_get (l := l) (H := H0) (k := 0) (r := r)
    rw [hg] at this
    cases h0 : getReg H0 r with
    | none => rw [h0] at this; cases this
    | some g0 => exact ⟨g0, rfl⟩
  -- what a region is
  have key : ∀ r g, getReg (unlockH l 0 H0 H) r = some g → ∃ g', getReg H r = some g' ∧ (∀ i, g.has i ↔ g'.has i) ∧ (∀ i, g.at i = g'.at i) ∧
      ((g.own = g'.own ∧ g.el = g'.el ∧ g.tot = g'.tot) ∨ (r < H0.length ∧ memN r l = true ∧ ∃ g0, getReg H0 r = some g0 ∧ g.own = g0.own ∧ g.el = g0.el ∧ g.tot = g0.tot)) := by
    intro r g hg
    by_cases hr : r < H0.length
    · obtain ⟨g0, hg0⟩ : ∃ g0, getReg H0 r = some g0 := ⟨H0[r], by rw [getReg_eq]; exact List.getElem?_eq_getElem hr⟩
      rw [unlockH_low hg0, Nat.zero_add] at hg
      cases hg' : getReg H r with
      | none => rw [hg'] at hg; cases hg
      | some g' =>
        rw [hg'] at hg
        simp only [Option.map_some, Option.some.injEq] at hg
        cases hm : memN r l with
        | true =>
          rw [hm] at hg
          subst hg
          exact ⟨g', rfl, fun i => Iff.rfl, fun i => rfl, .inr ⟨hr, rfl, g0, hg0, rfl, rfl, rfl⟩⟩
        | false =>
          rw [hm] at hg
          subst hg
          exact ⟨g', rfl, fun i => Iff.rfl, fun i => rfl, .inl ⟨rfl, rfl, rfl⟩⟩
    · rw [unlockH_high (by omega) hlen] at hg
      exact ⟨g, hg, fun i => Iff.rfl, fun i => rfl, .inl ⟨rfl, rfl, rfl⟩⟩
  have back : ∀ r g i, r < H0.length → getReg H r = some g → g.has i → ∃ gl g0, getReg (lockH l 0 H0) r = some gl ∧ getReg H0 r = some g0 ∧ g0.has i ∧ gl.has i ∧ (g.own = true → gl.own = true) := by
    intro r g i hr hg hi
    obtain ⟨gl, a1, a2, a3⟩ := h.old r g (by show r < (lockH l 0 H0).length; omega) hg
    have a1 : getReg (lockH l 0 H0) r = some gl := a1
    obtain ⟨g0, hg0⟩ := lk' r gl a1
    obtain ⟨gl', b1, b2, _⟩ := lk r g0 hg0
    rw [a1] at b1
    simp only [Option.some.injEq] at b1
    subst b1
    exact ⟨gl, g0, a1, hg0, (b2 i).1 (a3 i hi), a3 i hi, a2⟩
  have hag : ∀ r, r < H0.length → ρ' r = ρ r := fun r hr => h.agree r (by show r < (lockH l 0 H0).length; omega)
  refine ⟨⟨fun r g i hg hi => ?_, fun r g i hg hi ho => ?_, fun r g i hg hi => ?_, fun r1 g1 i1 r2 g2 i2 hg1 h1 ho hg2 h2 hb => ?_⟩, by show H0.length ≤ _; rw [hul]; exact hlen, hag, fun r g hr hg => ?_, fun r g i hr hg hi => ?_,
    h.os, h.tape, h.out, h.size, h.shape, fun b hb hno => ?_⟩
  · obtain ⟨g', k1, k2, k3, _⟩ := key r g hg
    obtain ⟨a, b⟩ := h.hok.holds r g' i k1 ((k2 i).1 hi)
    rw [hul, k3]
    exact ⟨a, b⟩
  · obtain ⟨g', k1, k2, k3, k4⟩ := key r g hg
    have hi' := (k2 i).1 hi
    rcases k4 with ⟨e1, e2, e3⟩ | ⟨hr, hm, g0, hg0, e1, e2, e3⟩
    · rw [e2, e3]
      exact h.hok.own r g' i k1 hi' (by rw [← e1]; exact ho)
    · obtain ⟨gl, g0', b1, b2, b3, b4, _⟩ := back r g' i hr k1 hi'
      rw [hg0] at b2
      simp only [Option.some.injEq] at b2
      subst b2
      obtain ⟨gl', c1, _, _, c4⟩ := lk r g0 hg0
      rw [b1] at c1
      simp only [Option.some.injEq] at c1
      subst c1
      obtain ⟨d1, arr, d2, d3⟩ := hk.own r g0 i hg0 b3 (by rw [← e1]; exact ho)
      rw [hag r hr, e2, e3, hw.heap r gl i b1 (c4 hm) b4]
      exact ⟨d1, arr, d2, d3⟩
  · obtain ⟨g', k1, k2, _⟩ := key r g hg
    exact h.hok.lt r g' i k1 ((k2 i).1 hi)
  · obtain ⟨g1', k1, k2, _, k4⟩ := key r1 g1 hg1
    obtain ⟨g2', l1, l2, _, _⟩ := key r2 g2 hg2
    have hi1 := (k2 i1).1 h1
    have hi2 := (l2 i2).1 h2
    rcases k4 with ⟨e1, _⟩ | ⟨hr, hm, g0, hg0, e1, _⟩
    · exact h.hok.apart _ _ _ _ _ _ k1 hi1 (by rw [← e1]; exact ho) l1 hi2 hb
    · obtain ⟨gl, g0', b1, b2, b3, b4, _⟩ := back r1 g1' i1 hr k1 hi1
      rw [hg0] at b2
      simp only [Option.some.injEq] at b2
      subst b2
      have ho0 : g0.own = true := by rw [← e1]; exact ho
      rw [hag r1 hr] at hb
      by_cases hr2 : r2 < H0.length
      · obtain ⟨gl2, g02, c1, c2, c3, c4, _⟩ := back r2 g2' i2 hr2 l1 hi2
        rw [hag r2 hr2] at hb
        exact hk.apart _ _ _ _ _ _ hg0 b3 ho0 c2 c3 hb
      · have hlt := hk.lt r1 g0 i1 hg0 b3
        rcases h.new r2 g2' i2 (by show (lockH l 0 H0).length ≤ r2; omega) l1 hi2 with hsz | ⟨r0, gl0, i0, c1, c2, c3, c4⟩
        · have hsz : w0.heap.size ≤ _ := hsz
          omega
        · have c1 : getReg (lockH l 0 H0) r0 = some gl0 := c1
          have c4 : (ρ r0 i0).1 = (ρ' r2 i2).1 := c4
          obtain ⟨g00, hg00⟩ := lk' r0 gl0 c1
          obtain ⟨gl0', d1, d2, d3, _⟩ := lk r0 g00 hg00
          rw [c1] at d1
          simp only [Option.some.injEq] at d1
          subst d1
          obtain ⟨d4, d5⟩ := d3 c2
          obtain ⟨rfl, _⟩ := hk.apart _ _ _ _ _ _ hg00 ((d2 i0).1 c3) d4 hg0 b3 (by rw [c4, ← hb])
          rw [d5] at hm
          cases hm
  · have hr : r < H0.length := hr
    obtain ⟨g', k1, k2, _, k4⟩ := key r g hg
    obtain ⟨g0, hg0⟩ : ∃ g0, getReg H0 r = some g0 := ⟨H0[r], by rw [getReg_eq]; exact List.getElem?_eq_getElem hr⟩
    refine ⟨g0, hg0, fun q => ?_, fun i hi => ?_⟩
    · rcases k4 with ⟨e1, _⟩ | ⟨_, _, g00, hg00, e1, _⟩
      · obtain ⟨gl, a1, a2, _⟩ := h.old r g' (by show r < (lockH l 0 H0).length; omega) k1
        have a1 : getReg (lockH l 0 H0) r = some gl := a1
        obtain ⟨gl', b1, _, b3, _⟩ := lk r g0 hg0
        rw [a1] at b1
        simp only [Option.some.injEq] at b1
        subst b1
        exact (b3 (a2 (by rw [← e1]; exact q))).1
      · rw [hg0] at hg00
        simp only [Option.some.injEq] at hg00
        subst hg00
        rw [← e1]; exact q
    · obtain ⟨gl, g0', _, b2, b3, _⟩ := back r g' i hr k1 ((k2 i).1 hi)
      rw [hg0] at b2
      simp only [Option.some.injEq] at b2
      subst b2
      exact b3
  · obtain ⟨g', k1, k2, _⟩ := key r g hg
    have hr : H0.length ≤ r := hr
    rcases h.new r g' i (by show (lockH l 0 H0).length ≤ r; omega) k1 ((k2 i).1 hi) with hsz | ⟨r0, gl0, i0, c1, c2, c3, c4⟩
    · exact .inl hsz
    · have c1 : getReg (lockH l 0 H0) r0 = some gl0 := c1
      obtain ⟨g00, hg00⟩ := lk' r0 gl0 c1
      obtain ⟨gl0', d1, d2, d3, _⟩ := lk r0 g00 hg00
      rw [c1] at d1
      simp only [Option.some.injEq] at d1
      subst d1
      exact .inr ⟨r0, g00, i0, hg00, (d3 c2).1, (d2 i0).1 c3, c4⟩
  · refine h.frame b hb fun r gl i hgl ho hi => ?_
    have hgl : getReg (lockH l 0 H0) r = some gl := hgl
    obtain ⟨g00, hg00⟩ := lk' r gl hgl
    obtain ⟨gl0', d1, d2, d3, _⟩ := lk r g00 hg00
    rw [hgl] at d1
    simp only [Option.some.injEq] at d1
    subst d1
    exact hno r g00 i hg00 (d3 ho).1 ((d2 i).1 hi)

/-- Locking loses nothing of the heap. -/
theorem lock_ok {ρ : Rho} {l : List Nat} {H0 : List Reg} {w0 : World} (hk : HOk ρ H0 w0) : HOk ρ (lockH l 0 H0) w0 := by
  have key : ∀ r gl, getReg (lockH l 0 H0) r = some gl → ∃ g0, getReg H0 r = some g0 ∧ (∀ i, gl.has i ↔ g0.has i) ∧ (∀ i, gl.at i = g0.at i) ∧ (gl.own = true → gl = g0) := by
    intro r gl hg
    have := lockH_get (l := l) (H := H0) (k := 0) (r := r)
    rw [hg, Nat.zero_add] at this
    cases h0 : getReg H0 r with
    | none => rw [h0] at this; cases this
    | some g0 =>
      rw [h0] at this
      simp only [Option.map_some, Option.some.injEq] at this
      cases hm : memN r l with
      | true => rw [hm] at this; subst this; exact ⟨g0, rfl, fun i => Iff.rfl, fun i => rfl, fun q => by cases q⟩
      | false => rw [hm] at this; subst this; exact ⟨gl, rfl, fun i => Iff.rfl, fun i => rfl, fun _ => rfl⟩
  refine ⟨fun r g i hg hi => ?_, fun r g i hg hi ho => ?_, fun r g i hg hi => ?_, fun r g i r' g' i' hg hi ho hg' hi' hb => ?_⟩
  · obtain ⟨g0, k1, k2, k3, _⟩ := key r g hg
    rw [lockH_len, k3]
    exact hk.holds r g0 i k1 ((k2 i).1 hi)
  · obtain ⟨g0, k1, k2, k3, k4⟩ := key r g hg
    have := k4 ho
    subst this
    exact hk.own r g i k1 hi ho
  · obtain ⟨g0, k1, k2, _⟩ := key r g hg
    exact hk.lt r g0 i k1 ((k2 i).1 hi)
  · obtain ⟨g0, k1, k2, _, k4⟩ := key r g hg
    obtain ⟨g0', l1, l2, _⟩ := key r' g' hg'
    have := k4 ho
    subst this
    exact hk.apart _ _ _ _ _ _ k1 hi ho l1 ((l2 i').1 hi') hb

theorem still_pure {ρ : Rho} {s : S} {a : Act} {o : Oper} {K : R → List Reg → Prop} (hs : SlotsOk ρ s.H.length s.sl a.tmps) {w0 : World} (hk : HOk ρ s.H w0) (hst : isStill o.op = true) (h : opK P C true s K o) : PureStep P c ρ s a o K := by
  cases ho : o.op with
  | move x => exact op_move hs (.inl ho) h
  | assign x => exact op_move hs (.inr ho) h
  | pick x y z => exact op_pick hs ho h
  | build t ps => exact op_build hs ho h
  | load t x => exact op_load hs hk ho h
  | nilCheck x => exact op_nilCheck hs ho h
  | binOp op t x y t' => exact op_bin hs ho h
  | unOp op t x => exact op_un hs ho h
  | convert t t' x => exact op_conv hs ho h
  | makeInterface t x => exact op_iface hs ho h
  | makeFunc f x y => exact op_makeFunc hs ho h
  | slice t x l hi m => exact op_slice hs ho h
  | fieldAddr t x k => exact op_fieldAddr hs ho h
  | field t x k => exact op_field hs ho h
  | indexAddr t x y => exact op_indexAddr hs ho h
  | index t x y => exact op_index hs ho h
  | extract x k => exact op_extract hs ho h
  | call cl =>
    rw [ho] at hst
    cases hc : cl.callee with
    | builtin b =>
      refine op_builtin hs ho hc (fun e => ?_) (fun e => ?_) (fun e => ?_) h
      all_goals
        subst e
        simp only [isStill, hc] at hst
        cases hst
    | _ => simp only [isStill, hc] at hst; cases hst
  | _ => rw [ho] at hst; cases hst

theorem mixw_sound {ρ : Rho} {H0 : List Reg} {w0 : World} (hC : CfgAt P C ⟨ρ, H0, w0⟩) {L : List Nat} {ops : Array Oper} (hk0 : HOk ρ H0 w0) {K : X → S → Prop} {Q : Exit → Act → World → Prop}
    (hQ : ∀ x s e a w, K x s → RelX ⟨ρ, H0, w0⟩ x s e a w → Q e a w) :
    ∀ (l : MT) (s : S) (a : Act) (w : World), opsMK P C L H0 ops.toList K l s → Rel ⟨ρ, H0, w0⟩ s a w → mixWalk P L ops (Kept ρ H0 w0) (fun a' w' => Q .normal a' w') l a w
  | .done, s, a, w, h, hr => hQ .normal s .normal a w h ⟨hr.1, hr.2.elim fun ρ ⟨h1, h2⟩ => ⟨ρ, h1, h2, rfl⟩⟩
  | .both x y, s, a, w, h, hr => ⟨mixw_sound (L := L) (ops := ops) hC hk0 hQ x s a w h.1 hr, mixw_sound (L := L) (ops := ops) hC hk0 hQ y s a w h.2 hr⟩
  | .one i rest, s, a, w, h, hr => by
    have ih := mixw_sound (L := L) (ops := ops) hC hk0 hQ rest
    simp only [opsMK] at h
    split at h
    · exact h.elim
    · rename_i o hoi
      have hoi : ops[i]? = some o := by simpa using hoi
      have go : ∀ s, Rel ⟨ρ, H0, w0⟩ s a w → (match stl L i o with
          | true => opK P C true { s with H := stH H0 s.H } (fun r _ => match r with
            | .ret v => opsMK P C L H0 ops.toList K rest (s.put o.dst v s.H)
            | .pan _ => False) o
          | false => opK P C false s (fun r H => match r with
            | .ret v => opsMK P C L H0 ops.toList K rest (s.put o.dst v H)
            | .pan _ => False) o) →
          (if stl L i o then ∃ v, (∀ w', Kept ρ H0 w0 w' → (execOp a.eval o).run P w' = .ok (.value v) w') ∧ mixWalk P L ops (Kept ρ H0 w0) (fun a' w' => Q .normal a' w') rest (a.put o.dst v) w
           else o.wp P a w (fun a' w' => Kept ρ H0 w0 w' ∧ mixWalk P L ops (Kept ρ H0 w0) (fun a' w' => Q .normal a' w') rest a' w') (fun _ _ _ => False)) := by
        intro s hr h
        obtain ⟨hd, ρ', hw, hs⟩ := hr
        cases hst : stl L i o with
        | true =>
          simp only [hst] at h
          rw [if_pos rfl]
          have hso : SlotsOk ρ' (stH H0 s.H).length s.sl a.tmps := by rw [stH_len]; exact hs
          have hks := stH_ok hk0 hw (kept_of hk0 hw)
          obtain ⟨v, u, hkv, hv, hrun⟩ := still_pure (c := ⟨ρ', [], { w0 with heap := #[] }⟩) (s := { s with H := stH H0 s.H }) hso hks (by simp only [stl, Bool.and_eq_true] at hst; exact hst.1) h
          refine ⟨u, fun w' hw' => hrun w' ?_, ?_⟩
          · refine ⟨stH_ok hk0 hw hw', Nat.zero_le _, fun r hr => absurd hr (Nat.not_lt_zero _), fun r g hr => absurd hr (Nat.not_lt_zero _), fun r g i _ _ _ => .inl (Nat.zero_le _), hw'.os, hw'.tape, hw'.out, Nat.zero_le _, fun b hb => absurd hb (Nat.not_lt_zero _), fun b hb => absurd hb (Nat.not_lt_zero _)⟩
          · refine ih _ _ _ hkv ⟨by cases o.dst <;> exact hd, ρ', by cases o.dst <;> exact hw, ?_⟩
            have hv' : SlOk ρ' s.H.length v u := by
              have : (stH H0 s.H).length = s.H.length := stH_len
              have hv2 : SlOk ρ' (stH H0 s.H).length v u := hv
              rw [this] at hv2
              exact hv2
            have := hs.put hv' s rfl s.H (d := o.dst)
            cases hdd : o.dst <;> rw [hdd] at this <;> exact this
        | false =>
          simp only [hst] at h
          rw [if_neg (by decide)]
          refine op_end hC hs hw h _ _ (fun v H ρ2 w' u hk hw' hag hl hv => ?_) (fun v H ρ2 w' hk => hk.elim)
          exact ⟨kept_of hk0 hw', ih _ _ _ hk (Rel.step hd hs hw' hag hl hv)⟩
      have skip : ∀ s, Rel ⟨ρ, H0, w0⟩ s a w → opsMK P C L H0 ops.toList K rest (s.put o.dst (.tup .nil) s.H) → mixWalk P L ops (Kept ρ H0 w0) (fun a' w' => Q .normal a' w') rest (a.put o.dst undef) w := by
        intro s hr h
        obtain ⟨hd, ρ', hw, hs⟩ := hr
        exact ih _ _ _ h ⟨by cases o.dst <;> exact hd, ρ', by cases o.dst <;> exact hw, by
          have := hs.put (t := .tup .nil) (v := undef) ⟨rfl, trivial⟩ s rfl s.H (d := o.dst)
          cases hdd : o.dst <;> rw [hdd] at this <;> exact this⟩
      unfold mixWalk mixOp
      simp only [hoi]
      split at h
      · rename_i hg
        rw [if_pos (by simp [Region.wanted, hg])]
        exact go s hr h
      · rename_i j wn hg
        split at h
        · rename_i oj hj
          have hj : ops[j]? = some oj := by simpa using hj
          split at h
          · rename_i d hdst
            obtain ⟨hd, ρ', hw, hs⟩ := hr
            have hslot := hs.at_ d
            split at h
            · rename_i e'
              rw [e'] at hslot
              rw [if_pos (show Region.wanted o (yielded ops a.tmps) = true from (wanted_of hg hj hdst hslot).1 true rfl (by simp))]
              exact go s ⟨hd, ρ', hw, hs⟩ h
            · rename_i e'
              rw [e'] at hslot
              rw [if_pos (show Region.wanted o (yielded ops a.tmps) = true from (wanted_of hg hj hdst hslot).1 false rfl (by simp))]
              exact go s ⟨hd, ρ', hw, hs⟩ h
            · rename_i e'
              rw [e'] at hslot
              rw [if_neg (by rw [(wanted_of hg hj hdst hslot).1 true rfl (by simp)]; decide)]
              exact skip s ⟨hd, ρ', hw, hs⟩ h
            · rename_i e'
              rw [e'] at hslot
              rw [if_neg (by rw [(wanted_of hg hj hdst hslot).1 false rfl (by simp)]; decide)]
              exact skip s ⟨hd, ρ', hw, hs⟩ h
            · rename_i b e'
              rw [e'] at hslot
              have hk : SlotsOk ρ' s.H.length (s.sl.set d (bif b then .tt else .ff)) a.tmps := hs.known e' (fun v hv => by cases b <;> exact ⟨hv.1, trivial⟩)
              cases b with
              | true =>
                rw [if_pos (show Region.wanted o (yielded ops a.tmps) = true from (wanted_of hg hj hdst hslot).1 true rfl (by simp))]
                exact go { s with sl := s.sl.set d .tt } ⟨hd, ρ', hw, hk⟩ (h.1 rfl)
              | false =>
                rw [if_neg (by rw [(wanted_of hg hj hdst hslot).1 false rfl (by simp)]; decide)]
                exact skip { s with sl := s.sl.set d .ff } ⟨hd, ρ', hw, hk⟩ (h.2 rfl)
            · rename_i b e'
              rw [e'] at hslot
              have hk : SlotsOk ρ' s.H.length (s.sl.set d (bif b then .tt else .ff)) a.tmps := hs.known e' (fun v hv => by cases b <;> exact ⟨hv.1, trivial⟩)
              cases b with
              | true =>
                rw [if_neg (by rw [(wanted_of hg hj hdst hslot).1 true rfl (by simp)]; decide)]
                exact skip { s with sl := s.sl.set d .tt } ⟨hd, ρ', hw, hk⟩ (h.1 rfl)
              | false =>
                rw [if_pos (show Region.wanted o (yielded ops a.tmps) = true from (wanted_of hg hj hdst hslot).1 false rfl (by simp))]
                exact go { s with sl := s.sl.set d .ff } ⟨hd, ρ', hw, hk⟩ (h.2 rfl)
            · rename_i ts e'
              rw [e'] at hslot
              rw [if_neg (by rw [(wanted_of hg hj hdst hslot).2 _ rfl]; simp)]
              exact skip s ⟨hd, ρ', hw, hs⟩ h
            · exact h.elim
          · exact h.elim
        · exact h.elim

theorem mix_sound (hC : CfgAt P C c) {L : List Nat} {ops : Array Oper} {lk : List Nat} {id : Nat} {K : X → S → Prop} {Q : Exit → Act → World → Prop} (hQ : ∀ x s e a w, K x s → RelX c x s e a w → Q e a w) (hm : P.follows .mixedOrders = true) (hsel : Region.noSelect ops = true)
    {l : MT} (ho : mixOrder L ops ops.size (Array.replicate ops.size false) = some l) {s : S} {a : Act} {w : World}
    (h : opsMK P C L (lockH lk 0 s.H) ops.toList (fun x s' => K x { s' with H := unlockH lk 0 s.H s'.H }) l { s with H := lockH lk 0 s.H }) (hr : Rel c s a w) : (Code.region id ops true).wp P Q a w := by
  obtain ⟨hd, ρ, hw, hs⟩ := hr
  have hw1 := hw.drawn (w.drawn + 1)
  have hk1 := hw1.hok
  have hkl := lock_ok (l := lk) hk1
  refine wp_region_mix (C := Kept ρ (lockH lk 0 s.H) { w with drawn := w.drawn + 1 }) hm hsel ho ⟨rfl, rfl, rfl, fun _ _ _ _ _ _ => rfl⟩ ?_
  have hGk : GOk ρ (lockH lk 0 s.H) { w with drawn := w.drawn + 1 } := fun x hx => by
    obtain ⟨h1, h2⟩ := hw1.gok hC.2 x hx
    refine ⟨h1, fun r g i e hi ho => ?_⟩
    rw [lockH_get] at e
    obtain ⟨g0, e0, rfl⟩ := Option.map_eq_some_iff.1 e
    refine h2 r g0 i e0 ?_ ?_
    · revert hi; split <;> exact fun h => h
    · revert ho; split <;> intro h <;> first | exact h | cases h
  refine mixw_sound ⟨hC.1, hGk⟩ hkl (K := fun x s' => K x { s' with H := unlockH lk 0 s.H s'.H }) (fun x s' e a' w' hk hx => ?_) l _ a _ h ⟨hd, ρ, WRel.refl hkl, by rw [lockH_len]; exact hs⟩
  obtain ⟨hd', ρ', hw', hs', hx'⟩ := hx
  have hu := unlock_rel hk1 hw' hkl
  have hl : s.H.length ≤ s'.H.length := by have : (lockH lk 0 s.H).length ≤ s'.H.length := hw'.len; rw [lockH_len] at this; exact this
  have hul : (unlockH lk 0 s.H s'.H).length = s'.H.length := unlockH_len hl
  refine hQ x _ e a' w' hk ⟨hd', ρ', hw1.trans hu, ?_, ?_⟩
  · show SlotsOk ρ' (unlockH lk 0 s.H s'.H).length s'.sl a'.tmps
    rw [hul]; exact hs'
  · cases x with
    | pan v =>
      obtain ⟨e1, e2⟩ := hx'
      exact ⟨e1, by show Good (unlockH lk 0 s.H s'.H).length v; rw [hul]; exact e2⟩
    | _ => exact hx'

theorem norm_relX {s : S} {a : Act} {w : World} : Rel c s a w → RelX c .normal s .normal a w := fun ⟨h1, ρ, h2, h3⟩ => ⟨h1, ρ, h2, h3, rfl⟩
theorem back_relX {s : S} {e : Exit} {a : Act} {w : World} : RelX c .normal s e a w → e = .normal ∧ Rel c s a w := fun ⟨h1, ρ, h2, h3, h4⟩ => ⟨h4, h1, ρ, h2, h3⟩
/-- From a state the code is safe for K. -/
def SafeAt (P : Program) (c : Ctx) (code : Code) (K : X → S → Prop) (s : S) : Prop :=
  ∀ (a : Act) (w : World) (Q : Exit → Act → World → Prop), Rel c s a w → (∀ x s' e a' w', K x s' → RelX c x s' e a' w' → Q e a' w') → code.wp P Q a w
/-- What is reckoned of code' makes code safe. -/
def Safe (P : Program) (C : Cfg) (c : Ctx) (code' code : Code) : Prop := ∀ (K : X → S → Prop) (s : S), codeK P C c.H.length code' K s → SafeAt P c code K s

theorem safe_seq0 {x y : Code} {K K1 : X → S → Prop} {s : S} (hx : SafeAt P c x K1 s) (he : ∀ e s', e ≠ .normal → K1 e s' → K e s') (hy : ∀ s', K1 .normal s' → SafeAt P c y K s') : SafeAt P c (.seq x y) K s := by
  intro a w Q hr hQ
  refine wp_seq (hx a w _ hr ?_)
  intro e s' e' a' w' hk hx
  cases e with
  | normal =>
    obtain ⟨rfl, hr'⟩ := back_relX hx
    exact hy s' hk a' w' Q hr' hQ
  | exit i => obtain ⟨_, _, _, _, rfl⟩ := _root_.id hx; exact hQ _ _ _ _ _ (he _ _ (by simp) hk) hx
  | ret => obtain ⟨_, _, _, _, rfl⟩ := _root_.id hx; exact hQ _ _ _ _ _ (he _ _ (by simp) hk) hx
  | pan v => obtain ⟨_, _, _, _, rfl, _⟩ := _root_.id hx; exact hQ _ _ _ _ _ (he _ _ (by simp) hk) hx

theorem seq_parts {x' y' y : Code} {K : X → S → Prop} {s : S} (hy : Safe P C c y' y) (h : codeK P C c.H.length (.seq x' y') K s) :
    ∃ K1, codeK P C c.H.length x' K1 s ∧ (∀ e s', e ≠ .normal → K1 e s' → K e s') ∧ (∀ s', K1 .normal s' → SafeAt P c y K s') := by
  simp only [codeK] at h
  split at h
  · exact ⟨_, h, fun e s' hn hk => by cases e <;> first | exact absurd rfl hn | exact hk, fun s' hk => hy K s' hk⟩
  · obtain ⟨h1, h2⟩ := h
    refine ⟨_, h1, fun e s' hn hk => by cases e <;> first | exact absurd rfl hn | exact hk, fun s' hk a w Q hr hQ => ?_⟩
    obtain ⟨f, hf, y, hy', ⟨σ, hσ⟩, _⟩ := famsK_spec hk
    exact hy K _ (famsAll_spec h2 f hf y hy') a w Q (leS_Rel hσ hr) hQ
  · obtain ⟨g, h1, h2⟩ := h
    refine ⟨_, h1, fun e s' hn hk => by cases e <;> first | exact absurd rfl hn | exact hk, fun s' hk a w Q hr hQ => ?_⟩
    obtain ⟨f, hf, y, hy', ⟨σ, hσ⟩, _⟩ := famsK_spec hk
    exact hy K _ (famsAll_spec h2 f hf y hy') a w Q (leS_Rel hσ hr) hQ
  · exact h.elim

theorem safe_seq {x' x y' y : Code} (hx : Safe P C c x' x) (hy : Safe P C c y' y) : Safe P C c (.seq x' y') (.seq x y) := fun K s h => by
  obtain ⟨K1, h1, h2, h3⟩ := seq_parts hy h
  exact safe_seq0 (hx K1 s h1) h2 h3

theorem safe_cond {cnd : Operand} {x' x y' y : Code} (ihx : Safe P C c x' x) (ihy : Safe P C c y' y) : Safe P C c (.cond cnd x' y') (.cond cnd x y) := by
  intro K s h a w Q hr hQ
  simp only [codeK] at h
  obtain ⟨hd, ρ, hw, hs⟩ := hr
  obtain ⟨t, h1, ht⟩ := force_spec h (read_ok hs cnd)
  clear h
  split at h1
  · exact wp_cond_true ht.1.symm (ihx K s h1 a w Q ⟨hd, ρ, hw, hs⟩ hQ)
  · exact wp_cond_false ht.1.symm (ihy K s h1 a w Q ⟨hd, ρ, hw, hs⟩ hQ)
  · rename_i b
    cases b with
    | true => exact wp_cond_true ht.1.symm (ihx K s (h1.1 rfl) a w Q ⟨hd, ρ, hw, hs⟩ hQ)
    | false => exact wp_cond_false ht.1.symm (ihy K s (h1.2 rfl) a w Q ⟨hd, ρ, hw, hs⟩ hQ)
  · exact h1.elim

theorem safe_block {id : Nat} {b' b : Code} (ih : Safe P C c b' b) : Safe P C c (.block id b') (.block id b) := by
  intro K s h a w Q hr hQ
  simp only [codeK] at h
  refine wp_block (ih _ s h a w _ hr ?_)
  intro e s' e' a' w' hk hx
  cases e with
  | normal =>
    obtain ⟨rfl, hr'⟩ := back_relX hx
    exact hQ _ _ _ _ _ hk hx
  | exit i =>
    obtain ⟨h1, ρ, h2, h3, rfl⟩ := hx
    simp only at hk
    cases hb : Nat.beq i id with
    | true =>
      have hb' := beq_nat hb
      subst hb'
      simp only [hb] at hk
      show (if i = i then Q .normal a' w' else Q (.exit i) a' w')
      rw [if_pos rfl]
      exact hQ .normal s' .normal a' w' hk ⟨h1, ρ, h2, h3, rfl⟩
    | false =>
      simp only [hb] at hk
      have hne : i ≠ id := fun e => by subst e; rw [Nat.beq_refl] at hb; cases hb
      show (if i = id then Q .normal a' w' else Q (.exit i) a' w')
      rw [if_neg hne]
      exact hQ (.exit i) s' _ a' w' hk ⟨h1, ρ, h2, h3, rfl⟩
  | ret => obtain ⟨_, _, _, _, rfl⟩ := _root_.id hx; exact hQ _ _ _ _ _ hk hx
  | pan v => obtain ⟨_, _, _, _, rfl, _⟩ := _root_.id hx; exact hQ _ _ _ _ _ hk hx

theorem safe_loop {b' b : Code} (ih : Safe P C c b' b) : Safe P C c (.loop b') (.loop b) := by
  intro K s h a w Q hr hQ
  simp only [codeK] at h
  have key : ∀ fams : List Fam, famsK c.H.length s none fams → famsAll (fun s m => codeK P C c.H.length b' (fun e s => match e with
      | .normal => famsK c.H.length s (some m) fams
      | e => K e s) s) fams → (Code.loop b).wp P Q a w := by
    intro fams h1 h2
    obtain ⟨f, hf, y, hy, ⟨σ, hσ⟩, _⟩ := famsK_spec h1
    refine wp_loop_ghost (fun m a w => ∃ f ∈ fams, ∃ y, f.I y ∧ f.μ y = m ∧ Rel c (f.st y) a w) (f.μ y) ⟨f, hf, y, hy, rfl, leS_Rel hσ hr⟩ ?_
    rintro m a w ⟨f, hf, y, hy, rfl, hr⟩
    refine ih _ _ (famsAll_spec h2 f hf y hy) a w _ hr ?_
    intro e s' e' a' w' hk hx
    cases e with
    | normal =>
      obtain ⟨rfl, hr'⟩ := back_relX hx
      obtain ⟨f', hf', y', hy', ⟨σ', hσ'⟩, hm⟩ := famsK_spec hk
      exact ⟨f'.μ y', hm _ rfl, f', hf', y', hy', rfl, leS_Rel hσ' hr'⟩
    | exit i => obtain ⟨_, _, _, _, rfl⟩ := _root_.id hx; exact hQ _ _ _ _ _ hk hx
    | ret => obtain ⟨_, _, _, _, rfl⟩ := _root_.id hx; exact hQ _ _ _ _ _ hk hx
    | pan v => obtain ⟨_, _, _, _, rfl, _⟩ := _root_.id hx; exact hQ _ _ _ _ _ hk hx
  split at h
  · exact key _ h.1 h.2
  · obtain ⟨g, h1, h2⟩ := h
    exact key _ h1 h2
  · exact h.elim

theorem safe_scope {b' b : Code} (ih : Safe P C c b' b) : Safe P C c (.scope b') (.scope b) := by
  intro K s h a w Q hr hQ
  simp only [codeK] at h
  refine wp_scope_straight (ih K s h a w _ hr ?_)
  intro e s' e' a' w' hk hx
  cases e with
  | normal => obtain ⟨rfl, _⟩ := back_relX hx; exact hQ _ _ _ _ _ hk hx
  | exit i => obtain ⟨_, _, _, _, rfl⟩ := _root_.id hx; exact hQ _ _ _ _ _ hk hx
  | ret => obtain ⟨_, _, _, _, rfl⟩ := _root_.id hx; exact hQ _ _ _ _ _ hk hx
  | pan v => obtain ⟨_, _, _, _, rfl, _⟩ := _root_.id hx; exact hQ _ _ _ _ _ hk hx

/-- A PIECE OF CODE. -/
theorem code_safe (hC : CfgAt P C c) : ∀ (code : Code), Safe P C c code code := by
  have nrm : ∀ {s a w}, Rel c s a w → RelX c .normal s .normal a w := norm_relX
  have back : ∀ {s e a w}, RelX c .normal s e a w → e = .normal ∧ Rel c s a w := back_relX
  intro code
  induction code with
  | skip => exact fun K s h a w Q hr hQ => wp_skip (hQ .normal s _ a w h (nrm hr))
  | region id ops draw =>
    intro K s h a w Q hr hQ
    cases draw with
    | false =>
      simp only [codeK] at h
      exact wp_region_list (ops_sound hC hQ ops.toList s a w h hr)
    | true =>
      simp only [codeK] at h
      split at h
      · rename_i hm _
        split at h
        · rename_i hb
          obtain ⟨hd, ρ, hw, hs⟩ := hr
          exact wp_region_quiet (C := fun w => WRel c ρ s.H w) hm hb (hw.drawn _) (opsq_sound hC hw hQ ops.toList s a rfl h hd hs)
        · exact h.elim
      · rename_i hm _
        split at h
        · rename_i l hsel ho
          exact mix_sound hC hQ hm hsel ho h hr
        · exact h.elim
      · rename_i hm _
        split at h
        · rename_i hb
          obtain ⟨hd, ρ, hw, hs⟩ := hr
          refine wp_region_tail (C := fun w => WRel c ρ s.H w) _ hm hb (hw.drawn _) ?_
          have := opsq_sound (Q := fun e a w => e = .normal ∧ wpList P ops Q (ops.toList.drop (tailAt C id ops)) a w) hC (ops := ops) hw (fun x s' e a' w' hk hx => by
            cases x with
            | normal =>
              obtain ⟨rfl, hr'⟩ := back hx
              exact ⟨rfl, ops_sound hC hQ _ s' a' w' hk hr'⟩
            | _ => exact hk.elim) _ s a rfl h hd hs
          exact wpQuiet_mono (fun a' h w' hw' => (h w' hw').2) this
        · exact h.elim
      · exact h.elim
  | seq x y ihx ihy => exact safe_seq ihx ihy
  | cond cnd x y ihx ihy => exact safe_cond ihx ihy
  | block id b ih => exact safe_block ih
  | loop b ih => exact safe_loop ih
  | exit id => exact fun K s h a w Q ⟨h1, ρ, h2, h3⟩ hQ => wp_exit (hQ (.exit id) s _ a w h ⟨h1, ρ, h2, h3, rfl⟩)
  | scope b ih => exact safe_scope ih
  | label l => exact fun K s h a w Q hr hQ => wp_label (hQ .normal s _ a w h (nrm hr))
  | ret => exact fun K s h a w Q ⟨h1, ρ, h2, h3⟩ hQ => wp_ret (hQ .ret s _ a w h ⟨h1, ρ, h2, h3, rfl⟩)
  | _ => intro K s h; simp only [codeK] at h

/-- The same, its pieces put together from the left. -/
theorem la_safe (hC : CfgAt P C c) : ∀ (code : Code), Safe P C c (la code none) code ∧ ∀ (acc : Code) (K : X → S → Prop) (s : S), codeK P C c.H.length (la code (some acc)) K s →
    ∃ K1, codeK P C c.H.length acc K1 s ∧ (∀ e s', e ≠ .normal → K1 e s' → K e s') ∧ (∀ s', K1 .normal s' → SafeAt P c code K s') := by
  have out : ∀ {code : Code}, Safe P C c (la code none) code → (∀ acc, la code (some acc) = .seq acc (la code none)) → Safe P C c (la code none) code ∧ ∀ (acc : Code) (K : X → S → Prop) (s : S), codeK P C c.H.length (la code (some acc)) K s →
      ∃ K1, codeK P C c.H.length acc K1 s ∧ (∀ e s', e ≠ .normal → K1 e s' → K e s') ∧ (∀ s', K1 .normal s' → SafeAt P c code K s') := fun h1 h2 => ⟨h1, fun acc K s h => by
    rw [h2] at h
    exact seq_parts h1 h⟩
  intro code
  induction code with
  | seq x y ihx ihy =>
    refine ⟨fun K s h => ?_, fun acc K s h => ?_⟩
    · obtain ⟨K1, h1, h2, h3⟩ := ihy.2 (la x none) K s h
      exact safe_seq0 (ihx.1 K1 s h1) h2 h3
    · obtain ⟨K1, h1, h2, h3⟩ := ihy.2 (la x (some acc)) K s h
      obtain ⟨K2, g1, g2, g3⟩ := ihx.2 acc K1 s h1
      exact ⟨K2, g1, fun e s' hn hk => h2 e s' hn (g2 e s' hn hk), fun s' hk => safe_seq0 (g3 s' hk) h2 h3⟩
  | cond cnd x y ihx ihy => exact out (safe_cond ihx.1 ihy.1) fun _ => rfl
  | block id b ih => exact out (safe_block ih.1) fun _ => rfl
  | loop b ih => exact out (safe_loop ih.1) fun _ => rfl
  | scope b ih => exact out (safe_scope ih.1) fun _ => rfl
  | _ => exact out (code_safe hC _) fun _ => rfl

theorem code_sound (hC : CfgAt P C c) (b : Bool) (code : Code) (K : X → S → Prop) (s : S) (a : Act) (w : World) (Q : Exit → Act → World → Prop) (h : codeK P C c.H.length (laB b code) K s) (hr : Rel c s a w)
    (hQ : ∀ x s' e a' w', K x s' → RelX c x s' e a' w' → Q e a' w') : code.wp P Q a w := by
  cases b with
  | true => exact (la_safe hC code).1 K s h a w Q hr hQ
  | false => exact code_safe hC code K s h a w Q hr hQ

end
end Go.Sx
