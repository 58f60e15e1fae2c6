import Derived.Test.YtjofnajamlmllaaDoorSxDefs
import Derived.Test.YtjofnajamlmllaaDoorSxTail
namespace Go.Sx
open Go

/-! ## A region that draws its order: operations that leave the world alone may stand anywhere; the others stand in one order -/
section
variable {P : Program} {ops : Array Oper} {md : Region.Mode} {C : World → Prop} {L : List Nat}

/-- One operation comes up. -/
def mixOp (P : Program) (L : List Nat) (ops : Array Oper) (C : World → Prop) (i : Nat) (K : Act → World → Prop) (a : Act) (w : World) : Prop :=
  match ops[i]? with
  | none => K a w
  | some o => if Region.wanted o (yielded ops a.tmps) then
      (if stl L i o then ∃ v, (∀ w', C w' → (execOp a.eval o).run P w' = .ok (.value v) w') ∧ K (a.put o.dst v) w
       else o.wp P a w (fun a' w' => C w' ∧ K a' w') (fun _ _ _ => False))
    else K (a.put o.dst undef) w

theorem wp_loud_mono {o : Oper} {a : Act} {w : World} {K K' : Act → World → Prop} (h : ∀ a w, K a w → K' a w) (hh : o.wp P a w K (fun _ _ _ => False)) : o.wp P a w K' (fun _ _ _ => False) := Oper.wp_mono h hh

theorem mixOp_mono {i : Nat} {a : Act} {w : World} {K K' : Act → World → Prop} (h : ∀ a w, K a w → K' a w) (hh : mixOp P L ops C i K a w) : mixOp P L ops C i K' a w := by
  unfold mixOp at *
  split
  · rename_i e; simp only [e] at hh; exact h _ _ hh
  · rename_i o e
    simp only [e] at hh
    split
    · rename_i hw
      simp only [hw, if_true] at hh
      split
      · rename_i hs
        simp only [hs, if_true] at hh
        obtain ⟨v, h1, h2⟩ := hh
        exact ⟨v, h1, h _ _ h2⟩
      · rename_i hs
        simp only [hs] at hh
        exact wp_loud_mono (fun a w hk => ⟨hk.1, h _ _ hk.2⟩) hh
    · rename_i hw
      simp only [hw] at hh
      exact h _ _ hh

def mixAny (P : Program) (L : List Nat) (md : Region.Mode) (ops : Array Oper) (C : World → Prop) (Q : Act → World → Prop) : Nat → Array Bool → Act → World → Prop
  | 0, listed, a, w => Region.ready md ops listed = [] ∧ Q a w
  | f + 1, listed, a, w => (Region.ready md ops listed = [] → Q a w) ∧ ∀ i ∈ Region.ready md ops listed, mixOp P L ops C i (mixAny P L md ops C Q f (listed.setIfInBounds i true)) a w

theorem mixAny_wp {Q : Act → World → Prop} {Q' : Exit → Act → World → Prop} (hQ : ∀ a w, Q a w → Q' .normal a w) : ∀ (f : Nat) (listed : Array Bool) (a : Act) (w : World), C w → mixAny P L md ops C Q f listed a w → wpAny P md ops Q' f listed a w
  | 0, _, _, _, _, h => ⟨h.1, hQ _ _ h.2⟩
  | f + 1, listed, a, w, hC, h => by
    refine ⟨fun h0 => hQ _ _ (h.1 h0), fun i hi => ?_⟩
    have h2 := h.2 i hi
    unfold mixOp at h2
    unfold wpOp
    split
    · rename_i e; simp only [e] at h2; exact mixAny_wp hQ f _ _ _ hC h2
    · rename_i o e
      simp only [e] at h2
      split
      · rename_i hw
        simp only [hw, if_true] at h2
        left
        split at h2
        · obtain ⟨v, h3, h4⟩ := h2
          unfold Oper.wp
          rw [h3 w hC]
          exact mixAny_wp hQ f _ _ _ hC h4
        · have h5 : ∀ (Q2 : Exit → Act → World → Prop) (K K' : Act → World → Prop), (∀ a w, K a w → K' a w) → o.wp P a w K (fun _ _ _ => False) → o.wp P a w K' Q2 := by
            intro Q2 K K' hk hh
            unfold Oper.wp at *
            generalize (execOp a.eval o).run P w = r at *
            cases r with
            | ok n w' =>
              cases n <;> simp only [Oper.upon] at hh ⊢ <;>
                first
                  | exact hk _ _ hh
                  | exact Calls.mono hh (fun e w'' he => by cases e <;> first | exact hk _ _ he | exact he.elim | (obtain ⟨_, _, h⟩ := he; exact h.elim))
                  | exact Rows.mono hh (fun _ _ he => hk _ _ he)
            | halt x w' => cases x <;> simp only [Oper.upon] at hh ⊢ <;> exact hh.elim
          exact h5 _ _ _ (fun a' w' hk => mixAny_wp hQ f _ _ _ hk.1 hk.2) h2
      · rename_i hw
        simp only [hw] at h2
        exact mixAny_wp hQ f _ _ _ hC h2

/-- What it leaves, in every world of the class. -/
def YieldsM (P : Program) (ops : Array Oper) (C : World → Prop) (o : Oper) (v : Value) (a : Act) : Prop :=
  (Region.wanted o (yielded ops a.tmps) = true ∧ ∀ w, C w → (execOp a.eval o).run P w = .ok (.value v) w) ∨
  (Region.wanted o (yielded ops a.tmps) = false ∧ v = undef)

theorem YieldsM.same {o : Oper} {v : Value} {a a' : Act} (hy : YieldsM P ops C o v a) (he : execOp a'.eval o = execOp a.eval o) (hw : Region.wanted o (yielded ops a'.tmps) = Region.wanted o (yielded ops a.tmps)) : YieldsM P ops C o v a' := by
  unfold YieldsM at *
  rw [he, hw]
  exact hy

theorem YieldsM.mixOp {i : Nat} {o : Oper} {v : Value} {a : Act} {w : World} (hi : ops[i]? = some o) (hs : stl L i o = true) (hy : YieldsM P ops C o v a) {K : Act → World → Prop} (h : K (a.put o.dst v) w) : mixOp P L ops C i K a w := by
  unfold Sx.mixOp
  simp only [hi]
  rcases hy with ⟨hw, hr⟩ | ⟨hw, rfl⟩
  · rw [if_pos hw, if_pos hs]; exact ⟨v, hr, h⟩
  · rw [if_neg (by rw [hw]; decide)]; exact h

theorem yieldsM_of {i : Nat} {o : Oper} {a : Act} {w : World} {K : Act → World → Prop} (hi : ops[i]? = some o) (hs : stl L i o = true) (h : mixOp P L ops C i K a w) : ∃ v, YieldsM P ops C o v a ∧ K (a.put o.dst v) w := by
  unfold mixOp at h
  simp only [hi] at h
  split at h
  · rename_i hw
    try rw [if_pos hs] at h
    obtain ⟨v, h1, h2⟩ := h
    exact ⟨v, .inl ⟨hw, h1⟩, h2⟩
  · rename_i hw
    exact ⟨undef, .inr ⟨by simpa using hw, rfl⟩, h⟩

/-- A loud operation, whether or not another's value is there already. -/
theorem loud_put {o : Oper} {a : Act} {w : World} {x : Option Tmp} {v : Value} {K : Act → World → Prop} (he : execOp (a.put x v).eval o = execOp a.eval o) (hd : ∀ d, x = some d → o.dst ≠ some d) (h : o.wp P (a.put x v) w K (fun _ _ _ => False)) :
    o.wp P a w (fun a' w' => K (a'.put x v) w') (fun _ _ _ => False) := by
  have hdef : ∀ (l : List Deferred) (u : Value), ({ a.put x v with defers := l } : Act).put o.dst u = (({ a with defers := l } : Act).put o.dst u).put x v := by
    intro l u
    rw [← Act.put_comm { a with defers := l } v u hd]
    cases x <;> rfl
  unfold Oper.wp at *
  rw [he] at h
  generalize (execOp a.eval o).run P w = r at *
  cases r with
  | ok n w' =>
    cases n <;> simp only [Oper.upon] at h ⊢ <;>
      first
        | (rw [Act.put_comm a v _ hd] at h; exact h)
        | (have e : (a.put x v).defers = a.defers := by cases x <;> rfl
           rw [e, hdef] at h; exact h)
        | exact Calls.mono h (fun e w'' he => by cases e <;> first | (simp only [Act.put_comm a v _ hd] at he; exact he) | exact he)
        | exact Rows.mono h (fun _ _ he => by simp only [Act.put_comm a v _ hd] at he; exact he)
  | halt x w' => cases x <;> simp only [Oper.upon] at h ⊢ <;> exact h

theorem mixOp_put {j : Nat} {oi oj : Oper} {v : Value} {w : World} (hj : ops[j]? = some oj) (hap : oi.apart ops oj = true) (hsi : ∀ cs b, oi.op ≠ .select cs b) (hsj : ∀ cs b, oj.op ≠ .select cs b) {K : Act → World → Prop} {a : Act}
    (hy : YieldsM P ops C oi v a) (h : mixOp P L ops C j K (a.put oi.dst v) w) : mixOp P L ops C j (fun a' w' => YieldsM P ops C oi v a' ∧ K (a'.put oi.dst v) w') a w := by
  obtain ⟨h1, h2, h3⟩ := Oper.apart_spec hap
  have keep : ∀ (a : Act), YieldsM P ops C oi v a → ∀ u, YieldsM P ops C oi v (a.put oj.dst u) := fun a hy u =>
    hy.same (execOp_put oi hsi a oj.dst u h3) (wanted_put oi a oj.dst u h3)
  have hej := execOp_put oj hsj a oi.dst v h1
  unfold Sx.mixOp at *
  simp only [hj] at *
  rw [wanted_put oj a oi.dst v h1] at h
  split
  · rename_i hw
    simp only [hw, if_true] at h
    split
    · rename_i hs
      rw [if_pos hs] at h
      obtain ⟨u, hu, hn⟩ := h
      refine ⟨u, fun w' hw' => ?_, keep a hy u, by rw [← Act.put_comm a v u h2]; exact hn⟩
      have := hu w' hw'
      rwa [hej] at this
    · rename_i hs
      rw [if_neg hs] at h
      have h4 := loud_put hej h2 h
      -- the value of 'oi' is still there: the act differs in one temporary, or in what is deferred
      have hk : ∀ (l : List Deferred) (u : Value), YieldsM P ops C oi v (({ a with defers := l } : Act).put oj.dst u) := by
        intro l u
        have h5 : YieldsM P ops C oi v { a with defers := l } := hy
        exact hy.same (by rw [execOp_put oi hsi { a with defers := l } oj.dst u h3]; rfl) (by rw [wanted_put oi { a with defers := l } oj.dst u h3])
      unfold Oper.wp at h4 ⊢
      generalize (execOp a.eval oj).run P w = r at *
      cases r with
      | ok n w' =>
        cases n <;> simp only [Oper.upon] at h4 ⊢ <;>
          first
            | exact ⟨h4.1, hk a.defers _, h4.2⟩
            | exact ⟨h4.1, hk _ _, h4.2⟩
            | exact Calls.mono h4 (fun e w'' he => by cases e <;> first | exact ⟨he.1, hk a.defers _, he.2⟩ | exact he)
            | exact Rows.mono h4 (fun _ _ he => ⟨he.1, hk a.defers _, he.2⟩)
      | halt x w' => cases x <;> simp only [Oper.upon] at h4 ⊢ <;> exact h4
  · rename_i hw
    simp only [hw] at h
    exact ⟨keep a hy _, by rw [← Act.put_comm a v undef h2]; exact h⟩

/-- What leaves the world alone may be taken first. -/
theorem mixAny_first {Q : Act → World → Prop} {i : Nat} {oi : Oper} {v : Value} (hi : ops[i]? = some oi) (hst : stl L i oi = true) (hsel : ∀ (j : Nat) (o : Oper) cs b, ops[j]? = some o → o.op ≠ .select cs b) :
    ∀ (fuel : Nat) (listed : Array Bool) (a : Act) (w : World),
      (∀ j oj, ops[j]? = some oj → j ≠ i → listed.getD j true = false → (∀ e ∈ oj.after, Region.binds md e = true → e.on ≠ i) → oi.apart ops oj = true) →
      i ∈ Region.ready md ops listed → YieldsM P ops C oi v a →
      mixAny P L md ops C Q fuel (listed.setIfInBounds i true) (a.put oi.dst v) w → mixAny P L md ops C Q (fuel + 1) listed a w := by
  intro fuel
  induction fuel with
  | zero =>
    intro listed a w _ hr hy H
    refine ⟨fun h => (by rw [h] at hr; cases hr), fun j hj => ?_⟩
    by_cases hji : j = i
    · subst hji; exact hy.mixOp hi hst H
    · have := ready_mono hj hji
      rw [H.1] at this
      cases this
  | succ fuel ih =>
    intro listed a w hfree hr hy H
    refine ⟨fun h => (by rw [h] at hr; cases hr), fun j hj => ?_⟩
    by_cases hji : j = i
    · subst hji; exact hy.mixOp hi hst H
    · have h1 := H.2 j (ready_mono hj hji)
      obtain ⟨hjun, oj, hoj, hall⟩ := mem_ready.1 hj
      have hnot : ∀ e ∈ oj.after, Region.binds md e = true → e.on ≠ i := fun e he hb heq => by
        have h1 := hall e he hb
        have h0 := (mem_ready.1 hr).1
        rw [heq] at h1
        rcases Nat.lt_or_ge i listed.size with h' | h'
        · simp [h'] at h0 h1; rw [h0] at h1; cases h1
        · simp [Array.getElem?_eq_none h'] at h1
      have h2 := mixOp_put hoj (hfree j oj hoj hji hjun hnot) (fun cs b => hsel i oi cs b hi) (fun cs b => hsel j oj cs b hoj) hy h1
      have hfree' : ∀ k ok, ops[k]? = some ok → k ≠ i → (listed.setIfInBounds j true).getD k true = false →
          (∀ e ∈ ok.after, Region.binds md e = true → e.on ≠ i) → oi.apart ops ok = true := fun k ok hk hki hun hno => by
        refine hfree k ok hk hki ?_ hno
        by_cases hjk : j = k
        · subst hjk; exact hjun
        · rw [getD_set_ne true hjk] at hun; exact hun
      refine mixOp_mono (fun a' w' h3 => ih (listed.setIfInBounds j true) a' w' hfree' (ready_mono hr (Ne.symm hji)) h3.1 ?_) h2
      rw [Array.setIfInBounds_comm _ _ hji]
      exact h3.2

/-- The walk in the given orders. -/
def mixWalk (P : Program) (L : List Nat) (ops : Array Oper) (C : World → Prop) (Q : Act → World → Prop) : MT → Act → World → Prop
  | .done, a, w => Q a w
  | .one i l, a, w => mixOp P L ops C i (mixWalk P L ops C Q l) a w
  | .both x y, a, w => mixWalk P L ops C Q x a w ∧ mixWalk P L ops C Q y a w

theorem mtAll_spec {Q : Act → World → Prop} {a : Act} {w : World} : ∀ {l : List (Option MT)} {t : MT}, mtAll l = some t → mixWalk P L ops C Q t a w → (l = [] → Q a w) ∧ ∀ x ∈ l, ∃ t', x = some t' ∧ mixWalk P L ops C Q t' a w
  | [], t, h, hw => by
    simp only [mtAll, Option.some.injEq] at h
    subst h
    exact ⟨fun _ => hw, fun x hx => (by cases hx)⟩
  | [x], t, h, hw => by
    simp only [mtAll] at h
    refine ⟨fun e => (by cases e), fun y hy => ⟨t, ?_, hw⟩⟩
    have : y = x := by simpa using hy
    rw [this, h]
  | x :: y :: l, t, h, hw => by
    simp only [mtAll] at h
    refine ⟨fun e => (by cases e), fun z hz => ?_⟩
    split at h
    · rename_i a' b' hb
      simp only [Option.some.injEq] at h
      subst h
      rcases List.mem_cons.1 hz with rfl | hz
      · exact ⟨_, rfl, hw.1⟩
      · exact (mtAll_spec (l := y :: l) hb hw.2).2 z hz
    · cases h

theorem mixAny_of_walk {Q : Act → World → Prop} (hsel : Region.noSelect ops = true) : ∀ (f : Nat) (listed : Array Bool) (l : MT) (a : Act) (w : World), mixOrder L ops f listed = some l → mixWalk P L ops C Q l a w → mixAny P L .any ops C Q f listed a w
  | 0, listed, l, a, w, ho, h => by
    unfold mixOrder at ho
    split at ho
    · rename_i hr
      simp only [Option.some.injEq] at ho
      subst ho
      exact ⟨hr, h⟩
    · cases ho
  | f + 1, listed, l, a, w, ho, h => by
    simp only [mixOrder] at ho
    split at ho
    · rename_i i hf
      split at ho
      · rename_i hfree
        have hi := List.mem_of_find?_eq_some hf
        have hst := List.find?_some hf
        cases hm : mixOrder L ops f (listed.setIfInBounds i true) with
        | none => rw [hm] at ho; cases ho
        | some l' =>
          rw [hm] at ho
          simp only [Option.map_some, Option.some.injEq] at ho
          subst ho
          obtain ⟨_, oi, hoi, _⟩ := mem_ready.1 hi
          have hst' : stl L i oi = true := by simpa [stillAt, hoi] using hst
          obtain ⟨v, hy, hK⟩ := yieldsM_of hoi hst' h
          exact mixAny_first hoi hst' (Region.noSelect_spec hsel) f listed a w (Region.free_spec hoi hfree) hi hy (mixAny_of_walk hsel f _ l' _ w hm hK)
      · cases ho
    · obtain ⟨h0, h1⟩ := mtAll_spec ho h
      refine ⟨fun e => h0 (by rw [e]; rfl), fun j hj => ?_⟩
      obtain ⟨t', ht, hw⟩ := h1 _ (List.mem_map.2 ⟨j, hj, rfl⟩)
      cases hm : mixOrder L ops f (listed.setIfInBounds j true) with
      | none => rw [hm] at ht; cases ht
      | some l' =>
        rw [hm] at ht
        simp only [Option.map_some, Option.some.injEq] at ht
        subst ht
        exact mixOp_mono (fun a' w' h' => mixAny_of_walk hsel f _ l' a' w' hm h') hw

theorem wp_region_mix {id : Nat} {Q : Exit → Act → World → Prop} {a : Act} {w : World} {l : MT} (hm : P.follows .mixedOrders = true) (hsel : Region.noSelect ops = true) (ho : mixOrder L ops ops.size (Array.replicate ops.size false) = some l) (hC : C { w with drawn := w.drawn + 1 })
    (h : mixWalk P L ops C (fun a' w' => Q .normal a' w') l a { w with drawn := w.drawn + 1 }) : (Code.region id ops true).wp P Q a w :=
  wp_region_any hm (mixAny_wp (fun _ _ h => h) _ _ _ _ hC (mixAny_of_walk hsel _ _ _ _ _ ho h))

end
end Go.Sx
