import Derived.Test.YtjofnajamlmllaaDoorSxFn
namespace Go.Sx

section
variable {P : Program} {C : Cfg}

/-! ## A function -/
def resSem (tmps : Array Value) : ResultVar → Sem Value
  | .tmp t => pure (tmps.getD t undef)
  | .cell a t => do loadVar t (← asAddr (tmps.getD a undef))

theorem results_eq (fn : Func) (tmps : Array Value) :
    results fn tmps = (do let l ← fn.results.toList.mapM (resSem tmps); pure (if h : l.toArray.size = 1 then l.toArray[0] else .tuple l.toArray)) := by
  have e : (fn.results.mapM (resSem tmps) : Sem (Array Value)) = (do let l ← fn.results.toList.mapM (resSem tmps); pure l.toArray) := by
    rw [Array.mapM_eq_mapM_toList]
    rfl
  have e2 : results fn tmps = (do let vs ← fn.results.mapM (resSem tmps); pure (if h : vs.size = 1 then vs[0] else .tuple vs)) := by
    unfold results
    congr 1
  rw [e2, e]
  simp only [bind_assoc, pure_bind]

theorem results_run1 {fn : Func} {tmps : Array Value} {w : World} {x : ResultVar} {v : Value} (h : fn.results.toList = [x]) (hr : (resSem tmps x).run P w = .ok v w) :
    (results fn tmps).run P w = .ok v w := by
  rw [results_eq, h]
  simp [List.mapM_cons, hr]

theorem results_runL {fn : Func} {tmps : Array Value} {w : World} {vs : List Value} (h : (fn.results.toList.mapM (resSem tmps)).run P w = .ok vs w) (hn : vs.length ≠ 1) :
    (results fn tmps).run P w = .ok (.tuple vs.toArray) w := by
  rw [results_eq, Sem.run_bind, h]
  simp only [Result.andThen_ok, Sem.run_pure, List.size_toArray]
  rw [dif_neg hn]

theorem resOne_spec {ρ : Rho} {s : S} {tmps : Array Value} {w : World} {x : ResultVar} {L : T → Prop} (h : resOne P s L x) (hs : SlotsOk ρ s.H.length s.sl tmps) (hk : HOk ρ s.H w) :
    ∃ t, L t ∧ Good s.H.length t ∧ (resSem tmps x).run P w = .ok (val ρ t) w := by
  cases x with
  | tmp t =>
    simp only [resOne] at h
    split at h
    · rename_i hn
      obtain ⟨hv, hg⟩ := (hs.at_ t).good' hn
      exact ⟨_, h, hg, by rw [hv]; rfl⟩
    · exact h.elim
  | cell a t =>
    simp only [resOne] at h
    obtain ⟨u, ad, hL, hg, hv, hr⟩ := loadK_spec h (hs.at_ a) hk
    refine ⟨u, hL, hg, ?_⟩
    simp only [resSem, hv, asAddr, Sem.run_bind, Sem.run_pure, Result.andThen_ok, hr w hk]

theorem resL_spec {ρ : Rho} {s : S} {tmps : Array Value} {w : World} (hs : SlotsOk ρ s.H.length s.sl tmps) (hk : HOk ρ s.H w) : ∀ {l : List ResultVar} {L : T → Prop}, resL P s l L →
    ∃ ts, L ts ∧ Good s.H.length ts ∧ (l.mapM (resSem tmps)).run P w = .ok (ts.cv ρ).vals w ∧ (ts.cv ρ).vals.length = l.length
  | [], L, h => ⟨.nil, h, trivial, rfl, rfl⟩
  | x :: l, L, h => by
    simp only [resL] at h
    obtain ⟨t, h1, hg, hr⟩ := resOne_spec h hs hk
    obtain ⟨ts, h2, hg2, hr2, hl⟩ := resL_spec hs hk h1
    refine ⟨_, h2, ⟨hg, hg2⟩, ?_, by simp [T.cv, hl]⟩
    simp only [List.mapM_cons, Sem.run_bind, hr, Result.andThen_ok, hr2, Sem.run_pure, T.cv]

theorem resT_spec {ρ : Rho} {s : S} {fn : Func} {tmps : Array Value} {w : World} {L : T → Prop} (h : resT P s fn.results.toList L) (hs : SlotsOk ρ s.H.length s.sl tmps) (hk : HOk ρ s.H w) :
    ∃ t, L t ∧ GoodS s.H.length t ∧ (results fn tmps).run P w = .ok (val ρ t) w := by
  unfold resT at h
  split at h
  · rename_i x hx
    obtain ⟨t, h1, hg, hr⟩ := resOne_spec h hs hk
    exact ⟨t, h1, good_S hg, results_run1 hx hr⟩
  · rename_i hne
    obtain ⟨ts, h1, hg, hr, hl⟩ := resL_spec hs hk h
    refine ⟨_, h1, hg, ?_⟩
    have hn : (ts.cv ρ).vals.length ≠ 1 := by
      rw [hl]
      intro h1
      match hq : fn.results.toList, h1 with
      | [x], _ => exact hne x hq
    rw [results_runL hr hn]
    rfl

theorem fn_sound (hC : CfgOk P C) {f : FuncId} {fn : Func} (hf : P.funcs[f]? = some fn) {args : List T} {H : List Reg} {K : R → List Reg → Prop} (h : fnK P C fn args H K) : Spec P f args H K := by
  intro ρ w hk hG hg
  unfold fnK at h
  split at h
  · rename_i c hb hle
    have hle : args.length ≤ fn.ntmps := Nat.le_of_ble_eq_true hle
    refine calls_of_wp hf hb (code_sound (c := ⟨ρ, H, w⟩) ⟨hC, hG⟩ C.left c _ _ _ w _ h ⟨rfl, ρ, WRel.refl hk, ?_⟩ ?_)
    · refine slFill_ok (slNew_ok (by simp; omega)) (fun i hi => ?_)
      have e : ((args.map (val ρ)).toArray ++ Array.replicate (fn.ntmps - (args.map (val ρ)).toArray.size) undef).getD (0 + i) undef = val ρ args[i] := by
        simp [Array.getElem?_append, hi]
      rw [e]
      exact SlOk.of_good (hg _ (List.getElem_mem hi))
    · intro x s e a w' hK hx
      obtain ⟨hd, ρ', hw, hs, he⟩ := hx
      cases x with
      | normal =>
        subst he
        obtain ⟨t, h1, hgt, hr⟩ := resT_spec hK hs hw.hok
        exact ⟨hd, _, hr, .ret t, ρ', s.H, h1, hw, rfl, hgt⟩
      | ret =>
        subst he
        obtain ⟨t, h1, hgt, hr⟩ := resT_spec hK hs hw.hok
        exact ⟨hd, _, hr, .ret t, ρ', s.H, h1, hw, rfl, hgt⟩
      | pan v =>
        obtain ⟨rfl, hgv⟩ := he
        exact ⟨hd, .pan v, ρ', s.H, hK, hw, rfl, hgv⟩
      | exit i => exact hK.elim
  · exact h.elim

/-- Has the function a body? -/
def bodyOk (P : Program) (f : FuncId) : Bool :=
  match P.funcs[f]? with
  | some fn => !(fn.name == "runtime.NumGoroutine") && fn.body.isSome
  | none => false

theorem call_of_spec {f : FuncId} (hb : bodyOk P f = true) {args : List T} {H : List Reg} {K : R → List Reg → Prop} (h : Spec P f args H K) : CallOk P f args H K := by
  refine .inl ⟨fun xs w => ?_, h⟩
  unfold bodyOk at hb
  split at hb
  · rename_i fn hf
    simp only [Bool.and_eq_true, Bool.not_eq_true'] at hb
    have h2 : fn.body.isNone = false := by cases h : fn.body <;> simp_all
    simp only [callFunc, Sem.run_bind, run_program, Result.andThen_ok, hf, hb.1, h2, Bool.false_eq_true, if_false, Sem.run_pure]
  · cases hb

/-! ## The end of a walk, told -/
theorem le_top {σ : List Src} : ∀ {t : T}, ¬ le σ t .top
  | .ite b x y => fun h => by
    simp only [le] at h
    cases b with
    | true => exact le_top (h.1 rfl)
    | false => exact le_top (h.2 rfl)
  | .arr .. => fun h => by rw [le.eq_def] at h; exact h
  | .top | .int .. | .bool _ | .tt | .ff | .str _ | .nilp | .nils | .nilf | .nili | .nil | .raw _ | .ptr .. | .slice .. | .fn .. | .iface .. | .cons .. | .tup _ => fun h => by simp [le] at h

theorem le_val {σ : List Src} {ρ : Rho} {n : Nat} {t t' : T} (h : le σ t t') (hg : GoodS n t) : val (rhoOf σ ρ) t' = val ρ t ∧ GoodS σ.length t' := by
  have h1 := leS_slot (ρ := ρ) (n := n) (v := val ρ t) h (by cases t <;> first | exact ⟨rfl, hg⟩ | exact trivial)
  cases t' <;> first | exact h1 | exact absurd h le_top

theorem fin_spec {c : Ctx} {ρ : Rho} {H H' : List Reg} {w : World} {r r' : R} {e : Ending} (h : fin c.H.length r H r' H') (hw : WRel c ρ H w) (hr : RetOk ρ H.length r e) :
    ∃ ρ', WRel c ρ' H' w ∧ RetOk ρ' H'.length r' e := by
  unfold fin at h
  split at h
  · rename_i v v'
    obtain ⟨h1, _, h3⟩ := leS_rel h.2 hw
    obtain ⟨rfl, hg⟩ := hr
    obtain ⟨h4, h5⟩ := le_val (ρ := ρ) h.1 hg
    have h3 : _ = H'.length := h3
    exact ⟨_, h1, by rw [← h4], by rw [← h3]; exact h5⟩
  · rename_i v v'
    obtain ⟨h1, _, h3⟩ := leS_rel h.2 hw
    obtain ⟨rfl, hg⟩ := hr
    obtain ⟨h4, h5⟩ := le_val (ρ := ρ) h.1 (good_S hg)
    obtain ⟨g1, _⟩ := le_spec (ρ := ρ) h.1 hg
    have h3 : _ = H'.length := h3
    exact ⟨_, h1, by rw [← h4], by rw [← h3]; exact g1⟩
  · exact h.elim

/-- What is known at the end gives what is told. -/
theorem Spec.fin {f : FuncId} {args : List T} {H : List Reg} {K K' : R → List Reg → Prop} (h : Spec P f args H K) (hk : ∀ r H1, K r H1 → ∃ r' H', fin H.length r H1 r' H' ∧ K' r' H') : Spec P f args H K' :=
  fun ρ w hw hG hg => (h ρ w hw hG hg).mono fun e w' ⟨r, ρ', H1, k, hw', hr⟩ => by
    obtain ⟨r', H', hf, k'⟩ := hk r H1 k
    obtain ⟨ρ2, h1, h2⟩ := fin_spec (c := ⟨ρ, H, w⟩) hf hw' hr
    exact ⟨r', ρ2, H', k', h1, h2⟩

/-! ## A table of what is told -/
abbrev Tab := List (FuncId × Sp)
def look : Tab → FuncId → Option Sp
  | [], _ => none
  | (f, sp) :: l, n => match Nat.beq f n with
    | true => some sp
    | false => look l n

def SpOk (P : Program) (f : FuncId) (sp : Sp) : Prop := ∀ args H K, (sp args H).wp false H K → CallOk P f args H K

theorem cfg_nil {C : Cfg} (h : C.Γ = look []) : CfgOk P C := fun f sp hs => by rw [h] at hs; cases hs
def TabOk (P : Program) (l : Tab) : Prop := ∀ f sp, look l f = some sp → SpOk P f sp
theorem tab_nil : TabOk P [] := fun f sp hs => by cases hs
theorem tab_cons {f : FuncId} {sp : Sp} {l : Tab} (h : SpOk P f sp) (hl : TabOk P l) : TabOk P ((f, sp) :: l) := fun n sp' hs => by
  simp only [look] at hs
  split at hs
  · rename_i hb
    have hb := beq_nat hb
    simp only [Option.some.injEq] at hs
    subst hb hs
    exact h
  · exact hl n sp' hs
theorem cfg_tab {C : Cfg} {l : Tab} (h : C.Γ = look l) (hl : TabOk P l) : CfgOk P C := fun f sp hs => hl f sp (by rw [← h]; exact hs)

end
end Go.Sx
