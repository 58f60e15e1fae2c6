import Derived.Test.YtjofnajamlmllaaDoorSxApp2
import Derived.Deep.Quiet
import Derived.Deep.LoopGhost
import Derived.Scope
namespace Go.Sx

/-- How a call ends. -/
def RetOk (ρ : Rho) (n : Nat) (r : R) (e : Ending) : Prop :=
  match r with
  | .ret v => e = .returned (val ρ v) ∧ GoodS n v
  | .pan v => e = .panicked [{ v := val ρ v, recovered := false }] ∧ Good n v

/-- What is told of a function: whatever the world, the call ends as K says. -/
def Spec (P : Program) (f : FuncId) (args : List T) (H : List Reg) (K : R → List Reg → Prop) : Prop :=
  ∀ (ρ : Rho) (w : World), HOk ρ H w → GOk ρ H w → (∀ t ∈ args, Good H.length t) →
    Calls P f (args.map (val ρ)).toArray w fun e w' => ∃ r ρ' H', K r H' ∧ WRel ⟨ρ, H, w⟩ ρ' H' w' ∧ RetOk ρ' H'.length r e

/-- The same, of a function with a body or one without. -/
def CallOk (P : Program) (f : FuncId) (args : List T) (H : List Reg) (K : R → List Reg → Prop) : Prop :=
  ((∀ (xs : Array Value) (w : World), (callFunc f xs).run P w = .ok (.enter f xs) w) ∧ Spec P f args H K) ∨
  (∃ v, K (.ret v) H ∧ GoodS H.length v ∧ ∀ (ρ : Rho) (w : World), HOk ρ H w → (∀ t ∈ args, Good H.length t) → (callFunc f (args.map (val ρ)).toArray).run P w = .ok (.value (val ρ v)) w)

def CfgOk (P : Program) (C : Cfg) : Prop := ∀ f sp, C.Γ f = some sp → ∀ args H K, (sp args H).wp false H K → CallOk P f args H K

/-- The same, in a walk that began where the package variables were as they are told. -/
def CfgAt (P : Program) (C : Cfg) (c : Ctx) : Prop := CfgOk P C ∧ GOk c.ρ c.H c.w

theorem Spec.mono {P : Program} {f : FuncId} {args : List T} {H : List Reg} {K K' : R → List Reg → Prop} (h : ∀ r H', K r H' → K' r H') (q : Spec P f args H K) : Spec P f args H K' :=
  fun ρ w hk hG hg => (q ρ w hk hG hg).mono fun _ _ ⟨r, ρ', H', k, rest⟩ => ⟨r, ρ', H', h _ _ k, rest⟩

theorem wp_quiet {H : List Reg} {K : R → List Reg → Prop} : ∀ {o : Out}, o.wp true H K → ∃ v, K (.ret v) H ∧ o.wp false H (fun r H' => r = .ret v ∧ H' = H)
  | .fail, h => h.elim
  | .need p o, h => by
    obtain ⟨v, k, q⟩ := wp_quiet h.2
    exact ⟨v, k, h.1, q⟩
  | .retq v, h => ⟨v, h, rfl, rfl⟩
  | .br .., h | .ret .., h | .pan .., h | .any .., h => h.elim

theorem wp_false_of_true {H : List Reg} {K : R → List Reg → Prop} : ∀ {o : Out}, o.wp true H K → o.wp false H K
  | .fail, h => h
  | .need _ _, h => ⟨h.1, wp_false_of_true h.2⟩
  | .retq _, h => h
  | .br .., h | .ret .., h | .pan .., h | .any .., h => h.elim

section
variable {P : Program} {C : Cfg} {c : Ctx} {ρ : Rho} {s : S} {a : Act} {o : Oper} {K : R → List Reg → Prop}

/-- What an operation comes to, whichever it is. -/
def OpEnd (P : Program) (c : Ctx) (ρ : Rho) (s : S) (a : Act) (o : Oper) (K : R → List Reg → Prop) (w : World) : Prop :=
  ∀ (next : Act → World → Prop) (Q : Exit → Act → World → Prop),
    (∀ v H ρ' w' u, K (.ret v) H → WRel c ρ' H w' → (∀ r, r < s.H.length → ρ' r = ρ r) → s.H.length ≤ H.length → SlOk ρ' H.length v u → next (a.put o.dst u) w') →
    (∀ v H ρ' w', K (.pan v) H → WRel c ρ' H w' → (∀ r, r < s.H.length → ρ' r = ρ r) → s.H.length ≤ H.length → Good H.length v → Q (.panic [{ v := val ρ' v, recovered := false }]) a w') →
    o.wp P a w next Q

theorem PureStep.end {w : World} (h : PureStep P c ρ s a o K) (hw : WRel c ρ s.H w) : OpEnd P c ρ s a o K w := by
  intro next Q hn _
  obtain ⟨v, u, hk, hs, hr⟩ := h
  unfold Oper.wp
  rw [hr w hw]
  exact hn v s.H ρ w u hk hw (fun _ _ => rfl) (Nat.le_refl _) hs

theorem EffStep.end {w : World} (h : EffStep P c ρ s a o K w) : OpEnd P c ρ s a o K w := by
  intro next Q hn _
  obtain ⟨v, H, ρ', w', n, hk, hr, ⟨u, hu, hs⟩, hw, hag, hl⟩ := h
  unfold Oper.wp
  rw [hr]
  rcases hu with rfl | ⟨rfl, rfl⟩
  · exact hn v H ρ' w' u hk hw hag hl hs
  · exact hn v H ρ' w' undef hk hw hag hl hs

/-- The call itself, its function known. -/
theorem call_end (hC : CfgAt P C c) {q : Bool} {f : FuncId} {args : List T} {w : World} (hw : WRel c ρ s.H w) (h : callK q C.Γ f args s.H K) (hg : ∀ t ∈ args, Good s.H.length t)
    (hrun : (execOp a.eval o).run P w = (callFunc f (args.map (val ρ)).toArray).run P w) : OpEnd P c ρ s a o K w := by
  intro next Q hn hp
  unfold callK at h
  split at h
  · split at h
    · rename_i sp hsp
      have h' : (sp args s.H).wp false s.H K := by
        cases q with
        | true => exact wp_false_of_true h
        | false => exact h
      unfold Oper.wp
      rw [hrun]
      rcases hC.1 f sp hsp args s.H K h' with ⟨he, hS⟩ | ⟨v, hk, hgv, hr⟩
      · rw [he]
        refine (hS ρ w hw.hok (hw.gok hC.2) hg).mono ?_
        rintro e w' ⟨r, ρ', H', hk, hw', hre⟩
        have hw2 := hw.trans hw'
        have hl : s.H.length ≤ H'.length := hw'.len
        cases r with
        | ret v =>
          obtain ⟨rfl, hg'⟩ := hre
          refine hn v H' ρ' w' _ hk hw2 hw'.agree hl ?_
          cases v <;> first | exact ⟨rfl, hg'⟩ | exact trivial
        | pan v =>
          obtain ⟨rfl, hg'⟩ := hre
          exact hp v H' ρ' w' hk hw2 hw'.agree hl hg'
      · rw [hr ρ w hw.hok hg]
        exact hn v s.H ρ w _ hk hw (fun _ _ => rfl) (Nat.le_refl _) (by cases v <;> first | exact ⟨rfl, hgv⟩ | exact trivial)
    · exact h.elim
  · exact h.elim

theorem capsL_good {n : Nat} : ∀ {t : T}, Good n t → ∀ u ∈ capsL t, Good n u := by
  intro t
  induction t with
  | cons h t _ ih =>
    intro g u hu
    simp only [capsL, List.mem_cons] at hu
    rcases hu with rfl | hu
    · exact g.1
    · exact ih g.2 u hu
  | _ => intro _ u hu; simp [capsL] at hu

theorem capsL_vals : ∀ {t : T}, isL t = true → (t.cv ρ).vals = (capsL t).map (val ρ) := by
  intro t
  induction t with
  | nil => intro _; rfl
  | cons h t _ ih => intro e; simp only [isL] at e; simp only [T.cv, capsL, List.map_cons, ih e]
  | _ => intro e; simp [isL] at e

theorem methOf_run {t : TypeId} {name : String} {f : FuncId} (h : methOf P t name = some f) (v : Value) (w : World) : (method (P.types.size + Made.depth) t v name).run P w = .ok (f, v) w := by
  unfold methOf at h
  split at h
  · rename_i i hi
    split at h
    · rename_i m hm
      have hd : P.types.size + Made.depth = (P.types.size + 99) + 1 := rfl
      rw [hd, method]
      split at h
      · rename_i f' e hp hf hu
        simp only [Option.some.injEq] at h
        subst h
        simp only [Sem.run_bind, run_typeInfo w hi, Result.andThen_ok, hm, hp, follow, Sem.run_pure, hf, receiverAt, run_underlying hu, Place.get]
      · cases h
      · rename_i f' d hne hp hf hu
        simp only [Option.some.injEq] at h
        subst h
        simp only [Sem.run_bind, run_typeInfo w hi, Result.andThen_ok, hm, hp, follow, Sem.run_pure, hf, receiverAt, run_underlying hu]
        cases d <;> first | rfl | exact absurd rfl (hne _ _)
      · cases h
    · cases h
  · cases h

theorem op_call_run (hs : SlotsOk ρ s.H.length s.sl a.tmps) {cl : Call} {f : Operand} (ho : o.op = .call cl) (hf : cl.callee = .value f) {q : Bool} (h : opK P C q s K o) :
    ∃ fid args, callK q C.Γ fid args s.H K ∧ (∀ t ∈ args, Good s.H.length t) ∧ ∀ w, (execOp a.eval o).run P w = (callFunc fid (args.map (val ρ)).toArray).run P w := by
  obtain ⟨callee, args, ats⟩ := cl
  simp only at hf
  subst hf
  simp only [opK, ho] at h
  obtain ⟨tf, h1, hx⟩ := force_spec h (read_ok hs f)
  clear h
  split at h1
  · rename_i fid caps
    split at h1
    · rename_i hb
      simp only [Bool.and_eq_true] at hb
      obtain ⟨g1, e1⟩ := argsT_ok hs hb.2
      obtain ⟨hv, hg⟩ := hx
      have hg : Good s.H.length caps := hg
      refine ⟨fid, _, h1, fun t ht => ?_, fun w => ?_⟩
      · rcases List.mem_append.1 ht with ht | ht
        · exact g1 t ht
        · exact capsL_good hg t ht
      · have ecv := capsL_vals (ρ := ρ) hb.1
        have eargs : args.map a.eval ++ (List.map (val ρ) (capsL caps)).toArray = ((argsT s args ++ capsL caps).map (val ρ)).toArray := by
          rw [List.map_append, ← e1]
          simp
        simp only [execOp, ho, resolve, ← hv, Sx.val, T.cv, sc, Deferred.ofValue, invoke, Sem.run_bind, Sem.run_pure, Result.andThen_ok, ecv, Array.empty_append]
        rw [eargs]
    · exact h1.elim
  · exact h1.elim

theorem op_invoke_run (hs : SlotsOk ρ s.H.length s.sl a.tmps) {cl : Call} {x : Operand} {name : String} (ho : o.op = .call cl) (hf : cl.callee = .invoke x name) {q : Bool} (h : opK P C q s K o) :
    ∃ fid args, callK q C.Γ fid args s.H K ∧ (∀ t ∈ args, Good s.H.length t) ∧ ∀ w, (execOp a.eval o).run P w = (callFunc fid (args.map (val ρ)).toArray).run P w := by
  obtain ⟨callee, args, ats⟩ := cl
  simp only at hf
  subst hf
  simp only [opK, ho] at h
  obtain ⟨tf, h1, hx⟩ := force_spec h (read_ok hs x)
  clear h
  split at h1
  · rename_i ty v
    split at h1
    · rename_i f hm hn
      obtain ⟨g1, e1⟩ := argsT_ok hs hn
      obtain ⟨hv, hg⟩ := hx
      have hg : Good s.H.length v := hg
      refine ⟨f, _, h1, fun t ht => ?_, fun w => ?_⟩
      · rcases List.mem_cons.1 ht with rfl | ht
        · exact hg
        · exact g1 t ht
      · have eargs : #[val ρ v] ++ args.map a.eval = ((v :: argsT s args).map (val ρ)).toArray := by
          rw [List.map_cons, ← e1]
          simp
        have h0 : (#[a.eval x] ++ args.map a.eval)[0]? = some (a.eval x) := by rw [Array.getElem?_append_left (by simp)]; rfl
        have h2 : (#[a.eval x] ++ args.map a.eval).extract 1 (#[a.eval x] ++ args.map a.eval).size = args.map a.eval := by
          apply Array.ext'
          simp
          exact List.take_of_length_le (by simp)
        simp only [execOp, ho, resolve, invoke, Sem.run_bind, Sem.run_pure, Result.andThen_ok, h0, h2]
        rw [← hv]
        simp only [Sx.val, T.cv, sc, callMethod, Sem.run_bind, run_program, Result.andThen_ok, methOf_run hm]
        simp only [Sx.val] at eargs
        rw [eargs]
    · exact h1.elim
  · exact h1.elim

theorem op_call (hC : CfgAt P C c) {q : Bool} (hs : SlotsOk ρ s.H.length s.sl a.tmps) {w : World} (hw : WRel c ρ s.H w) {cl : Call} {f : Operand} (ho : o.op = .call cl) (hf : cl.callee = .value f) (h : opK P C q s K o) :
    OpEnd P c ρ s a o K w := by
  obtain ⟨fid, args, h1, h2, h3⟩ := op_call_run hs ho hf h
  exact call_end hC hw h1 h2 (h3 w)

theorem op_invoke (hC : CfgAt P C c) {q : Bool} (hs : SlotsOk ρ s.H.length s.sl a.tmps) {w : World} (hw : WRel c ρ s.H w) {cl : Call} {x : Operand} {name : String} (ho : o.op = .call cl) (hf : cl.callee = .invoke x name) (h : opK P C q s K o) :
    OpEnd P c ρ s a o K w := by
  obtain ⟨fid, args, h1, h2, h3⟩ := op_invoke_run hs ho hf h
  exact call_end hC hw h1 h2 (h3 w)

/-- EVERY OPERATION. -/
theorem op_end (hC : CfgAt P C c) {q : Bool} (hs : SlotsOk ρ s.H.length s.sl a.tmps) {w : World} (hw : WRel c ρ s.H w) (h : opK P C q s K o) : OpEnd P c ρ s a o K w := by
  cases ho : o.op with
  | move x => exact (op_move hs (.inl ho) h).end hw
  | assign x => exact (op_move hs (.inr ho) h).end hw
  | pick x y z => exact (op_pick hs ho h).end hw
  | alloc t => exact (op_alloc hw ho h).2.end
  | box t x => exact (op_box hs hw ho h).2.end
  | build t ps => exact (op_build hs ho h).end hw
  | buildSlice t n ps => exact (op_buildSlice hs hw ho h).2.end
  | load t x => exact (op_load hs hw.hok ho h).end hw
  | store t x y => exact (op_store hs hw ho h).2.end
  | nilCheck x => exact (op_nilCheck hs ho h).end hw
  | binOp op t x y t' => exact (op_bin hs ho h).end hw
  | unOp op t x => exact (op_un hs ho h).end hw
  | convert t t' x => exact (op_conv hs ho h).end hw
  | makeInterface t x => exact (op_iface hs ho h).end hw
  | makeFunc f x y => exact (op_makeFunc hs ho h).end hw
  | makeSlice t x y => exact (op_makeSlice hs hw ho h).2.end
  | slice t x l hi m => exact (op_slice hs ho h).end hw
  | fieldAddr t x k => exact (op_fieldAddr hs ho h).end hw
  | field t x k => exact (op_field hs ho h).end hw
  | indexAddr t x y => exact (op_indexAddr hs ho h).end hw
  | index t x y => exact (op_index hs ho h).end hw
  | extract x k => exact (op_extract hs ho h).end hw
  | call cl =>
    cases hc : cl.callee with
    | builtin b =>
      by_cases hb : b = .append
      · subst hb
        exact (op_append hs hw ho hc h).2.end
      · by_cases hb2 : b = .copy
        · subst hb2
          exact (op_copy hs hw ho hc h).2.end
        · by_cases hb3 : b = .clear
          · subst hb3
            exact (op_clear hs hw ho hc h).2.end
          · exact (op_builtin hs ho hc hb hb2 hb3 h).end hw
    | value f => exact op_call hC hs hw ho hc h
    | invoke x n => exact op_invoke hC hs hw ho hc h
  | _ => simp only [opK, ho] at h

/-- In a region that draws its order: the operation leaves the world in its class. -/
def QuietEnd (P : Program) (c : Ctx) (ρ : Rho) (s : S) (a : Act) (o : Oper) (K : R → List Reg → Prop) : Prop :=
  ∃ v u, K (.ret v) s.H ∧ SlOk ρ s.H.length v u ∧ ∀ w, WRel c ρ s.H w → o.quietAt P a (fun w => WRel c ρ s.H w) w u

theorem PureStep.quiet (h : PureStep P c ρ s a o K) : QuietEnd P c ρ s a o K := by
  obtain ⟨v, u, hk, hs, hr⟩ := h
  refine ⟨v, u, hk, hs, fun w hw => ?_⟩
  unfold Oper.quietAt
  rw [hr w hw]
  exact ⟨rfl, rfl⟩

theorem call_quiet (hC : CfgAt P C c) {w0 : World} (hw0 : WRel c ρ s.H w0) {f : FuncId} {args : List T} (h : callK true C.Γ f args s.H K) (hg : ∀ t ∈ args, Good s.H.length t)
    (hrun : ∀ w, (execOp a.eval o).run P w = (callFunc f (args.map (val ρ)).toArray).run P w) : QuietEnd P c ρ s a o K := by
  unfold callK at h
  split at h
  · split at h
    · rename_i sp hsp
      obtain ⟨v, hk, hw1⟩ := wp_quiet h
      rcases hC.1 f sp hsp args s.H _ hw1 with ⟨he, hS⟩ | ⟨v', hk', hgv, hr⟩
      · have hgs : GoodS s.H.length v := by
          obtain ⟨e, w', fr, ⟨r, ρ', H', ⟨rfl, rfl⟩, _, hre⟩, _⟩ := hS ρ w0 hw0.hok (hw0.gok hC.2) hg []
          exact hre.2
        refine ⟨v, val ρ v, hk, ?_, fun w hw => ?_⟩
        · cases v <;> first | exact ⟨rfl, hgs⟩ | exact trivial
        · unfold Oper.quietAt
          rw [hrun w, he]
          refine ⟨rfl, (hS ρ w hw.hok (hw.gok hC.2) hg).mono ?_⟩
          rintro e w' ⟨r, ρ', H', ⟨rfl, rfl⟩, hw', hre⟩
          have hag : ∀ r, r < s.H.length → ρ' r = ρ r := hw'.agree
          refine ⟨?_, (hw.trans hw').agree' fun r hr => (hag r hr).symm⟩
          rw [hre.1, cvS_agree hag hre.2]
      · obtain ⟨e1, _⟩ := hk'
        simp only [R.ret.injEq] at e1
        subst e1
        refine ⟨v', val ρ v', hk, ?_, fun w hw => ?_⟩
        · cases v' <;> first | exact ⟨rfl, hgv⟩ | exact trivial
        · unfold Oper.quietAt
          rw [hrun w, hr ρ w hw.hok hg]
          exact ⟨rfl, rfl⟩
    · exact h.elim
  · exact h.elim

theorem op_quiet (hC : CfgAt P C c) (hs : SlotsOk ρ s.H.length s.sl a.tmps) {w0 : World} (hw : WRel c ρ s.H w0) (h : opK P C true s K o) : QuietEnd P c ρ s a o K := by
  cases ho : o.op with
  | move x => exact (op_move hs (.inl ho) h).quiet
  | assign x => exact (op_move hs (.inr ho) h).quiet
  | pick x y z => exact (op_pick hs ho h).quiet
  | alloc t => have := (op_alloc (a := a) hw ho h).1; cases this
  | box t x => have := (op_box hs hw ho h).1; cases this
  | build t ps => exact (op_build hs ho h).quiet
  | buildSlice t n ps => have := (op_buildSlice hs hw ho h).1; cases this
  | load t x => exact (op_load hs hw.hok ho h).quiet
  | store t x y => have := (op_store hs hw ho h).1; cases this
  | nilCheck x => exact (op_nilCheck hs ho h).quiet
  | binOp op t x y t' => exact (op_bin hs ho h).quiet
  | unOp op t x => exact (op_un hs ho h).quiet
  | convert t t' x => exact (op_conv hs ho h).quiet
  | makeInterface t x => exact (op_iface hs ho h).quiet
  | makeFunc f x y => exact (op_makeFunc hs ho h).quiet
  | makeSlice t x y => have := (op_makeSlice hs hw ho h).1; cases this
  | slice t x l hi m => exact (op_slice hs ho h).quiet
  | fieldAddr t x k => exact (op_fieldAddr hs ho h).quiet
  | field t x k => exact (op_field hs ho h).quiet
  | indexAddr t x y => exact (op_indexAddr hs ho h).quiet
  | index t x y => exact (op_index hs ho h).quiet
  | extract x k => exact (op_extract hs ho h).quiet
  | call cl =>
    cases hc : cl.callee with
    | builtin b =>
      by_cases hb : b = .append
      · subst hb
        have := (op_append hs hw ho hc h).1
        cases this
      · by_cases hb2 : b = .copy
        · subst hb2
          have := (op_copy hs hw ho hc h).1
          cases this
        · by_cases hb3 : b = .clear
          · subst hb3
            have := (op_clear hs hw ho hc h).1
            cases this
          · exact (op_builtin hs ho hc hb hb2 hb3 h).quiet
    | value f =>
      obtain ⟨fid, args, h1, h2, h3⟩ := op_call_run hs ho hc h
      exact call_quiet hC hw h1 h2 h3
    | invoke x n =>
      obtain ⟨fid, args, h1, h2, h3⟩ := op_invoke_run hs ho hc h
      exact call_quiet hC hw h1 h2 h3
  | _ => simp only [opK, ho] at h

end
end Go.Sx
