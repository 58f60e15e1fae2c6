import Derived.Test.YtjofnajamlmllaaDoorSxRow
import Derived.LaidMore
import Derived.LaidHandle
import Derived.MakeChecks
import Derived.Stop.Joined
import Derived.Lib.LaidTab
import Derived.Shelf.Vars
namespace Go
variable {H : Type} {enc : TypeId × Value → H}

/-- A row that lists package variables: the call's contract may use what they hold, and the world's shape. -/
theorem returnsInHanded_of_change_laid {a : Assume} {C : Checked} {os : Os} {f : FuncId} {fn : Func} {s : ChangeSpec} {conds : List PathCond} {apart fresh handsOn again : Bool} {laid : List (String × DataW Unit)}
    (own : ownKnob C.prog.godebug = none) (started : os.Started) (noInit : C.prog.inits.idxOf? f = none) (hfn : C.prog.funcs[f]? = some fn)
    (witness : ∃ (w : World) (tape : Tape) (i : Input), w.os = os ∧ (w.forCall tape i).Shaped C.prog ∧ i.vars = [] ∧ Input.okWide C.prog (w.forCall tape i) .any w.heap.size f i ∧
      ((s.pre enc C.prog fn conds apart (w.forCall tape i).memory i.args ∧ laidMetH C.prog laid (w.forCall tape i).memory) ∧ sizedMet enc C.prog fn (OpenSpec.ofChange s) apart (w.forCall tape i).memory i.args) ∧ a.holds C.prog (lone (Frame.enter C.prog f i.args .normal) [] (w.forCall tape i)))
    (contract : ∀ (W : World) (base : Nat) (args : Array Value) (ds gs : List (DataW H)) (before : List MemPlace),
      (∀ (j : Nat) t v, fn.params[j]? = some t → args[j]? = some v → Value.okWide C.prog W .any base t v) →
      DataW.Whole enc C.prog fn.params.toList s.vars apart W args.toList ds gs before →
      laidMetH C.prog laid W → W.ShapedOpen C.prog →
      Calls C.prog f args W fun e W' => ∃ v, e = .returned v ∧ s.post enc C.prog fn apart fresh handsOn again W args v W') :
    ReturnsInHanded a C os f .any (fun w args => (s.pre enc C.prog fn conds apart w args ∧ laidMetH C.prog laid w) ∧ sizedMet enc C.prog fn (OpenSpec.ofChange s) apart w args) (s.post enc C.prog fn apart fresh handsOn again) := by
  refine returnsInHanded_of_calls own started noInit witness ?_
  intro w tape i _ hsh _ hok hpre _
  obtain ⟨_, _, _, fn', hfn', _, _, _, _, hval⟩ := hok
  have e : fn' = fn := Option.some.inj (hfn'.symm.trans hfn)
  subst e
  obtain ⟨⟨⟨ds, gs, before, hw, _⟩, hl⟩, _⟩ := hpre
  have hw' := DataW.Whole.of_heap (w' := w.forCall tape i) (by rfl) hw
  refine (contract (w.forCall tape i) w.heap.size i.args ds gs before hval hw' (laidMetH.of_heap (by rfl) hl) hsh).mono fun e W' ⟨v, he, hp⟩ => ?_
  subst he
  exact ChangeSpec.post_blind hp
end Go

namespace Go.Sx
def cellsD : DataW Unit → Array Value
  | .agg l => (l.map fun x => match x with
    | .lit (.int k n) => Value.int k n
    | _ => undef).toArray
  | _ => #[]
/-- The start in which the listed variables hold what they are told to: what the program lays itself, and one pinned table. -/
noncomputable def laidStart (P : Program) (g : Nat) (d : DataW Unit) (os : Os) : World :=
  let w := World.doorLaid P 400 os
  { w with heap := w.heap.modify g fun o => match o with
      | .cells _ t fr => .cells (cellsD d) t fr
      | o => o }
theorem laid_rest {P : Program} {x : String × DataW Unit} {r : List (String × DataW Unit)} {w : World} (h : laidMet P (x :: r) w) : laidMet P r w := by
  obtain ⟨ps, hv, hnd, hrows⟩ := h
  obtain ⟨n, d⟩ := x
  obtain ⟨g, t, cs, fuel, p, q, _, _, _, _, hq, rfl⟩ := hv
  exact ⟨q, hq, List.Nodup.sublist (List.sublist_append_right _ _) hnd, fun b off hm => hrows b off (List.mem_append_right _ hm)⟩
theorem isRow_of_var {P : Program} {w : World} {name : String} {g : Nat} {cs : Array Value} (hn : P.globalNamed name = some g) (h : w.var? P name = some cs) : ∃ o, w.heap[g]? = some o ∧ isRow cs o := by
  unfold World.var? at h
  rw [hn, Option.bind_some] at h
  split at h
  · rename_i c t fr e
    simp only [Option.some.injEq] at h
    subst h
    exact ⟨_, e, t, fr, rfl⟩
  · cases h
theorem isInt_of_cell {w : World} {g : Nat} (h : ∃ m, w.cell? ⟨g, 0, none⟩ = some (.int .i64 m)) : ∃ o, w.heap[g]? = some o ∧ isInt o := by
  obtain ⟨m, hm⟩ := h
  unfold World.cell? at hm
  split at hm
  · rename_i c t fr e
    exact ⟨_, e, m, c, t, fr, rfl, by simpa using hm⟩
  · cases hm
end Go.Sx
