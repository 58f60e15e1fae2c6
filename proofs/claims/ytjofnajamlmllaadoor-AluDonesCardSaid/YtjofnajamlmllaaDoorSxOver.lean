import Derived.Test.YtjofnajamlmllaaDoorSxSpec
import Derived.Lib.Overlaps
namespace Go.Sx

/-! ## slices.overlaps, of rows in two regions -/
def ovSp : Sp := fun args H => match args with
  | [.slice r i _ _ _ _ _, .slice r' i' _ _ _ _ _] => match Nat.beq r r', i, i' with
    | false, 0, 0 => match getReg H r, getReg H r' with
      | some g, some g' => match g.pl && g.own && g'.pl && g'.own with
        | true => .need (0 < g'.tot 0) (.retq .ff)
        | false => .fail
      | _, _ => .fail
    | _, _, _ => .fail
  | _ => .fail

theorem ov_ok {P : Program} {f : FuncId} {t tR e : TypeId} {sz : Nat} (hext : ∀ (args : Array Value) (w : World), (callFunc f args).run P w = ((Extern.SlicesOverlaps.overlaps #[t, t] #[tR] args).run P w).andThen fun v w' => .ok (.value v) w')
    (ht : P.underlying t = some (.slice e)) (hz : ∀ w, (sizeOf e).run P w = .ok sz w) : SpOk P f ovSp := by
  intro args H K h
  unfold ovSp at h
  split at h
  · rename_i r i p lo sz1 la ca r' i' p' lo' sz1' lb cb
    split at h
    · rename_i hb
      split at h
      · rename_i g g' hg hg'
        split at h
        · rename_i hfl
          simp only [Bool.and_eq_true] at hfl
          obtain ⟨⟨⟨hp, ho⟩, hp'⟩, ho'⟩ := hfl
          obtain ⟨htot, hK⟩ := h
          have hne : r ≠ r' := Nat.ne_of_beq_eq_false hb
          refine .inr ⟨.ff, hK, trivial, fun ρ w hk _ => ?_⟩
          obtain ⟨h0, arr, ha, _⟩ := hk.own r g 0 hg (by simp [Reg.has, hp]) ho
          obtain ⟨h0', arr', ha', ht'⟩ := hk.own r' g' 0 hg' (by simp [Reg.has, hp']) ho'
          have hbb : (ρ r 0).1 ≠ (ρ r' 0).1 := fun e => hne (hk.apart r g 0 r' g' 0 hg (by simp [Reg.has, hp]) ho hg' (by simp [Reg.has, hp']) e).1
          rw [hext]
          have := Lib.run_overlaps_apart (P := P) w t tR e ht sz hz (pla ρ r 0 (off p + lo * sz1)) (pla ρ r' 0 (off p' + lo' * sz1')) la ca lb cb hbb g.el g'.el arr.size arr'.size
            (by simp only [pla, World.shape?, ha]) (by simp only [pla, World.shape?, ha']) (by omega)
            (by simp [World.frozen?, pla, ha]) (by simp [World.frozen?, pla, ha])
          simp only [List.map_cons, List.map_nil, Sx.val, T.cv, sc]
          rw [this]
          rfl
        · exact h.elim
      · exact h.elim
    · exact h.elim
  · exact h.elim
end Go.Sx
