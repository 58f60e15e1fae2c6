import Derived.Test.YtjofnajamlmllaaDoorSxHeap
import Derived.ChangeKeysEq
import Derived.Laws.CopyRow
import Derived.Laws.MakeOwn
import Derived.Laws.StructEq
import Derived.Laws.Strings
import Derived.Laws.Concat
namespace Go.Sx

theorem SlOk.good' {ρ : Rho} {n : Nat} {t : T} {v : Value} (h : SlOk ρ n t v) (h1 : noTop [t] = true) : val ρ t = v ∧ Good n t := by
  cases t <;> first | exact h | (simp [noTop] at h1; done)

theorem storable_good {ρ : Rho} {n : Nat} {t : T} {v : Value} (h : SlOk ρ n t v) (h1 : storable t = true) : val ρ t = v ∧ Good n t := by
  cases t <;> first | exact h | (simp [storable] at h1; done)

theorem read_ok {ρ : Rho} {n : Nat} {s : S} {a : Act} (hs : SlotsOk ρ n s.sl a.tmps) (x : Operand) : SlOk ρ n (s.read x) (a.eval x) := by
  cases x with
  | tmp t => exact hs.at_ t
  | const v =>
    simp only [S.read, Act.eval]
    unfold T.ofV
    split <;> first | exact ⟨rfl, trivial⟩ | exact trivial
  | global g => exact ⟨rfl, trivial⟩
  | func f => exact ⟨rfl, trivial⟩

theorem force_spec {ρ : Rho} {n : Nat} {K : T → Prop} : ∀ {t : T} {v : Value}, force K t → SlOk ρ n t v → ∃ t', K t' ∧ SlOk ρ n t' v
  | .ite b x y, v, h, q => by
    simp only [force] at h
    obtain ⟨q1, q2⟩ := q
    have q2 : x.size = y.size ∧ (b = true → Good n x) ∧ (b = false → Good n y) := q2
    cases b with
    | true => exact force_spec (h.1 rfl) (by rw [← q1]; exact SlOk.of_good (q2.2.1 rfl))
    | false => exact force_spec (h.2 rfl) (by rw [← q1]; exact SlOk.of_good (q2.2.2 rfl))
  | .top, v, h, q | .int .., v, h, q | .bool _, v, h, q | .tt, v, h, q | .ff, v, h, q | .str _, v, h, q | .ptr .., v, h, q | .nilp, v, h, q | .slice .., v, h, q | .nils, v, h, q
  | .fn .., v, h, q | .nilf, v, h, q | .iface .., v, h, q | .nili, v, h, q | .nil, v, h, q | .cons .., v, h, q | .arr .., v, h, q | .tup _, v, h, q | .raw _, v, h, q => ⟨_, h, q⟩

theorem force_good {ρ : Rho} {n : Nat} {m : Cells} {o : Nat} {K : T → Prop} : ∀ {t : T}, force K t → Good n t → Holds ρ m t o → ∃ t', K t' ∧ Good n t' ∧ Holds ρ m t' o ∧ t'.size = t.size ∧ val ρ t' = val ρ t ∧ cells ρ t' = cells ρ t
  | .ite b x y, h, g, q => by
    simp only [force] at h
    cases b with
    | true =>
      obtain ⟨t', k, g', q', s', v', c'⟩ := force_good (h.1 rfl) (g.2.1 rfl) (q.1 rfl)
      exact ⟨t', k, g', q', s', v', c'⟩
    | false =>
      obtain ⟨t', k, g', q', s', v', c'⟩ := force_good (h.2 rfl) (g.2.2 rfl) (q.2 rfl)
      exact ⟨t', k, g', q', by rw [s']; exact g.1.symm, v', c'⟩
  | .top, h, g, q | .int .., h, g, q | .bool _, h, g, q | .tt, h, g, q | .ff, h, g, q | .str _, h, g, q | .ptr .., h, g, q | .nilp, h, g, q | .slice .., h, g, q | .nils, h, g, q
  | .fn .., h, g, q | .nilf, h, g, q | .iface .., h, g, q | .nili, h, g, q | .nil, h, g, q | .cons .., h, g, q | .arr .., h, g, q | .tup _, h, g, q | .raw _, h, g, q => ⟨_, h, g, q, rfl, rfl, rfl⟩

theorem isNs_eq {x y : T} (h : isNs x y = true) : x = .nils ∧ ∃ r i p lo sz n c, y = .slice r i p lo sz n c := by
  unfold isNs at h
  split at h
  · exact ⟨rfl, _, _, _, _, _, _, _, rfl⟩
  · cases h

theorem forceP_spec {ρ : Rho} {n : Nat} {K : T → Prop} : ∀ {t : T} {v : Value}, forceP K t → SlOk ρ n t v → ∃ t', K t' ∧ SlOk ρ n t' v
  | .ite b x y, v, h, q => by
    simp only [forceP] at h
    split at h
    · exact ⟨_, h, q⟩
    · obtain ⟨q1, q2⟩ := q
      have q2 : x.size = y.size ∧ (b = true → Good n x) ∧ (b = false → Good n y) := q2
      cases b with
      | true => exact forceP_spec (h.1 rfl) (by rw [← q1]; exact SlOk.of_good (q2.2.1 rfl))
      | false => exact forceP_spec (h.2 rfl) (by rw [← q1]; exact SlOk.of_good (q2.2.2 rfl))
  | .top, v, h, q | .int .., v, h, q | .bool _, v, h, q | .tt, v, h, q | .ff, v, h, q | .str _, v, h, q | .ptr .., v, h, q | .nilp, v, h, q | .slice .., v, h, q | .nils, v, h, q
  | .fn .., v, h, q | .nilf, v, h, q | .iface .., v, h, q | .nili, v, h, q | .nil, v, h, q | .cons .., v, h, q | .arr .., v, h, q | .tup _, v, h, q | .raw _, v, h, q => ⟨_, h, q⟩

theorem forceN_force {K : T → Prop} (hK : ∀ r i p lo sz c, K (.slice r i p lo sz 0 c) → K .nils) : ∀ {t : T}, forceN K t → force K t
  | .ite b x y, h => by
    unfold forceN at h
    simp only at h
    split at h
    · simp only [force]
      refine ⟨fun e => ?_, fun _ => h.2⟩
      have h0 := h.1 e
      subst h0
      exact hK _ _ _ _ _ _ h.2
    · exact h
  | .top, h | .int .., h | .bool _, h | .tt, h | .ff, h | .str _, h | .ptr .., h | .nilp, h | .slice .., h | .nils, h
  | .fn .., h | .nilf, h | .iface .., h | .nili, h | .nil, h | .cons .., h | .arr .., h | .tup _, h | .raw _, h => h

theorem forceP_any {n : Nat} {Kf : T → Prop} : ∀ {t : T}, forceP Kf t → Good n t → ∃ t', Kf t' ∧ Good n t' ∧ ∀ (ρ : Rho), cells ρ t' = cells ρ t ∧ t'.size = t.size ∧ ∀ (m : Cells) (o : Nat), Holds ρ m t o → Holds ρ m t' o
  | .ite b x y, h, g => by
    simp only [forceP] at h
    split at h
    · exact ⟨_, h, g, fun ρ => ⟨rfl, rfl, fun m o q => q⟩⟩
    · cases b with
      | true =>
        obtain ⟨t', k, g', q'⟩ := forceP_any (h.1 rfl) (g.2.1 rfl)
        exact ⟨t', k, g', fun ρ => ⟨(q' ρ).1, (q' ρ).2.1, fun m o hh => (q' ρ).2.2 m o (hh.1 rfl)⟩⟩
      | false =>
        obtain ⟨t', k, g', q'⟩ := forceP_any (h.2 rfl) (g.2.2 rfl)
        exact ⟨t', k, g', fun ρ => ⟨(q' ρ).1, (q' ρ).2.1.trans g.1.symm, fun m o hh => (q' ρ).2.2 m o (hh.2 rfl)⟩⟩
  | .top, h, g | .int .., h, g | .bool _, h, g | .tt, h, g | .ff, h, g | .str _, h, g | .ptr .., h, g | .nilp, h, g | .slice .., h, g | .nils, h, g
  | .fn .., h, g | .nilf, h, g | .iface .., h, g | .nili, h, g | .nil, h, g | .cons .., h, g | .arr .., h, g | .tup _, h, g | .raw _, h, g => ⟨_, h, g, fun _ => ⟨rfl, rfl, fun _ _ q => q⟩⟩

/-- An operation that leaves the world alone and comes to one value in every world of the relation. -/
def PureStep (P : Program) (c : Ctx) (ρ : Rho) (s : S) (a : Act) (o : Oper) (K : R → List Reg → Prop) : Prop :=
  ∃ v u, K (.ret v) s.H ∧ SlOk ρ s.H.length v u ∧ ∀ w, WRel c ρ s.H w → (execOp a.eval o).run P w = .ok (.value u) w

section
variable {P : Program} {C : Cfg} {q : Bool} {c : Ctx} {ρ : Rho} {s : S} {a : Act} {o : Oper} {K : R → List Reg → Prop}

theorem nameK_spec {b : Bool} {L : T → Prop} {t : T} (h : nameK b L t) : L t := by
  unfold nameK at h
  split at h
  · split at h
    · exact h _ rfl
    · exact h
  · exact h

theorem op_move (hs : SlotsOk ρ s.H.length s.sl a.tmps) {x : Operand} (ho : o.op = .move x ∨ o.op = .assign x) (h : opK P C q s K o) : PureStep P c ρ s a o K := by
  refine ⟨s.read x, a.eval x, ?_, read_ok hs x, fun w _ => ?_⟩
  · rcases ho with ho | ho
    · simpa only [opK, ho] using h
    · simp only [opK, ho] at h
      exact nameK_spec (L := fun t => K (.ret t) s.H) h
  · rcases ho with ho | ho <;> simp only [execOp, ho] <;> rfl

theorem op_pick (hs : SlotsOk ρ s.H.length s.sl a.tmps) {x y z : Operand} (ho : o.op = .pick x y z) (h : opK P C q s K o) : PureStep P c ρ s a o K := by
  simp only [opK, ho] at h
  obtain ⟨t, h, hx⟩ := force_spec h (read_ok hs x)
  split at h
  · obtain ⟨hv, _⟩ := hx
    refine ⟨_, _, h, read_ok hs y, fun w _ => ?_⟩
    simp only [execOp, ho, ← hv]; rfl
  · obtain ⟨hv, _⟩ := hx
    refine ⟨_, _, h, read_ok hs z, fun w _ => ?_⟩
    simp only [execOp, ho, ← hv]; rfl
  · rename_i b
    obtain ⟨hv, _⟩ := hx
    cases b
    · refine ⟨_, _, h.2 rfl, read_ok hs z, fun w _ => ?_⟩
      simp only [execOp, ho, ← hv]; rfl
    · refine ⟨_, _, h.1 rfl, read_ok hs y, fun w _ => ?_⟩
      simp only [execOp, ho, ← hv]; rfl
  · exact h.elim

theorem bits_run (k : IntKind) (x y : Int) (w : World) :
    (Op.intBits .and k x y).run P w = .ok (.int k (bits .and k x y)) w ∧ (Op.intBits .or k x y).run P w = .ok (.int k (bits .or k x y)) w ∧
    (Op.intBits .xor k x y).run P w = .ok (.int k (bits .xor k x y)) w ∧ (Op.intBits .andNot k x y).run P w = .ok (.int k (bits .andNot k x y)) w := ⟨rfl, rfl, rfl, rfl⟩

theorem equalIn_nil {ty e : TypeId} (d : Nat) (hu : P.underlying ty = some (.pointer e)) (b : Option Addr) (w : World) : (Op.equalIn (d + 1) ty (.pointer none) (.pointer b)).run P w = .ok b.isNone w := by
  rw [Op.equalIn]
  simp only [Sem.run_bind, run_underlying hu, Result.andThen_ok, Sem.run_pure]
theorem equalIn_nil' {ty e : TypeId} (d : Nat) (hu : P.underlying ty = some (.pointer e)) (b : Addr) (w : World) : (Op.equalIn (d + 1) ty (.pointer (some b)) (.pointer none)).run P w = .ok false w := by
  rw [Op.equalIn]
  simp only [Sem.run_bind, run_underlying hu, Result.andThen_ok, Sem.run_pure]
theorem eql_run {ty : TypeId} {b b' : Option Addr} {r : Bool} {w : World} (h : (Op.equalIn (9999 + 1) ty (.pointer b) (.pointer b')).run P w = .ok r w) :
    (binOp .eql ty (.pointer b) (.pointer b')).run P w = .ok (.bool r) w ∧ (binOp .neq ty (.pointer b) (.pointer b')).run P w = .ok (.bool (!r)) w := by
  have h' : (Op.equal ty (.pointer b) (.pointer b')).run P w = .ok r w := h
  constructor <;> simp only [binOp, Sem.run_bind, h', Result.andThen_ok, Sem.run_pure]

theorem equalIn_slice {ty e : TypeId} (d : Nat) (hu : P.underlying ty = some (.slice e)) (b : Option Addr) (n c : Nat) (w : World) : (Op.equalIn (d + 1) ty (.slice b n c) (.slice none 0 0)).run P w = .ok b.isNone w := by
  rw [Op.equalIn]
  cases b <;> simp only [Sem.run_bind, run_underlying hu, Result.andThen_ok, Sem.run_pure] <;> rfl
theorem eqlS_run {ty : TypeId} {b b' : Option Addr} {n c n' c' : Nat} {r : Bool} {w : World} (h : (Op.equalIn (9999 + 1) ty (.slice b n c) (.slice b' n' c')).run P w = .ok r w) :
    (binOp .eql ty (.slice b n c) (.slice b' n' c')).run P w = .ok (.bool r) w ∧ (binOp .neq ty (.slice b n c) (.slice b' n' c')).run P w = .ok (.bool (!r)) w := by
  have h' : (Op.equal ty (.slice b n c) (.slice b' n' c')).run P w = .ok r w := h
  constructor <;> simp only [binOp, Sem.run_bind, h', Result.andThen_ok, Sem.run_pure]
theorem eqGuard_at_slice {op : BinOp} {ty : TypeId} {X Y : Operand} {b b' : Option Addr} {n c n' c' : Nat} : eqGuard op ty X Y (.slice b n c) (.slice b' n' c') = pure () := by
  unfold eqGuard
  cases op <;> rfl
theorem eqGuard_str {op : BinOp} {ty : TypeId} {X Y : Operand} {a b : ByteArray} : eqGuard op ty X Y (.string a) (.string b) = pure () := by
  unfold eqGuard
  cases op <;> rfl
theorem str_beq (a b : ByteArray) : (a.toList == b.toList) = decide (a = b) := by
  rw [ByteArray.toList_eq, ByteArray.toList_eq]
  by_cases h : a = b
  · subst h; simp
  · have : a.data.toList ≠ b.data.toList := fun e => h (by cases a; cases b; simp only [ByteArray.mk.injEq]; exact Array.toList_inj.1 e)
    rw [decide_eq_false h]
    simpa using this
theorem binT_spec {n : Nat} {ty : TypeId} {op : BinOp} {L : T → Prop} {ta tb : T} (h : binT (P.underlying ty) op L ta tb) {u v : Value} (ha : SlOk ρ n ta u) (hb : SlOk ρ n tb v) :
    ∃ t x, L t ∧ SlOk ρ n t x ∧ ∀ (X Y : Operand) (w : World), (do eqGuard op ty X Y u v; binOp op ty u v : Sem Value).run P w = .ok x w := by
  unfold binT at h
  split at h
  · rename_i k x k' y
    obtain ⟨rfl, _⟩ := ha
    obtain ⟨rfl, _⟩ := hb
    simp only [Sx.val, T.cv, sc]
    cases op with
    | shl =>
      simp only [isShift, Bool.true_or, intBin] at h
      refine ⟨_, _, h.2, ⟨rfl, trivial⟩, fun X Y w => ?_⟩
      simp only [eqGuard_at_int, Sem.run_bind, Sem.run_pure, Result.andThen_ok, binOp, Op.shift, if_neg (Int.not_lt.2 h.1)]; rfl
    | shr =>
      simp only [isShift, Bool.true_or, intBin] at h
      refine ⟨_, _, h.2, ⟨rfl, trivial⟩, fun X Y w => ?_⟩
      simp only [eqGuard_at_int, Sem.run_bind, Sem.run_pure, Result.andThen_ok, binOp, Op.shift, if_neg (Int.not_lt.2 h.1)]; rfl
    | quo =>
      simp only [isShift, Bool.false_or] at h
      split at h
      · rename_i hk
        have hk := kEq_eq hk
        subst hk
        simp only [intBin] at h
        refine ⟨_, _, h.2, ⟨rfl, trivial⟩, fun X Y w => ?_⟩
        simp only [eqGuard_at_int, Sem.run_bind, Sem.run_pure, Result.andThen_ok, binOp, Op.intDiv, ne_eq, not_true_eq_false, if_false, if_neg h.1]; rfl
      · exact h.elim
    | rem =>
      simp only [isShift, Bool.false_or] at h
      split at h
      · rename_i hk
        have hk := kEq_eq hk
        subst hk
        simp only [intBin] at h
        refine ⟨_, _, h.2, ⟨rfl, trivial⟩, fun X Y w => ?_⟩
        simp only [eqGuard_at_int, Sem.run_bind, Sem.run_pure, Result.andThen_ok, binOp, Op.intDiv, ne_eq, not_true_eq_false, if_false, if_neg h.1]; rfl
      · exact h.elim
    | _ =>
      simp only [isShift, Bool.false_or] at h
      split at h
      · rename_i hk
        have hk := kEq_eq hk
        subst hk
        simp only [intBin] at h
        refine ⟨_, _, h, ⟨rfl, trivial⟩, fun X Y w => ?_⟩
        simp only [eqGuard_at_int, Sem.run_bind, Sem.run_pure, Result.andThen_ok, binOp, ne_eq, not_true_eq_false, if_false]; rfl
      · exact h.elim
  · obtain ⟨rfl, _⟩ := ha
    obtain ⟨rfl, _⟩ := hb
    simp only [Sx.val, T.cv, sc]
    split at h
    · rename_i e hu
      refine ⟨_, _, h, ⟨rfl, trivial⟩, fun X Y w => ?_⟩
      simp only [eqGuard_at_pointer, Sem.run_bind, Sem.run_pure, Result.andThen_ok]
      exact (eql_run (equalIn_nil 9999 hu _ w)).1
    · rename_i e hu
      refine ⟨_, _, h, ⟨rfl, trivial⟩, fun X Y w => ?_⟩
      simp only [eqGuard_at_pointer, Sem.run_bind, Sem.run_pure, Result.andThen_ok]
      exact (eql_run (equalIn_nil 9999 hu _ w)).2
    · exact h.elim
  · obtain ⟨rfl, _⟩ := ha
    obtain ⟨rfl, _⟩ := hb
    simp only [Sx.val, T.cv, sc]
    split at h
    · rename_i e hu
      refine ⟨_, _, h, ⟨rfl, trivial⟩, fun X Y w => ?_⟩
      simp only [eqGuard_at_pointer, Sem.run_bind, Sem.run_pure, Result.andThen_ok]
      exact (eql_run (equalIn_nil' 9999 hu _ w)).1
    · rename_i e hu
      refine ⟨_, _, h, ⟨rfl, trivial⟩, fun X Y w => ?_⟩
      simp only [eqGuard_at_pointer, Sem.run_bind, Sem.run_pure, Result.andThen_ok]
      exact (eql_run (equalIn_nil' 9999 hu _ w)).2
    · exact h.elim
  · obtain ⟨rfl, _⟩ := ha
    obtain ⟨rfl, _⟩ := hb
    simp only [Sx.val, T.cv, sc]
    split at h
    · rename_i e hu
      refine ⟨_, _, h, ⟨rfl, trivial⟩, fun X Y w => ?_⟩
      simp only [eqGuard_at_slice, Sem.run_bind, Sem.run_pure, Result.andThen_ok]
      exact (eqlS_run (equalIn_slice 9999 hu _ _ _ w)).1
    · rename_i e hu
      refine ⟨_, _, h, ⟨rfl, trivial⟩, fun X Y w => ?_⟩
      simp only [eqGuard_at_slice, Sem.run_bind, Sem.run_pure, Result.andThen_ok]
      exact (eqlS_run (equalIn_slice 9999 hu _ _ _ w)).2
    · exact h.elim
  · obtain ⟨rfl, _⟩ := ha
    obtain ⟨rfl, _⟩ := hb
    simp only [Sx.val, T.cv, sc]
    split at h
    · rename_i e hu
      refine ⟨_, _, h, ⟨rfl, trivial⟩, fun X Y w => ?_⟩
      simp only [eqGuard_at_slice, Sem.run_bind, Sem.run_pure, Result.andThen_ok]
      exact (eqlS_run (equalIn_slice 9999 hu _ _ _ w)).1
    · rename_i e hu
      refine ⟨_, _, h, ⟨rfl, trivial⟩, fun X Y w => ?_⟩
      simp only [eqGuard_at_slice, Sem.run_bind, Sem.run_pure, Result.andThen_ok]
      exact (eqlS_run (equalIn_slice 9999 hu _ _ _ w)).2
    · exact h.elim
  · rename_i x y
    obtain ⟨rfl, _⟩ := ha
    obtain ⟨rfl, _⟩ := hb
    simp only [Sx.val, T.cv, sc]
    split at h
    · refine ⟨_, _, h.2, ⟨rfl, trivial⟩, fun X Y w => ?_⟩
      simp only [eqGuard_str, Sem.run_bind, Sem.run_pure, Result.andThen_ok, binOp_string_add, run_string_add_sum _ _ _ h.1]
      rfl
    · refine ⟨_, _, h, ⟨rfl, trivial⟩, fun X Y w => ?_⟩
      simp only [eqGuard_str, Sem.run_bind, Sem.run_pure, Result.andThen_ok, binOp_string_eql, str_beq]
      rfl
    · refine ⟨_, _, h, ⟨rfl, trivial⟩, fun X Y w => ?_⟩
      simp only [eqGuard_str, Sem.run_bind, Sem.run_pure, Result.andThen_ok, binOp_string_neq, str_beq]
      rfl
    · exact h.elim
  · exact h.elim

theorem op_un (hs : SlotsOk ρ s.H.length s.sl a.tmps) {op : UnOp} {t : TypeId} {x : Operand} (ho : o.op = .unOp op t x) (h : opK P C q s K o) : PureStep P c ρ s a o K := by
  simp only [opK, ho] at h
  obtain ⟨ta, h, hx⟩ := force_spec h (read_ok hs x)
  split at h
  · split at h
    · rename_i t' hn
      cases ta <;> simp only [T.notb, Option.some.injEq, reduceCtorEq] at hn <;> subst hn <;> obtain ⟨hv, _⟩ := hx
      all_goals
        refine ⟨_, _, h, ⟨rfl, trivial⟩, fun w _ => ?_⟩
        simp only [execOp, ho, ← hv]; rfl
    · exact h.elim
  · split at h
    · obtain ⟨hv, _⟩ := hx
      refine ⟨_, _, h, ⟨rfl, trivial⟩, fun w _ => ?_⟩
      simp only [execOp, ho, ← hv]; rfl
    · exact h.elim
  · split at h
    · obtain ⟨hv, _⟩ := hx
      refine ⟨_, _, h, ⟨rfl, trivial⟩, fun w _ => ?_⟩
      simp only [execOp, ho, ← hv]; rfl
    · exact h.elim
  · exact h.elim

theorem op_conv (hs : SlotsOk ρ s.H.length s.sl a.tmps) {t t' : TypeId} {x : Operand} (ho : o.op = .convert t t' x) (h : opK P C q s K o) : PureStep P c ρ s a o K := by
  simp only [opK, ho] at h
  obtain ⟨ta, h, hx⟩ := force_spec h (read_ok hs x)
  split at h
  · rename_i k n h1 h2
    obtain ⟨hv, _⟩ := hx
    refine ⟨_, _, h, ⟨rfl, trivial⟩, fun w _ => ?_⟩
    simp only [execOp, ho, ← hv, Sx.val, T.cv, sc, convert, Sem.run_bind, run_underlying h1, run_underlying h2, Result.andThen_ok]; rfl
  · exact h.elim

theorem op_nilCheck (hs : SlotsOk ρ s.H.length s.sl a.tmps) {x : Operand} (ho : o.op = .nilCheck x) (h : opK P C q s K o) : PureStep P c ρ s a o K := by
  simp only [opK, ho] at h
  obtain ⟨ta, h, hx⟩ := force_spec h (read_ok hs x)
  split at h
  · have hx' := hx
    obtain ⟨hv, _⟩ := hx
    refine ⟨_, _, h, hx', fun w _ => ?_⟩
    simp only [execOp, ho, ← hv]; rfl
  · have hx' := hx
    obtain ⟨hv, _⟩ := hx
    refine ⟨_, _, h, hx', fun w _ => ?_⟩
    simp only [execOp, ho, ← hv]; rfl
  · have hx' := hx
    obtain ⟨hv, _⟩ := hx
    refine ⟨_, _, h, hx', fun w _ => ?_⟩
    simp only [execOp, ho, ← hv]; rfl
  · exact h.elim

theorem op_iface (hs : SlotsOk ρ s.H.length s.sl a.tmps) {t : TypeId} {x : Operand} (ho : o.op = .makeInterface t x) (h : opK P C q s K o) : PureStep P c ρ s a o K := by
  simp only [opK, ho] at h
  split at h
  · exact h.elim
  · rename_i d hni hd
    split at h
    · rename_i hn
      obtain ⟨hv, hg⟩ := (read_ok hs x).good' hn
      refine ⟨_, _, h, ⟨rfl, hg⟩, fun w _ => ?_⟩
      simp only [execOp, ho, ← hv, Instr.makeInterface, Sem.run_bind, run_underlying hd, Result.andThen_ok]
      cases d <;> first | rfl | exact absurd rfl (hni _)
    · exact h.elim
  · exact h.elim

theorem off_app (p p' : List St) : off (p ++ p') = off p + off p' := by
  induction p with
  | nil => simp [off]
  | cons x p ih => cases x <;> simp only [List.cons_append, off, ih, Nat.add_assoc]

theorem pla_add (ρ : Rho) (r i n m : Nat) : (pla ρ r i n).add m = pla ρ r i (n + m) := by
  unfold pla
  rw [Addr.add_lit, Nat.add_assoc]

theorem info_of_cells {t : TypeId} (h : P.cellsOf t ≠ 0) : ∃ i, P.info? t = some i := by
  unfold Program.cellsOf at h
  cases hi : P.info? t with
  | none => simp [hi] at h
  | some i => exact ⟨i, rfl⟩

theorem info_of_underlying {t : TypeId} {d : TypeDesc} (h : P.underlying t = some d) : ∃ i, P.info? t = some i := by
  unfold Program.underlying at h
  cases hi : P.info? t with
  | none => simp [hi] at h
  | some i => exact ⟨i, rfl⟩

theorem op_fieldAddr (hs : SlotsOk ρ s.H.length s.sl a.tmps) {t : TypeId} {x : Operand} {k : Nat} (ho : o.op = .fieldAddr t x k) (h : opK P C q s K o) : PureStep P c ρ s a o K := by
  simp only [opK, ho] at h
  obtain ⟨ta, h, hx⟩ := force_spec h (read_ok hs x)
  split at h
  · rename_i r i p o' ty hf
    split at h
    · rename_i hz
      have hz : P.cellsOf ty ≠ 0 := fun e => by rw [e] at hz; cases hz
      obtain ⟨inf, hinf⟩ := info_of_cells hz
      obtain ⟨hv, hg⟩ := hx
      refine ⟨_, _, h, ⟨rfl, hg⟩, fun w _ => ?_⟩
      unfold fieldOff at hf
      split at hf
      · rename_i fs hu
        split at hf
        · rename_i f hfk
          simp only [Option.some.injEq, Prod.mk.injEq] at hf
          obtain ⟨rfl, rfl⟩ := hf
          have hfk' : fs[k]? = some f := by simpa using hfk
          simp only [execOp, ho, ← hv, Sx.val, T.cv, sc, Instr.fieldAt, Sem.run_bind, run_underlying hu, Result.andThen_ok, hfk', Instr.sureAddr, Sem.run_pure, fieldPlace, run_sizeOf w hinf, if_neg hz,
            pla_add, off_app, off, Nat.add_zero]
        · cases hf
      · cases hf
    · exact h.elim
  · exact h.elim

theorem op_indexAddr (hs : SlotsOk ρ s.H.length s.sl a.tmps) {t : TypeId} {x y : Operand} (ho : o.op = .indexAddr t x y) (h : opK P C q s K o) : PureStep P c ρ s a o K := by
  simp only [opK, ho] at h
  have h := forceN_force (fun r i p lo sz c h => by
    obtain ⟨tb, h, _⟩ := force_spec h (read_ok hs y)
    split at h
    · split at h
      · rename_i e _
        injection e with _ _ _ _ _ e6 _
        subst e6
        split at h
        · have := h.1; omega
        · exact h.elim
      · rename_i e _; cases e
      · exact h.elim
    · exact h.elim) h
  obtain ⟨ta, h, hx⟩ := force_spec h (read_ok hs x)
  obtain ⟨tb, h, hy⟩ := force_spec h (read_ok hs y)
  split at h
  · rename_i j hj
    have hj' : ∃ k, tb = .int k j := by
      unfold intOf at hj
      split at hj
      · simp only [Option.some.injEq] at hj
        subst hj
        exact ⟨_, rfl⟩
      · cases hj
    obtain ⟨k, rfl⟩ := hj'
    obtain ⟨hyv, _⟩ := hy
    split at h
    · rename_i r i p lo sz n cap e hu _
      split at h
      · rename_i hz
        simp only [Bool.and_eq_true, Bool.not_eq_true'] at hz
        have h1 := beq_nat hz.1
        have h2 : sz ≠ 0 := fun e => by rw [e] at hz; simp at hz
        subst h1
        obtain ⟨inf, hinf⟩ := info_of_cells h2
        obtain ⟨hv, hg⟩ := hx
        refine ⟨_, _, h.2, ⟨rfl, hg⟩, fun w _ => ?_⟩
        have hb : 0 ≤ j ∧ j < (n : Int) := h.1
        simp only [execOp, ho, ← hv, ← hyv, Sx.val, T.cv, sc, Instr.indexAt, Sem.run_bind, asIntOf, Sem.run_pure, run_underlying hu, Result.andThen_ok, run_sizeOf w hinf, if_pos hb, pla_add, off_app, off, Nat.add_zero, Nat.add_assoc, Nat.add_mul]
      · exact h.elim
    · rename_i r i p n e hu _
      split at h
      · rename_i hz
        have hz : P.cellsOf e ≠ 0 := fun e' => by rw [e'] at hz; cases hz
        obtain ⟨inf, hinf⟩ := info_of_cells hz
        obtain ⟨hv, hg⟩ := hx
        refine ⟨_, _, h.2, ⟨rfl, hg⟩, fun w _ => ?_⟩
        have hb : 0 ≤ j ∧ j < (n : Int) := h.1
        simp only [execOp, ho, ← hv, ← hyv, Sx.val, T.cv, sc, Instr.indexAt, Sem.run_bind, asIntOf, Sem.run_pure, run_underlying hu, Result.andThen_ok, run_sizeOf w hinf, if_pos hb, pla_add, off_app, off, Nat.add_zero, Instr.sureAddr]
      · exact h.elim
    · exact h.elim
  · exact h.elim

/-! ### values out of values -/
theorem val_agg {ρ : Rho} {t : T} (hi : ∀ b x y, t = .ite b x y → isNs x y = true) (h : t.isAgg = true) : val ρ t = .agg (cells ρ t).toArray := by
  cases t <;> first | rfl | (cases h; done) | skip
  obtain ⟨rfl, _⟩ := isNs_eq (hi _ _ _ rfl)
  cases h
theorem val_one {ρ : Rho} {n : Nat} {t : T} (g : Good n t) (hi : ∀ b x y, t = .ite b x y → isNs x y = true) (h : t.isAgg = false) : cells ρ t = [val ρ t] := by
  cases t <;> first | rfl | (cases h; done) | exact g.elim | skip
  rename_i b x y
  obtain ⟨rfl, _, _, _, _, _, _, _, rfl⟩ := isNs_eq (hi _ _ _ rfl)
  cases b <;> rfl

def aggD : TypeDesc → Bool
  | .struct _ | .array _ _ => true
  | _ => false

theorem fits_spec {ty : TypeId} {t : T} (h : fitsT P ty t = true) : (∀ b x y, t = .ite b x y → isNs x y = true) ∧ t.size = P.cellsOf ty ∧
    ((t.isAgg = true ∧ ∃ d, P.underlying ty = some d ∧ aggD d = true) ∨
     (t.isAgg = false ∧ ∃ d, P.underlying ty = some d ∧ aggD d = false)) := by
  unfold fitsT at h
  simp only [Bool.and_eq_true] at h
  obtain ⟨⟨h1, h2⟩, h3⟩ := h
  refine ⟨fun b x y e => by subst e; exact h1, beq_nat h3, ?_⟩
  unfold aggFits at h2
  cases hu : P.underlying ty with
  | none => rw [hu] at h2; cases h2
  | some d =>
    rw [hu] at h2
    cases d <;> simp at h2 <;> first | exact .inl ⟨h2, _, rfl, rfl⟩ | exact .inr ⟨h2, _, rfl, rfl⟩

theorem isAgg_run {ty : TypeId} {d : TypeDesc} (hu : P.underlying ty = some d) (w : World) :
    (aggD d = true → (isAgg ty).run P w = .ok true w) ∧ (aggD d = false → (isAgg ty).run P w = .ok false w) := by
  unfold isAgg
  simp only [Sem.run_bind, run_underlying hu, Result.andThen_ok]
  constructor <;> intro h <;> cases d <;> first | rfl | (cases h; done)

theorem part_run {ρ : Rho} {n : Nat} {ty : TypeId} {t : T} (g : Good n t) (hf : fitsT P ty t = true) {cs : Array Value} {o : Nat} (hc : ∀ k, k < t.size → cs[o + k]? = (cells ρ t)[k]?) (w : World) :
    (part ty cs o).run P w = .ok (val ρ t) w := by
  obtain ⟨hi, hz, h⟩ := fits_spec hf
  rcases h with ⟨ha, d, hu, hd⟩ | ⟨ha, d, hu, hd⟩
  · obtain ⟨inf, hinf⟩ := info_of_underlying hu
    simp only [part, Sem.run_bind, (isAgg_run hu w).1 hd, Result.andThen_ok, if_true, run_sizeOf w hinf, Sem.run_pure, ← hz]
    rw [val_agg hi ha]
    congr 2
    apply Array.ext_getElem?
    intro k
    by_cases hk : k < t.size
    · have hb : o + k < cs.size := by
        rcases Nat.lt_or_ge (o + k) cs.size with h1 | h1
        · exact h1
        · have h2 := hc k hk
          rw [Array.getElem?_eq_none h1, List.getElem?_eq_getElem (by rw [cells_len g]; exact hk)] at h2
          cases h2
      rw [Array.getElem?_extract, if_pos (by omega), hc k hk]
      simp
    · have h1 : ((cells ρ t).toArray)[k]? = none := by
        rw [Array.getElem?_eq_none (by simp only [List.size_toArray]; rw [cells_len g]; omega)]
      rw [h1, Array.getElem?_extract, if_neg (by omega)]
  · have h1 := val_one (ρ := ρ) g hi ha
    have hs : t.size = 1 := by rw [← cells_len (ρ := ρ) g, h1]; rfl
    have h2 := hc 0 (by omega)
    rw [h1] at h2
    simp only [Nat.add_zero, List.getElem?_cons_zero] at h2
    simp only [part, Sem.run_bind, (isAgg_run hu w).2 hd, Result.andThen_ok, Bool.false_eq_true, if_false, h2, Sem.run_pure]

theorem loadVar_run {ρ : Rho} {n : Nat} {ty : TypeId} {t : T} (g : Good n t) (hf : fitsT P ty t = true) {w : World} {b o : Nat} (hc : Holds ρ (wc w b) t o) :
    (loadVar ty ⟨b, o, none⟩).run P w = .ok (val ρ t) w := by
  obtain ⟨hi, hz, h⟩ := fits_spec hf
  have hk := holds_cells g hc
  rcases h with ⟨ha, d, hu, hd⟩ | ⟨ha, d, hu, hd⟩
  · obtain ⟨inf, hinf⟩ := info_of_underlying hu
    have hl : (loadCells ⟨b, o, none⟩ (cells ρ t).length).run P w = .ok (cells ρ t).toArray w :=
      run_loadCells_list (P := P) w ⟨b, o, none⟩ (cells ρ t) fun j v hv => by
        have hj : j < t.size := by rw [← cells_len (ρ := ρ) g]; exact (List.getElem?_eq_some_iff.1 hv).1
        rw [Addr.add_lit]
        exact (hk j hj).trans hv
    rw [cells_len g, hz] at hl
    simp only [loadVar, Sem.run_bind, (isAgg_run hu w).1 hd, Result.andThen_ok, if_true, run_sizeOf w hinf, hl, Sem.run_pure]
    rw [val_agg hi ha]
  · have h1 := val_one (ρ := ρ) g hi ha
    have hs : t.size = 1 := by rw [← cells_len (ρ := ρ) g, h1]; rfl
    have h2 := hk 0 (by omega)
    rw [h1] at h2
    simp only [Nat.add_zero, List.getElem?_cons_zero] at h2
    have h2 : w.cell? ⟨b, o, none⟩ = some (val ρ t) := h2
    simp only [loadVar, Sem.run_bind, (isAgg_run hu w).2 hd, Result.andThen_ok, Bool.false_eq_true, if_false, run_load, h2]

/-- What 'loadK' comes to: a term that does not hang on the world. -/
theorem getPtr_any {H : List Reg} {Kg : Reg → T → T → Prop} {r i : Nat} {p : List St} {ρ : Rho} {w : World} (hk : HOk ρ H w) (h : getPtr H Kg (.ptr r i p)) :
    ∃ g t, getReg H r = some g ∧ g.has i ∧ Kg g (g.at i) t ∧ Good H.length t ∧ ∀ ρ' w', HOk ρ' H w' → Holds ρ' (wc w' (ρ' r i).1) t ((ρ' r i).2 + off p) := by
  obtain ⟨g, t, h1, h2, h3, h4, h5, h6, h7⟩ := getPtr_spec hk h
  have hg := (hk.holds r g i h1 h2).1
  -- the same way down, with the end kept
  have key : ∀ {p : List St} {u : T}, getK (Kg g (g.at i)) p u → Good H.length u → ∃ t, Kg g (g.at i) t ∧ Good H.length t ∧ ∀ (ρ' : Rho) (m : Cells) (o : Nat), Holds ρ' m u o → Holds ρ' m t (o + off p) := by
    intro p
    induction p with
    | nil => exact fun {u} h g => ⟨u, h, g, fun _ _ _ q => q⟩
    | cons x p ih =>
      intro u h g
      cases x with
      | f o' =>
        simp only [getK] at h
        split at h
        · rename_i v hv
          have g1 := (getF_spec (ρ := ρ) (m := fun _ => none) (o := 0) g hv).1
          obtain ⟨t, k, gt, q⟩ := ih h g1
          refine ⟨t, k, gt, fun ρ' m o hh => ?_⟩
          have := (getF_spec (ρ := ρ') (m := m) (o := o) g hv).2.2.1 hh
          have := q ρ' m _ this
          rwa [off, ← Nat.add_assoc]
        · exact h.elim
      | x j sz =>
        simp only [getK] at h
        split at h
        · split at h
          · rename_i hb
            have hb := beq_nat hb
            subst hb
            obtain ⟨t, k, gt, q⟩ := ih h.2 (g j h.1).2
            refine ⟨t, k, gt, fun ρ' m o hh => ?_⟩
            have := q ρ' m _ (hh j h.1)
            rwa [off, ← Nat.add_assoc]
          · exact h.elim
        · exact h.elim
  obtain ⟨t', k', g', q'⟩ := key h7 hg
  exact ⟨g, t', h1, h2, k', g', fun ρ' w' hk' => q' ρ' _ _ (hk'.holds r g i h1 h2).2⟩

theorem force_any {n : Nat} {Kf : T → Prop} : ∀ {t : T}, force Kf t → Good n t → ∃ t', Kf t' ∧ Good n t' ∧ ∀ (ρ : Rho) (m : Cells) (o : Nat), Holds ρ m t o → Holds ρ m t' o ∧ t'.size = t.size
  | .ite b x y, h, g => by
    simp only [force] at h
    cases b with
    | true =>
      obtain ⟨t', k, g', q'⟩ := force_any (h.1 rfl) (g.2.1 rfl)
      exact ⟨t', k, g', fun ρ m o hh => q' ρ m o (hh.1 rfl)⟩
    | false =>
      obtain ⟨t', k, g', q'⟩ := force_any (h.2 rfl) (g.2.2 rfl)
      exact ⟨t', k, g', fun ρ m o hh => ⟨(q' ρ m o (hh.2 rfl)).1, by rw [(q' ρ m o (hh.2 rfl)).2]; exact g.1.symm⟩⟩
  | .top, h, g | .int .., h, g | .bool _, h, g | .tt, h, g | .ff, h, g | .str _, h, g | .ptr .., h, g | .nilp, h, g | .slice .., h, g | .nils, h, g
  | .fn .., h, g | .nilf, h, g | .iface .., h, g | .nili, h, g | .nil, h, g | .cons .., h, g | .arr .., h, g | .tup _, h, g | .raw _, h, g => ⟨_, h, g, fun _ _ _ hh => ⟨hh, rfl⟩⟩

theorem loadK_spec {H : List Reg} {ty : TypeId} {L : T → Prop} {ta : T} {v : Value} (h : loadK P H ty L ta) (hx : SlOk ρ H.length ta v) {w0 : World} (hk : HOk ρ H w0) :
    ∃ t ad, L t ∧ Good H.length t ∧ v = .pointer (some ad) ∧ ∀ w, HOk ρ H w → (loadVar ty ad).run P w = .ok (val ρ t) w := by
  unfold loadK at h
  obtain ⟨tb, h, hy⟩ := force_spec h hx
  cases tb with
  | ptr r i p =>
    obtain ⟨g, t, h1, h2, h3, h4, h5⟩ := getPtr_any hk h
    obtain ⟨t', h6, h7, h8⟩ := forceP_any h3 h4
    split at h6
    · rename_i hf
      obtain ⟨hv, _⟩ := hy
      exact ⟨t', pla ρ r i (off p), h6, h7, hv.symm, fun w hk' => loadVar_run h7 hf ((h8 ρ).2.2 _ _ (h5 ρ w hk'))⟩
    · exact h6.elim
  | _ => exact h.elim

theorem op_load (hs : SlotsOk ρ s.H.length s.sl a.tmps) {w0 : World} (hk : HOk ρ s.H w0) {ty : TypeId} {x : Operand} (ho : o.op = .load ty x) (h : opK P C q s K o) : PureStep P c ρ s a o K := by
  simp only [opK, ho] at h
  obtain ⟨t, ad, hL, hg, hv, hr⟩ := loadK_spec h (read_ok hs x) hk
  refine ⟨_, _, hL, SlOk.of_good hg, fun w hw => ?_⟩
  simp only [execOp, ho, hv, Instr.loadAt, Sem.run_bind, Instr.sureAddr, Sem.run_pure, Result.andThen_ok, hr w hw.hok]

theorem eqFs_run {ρ : Rho} {n D : Nat} {eq : TypeId → T → T → Option Bool} (w : World) {x1 x2 y1 y2 : T} (gx : Good n (.cons x1 x2)) (gy : Good n (.cons y1 y2))
    (he : ∀ ty u v r, eq ty u v = some r → Good n u → Good n v → (Op.equalIn D ty (val ρ u) (val ρ v)).run P w = .ok r w) :
    ∀ (l : List Field) (r : Bool), eqFs P eq (.cons x1 x2) (.cons y1 y2) l = some r → (Op.eqFields D (cells ρ (.cons x1 x2)).toArray (cells ρ (.cons y1 y2)).toArray l).run P w = .ok r w
  | [], r, h => by
    simp only [eqFs, Option.some.injEq] at h
    subst h
    simp only [Op.eqFields, Sem.run_pure]
  | f :: l, r, h => by
    unfold eqFs at h
    split at h
    · rename_i hn
      have hn := of_decide_eq_true hn
      rw [Op.eqFields, if_neg (fun hh => hh hn)]
      exact eqFs_run w gx gy he l r h
    · rename_i hn
      have hn := of_decide_eq_false hn
      rw [Op.eqFields, if_pos hn]
      split at h
      · rename_i u v hu hv
        split at h
        · rename_i hf
          obtain ⟨hf1, hf2⟩ := Bool.and_eq_true_iff.1 hf
          split at h
          · rename_i a b ha hb
            simp only [Option.some.injEq] at h
            obtain ⟨g1, l1, _, c1⟩ := getF_spec (ρ := ρ) (m := fun _ => none) (o := 0) gx hu
            obtain ⟨g2, l2, _, c2⟩ := getF_spec (ρ := ρ) (m := fun _ => none) (o := 0) gy hv
            have p1 := part_run (P := P) (ρ := ρ) g1 hf1 (cs := (cells ρ (.cons x1 x2)).toArray) (o := f.offset) (fun j hj => by rw [← c1 j hj]; simp) w
            have p2 := part_run (P := P) (ρ := ρ) g2 hf2 (cs := (cells ρ (.cons y1 y2)).toArray) (o := f.offset) (fun j hj => by rw [← c2 j hj]; simp) w
            have p3 := he f.type u v a ha g1 g2
            have p4 := eqFs_run w gx gy he l b hb
            simp only [Sem.run_bind, p1, p2, p3, Result.andThen_ok]
            cases a
            · simp only [Bool.not_false, if_true, Sem.run_pure]; rw [← h]; rfl
            · simp only [Bool.not_true, Bool.false_eq_true, if_false, p4]; rw [← h]; rfl
          · cases h
        · cases h
      · cases h

theorem eqAr_run {ρ : Rho} {n D N : Nat} {eq : TypeId → T → T → Option Bool} (w : World) {e : TypeId} {f g : Nat → T} (gx : Good n (.arr N (P.cellsOf e) f)) (gy : Good n (.arr N (P.cellsOf e) g))
    (he : ∀ ty u v r, eq ty u v = some r → Good n u → Good n v → (Op.equalIn D ty (val ρ u) (val ρ v)).run P w = .ok r w) :
    ∀ (l : List Nat) (r : Bool), (∀ i ∈ l, i < N) → eqAr P eq e f g l = some r → (Op.eqItems D e (P.cellsOf e) (cells ρ (.arr N (P.cellsOf e) f)).toArray (cells ρ (.arr N (P.cellsOf e) g)).toArray l).run P w = .ok r w
  | [], r, _, h => by
    simp only [eqAr, Option.some.injEq] at h
    subst h
    simp only [Op.eqItems, Sem.run_pure]
  | i :: l, r, hN, h => by
    have hi := hN i (by simp)
    have hpart : ∀ (f : Nat → T), Good n (.arr N (P.cellsOf e) f) → fitsT P e (f i) = true → (part e (cells ρ (.arr N (P.cellsOf e) f)).toArray (i * P.cellsOf e)).run P w = .ok (val ρ (f i)) w := fun f gf hf => by
      refine part_run (P := P) (ρ := ρ) (gf i hi).2 hf (fun k hk => ?_) w
      rw [(gf i hi).1] at hk
      simp only [List.getElem?_toArray, cells, T.cv]
      exact flatMap_get (fun j => ((f j).cv ρ).cells) (List.range N) i k i (fun j hj => by
        have := gf j (List.mem_range.1 hj); rw [← this.1]; exact cells_len this.2) (by simp [hi]) hk
    unfold eqAr at h
    split at h
    · rename_i hf
      obtain ⟨hf1, hf2⟩ := Bool.and_eq_true_iff.1 hf
      split at h
      · rename_i a b ha hb
        simp only [Option.some.injEq] at h
        have p1 := hpart f gx hf1
        have p2 := hpart g gy hf2
        have p3 := he e (f i) (g i) a ha (gx i hi).2 (gy i hi).2
        have p4 := eqAr_run w gx gy he l b (fun j hj => hN j (List.mem_cons_of_mem _ hj)) hb
        simp only [Op.eqItems, Sem.run_bind, p1, p2, p3, Result.andThen_ok]
        cases a
        · simp only [Bool.not_false, if_true, Sem.run_pure]; rw [← h]; rfl
        · simp only [Bool.not_true, Bool.false_eq_true, if_false, p4]; rw [← h]; rfl
      · cases h
    · cases h

theorem boolOf_val {ρ : Rho} {t : T} {b : Bool} (h : boolOf t = some b) : val ρ t = .bool b := by
  cases t <;> simp only [boolOf, Option.some.injEq, reduceCtorEq] at h <;> subst h <;> rfl

theorem eqT_run {ρ : Rho} {n : Nat} (w : World) (e : Nat) : ∀ (d : Nat) (ty : TypeId) (x y : T) (r : Bool), eqT P d ty x y = some r → Good n x → Good n y → (Op.equalIn (d + e) ty (val ρ x) (val ρ y)).run P w = .ok r w
  | 0, _, _, _, _, h, _, _ => by simp [eqT] at h
  | d + 1, ty, x, y, r, h, gx, gy => by
    rw [show d + 1 + e = (d + e) + 1 by omega]
    unfold eqT at h
    split at h
    · rename_i k0 hu
      split at h
      · rename_i k a k' b
        split at h
        · rename_i hk
          have hk := kEq_eq hk
          subst hk
          simp only [Option.some.injEq] at h
          subst h
          exact run_equalIn_int w (d + e) ty k k0 a b hu
        · cases h
      · cases h
    · rename_i hu
      split at h
      · rename_i a b ha hb
        simp only [Option.some.injEq] at h
        subst h
        rw [boolOf_val ha, boolOf_val hb]
        exact run_equalIn_bool' w (d + e) ty a b hu
      · cases h
    · rename_i fs hu
      split at h
      · rename_i hst
        split at h
        · rename_i x1 x2 y1 y2
          have hfo : P.fieldsOf ty = fs := by unfold Program.fieldsOf; rw [hu]
          have := run_equalIn_agg w (d + e) ty (cells ρ (.cons x1 x2)).toArray (cells ρ (.cons y1 y2)).toArray (by rw [hfo]; exact hu) hst
          rw [hfo] at this
          exact this.trans (eqFs_run w gx gy (fun ty u v r h1 h2 h3 => eqT_run w e d ty u v r h1 h2 h3) fs.toList r h)
        · cases h
      · cases h
    · rename_i N el hu
      split at h
      · rename_i n1 sz1 f n2 sz2 g
        split at h
        · rename_i hb
          simp only [Bool.and_eq_true] at hb
          have q1 := beq_nat hb.1.1.1.1
          have q2 := beq_nat hb.1.1.1.2
          have q3 := beq_nat hb.1.1.2
          have q4 := beq_nat hb.1.2
          obtain ⟨inf, hinf⟩ := Option.isSome_iff_exists.1 hb.2
          subst q1 q2 q3 q4
          exact (run_equalIn_array w (d + e) (cells ρ (.arr N (P.cellsOf el) f)).toArray (cells ρ (.arr N (P.cellsOf el) g)).toArray hu hinf).trans
            (eqAr_run w gx gy (fun ty u v r h1 h2 h3 => eqT_run w e d ty u v r h1 h2 h3) (List.range N) r (fun i hi => List.mem_range.1 hi) h)
        · cases h
      · cases h
    · cases h

theorem eqT_guard {ρ : Rho} {d : Nat} {ty : TypeId} {x y : T} {r : Bool} (h : eqT P d ty x y = some r) (hg : P.eqGuardType P.depth ty = false) (op : BinOp) (X Y : Operand) (w : World) :
    (eqGuard op ty X Y (val ρ x) (val ρ y)).run P w = .ok () w := by
  have hb : ∀ b v, (eqGuard op ty X Y (.bool b) v).run P w = .ok () w := fun b v => by rw [eqGuard_at_bool]; rfl
  have hi : ∀ k b v, (eqGuard op ty X Y (.int k b) v).run P w = .ok () w := fun k b v => by rw [eqGuard_at_int]; rfl
  cases d with
  | zero => simp [eqT] at h
  | succ d =>
    unfold eqT at h
    split at h
    · split at h
      · exact hi _ _ _
      · cases h
    · split at h
      · rename_i a b ha hb'
        rw [boolOf_val ha]
        exact hb _ _
      · cases h
    · split at h
      · split at h
        · exact run_eqGuard_agg w op ty X Y _ _ hg
        · cases h
      · cases h
    · split at h
      · split at h
        · exact run_eqGuard_agg w op ty X Y _ _ hg
        · cases h
      · cases h
    · cases h

theorem sl_kind {ρ : Rho} {n : Nat} {t : T} {v : Value} (h : SlOk ρ n t v) (hk : (∃ r d ty y, eqT P d ty t y = some r) ∨ ∃ r d ty y, eqT P d ty y t = some r) : val ρ t = v ∧ Good n t := by
  cases t with
  | top => exact absurd hk (by
      rintro (⟨r, d, ty, y, h⟩ | ⟨r, d, ty, y, h⟩) <;> (cases d <;> simp only [eqT, reduceCtorEq] at h <;> (repeat' split at h) <;> simp_all [boolOf]))
  | raw w => exact absurd hk (by
      rintro (⟨r, d, ty, y, h⟩ | ⟨r, d, ty, y, h⟩) <;> (cases d <;> simp only [eqT, reduceCtorEq] at h <;> (repeat' split at h) <;> simp_all [boolOf]))
  | tup w => exact absurd hk (by
      rintro (⟨r, d, ty, y, h⟩ | ⟨r, d, ty, y, h⟩) <;> (cases d <;> simp only [eqT, reduceCtorEq] at h <;> (repeat' split at h) <;> simp_all [boolOf]))
  | _ => exact ⟨h.1, h.2⟩

theorem eqKind_val {ρ : Rho} {t : T} (h : eqKind t = true) : (∃ a, val ρ t = .agg a) ∨ ∃ b, val ρ t = .bool b := by
  cases t <;> first | (cases h; done) | exact .inl ⟨_, rfl⟩ | exact .inr ⟨_, rfl⟩
theorem eqlQ {ty : TypeId} {u v : Value} {r : Bool} {w : World} (hv : (∃ a, u = .agg a) ∨ ∃ b, u = .bool b) (h : (Op.equal ty u v).run P w = .ok r w) :
    (binOp .eql ty u v).run P w = .ok (.bool r) w ∧ (binOp .neq ty u v).run P w = .ok (.bool (!r)) w := by
  rcases hv with ⟨a, rfl⟩ | ⟨a, rfl⟩ <;> constructor <;> simp only [binOp, Sem.run_bind, h, Result.andThen_ok, Sem.run_pure]
theorem binQ_spec {n : Nat} {ρ : Rho} {ty : TypeId} {op : BinOp} {L : T → Prop} {ta tb : T} (h : binQ P ty op L ta tb) {u v : Value} (ha : SlOk ρ n ta u) (hb : SlOk ρ n tb v) :
    ∃ t x, L t ∧ SlOk ρ n t x ∧ ∀ (X Y : Operand) (w : World), (do eqGuard op ty X Y u v; binOp op ty u v : Sem Value).run P w = .ok x w := by
  unfold binQ at h
  split at h
  · split at h
    · rename_i r hg hr
      obtain ⟨rfl, ga⟩ := sl_kind ha (.inl ⟨_, _, _, _, hr⟩)
      obtain ⟨rfl, gb⟩ := sl_kind hb (.inr ⟨_, _, _, _, hr⟩)
      refine ⟨_, _, h, ⟨rfl, trivial⟩, fun X Y w => ?_⟩
      have h1 := eqT_run (ρ := ρ) (n := n) w 9988 12 ty ta tb r hr ga gb
      have h2 : (Op.equal ty (val ρ ta) (val ρ tb)).run P w = .ok r w := h1
      simp only [Sem.run_bind, eqT_guard hr hg .eql X Y w, Result.andThen_ok]
      exact (eqlQ (eqKind_val (by assumption)) h2).1
    · exact h.elim
  · split at h
    · rename_i r hg hr
      obtain ⟨rfl, ga⟩ := sl_kind ha (.inl ⟨_, _, _, _, hr⟩)
      obtain ⟨rfl, gb⟩ := sl_kind hb (.inr ⟨_, _, _, _, hr⟩)
      refine ⟨_, _, h, ⟨rfl, trivial⟩, fun X Y w => ?_⟩
      have h1 := eqT_run (ρ := ρ) (n := n) w 9988 12 ty ta tb r hr ga gb
      have h2 : (Op.equal ty (val ρ ta) (val ρ tb)).run P w = .ok r w := h1
      simp only [Sem.run_bind, eqT_guard hr hg .neq X Y w, Result.andThen_ok]
      exact (eqlQ (eqKind_val (by assumption)) h2).2
    · exact h.elim
  · exact h.elim
  · exact binT_spec h ha hb

theorem op_bin (hs : SlotsOk ρ s.H.length s.sl a.tmps) {op : BinOp} {t t' : TypeId} {x y : Operand} (ho : o.op = .binOp op t x y t') (h : opK P C q s K o) : PureStep P c ρ s a o K := by
  simp only [opK, ho] at h
  obtain ⟨ta, h, hx⟩ := force_spec h (read_ok hs x)
  obtain ⟨tb, h, hy⟩ := force_spec h (read_ok hs y)
  obtain ⟨r, u, hk, hr, he⟩ := binQ_spec h hx hy
  refine ⟨r, u, hk, hr, fun w _ => ?_⟩
  have he := he x y w
  simp only [execOp, ho, Sem.run_bind] at he ⊢
  rw [he]
  rfl

theorem op_field (hs : SlotsOk ρ s.H.length s.sl a.tmps) {ty : TypeId} {x : Operand} {k : Nat} (ho : o.op = .field ty x k) (h : opK P C q s K o) : PureStep P c ρ s a o K := by
  simp only [opK, ho] at h
  obtain ⟨ta, h, hx⟩ := force_spec h (read_ok hs x)
  split at h
  · rename_i o' fty hf
    split at h
    · rename_i u hu
      have hcons : ∃ h t, ta = .cons h t := by
        cases ta <;> first | exact ⟨_, _, rfl⟩ | (simp [T.getF] at hu; done)
      obtain ⟨th, tl, rfl⟩ := hcons
      obtain ⟨hv, hg⟩ := hx
      have hg : Good s.H.length (.cons th tl) := hg
      obtain ⟨g1, l1, _, c1⟩ := getF_spec (ρ := ρ) (m := fun _ => none) (o := 0) hg hu
      have hv' : a.eval x = .agg (cells ρ (.cons th tl)).toArray := hv.symm
      -- the piece, forced
      have key : ∃ u', K (R.ret u') s.H ∧ Good s.H.length u' ∧ fitsT P fty u' = true ∧ cells ρ u' = cells ρ u ∧ u'.size = u.size := by
        obtain ⟨u', k1, k2, k3⟩ := forceP_any h g1
        split at k1
        · rename_i hf; exact ⟨u', k1, k2, hf, (k3 ρ).1, (k3 ρ).2.1⟩
        · exact k1.elim
      obtain ⟨u', k1, k2, k3, k4, k5⟩ := key
      refine ⟨_, _, k1, SlOk.of_good k2, fun w _ => ?_⟩
      unfold fieldOff at hf
      split at hf
      · rename_i fs hus
        split at hf
        · rename_i f hfk
          simp only [Option.some.injEq, Prod.mk.injEq] at hf
          obtain ⟨rfl, rfl⟩ := hf
          have hfk' : fs[k]? = some f := by simpa using hfk
          have hp := part_run (P := P) (ρ := ρ) k2 k3 (cs := (cells ρ (.cons th tl)).toArray) (o := f.offset) (fun j hj => by
            rw [k5] at hj
            rw [k4, ← c1 j hj]
            simp) w
          simp only [execOp, ho, hv', Instr.field, Sem.run_bind, run_underlying hus, Result.andThen_ok, hfk', asAgg, Sem.run_pure, hp]
        · cases hf
      · cases hf
    · exact h.elim
  · exact h.elim

theorem op_extract (hs : SlotsOk ρ s.H.length s.sl a.tmps) {x : Operand} {k : Nat} (ho : o.op = .extract x k) (h : opK P C q s K o) : PureStep P c ρ s a o K := by
  simp only [opK, ho] at h
  obtain ⟨ta, h, hx⟩ := force_spec h (read_ok hs x)
  split at h
  · rename_i ts
    split at h
    · rename_i u hu
      obtain ⟨hv, hg⟩ := hx
      have hg : Good s.H.length ts := hg
      have key : ∀ {ts : T} {k : Nat} {u : T}, tupGet ts k = some u → Good s.H.length ts → Good s.H.length u ∧ (ts.cv ρ).vals[k]? = some (val ρ u) := by
        intro ts
        induction ts with
        | cons h t _ ih =>
          intro k u e g
          cases k with
          | zero => simp only [tupGet, Option.some.injEq] at e; subst e; exact ⟨g.1, rfl⟩
          | succ k => simp only [tupGet] at e; have := ih e g.2; exact ⟨this.1, by simpa [T.cv] using this.2⟩
        | _ => intro k u e; simp [tupGet] at e
      obtain ⟨g1, e1⟩ := key hu hg
      refine ⟨_, _, h, SlOk.of_good g1, fun w _ => ?_⟩
      have e2 : ((ts.cv ρ).vals.toArray)[k]? = some (val ρ u) := by simpa using e1
      simp only [execOp, ho, ← hv, Sx.val, T.cv, sc, Instr.extract, e2]; rfl
    · exact h.elim
  · exact h.elim

end
end Go.Sx
