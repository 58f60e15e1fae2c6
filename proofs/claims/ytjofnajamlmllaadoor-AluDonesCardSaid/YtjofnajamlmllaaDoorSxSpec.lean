import Derived.Test.YtjofnajamlmllaaDoorSxEmbed
namespace Go.Sx

/-! ## What is told of a function, and what shows it -/
/-- What may be taken as given where the call begins. -/
def Out.pre : Out → Prop
  | .need p o => p ∧ o.pre
  | _ => True

/-- An end that has been told. -/
def Out.meets (n0 : Nat) (Hp : List Reg) (r : R) (H1 : List Reg) : Out → Prop
  | .fail => True
  | .need p o => p → o.meets n0 Hp r H1
  | .br p a b => (p → a.meets n0 Hp r H1) ∧ (¬ p → b.meets n0 Hp r H1)
  | .retq v => fin n0 r H1 (.ret v) Hp
  | .ret v H' => fin n0 r H1 (.ret v) H'
  | .pan v H' => fin n0 r H1 (.pan v) H'
  | .any p o => ∃ x, p x ∧ (o x).meets n0 Hp r H1

theorem wp_pre {H : List Reg} {K : R → List Reg → Prop} : ∀ {o : Out}, o.wp false H K → o.pre
  | .need _ _, h => ⟨h.1, wp_pre h.2⟩
  | .fail, _ | .br .., _ | .retq _, _ | .ret .., _ | .pan .., _ | .any .., _ => trivial

theorem wp_meets {n0 : Nat} {H : List Reg} {K : R → List Reg → Prop} {r : R} {H1 : List Reg} : ∀ {o : Out}, o.wp false H K → o.meets n0 H r H1 → ∃ r' H', fin n0 r H1 r' H' ∧ K r' H'
  | .fail, h, _ => h.elim
  | .need _ _, h, m => wp_meets h.2 (m h.1)
  | .br p _ _, h, m => by
    by_cases e : p
    · exact wp_meets (h.1 e) (m.1 e)
    · exact wp_meets (h.2 e) (m.2 e)
  | .retq v, h, m => ⟨_, _, m, h⟩
  | .ret v H', h, m => ⟨_, _, m, h⟩
  | .pan v H', h, m => ⟨_, _, m, h⟩
  | .any p o, h, ⟨x, hx, m⟩ => wp_meets (h x hx) m

/-- A pattern of calls, and what is told of them. -/
structure Pat (α : Type) : Type 1 where
  view : List T → List Reg → Option α
  args : α → List T
  H : α → List Reg
  out : α → Out

def Pat.sp {α : Type} (p : Pat α) : Sp := fun args H => match p.view args H with
  | some x => emb (uniA 0 args H (p.args x) (p.H x)) args H (p.args x) (p.H x) (p.out x)
  | none => .fail

/-- What is to be shown of a function. -/
def Pat.vc {α : Type} (p : Pat α) (P : Program) (C : Cfg) (fn : Func) (x : α) : Prop :=
  (p.out x).pre → fnK P C fn (p.args x) (p.H x) (fun r H1 => (p.out x).meets (p.H x).length (p.H x) r H1)

theorem Pat.spec {α : Type} {p : Pat α} {P : Program} {C : Cfg} {f : FuncId} {fn : Func} (hC : CfgOk P C) (hf : P.funcs[f]? = some fn) {x : α} (h : p.vc P C fn x) {K : R → List Reg → Prop} (hw : (p.out x).wp false (p.H x) K) :
    Spec P f (p.args x) (p.H x) K :=
  (fn_sound hC hf (h (wp_pre hw))).fin fun _ _ hm => wp_meets hw hm

/-- A thing shown, that nobody unfolds. -/
structure Shown (p : Prop) : Prop where
  out : p

theorem Pat.okS {α : Type} {p : Pat α} {P : Program} {C : α → Cfg} {f : FuncId} {fn : Func} (hC : ∀ x, CfgOk P (C x)) (hb : bodyOk P f = true) (hf : P.funcs[f]? = some fn) (hn : ∀ x, noTop (p.args x) = true) (h : ∀ x, Shown (p.vc P (C x) fn x)) :
    SpOk P f p.sp := by
  intro args H K hw
  unfold Pat.sp at hw
  split at hw
  · exact call_of_spec hb (Spec.emb (hn _) (fun K' hK' => Pat.spec (hC _) hf (h _).out hK') hw)
  · exact hw.elim

theorem Pat.ok {α : Type} {p : Pat α} {P : Program} {C : α → Cfg} {f : FuncId} {fn : Func} (hC : ∀ x, CfgOk P (C x)) (hb : bodyOk P f = true) (hf : P.funcs[f]? = some fn) (hn : ∀ x, noTop (p.args x) = true) (h : ∀ x, p.vc P (C x) fn x) :
    SpOk P f p.sp := by
  intro args H K hw
  unfold Pat.sp at hw
  split at hw
  · exact call_of_spec hb (Spec.emb (hn _) (fun K' hK' => Pat.spec (hC _) hf (h _) hK') hw)
  · exact hw.elim

/-! small rules for what is reckoned -/
theorem cond_nbeq {α : Type} (a b : Nat) (x y : α) : (bif Nat.beq a b then x else y) = if a = b then x else y := by
  cases h : Nat.beq a b with
  | true => rw [if_pos (Nat.eq_of_beq_eq_true h)]; rfl
  | false => rw [if_neg (Nat.ne_of_beq_eq_false h)]; rfl
theorem nblt_iff {a b : Nat} : Nat.blt a b = true ↔ a < b := ⟨fun h => Nat.le_of_ble_eq_true h, fun h => Nat.ble_eq_true_of_le h⟩
theorem nblt_true {a b : Nat} : (Nat.blt a b = true) = (a < b) := propext nblt_iff
theorem nblt_false {a b : Nat} : (Nat.blt a b = false) = (b ≤ a) := by
  refine propext ⟨fun h => ?_, fun h => ?_⟩
  · refine Nat.le_of_not_lt fun e => ?_
    rw [nblt_iff.2 e] at h
    cases h
  · cases e : Nat.blt a b with
    | true => rw [nblt_iff] at e; omega
    | false => rfl
theorem cond_nblt {α : Type} (a b : Nat) (x y : α) : (bif Nat.blt a b then x else y) = if a < b then x else y := by
  cases h : Nat.blt a b with
  | true => rw [nblt_true] at h; rw [if_pos h]; rfl
  | false => rw [nblt_false] at h; rw [if_neg (by omega)]; rfl
theorem cond_dec {α : Type} (p : Prop) [Decidable p] (x y : α) : (bif decide p then x else y) = if p then x else y := by
  by_cases h : p <;> simp [h]

/-! what a value says -/
def tInt : T → Int
  | .int _ n => n
  | _ => 0
def tBool : T → Bool
  | .bool b => b
  | .tt => true
  | _ => false
def tStr : T → ByteArray
  | .str s => s
  | _ => ByteArray.empty
def tLen : T → Nat
  | .slice _ _ _ _ _ n _ => n
  | .ite _ _ (.slice _ _ _ _ _ n _) => n
  | .arr n _ _ => n
  | _ => 0
def tCap : T → Nat
  | .slice _ _ _ _ _ _ n => n
  | .ite _ _ (.slice _ _ _ _ _ _ n) => n
  | _ => 0
def tLo : T → Nat
  | .slice _ _ _ n _ _ _ => n
  | .ite _ _ (.slice _ _ _ n _ _ _) => n
  | _ => 0
def tNil : T → Bool
  | .ite b _ _ => b
  | .nils => true
  | .nilp => true
  | _ => false
def tIx : T → Nat
  | .ptr _ i _ => i
  | .slice _ i _ _ _ _ _ => i
  | .ite _ _ (.slice _ i _ _ _ _ _) => i
  | _ => 0
def tArr : T → Nat → T
  | .arr _ _ f, j => f j
  | _, _ => .top
def tAt : T → Nat → T
  | .cons h _, 0 => h
  | .cons _ t, n + 1 => tAt t n
  | _, _ => .top
/-- What a plain region holds. -/
def regC (H : List Reg) (r : Nat) : T := match getReg H r with
  | some g => g.c 0
  | none => .top
/-- What a member of a family holds. -/
def regF (H : List Reg) (r i : Nat) : T := match getReg H r with
  | some g => g.c i
  | none => .top
def tRef : T → Nat
  | .ptr r _ _ => r
  | .slice r _ _ _ _ _ _ => r
  | .ite _ _ (.slice r _ _ _ _ _ _) => r
  | _ => 0

/-! one told thing where an argument is nil, another where it isn't -/
def isNilT : T → Bool
  | .nils => true
  | .nilp => true
  | _ => false
def altSp (k : Nat) (a b : Sp) : Sp := fun args H => match isNilT (getSl args k) with
  | true => a args H
  | false => b args H
theorem altSp_ok {P : Program} {f : FuncId} {k : Nat} {a b : Sp} (ha : SpOk P f a) (hb : SpOk P f b) : SpOk P f (altSp k a b) := by
  intro args H K h
  unfold altSp at h
  split at h
  · exact ha args H K h
  · exact hb args H K h

/-- One thing told where the world is so, another where it isn't. -/
def altH (c : List T → List Reg → Bool) (a b : Sp) : Sp := fun args H => match c args H with
  | true => a args H
  | false => b args H
theorem altH_ok {P : Program} {f : FuncId} {c : List T → List Reg → Bool} {a b : Sp} (ha : SpOk P f a) (hb : SpOk P f b) : SpOk P f (altH c a b) := by
  intro args H K h
  unfold altH at h
  split at h
  · exact ha args H K h
  · exact hb args H K h

/-! states written out -/
def mkSl (n : Nat) (l : List (Nat × T)) : Sl := slPut l (slNew n)
/-- A pointer to the beginning of a plain region. -/
def p0 (r : Nat) : T := .ptr r 0 []
def onlyAt (n : Nat) (l : List Fam) : Nat → Gam := fun k => match Nat.beq k n with
  | true => .l l
  | false => .l []

end Go.Sx
