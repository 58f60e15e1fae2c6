import Derived.Test.YtnicidiocncjdaaH4
open Go Go.Sx Go.Proofs
set_option maxRecDepth 100000
namespace Go.Proofs.Ytnicidiocncjdaa
open Go.RowKit Go.Shelf Go.Lib Go.Sort

def sfNP : Pat Unit where
  view | [.nils, .fn 30 .nil], _ => some () | _, _ => none
  args _ := [.nils, .fn 30 .nil]
  H _ := []
  out _ := .retq (.tup .nil)
theorem sfN_ok : SpOk Try.prog 34 sfNP.sp := Pat.okH (by kernel_rfl) (fun _ => rfl) fun _ K hw ρ w hk hg => by
  have hc := AnyF.slices_SortFunc_none { Try.sortIt with } none 0 (.func (.func 30) #[] #[]) w
  refine hc.mono ?_
  rintro e w' ⟨rfl, rfl⟩
  exact ⟨_, ρ, _, hw, WRel.refl hk, by simp [val, T.cv, sc], trivial⟩
def aseqNP : Pat Unit where
  view | [.nils, .fn 35 (.cons (.ptr _ 0 []) .nil)], _ => some () | _, _ => none
  args _ := [.nils, .fn 35 (.cons (p0 0) .nil)]
  H _ := [newReg 52 .nils]
  out _ := .retq .nils
theorem aseqN_ok : SpOk Try.prog 39 aseqNP.sp := Pat.okH (by kernel_rfl) (fun _ => rfl) fun _ K hw ρ w hk hg => by
  have hb := (hk.holds 0 _ 0 rfl rfl).2
  have hb0 := (hk.own 0 _ 0 rfl rfl rfl).1
  have hblt := hk.lt 0 _ 0 rfl rfl
  have hb : w.cell? ⟨(ρ 0 0).1, (ρ 0 0).2, none⟩ = some (.slice none 0 0) := hb
  rw [hb0] at hb
  have hc := callsIn_wide.1 (appendSeq_in Fence.wide 3 trivial trivial rfl (Nat.le_refl _) (ρ 0 0).1 _ 0 (fun _ => (0, 0)) (Nat.zero_le _) w hblt hb (.inl ⟨rfl, rfl⟩))
  have ea : ((aseqNP.args ()).map (val ρ)).toArray = #[.slice none 0 0, .func (.func 35) #[] #[.pointer (some ⟨(ρ 0 0).1, 0, none⟩)]] := by
    simp only [aseqNP, List.map, val, T.cv, sc, p0, pla, off, hb0]
  show Calls Try.prog _ ((aseqNP.args ()).map (val ρ)).toArray w _
  rw [ea]
  refine hc.mono ?_
  rintro e w' ⟨v, rfl, hown, hnil, hB⟩
  have hv := hnil.2 rfl
  subst hv
  exact ⟨_, ρ, _, hw, wrel_below hk hB, rfl, trivial⟩
def nilAt (k : Nat) : List T → List Reg → Bool := fun args H => match getSl args k with
  | .fn _ (.cons p .nil) => isNilT (regC H (tRef p))
  | _ => false
def nilAt1 : List T → List Reg → Bool := nilAt 1
def nilAt0 : List T → List Reg → Bool := nilAt 0




theorem aseq1_ok : SpOk Try.prog 39 aseqP.sp := aseq_ok
theorem sf1_ok : SpOk Try.prog 34 sfP.sp := sf_ok
theorem aseqA_ok : SpOk Try.prog 39 (altH nilAt1 (aseqNP.sp) (aseqP.sp)) := altH_ok aseqN_ok aseq1_ok

theorem sfA_ok : SpOk Try.prog 34 (altSp 0 (sfNP.sp) (sfP.sp)) := altSp_ok sfN_ok sf1_ok

def seqV (r : Nat) : T := .fn 35 (.cons (p0 r) .nil)
def valsP : Pat IS where
  view | [t], H => some (viewIS t H) | _, _ => none
  args x := [x.v 0]
  H x := [x.row]
  out x := .ret (seqV 1) [x.row, newReg 52 (x.v 0)]
theorem vals1_vc : ∀ (x : IS), True → ((True ∧ True) ∧ True) ∧ True ∧ (x.cap * (2 : Nat) ≤ x.cap * (2 : Nat) ∧ x.n = x.n ∧ ∀ (j : Nat), j < x.n → (x.f j).fst = (x.f j).fst ∧ (x.f j).snd = (x.f j).snd ∧ True) ∧ ((1 : Nat) ≤ (1 : Nat) ∧ True
  ∧ True ∧ (0 : Nat) = (0 : Nat) ∧ x.n = x.n ∧ x.cap = x.cap) ∧ True := by
  simp only [eq_self, Nat.le_refl, implies_true, and_self]

def vals1_C (_ : IS) : Cfg := { Γ := Go.Sx.look [], names := true }
theorem vals1_al (x : IS) : Shown (valsP.vc Try.prog (vals1_C x) Try.f29 x) := ⟨@Eq.mp _ _ (by kernel_rfl) (vals1_vc x)⟩
theorem vals1_ok : SpOk Try.prog 29 valsP.sp := @Pat.okS _ valsP Try.prog vals1_C 29 Try.f29 (fun x => cfg_nil rfl) (by kernel_rfl) Try.func29 (fun _ => rfl) vals1_al
def valsNP : Pat Unit where
  view | [.nils], _ => some () | _, _ => none
  args _ := [.nils]
  H _ := []
  out _ := .ret (seqV 0) [newReg 52 .nils]
theorem valsN_vc : True → ((True ∧ True) ∧ True) ∧ True ∧ ((1 : Nat) ≤ (1 : Nat) ∧ True) ∧ True := by
  simp only [Nat.le_refl, implies_true, and_self]

def valsN_C (_ : Unit) : Cfg := { Γ := Go.Sx.look [], names := true }
theorem valsN_al (x : Unit) : Shown (valsNP.vc Try.prog (valsN_C x) Try.f29 x) := ⟨@Eq.mp _ _ (by kernel_rfl) (valsN_vc )⟩
theorem valsN_ok : SpOk Try.prog 29 valsNP.sp := @Pat.okS _ valsNP Try.prog valsN_C 29 Try.f29 (fun x => cfg_nil rfl) (by kernel_rfl) Try.func29 (fun _ => rfl) valsN_al
theorem valsA_ok : SpOk Try.prog 29 (altSp 0 (valsNP.sp) (valsP.sp)) := altSp_ok valsN_ok vals1_ok

def colP : Pat IS where
  view | [.fn 35 (.cons (.ptr r 0 []) .nil)], H => some (viewIS (regC H r) H) | _, _ => none
  args _ := [seqV 0]
  H x := [newReg 52 (x.v 1), x.row]
  out x := .need (x.n ≤ 1000000) (.br (x.n = 0) (.retq .nils) (.any (fun c : Nat => x.n ≤ c) fun c => .ret (.slice 2 0 [] 0 2 x.n c) [newReg 52 (x.v 1), x.row, rowReg 57 x.n 2 c (fun j => itT (x.f j))]))
def tCol : Tab := [(39, altH nilAt1 (aseqNP.sp) (aseqP.sp))]
theorem tCol_ok : TabOk Try.prog tCol := (tab_cons aseqA_ok tab_nil)

theorem col1_vc : ∀ (x : IS), x.n ≤ (1000000 : Nat) ∧ True → ((True ∧ ((True ∧ True) ∧ True) ∧ True) ∧ ((1 : Nat) ≤ (1 : Nat) ∧ True ∧ True ∧ (0 : Nat) = (0 : Nat) ∧ x.n = x.n ∧ x.cap = x.cap) ∧ (x.cap * (2 : Nat) ≤ x.cap * (2 : Nat) ∧
  x.n = x.n ∧ ∀ (j : Nat), j < x.n → (x.f j).fst = (x.f j).fst ∧ (x.f j).snd = (x.f j).snd ∧ True) ∧ True) ∧ x.n ≤ (1000000 : Nat) ∧ (x.n = (0 : Nat) → x.n ≤ (1000000 : Nat) → (x.n = (0 : Nat) → True ∧ True ∧ ((1 : Nat) ≤
  (1 : Nat) ∧ True ∧ True ∧ (0 : Nat) = (0 : Nat) ∧ x.n = x.n ∧ x.cap = x.cap) ∧ (x.cap * (2 : Nat) ≤ x.cap * (2 : Nat) ∧ x.n = x.n ∧ ∀ (j : Nat), j < x.n → (x.f j).fst = (x.f j).fst ∧ (x.f j).snd = (x.f j).snd ∧ True) ∧
  True) ∧ (¬x.n = (0 : Nat) → ∃ (x_1 : Nat), x.n ≤ x_1 ∧ False ∧ False)) ∧ (¬x.n = (0 : Nat) → ∀ (x_1 : Nat), x.n ≤ x_1 → x.n ≤ (1000000 : Nat) → (x.n = (0 : Nat) → False ∧ True ∧ ((1 : Nat) ≤ (1 : Nat) ∧ True ∧ True ∧ (0
  : Nat) = (0 : Nat) ∧ x.n = x.n ∧ x.cap = x.cap) ∧ (x.cap * (2 : Nat) ≤ x.cap * (2 : Nat) ∧ x.n = x.n ∧ ∀ (j : Nat), j < x.n → (x.f j).fst = (x.f j).fst ∧ (x.f j).snd = (x.f j).snd ∧ True) ∧ True) ∧ (¬x.n = (0 : Nat) → ∃
  (x_2 : Nat), x.n ≤ x_2 ∧ (True ∧ True ∧ (0 : Nat) = (0 : Nat) ∧ x.n = x.n ∧ x_1 = x_2) ∧ True ∧ ((1 : Nat) ≤ (1 : Nat) ∧ True ∧ True ∧ (0 : Nat) = (0 : Nat) ∧ x.n = x.n ∧ x.cap = x.cap) ∧ (x.cap * (2 : Nat) ≤ x.cap * (2
  : Nat) ∧ x.n = x.n ∧ ∀ (j : Nat), j < x.n → (x.f j).fst = (x.f j).fst ∧ (x.f j).snd = (x.f j).snd ∧ True) ∧ (x_2 * (2 : Nat) ≤ x_1 * (2 : Nat) ∧ x.n = x.n ∧ ∀ (j : Nat), j < x.n → (x.f j).fst = (x.f j).fst ∧ (x.f j).snd
  = (x.f j).snd ∧ True) ∧ True)) := by
  simp only [true_and, and_true, eq_self, Nat.le_refl, implies_true, and_self]
  exact fun x h => ⟨h, fun h0 _ h1 => absurd h0 h1, fun h0 c hc _ => ⟨fun h => h0 h, fun _ => ⟨c, hc, rfl, Nat.le_refl _⟩⟩⟩

def col1_C (_ : IS) : Cfg := { Γ := Go.Sx.look tCol, names := true }
theorem col1_al (x : IS) : Shown (colP.vc Try.prog (col1_C x) Try.f33 x) := ⟨@Eq.mp _ _ (by kernel_rfl) (col1_vc x)⟩
theorem col1_ok : SpOk Try.prog 33 colP.sp := @Pat.okS _ colP Try.prog col1_C 33 Try.f33 (fun x => cfg_tab rfl tCol_ok) (by kernel_rfl) Try.func33 (fun _ => rfl) col1_al
def colNP : Pat Unit where
  view | [.fn 35 (.cons (.ptr _ 0 []) .nil)], _ => some () | _, _ => none
  args _ := [seqV 0]
  H _ := [newReg 52 .nils]
  out _ := .retq .nils
theorem colN_vc : True → ((True ∧ ((True ∧ True) ∧ True) ∧ True) ∧ ((1 : Nat) ≤ (1 : Nat) ∧ True) ∧ True) ∧ True ∧ True ∧ ((1 : Nat) ≤ (1 : Nat) ∧ True) ∧ True := by
  simp only [Nat.le_refl, implies_true, and_self]

def colN_C (_ : Unit) : Cfg := { Γ := Go.Sx.look tCol, names := true }
theorem colN_al (x : Unit) : Shown (colNP.vc Try.prog (colN_C x) Try.f33 x) := ⟨@Eq.mp _ _ (by kernel_rfl) (colN_vc )⟩
theorem colN_ok : SpOk Try.prog 33 colNP.sp := @Pat.okS _ colNP Try.prog colN_C 33 Try.f33 (fun x => cfg_tab rfl tCol_ok) (by kernel_rfl) Try.func33 (fun _ => rfl) colN_al
theorem colA_ok : SpOk Try.prog 33 (altH nilAt0 (colNP.sp) (colP.sp)) := altH_ok colN_ok col1_ok

def sortedP : Pat IS where
  view | [.fn 35 (.cons (.ptr r 0 []) .nil), .fn 30 .nil], H => some (viewIS (regC H r) H) | _, _ => none
  args _ := [seqV 0, .fn 30 .nil]
  H x := [newReg 52 (x.v 1), x.row]
  out x := .need (x.n ≤ 1000000) (.br (x.n = 0) (.retq .nils) (.any (fun z : (Nat → It) × Nat => Srt x.n x.f z.1 ∧ x.n ≤ z.2) fun z => .ret (.slice 2 0 [] 0 2 x.n z.2) [newReg 52 (x.v 1), x.row, rowReg 57 x.n 2 z.2 (fun j => itT (z.1 j))]))
def tSorted : Tab := [(33, altH nilAt0 (colNP.sp) (colP.sp)), (34, altSp 0 (sfNP.sp) (sfP.sp))]
theorem tSorted_ok : TabOk Try.prog tSorted := (tab_cons colA_ok (tab_cons sfA_ok tab_nil))

theorem sorted1_vc : ∀ (x : IS), x.n ≤ (1000000 : Nat) ∧ True → ((((True ∧ True) ∧ True) ∧ True) ∧ ((1 : Nat) ≤ (1 : Nat) ∧ True ∧ True ∧ (0 : Nat) = (0 : Nat) ∧ x.n = x.n ∧ x.cap = x.cap) ∧ (x.cap * (2 : Nat) ≤ x.cap * (2 : Nat) ∧ x.n = x.n
  ∧ ∀ (j : Nat), j < x.n → (x.f j).fst = (x.f j).fst ∧ (x.f j).snd = (x.f j).snd ∧ True) ∧ True) ∧ x.n ≤ (1000000 : Nat) ∧ (x.n = (0 : Nat) → ((True ∧ True ∧ True) ∧ True) ∧ (x.n ≤ (1000000 : Nat) → (x.n = (0 : Nat) → True
  ∧ True ∧ ((1 : Nat) ≤ (1 : Nat) ∧ True ∧ True ∧ (0 : Nat) = (0 : Nat) ∧ x.n = x.n ∧ x.cap = x.cap) ∧ (x.cap * (2 : Nat) ≤ x.cap * (2 : Nat) ∧ x.n = x.n ∧ ∀ (j : Nat), j < x.n → (x.f j).fst = (x.f j).fst ∧ (x.f j).snd =
  (x.f j).snd ∧ True) ∧ True) ∧ (¬x.n = (0 : Nat) → ∃ (x_1 : (Nat → It) × Nat), (Srt x.n x.f x_1.fst ∧ x.n ≤ x_1.snd) ∧ False ∧ False))) ∧ (¬x.n = (0 : Nat) → ∀ (x_1 : Nat), x.n ≤ x_1 → (((True ∧ True ∧ (0 : Nat) = (0 :
  Nat) ∧ x.n = x.n ∧ x_1 = x_1) ∧ True ∧ True) ∧ (x_1 * (2 : Nat) ≤ x_1 * (2 : Nat) ∧ x.n = x.n ∧ ∀ (j : Nat), j < x.n → (x.f j).fst = (x.f j).fst ∧ (x.f j).snd = (x.f j).snd ∧ True) ∧ True) ∧ (x.n ≤ (1000000 : Nat) ∧ x.n
  ≤ x_1) ∧ ∀ (x_2 : Nat → It), Srt x.n (fun (j : Nat) => ((x.f j).fst, (x.f j).snd)) x_2 → x.n ≤ (1000000 : Nat) → (x.n = (0 : Nat) → False ∧ True ∧ ((1 : Nat) ≤ (1 : Nat) ∧ True ∧ True ∧ (0 : Nat) = (0 : Nat) ∧ x.n = x.n
  ∧ x.cap = x.cap) ∧ (x.cap * (2 : Nat) ≤ x.cap * (2 : Nat) ∧ x.n = x.n ∧ ∀ (j : Nat), j < x.n → (x.f j).fst = (x.f j).fst ∧ (x.f j).snd = (x.f j).snd ∧ True) ∧ True) ∧ (¬x.n = (0 : Nat) → ∃ (x_3 : (Nat → It) × Nat), (Srt
  x.n x.f x_3.fst ∧ x.n ≤ x_3.snd) ∧ (True ∧ True ∧ (0 : Nat) = (0 : Nat) ∧ x.n = x.n ∧ x_1 = x_3.snd) ∧ True ∧ ((1 : Nat) ≤ (1 : Nat) ∧ True ∧ True ∧ (0 : Nat) = (0 : Nat) ∧ x.n = x.n ∧ x.cap = x.cap) ∧ (x.cap * (2 : Nat)
  ≤ x.cap * (2 : Nat) ∧ x.n = x.n ∧ ∀ (j : Nat), j < x.n → (x.f j).fst = (x.f j).fst ∧ (x.f j).snd = (x.f j).snd ∧ True) ∧ (x_3.snd * (2 : Nat) ≤ x_1 * (2 : Nat) ∧ x.n = x.n ∧ ∀ (j : Nat), j < x.n → (x_2 j).fst = (x_3.fst
  j).fst ∧ (x_2 j).snd = (x_3.fst j).snd ∧ True) ∧ True)) := by
  simp only [true_and, and_true, eq_self, Nat.le_refl, implies_true, and_self]
  exact fun x h => ⟨h, fun h0 _ h1 => absurd h0 h1, fun h0 c hc => ⟨⟨h, hc⟩, fun g hg _ => ⟨fun h => h0 h, fun _ => ⟨(g, c), ⟨hg, hc⟩, rfl, Nat.le_refl _, fun _ _ => ⟨rfl, rfl⟩⟩⟩⟩⟩

def sorted1_C (_ : IS) : Cfg := { Γ := Go.Sx.look tSorted, names := true }
theorem sorted1_al (x : IS) : Shown (sortedP.vc Try.prog (sorted1_C x) Try.f28 x) := ⟨@Eq.mp _ _ (by kernel_rfl) (sorted1_vc x)⟩
theorem sorted1_ok : SpOk Try.prog 28 sortedP.sp := @Pat.okS _ sortedP Try.prog sorted1_C 28 Try.f28 (fun x => cfg_tab rfl tSorted_ok) (by kernel_rfl) Try.func28 (fun _ => rfl) sorted1_al
def sortedNP : Pat Unit where
  view | [.fn 35 (.cons (.ptr _ 0 []) .nil), .fn 30 .nil], _ => some () | _, _ => none
  args _ := [seqV 0, .fn 30 .nil]
  H _ := [newReg 52 .nils]
  out _ := .retq .nils
theorem sortedN_vc : True → ((((True ∧ True) ∧ True) ∧ True) ∧ ((1 : Nat) ≤ (1 : Nat) ∧ True) ∧ True) ∧ ((True ∧ True ∧ True) ∧ True) ∧ True ∧ True ∧ ((1 : Nat) ≤ (1 : Nat) ∧ True) ∧ True := by
  simp only [Nat.le_refl, implies_true, and_self]

def sortedN_C (_ : Unit) : Cfg := { Γ := Go.Sx.look tSorted, names := true }
theorem sortedN_al (x : Unit) : Shown (sortedNP.vc Try.prog (sortedN_C x) Try.f28 x) := ⟨@Eq.mp _ _ (by kernel_rfl) (sortedN_vc )⟩
theorem sortedN_ok : SpOk Try.prog 28 sortedNP.sp := @Pat.okS _ sortedNP Try.prog sortedN_C 28 Try.f28 (fun x => cfg_tab rfl tSorted_ok) (by kernel_rfl) Try.func28 (fun _ => rfl) sortedN_al
theorem sortedA_ok : SpOk Try.prog 28 (altH nilAt0 (sortedNP.sp) (sortedP.sp)) := altH_ok sortedN_ok sorted1_ok

/-- The heap, where it has a row. -/
structure HP where
  n : Nat
  cap : Nat
  id : Nat → Int
  key : Nat → Int
  at_ : Nat → Int
def meT (items : T) (a : Nat → Int) : T := .cons items (.cons (.arr 64 1 (fun j => .int .i64 (a j))) .nil)
def HP.f (h : HP) (j : Nat) : It := (h.id j, h.key j)
def HP.me (h : HP) (r : Nat) : Reg := newReg 55 (meT (.slice r 0 [] 0 2 h.n h.cap) h.at_)
/-- A row of which a part will do. -/
def rowP (e n sz cap : Nat) (f : Nat → T) : Reg := { own := true, pl := true, fam := 2, el := e, tot := fun _ => cap * sz, c := fun _ => .arr n sz f }
def HP.row (h : HP) : Reg := rowP 57 h.n 2 h.cap (fun j => itT (h.id j, h.key j))
def viewHP (r : Nat) (H : List Reg) : HP :=
  let t := regC H r
  let a := regC H (tRef (tAt t 0))
  ⟨tLen (tAt t 0), tCap (tAt t 0), fun j => tInt (tAt (tArr a j) 0), fun j => tInt (tAt (tArr a j) 1), fun j => tInt (tArr (tAt t 1) j)⟩
def nilMe : List T → List Reg → Bool := fun args H => isNilT (tAt (regC H (tRef (getSl args 0))) 0)
def listP : Pat HP where
  view | [.ptr r 0 []], H => some (viewHP r H) | _, _ => none
  args _ := [p0 0]
  H h := [h.me 1, h.row]
  out h := .need (h.n ≤ 1000) (.br (h.n = 0) (.retq .nils) (.any (fun z : (Nat → It) × Nat => Srt h.n h.f z.1 ∧ h.n ≤ z.2) fun z => .ret (.slice 2 0 [] 0 1 h.n z.2) [h.me 1, h.row, rowReg 3 h.n 1 z.2 (fun j => .int .i64 (z.1 j).1)]))
structure LI where
  g : Nat → It
  c : Nat
  i : Nat
  d : Nat
def liF0 (h : HP) : Fam where
  α := Bool
  I _ := h.n = 0
  st _ := { sl := mkSl 24 [(3, .nils), (11, .nils), (12, .int .i64 0), (13, .int .i64 0)], H := [h.me 1, h.row] }
  μ _ := 0
def liF1 (h : HP) : Fam where
  α := LI
  I z := h.n ≠ 0 ∧ Srt h.n h.f z.g
  st z := { sl := mkSl 24 [(3, .nils), (11, .slice 2 0 [] 0 2 h.n z.c), (12, .int .i64 h.n), (13, .int .i64 0)], H := [h.me 1, h.row, rowReg 57 h.n 2 z.c (fun j => itT (z.g j))] }
  μ _ := h.n + 1
def liF2 (h : HP) : Fam where
  α := LI
  I z := 1 ≤ z.i ∧ z.i ≤ h.n ∧ z.i ≤ z.d ∧ Srt h.n h.f z.g
  st z := { sl := mkSl 24 [(3, .slice 3 0 [] 0 1 z.i z.d), (11, .slice 2 0 [] 0 2 h.n z.c), (12, .int .i64 h.n), (13, .int .i64 z.i)], H := [h.me 1, h.row, rowReg 57 h.n 2 z.c (fun j => itT (z.g j)), rowReg 3 z.i 1 z.d (fun j => .int .i64 (z.g j).1)] }
  μ z := h.n - z.i
def tList : Tab := [(29, altSp 0 (valsNP.sp) (valsP.sp)), (28, altH nilAt0 (sortedNP.sp) (sortedP.sp))]
theorem tList_ok : TabOk Try.prog tList := (tab_cons valsA_ok (tab_cons sortedA_ok tab_nil))

theorem list1_vc : ∀ (h : HP), h.n ≤ (1000 : Nat) ∧ True → (((True ∧ True ∧ (0 : Nat) = (0 : Nat) ∧ h.n = h.n ∧ h.cap = h.cap) ∧ True) ∧ (h.cap * (2 : Nat) ≤ h.cap * (2 : Nat) ∧ h.n = h.n ∧ ∀ (j : Nat), j < h.n → h.id j = h.id j ∧ h.key j
  = h.key j ∧ True) ∧ True) ∧ ((((True ∧ True) ∧ True) ∧ True ∧ True) ∧ ((1 : Nat) ≤ (1 : Nat) ∧ True ∧ True ∧ (0 : Nat) = (0 : Nat) ∧ h.n = h.n ∧ h.cap = h.cap) ∧ (h.cap * (2 : Nat) ≤ h.cap * (2 : Nat) ∧ h.n = h.n ∧ ∀ (j
  : Nat), j < h.n → h.id j = h.id j ∧ h.key j = h.key j ∧ True) ∧ True) ∧ h.n ≤ (1000000 : Nat) ∧ (h.n = (0 : Nat) → ((∃ (_ : Bool), h.n = (0 : Nat) ∧ ((True ∧ True ∧ (0 : Int) = (0 : Int) ∧ (0 : Int) = (0 : Int) ∧ True) ∧
  ((65 : Nat) ≤ (65 : Nat) ∧ (True ∧ True ∧ (0 : Nat) = (0 : Nat) ∧ h.n = h.n ∧ h.cap = h.cap) ∧ ((64 : Nat) = (64 : Nat) ∧ ∀ (j : Nat), j < (64 : Nat) → h.at_ j = h.at_ j) ∧ True) ∧ (h.cap * (2 : Nat) ≤ h.cap * (2 : Nat)
  ∧ h.n ≤ h.n ∧ ∀ (j : Nat), j < h.n → h.id j = h.id j ∧ h.key j = h.key j ∧ True) ∧ True) ∧ True) ∨ (∃ (y : LI), (h.n ≠ (0 : Nat) ∧ Srt h.n h.f y.g) ∧ False ∧ True) ∨ ∃ (y : LI), ((1 : Nat) ≤ y.i ∧ y.i ≤ h.n ∧ y.i ≤ y.d ∧
  Srt h.n h.f y.g) ∧ False ∧ True) ∧ (∀ (_ : Bool), h.n = (0 : Nat) → (decide ((0 : Int) < (0 : Int)) = true → False) ∧ (decide ((0 : Int) < (0 : Int)) = false → h.n ≤ (1000 : Nat) → (h.n = (0 : Nat) → True ∧ True ∧ ((65 :
  Nat) ≤ (65 : Nat) ∧ (True ∧ True ∧ (0 : Nat) = (0 : Nat) ∧ h.n = h.n ∧ h.cap = h.cap) ∧ ((64 : Nat) = (64 : Nat) ∧ ∀ (j : Nat), j < (64 : Nat) → h.at_ j = h.at_ j) ∧ True) ∧ (h.cap * (2 : Nat) ≤ h.cap * (2 : Nat) ∧ h.n ≤
  h.n ∧ ∀ (j : Nat), j < h.n → h.id j = h.id j ∧ h.key j = h.key j ∧ True) ∧ True) ∧ (¬h.n = (0 : Nat) → ∃ (x : (Nat → It) × Nat), (Srt h.n h.f x.fst ∧ h.n ≤ x.snd) ∧ False ∧ False))) ∧ (∀ (y : LI), h.n ≠ (0 : Nat) ∧ Srt
  h.n h.f y.g → (decide ((0 : Int) < (↑h.n : Int)) = true → ((0 : Int) ≤ (0 : Int) ∧ (0 : Int) < (↑h.n : Int)) ∧ (0 : Nat) < h.n ∧ (1 : Nat) ≤ (1 : Nat) ∧ ((1 : Nat) = (0 : Nat) → (∃ (y_1 : Bool), h.n = (0 : Nat) ∧ ((True
  ∧ False ∧ (↑h.n : Int) = (0 : Int) ∧ IntKind.i64.wrap ((0 : Int) + (1 : Int)) = (0 : Int) ∧ True) ∧ ((65 : Nat) ≤ (65 : Nat) ∧ (True ∧ True ∧ (0 : Nat) = (0 : Nat) ∧ h.n = h.n ∧ h.cap = h.cap) ∧ ((64 : Nat) = (64 : Nat)
  ∧ ∀ (j : Nat), j < (64 : Nat) → h.at_ j = h.at_ j) ∧ True) ∧ (h.cap * (2 : Nat) ≤ h.cap * (2 : Nat) ∧ h.n ≤ h.n ∧ ∀ (j : Nat), j < h.n → h.id j = h.id j ∧ h.key j = h.key j ∧ True) ∧ True) ∧ (liF0 h).μ y_1 < (liF1 h).μ
  y) ∨ (∃ (y_1 : LI), (h.n ≠ (0 : Nat) ∧ Srt h.n h.f y_1.g) ∧ ((True ∧ (True ∧ True ∧ (0 : Nat) = (0 : Nat) ∧ h.n = h.n ∧ y.c = y_1.c) ∧ (↑h.n : Int) = (↑h.n : Int) ∧ IntKind.i64.wrap ((0 : Int) + (1 : Int)) = (0 : Int) ∧
  True) ∧ ((65 : Nat) ≤ (65 : Nat) ∧ (True ∧ True ∧ (0 : Nat) = (0 : Nat) ∧ h.n = h.n ∧ h.cap = h.cap) ∧ ((64 : Nat) = (64 : Nat) ∧ ∀ (j : Nat), j < (64 : Nat) → h.at_ j = h.at_ j) ∧ True) ∧ (h.cap * (2 : Nat) ≤ h.cap * (2
  : Nat) ∧ h.n ≤ h.n ∧ ∀ (j : Nat), j < h.n → h.id j = h.id j ∧ h.key j = h.key j ∧ True) ∧ (y_1.c * (2 : Nat) ≤ y.c * (2 : Nat) ∧ h.n = h.n ∧ ∀ (j : Nat), j < h.n → (y.g j).fst = (y_1.g j).fst ∧ (y.g j).snd = (y_1.g
  j).snd ∧ True) ∧ True) ∧ (liF1 h).μ y_1 < (liF1 h).μ y) ∨ ∃ (y_1 : LI), ((1 : Nat) ≤ y_1.i ∧ y_1.i ≤ h.n ∧ y_1.i ≤ y_1.d ∧ Srt h.n h.f y_1.g) ∧ False ∧ (liF2 h).μ y_1 < (liF1 h).μ y) ∧ ((1 : Nat) ≠ (0 : Nat) → (8 : Nat)
  ≤ (140737488355328 : Nat) ∧ (1 : Nat) ≤ (9223372036854775807 : Nat) ∧ ∀ (cap : Nat), (1 : Nat) ≤ cap → (∃ (y_1 : Bool), h.n = (0 : Nat) ∧ ((False ∧ False ∧ (↑h.n : Int) = (0 : Int) ∧ IntKind.i64.wrap ((0 : Int) + (1 :
  Int)) = (0 : Int) ∧ True) ∧ ((65 : Nat) ≤ (65 : Nat) ∧ (True ∧ True ∧ (0 : Nat) = (0 : Nat) ∧ h.n = h.n ∧ h.cap = h.cap) ∧ ((64 : Nat) = (64 : Nat) ∧ ∀ (j : Nat), j < (64 : Nat) → h.at_ j = h.at_ j) ∧ True) ∧ (h.cap * (2
  : Nat) ≤ h.cap * (2 : Nat) ∧ h.n ≤ h.n ∧ ∀ (j : Nat), j < h.n → h.id j = h.id j ∧ h.key j = h.key j ∧ True) ∧ True) ∧ (liF0 h).μ y_1 < (liF1 h).μ y) ∨ (∃ (y_1 : LI), (h.n ≠ (0 : Nat) ∧ Srt h.n h.f y_1.g) ∧ ((False ∧
  (True ∧ True ∧ (0 : Nat) = (0 : Nat) ∧ h.n = h.n ∧ y.c = y_1.c) ∧ (↑h.n : Int) = (↑h.n : Int) ∧ IntKind.i64.wrap ((0 : Int) + (1 : Int)) = (0 : Int) ∧ True) ∧ ((65 : Nat) ≤ (65 : Nat) ∧ (True ∧ True ∧ (0 : Nat) = (0 :
  Nat) ∧ h.n = h.n ∧ h.cap = h.cap) ∧ ((64 : Nat) = (64 : Nat) ∧ ∀ (j : Nat), j < (64 : Nat) → h.at_ j = h.at_ j) ∧ True) ∧ (h.cap * (2 : Nat) ≤ h.cap * (2 : Nat) ∧ h.n ≤ h.n ∧ ∀ (j : Nat), j < h.n → h.id j = h.id j ∧
  h.key j = h.key j ∧ True) ∧ (y_1.c * (2 : Nat) ≤ y.c * (2 : Nat) ∧ h.n = h.n ∧ ∀ (j : Nat), j < h.n → (y.g j).fst = (y_1.g j).fst ∧ (y.g j).snd = (y_1.g j).snd ∧ True) ∧ True) ∧ (liF1 h).μ y_1 < (liF1 h).μ y) ∨ ∃ (y_1 :
  LI), ((1 : Nat) ≤ y_1.i ∧ y_1.i ≤ h.n ∧ y_1.i ≤ y_1.d ∧ Srt h.n h.f y_1.g) ∧ (((True ∧ True ∧ (0 : Nat) = (0 : Nat) ∧ (1 : Nat) = y_1.i ∧ cap = y_1.d) ∧ (True ∧ True ∧ (0 : Nat) = (0 : Nat) ∧ h.n = h.n ∧ y.c = y_1.c) ∧
  (↑h.n : Int) = (↑h.n : Int) ∧ IntKind.i64.wrap ((0 : Int) + (1 : Int)) = (↑y_1.i : Int) ∧ True) ∧ ((65 : Nat) ≤ (65 : Nat) ∧ (True ∧ True ∧ (0 : Nat) = (0 : Nat) ∧ h.n = h.n ∧ h.cap = h.cap) ∧ ((64 : Nat) = (64 : Nat) ∧
  ∀ (j : Nat), j < (64 : Nat) → h.at_ j = h.at_ j) ∧ True) ∧ (h.cap * (2 : Nat) ≤ h.cap * (2 : Nat) ∧ h.n ≤ h.n ∧ ∀ (j : Nat), j < h.n → h.id j = h.id j ∧ h.key j = h.key j ∧ True) ∧ (y_1.c * (2 : Nat) ≤ y.c * (2 : Nat) ∧
  h.n = h.n ∧ ∀ (j : Nat), j < h.n → (y.g j).fst = (y_1.g j).fst ∧ (y.g j).snd = (y_1.g j).snd ∧ True) ∧ (y_1.d * (1 : Nat) ≤ cap * (1 : Nat) ∧ y_1.i = (1 : Nat) ∧ ∀ (j : Nat), j < (1 : Nat) → (y.g (0 : Nat)).fst = (y_1.g
  j).fst) ∧ True) ∧ (liF2 h).μ y_1 < (liF1 h).μ y)) ∧ (decide ((0 : Int) < (↑h.n : Int)) = false → h.n ≤ (1000 : Nat) → (h.n = (0 : Nat) → True ∧ True ∧ ((65 : Nat) ≤ (65 : Nat) ∧ (True ∧ True ∧ (0 : Nat) = (0 : Nat) ∧ h.n
  = h.n ∧ h.cap = h.cap) ∧ ((64 : Nat) = (64 : Nat) ∧ ∀ (j : Nat), j < (64 : Nat) → h.at_ j = h.at_ j) ∧ True) ∧ (h.cap * (2 : Nat) ≤ h.cap * (2 : Nat) ∧ h.n ≤ h.n ∧ ∀ (j : Nat), j < h.n → h.id j = h.id j ∧ h.key j = h.key
  j ∧ True) ∧ True) ∧ (¬h.n = (0 : Nat) → ∃ (x : (Nat → It) × Nat), (Srt h.n h.f x.fst ∧ h.n ≤ x.snd) ∧ False ∧ False))) ∧ ∀ (y : LI), (1 : Nat) ≤ y.i ∧ y.i ≤ h.n ∧ y.i ≤ y.d ∧ Srt h.n h.f y.g → (decide ((↑y.i : Int) <
  (↑h.n : Int)) = true → ((0 : Int) ≤ (↑y.i : Int) ∧ (↑y.i : Int) < (↑h.n : Int)) ∧ (0 : Nat) + (↑y.i : Int).toNat < h.n ∧ (1 : Nat) ≤ (1 : Nat) ∧ (y.i + (1 : Nat) ≤ y.d → (8 : Nat) ≤ (281474976710656 : Nat) ∧ ((0 : Nat) +
  y.i ≤ y.i ∧ ((0 : Nat) + y.i + (1 : Nat)) * (1 : Nat) ≤ y.d * (1 : Nat) ∧ (∀ (_ : Nat), (1 : Nat) = (1 : Nat)) ∧ ∀ (_ : Nat), (1 : Nat) = (1 : Nat)) ∧ ((∃ (y_1 : Bool), h.n = (0 : Nat) ∧ ((False ∧ False ∧ (↑h.n : Int) =
  (0 : Int) ∧ IntKind.i64.wrap ((↑y.i : Int) + (1 : Int)) = (0 : Int) ∧ True) ∧ ((65 : Nat) ≤ (65 : Nat) ∧ (True ∧ True ∧ (0 : Nat) = (0 : Nat) ∧ h.n = h.n ∧ h.cap = h.cap) ∧ ((64 : Nat) = (64 : Nat) ∧ ∀ (j : Nat), j < (64
  : Nat) → h.at_ j = h.at_ j) ∧ True) ∧ (h.cap * (2 : Nat) ≤ h.cap * (2 : Nat) ∧ h.n ≤ h.n ∧ ∀ (j : Nat), j < h.n → h.id j = h.id j ∧ h.key j = h.key j ∧ True) ∧ True) ∧ (liF0 h).μ y_1 < (liF2 h).μ y) ∨ (∃ (y_1 : LI), (h.n
  ≠ (0 : Nat) ∧ Srt h.n h.f y_1.g) ∧ ((False ∧ (True ∧ True ∧ (0 : Nat) = (0 : Nat) ∧ h.n = h.n ∧ y.c = y_1.c) ∧ (↑h.n : Int) = (↑h.n : Int) ∧ IntKind.i64.wrap ((↑y.i : Int) + (1 : Int)) = (0 : Int) ∧ True) ∧ ((65 : Nat) ≤
  (65 : Nat) ∧ (True ∧ True ∧ (0 : Nat) = (0 : Nat) ∧ h.n = h.n ∧ h.cap = h.cap) ∧ ((64 : Nat) = (64 : Nat) ∧ ∀ (j : Nat), j < (64 : Nat) → h.at_ j = h.at_ j) ∧ True) ∧ (h.cap * (2 : Nat) ≤ h.cap * (2 : Nat) ∧ h.n ≤ h.n ∧
  ∀ (j : Nat), j < h.n → h.id j = h.id j ∧ h.key j = h.key j ∧ True) ∧ (y_1.c * (2 : Nat) ≤ y.c * (2 : Nat) ∧ h.n = h.n ∧ ∀ (j : Nat), j < h.n → (y.g j).fst = (y_1.g j).fst ∧ (y.g j).snd = (y_1.g j).snd ∧ True) ∧ True) ∧
  (liF1 h).μ y_1 < (liF2 h).μ y) ∨ ∃ (y_1 : LI), ((1 : Nat) ≤ y_1.i ∧ y_1.i ≤ h.n ∧ y_1.i ≤ y_1.d ∧ Srt h.n h.f y_1.g) ∧ (((True ∧ True ∧ (0 : Nat) = (0 : Nat) ∧ y.i + (1 : Nat) = y_1.i ∧ y.d = y_1.d) ∧ (True ∧ True ∧ (0 :
  Nat) = (0 : Nat) ∧ h.n = h.n ∧ y.c = y_1.c) ∧ (↑h.n : Int) = (↑h.n : Int) ∧ IntKind.i64.wrap ((↑y.i : Int) + (1 : Int)) = (↑y_1.i : Int) ∧ True) ∧ ((65 : Nat) ≤ (65 : Nat) ∧ (True ∧ True ∧ (0 : Nat) = (0 : Nat) ∧ h.n =
  h.n ∧ h.cap = h.cap) ∧ ((64 : Nat) = (64 : Nat) ∧ ∀ (j : Nat), j < (64 : Nat) → h.at_ j = h.at_ j) ∧ True) ∧ (h.cap * (2 : Nat) ≤ h.cap * (2 : Nat) ∧ h.n ≤ h.n ∧ ∀ (j : Nat), j < h.n → h.id j = h.id j ∧ h.key j = h.key j
  ∧ True) ∧ (y_1.c * (2 : Nat) ≤ y.c * (2 : Nat) ∧ h.n = h.n ∧ ∀ (j : Nat), j < h.n → (y.g j).fst = (y_1.g j).fst ∧ (y.g j).snd = (y_1.g j).snd ∧ True) ∧ (y_1.d * (1 : Nat) ≤ y.d * (1 : Nat) ∧ (y_1.i = if y.i ≤ (0 : Nat) +
  y.i + (1 : Nat) then (0 : Nat) + y.i + (1 : Nat) else y.i) ∧ ∀ (j : Nat), (j < if y.i ≤ (0 : Nat) + y.i + (1 : Nat) then (0 : Nat) + y.i + (1 : Nat) else y.i) → (j.blt ((0 : Nat) + y.i) = true → (y.g j).fst = (y_1.g
  j).fst) ∧ (j.blt ((0 : Nat) + y.i) = false → (j.blt ((0 : Nat) + y.i + (1 : Nat)) = true → (y.g ((0 : Nat) + (↑y.i : Int).toNat)).fst = (y_1.g j).fst) ∧ (j.blt ((0 : Nat) + y.i + (1 : Nat)) = false → (y.g j).fst = (y_1.g
  j).fst))) ∧ True) ∧ (liF2 h).μ y_1 < (liF2 h).μ y)) ∧ (y.d < y.i + (1 : Nat) → ((0 : Nat) + y.i ≤ y.i ∧ (y.i + (1 : Nat)) * (8 : Nat) ≤ (140737488355328 : Nat) ∧ y.i + (1 : Nat) ≤ (9223372036854775807 : Nat) ∧ (∀ (_ :
  Nat), (1 : Nat) = (1 : Nat)) ∧ ∀ (_ : Nat), (1 : Nat) = (1 : Nat)) ∧ ∀ (cap' : Nat), y.i + (1 : Nat) ≤ cap' → (∃ (y_1 : Bool), h.n = (0 : Nat) ∧ ((False ∧ False ∧ (↑h.n : Int) = (0 : Int) ∧ IntKind.i64.wrap ((↑y.i : Int)
  + (1 : Int)) = (0 : Int) ∧ True) ∧ ((65 : Nat) ≤ (65 : Nat) ∧ (True ∧ True ∧ (0 : Nat) = (0 : Nat) ∧ h.n = h.n ∧ h.cap = h.cap) ∧ ((64 : Nat) = (64 : Nat) ∧ ∀ (j : Nat), j < (64 : Nat) → h.at_ j = h.at_ j) ∧ True) ∧
  (h.cap * (2 : Nat) ≤ h.cap * (2 : Nat) ∧ h.n ≤ h.n ∧ ∀ (j : Nat), j < h.n → h.id j = h.id j ∧ h.key j = h.key j ∧ True) ∧ True) ∧ (liF0 h).μ y_1 < (liF2 h).μ y) ∨ (∃ (y_1 : LI), (h.n ≠ (0 : Nat) ∧ Srt h.n h.f y_1.g) ∧
  ((False ∧ (True ∧ True ∧ (0 : Nat) = (0 : Nat) ∧ h.n = h.n ∧ y.c = y_1.c) ∧ (↑h.n : Int) = (↑h.n : Int) ∧ IntKind.i64.wrap ((↑y.i : Int) + (1 : Int)) = (0 : Int) ∧ True) ∧ ((65 : Nat) ≤ (65 : Nat) ∧ (True ∧ True ∧ (0 :
  Nat) = (0 : Nat) ∧ h.n = h.n ∧ h.cap = h.cap) ∧ ((64 : Nat) = (64 : Nat) ∧ ∀ (j : Nat), j < (64 : Nat) → h.at_ j = h.at_ j) ∧ True) ∧ (h.cap * (2 : Nat) ≤ h.cap * (2 : Nat) ∧ h.n ≤ h.n ∧ ∀ (j : Nat), j < h.n → h.id j =
  h.id j ∧ h.key j = h.key j ∧ True) ∧ (y_1.c * (2 : Nat) ≤ y.c * (2 : Nat) ∧ h.n = h.n ∧ ∀ (j : Nat), j < h.n → (y.g j).fst = (y_1.g j).fst ∧ (y.g j).snd = (y_1.g j).snd ∧ True) ∧ True) ∧ (liF1 h).μ y_1 < (liF2 h).μ y) ∨
  ∃ (y_1 : LI), ((1 : Nat) ≤ y_1.i ∧ y_1.i ≤ h.n ∧ y_1.i ≤ y_1.d ∧ Srt h.n h.f y_1.g) ∧ (((True ∧ True ∧ (0 : Nat) = (0 : Nat) ∧ y.i + (1 : Nat) = y_1.i ∧ cap' = y_1.d) ∧ (True ∧ True ∧ (0 : Nat) = (0 : Nat) ∧ h.n = h.n ∧
  y.c = y_1.c) ∧ (↑h.n : Int) = (↑h.n : Int) ∧ IntKind.i64.wrap ((↑y.i : Int) + (1 : Int)) = (↑y_1.i : Int) ∧ True) ∧ ((65 : Nat) ≤ (65 : Nat) ∧ (True ∧ True ∧ (0 : Nat) = (0 : Nat) ∧ h.n = h.n ∧ h.cap = h.cap) ∧ ((64 :
  Nat) = (64 : Nat) ∧ ∀ (j : Nat), j < (64 : Nat) → h.at_ j = h.at_ j) ∧ True) ∧ (h.cap * (2 : Nat) ≤ h.cap * (2 : Nat) ∧ h.n ≤ h.n ∧ ∀ (j : Nat), j < h.n → h.id j = h.id j ∧ h.key j = h.key j ∧ True) ∧ (y_1.c * (2 : Nat)
  ≤ y.c * (2 : Nat) ∧ h.n = h.n ∧ ∀ (j : Nat), j < h.n → (y.g j).fst = (y_1.g j).fst ∧ (y.g j).snd = (y_1.g j).snd ∧ True) ∧ (y_1.d * (1 : Nat) ≤ cap' * (1 : Nat) ∧ y_1.i = y.i + (1 : Nat) ∧ ∀ (j : Nat), j < y.i + (1 :
  Nat) → (j.blt y.i = true → (y.g ((0 : Nat) + j)).fst = (y_1.g j).fst) ∧ (j.blt y.i = false → (y.g ((0 : Nat) + (↑y.i : Int).toNat)).fst = (y_1.g j).fst)) ∧ True) ∧ (liF2 h).μ y_1 < (liF2 h).μ y)) ∧ (decide ((↑y.i : Int)
  < (↑h.n : Int)) = false → h.n ≤ (1000 : Nat) → (h.n = (0 : Nat) → False ∧ True ∧ ((65 : Nat) ≤ (65 : Nat) ∧ (True ∧ True ∧ (0 : Nat) = (0 : Nat) ∧ h.n = h.n ∧ h.cap = h.cap) ∧ ((64 : Nat) = (64 : Nat) ∧ ∀ (j : Nat), j <
  (64 : Nat) → h.at_ j = h.at_ j) ∧ True) ∧ (h.cap * (2 : Nat) ≤ h.cap * (2 : Nat) ∧ h.n ≤ h.n ∧ ∀ (j : Nat), j < h.n → h.id j = h.id j ∧ h.key j = h.key j ∧ True) ∧ True) ∧ (¬h.n = (0 : Nat) → ∃ (x : (Nat → It) × Nat),
  (Srt h.n h.f x.fst ∧ h.n ≤ x.snd) ∧ (True ∧ True ∧ (0 : Nat) = (0 : Nat) ∧ y.i = h.n ∧ y.d = x.snd) ∧ True ∧ ((65 : Nat) ≤ (65 : Nat) ∧ (True ∧ True ∧ (0 : Nat) = (0 : Nat) ∧ h.n = h.n ∧ h.cap = h.cap) ∧ ((64 : Nat) =
  (64 : Nat) ∧ ∀ (j : Nat), j < (64 : Nat) → h.at_ j = h.at_ j) ∧ True) ∧ (h.cap * (2 : Nat) ≤ h.cap * (2 : Nat) ∧ h.n ≤ h.n ∧ ∀ (j : Nat), j < h.n → h.id j = h.id j ∧ h.key j = h.key j ∧ True) ∧ (x.snd * (1 : Nat) ≤ y.d *
  (1 : Nat) ∧ h.n = y.i ∧ ∀ (j : Nat), j < y.i → (y.g j).fst = (x.fst j).fst) ∧ True))) ∧ (¬h.n = (0 : Nat) → ∀ (x : (Nat → It) × Nat), Srt h.n (fun (j : Nat) => (h.id j, h.key j)) x.fst ∧ h.n ≤ x.snd → ((∃ (_ : Bool), h.n
  = (0 : Nat) ∧ ((True ∧ False ∧ (↑h.n : Int) = (0 : Int) ∧ (0 : Int) = (0 : Int) ∧ True) ∧ ((65 : Nat) ≤ (65 : Nat) ∧ (True ∧ True ∧ (0 : Nat) = (0 : Nat) ∧ h.n = h.n ∧ h.cap = h.cap) ∧ ((64 : Nat) = (64 : Nat) ∧ ∀ (j :
  Nat), j < (64 : Nat) → h.at_ j = h.at_ j) ∧ True) ∧ (h.cap * (2 : Nat) ≤ h.cap * (2 : Nat) ∧ h.n ≤ h.n ∧ ∀ (j : Nat), j < h.n → h.id j = h.id j ∧ h.key j = h.key j ∧ True) ∧ True) ∧ True) ∨ (∃ (y : LI), (h.n ≠ (0 : Nat)
  ∧ Srt h.n h.f y.g) ∧ ((True ∧ (True ∧ True ∧ (0 : Nat) = (0 : Nat) ∧ h.n = h.n ∧ x.snd = y.c) ∧ (↑h.n : Int) = (↑h.n : Int) ∧ (0 : Int) = (0 : Int) ∧ True) ∧ ((65 : Nat) ≤ (65 : Nat) ∧ (True ∧ True ∧ (0 : Nat) = (0 :
  Nat) ∧ h.n = h.n ∧ h.cap = h.cap) ∧ ((64 : Nat) = (64 : Nat) ∧ ∀ (j : Nat), j < (64 : Nat) → h.at_ j = h.at_ j) ∧ True) ∧ (h.cap * (2 : Nat) ≤ h.cap * (2 : Nat) ∧ h.n ≤ h.n ∧ ∀ (j : Nat), j < h.n → h.id j = h.id j ∧
  h.key j = h.key j ∧ True) ∧ (y.c * (2 : Nat) ≤ x.snd * (2 : Nat) ∧ h.n = h.n ∧ ∀ (j : Nat), j < h.n → (x.fst j).fst = (y.g j).fst ∧ (x.fst j).snd = (y.g j).snd ∧ True) ∧ True) ∧ True) ∨ ∃ (y : LI), ((1 : Nat) ≤ y.i ∧ y.i
  ≤ h.n ∧ y.i ≤ y.d ∧ Srt h.n h.f y.g) ∧ False ∧ True) ∧ (∀ (_ : Bool), h.n = (0 : Nat) → (decide ((0 : Int) < (0 : Int)) = true → False) ∧ (decide ((0 : Int) < (0 : Int)) = false → h.n ≤ (1000 : Nat) → (h.n = (0 : Nat) →
  True ∧ True ∧ ((65 : Nat) ≤ (65 : Nat) ∧ (True ∧ True ∧ (0 : Nat) = (0 : Nat) ∧ h.n = h.n ∧ h.cap = h.cap) ∧ ((64 : Nat) = (64 : Nat) ∧ ∀ (j : Nat), j < (64 : Nat) → h.at_ j = h.at_ j) ∧ True) ∧ (h.cap * (2 : Nat) ≤
  h.cap * (2 : Nat) ∧ h.n ≤ h.n ∧ ∀ (j : Nat), j < h.n → h.id j = h.id j ∧ h.key j = h.key j ∧ True) ∧ True) ∧ (¬h.n = (0 : Nat) → ∃ (x : (Nat → It) × Nat), (Srt h.n h.f x.fst ∧ h.n ≤ x.snd) ∧ False ∧ False))) ∧ (∀ (y :
  LI), h.n ≠ (0 : Nat) ∧ Srt h.n h.f y.g → (decide ((0 : Int) < (↑h.n : Int)) = true → ((0 : Int) ≤ (0 : Int) ∧ (0 : Int) < (↑h.n : Int)) ∧ (0 : Nat) < h.n ∧ (1 : Nat) ≤ (1 : Nat) ∧ ((1 : Nat) = (0 : Nat) → (∃ (y_1 :
  Bool), h.n = (0 : Nat) ∧ ((True ∧ False ∧ (↑h.n : Int) = (0 : Int) ∧ IntKind.i64.wrap ((0 : Int) + (1 : Int)) = (0 : Int) ∧ True) ∧ ((65 : Nat) ≤ (65 : Nat) ∧ (True ∧ True ∧ (0 : Nat) = (0 : Nat) ∧ h.n = h.n ∧ h.cap =
  h.cap) ∧ ((64 : Nat) = (64 : Nat) ∧ ∀ (j : Nat), j < (64 : Nat) → h.at_ j = h.at_ j) ∧ True) ∧ (h.cap * (2 : Nat) ≤ h.cap * (2 : Nat) ∧ h.n ≤ h.n ∧ ∀ (j : Nat), j < h.n → h.id j = h.id j ∧ h.key j = h.key j ∧ True) ∧
  True) ∧ (liF0 h).μ y_1 < (liF1 h).μ y) ∨ (∃ (y_1 : LI), (h.n ≠ (0 : Nat) ∧ Srt h.n h.f y_1.g) ∧ ((True ∧ (True ∧ True ∧ (0 : Nat) = (0 : Nat) ∧ h.n = h.n ∧ y.c = y_1.c) ∧ (↑h.n : Int) = (↑h.n : Int) ∧ IntKind.i64.wrap
  ((0 : Int) + (1 : Int)) = (0 : Int) ∧ True) ∧ ((65 : Nat) ≤ (65 : Nat) ∧ (True ∧ True ∧ (0 : Nat) = (0 : Nat) ∧ h.n = h.n ∧ h.cap = h.cap) ∧ ((64 : Nat) = (64 : Nat) ∧ ∀ (j : Nat), j < (64 : Nat) → h.at_ j = h.at_ j) ∧
  True) ∧ (h.cap * (2 : Nat) ≤ h.cap * (2 : Nat) ∧ h.n ≤ h.n ∧ ∀ (j : Nat), j < h.n → h.id j = h.id j ∧ h.key j = h.key j ∧ True) ∧ (y_1.c * (2 : Nat) ≤ y.c * (2 : Nat) ∧ h.n = h.n ∧ ∀ (j : Nat), j < h.n → (y.g j).fst =
  (y_1.g j).fst ∧ (y.g j).snd = (y_1.g j).snd ∧ True) ∧ True) ∧ (liF1 h).μ y_1 < (liF1 h).μ y) ∨ ∃ (y_1 : LI), ((1 : Nat) ≤ y_1.i ∧ y_1.i ≤ h.n ∧ y_1.i ≤ y_1.d ∧ Srt h.n h.f y_1.g) ∧ False ∧ (liF2 h).μ y_1 < (liF1 h).μ y)
  ∧ ((1 : Nat) ≠ (0 : Nat) → (8 : Nat) ≤ (140737488355328 : Nat) ∧ (1 : Nat) ≤ (9223372036854775807 : Nat) ∧ ∀ (cap : Nat), (1 : Nat) ≤ cap → (∃ (y_1 : Bool), h.n = (0 : Nat) ∧ ((False ∧ False ∧ (↑h.n : Int) = (0 : Int) ∧
  IntKind.i64.wrap ((0 : Int) + (1 : Int)) = (0 : Int) ∧ True) ∧ ((65 : Nat) ≤ (65 : Nat) ∧ (True ∧ True ∧ (0 : Nat) = (0 : Nat) ∧ h.n = h.n ∧ h.cap = h.cap) ∧ ((64 : Nat) = (64 : Nat) ∧ ∀ (j : Nat), j < (64 : Nat) → h.at_
  j = h.at_ j) ∧ True) ∧ (h.cap * (2 : Nat) ≤ h.cap * (2 : Nat) ∧ h.n ≤ h.n ∧ ∀ (j : Nat), j < h.n → h.id j = h.id j ∧ h.key j = h.key j ∧ True) ∧ True) ∧ (liF0 h).μ y_1 < (liF1 h).μ y) ∨ (∃ (y_1 : LI), (h.n ≠ (0 : Nat) ∧
  Srt h.n h.f y_1.g) ∧ ((False ∧ (True ∧ True ∧ (0 : Nat) = (0 : Nat) ∧ h.n = h.n ∧ y.c = y_1.c) ∧ (↑h.n : Int) = (↑h.n : Int) ∧ IntKind.i64.wrap ((0 : Int) + (1 : Int)) = (0 : Int) ∧ True) ∧ ((65 : Nat) ≤ (65 : Nat) ∧
  (True ∧ True ∧ (0 : Nat) = (0 : Nat) ∧ h.n = h.n ∧ h.cap = h.cap) ∧ ((64 : Nat) = (64 : Nat) ∧ ∀ (j : Nat), j < (64 : Nat) → h.at_ j = h.at_ j) ∧ True) ∧ (h.cap * (2 : Nat) ≤ h.cap * (2 : Nat) ∧ h.n ≤ h.n ∧ ∀ (j : Nat),
  j < h.n → h.id j = h.id j ∧ h.key j = h.key j ∧ True) ∧ (y_1.c * (2 : Nat) ≤ y.c * (2 : Nat) ∧ h.n = h.n ∧ ∀ (j : Nat), j < h.n → (y.g j).fst = (y_1.g j).fst ∧ (y.g j).snd = (y_1.g j).snd ∧ True) ∧ True) ∧ (liF1 h).μ y_1
  < (liF1 h).μ y) ∨ ∃ (y_1 : LI), ((1 : Nat) ≤ y_1.i ∧ y_1.i ≤ h.n ∧ y_1.i ≤ y_1.d ∧ Srt h.n h.f y_1.g) ∧ (((True ∧ True ∧ (0 : Nat) = (0 : Nat) ∧ (1 : Nat) = y_1.i ∧ cap = y_1.d) ∧ (True ∧ True ∧ (0 : Nat) = (0 : Nat) ∧
  h.n = h.n ∧ y.c = y_1.c) ∧ (↑h.n : Int) = (↑h.n : Int) ∧ IntKind.i64.wrap ((0 : Int) + (1 : Int)) = (↑y_1.i : Int) ∧ True) ∧ ((65 : Nat) ≤ (65 : Nat) ∧ (True ∧ True ∧ (0 : Nat) = (0 : Nat) ∧ h.n = h.n ∧ h.cap = h.cap) ∧
  ((64 : Nat) = (64 : Nat) ∧ ∀ (j : Nat), j < (64 : Nat) → h.at_ j = h.at_ j) ∧ True) ∧ (h.cap * (2 : Nat) ≤ h.cap * (2 : Nat) ∧ h.n ≤ h.n ∧ ∀ (j : Nat), j < h.n → h.id j = h.id j ∧ h.key j = h.key j ∧ True) ∧ (y_1.c * (2
  : Nat) ≤ y.c * (2 : Nat) ∧ h.n = h.n ∧ ∀ (j : Nat), j < h.n → (y.g j).fst = (y_1.g j).fst ∧ (y.g j).snd = (y_1.g j).snd ∧ True) ∧ (y_1.d * (1 : Nat) ≤ cap * (1 : Nat) ∧ y_1.i = (1 : Nat) ∧ ∀ (j : Nat), j < (1 : Nat) →
  (y.g (0 : Nat)).fst = (y_1.g j).fst) ∧ True) ∧ (liF2 h).μ y_1 < (liF1 h).μ y)) ∧ (decide ((0 : Int) < (↑h.n : Int)) = false → h.n ≤ (1000 : Nat) → (h.n = (0 : Nat) → True ∧ True ∧ ((65 : Nat) ≤ (65 : Nat) ∧ (True ∧ True
  ∧ (0 : Nat) = (0 : Nat) ∧ h.n = h.n ∧ h.cap = h.cap) ∧ ((64 : Nat) = (64 : Nat) ∧ ∀ (j : Nat), j < (64 : Nat) → h.at_ j = h.at_ j) ∧ True) ∧ (h.cap * (2 : Nat) ≤ h.cap * (2 : Nat) ∧ h.n ≤ h.n ∧ ∀ (j : Nat), j < h.n →
  h.id j = h.id j ∧ h.key j = h.key j ∧ True) ∧ True) ∧ (¬h.n = (0 : Nat) → ∃ (x : (Nat → It) × Nat), (Srt h.n h.f x.fst ∧ h.n ≤ x.snd) ∧ False ∧ False))) ∧ ∀ (y : LI), (1 : Nat) ≤ y.i ∧ y.i ≤ h.n ∧ y.i ≤ y.d ∧ Srt h.n h.f
  y.g → (decide ((↑y.i : Int) < (↑h.n : Int)) = true → ((0 : Int) ≤ (↑y.i : Int) ∧ (↑y.i : Int) < (↑h.n : Int)) ∧ (0 : Nat) + (↑y.i : Int).toNat < h.n ∧ (1 : Nat) ≤ (1 : Nat) ∧ (y.i + (1 : Nat) ≤ y.d → (8 : Nat) ≤
  (281474976710656 : Nat) ∧ ((0 : Nat) + y.i ≤ y.i ∧ ((0 : Nat) + y.i + (1 : Nat)) * (1 : Nat) ≤ y.d * (1 : Nat) ∧ (∀ (_ : Nat), (1 : Nat) = (1 : Nat)) ∧ ∀ (_ : Nat), (1 : Nat) = (1 : Nat)) ∧ ((∃ (y_1 : Bool), h.n = (0 :
  Nat) ∧ ((False ∧ False ∧ (↑h.n : Int) = (0 : Int) ∧ IntKind.i64.wrap ((↑y.i : Int) + (1 : Int)) = (0 : Int) ∧ True) ∧ ((65 : Nat) ≤ (65 : Nat) ∧ (True ∧ True ∧ (0 : Nat) = (0 : Nat) ∧ h.n = h.n ∧ h.cap = h.cap) ∧ ((64 :
  Nat) = (64 : Nat) ∧ ∀ (j : Nat), j < (64 : Nat) → h.at_ j = h.at_ j) ∧ True) ∧ (h.cap * (2 : Nat) ≤ h.cap * (2 : Nat) ∧ h.n ≤ h.n ∧ ∀ (j : Nat), j < h.n → h.id j = h.id j ∧ h.key j = h.key j ∧ True) ∧ True) ∧ (liF0 h).μ
  y_1 < (liF2 h).μ y) ∨ (∃ (y_1 : LI), (h.n ≠ (0 : Nat) ∧ Srt h.n h.f y_1.g) ∧ ((False ∧ (True ∧ True ∧ (0 : Nat) = (0 : Nat) ∧ h.n = h.n ∧ y.c = y_1.c) ∧ (↑h.n : Int) = (↑h.n : Int) ∧ IntKind.i64.wrap ((↑y.i : Int) + (1 :
  Int)) = (0 : Int) ∧ True) ∧ ((65 : Nat) ≤ (65 : Nat) ∧ (True ∧ True ∧ (0 : Nat) = (0 : Nat) ∧ h.n = h.n ∧ h.cap = h.cap) ∧ ((64 : Nat) = (64 : Nat) ∧ ∀ (j : Nat), j < (64 : Nat) → h.at_ j = h.at_ j) ∧ True) ∧ (h.cap * (2
  : Nat) ≤ h.cap * (2 : Nat) ∧ h.n ≤ h.n ∧ ∀ (j : Nat), j < h.n → h.id j = h.id j ∧ h.key j = h.key j ∧ True) ∧ (y_1.c * (2 : Nat) ≤ y.c * (2 : Nat) ∧ h.n = h.n ∧ ∀ (j : Nat), j < h.n → (y.g j).fst = (y_1.g j).fst ∧ (y.g
  j).snd = (y_1.g j).snd ∧ True) ∧ True) ∧ (liF1 h).μ y_1 < (liF2 h).μ y) ∨ ∃ (y_1 : LI), ((1 : Nat) ≤ y_1.i ∧ y_1.i ≤ h.n ∧ y_1.i ≤ y_1.d ∧ Srt h.n h.f y_1.g) ∧ (((True ∧ True ∧ (0 : Nat) = (0 : Nat) ∧ y.i + (1 : Nat) =
  y_1.i ∧ y.d = y_1.d) ∧ (True ∧ True ∧ (0 : Nat) = (0 : Nat) ∧ h.n = h.n ∧ y.c = y_1.c) ∧ (↑h.n : Int) = (↑h.n : Int) ∧ IntKind.i64.wrap ((↑y.i : Int) + (1 : Int)) = (↑y_1.i : Int) ∧ True) ∧ ((65 : Nat) ≤ (65 : Nat) ∧
  (True ∧ True ∧ (0 : Nat) = (0 : Nat) ∧ h.n = h.n ∧ h.cap = h.cap) ∧ ((64 : Nat) = (64 : Nat) ∧ ∀ (j : Nat), j < (64 : Nat) → h.at_ j = h.at_ j) ∧ True) ∧ (h.cap * (2 : Nat) ≤ h.cap * (2 : Nat) ∧ h.n ≤ h.n ∧ ∀ (j : Nat),
  j < h.n → h.id j = h.id j ∧ h.key j = h.key j ∧ True) ∧ (y_1.c * (2 : Nat) ≤ y.c * (2 : Nat) ∧ h.n = h.n ∧ ∀ (j : Nat), j < h.n → (y.g j).fst = (y_1.g j).fst ∧ (y.g j).snd = (y_1.g j).snd ∧ True) ∧ (y_1.d * (1 : Nat) ≤
  y.d * (1 : Nat) ∧ (y_1.i = if y.i ≤ (0 : Nat) + y.i + (1 : Nat) then (0 : Nat) + y.i + (1 : Nat) else y.i) ∧ ∀ (j : Nat), (j < if y.i ≤ (0 : Nat) + y.i + (1 : Nat) then (0 : Nat) + y.i + (1 : Nat) else y.i) → (j.blt ((0
  : Nat) + y.i) = true → (y.g j).fst = (y_1.g j).fst) ∧ (j.blt ((0 : Nat) + y.i) = false → (j.blt ((0 : Nat) + y.i + (1 : Nat)) = true → (y.g ((0 : Nat) + (↑y.i : Int).toNat)).fst = (y_1.g j).fst) ∧ (j.blt ((0 : Nat) + y.i
  + (1 : Nat)) = false → (y.g j).fst = (y_1.g j).fst))) ∧ True) ∧ (liF2 h).μ y_1 < (liF2 h).μ y)) ∧ (y.d < y.i + (1 : Nat) → ((0 : Nat) + y.i ≤ y.i ∧ (y.i + (1 : Nat)) * (8 : Nat) ≤ (140737488355328 : Nat) ∧ y.i + (1 :
  Nat) ≤ (9223372036854775807 : Nat) ∧ (∀ (_ : Nat), (1 : Nat) = (1 : Nat)) ∧ ∀ (_ : Nat), (1 : Nat) = (1 : Nat)) ∧ ∀ (cap' : Nat), y.i + (1 : Nat) ≤ cap' → (∃ (y_1 : Bool), h.n = (0 : Nat) ∧ ((False ∧ False ∧ (↑h.n : Int)
  = (0 : Int) ∧ IntKind.i64.wrap ((↑y.i : Int) + (1 : Int)) = (0 : Int) ∧ True) ∧ ((65 : Nat) ≤ (65 : Nat) ∧ (True ∧ True ∧ (0 : Nat) = (0 : Nat) ∧ h.n = h.n ∧ h.cap = h.cap) ∧ ((64 : Nat) = (64 : Nat) ∧ ∀ (j : Nat), j <
  (64 : Nat) → h.at_ j = h.at_ j) ∧ True) ∧ (h.cap * (2 : Nat) ≤ h.cap * (2 : Nat) ∧ h.n ≤ h.n ∧ ∀ (j : Nat), j < h.n → h.id j = h.id j ∧ h.key j = h.key j ∧ True) ∧ True) ∧ (liF0 h).μ y_1 < (liF2 h).μ y) ∨ (∃ (y_1 : LI),
  (h.n ≠ (0 : Nat) ∧ Srt h.n h.f y_1.g) ∧ ((False ∧ (True ∧ True ∧ (0 : Nat) = (0 : Nat) ∧ h.n = h.n ∧ y.c = y_1.c) ∧ (↑h.n : Int) = (↑h.n : Int) ∧ IntKind.i64.wrap ((↑y.i : Int) + (1 : Int)) = (0 : Int) ∧ True) ∧ ((65 :
  Nat) ≤ (65 : Nat) ∧ (True ∧ True ∧ (0 : Nat) = (0 : Nat) ∧ h.n = h.n ∧ h.cap = h.cap) ∧ ((64 : Nat) = (64 : Nat) ∧ ∀ (j : Nat), j < (64 : Nat) → h.at_ j = h.at_ j) ∧ True) ∧ (h.cap * (2 : Nat) ≤ h.cap * (2 : Nat) ∧ h.n ≤
  h.n ∧ ∀ (j : Nat), j < h.n → h.id j = h.id j ∧ h.key j = h.key j ∧ True) ∧ (y_1.c * (2 : Nat) ≤ y.c * (2 : Nat) ∧ h.n = h.n ∧ ∀ (j : Nat), j < h.n → (y.g j).fst = (y_1.g j).fst ∧ (y.g j).snd = (y_1.g j).snd ∧ True) ∧
  True) ∧ (liF1 h).μ y_1 < (liF2 h).μ y) ∨ ∃ (y_1 : LI), ((1 : Nat) ≤ y_1.i ∧ y_1.i ≤ h.n ∧ y_1.i ≤ y_1.d ∧ Srt h.n h.f y_1.g) ∧ (((True ∧ True ∧ (0 : Nat) = (0 : Nat) ∧ y.i + (1 : Nat) = y_1.i ∧ cap' = y_1.d) ∧ (True ∧
  True ∧ (0 : Nat) = (0 : Nat) ∧ h.n = h.n ∧ y.c = y_1.c) ∧ (↑h.n : Int) = (↑h.n : Int) ∧ IntKind.i64.wrap ((↑y.i : Int) + (1 : Int)) = (↑y_1.i : Int) ∧ True) ∧ ((65 : Nat) ≤ (65 : Nat) ∧ (True ∧ True ∧ (0 : Nat) = (0 :
  Nat) ∧ h.n = h.n ∧ h.cap = h.cap) ∧ ((64 : Nat) = (64 : Nat) ∧ ∀ (j : Nat), j < (64 : Nat) → h.at_ j = h.at_ j) ∧ True) ∧ (h.cap * (2 : Nat) ≤ h.cap * (2 : Nat) ∧ h.n ≤ h.n ∧ ∀ (j : Nat), j < h.n → h.id j = h.id j ∧
  h.key j = h.key j ∧ True) ∧ (y_1.c * (2 : Nat) ≤ y.c * (2 : Nat) ∧ h.n = h.n ∧ ∀ (j : Nat), j < h.n → (y.g j).fst = (y_1.g j).fst ∧ (y.g j).snd = (y_1.g j).snd ∧ True) ∧ (y_1.d * (1 : Nat) ≤ cap' * (1 : Nat) ∧ y_1.i =
  y.i + (1 : Nat) ∧ ∀ (j : Nat), j < y.i + (1 : Nat) → (j.blt y.i = true → (y.g ((0 : Nat) + j)).fst = (y_1.g j).fst) ∧ (j.blt y.i = false → (y.g ((0 : Nat) + (↑y.i : Int).toNat)).fst = (y_1.g j).fst)) ∧ True) ∧ (liF2 h).μ
  y_1 < (liF2 h).μ y)) ∧ (decide ((↑y.i : Int) < (↑h.n : Int)) = false → h.n ≤ (1000 : Nat) → (h.n = (0 : Nat) → False ∧ True ∧ ((65 : Nat) ≤ (65 : Nat) ∧ (True ∧ True ∧ (0 : Nat) = (0 : Nat) ∧ h.n = h.n ∧ h.cap = h.cap) ∧
  ((64 : Nat) = (64 : Nat) ∧ ∀ (j : Nat), j < (64 : Nat) → h.at_ j = h.at_ j) ∧ True) ∧ (h.cap * (2 : Nat) ≤ h.cap * (2 : Nat) ∧ h.n ≤ h.n ∧ ∀ (j : Nat), j < h.n → h.id j = h.id j ∧ h.key j = h.key j ∧ True) ∧ True) ∧
  (¬h.n = (0 : Nat) → ∃ (x : (Nat → It) × Nat), (Srt h.n h.f x.fst ∧ h.n ≤ x.snd) ∧ (True ∧ True ∧ (0 : Nat) = (0 : Nat) ∧ y.i = h.n ∧ y.d = x.snd) ∧ True ∧ ((65 : Nat) ≤ (65 : Nat) ∧ (True ∧ True ∧ (0 : Nat) = (0 : Nat) ∧
  h.n = h.n ∧ h.cap = h.cap) ∧ ((64 : Nat) = (64 : Nat) ∧ ∀ (j : Nat), j < (64 : Nat) → h.at_ j = h.at_ j) ∧ True) ∧ (h.cap * (2 : Nat) ≤ h.cap * (2 : Nat) ∧ h.n ≤ h.n ∧ ∀ (j : Nat), j < h.n → h.id j = h.id j ∧ h.key j =
  h.key j ∧ True) ∧ (x.snd * (1 : Nat) ≤ y.d * (1 : Nat) ∧ h.n = y.i ∧ ∀ (j : Nat), j < y.i → (y.g j).fst = (x.fst j).fst) ∧ True))) := by
  simp only [true_and, and_true, eq_self, Nat.le_refl, decide_eq_true_eq, decide_eq_false_iff_not, implies_true, and_self, Int.not_lt, ne_eq, Nat.zero_add, Int.toNat_natCast, nblt_true, nblt_false, IntKind.wrap_i64]
  intro h hn
  have hM1 : ∀ z : LI, (liF1 h).μ z = h.n + 1 := fun _ => rfl
  have hM2 : ∀ z : LI, (liF2 h).μ z = h.n - z.i := fun _ => rfl
  simp only [hM1, hM2, and_false, false_and, exists_false, or_false, false_or, exists_const, Nat.le_succ, if_true]
  clear hM1 hM2
  refine (fun b1 b2 => ⟨by omega, fun h0 => ⟨h0, fun _ _ => ⟨fun h => by omega, fun _ _ h => absurd h0 h⟩, b1, b2⟩, fun h0 z hz => ⟨⟨⟨z.1, z.2, 0, 0⟩, ⟨h0, hz.1⟩, rfl, Nat.le_refl _, fun _ _ => ⟨rfl, rfl⟩⟩, fun _ _ => ⟨fun h => by omega, fun _ _ h => by omega⟩, b1, b2⟩⟩) ?_ ?_
  · rintro ⟨g, c, i, d⟩ ⟨h0, hs⟩
    dsimp only at hs ⊢
    refine ⟨fun _ => ⟨by omega, by omega, fun h => by omega, fun _ => ⟨by decide, by decide, fun cap hc => ⟨⟨g, c, 1, cap⟩, ⟨Nat.le_refl _, by (show 1 ≤ h.n); omega, hc, hs⟩, ⟨⟨⟨rfl, rfl⟩, rfl, rfl⟩, ⟨Nat.le_refl _, fun _ _ => ⟨rfl, rfl⟩⟩, Nat.le_refl _, rfl, fun j hj => by rw [show j = 0 by omega]⟩, by (show h.n - 1 < h.n + 1); omega⟩⟩⟩, fun h => by omega⟩
  · rintro ⟨g, c, i, d⟩ ⟨h1, h2, h3, hs⟩
    dsimp only at h1 h2 h3 hs ⊢
    refine ⟨fun hlt => ⟨by omega, by omega, fun hfit => ⟨by decide, by omega, ⟨g, c, i + 1, d⟩, ⟨(by show 1 ≤ i + 1; omega), (by show i + 1 ≤ h.n; omega), hfit, hs⟩, ⟨⟨⟨rfl, rfl⟩, rfl, (by show _ = ((i + 1 : Nat) : Int); omega)⟩, ⟨Nat.le_refl _, fun _ _ => ⟨rfl, rfl⟩⟩, Nat.le_refl _, rfl, fun j hj => ⟨fun _ => rfl, fun h => ⟨fun h4 => by rw [show j = i by omega], fun h4 => rfl⟩⟩⟩, (by show h.n - (i + 1) < h.n - i; omega)⟩, fun hfull => ⟨by omega, fun cap hc => ⟨⟨g, c, i + 1, cap⟩, ⟨(by show 1 ≤ i + 1; omega), (by show i + 1 ≤ h.n; omega), hc, hs⟩, ⟨⟨⟨rfl, rfl⟩, rfl, (by show _ = ((i + 1 : Nat) : Int); omega)⟩, ⟨Nat.le_refl _, fun _ _ => ⟨rfl, rfl⟩⟩, Nat.le_refl _, rfl, fun j hj => ⟨fun _ => rfl, fun h => by rw [show j = i by omega]⟩⟩, (by show h.n - (i + 1) < h.n - i; omega)⟩⟩⟩, fun hge _ => ⟨fun h0 => by omega, fun _ => ⟨(g, d), ⟨hs, (by show h.n ≤ d; omega)⟩, ⟨by omega, rfl⟩, Nat.le_refl _, by omega, fun _ _ => rfl⟩⟩⟩

def list1_C (x : HP) : Cfg := { Γ := Go.Sx.look tList, names := true, lows := true, loops := onlyAt 3 [liF0 x, liF1 x, liF2 x] }
theorem list1_al (x : HP) : Shown (listP.vc Try.prog (list1_C x) Try.f15 x) := ⟨@Eq.mp _ _ (by kernel_rfl) (list1_vc x)⟩
theorem list1_ok : SpOk Try.prog 15 listP.sp := @Pat.okS _ listP Try.prog list1_C 15 Try.f15 (fun x => cfg_tab rfl tList_ok) (by kernel_rfl) Try.func15 (fun _ => rfl) list1_al
def listNP : Pat (Nat → Int) where
  view | [.ptr r 0 []], H => some (viewHP r H).at_ | _, _ => none
  args _ := [p0 0]
  H a := [newReg 55 (meT .nils a)]
  out _ := .retq .nils
def liFN (a : Nat → Int) : Fam where
  α := Bool
  I _ := True
  st _ := { sl := mkSl 24 [(3, .nils), (11, .nils), (12, .int .i64 0), (13, .int .i64 0)], H := [newReg 55 (meT .nils a)] }
  μ _ := 0
theorem listN_vc : ∀ (a : Nat → Int), True → ((True ∧ True) ∧ True) ∧ ((((True ∧ True) ∧ True) ∧ True ∧ True) ∧ ((1 : Nat) ≤ (1 : Nat) ∧ True) ∧ True) ∧ (∃ (_ : Bool), True ∧ ((True ∧ True ∧ (0 : Int) = (0 : Int) ∧ (0 : Int) = (0 : Int) ∧
  True) ∧ ((65 : Nat) ≤ (65 : Nat) ∧ True ∧ ((64 : Nat) = (64 : Nat) ∧ ∀ (j : Nat), j < (64 : Nat) → a j = a j) ∧ True) ∧ True) ∧ True) ∧ ∀ (_ : Bool), True → (decide ((0 : Int) < (0 : Int)) = true → False) ∧ (decide ((0 :
  Int) < (0 : Int)) = false → True ∧ True ∧ ((65 : Nat) ≤ (65 : Nat) ∧ True ∧ ((64 : Nat) = (64 : Nat) ∧ ∀ (j : Nat), j < (64 : Nat) → a j = a j) ∧ True) ∧ True) := by
  simp only [true_and, and_true, eq_self, Nat.le_refl, decide_eq_true_eq, decide_eq_false_iff_not, implies_true, true_implies, and_self, Int.not_lt]
  exact fun _ => ⟨⟨true, trivial⟩, fun _ h => absurd h (by decide)⟩

def listN_C (x : (Nat → Int)) : Cfg := { Γ := Go.Sx.look tList, names := true, lows := true, loops := onlyAt 3 [liFN x] }
theorem listN_al (x : (Nat → Int)) : Shown (listNP.vc Try.prog (listN_C x) Try.f15 x) := ⟨@Eq.mp _ _ (by kernel_rfl) (listN_vc x)⟩
theorem listN_ok : SpOk Try.prog 15 listNP.sp := @Pat.okS _ listNP Try.prog listN_C 15 Try.f15 (fun x => cfg_tab rfl tList_ok) (by kernel_rfl) Try.func15 (fun _ => rfl) listN_al
theorem listA_ok : SpOk Try.prog 15 (altH nilMe (listNP.sp) (listP.sp)) := altH_ok listN_ok list1_ok

end Go.Proofs.Ytnicidiocncjdaa
