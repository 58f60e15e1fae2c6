import Derived.Test.YtjofnajamlmllaaDoorI12
open Go Go.Sx Go.Proofs
set_option maxRecDepth 100000
namespace Go.Proofs.YtjofnajamlmllaaDoor
open Go.RowKit Go.Isa

noncomputable section
def linesOf (s : ByteArray) : List (List UInt8) := pieces 10 s.data.toList
def asmN (s : ByteArray) : Nat := (asmL (linesOf s)).length
def asmB (s : ByteArray) (j : Nat) : Int := (asmL (linesOf s))[j]?.getD 0
def asmOk (s : ByteArray) : Prop := ∀ l ∈ linesOf s, okL l = true
def asmBad (s : ByteArray) : Nat := ((linesOf s).takeWhile okL).length + 1
def asmRow (s : ByteArray) (c : Nat) : Reg := rowReg 5 (asmN s) 1 c (fun j => .int .u8 (asmB s j))
theorem takeWhile_at {α : Type} {p : α → Bool} {l a b : List α} {x : α} (e : l = a ++ x :: b) (ha : ∀ y ∈ a, p y = true) (hx : p x = false) : l.takeWhile p = a := by
  subst e
  rw [List.takeWhile_append_of_pos ha, List.takeWhile_cons, hx]
  simp
def asmPre (s : ByteArray) : Prop := s.size ≤ 1048576 ∧ ∀ l ∈ linesOf s, skipL l = true ∨ PreRead l
def asmOut (s : ByteArray) : Out := .br (asmOk s) (.br (asmN s = 0) (.retq (.tup (.cons .nils (.cons (.int .i64 0) (.cons (.int .i64 0) .nil)))))
    (.any (fun c : Nat => asmN s ≤ c) fun c => .ret (.tup (.cons (.slice 0 0 [] 0 1 (asmN s) c) (.cons (.int .i64 0) (.cons (.int .i64 0) .nil)))) [asmRow s c]))
    (.retq (.tup (.cons .nils (.cons (.int .i64 (asmBad s)) (.cons (.int .i64 10) .nil)))))
def asmP : Pat ByteArray where
  view | [.str s], _ => some s | _, _ => none
  args s := [.str s]
  H _ := []
  out s := .need (asmPre s) (asmOut s)
theorem asm_spec (s : ByteArray) (K : R → List Reg → Prop) (hw : (asmP.out s).wp false (asmP.H s) K) : Go.Sx.Spec Tryd.prog 17 (asmP.args s) (asmP.H s) K := by
  intro ρ w hk hG hg
  obtain ⟨⟨hs, hpre⟩, hgood, hbad⟩ := hw
  have c := callsIn_wide.1 (asm_calls s hs hpre w (GW.of hG))
  refine c.mono ?_
  rintro e w' ⟨v, n, c, rfl, hB, ⟨rfl, rfl, hok, hrow, hnil⟩ | ⟨rfl, rfl, p, x, tl, hpx, rfl, hp, hx⟩⟩
  · obtain ⟨h0, h1⟩ := hgood hok
    have hW := wrel_below hk hB
    by_cases hz : asmN s = 0
    · have hv := hnil.2 (List.eq_nil_of_length_eq_zero hz)
      subst hv
      exact ⟨_, ρ, _, h0 hz, hW, rfl, trivial, trivial, trivial, trivial⟩
    · obtain ⟨g, cap, cur, rfl, hbg, hgb, hcap, -, hcs, htk⟩ : ∃ g cap cur, v = .slice (some ⟨g, 0, none⟩) (asmN s) cap ∧ w.heap.size ≤ g ∧ w'.heap[g]? = some (.cells cur 5 (0, 0)) ∧ asmN s ≤ cap ∧ cap ≤ maxLen ∧ cur.size = cap * 1 ∧ cur.toList.take (asmN s * 1) = u8s (asmL (linesOf s)) := by
        rcases hrow.2 with ⟨_, h⟩ | h
        · exact absurd h hz
        · exact h
      have hcell : ∀ j, j < asmN s → cur[j]? = some (.int .u8 (asmB s j)) := fun j hj => by
        have h2 : (u8s (asmL (linesOf s)))[j]? = some (.int .u8 (asmB s j)) := by
          have hj' : j < (asmL (linesOf s)).length := hj
          unfold u8s asmB
          rw [List.getElem?_map, List.getElem?_eq_getElem hj']
          rfl
        rw [← htk, List.getElem?_take, if_pos (by omega)] at h2
        simpa using h2
      have hname := hW.name (b := g) (arr := cur) (g := asmRow s cap) rfl hgb
        (fun r g' i e hi => by have h2 := hk.lt r g' i e hi; show (ρ r i).1 ≠ g; omega) (by show cap * 1 ≤ cur.size; omega)
        (fun j hj => ⟨rfl, trivial⟩)
        (fun j hj => by rw [Nat.zero_add, Nat.mul_one]; exact hcell j hj) (.inl hbg)
      refine ⟨_, _, _, h1 hz cap hcap, hname, ?_, ?_⟩
      · show Ending.returned _ = Ending.returned _
        have e2 : ext ρ (asmP.H s).length g 0 0 = (g, 0) := by show ext ρ 0 g 0 0 = _; rw [ext_new]
        simp only [val, T.cv, sc, pla, off, e2]
      · exact ⟨(show (0 : Nat) < 1 by decide), trivial, trivial, trivial⟩
  · have hno : ¬ asmOk s := fun h => by
      have hx2 := h x (by unfold linesOf; rw [hpx]; simp)
      rw [hx] at hx2; cases hx2
    have hb : asmBad s = p.length + 1 := by
      unfold asmBad linesOf
      rw [takeWhile_at hpx hp hx]
    have := hbad hno
    rw [hb] at this
    exact ⟨_, ρ, _, this, wrel_below hk hB, rfl, trivial, trivial, trivial, trivial⟩
theorem asm_ok : SpOk Tryd.prog 17 asmP.sp := Pat.okH (by kernel_rfl) (fun _ => rfl) asm_spec

def codeP : Pat ByteArray where
  view | [.str s], _ => some s | _, _ => none
  args s := [.str s]
  H _ := []
  out s := .need (asmPre s) (.br (asmOk s) (.br (asmN s = 0) (.retq .nils) (.any (fun c : Nat => asmN s ≤ c) fun c => .ret (.slice 0 0 [] 0 1 (asmN s) c) [asmRow s c])) (.retq .nils))
def tCode : Tab := [(17, asmP.sp)]
theorem tCode_ok : TabOk Tryd.prog tCode := (tab_cons asm_ok tab_nil)

theorem code_vc : ∀ (s : ByteArray), asmPre s ∧ True → ((s = s ∧ True) ∧ True) ∧ asmPre s ∧ (asmOk s → (asmN s = (0 : Nat) → ∀ (v : Int), v = (0 : Int) → ∀ (v : Int), v = (0 : Int) → ((v != (0 : Int)) = true → asmPre s → (asmOk s → (asmN
  s = (0 : Nat) → True ∧ True ∧ True) ∧ (¬asmN s = (0 : Nat) → ∃ (x : Nat), asmN s ≤ x ∧ False ∧ False)) ∧ (¬asmOk s → True ∧ True ∧ True)) ∧ ((v != (0 : Int)) = false → asmPre s → (asmOk s → (asmN s = (0 : Nat) → True ∧
  True ∧ True) ∧ (¬asmN s = (0 : Nat) → ∃ (x : Nat), asmN s ≤ x ∧ False ∧ False)) ∧ (¬asmOk s → True ∧ True ∧ True))) ∧ (¬asmN s = (0 : Nat) → ∀ (x : Nat), asmN s ≤ x → ∀ (v : Int), v = (0 : Int) → ∀ (v : Int), v = (0 :
  Int) → ((v != (0 : Int)) = true → asmPre s → (asmOk s → (asmN s = (0 : Nat) → True ∧ True ∧ True) ∧ (¬asmN s = (0 : Nat) → ∃ (x : Nat), asmN s ≤ x ∧ False ∧ False)) ∧ (¬asmOk s → True ∧ True ∧ True)) ∧ ((v != (0 : Int))
  = false → asmPre s → (asmOk s → (asmN s = (0 : Nat) → False ∧ True ∧ True) ∧ (¬asmN s = (0 : Nat) → ∃ (x_1 : Nat), asmN s ≤ x_1 ∧ (True ∧ True ∧ (0 : Nat) = (0 : Nat) ∧ asmN s = asmN s ∧ x = x_1) ∧ True ∧ (x_1 * (1 :
  Nat) ≤ x * (1 : Nat) ∧ asmN s = asmN s ∧ ∀ (j : Nat), j < asmN s → asmB s j = asmB s j) ∧ True)) ∧ (¬asmOk s → False ∧ True ∧ True)))) ∧ (¬asmOk s → ∀ (v : Int), v = (↑(asmBad s) : Int) → ∀ (v : Int), v = (10 : Int) →
  ((v != (0 : Int)) = true → asmPre s → (asmOk s → (asmN s = (0 : Nat) → True ∧ True ∧ True) ∧ (¬asmN s = (0 : Nat) → ∃ (x : Nat), asmN s ≤ x ∧ False ∧ False)) ∧ (¬asmOk s → True ∧ True ∧ True)) ∧ ((v != (0 : Int)) = false
  → asmPre s → (asmOk s → (asmN s = (0 : Nat) → True ∧ True ∧ True) ∧ (¬asmN s = (0 : Nat) → ∃ (x : Nat), asmN s ≤ x ∧ False ∧ False)) ∧ (¬asmOk s → True ∧ True ∧ True))) := by
  simp only [true_and, and_true, eq_self, implies_true, and_self, bne_iff_ne, ne_eq, bne_eq_false_iff_eq]
  intro s h
  exact ⟨h, fun ok => ⟨fun hz v hv v1 hv1 => ⟨fun _ _ _ hn => absurd hz hn, fun _ _ _ hn => absurd hz hn⟩, fun hn x hx v hv v1 hv1 => ⟨fun hv' => absurd hv1 hv', fun _ _ => ⟨fun _ => ⟨fun hz => hn hz, fun _ => ⟨x, hx, rfl, Nat.le_refl _⟩⟩, fun hno => hno ok⟩⟩⟩,
    fun hno v hv v1 hv1 => ⟨fun _ _ ok => absurd ok hno, fun _ _ ok => absurd ok hno⟩⟩

def code_C (_ : ByteArray) : Cfg := { Γ := Go.Sx.look tCode, names := true }
theorem code_al (x : ByteArray) : Shown (codeP.vc Tryd.prog (code_C x) Tryd.f12 x) := ⟨@Eq.mp _ _ (by kernel_rfl) (code_vc x)⟩
theorem code_ok : SpOk Tryd.prog 12 codeP.sp := @Pat.okS _ codeP Tryd.prog code_C 12 Tryd.f12 (fun x => cfg_tab rfl tCode_ok) (by kernel_rfl) Tryd.func12 (fun _ => rfl) code_al
end
end Go.Proofs.YtjofnajamlmllaaDoor
