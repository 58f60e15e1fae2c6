import Derived.Test.YtnicidiocncjdaaH1
open Go Go.Sx Go.Proofs
set_option maxRecDepth 100000
namespace Go.Proofs.Ytnicidiocncjdaa
open Go.RowKit

theorem wrel_below {ρ : Rho} {H : List Reg} {w w' : World} (hk : HOk ρ H w) (hB : Below w.heap.size w w') : WRel ⟨ρ, H, w⟩ ρ H w' := by
  have hb : ∀ r g i, getReg H r = some g → g.has i → w'.heap[(ρ r i).1]? = w.heap[(ρ r i).1]? := fun r g i e hi => hB.block _ (hk.lt r g i e hi)
  refine ⟨⟨fun r g i e hi => ?_, fun r g i e hi ho => ?_, fun r g i e hi => Nat.lt_of_lt_of_le (hk.lt r g i e hi) hB.size, hk.apart⟩, Nat.le_refl _, fun _ _ => rfl, fun r g _ e => ⟨g, e, id, fun _ h => h⟩, fun r g i hr e => ?_, hB.os, hB.tape, hB.output, hB.size, fun b hb' => ?_, fun b hb' _ => hB.block b hb'⟩
  · rw [wc_of_heap' (hb r g i e hi)]
    exact hk.holds r g i e hi
  · rw [hb r g i e hi]
    exact hk.own r g i e hi ho
  · have : getReg H r = none := by rw [getReg_eq]; exact List.getElem?_eq_none hr
    rw [this] at e
    cases e
  · simp only [World.shape?, hB.block b hb']

theorem Pat.okH {α : Type} {p : Pat α} {P : Program} {f : FuncId} (hb : bodyOk P f = true) (hn : ∀ x, noTop (p.args x) = true) (h : ∀ x K, (p.out x).wp false (p.H x) K → Go.Sx.Spec P f (p.args x) (p.H x) K) : SpOk P f p.sp := by
  intro args H K hw
  unfold Pat.sp at hw
  split at hw
  · exact call_of_spec hb (Spec.emb (hn _) (fun K' hK' => h _ K' hK') hw)
  · exact hw.elim

/-- Items, as they lie in memory. -/
structure IS where
  n : Nat
  cap : Nat
  f : Nat → It
def itT (x : It) : T := .cons (.int .i64 x.1) (.cons (.int .u64 x.2) .nil)
def IS.row (x : IS) : Reg := rowReg 57 x.n 2 x.cap (fun j => itT (x.f j))
def IS.v (x : IS) (r : Nat) : T := .slice r 0 [] 0 2 x.n x.cap
def viewIS (t : T) (H : List Reg) : IS := ⟨tLen t, tCap t, fun j => (tInt (tAt (tArr (regC H (tRef t)) j) 0), tInt (tAt (tArr (regC H (tRef t)) j) 1))⟩
def aseqP : Pat IS where
  view | [.nils, .fn 35 (.cons (.ptr r 0 []) .nil)], H => some (viewIS (regC H r) H) | _, _ => none
  args _ := [.nils, .fn 35 (.cons (p0 0) .nil)]
  H x := [newReg 52 (x.v 1), x.row]
  out x := .need (x.n ≤ 1000000) (.br (x.n = 0) (.retq .nils) (.any (fun c : Nat => x.n ≤ c) fun c => .ret (.slice 2 0 [] 0 2 x.n c) [newReg 52 (x.v 1), x.row, rowReg 57 x.n 2 c (fun j => itT (x.f j))]))
theorem itCs_length (pre : List It) : (itCs pre).length = pre.length * 2 := by
  induction pre with
  | nil => rfl
  | cons a l ih => simp only [itCs, List.flatMap_cons, List.length_append, List.length_cons, List.length_nil] at ih ⊢; omega
theorem itCs_at (pre : List It) : ∀ j, j < pre.length → (itCs pre)[j * 2]? = some (.int .i64 (pre[j]?.getD (0, 0)).1) ∧ (itCs pre)[j * 2 + 1]? = some (.int .u64 (pre[j]?.getD (0, 0)).2) := by
  induction pre with
  | nil => intro j h; simp at h
  | cons a l ih =>
    intro j h
    cases j with
    | zero => simp [itCs]
    | succ j =>
      have := ih j (by simpa using h)
      simp only [itCs, List.flatMap_cons] at this ⊢
      rw [show (j + 1) * 2 = j * 2 + 1 + 1 by omega]
      simpa using this
theorem upto_at {α : Type} (f : Nat → α) {n j : Nat} (h : j < n) : (upto f n)[j]? = some (f j) := by simp [upto, h]
theorem aseq_spec (x : IS) (K : R → List Reg → Prop) (hw : (aseqP.out x).wp false (aseqP.H x) K) : Go.Sx.Spec Try.prog 39 (aseqP.args x) (aseqP.H x) K := by
  obtain ⟨hn, h0, h1⟩ := hw
  intro ρ w hk hg
  have hb := (hk.holds 0 _ 0 rfl rfl).2
  have hb0 := (hk.own 0 _ 0 rfl rfl rfl).1
  have hr := (hk.holds 1 _ 0 rfl rfl).2
  have hr0 := (hk.own 1 _ 0 rfl rfl rfl).1
  have hblt := hk.lt 0 _ 0 rfl rfl
  have hrlt := hk.lt 1 _ 0 rfl rfl
  have hb : w.cell? ⟨(ρ 0 0).1, (ρ 0 0).2, none⟩ = some (.slice (some ⟨(ρ 1 0).1, (ρ 1 0).2 + (0 + 0 * 2), none⟩) x.n x.cap) := hb
  have hr : ∀ j, j < x.n → Holds ρ (wc w (ρ 1 0).1) (itT (x.f j)) ((ρ 1 0).2 + j * 2) := hr
  rw [hb0] at hb
  rw [hr0] at hb hr
  have hI : Items w.heap.size w (.slice (some ⟨(ρ 1 0).1, 0, none⟩) x.n x.cap) x.n x.f := .inr ⟨(ρ 1 0).1, 0, x.cap, rfl, hrlt, fun j hj => ⟨(hr j hj).1, (hr j hj).2.1⟩⟩
  have hc := callsIn_wide.1 (appendSeq_in Fence.wide 3 trivial trivial rfl (Nat.le_refl _) (ρ 0 0).1 _ x.n x.f hn w hblt hb hI)
  have ea : ((aseqP.args x).map (val ρ)).toArray = #[.slice none 0 0, .func (.func 35) #[] #[.pointer (some ⟨(ρ 0 0).1, 0, none⟩)]] := by
    simp only [aseqP, List.map, val, T.cv, sc, p0, pla, off, hb0]
  rw [ea]
  refine hc.mono ?_
  rintro e w' ⟨v, rfl, hown, hnil, hB⟩
  have hW := wrel_below hk hB
  by_cases hz : x.n = 0
  · have hv := hnil.2 (by rw [hz]; rfl)
    subst hv
    exact ⟨_, ρ, _, h0 hz, hW, rfl, trivial⟩
  · obtain ⟨g, cap, cur, rfl, hbg, hgb, hcap, -, hcs, htk⟩ : ∃ g cap cur, v = .slice (some ⟨g, 0, none⟩) x.n cap ∧ w.heap.size ≤ g ∧ w'.heap[g]? = some (.cells cur 57 (0, 0)) ∧ x.n ≤ cap ∧ cap ≤ maxLen ∧ cur.size = cap * 2 ∧ cur.toList.take (x.n * 2) = itCs (upto x.f x.n) := by
      rcases hown.2 with ⟨_, h⟩ | h
      · exact absurd h hz
      · exact h
    have hcell : ∀ j, j < x.n → cur[j * 2]? = some (.int .i64 (x.f j).1) ∧ cur[j * 2 + 1]? = some (.int .u64 (x.f j).2) := fun j hj => by
      have h2 := itCs_at (upto x.f x.n) j (by rw [upto_length]; exact hj)
      rw [upto_at _ hj, ← htk, List.getElem?_take, List.getElem?_take, if_pos (by omega), if_pos (by omega)] at h2
      simpa using h2
    have hname := hW.name (b := g) (arr := cur) (g := rowReg 57 x.n 2 cap (fun j => itT (x.f j))) rfl hgb
      (fun r g' i e hi => by have h2 := hk.lt r g' i e hi; show (ρ r i).1 ≠ g; omega) (by show cap * 2 ≤ cur.size; omega)
      (fun j hj => ⟨rfl, trivial, trivial, trivial⟩)
      (fun j hj => ⟨by rw [Nat.zero_add]; exact (hcell j hj).1, by rw [Nat.zero_add]; exact (hcell j hj).2, trivial⟩) (.inl hbg)
    refine ⟨_, _, _, h1 hz cap hcap, hname, ?_, ?_⟩
    · show Ending.returned _ = Ending.returned _
      have e2 : ext ρ (aseqP.H x).length g 2 0 = (g, 0) := by rw [show (2 : Nat) = (aseqP.H x).length from rfl, ext_new]
      simp only [val, T.cv, sc, pla, off, e2]
    · show (2 : Nat) < 3
      omega
theorem aseq_ok : SpOk Try.prog 39 aseqP.sp := Pat.okH (by kernel_rfl) (fun _ => rfl) aseq_spec
end Go.Proofs.Ytnicidiocncjdaa
