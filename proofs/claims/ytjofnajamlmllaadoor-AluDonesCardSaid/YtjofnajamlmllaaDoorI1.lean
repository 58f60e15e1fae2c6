import Derived.Test.YtjofnajamlmllaaDoorI0
import Derived.Test.YtjofnajamlmllaaDoorMIsa
open Go Go.Sx Go.Proofs
set_option maxRecDepth 100000
namespace Go.Proofs.YtjofnajamlmllaaDoor
open Go.RowKit Go.Lib

theorem wrel_below {ρ : Rho} {H : List Reg} {w w' : World} (hk : HOk ρ H w) (hB : Below w.heap.size w w') : WRel ⟨ρ, H, w⟩ ρ H w' := by
  have hb : ∀ r g i, getReg H r = some g → g.has i → w'.heap[(ρ r i).1]? = w.heap[(ρ r i).1]? := fun r g i e hi => hB.block _ (hk.lt r g i e hi)
  refine ⟨⟨fun r g i e hi => ?_, fun r g i e hi ho => ?_, fun r g i e hi => Nat.lt_of_lt_of_le (hk.lt r g i e hi) hB.size, hk.apart⟩, Nat.le_refl _, fun _ _ => rfl, fun r g _ e => ⟨g, e, id, fun _ h => h⟩, fun r g i hr e => ?_, hB.os, hB.tape, hB.output, hB.size, fun b hb' => ?_, fun b hb' _ => hB.block b hb'⟩
  · rw [wc_of_heap' (hb r g i e hi)]
    exact hk.holds r g i e hi
  · rw [hb r g i e hi]
    exact hk.own r g i e hi ho
  · have : getReg H r = none := by rw [getReg_eq]; exact List.getElem?_eq_none hr
    rw [this] at e
    cases e
  · simp only [World.shape?, hB.block b hb']

theorem Pat.okH {α : Type} {p : Pat α} {P : Program} {f : FuncId} (hb : bodyOk P f = true) (hn : ∀ x, noTop (p.args x) = true) (h : ∀ x K, (p.out x).wp false (p.H x) K → Go.Sx.Spec P f (p.args x) (p.H x) K) : SpOk P f p.sp := by
  intro args H K hw
  unfold Pat.sp at hw
  split at hw
  · exact call_of_spec hb (Spec.emb (hn _) (fun K' hK' => h _ K' hK') hw)
  · exact hw.elim

def bs (l : List UInt8) : ByteArray := ⟨l.toArray⟩
theorem bs_data (l : List UInt8) : (bs l).data.toList = l := rfl
theorem bs_of (b : ByteArray) : bs b.data.toList = b := by cases b; simp [bs]

/-! strings.TrimPrefix -/
def trimP : Pat (ByteArray × ByteArray) where
  view | [.str s, .str p], _ => some (s, p) | _, _ => none
  args x := [.str x.1, .str x.2]
  H _ := []
  out x := .retq (.str (bs (trimPrefix x.1.data.toList x.2.data.toList)))
theorem trim_spec (x : ByteArray × ByteArray) (K : R → List Reg → Prop) (hw : (trimP.out x).wp false (trimP.H x) K) : Go.Sx.Spec Tryd.prog 51 (trimP.args x) (trimP.H x) K := by
  intro ρ w hk hG hg
  have c : Calls Tryd.prog 51 #[.string x.1, .string x.2] w _ := Any.strings_TrimPrefix Tryd.layTrim x.1 x.2 w
  refine c.mono ?_
  rintro e w' ⟨rfl, rfl⟩
  exact ⟨_, ρ, _, hw, WRel.refl hk, rfl, trivial⟩
theorem trim_ok : SpOk Tryd.prog 51 trimP.sp := Pat.okH (by kernel_rfl) (fun _ => rfl) trim_spec


/-! strconv.Itoa -/
theorem below_grow (w : World) (k : Nat) (os : Array Obj) : Below w.heap.size w (Go.Sort.grow (w.drewN k) os) := ⟨rfl, rfl, rfl, by simp [Go.Sort.grow, World.drewN], fun b hb => by simp [Go.Sort.grow, World.drewN, Array.getElem?_append, hb]⟩
theorem tab_of {ρ : Rho} {H : List Reg} {w : World} (hG : GOk ρ H w) : Lib.TabIs Tryd.prog w "internal/strconv.uint64pow10" .u64 Lib.pow10Tab := by
  obtain ⟨⟨o, ho, ty, fz, rfl⟩, _⟩ := hG (5, isRow pow10V) (by simp [globs])
  have hn : Tryd.prog.globalNamed "internal/strconv.uint64pow10" = some 5 := by kernel_rfl
  unfold Lib.TabIs World.var?
  rw [hn]
  simp only [Option.bind_some, ho]
  rfl
def itoaP : Pat Int where
  view | [.int .i64 n], _ => some n | _, _ => none
  args n := [.int .i64 n]
  H _ := []
  out n := .need (i64 n) (.retq (.str (bs (itoa n))))
theorem itoa_spec (n : Int) (K : R → List Reg → Prop) (hw : (itoaP.out n).wp false (itoaP.H n) K) : Go.Sx.Spec Tryd.prog 44 (itoaP.args n) (itoaP.H n) K := by
  intro ρ w hk hG hg
  have h64 : i64 n := hw.1
  have h1 := h64.1
  have h2 := h64.2
  have c : Calls Tryd.prog 44 #[.int .i64 n] w _ := Any.strconv_Itoa Tryd.layItoa n h1 (by omega) w (tab_of hG)
  refine c.mono ?_
  rintro e w' ⟨rfl, k, os, rfl⟩
  exact ⟨_, ρ, _, hw.2, wrel_below hk (below_grow w k os), rfl, trivial⟩
theorem itoa_ok : SpOk Tryd.prog 44 itoaP.sp := Pat.okH (by kernel_rfl) (fun _ => rfl) itoa_spec


/-! strconv.Atoi, where it is a number -/
def atoiV (s : ByteArray) : Int := match atoiAll s.data.toList with
  | .ok v => v
  | _ => 0
theorem below_bytes (w : World) (e : TypeId) (t : ByteArray) : Below w.heap.size w (Lib.bytesWorld w e t) := by
  unfold Lib.bytesWorld World.freeze
  rw [if_neg (by decide)]
  refine ⟨rfl, rfl, rfl, ?_, fun b hb => ?_⟩
  · simp only [Array.size_modify, World.alloc, World.drew, Array.size_push]
    omega
  · simp only [World.alloc, World.drew]
    rw [Array.getElem?_modify, if_neg (by omega), Array.getElem?_push_lt hb]
    exact (Array.getElem?_eq_getElem hb).symm
def atoiP : Pat ByteArray where
  view | [.str s], _ => some s | _, _ => none
  args s := [.str s]
  H _ := []
  out s := .need (s.size < 4294967281 ∧ ∃ v, atoiAll s.data.toList = .ok v) (.retq (.tup (.cons (.int .i64 (atoiV s)) (.cons .nili .nil))))
theorem atoi_spec (s : ByteArray) (K : R → List Reg → Prop) (hw : (atoiP.out s).wp false (atoiP.H s) K) : Go.Sx.Spec Tryd.prog 50 (atoiP.args s) (atoiP.H s) K := by
  intro ρ w hk hG hg
  obtain ⟨⟨hs, v, hv⟩, hK⟩ := hw
  have c : Calls Tryd.prog 50 #[.string s] w _ := Any.strconv_Atoi_ok Tryd.layAtoi s (by omega) v hv w
  refine c.mono ?_
  rintro e w' ⟨rfl, hw'⟩
  have hB : Below w.heap.size w w' := by
    rcases hw' with rfl | ⟨t, rfl⟩
    · exact Below.refl _ _
    · exact below_bytes w _ t
  have e1 : atoiV s = v := by unfold atoiV; rw [hv]
  refine ⟨_, ρ, _, hK, wrel_below hk hB, ?_, trivial, trivial, trivial⟩
  rw [e1]
  rfl
theorem atoi_ok : SpOk Tryd.prog 50 atoiP.sp := Pat.okH (by kernel_rfl) (fun _ => rfl) atoi_spec


/-! rows of strings -/
structure SR where
  n : Nat
  cap : Nat
  f : Nat → ByteArray
def SR.row (x : SR) : Reg := rowReg 9 x.n 1 x.cap (fun j => .str (x.f j))
def SR.v (x : SR) (r : Nat) : T := .slice r 0 [] 0 1 x.n x.cap
def ofL (l : List ByteArray) : SR := ⟨l.length, l.length, fun j => l[j]?.getD ByteArray.empty⟩
def splitOf (s p : ByteArray) : List ByteArray := splitB p 0 (countB s p) s
def splitP : Pat (ByteArray × ByteArray) where
  view | [.str s, .str p], _ => some (s, p) | _, _ => none
  args x := [.str x.1, .str x.2]
  H _ := []
  out x := .need (x.1.size < 4294967281 ∧ 1 ≤ x.2.size) (.ret ((ofL (splitOf x.1 x.2)).v 0) [(ofL (splitOf x.1 x.2)).row])
theorem maxlen_of {ρ : Rho} {H : List Reg} {w : World} (hG : GOk ρ H w) : ∃ m : Int, w.cell? ⟨2, 0, none⟩ = some (.int .i64 m) := by
  obtain ⟨⟨o, ho, m, cs, ty, fz, rfl, hm⟩, _⟩ := hG (2, isInt) (by simp [globs])
  exact ⟨m, by simpa [World.cell?, ho] using hm⟩
theorem split_spec (x : ByteArray × ByteArray) (K : R → List Reg → Prop) (hw : (splitP.out x).wp false (splitP.H x) K) : Go.Sx.Spec Tryd.prog 34 (splitP.args x) (splitP.H x) K := by
  intro ρ w hk hG hg
  obtain ⟨⟨hs, h1⟩, hK⟩ := hw
  obtain ⟨m, hm⟩ := maxlen_of hG
  have c : Calls Tryd.prog 34 #[.string x.1, .string x.2] w _ := Any.strings_Split Tryd.laySplit (by kernel_rfl) x.1 x.2 m w hs hm h1
  refine c.mono ?_
  rintro e w' ⟨rfl, rfl⟩
  have hlen : (splitOf x.1 x.2).length = Lib.countB x.1 x.2 + 1 := Lib.splitB_all x.2 h1 0 _ x.1 rfl
  have hh : (w.alloc (.cells ((splitOf x.1 x.2).map Value.string).toArray 9)).heap[w.heap.size]? = some (.cells ((splitOf x.1 x.2).map Value.string).toArray 9 (0, 0)) := by show (Array.push _ _)[w.heap.size]? = _; simp only [Array.getElem?_push_size]
  have hW := wrel_below hk ((Below.refl w.heap.size w).alloc (Nat.le_refl _) (.cells ((splitOf x.1 x.2).map Value.string).toArray 9))
  have hname := hW.name (b := w.heap.size) (arr := ((splitOf x.1 x.2).map Value.string).toArray) (g := (ofL (splitOf x.1 x.2)).row) rfl hh
    (fun r g' i e hi => by have h2 := hk.lt r g' i e hi; show (ρ r i).1 ≠ w.heap.size; omega) (by show (splitOf x.1 x.2).length * 1 ≤ _; simp)
    (fun j hj => ⟨rfl, trivial⟩)
    (fun j hj => by
      have hj : j < (splitOf x.1 x.2).length := hj
      show ((splitOf x.1 x.2).map Value.string).toArray[0 + j * 1]? = some (.string ((splitOf x.1 x.2)[j]?.getD ByteArray.empty))
      simp [hj]) (.inl (Nat.le_refl _))
  refine ⟨_, _, _, hK, hname, ?_, ?_⟩
  · show Ending.returned _ = Ending.returned _
    have e2 : ext ρ (splitP.H x).length w.heap.size 0 0 = (w.heap.size, 0) := by show ext ρ 0 w.heap.size 0 0 = _; rw [ext_new]
    simp only [SR.v, ofL, val, T.cv, sc, pla, off, e2, hlen]
  · show (0 : Nat) < 1
    omega
theorem split_ok : SpOk Tryd.prog 34 splitP.sp := Pat.okH (by kernel_rfl) (fun _ => rfl) split_spec


/-! strings.Join -/
structure JR where
  s : SR
  p : ByteArray
def JR.l (x : JR) : List ByteArray := (List.range x.s.n).map x.s.f
def JR.b (x : JR) : ByteArray := bs (join (x.l.map (·.data.toList)) x.p.data.toList)
def SR.ro (x : SR) : Reg := { own := false, pl := true, fam := 1, el := 9, tot := fun _ => 0, c := fun _ => .arr x.n 1 (fun j => .str (x.f j)) }
def viewSR (t : T) (H : List Reg) : SR := ⟨tLen t, tCap t, fun j => tStr (tArr (regC H (tRef t)) j)⟩
def joinP : Pat JR where
  view | [t, .str p], H => some ⟨viewSR t H, p⟩ | _, _ => none
  args x := [x.s.v 0, .str x.p]
  H x := [x.s.ro]
  out x := .need (x.s.n ≤ 1000 ∧ x.s.n ≤ x.s.cap ∧ x.b.size ≤ 140737488355328) (.retq (.str x.b))
theorem join_spec (x : JR) (K : R → List Reg → Prop) (hw : (joinP.out x).wp false (joinP.H x) K) : Go.Sx.Spec Tryd.prog 45 (joinP.args x) (joinP.H x) K := by
  intro ρ w hk hG hg
  obtain ⟨⟨hn, hcap, hb⟩, hK⟩ := hw
  have hr := (hk.holds 0 _ 0 rfl rfl).2
  have hlt := hk.lt 0 _ 0 rfl rfl
  have hr : ∀ j, j < x.s.n → Holds ρ (wc w (ρ 0 0).1) (.str (x.s.f j)) ((ρ 0 0).2 + j * 1) := hr
  have hl : x.l.length = x.s.n := by simp [JR.l]
  have c : Calls Tryd.prog 45 #[.slice (some ⟨(ρ 0 0).1, (ρ 0 0).2, none⟩) x.l.length x.s.cap, .string x.p] w _ := Any.strings_Join Tryd.layJoin Tryd.layExtra (ρ 0 0).1 (ρ 0 0).2 x.s.cap x.l x.p w
    (fun j y hy => by
      have hj : j < x.s.n := by rw [← hl]; exact (List.getElem?_eq_some_iff.1 hy).1
      have := hr j hj
      rw [Nat.mul_one] at this
      have e : y = x.s.f j := by simp only [JR.l, List.getElem?_map, List.getElem?_range hj, Option.map_some, Option.some.injEq] at hy; exact hy.symm
      rw [e]
      exact this) hlt (by omega) (by omega) (by
        have : x.b.size = (join (x.l.map (·.data.toList)) x.p.data.toList).length := by simp [JR.b, bs, ByteArray.size]
        omega)
  have e0 : ((joinP.args x).map (val ρ)).toArray = #[.slice (some ⟨(ρ 0 0).1, (ρ 0 0).2, none⟩) x.l.length x.s.cap, .string x.p] := by
    simp only [joinP, SR.v, List.map, val, T.cv, sc, pla, off, hl, Nat.zero_mul, Nat.add_zero]
  rw [e0]
  refine c.mono ?_
  rintro e w' ⟨rfl, hB⟩
  exact ⟨_, ρ, _, hK, wrel_below hk hB, rfl, trivial⟩
theorem join_ok : SpOk Tryd.prog 45 joinP.sp := Pat.okH (by kernel_rfl) (fun _ => rfl) join_spec

end Go.Proofs.YtjofnajamlmllaaDoor
