import Derived.Test.YtnicidiocncjdaaH3
import Derived.Shelf.SlSortCmp.WholeK
import Derived.Shelf.SlSortCmp.NoneTotal
open Go Go.Sx Go.Proofs
set_option maxRecDepth 100000
namespace Go.Proofs.Ytnicidiocncjdaa
open Go.RowKit Go.Shelf Go.Lib Go.Sort

def Try.sortIt_ren : Go.Shelf.Ren := ⟨fun | 6 => 34 | 15 => 41 | 14 => 40 | 28 => 52 | 29 => 53 | 20 => 44 | 21 => 45 | 22 => 46 | 23 => 47 | 24 => 48 | 25 => 49 | 26 => 50 | 27 => 51 | 46 => 54 | 47 => 55 | 48 => 56 | 49 => 57 | 50 => 58 | 57 => 59 | n => n, fun | 22 => 52 | 24 => 57 | 25 => 65 | 3 => 3 | 39 => 77 | 0 => 0 | 53 => 88 | 55 => 28 | 4 => 4 | 46 => 81 | 45 => 80 | 50 => 85 | 5 => 5 | 9 => 9 | 66 => 90 | 70 => 94 | 76 => 96 | 77 => 97 | n => n, fun | n => n⟩
theorem Try.sortIt : Go.Proofs.SlLaysF0.n6 Try.prog Try.sortIt_ren := {
  mixed := by kernel_rfl,
  f6 := ⟨Try.f34.name, by decide, Try.func34.trans (congrArg some (by kernel_rfl))⟩,
  f14 := ⟨Try.f40.name, by decide, Try.func40.trans (congrArg some (by kernel_rfl))⟩,
  f15 := Try.func41.trans (congrArg some (by kernel_rfl)),
  f20 := ⟨Try.f44.name, by decide, Try.func44.trans (congrArg some (by kernel_rfl))⟩,
  f21 := ⟨Try.f45.name, by decide, Try.func45.trans (congrArg some (by kernel_rfl))⟩,
  f22 := ⟨Try.f46.name, by decide, Try.func46.trans (congrArg some (by kernel_rfl))⟩,
  f23 := ⟨Try.f47.name, by decide, Try.func47.trans (congrArg some (by kernel_rfl))⟩,
  f24 := ⟨Try.f48.name, by decide, Try.func48.trans (congrArg some (by kernel_rfl))⟩,
  f25 := ⟨Try.f49.name, by decide, Try.func49.trans (congrArg some (by kernel_rfl))⟩,
  f26 := ⟨Try.f50.name, by decide, Try.func50.trans (congrArg some (by kernel_rfl))⟩,
  f27 := ⟨Try.f51.name, by decide, Try.func51.trans (congrArg some (by kernel_rfl))⟩,
  f28 := Try.func52.trans (congrArg some (by kernel_rfl)),
  f29 := Try.func53.trans (congrArg some (by kernel_rfl)),
  f46 := ⟨Try.f54.name, by decide, Try.func54.trans (congrArg some (by kernel_rfl))⟩,
  f47 := Try.func55.trans (congrArg some (by kernel_rfl)),
  f48 := Try.func56.trans (congrArg some (by kernel_rfl)),
  f49 := ⟨Try.f57.name, by decide, Try.func57.trans (congrArg some (by kernel_rfl))⟩,
  f50 := ⟨Try.f58.name, by decide, Try.func58.trans (congrArg some (by kernel_rfl))⟩,
  f57 := ⟨Try.f59.name, by decide, Try.func59.trans (congrArg some (by kernel_rfl))⟩,
  t0 := Try.underlying0,
  a0 := Try.isAgg0,
  z0 := Try.sizeOf0,
  v0 := Try.zeroValue0,
  t3 := Try.underlying3,
  a3 := Try.isAgg3,
  z3 := Try.sizeOf3,
  v3 := Try.zeroValue3,
  t4 := Try.underlying4,
  a4 := Try.isAgg4,
  z4 := Try.sizeOf4,
  v4 := Try.zeroValue4,
  t5 := Try.underlying5,
  a5 := Try.isAgg5,
  z5 := Try.sizeOf5,
  v5 := Try.zeroValue5,
  t9 := Try.underlying9,
  a9 := Try.isAgg9,
  z9 := Try.sizeOf9,
  v9 := Try.zeroValue9,
  t22 := Try.underlying52,
  a22 := Try.isAgg52,
  z22 := Try.sizeOf52,
  v22 := Try.zeroValue52,
  t25 := Try.underlying65,
  a25 := Try.isAgg65,
  z25 := Try.sizeOf65,
  v25 := Try.zeroValue65,
  t39 := Try.underlying77,
  a39 := Try.isAgg77,
  z39 := Try.sizeOf77,
  v39 := Try.zeroValue77,
  t45 := Try.underlying80,
  a45 := Try.isAgg80,
  z45 := Try.sizeOf80,
  v45 := Try.zeroValue80,
  t46 := Try.underlying81,
  a46 := Try.isAgg81,
  z46 := Try.sizeOf81,
  v46 := Try.zeroValue81,
  t50 := Try.underlying85,
  a50 := Try.isAgg85,
  z50 := Try.sizeOf85,
  v50 := Try.zeroValue85,
  t53 := Try.underlying88,
  a53 := Try.isAgg88,
  z53 := Try.sizeOf88,
  v53 := Try.zeroValue88,
  t55 := Try.underlying28,
  a55 := Try.isAgg28,
  z55 := Try.sizeOf28,
  v55 := Try.zeroValue28,
  t66 := Try.underlying90,
  a66 := Try.isAgg90,
  z66 := Try.sizeOf90,
  v66 := Try.zeroValue90,
  t70 := Try.underlying94,
  a70 := Try.isAgg94,
  z70 := Try.sizeOf94,
  v70 := Try.zeroValue94,
  t76 := Try.underlying96,
  a76 := Try.isAgg96,
  z76 := Try.sizeOf96,
  v76 := Try.zeroValue96,
  t77 := Try.underlying97,
  a77 := Try.isAgg97,
  z77 := Try.sizeOf97,
  v77 := Try.zeroValue97 }

def ltI (x y : It) : Prop := x.2 < y.2 ∨ (x.2 = y.2 ∧ x.1 < y.1)
instance (x y : It) : Decidable (ltI x y) := by unfold ltI; infer_instance
theorem ordI_lt (x y : It) : ordI x y < 0 ↔ ltI x y := by
  unfold ordI orI cmpI ltI
  split <;> split <;> (try split) <;> (try split) <;> (try split) <;> omega
theorem ltOf_ord (x y : It) : ltOf ordI x y = decide (ltI x y) := by
  unfold ltOf
  exact decide_eq_decide.2 (ordI_lt x y)
theorem swoI : SWO (ltOf ordI) where
  irrefl x := by rw [ltOf_ord]; simp [ltI]
  trans x y z h1 h2 := by
    have a := of_decide_eq_true ((ltOf_ord x y).symm.trans h1)
    have b := of_decide_eq_true ((ltOf_ord y z).symm.trans h2)
    rw [ltOf_ord]
    refine decide_eq_true ?_
    unfold ltI at *
    omega
  ntrans x y z h1 h2 := by
    have a := of_decide_eq_false ((ltOf_ord x y).symm.trans h1)
    have b := of_decide_eq_false ((ltOf_ord y z).symm.trans h2)
    rw [ltOf_ord]
    refine decide_eq_false ?_
    unfold ltI at *
    omega
def itE (x : It) : List Value := [.int .i64 x.1, .int .u64 x.2]
theorem cmpLays (blk off size : Nat) (w : World) : CmpLays Try.prog 30 #[] itE 2 ordI blk off size w :=
  fun _ _ _ _ x y => order_calls x y _
/-- Sorted, and a permutation. -/
def Srt (n : Nat) (f g : Nat → It) : Prop := (upto g n).Perm (upto f n) ∧ ∀ i j, i < j → j < n → ¬ ltI (g j) (g i)
def sfP : Pat IS where
  view | [t, .fn 30 .nil], H => some (viewIS t H) | _, _ => none
  args x := [x.v 0, .fn 30 .nil]
  H x := [x.row]
  out x := .need (x.n ≤ 1000000 ∧ x.n ≤ x.cap) (.any (fun g : Nat → It => Srt x.n x.f g) fun g => .ret (.tup .nil) [rowReg 57 x.n 2 x.cap (fun j => itT (g j))])
theorem arr_upto (f : Nat → It) (n : Nat) : ∀ i, i < n → (upto f n).toArray[i]! = f i := fun i hi => by
  have := upto_at f hi
  simp only [List.getElem!_toArray]
  rw [List.getElem!_eq_getElem?_getD, this]
  rfl
theorem flat_at (d : Array It) {n : Nat} (hd : d.size = n) : ∀ j, j < n → (flatK itE 2 d)[j * 2]! = .int .i64 (d[j]!).1 ∧ (flatK itE 2 d)[j * 2 + 1]! = .int .u64 (d[j]!).2 := fun j hj => by
  rw [get_flatK _ _ _ _ (by omega), get_flatK _ _ _ _ (by omega), show j * 2 / 2 = j by omega, show (j * 2 + 1) / 2 = j by omega, show j * 2 % 2 = 0 by omega, show (j * 2 + 1) % 2 = 1 by omega]
  exact ⟨rfl, rfl⟩
theorem sf_spec (x : IS) (K : R → List Reg → Prop) (hw : (sfP.out x).wp false (sfP.H x) K) : Go.Sx.Spec Try.prog 34 (sfP.args x) (sfP.H x) K := by
  obtain ⟨⟨hn, hcap⟩, h1⟩ := hw
  intro ρ w hk hg
  have hr := (hk.holds 0 _ 0 rfl rfl).2
  obtain ⟨hr0, arr, harr, htot⟩ := hk.own 0 _ 0 rfl rfl rfl
  have hrlt := hk.lt 0 _ 0 rfl rfl
  have hr : ∀ j, j < x.n → Go.Sx.Holds ρ (wc w (ρ 0 0).1) (itT (x.f j)) ((ρ 0 0).2 + j * 2) := hr
  have harr : w.heap[(ρ 0 0).1]? = some (.cells arr 57 (0, 0)) := harr
  have htot : x.cap * 2 ≤ arr.size := htot
  rw [hr0] at hr
  have hsz : (upto x.f x.n).toArray.size = x.n := by simp [upto_length]
  have hH : HoldsK itE 2 w (ρ 0 0).1 0 (upto x.f x.n).toArray := fun j hj => by
    rw [size_flatK, hsz] at hj
    refine ⟨?_, by simp [World.frozen?, harr]⟩
    obtain ⟨a1, a2⟩ := flat_at (upto x.f x.n).toArray hsz (j / 2) (by omega)
    rw [arr_upto _ _ _ (by omega)] at a1 a2
    have h2 := hr (j / 2) (by omega)
    by_cases e : j % 2 = 0
    · rw [show j = j / 2 * 2 by omega, a1]
      exact h2.1
    · rw [show j = j / 2 * 2 + 1 by omega, a2]
      exact h2.2.1
  have hc := AnyQ.slices_SortFunc Try.sortIt 2 Try.isAgg57 Try.sizeOf57 itE (fun _ => rfl) (fun x v hv => by simp [itE] at hv; rcases hv with rfl | rfl <;> rfl) ordI swoI 30 #[] (ρ 0 0).1 0 x.cap (upto x.f x.n).toArray w (enters_of Try.func30 (by kernel_rfl) rfl) (cmpLays _ _ _ _) hH hrlt (by rw [hsz]; omega)
  have ea : ((sfP.args x).map (val ρ)).toArray = #[.slice (some ⟨(ρ 0 0).1, 0, none⟩) (upto x.f x.n).toArray.size x.cap, .func (.func 30) #[] #[]] := by
    rw [hsz]
    simp only [sfP, IS.v, List.map, val, T.cv, sc, pla, off, hr0, Nat.zero_mul, Nat.add_zero]
  rw [ea]
  refine hc.mono ?_
  rintro e w' ⟨rfl, d', n, os, hp, hs, rfl⟩
  rw [hsz] at hp hs
  obtain ⟨hd', -, hperm⟩ := hp
  rw [hsz] at hd'
  have hup : upto (fun j => d'[j]!) x.n = d'.toList := by
    apply List.ext_getElem
    · simp [upto_length, hd']
    · intro i h1 h2
      have hi : i < d'.size := by simpa using h2
      simp [upto, hi]
  have hsrt : Srt x.n x.f (fun j => d'[j]!) := by
    refine ⟨?_, fun i j hij hj => of_decide_eq_false ((ltOf_ord _ _).symm.trans (hs i j (Nat.zero_le _) hij hj))⟩
    rw [hup]
    rw [show d'.extract 0 x.n = d' by rw [← hd']; exact Array.extract_size, show (upto x.f x.n).toArray.extract 0 x.n = (upto x.f x.n).toArray from (congrArg (fun k => Array.extract (upto x.f x.n).toArray 0 k) hsz.symm).trans Array.extract_size] at hperm
    simpa using hperm
  obtain ⟨cs, hcs⟩ : ∃ cs, putCells id 0 (flatK itE 2 d') arr = cs := ⟨_, rfl⟩
  have hcz : cs.size = arr.size := by rw [← hcs]; simp [putCells]
  have hce : ∀ j, j < x.n → cs[j * 2]? = some (.int .i64 (d'[j]!).1) ∧ cs[j * 2 + 1]? = some (.int .u64 (d'[j]!).2) := fun j hj => by
    obtain ⟨a1, a2⟩ := flat_at d' hd' j hj
    have l1 : j * 2 < arr.size := by omega
    have l2 : j * 2 + 1 < arr.size := by omega
    rw [← hcs]
    unfold putCells
    constructor
    · rw [Array.getElem?_mapIdx, Array.getElem?_eq_getElem l1, Option.map_some, if_pos (by rw [size_flatK]; omega), Nat.sub_zero, a1]
      rfl
    · rw [Array.getElem?_mapIdx, Array.getElem?_eq_getElem l2, Option.map_some, if_pos (by rw [size_flatK]; omega), Nat.sub_zero, a2]
      rfl
  have hw1 := (WRel.refl hk).write (r := 0) (i := 0) (g := x.row) rfl rfl rfl (t := .arr x.n 2 (fun j => itT (d'[j]!))) (cs := cs) harr hcz (fun j hj => ⟨rfl, trivial, trivial, trivial⟩)
    (fun j hj => ⟨by rw [Nat.zero_add]; exact (hce j hj).1, by rw [Nat.zero_add]; exact (hce j hj).2, trivial⟩)
  have hB : Below (w.setRow (ρ 0 0).1 cs).heap.size (w.setRow (ρ 0 0).1 cs) (sortWorldK itE 2 w (ρ 0 0).1 0 n d' os) := by
    refine ⟨rfl, rfl, rfl, ?_, fun k hk => ?_⟩
    · rw [setRow_size]
      simp [sortWorldK, grow, putRowK, Go.Sort.putRow, mapBlock, Sort.ahead]
    · rw [setRow_size] at hk
      have e1 : (sortWorldK itE 2 w (ρ 0 0).1 0 n d' os).heap[k]? = (w.heap.modify (ρ 0 0).1 (onCells (putCells id 0 (flatK itE 2 d'))))[k]? := by
        show ((w.heap.modify (ρ 0 0).1 (onCells (putCells id 0 (flatK itE 2 d')))) ++ os)[k]? = _
        rw [Array.getElem?_append_left (by simpa using hk)]
      rw [e1, Array.getElem?_modify]
      by_cases e : (ρ 0 0).1 = k
      · rw [if_pos e, ← e, harr, setRow_heap w _ arr cs 57 (0, 0) harr]
        simp only [Option.map_some, onCells, hcs]
      · rw [if_neg e, setRow_other w _ _ cs (fun h => e h.symm)]
  refine ⟨_, ρ, _, h1 _ hsrt, hw1.trans (wrel_below hw1.hok hB), ?_, trivial⟩
  simp [val, T.cv, sc]
theorem sf_ok : SpOk Try.prog 34 sfP.sp := Pat.okH (by kernel_rfl) (fun _ => rfl) sf_spec
end Go.Proofs.Ytnicidiocncjdaa
