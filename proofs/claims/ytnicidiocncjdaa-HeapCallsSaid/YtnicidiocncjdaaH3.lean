import Derived.Test.YtnicidiocncjdaaH2
import Derived.Shelf.SlSortCmp.SmallK
import Derived.Shelf.Small.Bits
import Derived.StillTailTactics
open Go Go.Sx Go.Proofs
set_option maxRecDepth 100000
namespace Go.Proofs.Ytnicidiocncjdaa
open Go.RowKit Go.Shelf Go.Lib Go.Sort

def cmpI (a b : Int) : Int := if a < b then -1 else if b < a then 1 else 0
def orI (a b : Int) : Int := if a = 0 then b else a
def ordI (x y : It) : Int := orI (cmpI x.2 y.2) (cmpI x.1 y.1)

set_option maxHeartbeats 1000000 in
theorem cmpU_calls (a b : Int) (W : World) : Calls Try.prog 37 #[.int .u64 a, .int .u64 b] W fun e w' => e = .returned (.int .i64 (cmpI a b)) ∧ w' = W := by
  obtain ⟨r, hr⟩ : ∃ r, cmpI a b = r := ⟨_, rfl⟩
  rw [hr]
  go_enter Try.func37, Try.ntmps37
  go_wp2
  all_goals (go_ret; refine ⟨?_, rfl⟩)
  · show Ending.returned (Value.int .i64 (-1)) = _
    rw [← hr, cmpI, if_pos (by assumption)]
  · show Ending.returned (Value.int .i64 1) = _
    rw [← hr, cmpI, if_neg (by omega), if_pos (by assumption)]
  · show Ending.returned (Value.int .i64 0) = _
    rw [← hr, cmpI, if_neg (by omega), if_neg (by omega)]
set_option maxHeartbeats 1000000 in
theorem cmpS_calls (a b : Int) (W : World) : Calls Try.prog 38 #[.int .i64 a, .int .i64 b] W fun e w' => e = .returned (.int .i64 (cmpI a b)) ∧ w' = W := by
  obtain ⟨r, hr⟩ : ∃ r, cmpI a b = r := ⟨_, rfl⟩
  rw [hr]
  go_enter Try.func38, Try.ntmps38
  go_wp2
  all_goals (go_ret; refine ⟨?_, rfl⟩)
  · show Ending.returned (Value.int .i64 (-1)) = _
    rw [← hr, cmpI, if_pos (by assumption)]
  · show Ending.returned (Value.int .i64 1) = _
    rw [← hr, cmpI, if_neg (by omega), if_pos (by assumption)]
  · show Ending.returned (Value.int .i64 0) = _
    rw [← hr, cmpI, if_neg (by omega), if_neg (by omega)]
set_option maxHeartbeats 1000000 in
theorem or_calls (a b : Int) (blk : Nat) (W : World) (h0 : W.cell? ⟨blk, 0, none⟩ = some (.int .i64 a)) (h1 : W.cell? ⟨blk, 1, none⟩ = some (.int .i64 b)) : Calls Try.prog 36 #[.slice (some ⟨blk, 0, none⟩) 2 2] W fun e w' => e = .returned (.int .i64 (orI a b)) ∧ w' = W := by
  obtain ⟨r, hr⟩ : ∃ r, orI a b = r := ⟨_, rfl⟩
  rw [hr]
  go_enter Try.func36, Try.ntmps36
  go_wp2
  go_loop [8] (fun i => ∃ k : Nat, k ≤ 2 ∧ i = .int .i64 k ∧ (1 ≤ k → a = 0) ∧ (2 ≤ k → b = 0)) (fun i => 2 - (intOf i).toNat)
  case atStart => exact ⟨0, by omega, rfl, by omega, by omega⟩
  case round =>
    obtain ⟨k, hk, rfl, ha, hb⟩ := hrel
    by_cases k2 : k = 2
    · subst k2
      go_wp2
      go_ret
      refine ⟨?_, rfl⟩
      show Ending.returned (Value.int .i64 0) = _
      rw [← hr, orI, if_pos (ha (by omega)), hb (by omega)]
    by_cases k1 : k = 1
    · subst k1
      have ha := ha (by omega)
      go_wp2
      · go_ret
        refine ⟨?_, rfl⟩
        show Ending.returned (Value.int .i64 b) = _
        rw [← hr, orI, if_pos ha]
      · have hb0 : b = 0 := by
          have h : (b != 0) = false := by assumption
          simpa using h
        exact ⟨⟨2, by omega, rfl, fun _ => ha, fun _ => hb0⟩, by simp [intOf]⟩
    obtain rfl : k = 0 := by omega
    go_wp2
    · go_ret
      refine ⟨?_, rfl⟩
      have hne : a ≠ 0 := by
        have h : (a != 0) = true := by assumption
        simpa using h
      show Ending.returned (Value.int .i64 a) = _
      rw [← hr, orI, if_neg hne]
    · have ha0 : a = 0 := by
        have h : (a != 0) = false := by assumption
        simpa using h
      exact ⟨⟨1, by omega, rfl, fun _ => ha0, by omega⟩, by simp [intOf]⟩
theorem cell2 {W2 : World} {B : Nat} {a b : Value} {t : TypeId} (h : W2.heap[B]? = some (.cells #[a, b] t (0, 0))) : W2.cell? ⟨B, 0, none⟩ = some a ∧ W2.cell? ⟨B, 1, none⟩ = some b := by
  constructor <;> simp [World.cell?, h]
theorem two_new (W : World) (a b c d : Value) (t : TypeId) : ∀ W2, ({ (W.alloc (.cells #[a, b] t)).alloc (.cells #[c, d] t) with drawn := W.drawn + 1 } : World) = W2 → ((W2.cell? ⟨W.heap.size, 0, none⟩ = some a ∧ W2.cell? ⟨W.heap.size, 1, none⟩ = some b) ∧ W2.cell? ⟨W.heap.size + 1, 0, none⟩ = some c ∧ W2.cell? ⟨W.heap.size + 1, 1, none⟩ = some d) ∧ ∃ q os', W2 = grow (W.drewN q) os' := by
  rintro W2 rfl
  refine ⟨⟨cell2 (t := t) ?_, cell2 (t := t) ?_⟩, 1, #[.cells #[a, b] t (0, 0), .cells #[c, d] t (0, 0)], ?_⟩
  · exact (Below.heap_alloc _ _ _ (by simp)).trans (World.alloc_heap_new W _)
  · have := World.alloc_heap_new (W.alloc (.cells #[a, b] t)) (.cells #[c, d] t)
    rwa [World.size_alloc] at this
  · show ({ (W.alloc (.cells #[a, b] t)).alloc (.cells #[c, d] t) with drawn := W.drawn + 1 } : World) = grow (W.drewN 1) #[.cells #[a, b] t (0, 0), .cells #[c, d] t (0, 0)]
    rw [alloc_eq_grow, alloc_eq_grow, grow_grow]
    rfl
set_option maxHeartbeats 2000000 in
theorem order_calls (x y : It) (W : World) : Calls Try.prog 30 #[itV x, itV y] W fun e w' => e = .returned (.int .i64 (ordI x y)) ∧ ∃ q os', w' = grow (W.drewN q) os' := by
  obtain ⟨c1, h1⟩ : ∃ c, cmpI x.2 y.2 = c := ⟨_, rfl⟩
  obtain ⟨c2, h2⟩ : ∃ c, cmpI x.1 y.1 = c := ⟨_, rfl⟩
  obtain ⟨r, hr⟩ : ∃ c, orI c1 c2 = c := ⟨_, rfl⟩
  have e : ordI x y = r := by rw [ordI, h1, h2, hr]
  rw [e]
  have k1 := fun W' => cmpU_calls x.2 y.2 W'
  have k2 := fun W' => cmpS_calls x.1 y.1 W'
  have k3 := fun blk W' => or_calls c1 c2 blk W'
  rw [h1] at k1
  rw [h2] at k2
  rw [hr] at k3
  unfold itV
  go_enter Try.func30, Try.ntmps30
  go_wp2
  obtain ⟨W1, hW1⟩ : ∃ W1, (W.alloc (.cells #[.int .i64 x.1, .int .u64 x.2] 57)).alloc (.cells #[.int .i64 y.1, .int .u64 y.2] 57) = W1 := ⟨_, rfl⟩
  rw [hW1]
  refine wp_region_still_tail 10 (by kernel_rfl) (by kernel_rfl) ?_
  obtain ⟨W2, hW2⟩ : ∃ W2, ({ W1 with drawn := W1.drawn + 1 } : World) = W2 := ⟨_, rfl⟩
  rw [hW2]
  obtain ⟨⟨⟨hx1, hx2⟩, hy1, hy2⟩, hg⟩ := two_new W _ _ _ _ 57 W2 (by rw [← hW2, ← hW1]; rfl)
  clear hW2 hW1
  simp only [List.take_succ_cons, List.take_zero, List.drop_succ_cons, List.drop_zero]
  repeat still_step
  still_call (k1 _)
  repeat still_step
  still_call (k2 _)
  repeat still_step
  refine wpStill_nil ?_
  have hk3 : ∀ v, Calls Try.prog 36 #[.slice (some ⟨W2.heap.size, 0, none⟩) 2 2] (W2.alloc (.cells #[.int .i64 c1, .int .i64 c2] v)) fun e w' => e = .returned (.int .i64 r) ∧ w' = W2.alloc (.cells #[.int .i64 c1, .int .i64 c2] v) := fun v => k3 _ _ (by simp) (by simp)
  go_wp2_with (go_at_call 36; refine (hk3 _).mono ?_; rintro e w' ⟨rfl, rfl⟩)
  go_ret
  obtain ⟨q, os', rfl⟩ := hg
  exact ⟨rfl, q, _, by rw [alloc_eq_grow, grow_grow]⟩
end Go.Proofs.Ytnicidiocncjdaa
