import Derived.Test.YtnicidiocncjdaaH11
open Go Go.Sx Go.Proofs
set_option maxRecDepth 100000
namespace Go.Proofs.Ytnicidiocncjdaa
open Go.RowKit Go.Sort

/-! contracts where it is known how the call ends -/
def pushXP : Pat (HP × Int × Int) where
  view | [.ptr r 0 [], .int .i64 n, .int .u64 q], H => some (viewHP r H, n, q) | _, _ => none
  args x := [p0 0, .int .i64 x.2.1, .int .u64 x.2.2]
  H x := [x.1.me 1, x.1.row]
  out x := .need (((x.1.Full ∧ x.1.n ≤ 10000) ∧ 0 ≤ x.2.2 ∧ x.2.2 < 18446744073709551616) ∧ (0 ≤ x.2.1 ∧ x.2.1 < 64) ∧ x.1.M x.2.1 = none)
    (.any (fun h : HP => h.Full ∧ h.n = x.1.n + 1 ∧ ∀ i, h.M i = if i = x.2.1 then some x.2.2 else x.1.M i) fun h => .ret (.int .i64 0) [h.me 2, dead, h.row])
def pushXNP : Pat ((Nat → Int) × Int × Int) where
  view | [.ptr r 0 [], .int .i64 n, .int .u64 q], H => some ((viewHP r H).at_, n, q) | _, _ => none
  args x := [p0 0, .int .i64 x.2.1, .int .u64 x.2.2]
  H x := [nilReg x.1]
  out x := .need (((∀ i, i < 64 → x.1 i = 0) ∧ 0 ≤ x.2.2 ∧ x.2.2 < 18446744073709551616) ∧ 0 ≤ x.2.1 ∧ x.2.1 < 64)
    (.any (fun h : HP => h.Full ∧ h.n = 1 ∧ ∀ i, h.M i = if i = x.2.1 then some x.2.2 else none) fun h => .ret (.int .i64 0) [h.me 1, h.row])
def chgXP : Pat (HP × Int × Int) where
  view | [.ptr r 0 [], .int .i64 n, .int .u64 q], H => some (viewHP r H, n, q) | _, _ => none
  args x := [p0 0, .int .i64 x.2.1, .int .u64 x.2.2]
  H x := [x.1.me 1, x.1.row]
  out x := .need (((x.1.Full ∧ x.1.n ≤ 10000) ∧ 0 ≤ x.2.2 ∧ x.2.2 < 18446744073709551616) ∧ (0 ≤ x.2.1 ∧ x.2.1 < 64) ∧ ¬ x.1.M x.2.1 = none)
    (.any (fun h : HP => h.Full ∧ (h.n = x.1.n ∧ h.cap = x.1.cap) ∧ ∀ i, h.M i = if i = x.2.1 then some x.2.2 else x.1.M i) fun h => .ret (.int .i64 0) [h.me 1, h.row])
def remXP : Pat (HP × Int) where
  view | [.ptr r 0 [], .int .i64 n], H => some (viewHP r H, n) | _, _ => none
  args x := [p0 0, .int .i64 x.2]
  H x := [x.1.me 1, x.1.row]
  out x := .need ((x.1.Full ∧ x.1.n ≤ 10000) ∧ ¬ x.1.M x.2 = none)
    (.any (fun h : HP => h.Full ∧ (h.n = x.1.n - 1 ∧ h.cap = x.1.cap) ∧ ∀ i, h.M i = if i = x.2 then none else x.1.M i) fun h => .ret .tt [h.me 1, h.row])
def popXP : Pat HP where
  view | [.ptr r 0 []], H => some (viewHP r H) | _, _ => none
  args _ := [p0 0]
  H h := [h.me 1, h.row]
  out h := .need ((h.Full ∧ h.n ≤ 10000) ∧ ¬ h.n = 0)
    (.any (fun g : HP => g.Full ∧ (g.n = h.n - 1 ∧ g.cap = h.cap) ∧ ∀ i, g.M i = if i = h.id 0 then none else h.M i) fun g => .ret (tup3 (h.id 0) (h.key 0) true) [g.me 1, g.row])
def listXP : Pat HP where
  view | [.ptr r 0 []], H => some (viewHP r H) | _, _ => none
  args _ := [p0 0]
  H h := [h.me 1, h.row]
  out h := .need (h.n ≤ 1000 ∧ ¬ h.n = 0) (.any (fun z : (Nat → It) × Nat => Srt h.n h.f z.1 ∧ h.n ≤ z.2) fun z => .ret (.slice 2 0 [] 0 1 h.n z.2) [h.me 1, h.row, rowReg 3 h.n 1 z.2 (fun j => .int .i64 (z.1 j).1)])






theorem pushX_ok : SpOk Try.prog 9 pushXP.sp := by
  refine Pat.okH (by kernel_rfl) (fun _ => rfl) ?_
  intro x K hw
  have h2 : (pushP.out x).wp false (pushP.H x) K := by
    obtain ⟨a, b⟩ := hw
    exact ⟨a.1, fun h => absurd a.2.1 h, fun _ => ⟨fun h => absurd a.2.2 h, fun _ => b⟩⟩
  have h3 := @Pat.spec _ pushP Try.prog (push1_C x) 9 Try.f9 (cfg_tab rfl tPush_ok) Try.func9 x (push1_al x).out K h2
  exact h3
theorem pushXN_ok : SpOk Try.prog 9 pushXNP.sp := by
  refine Pat.okH (by kernel_rfl) (fun _ => rfl) ?_
  intro x K hw
  have h2 : (pushNP.out x).wp false (pushNP.H x) K := by
    obtain ⟨a, b⟩ := hw
    exact ⟨a.1, fun h => absurd a.2 h, fun _ => b⟩
  have h3 := @Pat.spec _ pushNP Try.prog (pushN_C x) 9 Try.f9 (cfg_tab rfl tPush_ok) Try.func9 x (pushN_al x).out K h2
  exact h3
set_option maxHeartbeats 4000000 in
theorem chgX_ok : SpOk Try.prog 12 chgXP.sp := by
  refine Pat.okH (by kernel_rfl) (fun _ => rfl) ?_
  intro x K hw
  have h2 : (chgP.out x).wp false (chgP.H x) K := by
    obtain ⟨a, b⟩ := hw
    exact ⟨a.1, fun h => absurd a.2.1 h, fun _ => ⟨fun h => absurd h a.2.2, fun _ => b⟩⟩
  have h3 := @Pat.spec _ chgP Try.prog (chg1_C x) 12 Try.f12 (cfg_tab rfl tChg_ok) Try.func12 x (chg1_al x).out K h2
  exact h3
set_option maxHeartbeats 4000000 in
theorem remX_ok : SpOk Try.prog 13 remXP.sp := by
  refine Pat.okH (by kernel_rfl) (fun _ => rfl) ?_
  intro x K hw
  have h2 : (remP.out x).wp false (remP.H x) K := by
    obtain ⟨a, b⟩ := hw
    exact ⟨a.1, fun h => absurd h a.2, fun _ => b⟩
  have h3 := @Pat.spec _ remP Try.prog (rem1_C x) 13 Try.f13 (cfg_tab rfl tRem_ok) Try.func13 x (rem1_al x).out K h2
  exact h3
set_option maxHeartbeats 4000000 in
theorem popX_ok : SpOk Try.prog 10 popXP.sp := by
  refine Pat.okH (by kernel_rfl) (fun _ => rfl) ?_
  intro x K hw
  have h2 : (popP.out x).wp false (popP.H x) K := by
    obtain ⟨a, b⟩ := hw
    exact ⟨a.1, fun h => absurd h a.2, fun _ => b⟩
  have h3 := @Pat.spec _ popP Try.prog (pop1_C x) 10 Try.f10 (cfg_tab rfl tPop_ok) Try.func10 x (pop1_al x).out K h2
  exact h3
set_option maxHeartbeats 4000000 in
theorem listX_ok : SpOk Try.prog 15 listXP.sp := by
  refine Pat.okH (by kernel_rfl) (fun _ => rfl) ?_
  intro x K hw
  have h2 : (listP.out x).wp false (listP.H x) K := by
    obtain ⟨a, b⟩ := hw
    exact ⟨a.1, fun h => absurd h a.2, fun _ => b⟩
  have h3 := @Pat.spec _ listP Try.prog (list1_C x) 15 Try.f15 (cfg_tab rfl tList_ok) Try.func15 x (list1_al x).out K h2
  exact h3
theorem listXA_ok : SpOk Try.prog 15 (altH nilMe (listNP.sp) (listXP.sp)) := altH_ok listN_ok listX_ok

theorem pushXA_ok : SpOk Try.prog 9 (altH nilMe (pushXNP.sp) (pushXP.sp)) := altH_ok pushXN_ok pushX_ok

end Go.Proofs.Ytnicidiocncjdaa
