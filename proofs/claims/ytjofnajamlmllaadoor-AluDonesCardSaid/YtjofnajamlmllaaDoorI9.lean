import Derived.Test.YtjofnajamlmllaaDoorI18
import Derived.Test.YtjofnajamlmllaaDoorIO
open Go Go.Sx Go.Proofs
open Go.ChangeShapes Go.WideShapes Go.ChangeAt Go.RowKit
set_option maxRecDepth 100000
namespace Go.Proofs.YtjofnajamlmllaaDoor
def lawDoneP : Pat (AS × EF × A32) where
  view | [.cons (.arr 16 1 f) (.cons (.int .u32 pc) .nil), .cons (.int .i64 k) (.cons (.int .i64 r) (.cons (.int .u32 a) (.cons (.int .u32 b) .nil))), .int .u32 v], _ => some ⟨⟨fun j => tInt (f j), pc⟩, ⟨k, r, a, b⟩, ⟨v⟩⟩ | _, _ => none
  args x := [x.1.t, x.2.1.t, x.2.2.t]
  H _ := []
  out x := .need (x.1.Ok ∧ x.2.1.Ok ∧ x.2.2.Ok) (.retq .tt)
def tLd : Tab := [(7, aliveP.sp), (8, ofP.sp), (9, doneP.sp), (10, rdoneP.sp)]
theorem tLd_ok : TabOk Tryd.prog tLd := (tab_cons alive_ok (tab_cons of_ok (tab_cons done_ok (tab_cons rdone_ok tab_nil))))

def lawDoneM : Nat → Nat
  | 5 => 1
  | _ => 0
def lawDoneLk : Nat → List Nat
  | 5 => [0, 1]
  | _ => []
theorem dones_vc : ∀ (s : AS) (e : EF) (v : A32), (s.Ok ∧ e.Ok ∧ v.Ok) ∧ True → (True ∧ True) ∧ (decide (e.reg < (0 : Int)) = true → s.Ok ∧ e.Ok ∧ v.Ok → True ∧ True ∧ True) ∧ (decide (e.reg < (0 : Int)) = false → (decide (e.reg > (15 :
  Int)) = true → s.Ok ∧ e.Ok ∧ v.Ok → True ∧ True ∧ True) ∧ (decide (e.reg > (15 : Int)) = false → (((((16 : Nat) = (16 : Nat) ∧ ∀ (j : Nat), j < (16 : Nat) → s.R j = s.R j) ∧ s.pc = s.pc ∧ True) ∧ (e.kind = e.kind ∧ e.reg
  = e.reg ∧ e.addr = e.addr ∧ e.value = e.value ∧ True) ∧ v.v = v.v ∧ True) ∧ True) ∧ (((-9223372036854775808 : Int) ≤ e.reg ∧ e.reg < (9223372036854775808 : Int)) ∧ (0 : Int) ≤ v.v ∧ v.v < (4294967296 : Int)) ∧ (((((16 :
  Nat) = (16 : Nat) ∧ ∀ (j : Nat), j < (16 : Nat) → (doneA (AS.mk (fun (j : Nat) => s.R j) s.pc) e.kind e.reg v.v).R j = (doneA (AS.mk (fun (j : Nat) => s.R j) s.pc) e.kind e.reg v.v).R j) ∧ (doneA (AS.mk (fun (j : Nat) =>
  s.R j) s.pc) e.kind e.reg v.v).pc = (doneA (AS.mk (fun (j : Nat) => s.R j) s.pc) e.kind e.reg v.v).pc ∧ True) ∧ True) ∧ True) ∧ (((((16 : Nat) = (16 : Nat) ∧ ∀ (j : Nat), j < (16 : Nat) → s.R j = s.R j) ∧ s.pc = s.pc ∧
  True) ∧ True) ∧ True) ∧ (((((16 : Nat) = (16 : Nat) ∧ ∀ (j : Nat), j < (16 : Nat) → s.R j = s.R j) ∧ s.pc = s.pc ∧ True) ∧ e.kind = e.kind ∧ e.reg = e.reg ∧ v.v = v.v ∧ True) ∧ True) ∧ (((0 : Int) ≤ e.reg ∧ e.reg ≤ (15 :
  Int)) ∧ (0 : Int) ≤ v.v ∧ v.v < (4294967296 : Int)) ∧ (s.Ok ∧ e.Ok ∧ v.Ok → ((doneA (AS.mk (fun (j : Nat) => s.R j) s.pc) e.kind e.reg v.v).R (0 : Nat) == (doneA (AS.mk (fun (j : Nat) => s.R j) s.pc) e.kind e.reg v.v).R
  (0 : Nat) && ((doneA (AS.mk (fun (j : Nat) => s.R j) s.pc) e.kind e.reg v.v).R (1 : Nat) == (doneA (AS.mk (fun (j : Nat) => s.R j) s.pc) e.kind e.reg v.v).R (1 : Nat) && ((doneA (AS.mk (fun (j : Nat) => s.R j) s.pc)
  e.kind e.reg v.v).R (2 : Nat) == (doneA (AS.mk (fun (j : Nat) => s.R j) s.pc) e.kind e.reg v.v).R (2 : Nat) && ((doneA (AS.mk (fun (j : Nat) => s.R j) s.pc) e.kind e.reg v.v).R (3 : Nat) == (doneA (AS.mk (fun (j : Nat)
  => s.R j) s.pc) e.kind e.reg v.v).R (3 : Nat) && ((doneA (AS.mk (fun (j : Nat) => s.R j) s.pc) e.kind e.reg v.v).R (4 : Nat) == (doneA (AS.mk (fun (j : Nat) => s.R j) s.pc) e.kind e.reg v.v).R (4 : Nat) && ((doneA (AS.mk
  (fun (j : Nat) => s.R j) s.pc) e.kind e.reg v.v).R (5 : Nat) == (doneA (AS.mk (fun (j : Nat) => s.R j) s.pc) e.kind e.reg v.v).R (5 : Nat) && ((doneA (AS.mk (fun (j : Nat) => s.R j) s.pc) e.kind e.reg v.v).R (6 : Nat) ==
  (doneA (AS.mk (fun (j : Nat) => s.R j) s.pc) e.kind e.reg v.v).R (6 : Nat) && ((doneA (AS.mk (fun (j : Nat) => s.R j) s.pc) e.kind e.reg v.v).R (7 : Nat) == (doneA (AS.mk (fun (j : Nat) => s.R j) s.pc) e.kind e.reg
  v.v).R (7 : Nat) && ((doneA (AS.mk (fun (j : Nat) => s.R j) s.pc) e.kind e.reg v.v).R (8 : Nat) == (doneA (AS.mk (fun (j : Nat) => s.R j) s.pc) e.kind e.reg v.v).R (8 : Nat) && ((doneA (AS.mk (fun (j : Nat) => s.R j)
  s.pc) e.kind e.reg v.v).R (9 : Nat) == (doneA (AS.mk (fun (j : Nat) => s.R j) s.pc) e.kind e.reg v.v).R (9 : Nat) && ((doneA (AS.mk (fun (j : Nat) => s.R j) s.pc) e.kind e.reg v.v).R (10 : Nat) == (doneA (AS.mk (fun (j :
  Nat) => s.R j) s.pc) e.kind e.reg v.v).R (10 : Nat) && ((doneA (AS.mk (fun (j : Nat) => s.R j) s.pc) e.kind e.reg v.v).R (11 : Nat) == (doneA (AS.mk (fun (j : Nat) => s.R j) s.pc) e.kind e.reg v.v).R (11 : Nat) &&
  ((doneA (AS.mk (fun (j : Nat) => s.R j) s.pc) e.kind e.reg v.v).R (12 : Nat) == (doneA (AS.mk (fun (j : Nat) => s.R j) s.pc) e.kind e.reg v.v).R (12 : Nat) && ((doneA (AS.mk (fun (j : Nat) => s.R j) s.pc) e.kind e.reg
  v.v).R (13 : Nat) == (doneA (AS.mk (fun (j : Nat) => s.R j) s.pc) e.kind e.reg v.v).R (13 : Nat) && ((doneA (AS.mk (fun (j : Nat) => s.R j) s.pc) e.kind e.reg v.v).R (14 : Nat) == (doneA (AS.mk (fun (j : Nat) => s.R j)
  s.pc) e.kind e.reg v.v).R (14 : Nat) && ((doneA (AS.mk (fun (j : Nat) => s.R j) s.pc) e.kind e.reg v.v).R (15 : Nat) == (doneA (AS.mk (fun (j : Nat) => s.R j) s.pc) e.kind e.reg v.v).R (15 : Nat) && true)))))))))))))))
  && ((doneA (AS.mk (fun (j : Nat) => s.R j) s.pc) e.kind e.reg v.v).pc == (doneA (AS.mk (fun (j : Nat) => s.R j) s.pc) e.kind e.reg v.v).pc && true)) = true ∧ True ∧ True))) := by
  simp only [true_and, and_true, eq_self, decide_eq_true_eq, decide_eq_false_iff_not, implies_true, and_self, Int.not_lt, gt_iff_lt]
  intro s e v h h1 h2
  obtain ⟨hs, he, hv⟩ := h
  have hv' : 0 ≤ v.v ∧ v.v < 4294967296 := hv
  refine ⟨⟨⟨by omega, by omega⟩, hv'⟩, ⟨⟨h1, h2⟩, hv'⟩, fun _ => ?_⟩
  simp only [beq_self_eq_true, Bool.and_self]

def dones_C (_ : (AS × EF × A32)) : Cfg := { Γ := Go.Sx.look tLd, names := true, mode := lawDoneM, locks := lawDoneLk }
theorem dones_al (x : (AS × EF × A32)) : Shown (lawDoneP.vc Tryd.prog (dones_C x) Tryd.f3 x) := ⟨@Eq.mp _ _ (by kernel_rfl) (dones_vc (x.1) (x.2.1) (x.2.2))⟩
theorem dones_ok : SpOk Tryd.prog 3 lawDoneP.sp := @Pat.okS _ lawDoneP Tryd.prog dones_C 3 Tryd.f3 (fun x => cfg_tab rfl tLd_ok) (by kernel_rfl) Tryd.func3 (fun _ => rfl) dones_al
end Go.Proofs.YtjofnajamlmllaaDoor
