import Derived.Test.YtjofnajamlmllaaDoorI15
open Go Go.Sx Go.Proofs
set_option maxRecDepth 100000
namespace Go.Proofs.YtjofnajamlmllaaDoor
open Go.RowKit Go.Isa
def stepX (s : AS) (x : Ins) : AS := ⟨if setOps x.op then up s.R x.a.toNat (setA s.R s.pc x) else s.R, jumpA s.R s.pc x⟩
def stepA (s : AS) (w : Int) : AS := if Right (decV w) then stepX s (decV w) else s
def stepE (s : AS) (w : Int) : EF := if Right (decV w) then effA s.R (decV w) else ⟨12, 0, 0, 0⟩
structure SW where
  s : AS
  w : Int
def stepP : Pat SW where
  view | [.cons (.arr 16 1 f) (.cons (.int .u32 pc) .nil), .int .u32 w], _ => some ⟨⟨fun j => tInt (f j), pc⟩, w⟩ | _, _ => none
  args x := [asT x.s, .int .u32 x.w]
  H _ := []
  out x := .need (x.s.Ok ∧ u32 x.w) (.retq (.tup (.cons (asT (stepA x.s x.w)) (.cons (efT (stepE x.s x.w)) .nil))))
def stepM : Nat → Nat
  | 9 => 1
  | _ => 0
def stepLk : Nat → List Nat
  | 9 => [0, 3, 4]
  | _ => []
def tStep : Tab := [(13, decP.sp), (20, jumpP.sp), (21, setP.sp), (22, effP.sp)]
theorem tStep_ok : TabOk Tryd.prog tStep := (tab_cons dec_ok (tab_cons jump_ok (tab_cons setf_ok (tab_cons effect_ok tab_nil))))

theorem step_vc : ∀ (x : SW), (x.s.Ok ∧ (0 : Int) ≤ x.w ∧ x.w < (4294967296 : Int)) ∧ True → ((x.w = x.w ∧ True) ∧ True) ∧ ((0 : Int) ≤ x.w ∧ x.w < (4294967296 : Int)) ∧ ((!decide (Right (decV x.w))) = true → x.s.Ok ∧ (0 : Int) ≤ x.w ∧
  x.w < (4294967296 : Int) → ((((16 : Nat) = (16 : Nat) ∧ ∀ (j : Nat), j < (16 : Nat) → x.s.R j = (stepA x.s x.w).R j) ∧ x.s.pc = (stepA x.s x.w).pc ∧ True) ∧ ((12 : Int) = (stepE x.s x.w).kind ∧ (0 : Int) = (stepE x.s
  x.w).reg ∧ (0 : Int) = (stepE x.s x.w).addr ∧ (0 : Int) = (stepE x.s x.w).value ∧ True) ∧ True) ∧ True ∧ True) ∧ ((!decide (Right (decV x.w))) = false → (((((16 : Nat) = (16 : Nat) ∧ ∀ (j : Nat), j < (16 : Nat) → x.s.R j
  = x.s.R j) ∧ x.s.pc = x.s.pc ∧ True) ∧ ((if Right (decV x.w) then decV x.w else Ins.mk (0 : Int) (0 : Int) (0 : Int) (0 : Int)).op = (if Right (decV x.w) then decV x.w else Ins.mk (0 : Int) (0 : Int) (0 : Int) (0 :
  Int)).op ∧ (if Right (decV x.w) then decV x.w else Ins.mk (0 : Int) (0 : Int) (0 : Int) (0 : Int)).a = (if Right (decV x.w) then decV x.w else Ins.mk (0 : Int) (0 : Int) (0 : Int) (0 : Int)).a ∧ (if Right (decV x.w) then
  decV x.w else Ins.mk (0 : Int) (0 : Int) (0 : Int) (0 : Int)).b = (if Right (decV x.w) then decV x.w else Ins.mk (0 : Int) (0 : Int) (0 : Int) (0 : Int)).b ∧ (if Right (decV x.w) then decV x.w else Ins.mk (0 : Int) (0 :
  Int) (0 : Int) (0 : Int)).imm = (if Right (decV x.w) then decV x.w else Ins.mk (0 : Int) (0 : Int) (0 : Int) (0 : Int)).imm ∧ True) ∧ True) ∧ True) ∧ ((AS.mk (fun (j : Nat) => x.s.R j) x.s.pc).Ok ∧ RI (Ins.mk (if Right
  (decV x.w) then decV x.w else Ins.mk (0 : Int) (0 : Int) (0 : Int) (0 : Int)).op (if Right (decV x.w) then decV x.w else Ins.mk (0 : Int) (0 : Int) (0 : Int) (0 : Int)).a (if Right (decV x.w) then decV x.w else Ins.mk (0
  : Int) (0 : Int) (0 : Int) (0 : Int)).b (if Right (decV x.w) then decV x.w else Ins.mk (0 : Int) (0 : Int) (0 : Int) (0 : Int)).imm)) ∧ (((((16 : Nat) = (16 : Nat) ∧ ∀ (j : Nat), j < (16 : Nat) → x.s.R j = x.s.R j) ∧
  x.s.pc = x.s.pc ∧ True) ∧ ((if Right (decV x.w) then decV x.w else Ins.mk (0 : Int) (0 : Int) (0 : Int) (0 : Int)).op = (if Right (decV x.w) then decV x.w else Ins.mk (0 : Int) (0 : Int) (0 : Int) (0 : Int)).op ∧ (if
  Right (decV x.w) then decV x.w else Ins.mk (0 : Int) (0 : Int) (0 : Int) (0 : Int)).a = (if Right (decV x.w) then decV x.w else Ins.mk (0 : Int) (0 : Int) (0 : Int) (0 : Int)).a ∧ (if Right (decV x.w) then decV x.w else
  Ins.mk (0 : Int) (0 : Int) (0 : Int) (0 : Int)).b = (if Right (decV x.w) then decV x.w else Ins.mk (0 : Int) (0 : Int) (0 : Int) (0 : Int)).b ∧ (if Right (decV x.w) then decV x.w else Ins.mk (0 : Int) (0 : Int) (0 : Int)
  (0 : Int)).imm = (if Right (decV x.w) then decV x.w else Ins.mk (0 : Int) (0 : Int) (0 : Int) (0 : Int)).imm ∧ True) ∧ True) ∧ True) ∧ ((AS.mk (fun (j : Nat) => x.s.R j) x.s.pc).Ok ∧ RI (Ins.mk (if Right (decV x.w) then
  decV x.w else Ins.mk (0 : Int) (0 : Int) (0 : Int) (0 : Int)).op (if Right (decV x.w) then decV x.w else Ins.mk (0 : Int) (0 : Int) (0 : Int) (0 : Int)).a (if Right (decV x.w) then decV x.w else Ins.mk (0 : Int) (0 :
  Int) (0 : Int) (0 : Int)).b (if Right (decV x.w) then decV x.w else Ins.mk (0 : Int) (0 : Int) (0 : Int) (0 : Int)).imm)) ∧ ∀ (v : Int), v = setA (fun (j : Nat) => x.s.R j) x.s.pc (Ins.mk (if Right (decV x.w) then decV
  x.w else Ins.mk (0 : Int) (0 : Int) (0 : Int) (0 : Int)).op (if Right (decV x.w) then decV x.w else Ins.mk (0 : Int) (0 : Int) (0 : Int) (0 : Int)).a (if Right (decV x.w) then decV x.w else Ins.mk (0 : Int) (0 : Int) (0
  : Int) (0 : Int)).b (if Right (decV x.w) then decV x.w else Ins.mk (0 : Int) (0 : Int) (0 : Int) (0 : Int)).imm) → (setOps (if Right (decV x.w) then decV x.w else Ins.mk (0 : Int) (0 : Int) (0 : Int) (0 : Int)).op = true
  → ((0 : Int) ≤ (if Right (decV x.w) then decV x.w else Ins.mk (0 : Int) (0 : Int) (0 : Int) (0 : Int)).a ∧ (if Right (decV x.w) then decV x.w else Ins.mk (0 : Int) (0 : Int) (0 : Int) (0 : Int)).a < (↑(16 : Nat) : Int))
  ∧ (if Right (decV x.w) then decV x.w else Ins.mk (0 : Int) (0 : Int) (0 : Int) (0 : Int)).a.toNat < (16 : Nat) ∧ (((((16 : Nat) = (16 : Nat) ∧ ∀ (j : Nat), j < (16 : Nat) → x.s.R j = x.s.R j) ∧ x.s.pc = x.s.pc ∧ True) ∧
  ((if Right (decV x.w) then decV x.w else Ins.mk (0 : Int) (0 : Int) (0 : Int) (0 : Int)).op = (if Right (decV x.w) then decV x.w else Ins.mk (0 : Int) (0 : Int) (0 : Int) (0 : Int)).op ∧ (if Right (decV x.w) then decV
  x.w else Ins.mk (0 : Int) (0 : Int) (0 : Int) (0 : Int)).a = (if Right (decV x.w) then decV x.w else Ins.mk (0 : Int) (0 : Int) (0 : Int) (0 : Int)).a ∧ (if Right (decV x.w) then decV x.w else Ins.mk (0 : Int) (0 : Int)
  (0 : Int) (0 : Int)).b = (if Right (decV x.w) then decV x.w else Ins.mk (0 : Int) (0 : Int) (0 : Int) (0 : Int)).b ∧ (if Right (decV x.w) then decV x.w else Ins.mk (0 : Int) (0 : Int) (0 : Int) (0 : Int)).imm = (if Right
  (decV x.w) then decV x.w else Ins.mk (0 : Int) (0 : Int) (0 : Int) (0 : Int)).imm ∧ True) ∧ True) ∧ True) ∧ ((AS.mk (fun (j : Nat) => x.s.R j) x.s.pc).Ok ∧ RI (Ins.mk (if Right (decV x.w) then decV x.w else Ins.mk (0 :
  Int) (0 : Int) (0 : Int) (0 : Int)).op (if Right (decV x.w) then decV x.w else Ins.mk (0 : Int) (0 : Int) (0 : Int) (0 : Int)).a (if Right (decV x.w) then decV x.w else Ins.mk (0 : Int) (0 : Int) (0 : Int) (0 : Int)).b
  (if Right (decV x.w) then decV x.w else Ins.mk (0 : Int) (0 : Int) (0 : Int) (0 : Int)).imm)) ∧ (x.s.Ok ∧ (0 : Int) ≤ x.w ∧ x.w < (4294967296 : Int) → ((((16 : Nat) = (16 : Nat) ∧ ∀ (j : Nat), j < (16 : Nat) → (bif j.beq
  (if Right (decV x.w) then decV x.w else Ins.mk (0 : Int) (0 : Int) (0 : Int) (0 : Int)).a.toNat then v else x.s.R j) = (stepA x.s x.w).R j) ∧ jumpA (fun (j : Nat) => x.s.R j) x.s.pc (Ins.mk (if Right (decV x.w) then decV
  x.w else Ins.mk (0 : Int) (0 : Int) (0 : Int) (0 : Int)).op (if Right (decV x.w) then decV x.w else Ins.mk (0 : Int) (0 : Int) (0 : Int) (0 : Int)).a (if Right (decV x.w) then decV x.w else Ins.mk (0 : Int) (0 : Int) (0
  : Int) (0 : Int)).b (if Right (decV x.w) then decV x.w else Ins.mk (0 : Int) (0 : Int) (0 : Int) (0 : Int)).imm) = (stepA x.s x.w).pc ∧ True) ∧ ((effA (fun (j : Nat) => x.s.R j) (Ins.mk (if Right (decV x.w) then decV x.w
  else Ins.mk (0 : Int) (0 : Int) (0 : Int) (0 : Int)).op (if Right (decV x.w) then decV x.w else Ins.mk (0 : Int) (0 : Int) (0 : Int) (0 : Int)).a (if Right (decV x.w) then decV x.w else Ins.mk (0 : Int) (0 : Int) (0 :
  Int) (0 : Int)).b (if Right (decV x.w) then decV x.w else Ins.mk (0 : Int) (0 : Int) (0 : Int) (0 : Int)).imm)).kind = (stepE x.s x.w).kind ∧ (effA (fun (j : Nat) => x.s.R j) (Ins.mk (if Right (decV x.w) then decV x.w
  else Ins.mk (0 : Int) (0 : Int) (0 : Int) (0 : Int)).op (if Right (decV x.w) then decV x.w else Ins.mk (0 : Int) (0 : Int) (0 : Int) (0 : Int)).a (if Right (decV x.w) then decV x.w else Ins.mk (0 : Int) (0 : Int) (0 :
  Int) (0 : Int)).b (if Right (decV x.w) then decV x.w else Ins.mk (0 : Int) (0 : Int) (0 : Int) (0 : Int)).imm)).reg = (stepE x.s x.w).reg ∧ (effA (fun (j : Nat) => x.s.R j) (Ins.mk (if Right (decV x.w) then decV x.w else
  Ins.mk (0 : Int) (0 : Int) (0 : Int) (0 : Int)).op (if Right (decV x.w) then decV x.w else Ins.mk (0 : Int) (0 : Int) (0 : Int) (0 : Int)).a (if Right (decV x.w) then decV x.w else Ins.mk (0 : Int) (0 : Int) (0 : Int) (0
  : Int)).b (if Right (decV x.w) then decV x.w else Ins.mk (0 : Int) (0 : Int) (0 : Int) (0 : Int)).imm)).addr = (stepE x.s x.w).addr ∧ (effA (fun (j : Nat) => x.s.R j) (Ins.mk (if Right (decV x.w) then decV x.w else
  Ins.mk (0 : Int) (0 : Int) (0 : Int) (0 : Int)).op (if Right (decV x.w) then decV x.w else Ins.mk (0 : Int) (0 : Int) (0 : Int) (0 : Int)).a (if Right (decV x.w) then decV x.w else Ins.mk (0 : Int) (0 : Int) (0 : Int) (0
  : Int)).b (if Right (decV x.w) then decV x.w else Ins.mk (0 : Int) (0 : Int) (0 : Int) (0 : Int)).imm)).value = (stepE x.s x.w).value ∧ True) ∧ True) ∧ True ∧ True)) ∧ (setOps (if Right (decV x.w) then decV x.w else
  Ins.mk (0 : Int) (0 : Int) (0 : Int) (0 : Int)).op = false → (((((16 : Nat) = (16 : Nat) ∧ ∀ (j : Nat), j < (16 : Nat) → x.s.R j = x.s.R j) ∧ x.s.pc = x.s.pc ∧ True) ∧ ((if Right (decV x.w) then decV x.w else Ins.mk (0 :
  Int) (0 : Int) (0 : Int) (0 : Int)).op = (if Right (decV x.w) then decV x.w else Ins.mk (0 : Int) (0 : Int) (0 : Int) (0 : Int)).op ∧ (if Right (decV x.w) then decV x.w else Ins.mk (0 : Int) (0 : Int) (0 : Int) (0 :
  Int)).a = (if Right (decV x.w) then decV x.w else Ins.mk (0 : Int) (0 : Int) (0 : Int) (0 : Int)).a ∧ (if Right (decV x.w) then decV x.w else Ins.mk (0 : Int) (0 : Int) (0 : Int) (0 : Int)).b = (if Right (decV x.w) then
  decV x.w else Ins.mk (0 : Int) (0 : Int) (0 : Int) (0 : Int)).b ∧ (if Right (decV x.w) then decV x.w else Ins.mk (0 : Int) (0 : Int) (0 : Int) (0 : Int)).imm = (if Right (decV x.w) then decV x.w else Ins.mk (0 : Int) (0
  : Int) (0 : Int) (0 : Int)).imm ∧ True) ∧ True) ∧ True) ∧ ((AS.mk (fun (j : Nat) => x.s.R j) x.s.pc).Ok ∧ RI (Ins.mk (if Right (decV x.w) then decV x.w else Ins.mk (0 : Int) (0 : Int) (0 : Int) (0 : Int)).op (if Right
  (decV x.w) then decV x.w else Ins.mk (0 : Int) (0 : Int) (0 : Int) (0 : Int)).a (if Right (decV x.w) then decV x.w else Ins.mk (0 : Int) (0 : Int) (0 : Int) (0 : Int)).b (if Right (decV x.w) then decV x.w else Ins.mk (0
  : Int) (0 : Int) (0 : Int) (0 : Int)).imm)) ∧ (x.s.Ok ∧ (0 : Int) ≤ x.w ∧ x.w < (4294967296 : Int) → ((((16 : Nat) = (16 : Nat) ∧ ∀ (j : Nat), j < (16 : Nat) → x.s.R j = (stepA x.s x.w).R j) ∧ jumpA (fun (j : Nat) =>
  x.s.R j) x.s.pc (Ins.mk (if Right (decV x.w) then decV x.w else Ins.mk (0 : Int) (0 : Int) (0 : Int) (0 : Int)).op (if Right (decV x.w) then decV x.w else Ins.mk (0 : Int) (0 : Int) (0 : Int) (0 : Int)).a (if Right (decV
  x.w) then decV x.w else Ins.mk (0 : Int) (0 : Int) (0 : Int) (0 : Int)).b (if Right (decV x.w) then decV x.w else Ins.mk (0 : Int) (0 : Int) (0 : Int) (0 : Int)).imm) = (stepA x.s x.w).pc ∧ True) ∧ ((effA (fun (j : Nat)
  => x.s.R j) (Ins.mk (if Right (decV x.w) then decV x.w else Ins.mk (0 : Int) (0 : Int) (0 : Int) (0 : Int)).op (if Right (decV x.w) then decV x.w else Ins.mk (0 : Int) (0 : Int) (0 : Int) (0 : Int)).a (if Right (decV
  x.w) then decV x.w else Ins.mk (0 : Int) (0 : Int) (0 : Int) (0 : Int)).b (if Right (decV x.w) then decV x.w else Ins.mk (0 : Int) (0 : Int) (0 : Int) (0 : Int)).imm)).kind = (stepE x.s x.w).kind ∧ (effA (fun (j : Nat)
  => x.s.R j) (Ins.mk (if Right (decV x.w) then decV x.w else Ins.mk (0 : Int) (0 : Int) (0 : Int) (0 : Int)).op (if Right (decV x.w) then decV x.w else Ins.mk (0 : Int) (0 : Int) (0 : Int) (0 : Int)).a (if Right (decV
  x.w) then decV x.w else Ins.mk (0 : Int) (0 : Int) (0 : Int) (0 : Int)).b (if Right (decV x.w) then decV x.w else Ins.mk (0 : Int) (0 : Int) (0 : Int) (0 : Int)).imm)).reg = (stepE x.s x.w).reg ∧ (effA (fun (j : Nat) =>
  x.s.R j) (Ins.mk (if Right (decV x.w) then decV x.w else Ins.mk (0 : Int) (0 : Int) (0 : Int) (0 : Int)).op (if Right (decV x.w) then decV x.w else Ins.mk (0 : Int) (0 : Int) (0 : Int) (0 : Int)).a (if Right (decV x.w)
  then decV x.w else Ins.mk (0 : Int) (0 : Int) (0 : Int) (0 : Int)).b (if Right (decV x.w) then decV x.w else Ins.mk (0 : Int) (0 : Int) (0 : Int) (0 : Int)).imm)).addr = (stepE x.s x.w).addr ∧ (effA (fun (j : Nat) =>
  x.s.R j) (Ins.mk (if Right (decV x.w) then decV x.w else Ins.mk (0 : Int) (0 : Int) (0 : Int) (0 : Int)).op (if Right (decV x.w) then decV x.w else Ins.mk (0 : Int) (0 : Int) (0 : Int) (0 : Int)).a (if Right (decV x.w)
  then decV x.w else Ins.mk (0 : Int) (0 : Int) (0 : Int) (0 : Int)).b (if Right (decV x.w) then decV x.w else Ins.mk (0 : Int) (0 : Int) (0 : Int) (0 : Int)).imm)).value = (stepE x.s x.w).value ∧ True) ∧ True) ∧ True ∧
  True))) := by
  simp only [true_and, and_true, eq_self, decide_eq_true_eq, decide_eq_false_iff_not, implies_true, and_self, cond_nbeq, Bool.not_eq_true', Bool.not_eq_false']
  intro x hx
  have hS : ({ R := fun j => x.s.R j, pc := x.s.pc } : AS).Ok := hx.1
  refine ⟨hx.2, fun h _ => ?_, fun h => ?_⟩
  · unfold stepA stepE
    rw [if_neg h, if_neg h]
    exact ⟨⟨fun j _ => rfl, rfl⟩, rfl, rfl, rfl, rfl⟩
  · unfold stepA stepE
    simp only [if_pos h]
    have hR : RI { op := (decV x.w).op, a := (decV x.w).a, b := (decV x.w).b, imm := (decV x.w).imm } := ⟨h⟩
    have ha := h.2.1
    refine ⟨⟨hS, hR⟩, ⟨hS, hR⟩, fun v hv => ⟨fun h1 => ⟨⟨by omega, by omega⟩, by omega, ⟨hS, hR⟩, fun _ => ?_⟩, fun h1 => ⟨⟨hS, hR⟩, fun _ => ?_⟩⟩⟩
    · refine ⟨⟨fun j hj => ?_, rfl⟩, trivial, trivial, trivial, trivial⟩
      unfold stepX up
      simp only [h1, if_true, hv]
    · refine ⟨⟨fun j hj => ?_, rfl⟩, trivial, trivial, trivial, trivial⟩
      unfold stepX
      simp only [h1]
      rfl

def step_C (_ : SW) : Cfg := { Γ := Go.Sx.look tStep, names := true, mode := stepM, locks := stepLk }
theorem step_al (x : SW) : Shown (stepP.vc Tryd.prog (step_C x) Tryd.f14 x) := ⟨@Eq.mp _ _ (by kernel_rfl) (step_vc x)⟩
theorem step_ok : SpOk Tryd.prog 14 stepP.sp := @Pat.okS _ stepP Tryd.prog step_C 14 Tryd.f14 (fun x => cfg_tab rfl tStep_ok) (by kernel_rfl) Tryd.func14 (fun _ => rfl) step_al
theorem step_Ok {s : AS} {w : Int} (h : s.Ok) : (stepA s w).Ok := by
  unfold stepA
  split
  · rename_i hR
    refine ⟨fun j => ?_, jump_u32 h.1⟩
    show u32 ((if setOps (decV w).op = true then up s.R (decV w).a.toNat (setA s.R s.pc (decV w)) else s.R) j)
    split
    · unfold up
      split
      · exact set_u32 h.1 hR
      · exact h.1 j
    · exact h.1 j
  · exact h
/-! Run -/
/-- What a run comes to: the registers, the last effect, how many steps ahead of it. -/
def runA (code : BS) : Nat → Nat → AS → AS × EF × Nat
  | 0, n, s => (s, ⟨0, 0, 0, 0⟩, n)
  | k + 1, n, s => if fitsB code s.pc then
      (if (stepE s (getW code.b s.pc.toNat 4)).kind = 0 then runA code k (n + 1) (stepA s (getW code.b s.pc.toNat 4)) else (stepA s (getW code.b s.pc.toNat 4), stepE s (getW code.b s.pc.toNat 4), n))
    else (s, ⟨12, 0, 0, 0⟩, n)
structure RN where
  s : AS
  x : BS
  most : Int
def RN.top (r : RN) : Nat := (if r.most < 0 then 0 else r.most).toNat
def RN.res (r : RN) : AS × EF × Nat := runA r.x r.top 0 r.s
def runP : Pat RN where
  view | [.cons (.arr 16 1 f) (.cons (.int .u32 pc) .nil), t, .int .i64 m], H => some ⟨⟨fun j => tInt (f j), pc⟩, viewB t H, m⟩ | _, _ => none
  args r := [asT r.s, r.x.t 0, .int .i64 r.most]
  H r := [r.x.reg]
  out r := .need (r.s.Ok ∧ r.x.Ok ∧ i64 r.most) (.retq (.tup (.cons (asT r.res.1) (.cons (efT r.res.2.1) (.cons (.int .i64 r.res.2.2) .nil)))))
def as0 : AS := ⟨fun _ => 0, 0⟩
def ef0 : EF := ⟨0, 0, 0, 0⟩
def runF (r : RN) : Fam where
  α := Nat × AS
  I y := y.1 ≤ r.top ∧ (r.s.Ok ∧ r.x.Ok ∧ i64 r.most) ∧ y.2.Ok ∧ runA r.x (r.top - y.1) y.1 y.2 = r.res
  st y := { sl := mkSl 48 [(1, r.x.t 0), (2, .int .i64 r.most), (3, p0 1), (6, p0 2), (7, p0 3), (14, .int .i64 r.top), (15, .int .i64 y.1)], H := [r.x.reg, newReg 25 (asT y.2), newReg 25 (asT as0), newReg 27 (efT ef0)] }
  μ y := r.top - y.1
def runM : Nat → Nat
  | 10 => 1
  | _ => 0
def runLk : Nat → List Nat
  | 10 => [1, 4]
  | _ => []
def tRun : Tab := [(16, getPt.sp), (14, stepP.sp)]
theorem tRun_ok : TabOk Tryd.prog tRun := (tab_cons get_ok (tab_cons step_ok tab_nil))

theorem run_vc : ∀ (r : RN), (r.s.Ok ∧ r.x.Ok ∧ (-9223372036854775808 : Int) ≤ r.most ∧ r.most < (9223372036854775808 : Int)) ∧ True → ∀ (v : Int), v = (0 : Int) → (∃ (y : Nat × AS), (y.fst ≤ r.top ∧ (r.s.Ok ∧ r.x.Ok ∧
  (-9223372036854775808 : Int) ≤ r.most ∧ r.most < (9223372036854775808 : Int)) ∧ y.snd.Ok ∧ runA r.x (r.top - y.fst) y.fst y.snd = r.res) ∧ ((((r.x.nil = true → r.x.nil = true) ∧ (r.x.nil = false → r.x.nil = false ∧ True
  ∧ True ∧ (0 : Nat) = (0 : Nat) ∧ r.x.len = r.x.len ∧ r.x.cap = r.x.cap)) ∧ r.most = r.most ∧ (True ∧ True) ∧ (True ∧ True) ∧ (True ∧ True) ∧ (if r.most < (0 : Int) then (0 : Int) else r.most) = (↑r.top : Int) ∧ (0 : Int)
  = (↑y.fst : Int) ∧ True) ∧ ((0 : Nat) ≤ (0 : Nat) ∧ r.x.len = r.x.len ∧ ∀ (j : Nat), j < r.x.len → r.x.b j = r.x.b j) ∧ ((17 : Nat) ≤ (17 : Nat) ∧ ((16 : Nat) = (16 : Nat) ∧ ∀ (j : Nat), j < (16 : Nat) → r.s.R j =
  y.snd.R j) ∧ r.s.pc = y.snd.pc ∧ True) ∧ ((17 : Nat) ≤ (17 : Nat) ∧ ((16 : Nat) = (16 : Nat) ∧ ∀ (j : Nat), j < (16 : Nat) → (0 : Int) = as0.R j) ∧ (0 : Int) = as0.pc ∧ True) ∧ ((4 : Nat) ≤ (4 : Nat) ∧ (0 : Int) =
  ef0.kind ∧ (0 : Int) = ef0.reg ∧ (0 : Int) = ef0.addr ∧ (0 : Int) = ef0.value ∧ True) ∧ True) ∧ True) ∧ ∀ (y : Nat × AS), y.fst ≤ r.top ∧ (r.s.Ok ∧ r.x.Ok ∧ (-9223372036854775808 : Int) ≤ r.most ∧ r.most <
  (9223372036854775808 : Int)) ∧ y.snd.Ok ∧ runA r.x (r.top - y.fst) y.fst y.snd = r.res → (decide ((↑y.fst : Int) < (↑r.top : Int)) = true → ∀ (v : Int), v = (↑y.fst : Int) → ((((r.x.nil = true → r.x.nil = true) ∧
  (r.x.nil = false → r.x.nil = false ∧ True ∧ True ∧ (0 : Nat) = (0 : Nat) ∧ r.x.len = r.x.len ∧ r.x.cap = r.x.cap)) ∧ IntKind.i64.wrap y.snd.pc = IntKind.i64.wrap y.snd.pc ∧ True) ∧ ((0 : Nat) ≤ (0 : Nat) ∧ r.x.len =
  r.x.len ∧ ∀ (j : Nat), j < r.x.len → r.x.b j = r.x.b ((0 : Nat) + j)) ∧ True) ∧ ((BS.mk r.x.nil r.x.len r.x.cap fun (j : Nat) => r.x.b ((0 : Nat) + j)).Ok ∧ (-9223372036854775808 : Int) ≤ IntKind.i64.wrap y.snd.pc ∧
  IntKind.i64.wrap y.snd.pc < (9223372036854775808 : Int)) ∧ ∀ (v_1 : Int), (v_1 = if fitsB (BS.mk r.x.nil r.x.len r.x.cap fun (j : Nat) => r.x.b ((0 : Nat) + j)) (IntKind.i64.wrap y.snd.pc) then getW (fun (j : Nat) =>
  r.x.b ((0 : Nat) + j)) (IntKind.i64.wrap y.snd.pc).toNat (4 : Nat) else (0 : Int)) → ((!decide (fitsB (BS.mk r.x.nil r.x.len r.x.cap fun (j : Nat) => r.x.b ((0 : Nat) + j)) (IntKind.i64.wrap y.snd.pc))) = true → ∀ (v_2 :
  Int), v_2 = v → r.s.Ok ∧ r.x.Ok ∧ (-9223372036854775808 : Int) ≤ r.most ∧ r.most < (9223372036854775808 : Int) → ((((16 : Nat) = (16 : Nat) ∧ ∀ (j : Nat), j < (16 : Nat) → y.snd.R j = r.res.fst.R j) ∧ y.snd.pc =
  r.res.fst.pc ∧ True) ∧ ((12 : Int) = r.res.snd.fst.kind ∧ (0 : Int) = r.res.snd.fst.reg ∧ (0 : Int) = r.res.snd.fst.addr ∧ (0 : Int) = r.res.snd.fst.value ∧ True) ∧ v_2 = (↑r.res.snd.snd : Int) ∧ True) ∧ True ∧ ((0 :
  Nat) ≤ (0 : Nat) ∧ r.x.len = r.x.len ∧ ∀ (j : Nat), j < r.x.len → r.x.b j = r.x.b j) ∧ True) ∧ ((!decide (fitsB (BS.mk r.x.nil r.x.len r.x.cap fun (j : Nat) => r.x.b ((0 : Nat) + j)) (IntKind.i64.wrap y.snd.pc))) = false
  → (((((16 : Nat) = (16 : Nat) ∧ ∀ (j : Nat), j < (16 : Nat) → y.snd.R j = y.snd.R j) ∧ y.snd.pc = y.snd.pc ∧ True) ∧ v_1 = v_1 ∧ True) ∧ True) ∧ ((AS.mk (fun (j : Nat) => y.snd.R j) y.snd.pc).Ok ∧ (0 : Int) ≤ v_1 ∧ v_1 <
  (4294967296 : Int)) ∧ (((stepE (AS.mk (fun (j : Nat) => y.snd.R j) y.snd.pc) v_1).kind != (0 : Int)) = true → ∀ (v_2 : Int), v_2 = v → r.s.Ok ∧ r.x.Ok ∧ (-9223372036854775808 : Int) ≤ r.most ∧ r.most <
  (9223372036854775808 : Int) → ((((16 : Nat) = (16 : Nat) ∧ ∀ (j : Nat), j < (16 : Nat) → (stepA (AS.mk (fun (j : Nat) => y.snd.R j) y.snd.pc) v_1).R j = r.res.fst.R j) ∧ (stepA (AS.mk (fun (j : Nat) => y.snd.R j)
  y.snd.pc) v_1).pc = r.res.fst.pc ∧ True) ∧ ((stepE (AS.mk (fun (j : Nat) => y.snd.R j) y.snd.pc) v_1).kind = r.res.snd.fst.kind ∧ (stepE (AS.mk (fun (j : Nat) => y.snd.R j) y.snd.pc) v_1).reg = r.res.snd.fst.reg ∧ (stepE
  (AS.mk (fun (j : Nat) => y.snd.R j) y.snd.pc) v_1).addr = r.res.snd.fst.addr ∧ (stepE (AS.mk (fun (j : Nat) => y.snd.R j) y.snd.pc) v_1).value = r.res.snd.fst.value ∧ True) ∧ v_2 = (↑r.res.snd.snd : Int) ∧ True) ∧ True ∧
  ((0 : Nat) ≤ (0 : Nat) ∧ r.x.len = r.x.len ∧ ∀ (j : Nat), j < r.x.len → r.x.b j = r.x.b j) ∧ True) ∧ (((stepE (AS.mk (fun (j : Nat) => y.snd.R j) y.snd.pc) v_1).kind != (0 : Int)) = false → ∃ (y_1 : Nat × AS), (y_1.fst ≤
  r.top ∧ (r.s.Ok ∧ r.x.Ok ∧ (-9223372036854775808 : Int) ≤ r.most ∧ r.most < (9223372036854775808 : Int)) ∧ y_1.snd.Ok ∧ runA r.x (r.top - y_1.fst) y_1.fst y_1.snd = r.res) ∧ ((((r.x.nil = true → r.x.nil = true) ∧
  (r.x.nil = false → r.x.nil = false ∧ True ∧ True ∧ (0 : Nat) = (0 : Nat) ∧ r.x.len = r.x.len ∧ r.x.cap = r.x.cap)) ∧ r.most = r.most ∧ (True ∧ True) ∧ (True ∧ True) ∧ (True ∧ True) ∧ (↑r.top : Int) = (↑r.top : Int) ∧
  IntKind.i64.wrap ((↑y.fst : Int) + (1 : Int)) = (↑y_1.fst : Int) ∧ True) ∧ ((0 : Nat) ≤ (0 : Nat) ∧ r.x.len = r.x.len ∧ ∀ (j : Nat), j < r.x.len → r.x.b j = r.x.b j) ∧ ((17 : Nat) ≤ (17 : Nat) ∧ ((16 : Nat) = (16 : Nat)
  ∧ ∀ (j : Nat), j < (16 : Nat) → (stepA (AS.mk (fun (j : Nat) => y.snd.R j) y.snd.pc) v_1).R j = y_1.snd.R j) ∧ (stepA (AS.mk (fun (j : Nat) => y.snd.R j) y.snd.pc) v_1).pc = y_1.snd.pc ∧ True) ∧ ((17 : Nat) ≤ (17 : Nat)
  ∧ ((16 : Nat) = (16 : Nat) ∧ ∀ (j : Nat), j < (16 : Nat) → as0.R j = as0.R j) ∧ as0.pc = as0.pc ∧ True) ∧ ((4 : Nat) ≤ (4 : Nat) ∧ ef0.kind = ef0.kind ∧ ef0.reg = ef0.reg ∧ ef0.addr = ef0.addr ∧ ef0.value = ef0.value ∧
  True) ∧ True) ∧ (runF r).μ y_1 < (runF r).μ y))) ∧ (decide ((↑y.fst : Int) < (↑r.top : Int)) = false → ∀ (v : Int), (v = if r.most < (0 : Int) then (0 : Int) else r.most) → r.s.Ok ∧ r.x.Ok ∧ (-9223372036854775808 : Int)
  ≤ r.most ∧ r.most < (9223372036854775808 : Int) → ((((16 : Nat) = (16 : Nat) ∧ ∀ (j : Nat), j < (16 : Nat) → y.snd.R j = r.res.fst.R j) ∧ y.snd.pc = r.res.fst.pc ∧ True) ∧ ((0 : Int) = r.res.snd.fst.kind ∧ (0 : Int) =
  r.res.snd.fst.reg ∧ (0 : Int) = r.res.snd.fst.addr ∧ (0 : Int) = r.res.snd.fst.value ∧ True) ∧ v = (↑r.res.snd.snd : Int) ∧ True) ∧ True ∧ ((0 : Nat) ≤ (0 : Nat) ∧ r.x.len = r.x.len ∧ ∀ (j : Nat), j < r.x.len → r.x.b j =
  r.x.b j) ∧ True) := by
  simp only [true_and, and_true, eq_self, Nat.le_refl, decide_eq_true_eq, decide_eq_false_iff_not, implies_true, and_self, bne_iff_ne, Int.not_lt, ne_eq, Nat.zero_add, IntKind.wrap_i64, bne_eq_false_iff_eq, Bool.not_eq_true', Bool.not_eq_false']
  intro r hr v hv
  refine ⟨⟨(0, r.s), ⟨Nat.zero_le _, hr, hr.1, rfl⟩, ⟨⟨id, id⟩, by unfold RN.top; split <;> omega, rfl⟩, ⟨fun j hj => rfl, rfl⟩, ⟨fun j hj => rfl, rfl⟩, rfl, rfl, rfl, rfl⟩, fun y hy => ?_⟩
  obtain ⟨hk, _, hs, hres⟩ := hy
  have hpc := hs.2
  unfold u32 at hpc
  have ep : (y.snd.pc + 9223372036854775808) % 18446744073709551616 - 9223372036854775808 = y.snd.pc := by omega
  have htop : (r.top : Int) = if r.most < 0 then 0 else r.most := by unfold RN.top; split <;> omega
  refine ⟨fun hlt v hv => ?_, fun hge v hv _ => ?_⟩
  · obtain ⟨k, hk2⟩ : ∃ k, r.top - y.1 = k + 1 := ⟨r.top - y.1 - 1, by omega⟩
    rw [hk2] at hres
    rw [ep]
    refine ⟨⟨id, id⟩, ⟨hr.2.1, by omega, by omega⟩, fun v1 hv1 => ⟨fun hno v2 hv2 _ => ?_, fun hyes => ?_⟩⟩
    · have hno' : ¬ fitsB r.x y.2.pc := hno
      unfold runA at hres
      rw [if_neg hno'] at hres
      rw [← hres]
      exact ⟨⟨fun _ _ => rfl, rfl⟩, ⟨rfl, rfl, rfl, rfl⟩, by rw [hv2, hv]⟩
    · have hyes' : fitsB r.x y.2.pc := hyes
      have e1 : v1 = getW r.x.b y.2.pc.toNat 4 := by rw [hv1]; exact if_pos hyes'
      have hu : u32 v1 := by
        have hb := hr.2.1.2.2.2
        have h5 := hyes'
        unfold fitsB at h5
        have := getW_lt (b := r.x.b) (a := y.2.pc.toNat) 4 (fun j hj => hb _ (by omega))
        rw [e1]
        exact this
      unfold runA at hres
      rw [if_pos hyes', ← e1] at hres
      refine ⟨⟨hs, hu⟩, fun hE v2 hv2 _ => ?_, fun hE => ?_⟩
      · have hE' : ¬ (stepE y.2 v1).kind = 0 := hE
        rw [if_neg hE'] at hres
        rw [← hres]
        exact ⟨⟨fun _ _ => rfl, rfl⟩, ⟨rfl, rfl, rfl, rfl⟩, by rw [hv2, hv]⟩
      · have hE' : (stepE y.2 v1).kind = 0 := hE
        rw [if_pos hE'] at hres
        refine ⟨(y.1 + 1, stepA y.2 v1), ⟨by show y.1 + 1 ≤ r.top; omega, hr, step_Ok hs, ?_⟩, ⟨⟨⟨id, id⟩, by show _ = ((y.1 + 1 : Nat) : Int); omega⟩, fun j hj => rfl, rfl⟩, by show r.top - (y.1 + 1) < r.top - y.1; omega⟩
        show runA r.x (r.top - (y.1 + 1)) (y.1 + 1) (stepA y.2 v1) = r.res
        rw [show r.top - (y.1 + 1) = k by omega]
        exact hres
  · have hk2 : r.top - y.1 = 0 := by omega
    rw [hk2] at hres
    unfold runA at hres
    rw [← hres]
    exact ⟨⟨fun _ _ => rfl, rfl⟩, ⟨rfl, rfl, rfl, rfl⟩, by show v = (y.1 : Int); omega⟩

def run_C (x : RN) : Cfg := { Γ := Go.Sx.look tRun, names := true, loops := onlyAt 2 [runF x], mode := runM, locks := runLk }
theorem run_al (x : RN) : Shown (runP.vc Tryd.prog (run_C x) Tryd.f11 x) := ⟨@Eq.mp _ _ (by kernel_rfl) (run_vc x)⟩
theorem run_ok : SpOk Tryd.prog 11 runP.sp := @Pat.okS _ runP Tryd.prog run_C 11 Tryd.f11 (fun x => cfg_tab rfl tRun_ok) (by kernel_rfl) Tryd.func11 (fun _ => rfl) run_al
end Go.Proofs.YtjofnajamlmllaaDoor
