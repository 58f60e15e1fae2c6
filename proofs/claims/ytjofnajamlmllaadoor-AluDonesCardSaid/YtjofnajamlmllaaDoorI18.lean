import Derived.Test.YtjofnajamlmllaaDoorI17
open Go Go.Sx Go.Proofs
set_option maxRecDepth 100000
namespace Go.Proofs.YtjofnajamlmllaaDoor
open Go.RowKit Go.Isa
noncomputable section
def aliveP : Pat Unit where
  view | [], _ => some () | _, _ => none
  args _ := []
  H _ := []
  out _ := .retq .tt
def tAl : Tab := [(12, codeP.sp), (11, runP.sp), (9, doneP.sp), (14, stepP.sp)]
theorem tAl_ok : TabOk Tryd.prog tAl := (tab_cons code_ok (tab_cons run_ok (tab_cons done_ok (tab_cons step_ok tab_nil))))

theorem alive_vc : ∀ (_ : Unit), True → ((ByteArray.mk ([(108 : UInt8), (105 : UInt8), (32 : UInt8), (114 : UInt8), (49 : UInt8), (32 : UInt8), (51 : UInt8), (10 : UInt8), (108 : UInt8), (105 : UInt8), (32 : UInt8), (114 : UInt8), (50 :
  UInt8), (32 : UInt8), (48 : UInt8), (10 : UInt8), (97 : UInt8), (100 : UInt8), (100 : UInt8), (32 : UInt8), (114 : UInt8), (50 : UInt8), (32 : UInt8), (114 : UInt8), (50 : UInt8), (32 : UInt8), (114 : UInt8), (49 :
  UInt8), (10 : UInt8), (97 : UInt8), (100 : UInt8), (100 : UInt8), (105 : UInt8)].append [(32 : UInt8), (114 : UInt8), (49 : UInt8), (32 : UInt8), (114 : UInt8), (49 : UInt8), (32 : UInt8), (45 : UInt8), (49 : UInt8), (10
  : UInt8), (98 : UInt8), (110 : UInt8), (101 : UInt8), (32 : UInt8), (114 : UInt8), (49 : UInt8), (32 : UInt8), (114 : UInt8), (48 : UInt8), (32 : UInt8), (45 : UInt8), (50 : UInt8), (10 : UInt8), (115 : UInt8), (116 :
  UInt8), (32 : UInt8), (114 : UInt8), (50 : UInt8), (32 : UInt8), (114 : UInt8), (48 : UInt8), (32 : UInt8), (56 : UInt8), (10 : UInt8)]).toArray = ByteArray.mk ([(108 : UInt8), (105 : UInt8), (32 : UInt8), (114 : UInt8),
  (49 : UInt8), (32 : UInt8), (51 : UInt8), (10 : UInt8), (108 : UInt8), (105 : UInt8), (32 : UInt8), (114 : UInt8), (50 : UInt8), (32 : UInt8), (48 : UInt8), (10 : UInt8), (97 : UInt8), (100 : UInt8), (100 : UInt8), (32 :
  UInt8), (114 : UInt8), (50 : UInt8), (32 : UInt8), (114 : UInt8), (50 : UInt8), (32 : UInt8), (114 : UInt8), (49 : UInt8), (10 : UInt8), (97 : UInt8), (100 : UInt8), (100 : UInt8), (105 : UInt8)].append [(32 : UInt8),
  (114 : UInt8), (49 : UInt8), (32 : UInt8), (114 : UInt8), (49 : UInt8), (32 : UInt8), (45 : UInt8), (49 : UInt8), (10 : UInt8), (98 : UInt8), (110 : UInt8), (101 : UInt8), (32 : UInt8), (114 : UInt8), (49 : UInt8), (32 :
  UInt8), (114 : UInt8), (48 : UInt8), (32 : UInt8), (45 : UInt8), (50 : UInt8), (10 : UInt8), (115 : UInt8), (116 : UInt8), (32 : UInt8), (114 : UInt8), (50 : UInt8), (32 : UInt8), (114 : UInt8), (48 : UInt8), (32 :
  UInt8), (56 : UInt8), (10 : UInt8)]).toArray ∧ True) ∧ True) ∧ asmPre (ByteArray.mk ([(108 : UInt8), (105 : UInt8), (32 : UInt8), (114 : UInt8), (49 : UInt8), (32 : UInt8), (51 : UInt8), (10 : UInt8), (108 : UInt8), (105
  : UInt8), (32 : UInt8), (114 : UInt8), (50 : UInt8), (32 : UInt8), (48 : UInt8), (10 : UInt8), (97 : UInt8), (100 : UInt8), (100 : UInt8), (32 : UInt8), (114 : UInt8), (50 : UInt8), (32 : UInt8), (114 : UInt8), (50 :
  UInt8), (32 : UInt8), (114 : UInt8), (49 : UInt8), (10 : UInt8), (97 : UInt8), (100 : UInt8), (100 : UInt8), (105 : UInt8)].append [(32 : UInt8), (114 : UInt8), (49 : UInt8), (32 : UInt8), (114 : UInt8), (49 : UInt8),
  (32 : UInt8), (45 : UInt8), (49 : UInt8), (10 : UInt8), (98 : UInt8), (110 : UInt8), (101 : UInt8), (32 : UInt8), (114 : UInt8), (49 : UInt8), (32 : UInt8), (114 : UInt8), (48 : UInt8), (32 : UInt8), (45 : UInt8), (50 :
  UInt8), (10 : UInt8), (115 : UInt8), (116 : UInt8), (32 : UInt8), (114 : UInt8), (50 : UInt8), (32 : UInt8), (114 : UInt8), (48 : UInt8), (32 : UInt8), (56 : UInt8), (10 : UInt8)]).toArray) ∧ (asmOk (ByteArray.mk ([(108
  : UInt8), (105 : UInt8), (32 : UInt8), (114 : UInt8), (49 : UInt8), (32 : UInt8), (51 : UInt8), (10 : UInt8), (108 : UInt8), (105 : UInt8), (32 : UInt8), (114 : UInt8), (50 : UInt8), (32 : UInt8), (48 : UInt8), (10 :
  UInt8), (97 : UInt8), (100 : UInt8), (100 : UInt8), (32 : UInt8), (114 : UInt8), (50 : UInt8), (32 : UInt8), (114 : UInt8), (50 : UInt8), (32 : UInt8), (114 : UInt8), (49 : UInt8), (10 : UInt8), (97 : UInt8), (100 :
  UInt8), (100 : UInt8), (105 : UInt8)].append [(32 : UInt8), (114 : UInt8), (49 : UInt8), (32 : UInt8), (114 : UInt8), (49 : UInt8), (32 : UInt8), (45 : UInt8), (49 : UInt8), (10 : UInt8), (98 : UInt8), (110 : UInt8),
  (101 : UInt8), (32 : UInt8), (114 : UInt8), (49 : UInt8), (32 : UInt8), (114 : UInt8), (48 : UInt8), (32 : UInt8), (45 : UInt8), (50 : UInt8), (10 : UInt8), (115 : UInt8), (116 : UInt8), (32 : UInt8), (114 : UInt8), (50
  : UInt8), (32 : UInt8), (114 : UInt8), (48 : UInt8), (32 : UInt8), (56 : UInt8), (10 : UInt8)]).toArray) → (asmN (ByteArray.mk ([(108 : UInt8), (105 : UInt8), (32 : UInt8), (114 : UInt8), (49 : UInt8), (32 : UInt8), (51
  : UInt8), (10 : UInt8), (108 : UInt8), (105 : UInt8), (32 : UInt8), (114 : UInt8), (50 : UInt8), (32 : UInt8), (48 : UInt8), (10 : UInt8), (97 : UInt8), (100 : UInt8), (100 : UInt8), (32 : UInt8), (114 : UInt8), (50 :
  UInt8), (32 : UInt8), (114 : UInt8), (50 : UInt8), (32 : UInt8), (114 : UInt8), (49 : UInt8), (10 : UInt8), (97 : UInt8), (100 : UInt8), (100 : UInt8), (105 : UInt8)].append [(32 : UInt8), (114 : UInt8), (49 : UInt8),
  (32 : UInt8), (114 : UInt8), (49 : UInt8), (32 : UInt8), (45 : UInt8), (49 : UInt8), (10 : UInt8), (98 : UInt8), (110 : UInt8), (101 : UInt8), (32 : UInt8), (114 : UInt8), (49 : UInt8), (32 : UInt8), (114 : UInt8), (48 :
  UInt8), (32 : UInt8), (45 : UInt8), (50 : UInt8), (10 : UInt8), (115 : UInt8), (116 : UInt8), (32 : UInt8), (114 : UInt8), (50 : UInt8), (32 : UInt8), (114 : UInt8), (48 : UInt8), (32 : UInt8), (56 : UInt8), (10 :
  UInt8)]).toArray) = (0 : Nat) → False) ∧ (¬asmN (ByteArray.mk ([(108 : UInt8), (105 : UInt8), (32 : UInt8), (114 : UInt8), (49 : UInt8), (32 : UInt8), (51 : UInt8), (10 : UInt8), (108 : UInt8), (105 : UInt8), (32 :
  UInt8), (114 : UInt8), (50 : UInt8), (32 : UInt8), (48 : UInt8), (10 : UInt8), (97 : UInt8), (100 : UInt8), (100 : UInt8), (32 : UInt8), (114 : UInt8), (50 : UInt8), (32 : UInt8), (114 : UInt8), (50 : UInt8), (32 :
  UInt8), (114 : UInt8), (49 : UInt8), (10 : UInt8), (97 : UInt8), (100 : UInt8), (100 : UInt8), (105 : UInt8)].append [(32 : UInt8), (114 : UInt8), (49 : UInt8), (32 : UInt8), (114 : UInt8), (49 : UInt8), (32 : UInt8),
  (45 : UInt8), (49 : UInt8), (10 : UInt8), (98 : UInt8), (110 : UInt8), (101 : UInt8), (32 : UInt8), (114 : UInt8), (49 : UInt8), (32 : UInt8), (114 : UInt8), (48 : UInt8), (32 : UInt8), (45 : UInt8), (50 : UInt8), (10 :
  UInt8), (115 : UInt8), (116 : UInt8), (32 : UInt8), (114 : UInt8), (50 : UInt8), (32 : UInt8), (114 : UInt8), (48 : UInt8), (32 : UInt8), (56 : UInt8), (10 : UInt8)]).toArray) = (0 : Nat) → ∀ (x : Nat), asmN
  (ByteArray.mk ([(108 : UInt8), (105 : UInt8), (32 : UInt8), (114 : UInt8), (49 : UInt8), (32 : UInt8), (51 : UInt8), (10 : UInt8), (108 : UInt8), (105 : UInt8), (32 : UInt8), (114 : UInt8), (50 : UInt8), (32 : UInt8),
  (48 : UInt8), (10 : UInt8), (97 : UInt8), (100 : UInt8), (100 : UInt8), (32 : UInt8), (114 : UInt8), (50 : UInt8), (32 : UInt8), (114 : UInt8), (50 : UInt8), (32 : UInt8), (114 : UInt8), (49 : UInt8), (10 : UInt8), (97 :
  UInt8), (100 : UInt8), (100 : UInt8), (105 : UInt8)].append [(32 : UInt8), (114 : UInt8), (49 : UInt8), (32 : UInt8), (114 : UInt8), (49 : UInt8), (32 : UInt8), (45 : UInt8), (49 : UInt8), (10 : UInt8), (98 : UInt8),
  (110 : UInt8), (101 : UInt8), (32 : UInt8), (114 : UInt8), (49 : UInt8), (32 : UInt8), (114 : UInt8), (48 : UInt8), (32 : UInt8), (45 : UInt8), (50 : UInt8), (10 : UInt8), (115 : UInt8), (116 : UInt8), (32 : UInt8), (114
  : UInt8), (50 : UInt8), (32 : UInt8), (114 : UInt8), (48 : UInt8), (32 : UInt8), (56 : UInt8), (10 : UInt8)]).toArray) ≤ x → (((((16 : Nat) = (16 : Nat) ∧ ∀ (j : Nat), j < (16 : Nat) → (0 : Int) = (0 : Int)) ∧ (0 : Int)
  = (0 : Int) ∧ True) ∧ (false = false ∧ True ∧ True ∧ (0 : Nat) = (0 : Nat) ∧ (24 : Nat) = (24 : Nat) ∧ x = x) ∧ (100 : Int) = (100 : Int) ∧ True) ∧ ((0 : Nat) ≤ x * (1 : Nat) ∧ (24 : Nat) = asmN (ByteArray.mk ([(108 :
  UInt8), (105 : UInt8), (32 : UInt8), (114 : UInt8), (49 : UInt8), (32 : UInt8), (51 : UInt8), (10 : UInt8), (108 : UInt8), (105 : UInt8), (32 : UInt8), (114 : UInt8), (50 : UInt8), (32 : UInt8), (48 : UInt8), (10 :
  UInt8), (97 : UInt8), (100 : UInt8), (100 : UInt8), (32 : UInt8), (114 : UInt8), (50 : UInt8), (32 : UInt8), (114 : UInt8), (50 : UInt8), (32 : UInt8), (114 : UInt8), (49 : UInt8), (10 : UInt8), (97 : UInt8), (100 :
  UInt8), (100 : UInt8), (105 : UInt8)].append [(32 : UInt8), (114 : UInt8), (49 : UInt8), (32 : UInt8), (114 : UInt8), (49 : UInt8), (32 : UInt8), (45 : UInt8), (49 : UInt8), (10 : UInt8), (98 : UInt8), (110 : UInt8),
  (101 : UInt8), (32 : UInt8), (114 : UInt8), (49 : UInt8), (32 : UInt8), (114 : UInt8), (48 : UInt8), (32 : UInt8), (45 : UInt8), (50 : UInt8), (10 : UInt8), (115 : UInt8), (116 : UInt8), (32 : UInt8), (114 : UInt8), (50
  : UInt8), (32 : UInt8), (114 : UInt8), (48 : UInt8), (32 : UInt8), (56 : UInt8), (10 : UInt8)]).toArray) ∧ ∀ (j : Nat), j < asmN (ByteArray.mk ([(108 : UInt8), (105 : UInt8), (32 : UInt8), (114 : UInt8), (49 : UInt8),
  (32 : UInt8), (51 : UInt8), (10 : UInt8), (108 : UInt8), (105 : UInt8), (32 : UInt8), (114 : UInt8), (50 : UInt8), (32 : UInt8), (48 : UInt8), (10 : UInt8), (97 : UInt8), (100 : UInt8), (100 : UInt8), (32 : UInt8), (114
  : UInt8), (50 : UInt8), (32 : UInt8), (114 : UInt8), (50 : UInt8), (32 : UInt8), (114 : UInt8), (49 : UInt8), (10 : UInt8), (97 : UInt8), (100 : UInt8), (100 : UInt8), (105 : UInt8)].append [(32 : UInt8), (114 : UInt8),
  (49 : UInt8), (32 : UInt8), (114 : UInt8), (49 : UInt8), (32 : UInt8), (45 : UInt8), (49 : UInt8), (10 : UInt8), (98 : UInt8), (110 : UInt8), (101 : UInt8), (32 : UInt8), (114 : UInt8), (49 : UInt8), (32 : UInt8), (114 :
  UInt8), (48 : UInt8), (32 : UInt8), (45 : UInt8), (50 : UInt8), (10 : UInt8), (115 : UInt8), (116 : UInt8), (32 : UInt8), (114 : UInt8), (50 : UInt8), (32 : UInt8), (114 : UInt8), (48 : UInt8), (32 : UInt8), (56 :
  UInt8), (10 : UInt8)]).toArray) → asmB (ByteArray.mk ([(108 : UInt8), (105 : UInt8), (32 : UInt8), (114 : UInt8), (49 : UInt8), (32 : UInt8), (51 : UInt8), (10 : UInt8), (108 : UInt8), (105 : UInt8), (32 : UInt8), (114 :
  UInt8), (50 : UInt8), (32 : UInt8), (48 : UInt8), (10 : UInt8), (97 : UInt8), (100 : UInt8), (100 : UInt8), (32 : UInt8), (114 : UInt8), (50 : UInt8), (32 : UInt8), (114 : UInt8), (50 : UInt8), (32 : UInt8), (114 :
  UInt8), (49 : UInt8), (10 : UInt8), (97 : UInt8), (100 : UInt8), (100 : UInt8), (105 : UInt8)].append [(32 : UInt8), (114 : UInt8), (49 : UInt8), (32 : UInt8), (114 : UInt8), (49 : UInt8), (32 : UInt8), (45 : UInt8), (49
  : UInt8), (10 : UInt8), (98 : UInt8), (110 : UInt8), (101 : UInt8), (32 : UInt8), (114 : UInt8), (49 : UInt8), (32 : UInt8), (114 : UInt8), (48 : UInt8), (32 : UInt8), (45 : UInt8), (50 : UInt8), (10 : UInt8), (115 :
  UInt8), (116 : UInt8), (32 : UInt8), (114 : UInt8), (50 : UInt8), (32 : UInt8), (114 : UInt8), (48 : UInt8), (32 : UInt8), (56 : UInt8), (10 : UInt8)]).toArray) j = asmB (ByteArray.mk ([(108 : UInt8), (105 : UInt8), (32
  : UInt8), (114 : UInt8), (49 : UInt8), (32 : UInt8), (51 : UInt8), (10 : UInt8), (108 : UInt8), (105 : UInt8), (32 : UInt8), (114 : UInt8), (50 : UInt8), (32 : UInt8), (48 : UInt8), (10 : UInt8), (97 : UInt8), (100 :
  UInt8), (100 : UInt8), (32 : UInt8), (114 : UInt8), (50 : UInt8), (32 : UInt8), (114 : UInt8), (50 : UInt8), (32 : UInt8), (114 : UInt8), (49 : UInt8), (10 : UInt8), (97 : UInt8), (100 : UInt8), (100 : UInt8), (105 :
  UInt8)].append [(32 : UInt8), (114 : UInt8), (49 : UInt8), (32 : UInt8), (114 : UInt8), (49 : UInt8), (32 : UInt8), (45 : UInt8), (49 : UInt8), (10 : UInt8), (98 : UInt8), (110 : UInt8), (101 : UInt8), (32 : UInt8), (114
  : UInt8), (49 : UInt8), (32 : UInt8), (114 : UInt8), (48 : UInt8), (32 : UInt8), (45 : UInt8), (50 : UInt8), (10 : UInt8), (115 : UInt8), (116 : UInt8), (32 : UInt8), (114 : UInt8), (50 : UInt8), (32 : UInt8), (114 :
  UInt8), (48 : UInt8), (32 : UInt8), (56 : UInt8), (10 : UInt8)]).toArray) ((0 : Nat) + j)) ∧ True) ∧ ((AS.mk (fun (_ : Nat) => (0 : Int)) (0 : Int)).Ok ∧ (BS.mk false (24 : Nat) x fun (j : Nat) => asmB (ByteArray.mk
  ([(108 : UInt8), (105 : UInt8), (32 : UInt8), (114 : UInt8), (49 : UInt8), (32 : UInt8), (51 : UInt8), (10 : UInt8), (108 : UInt8), (105 : UInt8), (32 : UInt8), (114 : UInt8), (50 : UInt8), (32 : UInt8), (48 : UInt8),
  (10 : UInt8), (97 : UInt8), (100 : UInt8), (100 : UInt8), (32 : UInt8), (114 : UInt8), (50 : UInt8), (32 : UInt8), (114 : UInt8), (50 : UInt8), (32 : UInt8), (114 : UInt8), (49 : UInt8), (10 : UInt8), (97 : UInt8), (100
  : UInt8), (100 : UInt8), (105 : UInt8)].append [(32 : UInt8), (114 : UInt8), (49 : UInt8), (32 : UInt8), (114 : UInt8), (49 : UInt8), (32 : UInt8), (45 : UInt8), (49 : UInt8), (10 : UInt8), (98 : UInt8), (110 : UInt8),
  (101 : UInt8), (32 : UInt8), (114 : UInt8), (49 : UInt8), (32 : UInt8), (114 : UInt8), (48 : UInt8), (32 : UInt8), (45 : UInt8), (50 : UInt8), (10 : UInt8), (115 : UInt8), (116 : UInt8), (32 : UInt8), (114 : UInt8), (50
  : UInt8), (32 : UInt8), (114 : UInt8), (48 : UInt8), (32 : UInt8), (56 : UInt8), (10 : UInt8)]).toArray) ((0 : Nat) + j)).Ok ∧ (-9223372036854775808 : Int) ≤ (100 : Int) ∧ (100 : Int) < (9223372036854775808 : Int)) ∧ ∀
  (v : Int), v = (↑(RN.mk (AS.mk (fun (_ : Nat) => (0 : Int)) (0 : Int)) (BS.mk false (24 : Nat) x fun (j : Nat) => asmB (ByteArray.mk ([(108 : UInt8), (105 : UInt8), (32 : UInt8), (114 : UInt8), (49 : UInt8), (32 :
  UInt8), (51 : UInt8), (10 : UInt8), (108 : UInt8), (105 : UInt8), (32 : UInt8), (114 : UInt8), (50 : UInt8), (32 : UInt8), (48 : UInt8), (10 : UInt8), (97 : UInt8), (100 : UInt8), (100 : UInt8), (32 : UInt8), (114 :
  UInt8), (50 : UInt8), (32 : UInt8), (114 : UInt8), (50 : UInt8), (32 : UInt8), (114 : UInt8), (49 : UInt8), (10 : UInt8), (97 : UInt8), (100 : UInt8), (100 : UInt8), (105 : UInt8)].append [(32 : UInt8), (114 : UInt8),
  (49 : UInt8), (32 : UInt8), (114 : UInt8), (49 : UInt8), (32 : UInt8), (45 : UInt8), (49 : UInt8), (10 : UInt8), (98 : UInt8), (110 : UInt8), (101 : UInt8), (32 : UInt8), (114 : UInt8), (49 : UInt8), (32 : UInt8), (114 :
  UInt8), (48 : UInt8), (32 : UInt8), (45 : UInt8), (50 : UInt8), (10 : UInt8), (115 : UInt8), (116 : UInt8), (32 : UInt8), (114 : UInt8), (50 : UInt8), (32 : UInt8), (114 : UInt8), (48 : UInt8), (32 : UInt8), (56 :
  UInt8), (10 : UInt8)]).toArray) ((0 : Nat) + j)) (100 : Int)).res.snd.snd : Int) → (((((16 : Nat) = (16 : Nat) ∧ ∀ (j : Nat), j < (16 : Nat) → (0 : Int) = (0 : Int)) ∧ (0 : Int) = (0 : Int) ∧ True) ∧ ((2 : Int) = (2 :
  Int) ∧ (4 : Int) = (4 : Int) ∧ (0 : Int) = (0 : Int) ∧ (0 : Int) = (0 : Int) ∧ True) ∧ (511 : Int) = (511 : Int) ∧ True) ∧ True) ∧ (((-9223372036854775808 : Int) ≤ (4 : Int) ∧ (4 : Int) < (9223372036854775808 : Int)) ∧
  (0 : Int) ≤ (511 : Int) ∧ (511 : Int) < (4294967296 : Int)) ∧ (((((16 : Nat) = (16 : Nat) ∧ ∀ (j : Nat), j < (16 : Nat) → (0 : Int) = (0 : Int)) ∧ (8 : Int) = (8 : Int) ∧ True) ∧ (28 : Int) = (28 : Int) ∧ True) ∧ True) ∧
  ((AS.mk (fun (_ : Nat) => (0 : Int)) (8 : Int)).Ok ∧ (0 : Int) ≤ (28 : Int) ∧ (28 : Int) < (4294967296 : Int)) ∧ ((0 : Int) ≤ (2 : Int) ∧ (2 : Int) < (↑(16 : Nat) : Int)) ∧ Int.toNat (2 : Int) < (16 : Nat) ∧ (((RN.mk
  (AS.mk (fun (_ : Nat) => (0 : Int)) (0 : Int)) (BS.mk false (24 : Nat) x fun (j : Nat) => asmB (ByteArray.mk ([(108 : UInt8), (105 : UInt8), (32 : UInt8), (114 : UInt8), (49 : UInt8), (32 : UInt8), (51 : UInt8), (10 :
  UInt8), (108 : UInt8), (105 : UInt8), (32 : UInt8), (114 : UInt8), (50 : UInt8), (32 : UInt8), (48 : UInt8), (10 : UInt8), (97 : UInt8), (100 : UInt8), (100 : UInt8), (32 : UInt8), (114 : UInt8), (50 : UInt8), (32 :
  UInt8), (114 : UInt8), (50 : UInt8), (32 : UInt8), (114 : UInt8), (49 : UInt8), (10 : UInt8), (97 : UInt8), (100 : UInt8), (100 : UInt8), (105 : UInt8)].append [(32 : UInt8), (114 : UInt8), (49 : UInt8), (32 : UInt8),
  (114 : UInt8), (49 : UInt8), (32 : UInt8), (45 : UInt8), (49 : UInt8), (10 : UInt8), (98 : UInt8), (110 : UInt8), (101 : UInt8), (32 : UInt8), (114 : UInt8), (49 : UInt8), (32 : UInt8), (114 : UInt8), (48 : UInt8), (32 :
  UInt8), (45 : UInt8), (50 : UInt8), (10 : UInt8), (115 : UInt8), (116 : UInt8), (32 : UInt8), (114 : UInt8), (50 : UInt8), (32 : UInt8), (114 : UInt8), (48 : UInt8), (32 : UInt8), (56 : UInt8), (10 : UInt8)]).toArray)
  ((0 : Nat) + j)) (100 : Int)).res.fst.R (Int.toNat (2 : Int)) == (6 : Int)) = true → (((RN.mk (AS.mk (fun (_ : Nat) => (0 : Int)) (0 : Int)) (BS.mk false (24 : Nat) x fun (j : Nat) => asmB (ByteArray.mk ([(108 : UInt8),
  (105 : UInt8), (32 : UInt8), (114 : UInt8), (49 : UInt8), (32 : UInt8), (51 : UInt8), (10 : UInt8), (108 : UInt8), (105 : UInt8), (32 : UInt8), (114 : UInt8), (50 : UInt8), (32 : UInt8), (48 : UInt8), (10 : UInt8), (97 :
  UInt8), (100 : UInt8), (100 : UInt8), (32 : UInt8), (114 : UInt8), (50 : UInt8), (32 : UInt8), (114 : UInt8), (50 : UInt8), (32 : UInt8), (114 : UInt8), (49 : UInt8), (10 : UInt8), (97 : UInt8), (100 : UInt8), (100 :
  UInt8), (105 : UInt8)].append [(32 : UInt8), (114 : UInt8), (49 : UInt8), (32 : UInt8), (114 : UInt8), (49 : UInt8), (32 : UInt8), (45 : UInt8), (49 : UInt8), (10 : UInt8), (98 : UInt8), (110 : UInt8), (101 : UInt8), (32
  : UInt8), (114 : UInt8), (49 : UInt8), (32 : UInt8), (114 : UInt8), (48 : UInt8), (32 : UInt8), (45 : UInt8), (50 : UInt8), (10 : UInt8), (115 : UInt8), (116 : UInt8), (32 : UInt8), (114 : UInt8), (50 : UInt8), (32 :
  UInt8), (114 : UInt8), (48 : UInt8), (32 : UInt8), (56 : UInt8), (10 : UInt8)]).toArray) ((0 : Nat) + j)) (100 : Int)).res.fst.pc == (24 : Int)) = true → (((RN.mk (AS.mk (fun (_ : Nat) => (0 : Int)) (0 : Int)) (BS.mk
  false (24 : Nat) x fun (j : Nat) => asmB (ByteArray.mk ([(108 : UInt8), (105 : UInt8), (32 : UInt8), (114 : UInt8), (49 : UInt8), (32 : UInt8), (51 : UInt8), (10 : UInt8), (108 : UInt8), (105 : UInt8), (32 : UInt8), (114
  : UInt8), (50 : UInt8), (32 : UInt8), (48 : UInt8), (10 : UInt8), (97 : UInt8), (100 : UInt8), (100 : UInt8), (32 : UInt8), (114 : UInt8), (50 : UInt8), (32 : UInt8), (114 : UInt8), (50 : UInt8), (32 : UInt8), (114 :
  UInt8), (49 : UInt8), (10 : UInt8), (97 : UInt8), (100 : UInt8), (100 : UInt8), (105 : UInt8)].append [(32 : UInt8), (114 : UInt8), (49 : UInt8), (32 : UInt8), (114 : UInt8), (49 : UInt8), (32 : UInt8), (45 : UInt8), (49
  : UInt8), (10 : UInt8), (98 : UInt8), (110 : UInt8), (101 : UInt8), (32 : UInt8), (114 : UInt8), (49 : UInt8), (32 : UInt8), (114 : UInt8), (48 : UInt8), (32 : UInt8), (45 : UInt8), (50 : UInt8), (10 : UInt8), (115 :
  UInt8), (116 : UInt8), (32 : UInt8), (114 : UInt8), (50 : UInt8), (32 : UInt8), (114 : UInt8), (48 : UInt8), (32 : UInt8), (56 : UInt8), (10 : UInt8)]).toArray) ((0 : Nat) + j)) (100 : Int)).res.snd.fst.kind == (3 :
  Int)) = true → (((RN.mk (AS.mk (fun (_ : Nat) => (0 : Int)) (0 : Int)) (BS.mk false (24 : Nat) x fun (j : Nat) => asmB (ByteArray.mk ([(108 : UInt8), (105 : UInt8), (32 : UInt8), (114 : UInt8), (49 : UInt8), (32 :
  UInt8), (51 : UInt8), (10 : UInt8), (108 : UInt8), (105 : UInt8), (32 : UInt8), (114 : UInt8), (50 : UInt8), (32 : UInt8), (48 : UInt8), (10 : UInt8), (97 : UInt8), (100 : UInt8), (100 : UInt8), (32 : UInt8), (114 :
  UInt8), (50 : UInt8), (32 : UInt8), (114 : UInt8), (50 : UInt8), (32 : UInt8), (114 : UInt8), (49 : UInt8), (10 : UInt8), (97 : UInt8), (100 : UInt8), (100 : UInt8), (105 : UInt8)].append [(32 : UInt8), (114 : UInt8),
  (49 : UInt8), (32 : UInt8), (114 : UInt8), (49 : UInt8), (32 : UInt8), (45 : UInt8), (49 : UInt8), (10 : UInt8), (98 : UInt8), (110 : UInt8), (101 : UInt8), (32 : UInt8), (114 : UInt8), (49 : UInt8), (32 : UInt8), (114 :
  UInt8), (48 : UInt8), (32 : UInt8), (45 : UInt8), (50 : UInt8), (10 : UInt8), (115 : UInt8), (116 : UInt8), (32 : UInt8), (114 : UInt8), (50 : UInt8), (32 : UInt8), (114 : UInt8), (48 : UInt8), (32 : UInt8), (56 :
  UInt8), (10 : UInt8)]).toArray) ((0 : Nat) + j)) (100 : Int)).res.snd.fst.addr == (8 : Int)) = true → (((RN.mk (AS.mk (fun (_ : Nat) => (0 : Int)) (0 : Int)) (BS.mk false (24 : Nat) x fun (j : Nat) => asmB (ByteArray.mk
  ([(108 : UInt8), (105 : UInt8), (32 : UInt8), (114 : UInt8), (49 : UInt8), (32 : UInt8), (51 : UInt8), (10 : UInt8), (108 : UInt8), (105 : UInt8), (32 : UInt8), (114 : UInt8), (50 : UInt8), (32 : UInt8), (48 : UInt8),
  (10 : UInt8), (97 : UInt8), (100 : UInt8), (100 : UInt8), (32 : UInt8), (114 : UInt8), (50 : UInt8), (32 : UInt8), (114 : UInt8), (50 : UInt8), (32 : UInt8), (114 : UInt8), (49 : UInt8), (10 : UInt8), (97 : UInt8), (100
  : UInt8), (100 : UInt8), (105 : UInt8)].append [(32 : UInt8), (114 : UInt8), (49 : UInt8), (32 : UInt8), (114 : UInt8), (49 : UInt8), (32 : UInt8), (45 : UInt8), (49 : UInt8), (10 : UInt8), (98 : UInt8), (110 : UInt8),
  (101 : UInt8), (32 : UInt8), (114 : UInt8), (49 : UInt8), (32 : UInt8), (114 : UInt8), (48 : UInt8), (32 : UInt8), (45 : UInt8), (50 : UInt8), (10 : UInt8), (115 : UInt8), (116 : UInt8), (32 : UInt8), (114 : UInt8), (50
  : UInt8), (32 : UInt8), (114 : UInt8), (48 : UInt8), (32 : UInt8), (56 : UInt8), (10 : UInt8)]).toArray) ((0 : Nat) + j)) (100 : Int)).res.snd.fst.value == (6 : Int)) = true → ((v == (11 : Int)) = true → ((0 : Int) ≤ (4
  : Int) ∧ (4 : Int) < (↑(16 : Nat) : Int)) ∧ Int.toNat (4 : Int) < (16 : Nat) ∧ (((doneA (AS.mk (fun (_ : Nat) => (0 : Int)) (0 : Int)) (2 : Int) (4 : Int) (511 : Int)).R (Int.toNat (4 : Int)) == (255 : Int)) = true →
  ((stepE (AS.mk (fun (_ : Nat) => (0 : Int)) (8 : Int)) (28 : Int)).kind == (12 : Int)) = true ∧ True ∧ True) ∧ (((doneA (AS.mk (fun (_ : Nat) => (0 : Int)) (0 : Int)) (2 : Int) (4 : Int) (511 : Int)).R (Int.toNat (4 :
  Int)) == (255 : Int)) = false → False ∧ True ∧ True)) ∧ ((v == (11 : Int)) = false → False ∧ True ∧ True)) ∧ (((RN.mk (AS.mk (fun (_ : Nat) => (0 : Int)) (0 : Int)) (BS.mk false (24 : Nat) x fun (j : Nat) => asmB
  (ByteArray.mk ([(108 : UInt8), (105 : UInt8), (32 : UInt8), (114 : UInt8), (49 : UInt8), (32 : UInt8), (51 : UInt8), (10 : UInt8), (108 : UInt8), (105 : UInt8), (32 : UInt8), (114 : UInt8), (50 : UInt8), (32 : UInt8),
  (48 : UInt8), (10 : UInt8), (97 : UInt8), (100 : UInt8), (100 : UInt8), (32 : UInt8), (114 : UInt8), (50 : UInt8), (32 : UInt8), (114 : UInt8), (50 : UInt8), (32 : UInt8), (114 : UInt8), (49 : UInt8), (10 : UInt8), (97 :
  UInt8), (100 : UInt8), (100 : UInt8), (105 : UInt8)].append [(32 : UInt8), (114 : UInt8), (49 : UInt8), (32 : UInt8), (114 : UInt8), (49 : UInt8), (32 : UInt8), (45 : UInt8), (49 : UInt8), (10 : UInt8), (98 : UInt8),
  (110 : UInt8), (101 : UInt8), (32 : UInt8), (114 : UInt8), (49 : UInt8), (32 : UInt8), (114 : UInt8), (48 : UInt8), (32 : UInt8), (45 : UInt8), (50 : UInt8), (10 : UInt8), (115 : UInt8), (116 : UInt8), (32 : UInt8), (114
  : UInt8), (50 : UInt8), (32 : UInt8), (114 : UInt8), (48 : UInt8), (32 : UInt8), (56 : UInt8), (10 : UInt8)]).toArray) ((0 : Nat) + j)) (100 : Int)).res.snd.fst.value == (6 : Int)) = false → False ∧ True ∧ True)) ∧
  (((RN.mk (AS.mk (fun (_ : Nat) => (0 : Int)) (0 : Int)) (BS.mk false (24 : Nat) x fun (j : Nat) => asmB (ByteArray.mk ([(108 : UInt8), (105 : UInt8), (32 : UInt8), (114 : UInt8), (49 : UInt8), (32 : UInt8), (51 : UInt8),
  (10 : UInt8), (108 : UInt8), (105 : UInt8), (32 : UInt8), (114 : UInt8), (50 : UInt8), (32 : UInt8), (48 : UInt8), (10 : UInt8), (97 : UInt8), (100 : UInt8), (100 : UInt8), (32 : UInt8), (114 : UInt8), (50 : UInt8), (32
  : UInt8), (114 : UInt8), (50 : UInt8), (32 : UInt8), (114 : UInt8), (49 : UInt8), (10 : UInt8), (97 : UInt8), (100 : UInt8), (100 : UInt8), (105 : UInt8)].append [(32 : UInt8), (114 : UInt8), (49 : UInt8), (32 : UInt8),
  (114 : UInt8), (49 : UInt8), (32 : UInt8), (45 : UInt8), (49 : UInt8), (10 : UInt8), (98 : UInt8), (110 : UInt8), (101 : UInt8), (32 : UInt8), (114 : UInt8), (49 : UInt8), (32 : UInt8), (114 : UInt8), (48 : UInt8), (32 :
  UInt8), (45 : UInt8), (50 : UInt8), (10 : UInt8), (115 : UInt8), (116 : UInt8), (32 : UInt8), (114 : UInt8), (50 : UInt8), (32 : UInt8), (114 : UInt8), (48 : UInt8), (32 : UInt8), (56 : UInt8), (10 : UInt8)]).toArray)
  ((0 : Nat) + j)) (100 : Int)).res.snd.fst.addr == (8 : Int)) = false → False ∧ True ∧ True)) ∧ (((RN.mk (AS.mk (fun (_ : Nat) => (0 : Int)) (0 : Int)) (BS.mk false (24 : Nat) x fun (j : Nat) => asmB (ByteArray.mk ([(108
  : UInt8), (105 : UInt8), (32 : UInt8), (114 : UInt8), (49 : UInt8), (32 : UInt8), (51 : UInt8), (10 : UInt8), (108 : UInt8), (105 : UInt8), (32 : UInt8), (114 : UInt8), (50 : UInt8), (32 : UInt8), (48 : UInt8), (10 :
  UInt8), (97 : UInt8), (100 : UInt8), (100 : UInt8), (32 : UInt8), (114 : UInt8), (50 : UInt8), (32 : UInt8), (114 : UInt8), (50 : UInt8), (32 : UInt8), (114 : UInt8), (49 : UInt8), (10 : UInt8), (97 : UInt8), (100 :
  UInt8), (100 : UInt8), (105 : UInt8)].append [(32 : UInt8), (114 : UInt8), (49 : UInt8), (32 : UInt8), (114 : UInt8), (49 : UInt8), (32 : UInt8), (45 : UInt8), (49 : UInt8), (10 : UInt8), (98 : UInt8), (110 : UInt8),
  (101 : UInt8), (32 : UInt8), (114 : UInt8), (49 : UInt8), (32 : UInt8), (114 : UInt8), (48 : UInt8), (32 : UInt8), (45 : UInt8), (50 : UInt8), (10 : UInt8), (115 : UInt8), (116 : UInt8), (32 : UInt8), (114 : UInt8), (50
  : UInt8), (32 : UInt8), (114 : UInt8), (48 : UInt8), (32 : UInt8), (56 : UInt8), (10 : UInt8)]).toArray) ((0 : Nat) + j)) (100 : Int)).res.snd.fst.kind == (3 : Int)) = false → False ∧ True ∧ True)) ∧ (((RN.mk (AS.mk (fun
  (_ : Nat) => (0 : Int)) (0 : Int)) (BS.mk false (24 : Nat) x fun (j : Nat) => asmB (ByteArray.mk ([(108 : UInt8), (105 : UInt8), (32 : UInt8), (114 : UInt8), (49 : UInt8), (32 : UInt8), (51 : UInt8), (10 : UInt8), (108 :
  UInt8), (105 : UInt8), (32 : UInt8), (114 : UInt8), (50 : UInt8), (32 : UInt8), (48 : UInt8), (10 : UInt8), (97 : UInt8), (100 : UInt8), (100 : UInt8), (32 : UInt8), (114 : UInt8), (50 : UInt8), (32 : UInt8), (114 :
  UInt8), (50 : UInt8), (32 : UInt8), (114 : UInt8), (49 : UInt8), (10 : UInt8), (97 : UInt8), (100 : UInt8), (100 : UInt8), (105 : UInt8)].append [(32 : UInt8), (114 : UInt8), (49 : UInt8), (32 : UInt8), (114 : UInt8),
  (49 : UInt8), (32 : UInt8), (45 : UInt8), (49 : UInt8), (10 : UInt8), (98 : UInt8), (110 : UInt8), (101 : UInt8), (32 : UInt8), (114 : UInt8), (49 : UInt8), (32 : UInt8), (114 : UInt8), (48 : UInt8), (32 : UInt8), (45 :
  UInt8), (50 : UInt8), (10 : UInt8), (115 : UInt8), (116 : UInt8), (32 : UInt8), (114 : UInt8), (50 : UInt8), (32 : UInt8), (114 : UInt8), (48 : UInt8), (32 : UInt8), (56 : UInt8), (10 : UInt8)]).toArray) ((0 : Nat) + j))
  (100 : Int)).res.fst.pc == (24 : Int)) = false → False ∧ True ∧ True)) ∧ (((RN.mk (AS.mk (fun (_ : Nat) => (0 : Int)) (0 : Int)) (BS.mk false (24 : Nat) x fun (j : Nat) => asmB (ByteArray.mk ([(108 : UInt8), (105 :
  UInt8), (32 : UInt8), (114 : UInt8), (49 : UInt8), (32 : UInt8), (51 : UInt8), (10 : UInt8), (108 : UInt8), (105 : UInt8), (32 : UInt8), (114 : UInt8), (50 : UInt8), (32 : UInt8), (48 : UInt8), (10 : UInt8), (97 :
  UInt8), (100 : UInt8), (100 : UInt8), (32 : UInt8), (114 : UInt8), (50 : UInt8), (32 : UInt8), (114 : UInt8), (50 : UInt8), (32 : UInt8), (114 : UInt8), (49 : UInt8), (10 : UInt8), (97 : UInt8), (100 : UInt8), (100 :
  UInt8), (105 : UInt8)].append [(32 : UInt8), (114 : UInt8), (49 : UInt8), (32 : UInt8), (114 : UInt8), (49 : UInt8), (32 : UInt8), (45 : UInt8), (49 : UInt8), (10 : UInt8), (98 : UInt8), (110 : UInt8), (101 : UInt8), (32
  : UInt8), (114 : UInt8), (49 : UInt8), (32 : UInt8), (114 : UInt8), (48 : UInt8), (32 : UInt8), (45 : UInt8), (50 : UInt8), (10 : UInt8), (115 : UInt8), (116 : UInt8), (32 : UInt8), (114 : UInt8), (50 : UInt8), (32 :
  UInt8), (114 : UInt8), (48 : UInt8), (32 : UInt8), (56 : UInt8), (10 : UInt8)]).toArray) ((0 : Nat) + j)) (100 : Int)).res.fst.R (Int.toNat (2 : Int)) == (6 : Int)) = false → False ∧ True ∧ True))) ∧ (¬asmOk
  (ByteArray.mk ([(108 : UInt8), (105 : UInt8), (32 : UInt8), (114 : UInt8), (49 : UInt8), (32 : UInt8), (51 : UInt8), (10 : UInt8), (108 : UInt8), (105 : UInt8), (32 : UInt8), (114 : UInt8), (50 : UInt8), (32 : UInt8),
  (48 : UInt8), (10 : UInt8), (97 : UInt8), (100 : UInt8), (100 : UInt8), (32 : UInt8), (114 : UInt8), (50 : UInt8), (32 : UInt8), (114 : UInt8), (50 : UInt8), (32 : UInt8), (114 : UInt8), (49 : UInt8), (10 : UInt8), (97 :
  UInt8), (100 : UInt8), (100 : UInt8), (105 : UInt8)].append [(32 : UInt8), (114 : UInt8), (49 : UInt8), (32 : UInt8), (114 : UInt8), (49 : UInt8), (32 : UInt8), (45 : UInt8), (49 : UInt8), (10 : UInt8), (98 : UInt8),
  (110 : UInt8), (101 : UInt8), (32 : UInt8), (114 : UInt8), (49 : UInt8), (32 : UInt8), (114 : UInt8), (48 : UInt8), (32 : UInt8), (45 : UInt8), (50 : UInt8), (10 : UInt8), (115 : UInt8), (116 : UInt8), (32 : UInt8), (114
  : UInt8), (50 : UInt8), (32 : UInt8), (114 : UInt8), (48 : UInt8), (32 : UInt8), (56 : UInt8), (10 : UInt8)]).toArray) → False) := by
  simp only [true_and, and_true, eq_self, beq_iff_eq, beq_eq_false_iff_ne, implies_true, true_implies, and_self, ne_eq, Nat.zero_add]
  intro _
  refine ⟨asm1.1, fun _ => ⟨fun h => ?_, fun _ c hc => ?_⟩, fun h => absurd asm1.2.1 h⟩
  · have := asmN1
    have h : asmN text1 = 0 := h
    omega
  · have hcc : 24 ≤ c := by
      have h : asmN text1 ≤ c := hc
      rw [asmN1] at h
      exact h
    have okB : (⟨false, 24, c, fun j => asmB text1 j⟩ : BS).Ok := ⟨fun h => (nomatch h), show (24 : Nat) ≤ _ by decide, hcc, fun j hj => by
      have e : asmB text1 j = (codeL ins1)[j]?.getD 0 := congrFun asmB1 j
      show u8 (asmB text1 j)
      rw [e]
      exact bytes1 j hj⟩
    have ok0 : ∀ p, u32 p → (⟨fun _ => 0, p⟩ : AS).Ok := fun p hp => ⟨fun _ => (⟨by decide, by decide⟩ : u32 0), hp⟩
    have e : RN.res ⟨⟨fun _ => 0, 0⟩, ⟨false, 24, c, fun j => asmB text1 j⟩, 100⟩ = runA (code1 c) 100 0 as0 := by
      show runA ⟨false, 24, c, fun j => asmB text1 j⟩ _ 0 _ = _
      rw [asmB1]
      rfl
    obtain ⟨r1, r2, r3, r4⟩ := run1 c
    rw [← e] at r1 r2 r3 r4
    have d1 : (doneA ⟨fun _ => 0, 0⟩ 2 4 511).R 4 = 255 := by decide +kernel
    have d2 : (stepE ⟨fun _ => 0, 8⟩ 28).kind = 12 := by decide +kernel
    refine ⟨⟨Nat.zero_le _, asmN1.symm⟩, ⟨ok0 0 ⟨by decide, by decide⟩, okB, by decide, by decide⟩, fun v hv => ⟨⟨⟨by decide, by decide⟩, by decide, by decide⟩, ⟨ok0 8 ⟨by decide, by decide⟩, by decide, by decide⟩, ⟨by decide, by decide⟩, by decide, ?_⟩⟩
    have hv11 : v = 11 := by
      rw [hv]
      exact congrArg (fun n : Nat => (n : Int)) r4
    exact ⟨fun _ => ⟨fun _ => ⟨fun _ => ⟨fun _ => ⟨fun _ => ⟨fun _ => ⟨⟨by decide, by decide⟩, by decide, fun _ => d2, fun h => h d1⟩, fun h => h hv11⟩, fun h => h (congrArg EF.value r3)⟩, fun h => h (congrArg EF.addr r3)⟩, fun h => h (congrArg EF.kind r3)⟩, fun h => h r2⟩, fun h => h r1⟩

def alive_C (_ : Unit) : Cfg := { Γ := Go.Sx.look tAl, names := true }
theorem alive_al (x : Unit) : Shown (aliveP.vc Tryd.prog (alive_C x) Tryd.f7 x) := ⟨@Eq.mp _ _ (by kernel_rfl) (alive_vc x)⟩
theorem alive_ok : SpOk Tryd.prog 7 aliveP.sp := @Pat.okS _ aliveP Tryd.prog alive_C 7 Tryd.f7 (fun x => cfg_tab rfl tAl_ok) (by kernel_rfl) Tryd.func7 (fun _ => rfl) alive_al
end
end Go.Proofs.YtjofnajamlmllaaDoor
