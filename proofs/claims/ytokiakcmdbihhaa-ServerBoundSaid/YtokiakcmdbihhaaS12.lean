import Derived.Test.YtokiakcmdbihhaaS11
open Go Go.Sx Go.Proofs
set_option maxRecDepth 100000
namespace Go.Proofs.Ytokiakcmdbihhaa

def aliveP : Pat Unit where
  view | [], _ => some () | _, _ => none
  args _ := []
  H _ := []
  out _ := .retq .tt
def tAlive : Tab := [(9, altH isK1 (n1P.sp) (n2P.sp)), (13, altH isSpo (scP.sp) (sdcP.sp)), (14, altH isSpo (skP.sp) (sdkP.sp)), (15, altH isSpo (slP.sp) (sdlP.sp)), (12, altH isSpo (suP.sp) (sduP.sp)), (17, altH isSpo (snP.sp) (sdnP.sp)), (18, q1P.sp), (19, q2P.sp), (20, q3P.sp)]
theorem tAlive_ok : TabOk Try.prog tAlive := (tab_cons nA_ok (tab_cons scA_ok (tab_cons skA_ok (tab_cons slA_ok (tab_cons suA_ok (tab_cons snA_ok (tab_cons qq_ok (tab_cons qt_ok (tab_cons qk_ok tab_nil)))))))))

theorem alive_vc : ∀ (_ : Unit), True → (((1 : Int) = (1 : Int) ∧ (3 : Int) = (3 : Int) ∧ (10 : Int) = (10 : Int) ∧ (0 : Int) = (0 : Int) ∧ True) ∧ True) ∧ rngI (3 : Int) (10 : Int) (0 : Int) ∧ ∀ (x : CR), x.Ok ∧ x.L = [((0 : Int), (3 :
  Int))] → ∀ (v : Int), v = (0 : Int) → (((2 : Int) = (2 : Int) ∧ (3 : Int) = (3 : Int) ∧ (10 : Int) = (10 : Int) ∧ (0 : Int) = (0 : Int) ∧ True) ∧ True) ∧ rngI (3 : Int) (10 : Int) (0 : Int) ∧ ∀ (v_1 : Int), v_1 = (0 :
  Int) → ((v != (0 : Int)) = true → False ∧ True ∧ True) ∧ ((v != (0 : Int)) = false → ((v_1 != (0 : Int)) = true → False ∧ True ∧ True) ∧ ((v_1 != (0 : Int)) = false → (((True ∧ True) ∧ (4 : Int) = (4 : Int) ∧ (2 : Int) =
  (2 : Int) ∧ True) ∧ ((5 : Nat) ≤ (5 : Nat) ∧ ((3 : Int) = (3 : Int) ∧ (10 : Int) = (10 : Int) ∧ (0 : Int) = (0 : Int) ∧ True) ∧ (1 : Int) = (1 : Int) ∧ (True ∧ True) ∧ True) ∧ ((4 : Nat) ≤ (4 : Nat) ∧ ((3 : Int) = (3 :
  Int) ∧ (10 : Int) = (10 : Int) ∧ (0 : Int) = (0 : Int) ∧ True) ∧ (True ∧ True ∧ x.lo = x.lo ∧ x.len = x.len ∧ x.cap = x.cap) ∧ True) ∧ ((x.lo + x.cap) * (2 : Nat) ≤ (x.lo + x.cap) * (2 : Nat) ∧ x.N = x.N ∧ ∀ (j : Nat), j
  < x.N → x.a j = x.a j ∧ x.b j = x.b j ∧ True) ∧ True) ∧ ((SS.mk (3 : Int) (10 : Int) (0 : Int) (CR.mk x.lo x.len x.cap x.N (fun (j : Nat) => x.a j) fun (j : Nat) => x.b j)).Ok ∧ (0 : Int) ≤ (2 : Int)) ∧ ∀ (x_1 : CR),
  x_1.Ok ∧ x_1.L = chargeL (3 : Int) (10 : Int) (atI (0 : Int) (4 : Int)) (2 : Int) x.L → ∀ (v : Int), v = cI (3 : Int) (2 : Int) → (((True ∧ True) ∧ (4 : Int) = (4 : Int) ∧ True) ∧ ((5 : Nat) ≤ (5 : Nat) ∧ ((3 : Int) = (3
  : Int) ∧ (10 : Int) = (10 : Int) ∧ (0 : Int) = (0 : Int) ∧ True) ∧ (1 : Int) = (1 : Int) ∧ (True ∧ True) ∧ True) ∧ ((4 : Nat) ≤ (4 : Nat) ∧ ((3 : Int) = (3 : Int) ∧ (10 : Int) = (10 : Int) ∧ (0 : Int) = (0 : Int) ∧ True)
  ∧ (True ∧ True ∧ x_1.lo = x_1.lo ∧ x_1.len = x_1.len ∧ x_1.cap = x_1.cap) ∧ True) ∧ ((x_1.lo + x_1.cap) * (2 : Nat) ≤ (x_1.lo + x_1.cap) * (2 : Nat) ∧ x_1.N = x_1.N ∧ ∀ (j : Nat), j < x_1.N → x_1.a j = x_1.a j ∧ x_1.b j
  = x_1.b j ∧ True) ∧ True) ∧ (SS.mk (3 : Int) (10 : Int) (0 : Int) (CR.mk x_1.lo x_1.len x_1.cap x_1.N (fun (j : Nat) => x_1.a j) fun (j : Nat) => x_1.b j)).Ok ∧ ∀ (x_2 : CR), (x_2.Ok ∧ x_2.lo = (0 : Nat) ∧ x_2.len =
  x_1.len ∧ x_2.N = x_1.len) ∧ x_2.L = x_1.L → (((True ∧ True) ∧ (9 : Int) = (9 : Int) ∧ (5 : Int) = (5 : Int) ∧ True) ∧ ((5 : Nat) ≤ (5 : Nat) ∧ ((3 : Int) = (3 : Int) ∧ (10 : Int) = (10 : Int) ∧ (0 : Int) = (0 : Int) ∧
  True) ∧ (2 : Int) = (2 : Int) ∧ (True ∧ True) ∧ True) ∧ ((5 : Nat) ≤ (5 : Nat) ∧ ((3 : Int) = (3 : Int) ∧ (10 : Int) = (10 : Int) ∧ (0 : Int) = (0 : Int) ∧ True) ∧ (0 : Int) = (0 : Int) ∧ (0 : Int) = (0 : Int) ∧ True) ∧
  True) ∧ ((DS.mk (3 : Int) (10 : Int) (0 : Int) (0 : Int) (0 : Int)).Ok ∧ (0 : Int) ≤ (5 : Int)) ∧ ∀ (v_2 : Int), v_2 = (DS.mk (3 : Int) (10 : Int) (0 : Int) (0 : Int) (0 : Int)).chg (atI (0 : Int) (9 : Int)) (5 : Int) →
  (((True ∧ True) ∧ (10 : Int) = (10 : Int) ∧ (1 : Int) = (1 : Int) ∧ True) ∧ ((5 : Nat) ≤ (5 : Nat) ∧ (((DS.mk (3 : Int) (10 : Int) (0 : Int) (0 : Int) (0 : Int)).aft (atI (0 : Int) (9 : Int)) (5 : Int)).q = ((DS.mk (3 :
  Int) (10 : Int) (0 : Int) (0 : Int) (0 : Int)).aft (atI (0 : Int) (9 : Int)) (5 : Int)).q ∧ ((DS.mk (3 : Int) (10 : Int) (0 : Int) (0 : Int) (0 : Int)).aft (atI (0 : Int) (9 : Int)) (5 : Int)).t = ((DS.mk (3 : Int) (10 :
  Int) (0 : Int) (0 : Int) (0 : Int)).aft (atI (0 : Int) (9 : Int)) (5 : Int)).t ∧ ((DS.mk (3 : Int) (10 : Int) (0 : Int) (0 : Int) (0 : Int)).aft (atI (0 : Int) (9 : Int)) (5 : Int)).b = ((DS.mk (3 : Int) (10 : Int) (0 :
  Int) (0 : Int) (0 : Int)).aft (atI (0 : Int) (9 : Int)) (5 : Int)).b ∧ True) ∧ (2 : Int) = (2 : Int) ∧ (True ∧ True) ∧ True) ∧ ((5 : Nat) ≤ (5 : Nat) ∧ (((DS.mk (3 : Int) (10 : Int) (0 : Int) (0 : Int) (0 : Int)).aft
  (atI (0 : Int) (9 : Int)) (5 : Int)).q = ((DS.mk (3 : Int) (10 : Int) (0 : Int) (0 : Int) (0 : Int)).aft (atI (0 : Int) (9 : Int)) (5 : Int)).q ∧ ((DS.mk (3 : Int) (10 : Int) (0 : Int) (0 : Int) (0 : Int)).aft (atI (0 :
  Int) (9 : Int)) (5 : Int)).t = ((DS.mk (3 : Int) (10 : Int) (0 : Int) (0 : Int) (0 : Int)).aft (atI (0 : Int) (9 : Int)) (5 : Int)).t ∧ ((DS.mk (3 : Int) (10 : Int) (0 : Int) (0 : Int) (0 : Int)).aft (atI (0 : Int) (9 :
  Int)) (5 : Int)).b = ((DS.mk (3 : Int) (10 : Int) (0 : Int) (0 : Int) (0 : Int)).aft (atI (0 : Int) (9 : Int)) (5 : Int)).b ∧ True) ∧ ((DS.mk (3 : Int) (10 : Int) (0 : Int) (0 : Int) (0 : Int)).aft (atI (0 : Int) (9 :
  Int)) (5 : Int)).p = ((DS.mk (3 : Int) (10 : Int) (0 : Int) (0 : Int) (0 : Int)).aft (atI (0 : Int) (9 : Int)) (5 : Int)).p ∧ ((DS.mk (3 : Int) (10 : Int) (0 : Int) (0 : Int) (0 : Int)).aft (atI (0 : Int) (9 : Int)) (5 :
  Int)).g = ((DS.mk (3 : Int) (10 : Int) (0 : Int) (0 : Int) (0 : Int)).aft (atI (0 : Int) (9 : Int)) (5 : Int)).g ∧ True) ∧ True) ∧ (((DS.mk (3 : Int) (10 : Int) (0 : Int) (0 : Int) (0 : Int)).aft (atI (0 : Int) (9 :
  Int)) (5 : Int)).Ok ∧ (0 : Int) ≤ (1 : Int)) ∧ ∀ (v_3 : Int), v_3 = ((DS.mk (3 : Int) (10 : Int) (0 : Int) (0 : Int) (0 : Int)).aft (atI (0 : Int) (9 : Int)) (5 : Int)).chg (atI ((DS.mk (3 : Int) (10 : Int) (0 : Int) (0
  : Int) (0 : Int)).aft (atI (0 : Int) (9 : Int)) (5 : Int)).b (10 : Int)) (1 : Int) → (((True ∧ True) ∧ (4 : Int) = (4 : Int) ∧ True) ∧ ((5 : Nat) ≤ (5 : Nat) ∧ ((3 : Int) = (3 : Int) ∧ (10 : Int) = (10 : Int) ∧ (0 : Int)
  = (0 : Int) ∧ True) ∧ (1 : Int) = (1 : Int) ∧ (True ∧ True) ∧ True) ∧ ((4 : Nat) ≤ (4 : Nat) ∧ ((3 : Int) = (3 : Int) ∧ (10 : Int) = (10 : Int) ∧ (0 : Int) = (0 : Int) ∧ True) ∧ (True ∧ True ∧ x_1.lo = x_1.lo ∧ x_1.len =
  x_1.len ∧ x_1.cap = x_1.cap) ∧ True) ∧ ((x_1.lo + x_1.cap) * (2 : Nat) ≤ (x_1.lo + x_1.cap) * (2 : Nat) ∧ x_1.N = x_1.N ∧ ∀ (j : Nat), j < x_1.N → x_1.a j = x_1.a j ∧ x_1.b j = x_1.b j ∧ True) ∧ True) ∧ (SS.mk (3 : Int)
  (10 : Int) (0 : Int) (CR.mk x_1.lo x_1.len x_1.cap x_1.N (fun (j : Nat) => x_1.a j) fun (j : Nat) => x_1.b j)).Ok ∧ ∀ (v_4 : Int), (v_4 = if (0 : Int) < usL (atI (0 : Int) (4 : Int)) (CR.mk x_1.lo x_1.len x_1.cap x_1.N
  (fun (j : Nat) => x_1.a j) fun (j : Nat) => x_1.b j).L then (0 : Int) else fstD (CR.mk x_1.lo x_1.len x_1.cap x_1.N (fun (j : Nat) => x_1.a j) fun (j : Nat) => x_1.b j).L[(0 : Nat)]?) → (((True ∧ True) ∧ (4 : Int) = (4 :
  Int) ∧ (1 : Int) = (1 : Int) ∧ True) ∧ ((5 : Nat) ≤ (5 : Nat) ∧ ((3 : Int) = (3 : Int) ∧ (10 : Int) = (10 : Int) ∧ (0 : Int) = (0 : Int) ∧ True) ∧ (1 : Int) = (1 : Int) ∧ (True ∧ True) ∧ True) ∧ ((4 : Nat) ≤ (4 : Nat) ∧
  ((3 : Int) = (3 : Int) ∧ (10 : Int) = (10 : Int) ∧ (0 : Int) = (0 : Int) ∧ True) ∧ (True ∧ True ∧ x_1.lo = x_1.lo ∧ x_1.len = x_1.len ∧ x_1.cap = x_1.cap) ∧ True) ∧ ((x_1.lo + x_1.cap) * (2 : Nat) ≤ (x_1.lo + x_1.cap) *
  (2 : Nat) ∧ x_1.N = x_1.N ∧ ∀ (j : Nat), j < x_1.N → x_1.a j = x_1.a j ∧ x_1.b j = x_1.b j ∧ True) ∧ True) ∧ ((SS.mk (3 : Int) (10 : Int) (0 : Int) (CR.mk x_1.lo x_1.len x_1.cap x_1.N (fun (j : Nat) => x_1.a j) fun (j :
  Nat) => x_1.b j)).Ok ∧ (0 : Int) ≤ (1 : Int)) ∧ ∀ (x_3 : CR), x_3.Ok ∧ x_3.L = chargeL (3 : Int) (10 : Int) (atI (0 : Int) (4 : Int)) (1 : Int) (CR.mk x_1.lo x_1.len x_1.cap x_1.N (fun (j : Nat) => x_1.a j) fun (j : Nat)
  => x_1.b j).L → (((True ∧ True) ∧ (5 : Int) = (5 : Int) ∧ True) ∧ ((5 : Nat) ≤ (5 : Nat) ∧ ((3 : Int) = (3 : Int) ∧ (10 : Int) = (10 : Int) ∧ (0 : Int) = (0 : Int) ∧ True) ∧ (1 : Int) = (1 : Int) ∧ (True ∧ True) ∧ True)
  ∧ ((4 : Nat) ≤ (4 : Nat) ∧ ((3 : Int) = (3 : Int) ∧ (10 : Int) = (10 : Int) ∧ (0 : Int) = (0 : Int) ∧ True) ∧ (True ∧ True ∧ x_3.lo = x_3.lo ∧ x_3.len = x_3.len ∧ x_3.cap = x_3.cap) ∧ True) ∧ ((x_3.lo + x_3.cap) * (2 :
  Nat) ≤ (x_3.lo + x_3.cap) * (2 : Nat) ∧ x_3.N = x_3.N ∧ ∀ (j : Nat), j < x_3.N → x_3.a j = x_3.a j ∧ x_3.b j = x_3.b j ∧ True) ∧ True) ∧ (SS.mk (3 : Int) (10 : Int) (0 : Int) (CR.mk x_3.lo x_3.len x_3.cap x_3.N (fun (j :
  Nat) => x_3.a j) fun (j : Nat) => x_3.b j)).Ok ∧ ∀ (v_5 : Int), (v_5 = if (0 : Int) < usL (atI (0 : Int) (5 : Int)) x_3.L then (0 : Int) else fstD x_3.L[(0 : Nat)]?) → ((v == (2 : Int)) = true → (((↑x_2.len : Int) == (2
  : Int)) = true → ((0 : Int) ≤ (0 : Int) ∧ (0 : Int) < (↑x_2.len : Int)) ∧ x_2.lo + Int.toNat (0 : Int) < x_2.N ∧ ((x_2.a (x_2.lo + Int.toNat (0 : Int)) == (0 : Int) && (x_2.b (x_2.lo + Int.toNat (0 : Int)) == (1 : Int)
  && true)) = true → ((0 : Int) ≤ (1 : Int) ∧ (1 : Int) < (↑x_2.len : Int)) ∧ x_2.lo + Int.toNat (1 : Int) < x_2.N ∧ ((x_2.a (x_2.lo + Int.toNat (1 : Int)) == (10 : Int) && (x_2.b (x_2.lo + Int.toNat (1 : Int)) == (2 :
  Int) && true)) = true → ((v_2 == (3 : Int)) = true → ((v_3 == (1 : Int)) = true → (((True ∧ True) ∧ (10 : Int) = (10 : Int) ∧ True) ∧ ((5 : Nat) ≤ (5 : Nat) ∧ ((((DS.mk (3 : Int) (10 : Int) (0 : Int) (0 : Int) (0 :
  Int)).aft (atI (0 : Int) (9 : Int)) (5 : Int)).aft (atI ((DS.mk (3 : Int) (10 : Int) (0 : Int) (0 : Int) (0 : Int)).aft (atI (0 : Int) (9 : Int)) (5 : Int)).b (10 : Int)) (1 : Int)).q = (((DS.mk (3 : Int) (10 : Int) (0 :
  Int) (0 : Int) (0 : Int)).aft (atI (0 : Int) (9 : Int)) (5 : Int)).aft (atI ((DS.mk (3 : Int) (10 : Int) (0 : Int) (0 : Int) (0 : Int)).aft (atI (0 : Int) (9 : Int)) (5 : Int)).b (10 : Int)) (1 : Int)).q ∧ (((DS.mk (3 :
  Int) (10 : Int) (0 : Int) (0 : Int) (0 : Int)).aft (atI (0 : Int) (9 : Int)) (5 : Int)).aft (atI ((DS.mk (3 : Int) (10 : Int) (0 : Int) (0 : Int) (0 : Int)).aft (atI (0 : Int) (9 : Int)) (5 : Int)).b (10 : Int)) (1 :
  Int)).t = (((DS.mk (3 : Int) (10 : Int) (0 : Int) (0 : Int) (0 : Int)).aft (atI (0 : Int) (9 : Int)) (5 : Int)).aft (atI ((DS.mk (3 : Int) (10 : Int) (0 : Int) (0 : Int) (0 : Int)).aft (atI (0 : Int) (9 : Int)) (5 :
  Int)).b (10 : Int)) (1 : Int)).t ∧ (((DS.mk (3 : Int) (10 : Int) (0 : Int) (0 : Int) (0 : Int)).aft (atI (0 : Int) (9 : Int)) (5 : Int)).aft (atI ((DS.mk (3 : Int) (10 : Int) (0 : Int) (0 : Int) (0 : Int)).aft (atI (0 :
  Int) (9 : Int)) (5 : Int)).b (10 : Int)) (1 : Int)).b = (((DS.mk (3 : Int) (10 : Int) (0 : Int) (0 : Int) (0 : Int)).aft (atI (0 : Int) (9 : Int)) (5 : Int)).aft (atI ((DS.mk (3 : Int) (10 : Int) (0 : Int) (0 : Int) (0 :
  Int)).aft (atI (0 : Int) (9 : Int)) (5 : Int)).b (10 : Int)) (1 : Int)).b ∧ True) ∧ (2 : Int) = (2 : Int) ∧ (True ∧ True) ∧ True) ∧ ((5 : Nat) ≤ (5 : Nat) ∧ ((((DS.mk (3 : Int) (10 : Int) (0 : Int) (0 : Int) (0 :
  Int)).aft (atI (0 : Int) (9 : Int)) (5 : Int)).aft (atI ((DS.mk (3 : Int) (10 : Int) (0 : Int) (0 : Int) (0 : Int)).aft (atI (0 : Int) (9 : Int)) (5 : Int)).b (10 : Int)) (1 : Int)).q = (((DS.mk (3 : Int) (10 : Int) (0 :
  Int) (0 : Int) (0 : Int)).aft (atI (0 : Int) (9 : Int)) (5 : Int)).aft (atI ((DS.mk (3 : Int) (10 : Int) (0 : Int) (0 : Int) (0 : Int)).aft (atI (0 : Int) (9 : Int)) (5 : Int)).b (10 : Int)) (1 : Int)).q ∧ (((DS.mk (3 :
  Int) (10 : Int) (0 : Int) (0 : Int) (0 : Int)).aft (atI (0 : Int) (9 : Int)) (5 : Int)).aft (atI ((DS.mk (3 : Int) (10 : Int) (0 : Int) (0 : Int) (0 : Int)).aft (atI (0 : Int) (9 : Int)) (5 : Int)).b (10 : Int)) (1 :
  Int)).t = (((DS.mk (3 : Int) (10 : Int) (0 : Int) (0 : Int) (0 : Int)).aft (atI (0 : Int) (9 : Int)) (5 : Int)).aft (atI ((DS.mk (3 : Int) (10 : Int) (0 : Int) (0 : Int) (0 : Int)).aft (atI (0 : Int) (9 : Int)) (5 :
  Int)).b (10 : Int)) (1 : Int)).t ∧ (((DS.mk (3 : Int) (10 : Int) (0 : Int) (0 : Int) (0 : Int)).aft (atI (0 : Int) (9 : Int)) (5 : Int)).aft (atI ((DS.mk (3 : Int) (10 : Int) (0 : Int) (0 : Int) (0 : Int)).aft (atI (0 :
  Int) (9 : Int)) (5 : Int)).b (10 : Int)) (1 : Int)).b = (((DS.mk (3 : Int) (10 : Int) (0 : Int) (0 : Int) (0 : Int)).aft (atI (0 : Int) (9 : Int)) (5 : Int)).aft (atI ((DS.mk (3 : Int) (10 : Int) (0 : Int) (0 : Int) (0 :
  Int)).aft (atI (0 : Int) (9 : Int)) (5 : Int)).b (10 : Int)) (1 : Int)).b ∧ True) ∧ (((DS.mk (3 : Int) (10 : Int) (0 : Int) (0 : Int) (0 : Int)).aft (atI (0 : Int) (9 : Int)) (5 : Int)).aft (atI ((DS.mk (3 : Int) (10 :
  Int) (0 : Int) (0 : Int) (0 : Int)).aft (atI (0 : Int) (9 : Int)) (5 : Int)).b (10 : Int)) (1 : Int)).p = (((DS.mk (3 : Int) (10 : Int) (0 : Int) (0 : Int) (0 : Int)).aft (atI (0 : Int) (9 : Int)) (5 : Int)).aft (atI
  ((DS.mk (3 : Int) (10 : Int) (0 : Int) (0 : Int) (0 : Int)).aft (atI (0 : Int) (9 : Int)) (5 : Int)).b (10 : Int)) (1 : Int)).p ∧ (((DS.mk (3 : Int) (10 : Int) (0 : Int) (0 : Int) (0 : Int)).aft (atI (0 : Int) (9 : Int))
  (5 : Int)).aft (atI ((DS.mk (3 : Int) (10 : Int) (0 : Int) (0 : Int) (0 : Int)).aft (atI (0 : Int) (9 : Int)) (5 : Int)).b (10 : Int)) (1 : Int)).g = (((DS.mk (3 : Int) (10 : Int) (0 : Int) (0 : Int) (0 : Int)).aft (atI
  (0 : Int) (9 : Int)) (5 : Int)).aft (atI ((DS.mk (3 : Int) (10 : Int) (0 : Int) (0 : Int) (0 : Int)).aft (atI (0 : Int) (9 : Int)) (5 : Int)).b (10 : Int)) (1 : Int)).g ∧ True) ∧ True) ∧ (((DS.mk (3 : Int) (10 : Int) (0
  : Int) (0 : Int) (0 : Int)).aft (atI (0 : Int) (9 : Int)) (5 : Int)).aft (atI ((DS.mk (3 : Int) (10 : Int) (0 : Int) (0 : Int) (0 : Int)).aft (atI (0 : Int) (9 : Int)) (5 : Int)).b (10 : Int)) (1 : Int)).Ok ∧ (((((DS.mk
  (3 : Int) (10 : Int) (0 : Int) (0 : Int) (0 : Int)).aft (atI (0 : Int) (9 : Int)) (5 : Int)).aft (atI ((DS.mk (3 : Int) (10 : Int) (0 : Int) (0 : Int) (0 : Int)).aft (atI (0 : Int) (9 : Int)) (5 : Int)).b (10 : Int)) (1
  : Int)).us (atI (((DS.mk (3 : Int) (10 : Int) (0 : Int) (0 : Int) (0 : Int)).aft (atI (0 : Int) (9 : Int)) (5 : Int)).aft (atI ((DS.mk (3 : Int) (10 : Int) (0 : Int) (0 : Int) (0 : Int)).aft (atI (0 : Int) (9 : Int)) (5
  : Int)).b (10 : Int)) (1 : Int)).b (10 : Int)) == (2 : Int)) = true → (((True ∧ True) ∧ (10 : Int) = (10 : Int) ∧ True) ∧ ((5 : Nat) ≤ (5 : Nat) ∧ ((((DS.mk (3 : Int) (10 : Int) (0 : Int) (0 : Int) (0 : Int)).aft (atI (0
  : Int) (9 : Int)) (5 : Int)).aft (atI ((DS.mk (3 : Int) (10 : Int) (0 : Int) (0 : Int) (0 : Int)).aft (atI (0 : Int) (9 : Int)) (5 : Int)).b (10 : Int)) (1 : Int)).q = (((DS.mk (3 : Int) (10 : Int) (0 : Int) (0 : Int) (0
  : Int)).aft (atI (0 : Int) (9 : Int)) (5 : Int)).aft (atI ((DS.mk (3 : Int) (10 : Int) (0 : Int) (0 : Int) (0 : Int)).aft (atI (0 : Int) (9 : Int)) (5 : Int)).b (10 : Int)) (1 : Int)).q ∧ (((DS.mk (3 : Int) (10 : Int) (0
  : Int) (0 : Int) (0 : Int)).aft (atI (0 : Int) (9 : Int)) (5 : Int)).aft (atI ((DS.mk (3 : Int) (10 : Int) (0 : Int) (0 : Int) (0 : Int)).aft (atI (0 : Int) (9 : Int)) (5 : Int)).b (10 : Int)) (1 : Int)).t = (((DS.mk (3
  : Int) (10 : Int) (0 : Int) (0 : Int) (0 : Int)).aft (atI (0 : Int) (9 : Int)) (5 : Int)).aft (atI ((DS.mk (3 : Int) (10 : Int) (0 : Int) (0 : Int) (0 : Int)).aft (atI (0 : Int) (9 : Int)) (5 : Int)).b (10 : Int)) (1 :
  Int)).t ∧ (((DS.mk (3 : Int) (10 : Int) (0 : Int) (0 : Int) (0 : Int)).aft (atI (0 : Int) (9 : Int)) (5 : Int)).aft (atI ((DS.mk (3 : Int) (10 : Int) (0 : Int) (0 : Int) (0 : Int)).aft (atI (0 : Int) (9 : Int)) (5 :
  Int)).b (10 : Int)) (1 : Int)).b = (((DS.mk (3 : Int) (10 : Int) (0 : Int) (0 : Int) (0 : Int)).aft (atI (0 : Int) (9 : Int)) (5 : Int)).aft (atI ((DS.mk (3 : Int) (10 : Int) (0 : Int) (0 : Int) (0 : Int)).aft (atI (0 :
  Int) (9 : Int)) (5 : Int)).b (10 : Int)) (1 : Int)).b ∧ True) ∧ (2 : Int) = (2 : Int) ∧ (True ∧ True) ∧ True) ∧ ((5 : Nat) ≤ (5 : Nat) ∧ ((((DS.mk (3 : Int) (10 : Int) (0 : Int) (0 : Int) (0 : Int)).aft (atI (0 : Int) (9
  : Int)) (5 : Int)).aft (atI ((DS.mk (3 : Int) (10 : Int) (0 : Int) (0 : Int) (0 : Int)).aft (atI (0 : Int) (9 : Int)) (5 : Int)).b (10 : Int)) (1 : Int)).q = (((DS.mk (3 : Int) (10 : Int) (0 : Int) (0 : Int) (0 :
  Int)).aft (atI (0 : Int) (9 : Int)) (5 : Int)).aft (atI ((DS.mk (3 : Int) (10 : Int) (0 : Int) (0 : Int) (0 : Int)).aft (atI (0 : Int) (9 : Int)) (5 : Int)).b (10 : Int)) (1 : Int)).q ∧ (((DS.mk (3 : Int) (10 : Int) (0 :
  Int) (0 : Int) (0 : Int)).aft (atI (0 : Int) (9 : Int)) (5 : Int)).aft (atI ((DS.mk (3 : Int) (10 : Int) (0 : Int) (0 : Int) (0 : Int)).aft (atI (0 : Int) (9 : Int)) (5 : Int)).b (10 : Int)) (1 : Int)).t = (((DS.mk (3 :
  Int) (10 : Int) (0 : Int) (0 : Int) (0 : Int)).aft (atI (0 : Int) (9 : Int)) (5 : Int)).aft (atI ((DS.mk (3 : Int) (10 : Int) (0 : Int) (0 : Int) (0 : Int)).aft (atI (0 : Int) (9 : Int)) (5 : Int)).b (10 : Int)) (1 :
  Int)).t ∧ (((DS.mk (3 : Int) (10 : Int) (0 : Int) (0 : Int) (0 : Int)).aft (atI (0 : Int) (9 : Int)) (5 : Int)).aft (atI ((DS.mk (3 : Int) (10 : Int) (0 : Int) (0 : Int) (0 : Int)).aft (atI (0 : Int) (9 : Int)) (5 :
  Int)).b (10 : Int)) (1 : Int)).b = (((DS.mk (3 : Int) (10 : Int) (0 : Int) (0 : Int) (0 : Int)).aft (atI (0 : Int) (9 : Int)) (5 : Int)).aft (atI ((DS.mk (3 : Int) (10 : Int) (0 : Int) (0 : Int) (0 : Int)).aft (atI (0 :
  Int) (9 : Int)) (5 : Int)).b (10 : Int)) (1 : Int)).b ∧ True) ∧ (((DS.mk (3 : Int) (10 : Int) (0 : Int) (0 : Int) (0 : Int)).aft (atI (0 : Int) (9 : Int)) (5 : Int)).aft (atI ((DS.mk (3 : Int) (10 : Int) (0 : Int) (0 :
  Int) (0 : Int)).aft (atI (0 : Int) (9 : Int)) (5 : Int)).b (10 : Int)) (1 : Int)).p = (((DS.mk (3 : Int) (10 : Int) (0 : Int) (0 : Int) (0 : Int)).aft (atI (0 : Int) (9 : Int)) (5 : Int)).aft (atI ((DS.mk (3 : Int) (10 :
  Int) (0 : Int) (0 : Int) (0 : Int)).aft (atI (0 : Int) (9 : Int)) (5 : Int)).b (10 : Int)) (1 : Int)).p ∧ (((DS.mk (3 : Int) (10 : Int) (0 : Int) (0 : Int) (0 : Int)).aft (atI (0 : Int) (9 : Int)) (5 : Int)).aft (atI
  ((DS.mk (3 : Int) (10 : Int) (0 : Int) (0 : Int) (0 : Int)).aft (atI (0 : Int) (9 : Int)) (5 : Int)).b (10 : Int)) (1 : Int)).g = (((DS.mk (3 : Int) (10 : Int) (0 : Int) (0 : Int) (0 : Int)).aft (atI (0 : Int) (9 : Int))
  (5 : Int)).aft (atI ((DS.mk (3 : Int) (10 : Int) (0 : Int) (0 : Int) (0 : Int)).aft (atI (0 : Int) (9 : Int)) (5 : Int)).b (10 : Int)) (1 : Int)).g ∧ True) ∧ True) ∧ (((DS.mk (3 : Int) (10 : Int) (0 : Int) (0 : Int) (0 :
  Int)).aft (atI (0 : Int) (9 : Int)) (5 : Int)).aft (atI ((DS.mk (3 : Int) (10 : Int) (0 : Int) (0 : Int) (0 : Int)).aft (atI (0 : Int) (9 : Int)) (5 : Int)).b (10 : Int)) (1 : Int)).Ok ∧ (((((DS.mk (3 : Int) (10 : Int)
  (0 : Int) (0 : Int) (0 : Int)).aft (atI (0 : Int) (9 : Int)) (5 : Int)).aft (atI ((DS.mk (3 : Int) (10 : Int) (0 : Int) (0 : Int) (0 : Int)).aft (atI (0 : Int) (9 : Int)) (5 : Int)).b (10 : Int)) (1 : Int)).due (atI
  (((DS.mk (3 : Int) (10 : Int) (0 : Int) (0 : Int) (0 : Int)).aft (atI (0 : Int) (9 : Int)) (5 : Int)).aft (atI ((DS.mk (3 : Int) (10 : Int) (0 : Int) (0 : Int) (0 : Int)).aft (atI (0 : Int) (9 : Int)) (5 : Int)).b (10 :
  Int)) (1 : Int)).b (10 : Int)) == (20 : Int)) = true → ((!!decide ((0 : Int) < usL (atI (0 : Int) (4 : Int)) (CR.mk x_1.lo x_1.len x_1.cap x_1.N (fun (j : Nat) => x_1.a j) fun (j : Nat) => x_1.b j).L)) = true → ((v_4 ==
  (0 : Int)) = true → ((!decide ((0 : Int) < usL (atI (0 : Int) (5 : Int)) x_3.L)) = true → ((v_5 == (10 : Int)) = true → (((True ∧ True) ∧ (9 : Int) = (9 : Int) ∧ True) ∧ ((5 : Nat) ≤ (5 : Nat) ∧ ((3 : Int) = (3 : Int) ∧
  (10 : Int) = (10 : Int) ∧ (0 : Int) = (0 : Int) ∧ True) ∧ (1 : Int) = (1 : Int) ∧ (True ∧ True) ∧ True) ∧ ((4 : Nat) ≤ (4 : Nat) ∧ ((3 : Int) = (3 : Int) ∧ (10 : Int) = (10 : Int) ∧ (0 : Int) = (0 : Int) ∧ True) ∧ (True
  ∧ True ∧ x_3.lo = x_3.lo ∧ x_3.len = x_3.len ∧ x_3.cap = x_3.cap) ∧ True) ∧ ((x_3.lo + x_3.cap) * (2 : Nat) ≤ (x_3.lo + x_3.cap) * (2 : Nat) ∧ x_3.N = x_3.N ∧ ∀ (j : Nat), j < x_3.N → x_3.a j = x_3.a j ∧ x_3.b j = x_3.b
  j ∧ True) ∧ True) ∧ (SS.mk (3 : Int) (10 : Int) (0 : Int) (CR.mk x_3.lo x_3.len x_3.cap x_3.N (fun (j : Nat) => x_3.a j) fun (j : Nat) => x_3.b j)).Ok ∧ ((usL (atI (0 : Int) (9 : Int)) x_3.L == (0 : Int)) = true →
  (((True ∧ True) ∧ (10 : Int) = (10 : Int) ∧ True) ∧ ((5 : Nat) ≤ (5 : Nat) ∧ ((3 : Int) = (3 : Int) ∧ (10 : Int) = (10 : Int) ∧ (0 : Int) = (0 : Int) ∧ True) ∧ (1 : Int) = (1 : Int) ∧ (True ∧ True) ∧ True) ∧ ((4 : Nat) ≤
  (4 : Nat) ∧ ((3 : Int) = (3 : Int) ∧ (10 : Int) = (10 : Int) ∧ (0 : Int) = (0 : Int) ∧ True) ∧ (True ∧ True ∧ x_3.lo = x_3.lo ∧ x_3.len = x_3.len ∧ x_3.cap = x_3.cap) ∧ True) ∧ ((x_3.lo + x_3.cap) * (2 : Nat) ≤ (x_3.lo +
  x_3.cap) * (2 : Nat) ∧ x_3.N = x_3.N ∧ ∀ (j : Nat), j < x_3.N → x_3.a j = x_3.a j ∧ x_3.b j = x_3.b j ∧ True) ∧ True) ∧ (SS.mk (3 : Int) (10 : Int) (0 : Int) (CR.mk x_3.lo x_3.len x_3.cap x_3.N (fun (j : Nat) => x_3.a j)
  fun (j : Nat) => x_3.b j)).Ok ∧ ((usL (atI (0 : Int) (10 : Int)) x_3.L == (3 : Int)) = true → (((True ∧ True) ∧ True) ∧ ((5 : Nat) ≤ (5 : Nat) ∧ ((3 : Int) = (3 : Int) ∧ (10 : Int) = (10 : Int) ∧ (0 : Int) = (0 : Int) ∧
  True) ∧ (1 : Int) = (1 : Int) ∧ (True ∧ True) ∧ True) ∧ ((4 : Nat) ≤ (4 : Nat) ∧ ((3 : Int) = (3 : Int) ∧ (10 : Int) = (10 : Int) ∧ (0 : Int) = (0 : Int) ∧ True) ∧ (True ∧ True ∧ x_3.lo = x_3.lo ∧ x_3.len = x_3.len ∧
  x_3.cap = x_3.cap) ∧ True) ∧ ((x_3.lo + x_3.cap) * (2 : Nat) ≤ (x_3.lo + x_3.cap) * (2 : Nat) ∧ x_3.N = x_3.N ∧ ∀ (j : Nat), j < x_3.N → x_3.a j = x_3.a j ∧ x_3.b j = x_3.b j ∧ True) ∧ True) ∧ (((3 : Int) == (3 : Int)) =
  true → (((True ∧ True) ∧ True) ∧ ((5 : Nat) ≤ (5 : Nat) ∧ ((3 : Int) = (3 : Int) ∧ (10 : Int) = (10 : Int) ∧ (0 : Int) = (0 : Int) ∧ True) ∧ (1 : Int) = (1 : Int) ∧ (True ∧ True) ∧ True) ∧ ((4 : Nat) ≤ (4 : Nat) ∧ ((3 :
  Int) = (3 : Int) ∧ (10 : Int) = (10 : Int) ∧ (0 : Int) = (0 : Int) ∧ True) ∧ (True ∧ True ∧ x_3.lo = x_3.lo ∧ x_3.len = x_3.len ∧ x_3.cap = x_3.cap) ∧ True) ∧ ((x_3.lo + x_3.cap) * (2 : Nat) ≤ (x_3.lo + x_3.cap) * (2 :
  Nat) ∧ x_3.N = x_3.N ∧ ∀ (j : Nat), j < x_3.N → x_3.a j = x_3.a j ∧ x_3.b j = x_3.b j ∧ True) ∧ True) ∧ (((10 : Int) == (10 : Int)) = true → (((True ∧ True) ∧ True) ∧ ((5 : Nat) ≤ (5 : Nat) ∧ ((3 : Int) = (3 : Int) ∧ (10
  : Int) = (10 : Int) ∧ (0 : Int) = (0 : Int) ∧ True) ∧ (1 : Int) = (1 : Int) ∧ (True ∧ True) ∧ True) ∧ ((4 : Nat) ≤ (4 : Nat) ∧ ((3 : Int) = (3 : Int) ∧ (10 : Int) = (10 : Int) ∧ (0 : Int) = (0 : Int) ∧ True) ∧ (True ∧
  True ∧ x_3.lo = x_3.lo ∧ x_3.len = x_3.len ∧ x_3.cap = x_3.cap) ∧ True) ∧ ((x_3.lo + x_3.cap) * (2 : Nat) ≤ (x_3.lo + x_3.cap) * (2 : Nat) ∧ x_3.N = x_3.N ∧ ∀ (j : Nat), j < x_3.N → x_3.a j = x_3.a j ∧ x_3.b j = x_3.b j
  ∧ True) ∧ True) ∧ ((1 : Int) == (1 : Int)) = true ∧ True ∧ True) ∧ (((10 : Int) == (10 : Int)) = false → False ∧ True ∧ True)) ∧ (((3 : Int) == (3 : Int)) = false → False ∧ True ∧ True)) ∧ ((usL (atI (0 : Int) (10 :
  Int)) x_3.L == (3 : Int)) = false → False ∧ True ∧ True)) ∧ ((usL (atI (0 : Int) (9 : Int)) x_3.L == (0 : Int)) = false → False ∧ True ∧ True)) ∧ ((v_5 == (10 : Int)) = false → False ∧ True ∧ True)) ∧ ((!decide ((0 :
  Int) < usL (atI (0 : Int) (5 : Int)) x_3.L)) = false → False ∧ True ∧ True)) ∧ ((v_4 == (0 : Int)) = false → False ∧ True ∧ True)) ∧ ((!!decide ((0 : Int) < usL (atI (0 : Int) (4 : Int)) (CR.mk x_1.lo x_1.len x_1.cap
  x_1.N (fun (j : Nat) => x_1.a j) fun (j : Nat) => x_1.b j).L)) = false → False ∧ True ∧ True)) ∧ (((((DS.mk (3 : Int) (10 : Int) (0 : Int) (0 : Int) (0 : Int)).aft (atI (0 : Int) (9 : Int)) (5 : Int)).aft (atI ((DS.mk (3
  : Int) (10 : Int) (0 : Int) (0 : Int) (0 : Int)).aft (atI (0 : Int) (9 : Int)) (5 : Int)).b (10 : Int)) (1 : Int)).due (atI (((DS.mk (3 : Int) (10 : Int) (0 : Int) (0 : Int) (0 : Int)).aft (atI (0 : Int) (9 : Int)) (5 :
  Int)).aft (atI ((DS.mk (3 : Int) (10 : Int) (0 : Int) (0 : Int) (0 : Int)).aft (atI (0 : Int) (9 : Int)) (5 : Int)).b (10 : Int)) (1 : Int)).b (10 : Int)) == (20 : Int)) = false → False ∧ True ∧ True)) ∧ (((((DS.mk (3 :
  Int) (10 : Int) (0 : Int) (0 : Int) (0 : Int)).aft (atI (0 : Int) (9 : Int)) (5 : Int)).aft (atI ((DS.mk (3 : Int) (10 : Int) (0 : Int) (0 : Int) (0 : Int)).aft (atI (0 : Int) (9 : Int)) (5 : Int)).b (10 : Int)) (1 :
  Int)).us (atI (((DS.mk (3 : Int) (10 : Int) (0 : Int) (0 : Int) (0 : Int)).aft (atI (0 : Int) (9 : Int)) (5 : Int)).aft (atI ((DS.mk (3 : Int) (10 : Int) (0 : Int) (0 : Int) (0 : Int)).aft (atI (0 : Int) (9 : Int)) (5 :
  Int)).b (10 : Int)) (1 : Int)).b (10 : Int)) == (2 : Int)) = false → False ∧ True ∧ True)) ∧ ((v_3 == (1 : Int)) = false → False ∧ True ∧ True)) ∧ ((v_2 == (3 : Int)) = false → False ∧ True ∧ True)) ∧ ((x_2.a (x_2.lo +
  Int.toNat (1 : Int)) == (10 : Int) && (x_2.b (x_2.lo + Int.toNat (1 : Int)) == (2 : Int) && true)) = false → False ∧ True ∧ True)) ∧ ((x_2.a (x_2.lo + Int.toNat (0 : Int)) == (0 : Int) && (x_2.b (x_2.lo + Int.toNat (0 :
  Int)) == (1 : Int) && true)) = false → False ∧ True ∧ True)) ∧ (((↑x_2.len : Int) == (2 : Int)) = false → False ∧ True ∧ True)) ∧ ((v == (2 : Int)) = false → False ∧ True ∧ True))) := by
  simp only [true_and, and_true, eq_self, Nat.le_refl, decide_eq_true_eq, decide_eq_false_iff_not, beq_iff_eq, beq_eq_false_iff_ne, implies_true, true_implies, and_self, bne_iff_ne, Int.not_lt, ne_eq, bne_eq_false_iff_eq, Bool.not_eq_true', Bool.not_eq_false']
  intro _
  have r : rngI 3 10 0 := by decide
  refine ⟨r, fun x hx v hv => ⟨r, fun v1 hv1 => ⟨fun h => h hv, fun _ => ⟨fun h => h hv1, fun _ => ?_⟩⟩⟩⟩
  have q0 : QL 3 x.L := by rw [hx.2]; exact QL.new (by decide) (by decide) (by decide)
  have s0 : (⟨3, 10, 0, x⟩ : SS).Ok := SS.ok_of hx.1 q0 (by decide) (by decide) (by decide) (by decide) (by decide)
  refine ⟨⟨s0, by decide⟩, fun x1 hx1 w hw => ?_⟩
  have e1 : x1.L = [(0, 1), (10, 2)] := by rw [hx1.2, hx.2]; rfl
  have q1 : QL 3 x1.L := by rw [hx1.2]; exact q0.charge (by decide) (by decide) (by decide) (by decide) (by decide)
  have s1 : (⟨3, 10, 0, x1⟩ : SS).Ok := SS.ok_of hx1.1 q1 (by decide) (by decide) (by decide) (by decide) (by decide)
  have d0 : (⟨3, 10, 0, 0, 0⟩ : DS).Ok := DS.ok_new (by decide) (by decide) (by decide) (by decide) (by decide)
  refine ⟨s1, fun x2 hx2 => ⟨⟨d0, by decide⟩, fun w2 hw2 => ⟨⟨d0.aft (by decide), by decide⟩, fun w3 hw3 => ⟨s1, fun w4 hw4 => ⟨⟨s1, by decide⟩, fun x3 hx3 => ?_⟩⟩⟩⟩⟩
  have hx3' : x3.L = chargeL 3 10 (atI 0 4) 1 x1.L := hx3.2
  have e3 : x3.L = [(10, 3)] := by rw [hx3', e1]; rfl
  have q3 : QL 3 x3.L := by rw [hx3']; exact q1.charge (by decide) (by decide) (by decide) (by decide) (by decide)
  have s3 : (⟨3, 10, 0, x3⟩ : SS).Ok := SS.ok_of hx3.1 q3 (by decide) (by decide) (by decide) (by decide) (by decide)
  refine ⟨s3, fun w5 hw5 => ?_⟩
  obtain ⟨⟨y1, y2, y3, y4⟩, y5⟩ := hx2
  have e2 : x2.L = [(0, 1), (10, 2)] := y5.trans e1
  have l2 : x2.len = 2 := by rw [← CR.L_len, e2]; rfl
  have g0 := x2.L_get 0
  have g1 := x2.L_get 1
  rw [e2, if_pos (by omega)] at g0 g1
  simp only [List.getElem?_cons_zero, List.getElem?_cons_succ, Option.some.injEq, Prod.mk.injEq] at g0 g1
  have y6 := y1.1
  have u0 : Int.toNat (0 : Int) = 0 := rfl
  have u1 : Int.toNat (1 : Int) = 1 := rfl
  rw [u0, u1, ← g0.1, ← g0.2, ← g1.1, ← g1.2]
  clear hx1 hx3 hx3' q0 q1 q3 y5
  have hw' : w = 2 := hw
  have hw2' : w2 = 3 := hw2
  have hw3' : w3 = 1 := hw3
  have hw4' : w4 = 0 := by
    rw [hw4]
    show (if 0 < usL (atI 0 4) x1.L then 0 else fstD x1.L[0]?) = 0
    rw [e1]; rfl
  have hw5' : w5 = 10 := by rw [hw5, e3]; rfl
  have f1 : 0 < usL (atI 0 4) x1.L := by rw [e1]; decide
  have f2 : usL (atI 0 5) x3.L ≤ 0 := by rw [e3]; decide
  have f3 : usL (atI 0 9) x3.L = 0 := by rw [e3]; rfl
  have f4 : usL (atI 0 10) x3.L = 3 := by rw [e3]; rfl
  have dd := DS.Ok.aft (DS.Ok.aft d0 (n := atI 0 9) (c := 5) (by decide)) (n := atI 0 10) (c := 1) (by decide)
  have i4 : ¬↑x2.len = (2 : Int) → False := fun h => h (by omega)
  have i5 : usL (atI 0 4) x1.L ≤ 0 → False := fun h => by omega
  have i6 : 0 < usL (atI 0 5) x3.L → False := fun h => by omega
  exact ⟨fun _ => ⟨fun _ => ⟨by omega, by omega, fun _ => ⟨by omega, by omega, fun _ => ⟨fun _ => ⟨fun _ => ⟨dd, fun _ => ⟨dd, fun _ => ⟨fun _ => ⟨fun _ => ⟨fun _ => ⟨fun _ => ⟨s3, fun _ => ⟨s3, fun _ h => h trivial, fun h => h f4⟩, fun h => h f3⟩, fun h => h hw5'⟩, i6⟩, fun h => h hw4'⟩, i5⟩, fun h => h rfl⟩, fun h => h rfl⟩, fun h => h hw3'⟩, fun h => h hw2'⟩, fun h => by cases h⟩, fun h => by cases h⟩, i4⟩, fun h => h hw'⟩

def alive_C (_ : Unit) : Cfg := { Γ := Go.Sx.look tAlive, names := true }
theorem alive_al (x : Unit) : Shown (aliveP.vc Try.prog (alive_C x) Try.f8 x) := ⟨@Eq.mp _ _ (by kernel_rfl) (alive_vc x)⟩
theorem alive_ok : SpOk Try.prog 8 aliveP.sp := @Pat.okS _ aliveP Try.prog alive_C 8 Try.f8 (fun x => cfg_tab rfl tAlive_ok) (by kernel_rfl) Try.func8 (fun _ => rfl) alive_al
end Go.Proofs.Ytokiakcmdbihhaa
